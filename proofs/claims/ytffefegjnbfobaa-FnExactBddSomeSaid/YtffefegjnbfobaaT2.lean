/- Small words that the makers' laws use; Grow's two sides are one. -/
import Derived.Test.YtffefegjnbfobaaQ2
import Derived.Test.YtffefegjnbfobaaPB
import Derived.Test.YtffefegjnbfobaaG
namespace Go.Proofs.Ytffefegjnbfobaa
open Go.RowKit
open B

theorem own_apart {w w' : World} {base' : Nat} {e : TypeId} {size n n' base : Nat} {v v' : Value} {xs xs' : List Value} (h : w.ownsRow base e size v n xs) (h' : w'.ownsRow base' e size v' n' xs') (hb : w.heap.size ≤ base') : v.ownBlock = none ∨ v.ownBlock ≠ v'.ownBlock := by
  cases hv : v.ownBlock with
  | none => exact .inl rfl
  | some b => exact .inr (own_low h' (by have := (h.lt b hv).2; omega))
theorem part_grown {w w' : World} {g k : Nat} {ns : List Nd} {row : Option Nat} (h : Part w g ns k) (hg : w.grownBy w' row) (hne : some g ≠ row) : Part w' g ns k := by
  obtain ⟨cs, hbl, r⟩ := h
  exact ⟨cs, hbl.grown hg hne, r⟩
theorem part_ne_blk {w : World} {g q k : Nat} {ns : List Nd} {t : TypeId} {cs : Array Value} (h : Part w g ns k) (hb : Blk w q t cs) (hne : 89 ≠ t) : g ≠ q := by
  rintro rfl
  obtain ⟨cs', hbl, -⟩ := h
  unfold Blk at hbl hb
  rw [hbl] at hb
  injection hb with hb
  injection hb with _ hb
  exact hne hb

theorem conv_grow (V R : Int) (ns : List Nd) (v : Int) {V' R' : Int} {ms : List Nd} {b : Bool} (h : MkV (OkS V ns R ∧ V ≤ v ∧ v ≤ 13) v (R, ns) V' R' ms b) : MkV (OkI V ns R ∧ V ≤ v ∧ v ≤ 13) v (mk v.toNat 0 (has ns R) []) V' R' ms b :=
  h.conv (by rw [okS_iff]) fun hp => ((okS_iff v ns R).1 (grow_ok hp.1 hp.2.1 hp.2.2)).2.symm
end Go.Proofs.Ytffefegjnbfobaa
