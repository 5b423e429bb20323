/- Rows over diagrams: what an argument holds; that it reads behind the call as before. -/
import Derived.Test.YtffefegjnbfobaaRows
import Derived.Test.YtffefegjnbfobaaG
import Derived.ProofKit
import Derived.OpenShut
import Derived.Lib.SmallJoins
namespace Go.Proofs.Ytffefegjnbfobaa
open Go.Joins Go.ChangeShapes Go.WideShapes Go.ChangeAt Go.RowKit Go.Deep
open B

theorem rowOwn : ownKnob Try.prog.godebug = none := by kernel_rfl
theorem rowLaid : laidOutB Try.prog = true := by kernel_rfl
theorem cellsBdd : Try.prog.cellsOf 65 = 3 := by kernel_rfl
theorem cellsNode : Try.prog.cellsOf 135 = 3 := by kernel_rfl

theorem heap_of_cell {w : World} {a : Addr} {v : Value} (h : w.cell? a = some v) : a.block < w.heap.size := by
  rcases Nat.lt_or_ge a.block w.heap.size with hl | hl
  · exact hl
  · simp [World.cell?, Array.getElem?_eq_none hl] at h

variable {H : Type} {enc : TypeId × Value → H} {w : World} {base : Nat} {spare : Nat → Bool} {held : Bool}

set_option maxRecDepth 100000 in
theorem open_node {fuel : Nat} {cs : List Value} {x : DataW H × List MemPlace} (h : DataW.trod enc Try.prog w base spare held fuel 135 cs = some x) :
    ∃ n : Nd, cs = [.int .i64 n.v, .int .i64 n.lo, .int .i64 n.hi] := by
  obtain ⟨y0, y1, y2, n, -, hl, h0, h1, h2⟩ := trod_struct3 Try.underlying135 h
  rw [cellsNode] at hl
  obtain ⟨c0, c1, c2, rfl⟩ : ∃ c0 c1 c2, cs = [c0, c1, c2] := by
    match cs, hl with
    | [c0, c1, c2], _ => exact ⟨c0, c1, c2, rfl⟩
  have hc : Try.prog.cellsOf 3 = 1 := by kernel_rfl
  simp only [hc] at h0 h1 h2
  obtain ⟨a, e0, -, -⟩ := DataW.trod_int Try.underlying3 h0
  obtain ⟨b, e1, -, -⟩ := DataW.trod_int Try.underlying3 h1
  obtain ⟨c, e2, -, -⟩ := DataW.trod_int Try.underlying3 h2
  simp at e0 e1 e2
  subst e0 e1 e2
  exact ⟨⟨a, b, c⟩, rfl⟩


set_option maxRecDepth 100000 in
theorem open_nodes {fuel : Nat} {v : Value} {x : DataW H × List MemPlace} (h : DataW.trod enc Try.prog w base spare held fuel 63 [v] = some x) :
    ∃ (A : Option Addr) (cap : Nat) (ns : List Nd), v = .slice A ns.length cap ∧ NAt w A ns ∧ ns.length ≤ 9223372036854775807 := by
  rcases open_slice Try.underlying63 h with ⟨e, -⟩ | ⟨a, len, cap, m, n, D, Pl, e, hb, hl, hm, hmm, -, hi⟩
  · injection e with e _
    exact ⟨none, 0, [], e, fun h => absurd h (by simp), by simp⟩
  · injection e with e _
    subst e
    have hlm : len ≤ m := by rw [hmm]; split <;> omega
    obtain ⟨V, hV⟩ := choose_lt (n := len) (α := Nd) (p := fun i n => w.cell? (a.add (i * 3)) = some (.int .i64 n.v) ∧ w.cell? ((a.add (i * 3)).add 1) = some (.int .i64 n.lo) ∧ w.cell? ((a.add (i * 3)).add 2) = some (.int .i64 n.hi)) (fun i hil => by
      obtain ⟨cs', h1, h2⟩ := hi i (by omega)
      rw [cellsNode] at h1
      obtain ⟨nd, rfl⟩ := open_node h2
      obtain ⟨-, -, hc⟩ := World.cells?_some h1
      exact ⟨nd, by have := hc 0 (by omega); simpa [Addr.add] using this, by have := hc 1 (by omega); simpa using this, by have := hc 2 (by omega); simpa using this⟩)
    refine ⟨some a, cap, (List.range len).map V, by simp, fun hpos => ?_, by simp; unfold maxLen at hm; omega⟩
    rw [List.length_map, List.length_range] at hpos
    have hsp : a.spot = none := by
      have := (hV 0 hpos).1
      simpa [Addr.add] using World.cell?_spot this
    have hlt : a.block < w.heap.size := by
      have := (hV 0 hpos).1
      simpa [Addr.add] using heap_of_cell this
    obtain ⟨b, off, spot⟩ := a
    subst hsp
    have had : ∀ (o j : Nat), (⟨b, o, none⟩ : Addr).add j = ⟨b, o + j, none⟩ := fun o j => by unfold Addr.add; split <;> simp_all
    refine ⟨b, off, rfl, hlt, fun k nd hk => ?_⟩
    rw [List.getElem?_map] at hk
    rcases Nat.lt_or_ge k len with hkl | hkl
    · rw [List.getElem?_range hkl] at hk
      simp only [Option.map_some, Option.some.injEq] at hk
      subst hk
      have := hV k hkl
      simp only [had] at this
      exact this
    · rw [List.getElem?_eq_none (by simpa using hkl)] at hk
      cases hk


set_option maxRecDepth 100000 in
theorem open_bdd {r : Reach} {b0 : Nat} {v : Value} {d : DataW H} {p : List MemPlace} (hv : Value.okWide Try.prog w r b0 65 v) (h : DataW.Trod enc Try.prog w base spare held 65 v d p) :
    ∃ (V R : Int) (A : Option Addr) (cap : Nat) (ns : List Nd), v = .agg #[.int .i64 V, .slice A ns.length cap, .int .i64 R] ∧ NAt w A ns ∧ ns.length ≤ 9223372036854775807 := by
  obtain ⟨c0, c1, c2, y0, y1, y2, m, rfl, -, -, hy0, hy1, hy2⟩ := open_agg3 Try.underlying65 (by kernel_rfl) cellsBdd hv h
  obtain ⟨x, e0, -, -⟩ := DataW.trod_int Try.underlying3 hy0
  obtain ⟨f, e2, -, -⟩ := DataW.trod_int Try.underlying3 hy2
  simp at e0 e2
  subst e0 e2
  obtain ⟨A, cap, ns, rfl, hA, hn⟩ := open_nodes hy1
  exact ⟨x, f, A, cap, ns, rfl, hA, hn⟩
end Go.Proofs.Ytffefegjnbfobaa
