/- Rows over slices of bytes: what an argument holds. -/
import Derived.Test.YtffefegjnbfobaaRows
import Derived.Test.YtffefegjnbfobaaH
import Derived.ProofKit
import Derived.OpenShut
namespace Go.Proofs.Ytffefegjnbfobaa
open Go.ChangeShapes Go.WideShapes Go.ChangeAt Go.RowKit Go.Deep
open B

theorem rowOwn2 : ownKnob Try.prog.godebug = none := by kernel_rfl
theorem rowLaid2 : laidOutB Try.prog = true := by kernel_rfl
theorem cellsU8 : Try.prog.cellsOf 5 = 1 := by kernel_rfl

variable {H : Type} {enc : TypeId × Value → H} {w : World} {base : Nat} {spare : Nat → Bool} {held : Bool}

set_option maxRecDepth 100000 in
theorem open_bytes {r : Reach} {b0 : Nat} {v : Value} {d : DataW H} {p : List MemPlace} (hv : Value.okWide Try.prog w r b0 22 v) (h : DataW.Trod enc Try.prog w base spare held 22 v d p) :
    ∃ (A : Option Addr) (n cap : Nat), v = .slice A n cap ∧ BAt w A n ∧ n ≤ cap ∧ cap ≤ maxLen := by
  obtain ⟨a0, len, cap, rfl⟩ := okWide_slice Try.underlying22 hv
  obtain ⟨fuel, hf⟩ := h
  rcases open_ints Try.underlying22 Try.underlying5 cellsU8 hf with ⟨hcs, hx⟩ | ⟨a, len', cap', zs, hcs, _, hl, hm, hz, hx, hcell, hwz⟩
  · injection hcs with hcs _
    injection hcs with h1 h2 h3
    subst h1 h2 h3
    exact ⟨none, 0, 0, rfl, fun h => absurd h (by omega), by omega, by unfold maxLen; omega⟩
  · injection hcs with hcs _
    injection hcs with h1 h2 h3
    subst h1 h2 h3
    have hlz : len ≤ zs.length := by rw [hz]; split <;> omega
    refine ⟨some a, len, cap, rfl, fun hpos => ?_, hl, hm⟩
    have hc0 := hcell 0 (by omega)
    have hsp : a.spot = none := by simpa [Addr.add] using World.cell?_spot hc0
    have hlt : a.block < w.heap.size := by
      have := World.block_lt_of_cell? w _ hc0
      simpa [Addr.add] using this
    obtain ⟨b, off, spot⟩ := a
    subst hsp
    have had : ∀ (j : Nat), (⟨b, off, none⟩ : Addr).add j = ⟨b, off + j, none⟩ := fun j => by unfold Addr.add; split <;> simp_all
    have hr := range_u8 hwz
    refine ⟨b, off, rfl, hlt, fun j => zs.getD j 0, fun j hj => ⟨?_, ?_, ?_⟩⟩
    · rw [← had]; exact hcell j (by omega)
    · simpa [List.getD] using (hr j).1
    · simpa [List.getD] using (hr j).2
end Go.Proofs.Ytffefegjnbfobaa
