/- Walks: clone, table, diagram, same, BddOk of the program. -/
import Derived.Test.YtffefegjnbfobaaBuild
import Derived.Test.YtffefegjnbfobaaApp
namespace Go.Proofs.Ytffefegjnbfobaa
open Go.RowKit
open B

set_option maxRecDepth 100000 in
set_option maxHeartbeats 400000 in
theorem clone_any (V R : Int) (A : Option Addr) (c : Nat) (ns : List Nd) (w : World) (hs : ∀ W, Below w.heap.size w W → Src W A ns.length c (ncells ns)) (hn : ns.length ≤ 1048576) :
    Calls Try.prog 116 #[.agg #[.int .i64 V, .slice A ns.length c, .int .i64 R]] w fun e w' => ∃ A' c', e = .returned (.agg #[.int .i64 V, .slice A' ns.length c', .int .i64 R]) ∧
      w'.ownsRow w.heap.size 89 3 (.slice A' ns.length c') ns.length (ncells ns) ∧ Below w.heap.size w w' := by
  have HS := Lib.hid hs
  clear hs
  obtain ⟨i86, hi, hz0, hz1, hz2⟩ := info_parts info86
  go_enter Try.func116, Try.ntmps116
  go_wp2_with fail
  have hB1 : ∀ k, Blk (((w.alloc (.cells #[.int .i64 V, .slice A ns.length c, .int .i64 R] 28)).alloc (.cells #[.int .i64 0, .slice none 0 0, .int .i64 0] 28)).drewN k) w.heap.size 28 #[.int .i64 V, .slice A ns.length c, .int .i64 R] := fun _ => (Blk.new w _ _).alloc _
  have hB2 : ∀ k, Blk (((w.alloc (.cells #[.int .i64 V, .slice A ns.length c, .int .i64 R] 28)).alloc (.cells #[.int .i64 0, .slice none 0 0, .int .i64 0] 28)).drewN k) (w.heap.size + 1) 28 #[.int .i64 0, .slice none 0 0, .int .i64 0] := fun _ => Blk.new_at _ _ _ (by simp)
  have HF : Hid (∀ w3, ((w.alloc (.cells #[.int .i64 V, .slice A ns.length c, .int .i64 R] 28)).alloc (.cells #[.int .i64 0, .slice none 0 0, .int .i64 0] 28)).drew.grownBy w3 none →
      (w3.cell? ⟨w.heap.size, 0, none⟩ = some (.int .i64 V) ∧ w3.cell? ⟨w.heap.size, 2, none⟩ = some (.int .i64 R)) ∧ (w3.cell? ⟨w.heap.size + 1, 0, none⟩ = some (.int .i64 0) ∧ w3.cell? ⟨w.heap.size + 1, 1, none⟩ = some (.slice none 0 0) ∧ w3.cell? ⟨w.heap.size + 1, 2, none⟩ = some (.int .i64 0)) ∧
      w3.frozen? ⟨w.heap.size + 1, 0, none⟩ = false ∧ w3.frozen? ⟨w.heap.size + 1, 1, none⟩ = false ∧ w3.frozen? ⟨w.heap.size + 1, 2, none⟩ = false ∧ Blk w3 (w.heap.size + 1) 28 #[.int .i64 0, .slice none 0 0, .int .i64 0]) := fun w3 hg => by
    have b1 := (hB1 1).grown hg (by simp)
    have b2 := (hB2 1).grown hg (by simp)
    exact ⟨⟨by rw [b1.cell]; rfl, by rw [b1.cell]; rfl⟩, ⟨by rw [b2.cell]; rfl, by rw [b2.cell]; rfl, by rw [b2.cell]; rfl⟩, b2.frozen _, b2.frozen _, b2.frozen _, b2⟩
  have hbw : Below w.heap.size w ((w.alloc (.cells #[.int .i64 V, .slice A ns.length c, .int .i64 R] 28)).alloc (.cells #[.int .i64 0, .slice none 0 0, .int .i64 0] 28)) := ((Below.refl _ _).alloc (Nat.le_refl _) _).alloc (by simp) _
  have HBW := Lib.hid hbw
  clear hB1 hB2 hbw
  go_region_law (refine step_append_src rfl (.const (.slice none 0 0)) (.tmp 6) 26 rfl w.heap.size 89 i86 _ 3 24 Try.underlying26 hi hz0 hz1 hz2 rfl (by decide) _ 0 [] rfl (World.ownsRow_nil _ _ _ _) A ns.length c (ncells ns) rfl (HS.out _ HBW.out.drew) (ncells_length ns) (ncells_one ns) (by unfold maxLen; omega) (by omega) (by simp; omega) ?_; intro A' c' w3 ho3 hg3 hor3; replace hg3 : World.grownBy _ w3 none := hg3; simp only [Nat.zero_add, List.nil_append] at ho3; obtain ⟨⟨x0, x1⟩, ⟨x2, x3, x4⟩, y0, y1, y2, b3⟩ := HF.out w3 hg3)
  all_goals
    go_wp2_with fail
    have b4 := ((b3.set_ 0 (.int .i64 V)).set_ 1 (.slice A' ns.length c')).set_ 2 (.int .i64 R)
    have z0 := b4.cell 0
    have z1 := b4.cell 1
    have z2 := b4.cell 2
    simp only [List.setIfInBounds_toArray, List.set_cons_zero, List.set_cons_succ, List.getElem?_toArray, List.getElem?_cons_zero, List.getElem?_cons_succ] at z0 z1 z2
    refine bodyPost_ret (v := .agg #[.int .i64 V, .slice A' ns.length c', .int .i64 R]) (by simp [results, Try.results116, go_sem, z0, z1, z2]) rfl ⟨A', c', rfl, ?_, ?_⟩
    · have hne := own_ne_blk ho3 b3 (by decide)
      exact own_far (own_far (own_far ho3 (p := ⟨w.heap.size + 1, 0, none⟩) hne _) (p := ⟨w.heap.size + 1, 1, none⟩) hne _) (p := ⟨w.heap.size + 1, 2, none⟩) hne _
    · exact (((((HBW.out.drew.grown hg3 (by simp; omega) (by simp)).setCell (p := ⟨w.heap.size + 1, 0, none⟩) (by simp) _).setCell (p := ⟨w.heap.size + 1, 1, none⟩) (by simp) _).setCell (p := ⟨w.heap.size + 1, 2, none⟩) (by simp) _))
end Go.Proofs.Ytffefegjnbfobaa
