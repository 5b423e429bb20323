/- The reference's l7Of, walked; all and none. -/
import Derived.Test.YtffefegjnbfobaaY
import Derived.Test.YtffefegjnbfobaaQ1
namespace Go.Proofs.Ytffefegjnbfobaa
open Go.RowKit
open B

set_option maxRecDepth 100000 in
set_option maxHeartbeats 400000 in
theorem l7Of_any (p : Prop) (hp : p) (vars N tb : Nat) (F : Nat → Bool) (hN : N = 2 ^ vars) (hv : vars ≤ 13) (w : World) (hT : Blk w tb 4 (rowF (fun c => .bool (F c)) N)) :
    Calls Try.prog 67 #[.int .i64 (vars : Int), .slice (some ⟨tb, 0, none⟩) N N] w fun e w' => Mkd p vars (mk vars 0 F []) w.heap.size w' e ∧ Below w.heap.size w w' := by
  have hN' : N ≤ 8192 := by rw [hN]; exact Nat.pow_le_pow_right (by omega) hv
  have htb := hT.lt
  have HI0 : Hid (MI ((w.alloc (.cells zB 28)).alloc (.cells #[.int .i64 (vars : Int), .slice (some ⟨tb, 0, none⟩) N N, .slice none 0 0] 124)) (w.heap.size + 1) (w.heap.size + 1) tb N vars F (.slice none 0 0) []) :=
    ⟨Blk.new_at _ _ _ (by simp), (hT.alloc _).alloc _, World.ownsRow_nil _ _ _ _, Nat.le_refl _, wf_nil _⟩
  have HR0 : Hid (Blk ((w.alloc (.cells zB 28)).alloc (.cells #[.int .i64 (vars : Int), .slice (some ⟨tb, 0, none⟩) N N, .slice none 0 0] 124)) w.heap.size 28 zB) := (Blk.new w _ _).alloc _
  have HB0 : Hid (Below w.heap.size w ((w.alloc (.cells zB 28)).alloc (.cells #[.int .i64 (vars : Int), .slice (some ⟨tb, 0, none⟩) N N, .slice none 0 0] 124))) := ((Below.refl _ _).alloc (Nat.le_refl _) _).alloc (by simp) _
  have hF : (fun i => F (0 + i * 2 ^ 0)) = F := by funext i; simp
  have HM := make_any vars hv (w.heap.size + 1) (w.heap.size + 1) tb N hN F vars 0 0 1 N 0 0 (.slice none 0 0) [] ((w.alloc (.cells zB 28)).alloc (.cells #[.int .i64 (vars : Int), .slice (some ⟨tb, 0, none⟩) N N, .slice none 0 0] 124)) rfl rfl (Nat.zero_add _) rfl (Nat.lt_succ_self 0) hN HI0.out (by simp; omega)
  rw [hF] at HM
  have HMM := Lib.hid HM
  clear HM hF hN hT
  go_enter Try.func67, Try.ntmps67
  go_wp2_with fail
  refine HMM.out.mono ?_
  rintro e w1 ⟨rfl, hb1, v1, hI1⟩
  generalize hr : mk vars 0 F [] = r at *
  have HRR := Lib.hid hr
  clear hr
  obtain ⟨A1, c1, hv1⟩ := own_slice hI1.own
  subst hv1
  have HB1 : Hid (Below w.heap.size w w1) := HB0.out.trans (hb1.mono (by omega))
  have HR1 := Lib.hid (HR0.out.below hb1 (Nat.lt_succ_self _))
  obtain ⟨x0, x1, x2⟩ := HR1.out.three
  have y0 := HR1.out.frozen 0
  have y1 := HR1.out.frozen 1
  have y2 := HR1.out.frozen 2
  obtain ⟨z0, z1, z2⟩ := hI1.blk.three
  have HI1 := Lib.hid hI1
  clear hI1 hb1 HMM
  by_cases h6 : 600 < r.2.length
  · have h6' : (600 : Int) < (r.2.length : Int) := by omega
    go_wp2_with fail
    obtain ⟨u0, u1, u2⟩ := (HR1.out.put3 (.int .i64 0) (.slice none 0 0) (.int .i64 0)).three
    refine bodyPost_ret (v := .tuple #[.agg zB, .bool false]) (by simp [results, Try.results67, go_sem, u0, u1, u2]) rfl ⟨⟨0, 0, [], false, none, 0, .inr ⟨fun h => by have := h.2; rw [HRR.out] at this; omega, rfl, rfl, rfl, rfl⟩, rfl, World.ownsRow_nil _ _ _ _⟩, below_put3 HB1.out (Nat.le_refl _) _ _ _⟩
  · have h6' : ¬ (600 : Int) < (r.2.length : Int) := by omega
    go_wp2_with fail
    obtain ⟨u0, u1, u2⟩ := (HR1.out.put3 (.int .i64 vars) (.slice A1 r.2.length c1) (.int .i64 r.1)).three
    refine bodyPost_ret (v := .tuple #[.agg #[.int .i64 vars, .slice A1 r.2.length c1, .int .i64 r.1], .bool true]) (by simp [results, Try.results67, go_sem, u0, u1, u2]) rfl ⟨⟨vars, r.1, r.2, true, A1, c1, .inl ⟨hp, by rw [HRR.out]; omega, rfl, by rw [HRR.out], by rw [HRR.out], rfl⟩, rfl, own_put3 (own_mono HI1.out.own (by omega)) (own_ne_blk HI1.out.own HR1.out (by decide)) _ _ _⟩, below_put3 HB1.out (Nat.le_refl _) _ _ _⟩

/-- BddConst of the reference. -/
def Cst (V : Int) (b : Bool) (e : Ending) : Prop :=
  (0 ≤ V ∧ V ≤ 13 ∧ e = .returned (.tuple #[.agg #[.int .i64 V, .slice none 0 0, .int .i64 (b2i b)], .bool true])) ∨ (¬ (0 ≤ V ∧ V ≤ 13) ∧ e = .returned (.tuple #[.agg zB, .bool false]))
set_option maxRecDepth 100000 in
set_option maxHeartbeats 400000 in
theorem specConst_yes (V : Int) (b : Bool) (w : World) (hV : 0 ≤ V ∧ V ≤ 13) : Calls Try.prog 90 #[.int .i64 V, .bool b] w fun e w' => e = .returned (.tuple #[.agg #[.int .i64 V, .slice none 0 0, .int .i64 (b2i b)], .bool true]) ∧ Below w.heap.size w w' := by
  have hd : decide (0 ≤ V ∧ V ≤ 13) = true := by simpa using hV
  clear hV
  go_enter Try.func90, Try.ntmps90
  go_wp2_with (first
    | (go_at_call 65; refine (l7Vars_is _ true hd _).mono ?_; rintro e w' ⟨rfl, rfl⟩)
    | (go_at_call 131; refine (yesb_is _ _).mono ?_; rintro e w' ⟨rfl, rfl⟩))
  refine bodyPost_ret (v := .tuple #[.agg #[.int .i64 V, .slice none 0 0, .int .i64 (b2i b)], .bool true]) (by simp [results, Try.results90, go_sem]) rfl ⟨rfl, (Below.refl _ _).alloc (Nat.le_refl _) _⟩
set_option maxRecDepth 100000 in
set_option maxHeartbeats 400000 in
theorem specConst_no (V : Int) (b : Bool) (w : World) (hV : ¬ (0 ≤ V ∧ V ≤ 13)) : Calls Try.prog 90 #[.int .i64 V, .bool b] w fun e w' => e = .returned (.tuple #[.agg zB, .bool false]) ∧ Below w.heap.size w w' := by
  have hd : decide (0 ≤ V ∧ V ≤ 13) = false := by simpa using hV
  clear hV
  go_enter Try.func90, Try.ntmps90
  go_wp2_with (go_at_call 65; refine (l7Vars_is _ false hd _).mono ?_; rintro e w' ⟨rfl, rfl⟩)
  refine bodyPost_ret (v := .tuple #[.agg zB, .bool false]) (by simp [results, Try.results90, go_sem]) rfl ⟨rfl, (Below.refl _ _).alloc (Nat.le_refl _) _⟩
end Go.Proofs.Ytffefegjnbfobaa
