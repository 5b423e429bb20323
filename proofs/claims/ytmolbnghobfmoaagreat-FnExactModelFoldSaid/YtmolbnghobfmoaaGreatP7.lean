/- Part 7 of what the row Row28 rests on: F3b. -/
import Derived.Test.YtmolbnghobfmoaaGreatP6
set_option maxRecDepth 100000
set_option maxHeartbeats 16000000
set_option linter.unusedSimpArgs false
set_option linter.unusedVariables false
namespace Go.Proofs.YtmolbnghobfmoaaGreat
open Go.RowKit
theorem zO7 (k : Int) (na nb nc nn nm si sw : Int) (nt : ByteArray) (a b c : So) (w : World) (hk : (1 ≤ k ∧ k ≤ 20) ∨ (22 ≤ k ∧ k ≤ 32)) (hi : a.i ≠ 0 ∨ b.i ≠ 0) : Calls Tryz.prog 179 #[.agg #[.int .i64 k, .int .i64 na, .int .i64 nb, .int .i64 nc, .int .i64 nn, .int .i64 nm, .int .i64 si, .int .i64 sw, .string nt], .agg #[.int .i64 a.i, .int .i64 a.w], .agg #[.int .i64 b.i, .int .i64 b.w], .agg #[.int .i64 c.i, .int .i64 c.w]] w
 fun e w' => SoP (zNp ⟨k, na, nb, nc, nn, nm, ⟨si, sw⟩, nt⟩ a b c) w e w' := by
 have hs : zNp ⟨k, na, nb, nc, nn, nm, ⟨si, sw⟩, nt⟩ a b c = none := by
  unfold zNp; simp only; rw [if_neg (by omega), if_neg (by omega), if_neg (by omega), if_neg (by omega), if_neg (by omega), if_neg (by omega), if_pos hi]
 have HS := Kh hs; clear hs; have z35 : (k == 35) = false := by simp; omega
 have z36 : (k == 36) = false := by simp; omega
 have z34 : (k == 34) = false := by simp; omega
 have z33 : (k == 33) = false := by simp; omega
 have z21 : (k == 21) = false := by simp; omega
 have z37 : (k == 37) = false := by simp; omega
 have z38 : (k == 38) = false := by simp; omega
 by_cases h0 : a.i = 0
 · have h1 : b.i ≠ 0 := by omega
   have y1 : (b.i == 0) = false := by simpa using h1
   clear h1 hi; obtain ⟨ai, aw⟩ := a; obtain rfl : ai = 0 := h0; dsimp only; have S0 := Kh (SR.zero w k na nb nc nn nm si sw nt ⟨0, aw⟩ b c)
   go_enter Tryz.func179, Tryz.ntmps179
   go_wp2_with fail
   obtain ⟨u0, u1⟩ := SR.res (S0.out) (.int .i64 0) (.int .i64 0) rfl
   exact bodyPost_ret (v := .tuple #[.agg #[.int .i64 0, .int .i64 0], .bool false]) (by simp [results, Tryz.results179, go_sem, u0, u1]) rfl ⟨⟨0, 0⟩, false, rfl, HS.out.trans (by simp), (S0.out).bel⟩
 · have y0 : (a.i == 0) = false := by simpa using h0
   clear h0 hi; have S0 := Kh (SR.zero w k na nb nc nn nm si sw nt a b c)
   go_enter Tryz.func179, Tryz.ntmps179
   go_wp2_with fail
   obtain ⟨u0, u1⟩ := SR.res (S0.out) (.int .i64 0) (.int .i64 0) rfl
   exact bodyPost_ret (v := .tuple #[.agg #[.int .i64 0, .int .i64 0], .bool false]) (by simp [results, Tryz.results179, go_sem, u0, u1]) rfl ⟨⟨0, 0⟩, false, rfl, HS.out.trans (by simp), (S0.out).bel⟩
theorem zNq (na nb nc nn nm si sw : Int) (nt : ByteArray) (a b c : So) (w : World) (hw : (0 ≤ a.w ∧ a.w ≤ 16) ∧ 0 ≤ b.w ∧ b.w ≤ 16) (hi : a.i = 0 ∧ b.i = 0) : Calls Tryz.prog 179 #[.agg #[.int .i64 1, .int .i64 na, .int .i64 nb, .int .i64 nc, .int .i64 nn, .int .i64 nm, .int .i64 si, .int .i64 sw, .string nt], .agg #[.int .i64 a.i, .int .i64 a.w], .agg #[.int .i64 b.i, .int .i64 b.w], .agg #[.int .i64 c.i, .int .i64 c.w]] w
 fun e w' => SoP (zNp ⟨1, na, nb, nc, nn, nm, ⟨si, sw⟩, nt⟩ a b c) w e w' := by
 obtain ⟨ai, aw⟩ := a; obtain ⟨bi, bw⟩ := b; obtain ⟨h0, h1⟩ := hi; dsimp only at h0 h1 hw; subst h0 h1; dsimp only
 have hs : zNp ⟨1, na, nb, nc, nn, nm, ⟨si, sw⟩, nt⟩ ⟨0, aw⟩ ⟨0, bw⟩ c = if (true) = true then some ⟨0, aw⟩ else none := by
  unfold zNp; rw [if_neg (show ¬ ((1 : Int) = 35 ∨ (1 : Int) = 36) by decide), if_neg (show ¬ (1 : Int) = 34 by decide), if_neg (show ¬ (1 : Int) = 33 by decide), if_neg (show ¬ (1 : Int) = 21 by decide), if_neg (show ¬ (1 : Int) = 37 by decide), if_neg (show ¬ (1 : Int) = 38 by decide), if_neg (by simp), if_pos (by simp)]; simp
 have HS := Kh hs; clear hs hw
 go_enter Tryz.func179, Tryz.ntmps179
 go_wp2_with fail
 obtain ⟨u0, u1⟩ := SR.res (SR.made w 1 na nb nc nn nm si sw nt ⟨0, aw⟩ ⟨0, bw⟩ c #[.int .i64 0, .int .i64 aw]) (.int .i64 0) (.int .i64 aw) rfl
 exact bodyPost_ret (v := .tuple #[.agg #[.int .i64 0, .int .i64 aw], .bool true]) (by simp [results, Tryz.results179, go_sem, u0, u1]) rfl ⟨⟨0, aw⟩, true, rfl, HS.out.trans (by simp), (SR.made w 1 na nb nc nn nm si sw nt ⟨0, aw⟩ ⟨0, bw⟩ c #[.int .i64 0, .int .i64 aw]).bel⟩
theorem zNr (na nb nc nn nm si sw : Int) (nt : ByteArray) (a b c : So) (w : World) (hw : (0 ≤ a.w ∧ a.w ≤ 16) ∧ 0 ≤ b.w ∧ b.w ≤ 16) (hi : a.i = 0 ∧ b.i = 0) : Calls Tryz.prog 179 #[.agg #[.int .i64 2, .int .i64 na, .int .i64 nb, .int .i64 nc, .int .i64 nn, .int .i64 nm, .int .i64 si, .int .i64 sw, .string nt], .agg #[.int .i64 a.i, .int .i64 a.w], .agg #[.int .i64 b.i, .int .i64 b.w], .agg #[.int .i64 c.i, .int .i64 c.w]] w
 fun e w' => SoP (zNp ⟨2, na, nb, nc, nn, nm, ⟨si, sw⟩, nt⟩ a b c) w e w' := by
 obtain ⟨ai, aw⟩ := a; obtain ⟨bi, bw⟩ := b; obtain ⟨h0, h1⟩ := hi; dsimp only at h0 h1 hw; subst h0 h1; dsimp only
 have hs : zNp ⟨2, na, nb, nc, nn, nm, ⟨si, sw⟩, nt⟩ ⟨0, aw⟩ ⟨0, bw⟩ c = if (true) = true then some ⟨0, aw⟩ else none := by
  unfold zNp; rw [if_neg (show ¬ ((2 : Int) = 35 ∨ (2 : Int) = 36) by decide), if_neg (show ¬ (2 : Int) = 34 by decide), if_neg (show ¬ (2 : Int) = 33 by decide), if_neg (show ¬ (2 : Int) = 21 by decide), if_neg (show ¬ (2 : Int) = 37 by decide), if_neg (show ¬ (2 : Int) = 38 by decide), if_neg (by simp), if_pos (by simp)]; simp
 have HS := Kh hs; clear hs hw
 go_enter Tryz.func179, Tryz.ntmps179
 go_wp2_with fail
 obtain ⟨u0, u1⟩ := SR.res (SR.made w 2 na nb nc nn nm si sw nt ⟨0, aw⟩ ⟨0, bw⟩ c #[.int .i64 0, .int .i64 aw]) (.int .i64 0) (.int .i64 aw) rfl
 exact bodyPost_ret (v := .tuple #[.agg #[.int .i64 0, .int .i64 aw], .bool true]) (by simp [results, Tryz.results179, go_sem, u0, u1]) rfl ⟨⟨0, aw⟩, true, rfl, HS.out.trans (by simp), (SR.made w 2 na nb nc nn nm si sw nt ⟨0, aw⟩ ⟨0, bw⟩ c #[.int .i64 0, .int .i64 aw]).bel⟩
theorem zO1 (k : Int) (na nb nc nn nm si sw : Int) (nt : ByteArray) (a b c : So) (w : World) (hk : 3 ≤ k ∧ k ≤ 5) (hw : (0 ≤ a.w ∧ a.w ≤ 16) ∧ 0 ≤ b.w ∧ b.w ≤ 16) (hi : a.i = 0 ∧ b.i = 0) : Calls Tryz.prog 179 #[.agg #[.int .i64 k, .int .i64 na, .int .i64 nb, .int .i64 nc, .int .i64 nn, .int .i64 nm, .int .i64 si, .int .i64 sw, .string nt], .agg #[.int .i64 a.i, .int .i64 a.w], .agg #[.int .i64 b.i, .int .i64 b.w], .agg #[.int .i64 c.i, .int .i64 c.w]] w
 fun e w' => SoP (zNp ⟨k, na, nb, nc, nn, nm, ⟨si, sw⟩, nt⟩ a b c) w e w' := by
 obtain ⟨ai, aw⟩ := a; obtain ⟨bi, bw⟩ := b; obtain ⟨h0, h1⟩ := hi; dsimp only at h0 h1 hw; subst h0 h1; dsimp only
 have hs : zNp ⟨k, na, nb, nc, nn, nm, ⟨si, sw⟩, nt⟩ ⟨0, aw⟩ ⟨0, bw⟩ c = if (true) = true then some (wS 1) else none := by
  unfold zNp; simp only; rw [if_neg (by omega), if_neg (by omega), if_neg (by omega), if_neg (by omega), if_neg (by omega), if_neg (by omega), if_neg (by simp), if_neg (by omega), if_pos (by omega)]; simp
 have HS := Kh hs; clear hs hw; have z35 : (k == 35) = false := by simp; omega
 have z36 : (k == 36) = false := by simp; omega
 have z34 : (k == 34) = false := by simp; omega
 have z33 : (k == 33) = false := by simp; omega
 have z21 : (k == 21) = false := by simp; omega
 have z37 : (k == 37) = false := by simp; omega
 have z38 : (k == 38) = false := by simp; omega
 have z1 : (k == 1) = false := by simp; omega
 have z2 : (k == 2) = false := by simp; omega
 have z30 : (k == 30) = false := by simp; omega
 have z31 : (k == 31) = false := by simp; omega
 have z32 : (k == 32) = false := by simp; omega
 have z29 : (k == 29) = false := by simp; omega
 have S0 := Kh (SR.zero w k na nb nc nn nm si sw nt ⟨0, aw⟩ ⟨0, bw⟩ c)
 go_enter Tryz.func179, Tryz.ntmps179
 go_wp2_with (first | (go_at_call 143; (first | refine (zEx _ _ _ true (decide_eq_true (by omega)) _).mono ?_ | refine (zEx _ _ _ false (decide_eq_false (by omega)) _).mono ?_); rintro e wI ⟨rfl, rfl⟩) | (go_at_call 93; refine (zQs _ _).mono ?_; rintro e w1 ⟨rfl, hb1⟩; have S1 := Kh (S0.out.below hb1); obtain ⟨c0, c1⟩ := S1.out.b4.two; have f0 := S1.out.b4.frozen 0; have f1 := S1.out.b4.frozen 1; clear hb1))
 obtain ⟨u0, u1⟩ := SR.res (S1.out.put rfl (.int .i64 0) (.int .i64 1)) (.int .i64 0) (.int .i64 1) rfl
 exact bodyPost_ret (v := .tuple #[.agg #[.int .i64 0, .int .i64 1], .bool true]) (by simp [results, Tryz.results179, go_sem, u0, u1]) rfl ⟨⟨0, 1⟩, true, rfl, HS.out.trans (by simp [wS]), (S1.out.put rfl (.int .i64 0) (.int .i64 1)).bel⟩
theorem zNv (na nb nc nn nm si sw : Int) (nt : ByteArray) (a b c : So) (w : World) (hw : (0 ≤ a.w ∧ a.w ≤ 16) ∧ 0 ≤ b.w ∧ b.w ≤ 16) (hi : a.i = 0 ∧ b.i = 0) : Calls Tryz.prog 179 #[.agg #[.int .i64 30, .int .i64 na, .int .i64 nb, .int .i64 nc, .int .i64 nn, .int .i64 nm, .int .i64 si, .int .i64 sw, .string nt], .agg #[.int .i64 a.i, .int .i64 a.w], .agg #[.int .i64 b.i, .int .i64 b.w], .agg #[.int .i64 c.i, .int .i64 c.w]] w
 fun e w' => SoP (zNp ⟨30, na, nb, nc, nn, nm, ⟨si, sw⟩, nt⟩ a b c) w e w' := by
 obtain ⟨ai, aw⟩ := a; obtain ⟨bi, bw⟩ := b; obtain ⟨h0, h1⟩ := hi; dsimp only at h0 h1 hw; subst h0 h1; dsimp only
 have hs : zNp ⟨30, na, nb, nc, nn, nm, ⟨si, sw⟩, nt⟩ ⟨0, aw⟩ ⟨0, bw⟩ c = if (decide (0 ≤ nn ∧ nn ≤ aw - 1) && decide (0 ≤ nm ∧ nm ≤ nn)) = true then some (wS (nn - nm + 1)) else none := by
  unfold zNp; rw [if_neg (show ¬ ((30 : Int) = 35 ∨ (30 : Int) = 36) by decide), if_neg (show ¬ (30 : Int) = 34 by decide), if_neg (show ¬ (30 : Int) = 33 by decide), if_neg (show ¬ (30 : Int) = 21 by decide), if_neg (show ¬ (30 : Int) = 37 by decide), if_neg (show ¬ (30 : Int) = 38 by decide), if_neg (by simp), if_neg (by simp), if_neg (by simp), if_pos rfl]; simp
 obtain ⟨x0, h0⟩ : ∃ x, decide (0 ≤ nn ∧ nn ≤ aw - 1) = x := ⟨_, rfl⟩
 obtain ⟨x1, h1⟩ : ∃ x, decide (0 ≤ nm ∧ nm ≤ nn) = x := ⟨_, rfl⟩
 rw [h0, h1] at hs; have HS := Kh hs; clear hs; have H0 := Kh h0; have H1 := Kh h1; clear h0 h1; obtain ⟨Y, hY⟩ : ∃ Y, wrap64 (wrap64 (nn - nm) + 1) = Y := ⟨_, rfl⟩
 have HY := Kh hY; clear hY; have HW := Kh hw; clear hw
 cases x0
 case false =>
  have S0 := Kh (SR.zero w 30 na nb nc nn nm si sw nt ⟨0, aw⟩ ⟨0, bw⟩ c)
  go_enter Tryz.func179, Tryz.ntmps179
  go_wp2_with (go_at_call 143; (first | refine (zEx _ _ _ true (decide_eq_true (by omega)) _).mono ?_ | refine (zEx _ _ _ false (decide_eq_false (by omega)) _).mono ?_); rintro e wI ⟨rfl, rfl⟩)
  generalize (((((w.alloc (.cells #[.int .i64 30, .int .i64 na, .int .i64 nb, .int .i64 nc, .int .i64 nn, .int .i64 nm, .int .i64 si, .int .i64 sw, .string nt] 42)).alloc (.cells #[.int .i64 0, .int .i64 aw] 40)).alloc (.cells #[.int .i64 0, .int .i64 bw] 40)).alloc (.cells #[.int .i64 c.i, .int .i64 c.w] 40)).alloc (.cells #[.int .i64 0, .int .i64 0] 40)) = X at S0 ⊢
  refine zR8 (D := SRb w w.heap.size #[.int .i64 30, .int .i64 na, .int .i64 nb, .int .i64 nc, .int .i64 nn, .int .i64 nm, .int .i64 si, .int .i64 sw, .string nt] ⟨0, aw⟩ ⟨0, bw⟩ c (0) (Y)) 20 rfl (by kernel_rfl) (by kernel_rfl) (by kernel_rfl) rfl rfl S0.out.drew ?_
  apply Exists.intro
  refine ⟨fun r K hK => ?_, fun r W hD => ?_, ?_, ?_⟩
  · have K0 := fun x : Cls (SRb w w.heap.size #[.int .i64 30, .int .i64 na, .int .i64 nb, .int .i64 nc, .int .i64 nn, .int .i64 nm, .int .i64 si, .int .i64 sw, .string nt] ⟨0, aw⟩ ⟨0, bw⟩ c (0) (Y) r) => x.2.cells
    have hne : Nonempty (Cls (SRb w w.heap.size #[.int .i64 30, .int .i64 na, .int .i64 nb, .int .i64 nc, .int .i64 nn, .int .i64 nm, .int .i64 si, .int .i64 sw, .string nt] ⟨0, aw⟩ ⟨0, bw⟩ c (0) (Y) r)) := SRb.some S0.out r; simp only [List.take_succ_cons, List.take_zero]
    repeat go_big_quiet_step ((first | (go_at_call 93; exact zOb _ (zQr _ Y HY.out _)) | (go_at_call 143; (with_reducible show Calls _ _ #[.int .i64 nn, _, _] _ _); exact zCr _ (zEw nn 0 _ (aw - 1) false (by have := HW.out; unfold wrap64; omega) H0.out _))))
    exact wpQuiet_nil hK.out
  · obtain ⟨c0, c1, f0, f1, hD'⟩ := hD.store
    refine ⟨_, ?_, hD'⟩
    simp [execOp, go_sem, c0, c1, f0, f1]
  · kernel_rfl
  apply Exists.intro
  refine ⟨fun r K hK => ?_, fun W hD => ?_⟩
  · simp only [List.drop_succ_cons, List.drop_zero]
    have hne : Nonempty (Cls (SRb w w.heap.size #[.int .i64 30, .int .i64 na, .int .i64 nb, .int .i64 nc, .int .i64 nn, .int .i64 nm, .int .i64 si, .int .i64 sw, .string nt] ⟨0, aw⟩ ⟨0, bw⟩ c (0) (Y) r)) := SRb.some S0.out r
    repeat go_big_quiet_step (fail)
    exact wpQuiet_nil hK.out
  · go_wp2_with fail
    obtain ⟨u0, u1⟩ := SR.res (hD) (.int .i64 0) (.int .i64 Y) rfl
    exact bodyPost_ret (v := .tuple #[.agg #[.int .i64 0, .int .i64 Y], .bool false]) (by simp [results, Tryz.results179, go_sem, u0, u1]) rfl ⟨⟨0, Y⟩, false, rfl, HS.out.trans (by simp), (hD).bel⟩
 case true =>
  have S0 := Kh (SR.zero w 30 na nb nc nn nm si sw nt ⟨0, aw⟩ ⟨0, bw⟩ c)
  go_enter Tryz.func179, Tryz.ntmps179
  go_wp2_with (go_at_call 143; (first | refine (zEx _ _ _ true (decide_eq_true (by omega)) _).mono ?_ | refine (zEx _ _ _ false (decide_eq_false (by omega)) _).mono ?_); rintro e wI ⟨rfl, rfl⟩)
  generalize (((((w.alloc (.cells #[.int .i64 30, .int .i64 na, .int .i64 nb, .int .i64 nc, .int .i64 nn, .int .i64 nm, .int .i64 si, .int .i64 sw, .string nt] 42)).alloc (.cells #[.int .i64 0, .int .i64 aw] 40)).alloc (.cells #[.int .i64 0, .int .i64 bw] 40)).alloc (.cells #[.int .i64 c.i, .int .i64 c.w] 40)).alloc (.cells #[.int .i64 0, .int .i64 0] 40)) = X at S0 ⊢
  refine zR8 (D := SRb w w.heap.size #[.int .i64 30, .int .i64 na, .int .i64 nb, .int .i64 nc, .int .i64 nn, .int .i64 nm, .int .i64 si, .int .i64 sw, .string nt] ⟨0, aw⟩ ⟨0, bw⟩ c (0) (Y)) 20 rfl (by kernel_rfl) (by kernel_rfl) (by kernel_rfl) rfl rfl S0.out.drew ?_
  apply Exists.intro
  refine ⟨fun r K hK => ?_, fun r W hD => ?_, ?_, ?_⟩
  · have K0 := fun x : Cls (SRb w w.heap.size #[.int .i64 30, .int .i64 na, .int .i64 nb, .int .i64 nc, .int .i64 nn, .int .i64 nm, .int .i64 si, .int .i64 sw, .string nt] ⟨0, aw⟩ ⟨0, bw⟩ c (0) (Y) r) => x.2.cells
    have hne : Nonempty (Cls (SRb w w.heap.size #[.int .i64 30, .int .i64 na, .int .i64 nb, .int .i64 nc, .int .i64 nn, .int .i64 nm, .int .i64 si, .int .i64 sw, .string nt] ⟨0, aw⟩ ⟨0, bw⟩ c (0) (Y) r)) := SRb.some S0.out r; simp only [List.take_succ_cons, List.take_zero]
    repeat go_big_quiet_step ((first | (go_at_call 93; exact zOb _ (zQr _ Y HY.out _)) | (go_at_call 143; (with_reducible show Calls _ _ #[.int .i64 nn, _, _] _ _); exact zCr _ (zEw nn 0 _ (aw - 1) true (by have := HW.out; unfold wrap64; omega) H0.out _)) | (go_at_call 143; (with_reducible show Calls _ _ #[.int .i64 nm, _, _] _ _); exact zCr _ (zEw nm 0 _ nn x1 rfl H1.out _))))
    exact wpQuiet_nil hK.out
  · obtain ⟨c0, c1, f0, f1, hD'⟩ := hD.store
    refine ⟨_, ?_, hD'⟩
    simp [execOp, go_sem, c0, c1, f0, f1]
  · kernel_rfl
  apply Exists.intro
  refine ⟨fun r K hK => ?_, fun W hD => ?_⟩
  · simp only [List.drop_succ_cons, List.drop_zero]
    have hne : Nonempty (Cls (SRb w w.heap.size #[.int .i64 30, .int .i64 na, .int .i64 nb, .int .i64 nc, .int .i64 nn, .int .i64 nm, .int .i64 si, .int .i64 sw, .string nt] ⟨0, aw⟩ ⟨0, bw⟩ c (0) (Y) r)) := SRb.some S0.out r
    repeat go_big_quiet_step (fail)
    exact wpQuiet_nil hK.out
  · go_wp2_with fail
    obtain ⟨u0, u1⟩ := SR.res (hD) (.int .i64 0) (.int .i64 Y) rfl
    exact bodyPost_ret (v := .tuple #[.agg #[.int .i64 0, .int .i64 Y], .bool x1]) (by simp [results, Tryz.results179, go_sem, u0, u1]) rfl ⟨⟨0, Y⟩, x1, rfl, (by rw [HS.out]; have g0 := H0.out; have g1 := H1.out; have g2 := HY.out; have g3 := HW.out; cases x1 <;> simp [wS] at g0 g1 ⊢; unfold wrap64 at g2; omega), (hD).bel⟩
theorem zNw (na nb nc nn nm si sw : Int) (nt : ByteArray) (a b c : So) (w : World) (hw : (0 ≤ a.w ∧ a.w ≤ 16) ∧ 0 ≤ b.w ∧ b.w ≤ 16) (hi : a.i = 0 ∧ b.i = 0) : Calls Tryz.prog 179 #[.agg #[.int .i64 31, .int .i64 na, .int .i64 nb, .int .i64 nc, .int .i64 nn, .int .i64 nm, .int .i64 si, .int .i64 sw, .string nt], .agg #[.int .i64 a.i, .int .i64 a.w], .agg #[.int .i64 b.i, .int .i64 b.w], .agg #[.int .i64 c.i, .int .i64 c.w]] w
 fun e w' => SoP (zNp ⟨31, na, nb, nc, nn, nm, ⟨si, sw⟩, nt⟩ a b c) w e w' := by
 obtain ⟨ai, aw⟩ := a; obtain ⟨bi, bw⟩ := b; obtain ⟨h0, h1⟩ := hi; dsimp only at h0 h1 hw; subst h0 h1; dsimp only
 have hs : zNp ⟨31, na, nb, nc, nn, nm, ⟨si, sw⟩, nt⟩ ⟨0, aw⟩ ⟨0, bw⟩ c = if (decide (0 ≤ nn ∧ nn ≤ 16 - aw)) = true then some (wS (aw + nn)) else none := by
  unfold zNp; rw [if_neg (show ¬ ((31 : Int) = 35 ∨ (31 : Int) = 36) by decide), if_neg (show ¬ (31 : Int) = 34 by decide), if_neg (show ¬ (31 : Int) = 33 by decide), if_neg (show ¬ (31 : Int) = 21 by decide), if_neg (show ¬ (31 : Int) = 37 by decide), if_neg (show ¬ (31 : Int) = 38 by decide), if_neg (by simp), if_neg (by simp), if_neg (by simp), if_neg (by simp), if_pos (by simp)]; simp
 obtain ⟨x0, h0⟩ : ∃ x, decide (0 ≤ nn ∧ nn ≤ 16 - aw) = x := ⟨_, rfl⟩
 rw [h0] at hs; have HS := Kh hs; clear hs; have H0 := Kh h0; clear h0; obtain ⟨Y, hY⟩ : ∃ Y, wrap64 (aw + nn) = Y := ⟨_, rfl⟩
 have HY := Kh hY; clear hY; have HW := Kh hw; clear hw; have S0 := Kh (SR.zero w 31 na nb nc nn nm si sw nt ⟨0, aw⟩ ⟨0, bw⟩ c)
 go_enter Tryz.func179, Tryz.ntmps179
 go_wp2_with (go_at_call 143; (first | refine (zEx _ _ _ true (decide_eq_true (by omega)) _).mono ?_ | refine (zEx _ _ _ false (decide_eq_false (by omega)) _).mono ?_); rintro e wI ⟨rfl, rfl⟩)
 generalize (((((w.alloc (.cells #[.int .i64 31, .int .i64 na, .int .i64 nb, .int .i64 nc, .int .i64 nn, .int .i64 nm, .int .i64 si, .int .i64 sw, .string nt] 42)).alloc (.cells #[.int .i64 0, .int .i64 aw] 40)).alloc (.cells #[.int .i64 0, .int .i64 bw] 40)).alloc (.cells #[.int .i64 c.i, .int .i64 c.w] 40)).alloc (.cells #[.int .i64 0, .int .i64 0] 40)) = X at S0 ⊢
 refine zR8 (D := SRb w w.heap.size #[.int .i64 31, .int .i64 na, .int .i64 nb, .int .i64 nc, .int .i64 nn, .int .i64 nm, .int .i64 si, .int .i64 sw, .string nt] ⟨0, aw⟩ ⟨0, bw⟩ c (0) (Y)) 12 rfl (by kernel_rfl) (by kernel_rfl) (by kernel_rfl) rfl rfl S0.out.drew ?_
 apply Exists.intro
 refine ⟨fun r K hK => ?_, fun r W hD => ?_, ?_, ?_⟩
 · have K0 := fun x : Cls (SRb w w.heap.size #[.int .i64 31, .int .i64 na, .int .i64 nb, .int .i64 nc, .int .i64 nn, .int .i64 nm, .int .i64 si, .int .i64 sw, .string nt] ⟨0, aw⟩ ⟨0, bw⟩ c (0) (Y) r) => x.2.cells
   have hne : Nonempty (Cls (SRb w w.heap.size #[.int .i64 31, .int .i64 na, .int .i64 nb, .int .i64 nc, .int .i64 nn, .int .i64 nm, .int .i64 si, .int .i64 sw, .string nt] ⟨0, aw⟩ ⟨0, bw⟩ c (0) (Y) r)) := SRb.some S0.out r; simp only [List.take_succ_cons, List.take_zero]
   repeat go_big_quiet_step ((first | (go_at_call 93; exact zOb _ (zQr _ Y HY.out _)) | (go_at_call 143; (with_reducible show Calls _ _ #[.int .i64 nn, _, _] _ _); exact zCr _ (zEw nn 0 _ (16 - aw) x0 (by have := HW.out; unfold wrap64; omega) H0.out _))))
   exact wpQuiet_nil hK.out
 · obtain ⟨c0, c1, f0, f1, hD'⟩ := hD.store
   refine ⟨_, ?_, hD'⟩
   simp [execOp, go_sem, c0, c1, f0, f1]
 · kernel_rfl
 apply Exists.intro
 refine ⟨fun r K hK => ?_, fun W hD => ?_⟩
 · simp only [List.drop_succ_cons, List.drop_zero]
   have hne : Nonempty (Cls (SRb w w.heap.size #[.int .i64 31, .int .i64 na, .int .i64 nb, .int .i64 nc, .int .i64 nn, .int .i64 nm, .int .i64 si, .int .i64 sw, .string nt] ⟨0, aw⟩ ⟨0, bw⟩ c (0) (Y) r)) := SRb.some S0.out r
   repeat go_big_quiet_step (fail)
   exact wpQuiet_nil hK.out
 · go_wp2_with fail
   obtain ⟨u0, u1⟩ := SR.res (hD) (.int .i64 0) (.int .i64 Y) rfl
   exact bodyPost_ret (v := .tuple #[.agg #[.int .i64 0, .int .i64 Y], .bool x0]) (by simp [results, Tryz.results179, go_sem, u0, u1]) rfl ⟨⟨0, Y⟩, x0, rfl, (by rw [HS.out]; have g0 := H0.out; have g2 := HY.out; have g3 := HW.out; cases x0 <;> simp [wS] at g0 ⊢; unfold wrap64 at g2; omega), (hD).bel⟩
theorem zNx (na nb nc nn nm si sw : Int) (nt : ByteArray) (a b c : So) (w : World) (hw : (0 ≤ a.w ∧ a.w ≤ 16) ∧ 0 ≤ b.w ∧ b.w ≤ 16) (hi : a.i = 0 ∧ b.i = 0) : Calls Tryz.prog 179 #[.agg #[.int .i64 32, .int .i64 na, .int .i64 nb, .int .i64 nc, .int .i64 nn, .int .i64 nm, .int .i64 si, .int .i64 sw, .string nt], .agg #[.int .i64 a.i, .int .i64 a.w], .agg #[.int .i64 b.i, .int .i64 b.w], .agg #[.int .i64 c.i, .int .i64 c.w]] w
 fun e w' => SoP (zNp ⟨32, na, nb, nc, nn, nm, ⟨si, sw⟩, nt⟩ a b c) w e w' := by
 obtain ⟨ai, aw⟩ := a; obtain ⟨bi, bw⟩ := b; obtain ⟨h0, h1⟩ := hi; dsimp only at h0 h1 hw; subst h0 h1; dsimp only
 have hs : zNp ⟨32, na, nb, nc, nn, nm, ⟨si, sw⟩, nt⟩ ⟨0, aw⟩ ⟨0, bw⟩ c = if (decide (0 ≤ nn ∧ nn ≤ 16 - aw)) = true then some (wS (aw + nn)) else none := by
  unfold zNp; rw [if_neg (show ¬ ((32 : Int) = 35 ∨ (32 : Int) = 36) by decide), if_neg (show ¬ (32 : Int) = 34 by decide), if_neg (show ¬ (32 : Int) = 33 by decide), if_neg (show ¬ (32 : Int) = 21 by decide), if_neg (show ¬ (32 : Int) = 37 by decide), if_neg (show ¬ (32 : Int) = 38 by decide), if_neg (by simp), if_neg (by simp), if_neg (by simp), if_neg (by simp), if_pos (by simp)]; simp
 obtain ⟨x0, h0⟩ : ∃ x, decide (0 ≤ nn ∧ nn ≤ 16 - aw) = x := ⟨_, rfl⟩
 rw [h0] at hs; have HS := Kh hs; clear hs; have H0 := Kh h0; clear h0; obtain ⟨Y, hY⟩ : ∃ Y, wrap64 (aw + nn) = Y := ⟨_, rfl⟩
 have HY := Kh hY; clear hY; have HW := Kh hw; clear hw; have S0 := Kh (SR.zero w 32 na nb nc nn nm si sw nt ⟨0, aw⟩ ⟨0, bw⟩ c)
 go_enter Tryz.func179, Tryz.ntmps179
 go_wp2_with (go_at_call 143; (first | refine (zEx _ _ _ true (decide_eq_true (by omega)) _).mono ?_ | refine (zEx _ _ _ false (decide_eq_false (by omega)) _).mono ?_); rintro e wI ⟨rfl, rfl⟩)
 generalize (((((w.alloc (.cells #[.int .i64 32, .int .i64 na, .int .i64 nb, .int .i64 nc, .int .i64 nn, .int .i64 nm, .int .i64 si, .int .i64 sw, .string nt] 42)).alloc (.cells #[.int .i64 0, .int .i64 aw] 40)).alloc (.cells #[.int .i64 0, .int .i64 bw] 40)).alloc (.cells #[.int .i64 c.i, .int .i64 c.w] 40)).alloc (.cells #[.int .i64 0, .int .i64 0] 40)) = X at S0 ⊢
 refine zR8 (D := SRb w w.heap.size #[.int .i64 32, .int .i64 na, .int .i64 nb, .int .i64 nc, .int .i64 nn, .int .i64 nm, .int .i64 si, .int .i64 sw, .string nt] ⟨0, aw⟩ ⟨0, bw⟩ c (0) (Y)) 12 rfl (by kernel_rfl) (by kernel_rfl) (by kernel_rfl) rfl rfl S0.out.drew ?_
 apply Exists.intro
 refine ⟨fun r K hK => ?_, fun r W hD => ?_, ?_, ?_⟩
 · have K0 := fun x : Cls (SRb w w.heap.size #[.int .i64 32, .int .i64 na, .int .i64 nb, .int .i64 nc, .int .i64 nn, .int .i64 nm, .int .i64 si, .int .i64 sw, .string nt] ⟨0, aw⟩ ⟨0, bw⟩ c (0) (Y) r) => x.2.cells
   have hne : Nonempty (Cls (SRb w w.heap.size #[.int .i64 32, .int .i64 na, .int .i64 nb, .int .i64 nc, .int .i64 nn, .int .i64 nm, .int .i64 si, .int .i64 sw, .string nt] ⟨0, aw⟩ ⟨0, bw⟩ c (0) (Y) r)) := SRb.some S0.out r; simp only [List.take_succ_cons, List.take_zero]
   repeat go_big_quiet_step ((first | (go_at_call 93; exact zOb _ (zQr _ Y HY.out _)) | (go_at_call 143; (with_reducible show Calls _ _ #[.int .i64 nn, _, _] _ _); exact zCr _ (zEw nn 0 _ (16 - aw) x0 (by have := HW.out; unfold wrap64; omega) H0.out _))))
   exact wpQuiet_nil hK.out
 · obtain ⟨c0, c1, f0, f1, hD'⟩ := hD.store
   refine ⟨_, ?_, hD'⟩
   simp [execOp, go_sem, c0, c1, f0, f1]
 · kernel_rfl
 apply Exists.intro
 refine ⟨fun r K hK => ?_, fun W hD => ?_⟩
 · simp only [List.drop_succ_cons, List.drop_zero]
   have hne : Nonempty (Cls (SRb w w.heap.size #[.int .i64 32, .int .i64 na, .int .i64 nb, .int .i64 nc, .int .i64 nn, .int .i64 nm, .int .i64 si, .int .i64 sw, .string nt] ⟨0, aw⟩ ⟨0, bw⟩ c (0) (Y) r)) := SRb.some S0.out r
   repeat go_big_quiet_step (fail)
   exact wpQuiet_nil hK.out
 · go_wp2_with fail
   obtain ⟨u0, u1⟩ := SR.res (hD) (.int .i64 0) (.int .i64 Y) rfl
   exact bodyPost_ret (v := .tuple #[.agg #[.int .i64 0, .int .i64 Y], .bool x0]) (by simp [results, Tryz.results179, go_sem, u0, u1]) rfl ⟨⟨0, Y⟩, x0, rfl, (by rw [HS.out]; have g0 := H0.out; have g2 := HY.out; have g3 := HW.out; cases x0 <;> simp [wS] at g0 ⊢; unfold wrap64 at g2; omega), (hD).bel⟩
theorem zNu (na nb nc nn nm si sw : Int) (nt : ByteArray) (a b c : So) (w : World) (hw : (0 ≤ a.w ∧ a.w ≤ 16) ∧ 0 ≤ b.w ∧ b.w ≤ 16) (hi : a.i = 0 ∧ b.i = 0) : Calls Tryz.prog 179 #[.agg #[.int .i64 29, .int .i64 na, .int .i64 nb, .int .i64 nc, .int .i64 nn, .int .i64 nm, .int .i64 si, .int .i64 sw, .string nt], .agg #[.int .i64 a.i, .int .i64 a.w], .agg #[.int .i64 b.i, .int .i64 b.w], .agg #[.int .i64 c.i, .int .i64 c.w]] w
 fun e w' => SoP (zNp ⟨29, na, nb, nc, nn, nm, ⟨si, sw⟩, nt⟩ a b c) w e w' := by
 obtain ⟨ai, aw⟩ := a; obtain ⟨bi, bw⟩ := b; obtain ⟨h0, h1⟩ := hi; dsimp only at h0 h1 hw; subst h0 h1; dsimp only
 have hs : zNp ⟨29, na, nb, nc, nn, nm, ⟨si, sw⟩, nt⟩ ⟨0, aw⟩ ⟨0, bw⟩ c = if (decide (aw + bw ≤ 16)) = true then some (wS (aw + bw)) else none := by
  unfold zNp; rw [if_neg (show ¬ ((29 : Int) = 35 ∨ (29 : Int) = 36) by decide), if_neg (show ¬ (29 : Int) = 34 by decide), if_neg (show ¬ (29 : Int) = 33 by decide), if_neg (show ¬ (29 : Int) = 21 by decide), if_neg (show ¬ (29 : Int) = 37 by decide), if_neg (show ¬ (29 : Int) = 38 by decide), if_neg (by simp), if_neg (by simp), if_neg (by simp), if_neg (by simp), if_neg (by simp), if_pos rfl]; simp
 obtain ⟨x0, h0⟩ : ∃ x, decide (aw + bw ≤ 16) = x := ⟨_, rfl⟩
 rw [h0] at hs; have HS := Kh hs; clear hs; have e1 : wrap64 (aw + bw) = aw + bw := by unfold wrap64; omega
 have e2 : IntKind.i64.wrap (aw + bw) = aw + bw := zRa (by omega) (by omega)
 clear hw; have S0 := Kh (SR.zero w 29 na nb nc nn nm si sw nt ⟨0, aw⟩ ⟨0, bw⟩ c)
 go_enter Tryz.func179, Tryz.ntmps179
 go_wp2_with (go_at_call 143; (first | refine (zEx _ _ _ true (decide_eq_true (by omega)) _).mono ?_ | refine (zEx _ _ _ false (decide_eq_false (by omega)) _).mono ?_); rintro e wI ⟨rfl, rfl⟩)
 generalize (((((w.alloc (.cells #[.int .i64 29, .int .i64 na, .int .i64 nb, .int .i64 nc, .int .i64 nn, .int .i64 nm, .int .i64 si, .int .i64 sw, .string nt] 42)).alloc (.cells #[.int .i64 0, .int .i64 aw] 40)).alloc (.cells #[.int .i64 0, .int .i64 bw] 40)).alloc (.cells #[.int .i64 c.i, .int .i64 c.w] 40)).alloc (.cells #[.int .i64 0, .int .i64 0] 40)) = X at S0 ⊢
 refine zR8 (D := SRb w w.heap.size #[.int .i64 29, .int .i64 na, .int .i64 nb, .int .i64 nc, .int .i64 nn, .int .i64 nm, .int .i64 si, .int .i64 sw, .string nt] ⟨0, aw⟩ ⟨0, bw⟩ c (0) ((aw + bw))) 12 rfl (by kernel_rfl) (by kernel_rfl) (by kernel_rfl) rfl rfl S0.out.drew ?_
 apply Exists.intro
 refine ⟨fun r K hK => ?_, fun r W hD => ?_, ?_, ?_⟩
 · have K0 := fun x : Cls (SRb w w.heap.size #[.int .i64 29, .int .i64 na, .int .i64 nb, .int .i64 nc, .int .i64 nn, .int .i64 nm, .int .i64 si, .int .i64 sw, .string nt] ⟨0, aw⟩ ⟨0, bw⟩ c (0) ((aw + bw)) r) => x.2.cells
   have hne : Nonempty (Cls (SRb w w.heap.size #[.int .i64 29, .int .i64 na, .int .i64 nb, .int .i64 nc, .int .i64 nn, .int .i64 nm, .int .i64 si, .int .i64 sw, .string nt] ⟨0, aw⟩ ⟨0, bw⟩ c (0) ((aw + bw)) r)) := SRb.some S0.out r; simp only [List.take_succ_cons, List.take_zero]
   repeat go_big_quiet_step ((first | (go_at_call 93; exact zOb _ (zQs _ _))))
   exact wpQuiet_nil hK.out
 · obtain ⟨c0, c1, f0, f1, hD'⟩ := hD.store
   refine ⟨_, ?_, hD'⟩
   simp [execOp, go_sem, c0, c1, f0, f1]
 · kernel_rfl
 apply Exists.intro
 refine ⟨fun r K hK => ?_, fun W hD => ?_⟩
 · simp only [List.drop_succ_cons, List.drop_zero]
   have hne : Nonempty (Cls (SRb w w.heap.size #[.int .i64 29, .int .i64 na, .int .i64 nb, .int .i64 nc, .int .i64 nn, .int .i64 nm, .int .i64 si, .int .i64 sw, .string nt] ⟨0, aw⟩ ⟨0, bw⟩ c (0) ((aw + bw)) r)) := SRb.some S0.out r
   repeat go_big_quiet_step (fail)
   exact wpQuiet_nil hK.out
 · go_wp2_with fail
   obtain ⟨u0, u1⟩ := SR.res (hD) (.int .i64 0) (.int .i64 (aw + bw)) rfl
   exact bodyPost_ret (v := .tuple #[.agg #[.int .i64 0, .int .i64 (aw + bw)], .bool x0]) (by simp [results, Tryz.results179, go_sem, u0, u1]) rfl ⟨⟨0, (aw + bw)⟩, x0, rfl, HS.out.trans (by simp [wS]), (hD).bel⟩
theorem zNt (k : Int) (na nb nc nn nm si sw : Int) (nt : ByteArray) (a b c : So) (w : World) (hk : 22 ≤ k ∧ k ≤ 28) (hw : (0 ≤ a.w ∧ a.w ≤ 16) ∧ 0 ≤ b.w ∧ b.w ≤ 16) (hi : a.i = 0 ∧ b.i = 0) : Calls Tryz.prog 179 #[.agg #[.int .i64 k, .int .i64 na, .int .i64 nb, .int .i64 nc, .int .i64 nn, .int .i64 nm, .int .i64 si, .int .i64 sw, .string nt], .agg #[.int .i64 a.i, .int .i64 a.w], .agg #[.int .i64 b.i, .int .i64 b.w], .agg #[.int .i64 c.i, .int .i64 c.w]] w
 fun e w' => SoP (zNp ⟨k, na, nb, nc, nn, nm, ⟨si, sw⟩, nt⟩ a b c) w e w' := by
 obtain ⟨ai, aw⟩ := a; obtain ⟨bi, bw⟩ := b; obtain ⟨h0, h1⟩ := hi; dsimp only at h0 h1 hw; subst h0 h1; dsimp only
 have hs : zNp ⟨k, na, nb, nc, nn, nm, ⟨si, sw⟩, nt⟩ ⟨0, aw⟩ ⟨0, bw⟩ c = if (decide (aw = bw)) = true then some (wS 1) else none := by
  unfold zNp; simp only; rw [if_neg (by omega), if_neg (by omega), if_neg (by omega), if_neg (by omega), if_neg (by omega), if_neg (by omega), if_neg (by simp), if_neg (by omega), if_neg (by omega), if_neg (by omega), if_neg (by omega), if_neg (by omega), if_pos (show 22 ≤ k ∧ k ≤ 28 from hk)]; simp
 obtain ⟨x0, h0⟩ : ∃ x, decide (aw = bw) = x := ⟨_, rfl⟩
 rw [h0] at hs; have HS := Kh hs; clear hs; have q0 : ∀ w, _ := fun w => zDq (a := 0) (c := 0) (b := aw) (d := bw) (x := x0) (by rw [← h0]; simp) w
 clear h0 hw; have z35 : (k == 35) = false := by simp; omega
 have z36 : (k == 36) = false := by simp; omega
 have z34 : (k == 34) = false := by simp; omega
 have z33 : (k == 33) = false := by simp; omega
 have z21 : (k == 21) = false := by simp; omega
 have z37 : (k == 37) = false := by simp; omega
 have z38 : (k == 38) = false := by simp; omega
 have z1 : (k == 1) = false := by simp; omega
 have z2 : (k == 2) = false := by simp; omega
 have z30 : (k == 30) = false := by simp; omega
 have z31 : (k == 31) = false := by simp; omega
 have z32 : (k == 32) = false := by simp; omega
 have z29 : (k == 29) = false := by simp; omega
 have S0 := Kh (SR.zero w k na nb nc nn nm si sw nt ⟨0, aw⟩ ⟨0, bw⟩ c)
 go_enter Tryz.func179, Tryz.ntmps179
 go_wp2_with (go_at_call 143; (first | refine (zEx _ _ _ true (decide_eq_true (by omega)) _).mono ?_ | refine (zEx _ _ _ false (decide_eq_false (by omega)) _).mono ?_); rintro e wI ⟨rfl, rfl⟩)
 generalize (((((w.alloc (.cells #[.int .i64 k, .int .i64 na, .int .i64 nb, .int .i64 nc, .int .i64 nn, .int .i64 nm, .int .i64 si, .int .i64 sw, .string nt] 42)).alloc (.cells #[.int .i64 0, .int .i64 aw] 40)).alloc (.cells #[.int .i64 0, .int .i64 bw] 40)).alloc (.cells #[.int .i64 c.i, .int .i64 c.w] 40)).alloc (.cells #[.int .i64 0, .int .i64 0] 40)) = X at S0 ⊢
 refine zR8 (D := SRb w w.heap.size #[.int .i64 k, .int .i64 na, .int .i64 nb, .int .i64 nc, .int .i64 nn, .int .i64 nm, .int .i64 si, .int .i64 sw, .string nt] ⟨0, aw⟩ ⟨0, bw⟩ c (0) (1)) 4 rfl (by kernel_rfl) (by kernel_rfl) (by kernel_rfl) rfl rfl S0.out.drew ?_
 apply Exists.intro
 refine ⟨fun r K hK => ?_, fun r W hD => ?_, ?_, ?_⟩
 · have K0 := fun x : Cls (SRb w w.heap.size #[.int .i64 k, .int .i64 na, .int .i64 nb, .int .i64 nc, .int .i64 nn, .int .i64 nm, .int .i64 si, .int .i64 sw, .string nt] ⟨0, aw⟩ ⟨0, bw⟩ c (0) (1) r) => x.2.cells
   have hne : Nonempty (Cls (SRb w w.heap.size #[.int .i64 k, .int .i64 na, .int .i64 nb, .int .i64 nc, .int .i64 nn, .int .i64 nm, .int .i64 si, .int .i64 sw, .string nt] ⟨0, aw⟩ ⟨0, bw⟩ c (0) (1) r)) := SRb.some S0.out r; simp only [List.take_succ_cons, List.take_zero]
   repeat go_big_quiet_step ((first | (go_at_call 93; exact zOb _ (zQs _ _))))
   exact wpQuiet_nil hK.out
 · obtain ⟨c0, c1, f0, f1, hD'⟩ := hD.store
   refine ⟨_, ?_, hD'⟩
   simp [execOp, go_sem, c0, c1, f0, f1]
 · kernel_rfl
 apply Exists.intro
 refine ⟨fun r K hK => ?_, fun W hD => ?_⟩
 · simp only [List.drop_succ_cons, List.drop_zero]
   have hne : Nonempty (Cls (SRb w w.heap.size #[.int .i64 k, .int .i64 na, .int .i64 nb, .int .i64 nc, .int .i64 nn, .int .i64 nm, .int .i64 si, .int .i64 sw, .string nt] ⟨0, aw⟩ ⟨0, bw⟩ c (0) (1) r)) := SRb.some S0.out r
   repeat go_big_quiet_step (fail)
   exact wpQuiet_nil hK.out
 · go_wp2_with fail
   obtain ⟨u0, u1⟩ := SR.res (hD) (.int .i64 0) (.int .i64 1) rfl
   exact bodyPost_ret (v := .tuple #[.agg #[.int .i64 0, .int .i64 1], .bool x0]) (by simp [results, Tryz.results179, go_sem, u0, u1]) rfl ⟨⟨0, 1⟩, x0, rfl, HS.out.trans (by simp [wS]), (hD).bel⟩
theorem zO5 (k : Int) (na nb nc nn nm si sw : Int) (nt : ByteArray) (a b c : So) (w : World) (hk : 6 ≤ k ∧ k ≤ 20) (hw : (0 ≤ a.w ∧ a.w ≤ 16) ∧ 0 ≤ b.w ∧ b.w ≤ 16) (hi : a.i = 0 ∧ b.i = 0) : Calls Tryz.prog 179 #[.agg #[.int .i64 k, .int .i64 na, .int .i64 nb, .int .i64 nc, .int .i64 nn, .int .i64 nm, .int .i64 si, .int .i64 sw, .string nt], .agg #[.int .i64 a.i, .int .i64 a.w], .agg #[.int .i64 b.i, .int .i64 b.w], .agg #[.int .i64 c.i, .int .i64 c.w]] w
 fun e w' => SoP (zNp ⟨k, na, nb, nc, nn, nm, ⟨si, sw⟩, nt⟩ a b c) w e w' := by
 obtain ⟨ai, aw⟩ := a; obtain ⟨bi, bw⟩ := b; obtain ⟨h0, h1⟩ := hi; dsimp only at h0 h1 hw; subst h0 h1; dsimp only
 have hs : zNp ⟨k, na, nb, nc, nn, nm, ⟨si, sw⟩, nt⟩ ⟨0, aw⟩ ⟨0, bw⟩ c = if (decide (aw = bw)) = true then some ⟨0, aw⟩ else none := by
  unfold zNp; simp only; rw [if_neg (by omega), if_neg (by omega), if_neg (by omega), if_neg (by omega), if_neg (by omega), if_neg (by omega), if_neg (by simp), if_neg (by omega), if_neg (by omega), if_neg (by omega), if_neg (by omega), if_neg (by omega), if_neg (by omega : ¬ (22 ≤ k ∧ k ≤ 28))]; simp
 obtain ⟨x0, h0⟩ : ∃ x, decide (aw = bw) = x := ⟨_, rfl⟩
 rw [h0] at hs; have HS := Kh hs; clear hs; have q0 : ∀ w, _ := fun w => zDq (a := 0) (c := 0) (b := aw) (d := bw) (x := x0) (by rw [← h0]; simp) w
 clear h0 hw; have z35 : (k == 35) = false := by simp; omega
 have z36 : (k == 36) = false := by simp; omega
 have z34 : (k == 34) = false := by simp; omega
 have z33 : (k == 33) = false := by simp; omega
 have z21 : (k == 21) = false := by simp; omega
 have z37 : (k == 37) = false := by simp; omega
 have z38 : (k == 38) = false := by simp; omega
 have z1 : (k == 1) = false := by simp; omega
 have z2 : (k == 2) = false := by simp; omega
 have z30 : (k == 30) = false := by simp; omega
 have z31 : (k == 31) = false := by simp; omega
 have z32 : (k == 32) = false := by simp; omega
 have z29 : (k == 29) = false := by simp; omega
 have S0 := Kh (SR.zero w k na nb nc nn nm si sw nt ⟨0, aw⟩ ⟨0, bw⟩ c)
 go_enter Tryz.func179, Tryz.ntmps179
 go_wp2_with (go_at_call 143; (first | refine (zEx _ _ _ true (decide_eq_true (by omega)) _).mono ?_ | refine (zEx _ _ _ false (decide_eq_false (by omega)) _).mono ?_); rintro e wI ⟨rfl, rfl⟩)
 generalize (((((w.alloc (.cells #[.int .i64 k, .int .i64 na, .int .i64 nb, .int .i64 nc, .int .i64 nn, .int .i64 nm, .int .i64 si, .int .i64 sw, .string nt] 42)).alloc (.cells #[.int .i64 0, .int .i64 aw] 40)).alloc (.cells #[.int .i64 0, .int .i64 bw] 40)).alloc (.cells #[.int .i64 c.i, .int .i64 c.w] 40)).alloc (.cells #[.int .i64 0, .int .i64 0] 40)) = X at S0 ⊢
 refine zR8 (D := SRb w w.heap.size #[.int .i64 k, .int .i64 na, .int .i64 nb, .int .i64 nc, .int .i64 nn, .int .i64 nm, .int .i64 si, .int .i64 sw, .string nt] ⟨0, aw⟩ ⟨0, bw⟩ c (0) (aw)) 4 rfl (by kernel_rfl) (by kernel_rfl) (by kernel_rfl) rfl rfl S0.out.drew ?_
 apply Exists.intro
 refine ⟨fun r K hK => ?_, fun r W hD => ?_, ?_, ?_⟩
 · have K0 := fun x : Cls (SRb w w.heap.size #[.int .i64 k, .int .i64 na, .int .i64 nb, .int .i64 nc, .int .i64 nn, .int .i64 nm, .int .i64 si, .int .i64 sw, .string nt] ⟨0, aw⟩ ⟨0, bw⟩ c (0) (aw) r) => x.2.cells
   have hne : Nonempty (Cls (SRb w w.heap.size #[.int .i64 k, .int .i64 na, .int .i64 nb, .int .i64 nc, .int .i64 nn, .int .i64 nm, .int .i64 si, .int .i64 sw, .string nt] ⟨0, aw⟩ ⟨0, bw⟩ c (0) (aw) r)) := SRb.some S0.out r; simp only [List.take_succ_cons, List.take_zero]
   repeat go_big_quiet_step ((first | fail))
   exact wpQuiet_nil hK.out
 · obtain ⟨c0, c1, f0, f1, hD'⟩ := hD.store
   refine ⟨_, ?_, hD'⟩
   simp [execOp, go_sem, c0, c1, f0, f1]
 · kernel_rfl
 apply Exists.intro
 refine ⟨fun r K hK => ?_, fun W hD => ?_⟩
 · simp only [List.drop_succ_cons, List.drop_zero]
   have hne : Nonempty (Cls (SRb w w.heap.size #[.int .i64 k, .int .i64 na, .int .i64 nb, .int .i64 nc, .int .i64 nn, .int .i64 nm, .int .i64 si, .int .i64 sw, .string nt] ⟨0, aw⟩ ⟨0, bw⟩ c (0) (aw) r)) := SRb.some S0.out r
   repeat go_big_quiet_step (fail)
   exact wpQuiet_nil hK.out
 · go_wp2_with fail
   obtain ⟨u0, u1⟩ := SR.res (hD) (.int .i64 0) (.int .i64 aw) rfl
   exact bodyPost_ret (v := .tuple #[.agg #[.int .i64 0, .int .i64 aw], .bool x0]) (by simp [results, Tryz.results179, go_sem, u0, u1]) rfl ⟨⟨0, aw⟩, x0, rfl, HS.out.trans (by simp), (hD).bel⟩
end Go.Proofs.YtmolbnghobfmoaaGreat
