/- Part 12 of what the row Row28 rests on: G9. -/
import Derived.Test.YtmolbnghobfmoaaGreatP11
set_option maxRecDepth 100000
set_option maxHeartbeats 16000000
set_option linter.unusedSimpArgs false
set_option linter.unusedVariables false
namespace Go.Proofs.YtmolbnghobfmoaaGreat
open Go.RowKit
theorem zQh {w : Int} (h : 1 ≤ w ∧ w ≤ 16) : ∃ n : Nat, w = (n : Int) ∧ (1 ≤ n ∧ n ≤ 16) ∧ 0 < 2 ^ n := ⟨w.toNat, by omega, by omega, Nat.two_pow_pos _⟩
theorem zFp {u v : Int} (hu : 1 ≤ u ∧ u ≤ 16) (hv : 1 ≤ v ∧ v ≤ 16) (h : u + v ≤ 16) (W : World) : Calls Tryz.prog 163 #[.int .i64 u, .int .i64 0, .int .i64 v, .int .i64 0] W fun e w' => e = .returned (.tuple #[.int .i64 0, .int .i64 (u + v), .bool true]) ∧ W = w' := by
 obtain ⟨a, rfl, ha, pa⟩ := zQh hu; obtain ⟨b, rfl, hb, pb⟩ := zQh hv; have := zMt a 0 b 0 ha hb pa pb (by omega) W
 simpa using this
theorem zFo {u v : Int} (hu : 1 ≤ u ∧ u ≤ 16) (hv : 1 ≤ v ∧ v ≤ 16) (h : ¬ u + v ≤ 16) (W : World) : Calls Tryz.prog 163 #[.int .i64 u, .int .i64 0, .int .i64 v, .int .i64 0] W fun e w' => e = .returned (.tuple #[.int .i64 0, .int .i64 0, .bool false]) ∧ W = w' := by
 obtain ⟨a, rfl, ha, pa⟩ := zQh hu; obtain ⟨b, rfl, hb, pb⟩ := zQh hv; have := zMs a 0 b 0 ha hb pa pb (by omega) W
 simpa using this
theorem zNa {u hi lo : Int} (hu : 1 ≤ u ∧ u ≤ 16) (h : 0 ≤ lo ∧ lo ≤ hi ∧ hi ≤ u - 1) (W : World) : Calls Tryz.prog 164 #[.int .i64 u, .int .i64 0, .int .i64 hi, .int .i64 lo] W fun e w' => e = .returned (.tuple #[.int .i64 0, .int .i64 (hi - lo + 1), .bool true]) ∧ W = w' := by
 obtain ⟨a, rfl, ha, pa⟩ := zQh hu; obtain ⟨x, rfl⟩ : ∃ x : Nat, hi = (x : Int) := ⟨hi.toNat, by omega⟩
 obtain ⟨y, rfl⟩ : ∃ y : Nat, lo = (y : Int) := ⟨lo.toNat, by omega⟩
 have := zMz a 0 x y ha pa (by omega) (by omega) W
 rw [Nat.zero_div, Nat.zero_mod, show ((x - y + 1 : Nat) : Int) = (x : Int) - (y : Int) + 1 by omega] at this
 exact this
theorem zN9 {u hi lo : Int} (hu : 1 ≤ u ∧ u ≤ 16) (h : ¬ (0 ≤ lo ∧ lo ≤ hi ∧ hi ≤ u - 1)) (W : World) : Calls Tryz.prog 164 #[.int .i64 u, .int .i64 0, .int .i64 hi, .int .i64 lo] W fun e w' => e = .returned (.tuple #[.int .i64 0, .int .i64 0, .bool false]) ∧ W = w' := by
 obtain ⟨a, rfl, ha, pa⟩ := zQh hu
 exact zMy a 0 hi lo ha pa h W
theorem zEc {u n : Int} (hu : 1 ≤ u ∧ u ≤ 16) (h : 0 ≤ n ∧ n ≤ 16 - u) (W : World) : Calls Tryz.prog 165 #[.int .i64 u, .int .i64 0, .int .i64 n, .bool false] W fun e w' => e = .returned (.tuple #[.int .i64 0, .int .i64 (u + n), .bool true]) ∧ W = w' := by
 obtain ⟨a, rfl, ha, pa⟩ := zQh hu; obtain ⟨x, rfl⟩ : ∃ x : Nat, n = (x : Int) := ⟨n.toNat, by omega⟩
 have := zMr a 0 x false ha pa (by omega) W
 simpa [zEe] using this
theorem zEb {u n : Int} (hu : 1 ≤ u ∧ u ≤ 16) (h : ¬ (0 ≤ n ∧ n ≤ 16 - u)) (W : World) : Calls Tryz.prog 165 #[.int .i64 u, .int .i64 0, .int .i64 n, .bool false] W fun e w' => e = .returned (.tuple #[.int .i64 0, .int .i64 0, .bool false]) ∧ W = w' := by
 obtain ⟨a, rfl, ha, pa⟩ := zQh hu
 exact zMq a 0 n false ha pa h W
theorem one0' {k u : Int} (hk : 1 ≤ k ∧ k ≤ 5) (hu : 1 ≤ u ∧ u ≤ 16) : ∃ v, ∀ W : World, Calls Tryz.prog 166 #[.int .i64 k, .int .i64 u, .int .i64 0] W fun e w' => e = .returned (.tuple #[.int .i64 v, .int .i64 (if k ≤ 2 then u else 1), .bool true]) ∧ W = w' := by
 obtain ⟨a, rfl, ha, pa⟩ := zQh hu; obtain ⟨x, rfl⟩ : ∃ x : Nat, k = (x : Int) := ⟨k.toNat, by omega⟩
 have := fun W => zMw x a 0 (by omega) ha pa W
 have e : (zIw x a : Int) = if (x : Int) ≤ 2 then (a : Int) else 1 := by
  unfold zIw
  by_cases h : x ≤ 2
  · rw [if_pos h, if_pos (by omega)]
  · rw [if_neg h, if_neg (by omega)]; rfl
 rw [e] at this
 exact ⟨_, this⟩
theorem two0' {k u : Int} (hk : 6 ≤ k ∧ k ≤ 28) (hu : 1 ≤ u ∧ u ≤ 16) : ∃ v, ∀ W : World, Calls Tryz.prog 167 #[.int .i64 k, .int .i64 u, .int .i64 0, .int .i64 0] W fun e w' => e = .returned (.tuple #[.int .i64 v, .int .i64 (if k ≤ 20 then u else 1), .bool true]) ∧ Below W.heap.size W w' := by
 obtain ⟨a, rfl, ha, pa⟩ := zQh hu; obtain ⟨x, rfl⟩ : ∃ x : Nat, k = (x : Int) := ⟨k.toNat, by omega⟩
 have := fun W => zN0 x a 0 0 (by omega) ha pa pa W
 have e : (zPt x a : Int) = if (x : Int) ≤ 20 then (a : Int) else 1 := by
  unfold zPt
  by_cases h : x ≤ 20
  · rw [if_pos h, if_pos (by omega)]
  · rw [if_neg h, if_neg (by omega)]; rfl
 rw [e] at this
 exact ⟨_, this⟩
theorem zGf (A : Option Addr) (cap : Nat) (na nb nc nn nm si sw : Int) (nt : ByteArray) (a : So) (w : World) (hS : zAh w A [a]) (ha : sortOk a) : Calls Tryz.prog 157 #[.agg #[.int .i64 30, .int .i64 na, .int .i64 nb, .int .i64 nc, .int .i64 nn, .int .i64 nm, .int .i64 si, .int .i64 sw, .string nt], .slice A 1 cap] w fun e w' => SoP (zNp ⟨30, na, nb, nc, nn, nm, ⟨si, sw⟩, nt⟩ a ⟨0, 0⟩ ⟨0, 0⟩) w e w' := by
 obtain ⟨g, rfl, hg, hc⟩ := hS (by simp)
 obtain ⟨y0, y1⟩ := hc 0 (by simp)
 simp only [List.getElem_cons_zero, List.getElem_cons_succ, Nat.zero_mul, Nat.zero_add, Nat.one_mul, Nat.reduceMul, Nat.reduceAdd] at y0 y1; clear hc hS; have Y0 := Kh y0; have Y1 := Kh y1; clear y0 y1; have hai := ha.1.1; have haw := ha.2; have NONE : Hid (0 < a.i → zNp ⟨30, na, nb, nc, nn, nm, ⟨si, sw⟩, nt⟩ a ⟨0, 0⟩ ⟨0, 0⟩ = none) := Kh (fun h => by unfold zNp; dsimp only; rw [if_neg (show ¬ ((30 : Int) = 35 ∨ (30 : Int) = 36) by omega), if_neg (show ¬ (30 : Int) = 34 by omega), if_neg (show ¬ (30 : Int) = 33 by omega), if_neg (show ¬ (30 : Int) = 21 by omega), if_neg (show ¬ (30 : Int) = 37 by omega), if_neg (show ¬ (30 : Int) = 38 by omega), if_pos (by exact .inl (by omega))])
 have HK : Hid (a.i = 0 → zNp ⟨30, na, nb, nc, nn, nm, ⟨si, sw⟩, nt⟩ a ⟨0, 0⟩ ⟨0, 0⟩ = if (0 ≤ nn ∧ nn ≤ a.w - 1) ∧ 0 ≤ nm ∧ nm ≤ nn then some ⟨0, nn - nm + 1⟩ else none) := Kh (fun h => by
  unfold zNp; dsimp only; rw [if_neg (show ¬ ((30 : Int) = 35 ∨ (30 : Int) = 36) by omega), if_neg (show ¬ (30 : Int) = 34 by omega), if_neg (show ¬ (30 : Int) = 33 by omega), if_neg (show ¬ (30 : Int) = 21 by omega), if_neg (show ¬ (30 : Int) = 37 by omega), if_neg (show ¬ (30 : Int) = 38 by omega), if_neg (by rw [h]; decide), if_neg (by decide), if_neg (by decide), if_pos rfl]; rfl)
 have S0 := Kh (RX.made w #[.int .i64 30, .int .i64 na, .int .i64 nb, .int .i64 nc, .int .i64 nn, .int .i64 nm, .int .i64 si, .int .i64 sw, .string nt])
 go_enter Tryz.func157, Tryz.ntmps157
 go_wp2_with fail
 obtain ⟨w1, hwz⟩ : ∃ z, ((w.alloc (.cells #[.int .i64 30, .int .i64 na, .int .i64 nb, .int .i64 nc, .int .i64 nn, .int .i64 nm, .int .i64 si, .int .i64 sw, .string nt] 42)).alloc (.cells #[.int .i64 0, .int .i64 0] 40)) = z := ⟨_, rfl⟩
 rw [hwz] at S0 ⊢; clear hwz; have S1 := S0; clear S0; have hgz : g < w1.heap.size := Nat.lt_of_lt_of_le hg S1.out.bel.size; have hbz : w.heap.size < w1.heap.size := S1.out.b0.lt; obtain ⟨b0, b1, b2, b3, b4, b5, b6, b7, b8⟩ := S1.out.b0.nine; obtain ⟨r0, r1⟩ := S1.out.b1.two; have f0 := S1.out.b1.frozen 0; have f1 := S1.out.b1.frozen 1; have v0 := S1.out.old hg Y0.out
 go_loop [6] (fun j => ∃ r : Nat, r ≤ 1 ∧ Hid (0 < r → a.i = 0) ∧ j = .int .i64 (r : Int)) (fun j => 1 - (intOf j).toNat)
 case atStart => exact ⟨0, by decide, Kh (fun h => absurd h (by omega)), rfl⟩
 case round =>
  obtain ⟨r, hr, H0, rfl⟩ := hrel
  rcases (show r = 0 ∨ r = 1 by omega) with rfl | rfl
  · by_cases hp : 0 < a.i
    · have HP := Kh (S1.out.put rfl (.int .i64 0) (.int .i64 0))
      have HN := Kh (NONE.out (by omega))
      go_wp2_with fail
      exact bodyPost_ret (v := .tuple #[.agg #[.int .i64 0, .int .i64 0], .bool false]) (by simp [results, Tryz.results157, go_sem, r0, r1]) rfl ⟨⟨0, 0⟩, false, rfl, HN.out, HP.out.bel⟩
    · have dp : decide (0 < a.i) = false := decide_eq_false hp
      have HZ : Hid (0 < 1 → a.i = 0) := Kh (fun _ => by omega)
      go_wp2_with fail
      go_round
      case rel => exact ⟨1, by omega, HZ, rfl⟩
      case measure => simp [intOf]
  · have E0 := H0.out (by omega)
    have HE0 := Kh E0; clear E0 H0 v0
    by_cases hc : 0 ≤ nm ∧ nm ≤ nn ∧ nn ≤ a.w - 1
    · have HF := Kh ((HK.out HE0.out).trans (if_pos (by omega)))
      have T := Kh (fun W => zNa haw hc W)
      generalize hwd : nn - nm + 1 = wd at *; clear hwd hc
      go_wp2_with fail
      have z0 := S1.out.old hg Y0.out; have k0 := fun x : Ext w1 => zDt z0 hgz x
      have z1 := S1.out.old hg Y1.out; have k1 := fun x : Ext w1 => zDt z1 hgz x
      have kb0 := fun x : Ext w1 => zDt b0 hbz x
      have kb4 := fun x : Ext w1 => zDt b4 hbz x
      have kb5 := fun x : Ext w1 => zDt b5 hbz x
      refine zR4 (by kernel_rfl) (by kernel_rfl) ?_
      repeat go_big_quiet_step ((go_at_call 164; exact zDv _ (T.out _)))
      refine wpQuiet_nil ?_
      intro wt hwt; obtain ⟨xt, hwx⟩ := hwt; subst hwx; have S2 := Kh (S1.out.below xt.2); obtain ⟨r0, r1⟩ := S2.out.b1.two; clear kb0 kb4 kb5 k0 z0 k1 z1
      go_wp2_with (go_at_call 104; refine (zGo _ _).mono ?_; rintro e w3 ⟨rfl, hb3⟩; have S3 := Kh (S2.out.below hb3); obtain ⟨r0, r1⟩ := S3.out.b1.two; have f0 := S3.out.b1.frozen 0; have f1 := S3.out.b1.frozen 1; clear hb3)
      have HP := Kh (S3.out.put rfl (.int .i64 0) (.int .i64 (wd)))
      exact bodyPost_ret (v := .tuple #[.agg #[.int .i64 0, .int .i64 (wd)], .bool true]) (by simp [results, Tryz.results157, go_sem, r0, r1]) rfl ⟨⟨0, wd⟩, true, rfl, HF.out, HP.out.bel⟩
    · have HF := Kh ((HK.out HE0.out).trans (if_neg (by omega)))
      have T := Kh (fun W => zN9 haw hc W)
      clear hc
      go_wp2_with fail
      have z0 := S1.out.old hg Y0.out; have k0 := fun x : Ext w1 => zDt z0 hgz x
      have z1 := S1.out.old hg Y1.out; have k1 := fun x : Ext w1 => zDt z1 hgz x
      have kb0 := fun x : Ext w1 => zDt b0 hbz x
      have kb4 := fun x : Ext w1 => zDt b4 hbz x
      have kb5 := fun x : Ext w1 => zDt b5 hbz x
      refine zR4 (by kernel_rfl) (by kernel_rfl) ?_
      repeat go_big_quiet_step ((go_at_call 164; exact zDv _ (T.out _)))
      refine wpQuiet_nil ?_
      intro wt hwt; obtain ⟨xt, hwx⟩ := hwt; subst hwx; have S2 := Kh (S1.out.below xt.2); obtain ⟨r0, r1⟩ := S2.out.b1.two; clear kb0 kb4 kb5 k0 z0 k1 z1
      go_wp2_with (go_at_call 104; refine (zGo _ _).mono ?_; rintro e w3 ⟨rfl, hb3⟩; have S3 := Kh (S2.out.below hb3); obtain ⟨r0, r1⟩ := S3.out.b1.two; have f0 := S3.out.b1.frozen 0; have f1 := S3.out.b1.frozen 1; clear hb3)
      have HP := Kh (S3.out.put rfl (.int .i64 0) (.int .i64 (0)))
      exact bodyPost_ret (v := .tuple #[.agg #[.int .i64 0, .int .i64 (0)], .bool false]) (by simp [results, Tryz.results157, go_sem, r0, r1]) rfl ⟨⟨0, 0⟩, false, rfl, HF.out, HP.out.bel⟩
theorem zGg (A : Option Addr) (cap : Nat) (na nb nc nn nm si sw : Int) (nt : ByteArray) (a : So) (w : World) (hS : zAh w A [a]) (ha : sortOk a) : Calls Tryz.prog 157 #[.agg #[.int .i64 31, .int .i64 na, .int .i64 nb, .int .i64 nc, .int .i64 nn, .int .i64 nm, .int .i64 si, .int .i64 sw, .string nt], .slice A 1 cap] w fun e w' => SoP (zNp ⟨31, na, nb, nc, nn, nm, ⟨si, sw⟩, nt⟩ a ⟨0, 0⟩ ⟨0, 0⟩) w e w' := by
 obtain ⟨g, rfl, hg, hc⟩ := hS (by simp)
 obtain ⟨y0, y1⟩ := hc 0 (by simp)
 simp only [List.getElem_cons_zero, List.getElem_cons_succ, Nat.zero_mul, Nat.zero_add, Nat.one_mul, Nat.reduceMul, Nat.reduceAdd] at y0 y1; clear hc hS; have Y0 := Kh y0; have Y1 := Kh y1; clear y0 y1; have hai := ha.1.1; have haw := ha.2; have NONE : Hid (0 < a.i → zNp ⟨31, na, nb, nc, nn, nm, ⟨si, sw⟩, nt⟩ a ⟨0, 0⟩ ⟨0, 0⟩ = none) := Kh (fun h => by unfold zNp; dsimp only; rw [if_neg (show ¬ ((31 : Int) = 35 ∨ (31 : Int) = 36) by omega), if_neg (show ¬ (31 : Int) = 34 by omega), if_neg (show ¬ (31 : Int) = 33 by omega), if_neg (show ¬ (31 : Int) = 21 by omega), if_neg (show ¬ (31 : Int) = 37 by omega), if_neg (show ¬ (31 : Int) = 38 by omega), if_pos (by exact .inl (by omega))])
 have HK : Hid (a.i = 0 → zNp ⟨31, na, nb, nc, nn, nm, ⟨si, sw⟩, nt⟩ a ⟨0, 0⟩ ⟨0, 0⟩ = if 0 ≤ nn ∧ nn ≤ 16 - a.w then some ⟨0, a.w + nn⟩ else none) := Kh (fun h => by
  unfold zNp; dsimp only; rw [if_neg (show ¬ ((31 : Int) = 35 ∨ (31 : Int) = 36) by omega), if_neg (show ¬ (31 : Int) = 34 by omega), if_neg (show ¬ (31 : Int) = 33 by omega), if_neg (show ¬ (31 : Int) = 21 by omega), if_neg (show ¬ (31 : Int) = 37 by omega), if_neg (show ¬ (31 : Int) = 38 by omega), if_neg (by rw [h]; decide), if_neg (by decide), if_neg (by decide), if_neg (by decide), if_pos (by decide)]; rfl)
 have S0 := Kh (RX.made w #[.int .i64 31, .int .i64 na, .int .i64 nb, .int .i64 nc, .int .i64 nn, .int .i64 nm, .int .i64 si, .int .i64 sw, .string nt])
 go_enter Tryz.func157, Tryz.ntmps157
 go_wp2_with fail
 obtain ⟨w1, hwz⟩ : ∃ z, ((w.alloc (.cells #[.int .i64 31, .int .i64 na, .int .i64 nb, .int .i64 nc, .int .i64 nn, .int .i64 nm, .int .i64 si, .int .i64 sw, .string nt] 42)).alloc (.cells #[.int .i64 0, .int .i64 0] 40)) = z := ⟨_, rfl⟩
 rw [hwz] at S0 ⊢; clear hwz; have S1 := S0; clear S0; have hgz : g < w1.heap.size := Nat.lt_of_lt_of_le hg S1.out.bel.size; have hbz : w.heap.size < w1.heap.size := S1.out.b0.lt; obtain ⟨b0, b1, b2, b3, b4, b5, b6, b7, b8⟩ := S1.out.b0.nine; obtain ⟨r0, r1⟩ := S1.out.b1.two; have f0 := S1.out.b1.frozen 0; have f1 := S1.out.b1.frozen 1; have v0 := S1.out.old hg Y0.out
 go_loop [6] (fun j => ∃ r : Nat, r ≤ 1 ∧ Hid (0 < r → a.i = 0) ∧ j = .int .i64 (r : Int)) (fun j => 1 - (intOf j).toNat)
 case atStart => exact ⟨0, by decide, Kh (fun h => absurd h (by omega)), rfl⟩
 case round =>
  obtain ⟨r, hr, H0, rfl⟩ := hrel
  rcases (show r = 0 ∨ r = 1 by omega) with rfl | rfl
  · by_cases hp : 0 < a.i
    · have HP := Kh (S1.out.put rfl (.int .i64 0) (.int .i64 0))
      have HN := Kh (NONE.out (by omega))
      go_wp2_with fail
      exact bodyPost_ret (v := .tuple #[.agg #[.int .i64 0, .int .i64 0], .bool false]) (by simp [results, Tryz.results157, go_sem, r0, r1]) rfl ⟨⟨0, 0⟩, false, rfl, HN.out, HP.out.bel⟩
    · have dp : decide (0 < a.i) = false := decide_eq_false hp
      have HZ : Hid (0 < 1 → a.i = 0) := Kh (fun _ => by omega)
      go_wp2_with fail
      go_round
      case rel => exact ⟨1, by omega, HZ, rfl⟩
      case measure => simp [intOf]
  · have E0 := H0.out (by omega)
    have HE0 := Kh E0; clear E0 H0 v0
    by_cases hc : 0 ≤ nn ∧ nn ≤ 16 - a.w
    · have HF := Kh ((HK.out HE0.out).trans (if_pos hc))
      have T := Kh (fun W => zEc haw hc W)
      generalize hwd : a.w + nn = wd at *; clear hwd hc
      go_wp2_with fail
      have z0 := S1.out.old hg Y0.out; have k0 := fun x : Ext w1 => zDt z0 hgz x
      have z1 := S1.out.old hg Y1.out; have k1 := fun x : Ext w1 => zDt z1 hgz x
      have kb0 := fun x : Ext w1 => zDt b0 hbz x
      have kb4 := fun x : Ext w1 => zDt b4 hbz x
      have kb5 := fun x : Ext w1 => zDt b5 hbz x
      refine zR4 (by kernel_rfl) (by kernel_rfl) ?_
      repeat go_big_quiet_step ((go_at_call 165; exact zDv _ (T.out _)))
      refine wpQuiet_nil ?_
      intro wt hwt; obtain ⟨xt, hwx⟩ := hwt; subst hwx; have S2 := Kh (S1.out.below xt.2); obtain ⟨r0, r1⟩ := S2.out.b1.two; clear kb0 kb4 kb5 k0 z0 k1 z1
      go_wp2_with (go_at_call 104; refine (zGo _ _).mono ?_; rintro e w3 ⟨rfl, hb3⟩; have S3 := Kh (S2.out.below hb3); obtain ⟨r0, r1⟩ := S3.out.b1.two; have f0 := S3.out.b1.frozen 0; have f1 := S3.out.b1.frozen 1; clear hb3)
      have HP := Kh (S3.out.put rfl (.int .i64 0) (.int .i64 (wd)))
      exact bodyPost_ret (v := .tuple #[.agg #[.int .i64 0, .int .i64 (wd)], .bool true]) (by simp [results, Tryz.results157, go_sem, r0, r1]) rfl ⟨⟨0, wd⟩, true, rfl, HF.out, HP.out.bel⟩
    · have HF := Kh ((HK.out HE0.out).trans (if_neg hc))
      have T := Kh (fun W => zEb haw hc W)
      clear hc
      go_wp2_with fail
      have z0 := S1.out.old hg Y0.out; have k0 := fun x : Ext w1 => zDt z0 hgz x
      have z1 := S1.out.old hg Y1.out; have k1 := fun x : Ext w1 => zDt z1 hgz x
      have kb0 := fun x : Ext w1 => zDt b0 hbz x
      have kb4 := fun x : Ext w1 => zDt b4 hbz x
      have kb5 := fun x : Ext w1 => zDt b5 hbz x
      refine zR4 (by kernel_rfl) (by kernel_rfl) ?_
      repeat go_big_quiet_step ((go_at_call 165; exact zDv _ (T.out _)))
      refine wpQuiet_nil ?_
      intro wt hwt; obtain ⟨xt, hwx⟩ := hwt; subst hwx; have S2 := Kh (S1.out.below xt.2); obtain ⟨r0, r1⟩ := S2.out.b1.two; clear kb0 kb4 kb5 k0 z0 k1 z1
      go_wp2_with (go_at_call 104; refine (zGo _ _).mono ?_; rintro e w3 ⟨rfl, hb3⟩; have S3 := Kh (S2.out.below hb3); obtain ⟨r0, r1⟩ := S3.out.b1.two; have f0 := S3.out.b1.frozen 0; have f1 := S3.out.b1.frozen 1; clear hb3)
      have HP := Kh (S3.out.put rfl (.int .i64 0) (.int .i64 (0)))
      exact bodyPost_ret (v := .tuple #[.agg #[.int .i64 0, .int .i64 (0)], .bool false]) (by simp [results, Tryz.results157, go_sem, r0, r1]) rfl ⟨⟨0, 0⟩, false, rfl, HF.out, HP.out.bel⟩
theorem zGh (A : Option Addr) (cap : Nat) (na nb nc nn nm si sw : Int) (nt : ByteArray) (a : So) (w : World) (hS : zAh w A [a]) (ha : sortOk a) : Calls Tryz.prog 157 #[.agg #[.int .i64 32, .int .i64 na, .int .i64 nb, .int .i64 nc, .int .i64 nn, .int .i64 nm, .int .i64 si, .int .i64 sw, .string nt], .slice A 1 cap] w fun e w' => SoP (zNp ⟨32, na, nb, nc, nn, nm, ⟨si, sw⟩, nt⟩ a ⟨0, 0⟩ ⟨0, 0⟩) w e w' := by
 obtain ⟨g, rfl, hg, hc⟩ := hS (by simp)
 obtain ⟨y0, y1⟩ := hc 0 (by simp)
 simp only [List.getElem_cons_zero, List.getElem_cons_succ, Nat.zero_mul, Nat.zero_add, Nat.one_mul, Nat.reduceMul, Nat.reduceAdd] at y0 y1; clear hc hS; have Y0 := Kh y0; have Y1 := Kh y1; clear y0 y1; have hai := ha.1.1; have haw := ha.2; have NONE : Hid (0 < a.i → zNp ⟨32, na, nb, nc, nn, nm, ⟨si, sw⟩, nt⟩ a ⟨0, 0⟩ ⟨0, 0⟩ = none) := Kh (fun h => by unfold zNp; dsimp only; rw [if_neg (show ¬ ((32 : Int) = 35 ∨ (32 : Int) = 36) by omega), if_neg (show ¬ (32 : Int) = 34 by omega), if_neg (show ¬ (32 : Int) = 33 by omega), if_neg (show ¬ (32 : Int) = 21 by omega), if_neg (show ¬ (32 : Int) = 37 by omega), if_neg (show ¬ (32 : Int) = 38 by omega), if_pos (by exact .inl (by omega))])
 have HK : Hid (a.i = 0 → zNp ⟨32, na, nb, nc, nn, nm, ⟨si, sw⟩, nt⟩ a ⟨0, 0⟩ ⟨0, 0⟩ = if 0 ≤ nn ∧ nn ≤ 16 - a.w then some ⟨0, a.w + nn⟩ else none) := Kh (fun h => by
  unfold zNp; dsimp only; rw [if_neg (show ¬ ((32 : Int) = 35 ∨ (32 : Int) = 36) by omega), if_neg (show ¬ (32 : Int) = 34 by omega), if_neg (show ¬ (32 : Int) = 33 by omega), if_neg (show ¬ (32 : Int) = 21 by omega), if_neg (show ¬ (32 : Int) = 37 by omega), if_neg (show ¬ (32 : Int) = 38 by omega), if_neg (by rw [h]; decide), if_neg (by decide), if_neg (by decide), if_neg (by decide), if_pos (by decide)]; rfl)
 have S0 := Kh (RX.made w #[.int .i64 32, .int .i64 na, .int .i64 nb, .int .i64 nc, .int .i64 nn, .int .i64 nm, .int .i64 si, .int .i64 sw, .string nt])
 go_enter Tryz.func157, Tryz.ntmps157
 go_wp2_with fail
 obtain ⟨w1, hwz⟩ : ∃ z, ((w.alloc (.cells #[.int .i64 32, .int .i64 na, .int .i64 nb, .int .i64 nc, .int .i64 nn, .int .i64 nm, .int .i64 si, .int .i64 sw, .string nt] 42)).alloc (.cells #[.int .i64 0, .int .i64 0] 40)) = z := ⟨_, rfl⟩
 rw [hwz] at S0 ⊢; clear hwz; have S1 := S0; clear S0; have hgz : g < w1.heap.size := Nat.lt_of_lt_of_le hg S1.out.bel.size; have hbz : w.heap.size < w1.heap.size := S1.out.b0.lt; obtain ⟨b0, b1, b2, b3, b4, b5, b6, b7, b8⟩ := S1.out.b0.nine; obtain ⟨r0, r1⟩ := S1.out.b1.two; have f0 := S1.out.b1.frozen 0; have f1 := S1.out.b1.frozen 1; have v0 := S1.out.old hg Y0.out
 go_loop [6] (fun j => ∃ r : Nat, r ≤ 1 ∧ Hid (0 < r → a.i = 0) ∧ j = .int .i64 (r : Int)) (fun j => 1 - (intOf j).toNat)
 case atStart => exact ⟨0, by decide, Kh (fun h => absurd h (by omega)), rfl⟩
 case round =>
  obtain ⟨r, hr, H0, rfl⟩ := hrel
  rcases (show r = 0 ∨ r = 1 by omega) with rfl | rfl
  · by_cases hp : 0 < a.i
    · have HP := Kh (S1.out.put rfl (.int .i64 0) (.int .i64 0))
      have HN := Kh (NONE.out (by omega))
      go_wp2_with fail
      exact bodyPost_ret (v := .tuple #[.agg #[.int .i64 0, .int .i64 0], .bool false]) (by simp [results, Tryz.results157, go_sem, r0, r1]) rfl ⟨⟨0, 0⟩, false, rfl, HN.out, HP.out.bel⟩
    · have dp : decide (0 < a.i) = false := decide_eq_false hp
      have HZ : Hid (0 < 1 → a.i = 0) := Kh (fun _ => by omega)
      go_wp2_with fail
      go_round
      case rel => exact ⟨1, by omega, HZ, rfl⟩
      case measure => simp [intOf]
  · have E0 := H0.out (by omega)
    have HE0 := Kh E0; clear E0 H0 v0
    by_cases hc : 0 ≤ nn ∧ nn ≤ 16 - a.w
    · have HF := Kh ((HK.out HE0.out).trans (if_pos hc))
      have T := Kh (fun W => zEc haw hc W)
      generalize hwd : a.w + nn = wd at *; clear hwd hc
      go_wp2_with fail
      have z0 := S1.out.old hg Y0.out; have k0 := fun x : Ext w1 => zDt z0 hgz x
      have z1 := S1.out.old hg Y1.out; have k1 := fun x : Ext w1 => zDt z1 hgz x
      have kb0 := fun x : Ext w1 => zDt b0 hbz x
      have kb4 := fun x : Ext w1 => zDt b4 hbz x
      have kb5 := fun x : Ext w1 => zDt b5 hbz x
      refine zR4 (by kernel_rfl) (by kernel_rfl) ?_
      repeat go_big_quiet_step ((go_at_call 165; exact zDv _ (T.out _)))
      refine wpQuiet_nil ?_
      intro wt hwt; obtain ⟨xt, hwx⟩ := hwt; subst hwx; have S2 := Kh (S1.out.below xt.2); obtain ⟨r0, r1⟩ := S2.out.b1.two; clear kb0 kb4 kb5 k0 z0 k1 z1
      go_wp2_with (go_at_call 104; refine (zGo _ _).mono ?_; rintro e w3 ⟨rfl, hb3⟩; have S3 := Kh (S2.out.below hb3); obtain ⟨r0, r1⟩ := S3.out.b1.two; have f0 := S3.out.b1.frozen 0; have f1 := S3.out.b1.frozen 1; clear hb3)
      have HP := Kh (S3.out.put rfl (.int .i64 0) (.int .i64 (wd)))
      exact bodyPost_ret (v := .tuple #[.agg #[.int .i64 0, .int .i64 (wd)], .bool true]) (by simp [results, Tryz.results157, go_sem, r0, r1]) rfl ⟨⟨0, wd⟩, true, rfl, HF.out, HP.out.bel⟩
    · have HF := Kh ((HK.out HE0.out).trans (if_neg hc))
      have T := Kh (fun W => zEb haw hc W)
      clear hc
      go_wp2_with fail
      have z0 := S1.out.old hg Y0.out; have k0 := fun x : Ext w1 => zDt z0 hgz x
      have z1 := S1.out.old hg Y1.out; have k1 := fun x : Ext w1 => zDt z1 hgz x
      have kb0 := fun x : Ext w1 => zDt b0 hbz x
      have kb4 := fun x : Ext w1 => zDt b4 hbz x
      have kb5 := fun x : Ext w1 => zDt b5 hbz x
      refine zR4 (by kernel_rfl) (by kernel_rfl) ?_
      repeat go_big_quiet_step ((go_at_call 165; exact zDv _ (T.out _)))
      refine wpQuiet_nil ?_
      intro wt hwt; obtain ⟨xt, hwx⟩ := hwt; subst hwx; have S2 := Kh (S1.out.below xt.2); obtain ⟨r0, r1⟩ := S2.out.b1.two; clear kb0 kb4 kb5 k0 z0 k1 z1
      go_wp2_with (go_at_call 104; refine (zGo _ _).mono ?_; rintro e w3 ⟨rfl, hb3⟩; have S3 := Kh (S2.out.below hb3); obtain ⟨r0, r1⟩ := S3.out.b1.two; have f0 := S3.out.b1.frozen 0; have f1 := S3.out.b1.frozen 1; clear hb3)
      have HP := Kh (S3.out.put rfl (.int .i64 0) (.int .i64 (0)))
      exact bodyPost_ret (v := .tuple #[.agg #[.int .i64 0, .int .i64 (0)], .bool false]) (by simp [results, Tryz.results157, go_sem, r0, r1]) rfl ⟨⟨0, 0⟩, false, rfl, HF.out, HP.out.bel⟩
theorem zGl (A : Option Addr) (cap : Nat) (k na nb nc nn nm si sw : Int) (nt : ByteArray) (a : So) (w : World) (hS : zAh w A [a]) (ha : sortOk a) (hk : 1 ≤ k ∧ k ≤ 5) : Calls Tryz.prog 157 #[.agg #[.int .i64 k, .int .i64 na, .int .i64 nb, .int .i64 nc, .int .i64 nn, .int .i64 nm, .int .i64 si, .int .i64 sw, .string nt], .slice A 1 cap] w fun e w' => SoP (zNp ⟨k, na, nb, nc, nn, nm, ⟨si, sw⟩, nt⟩ a ⟨0, 0⟩ ⟨0, 0⟩) w e w' := by
 obtain ⟨g, rfl, hg, hc⟩ := hS (by simp)
 obtain ⟨y0, y1⟩ := hc 0 (by simp)
 simp only [List.getElem_cons_zero, List.getElem_cons_succ, Nat.zero_mul, Nat.zero_add, Nat.one_mul, Nat.reduceMul, Nat.reduceAdd] at y0 y1; clear hc hS; have Y0 := Kh y0; have Y1 := Kh y1; clear y0 y1; have hai := ha.1.1; have haw := ha.2; have NONE : Hid (0 < a.i → zNp ⟨k, na, nb, nc, nn, nm, ⟨si, sw⟩, nt⟩ a ⟨0, 0⟩ ⟨0, 0⟩ = none) := Kh (fun h => by unfold zNp; dsimp only; rw [if_neg (show ¬ (k = 35 ∨ k = 36) by omega), if_neg (show ¬ k = 34 by omega), if_neg (show ¬ k = 33 by omega), if_neg (show ¬ k = 21 by omega), if_neg (show ¬ k = 37 by omega), if_neg (show ¬ k = 38 by omega), if_pos (by exact .inl (by omega))])
 obtain ⟨wd, hwd⟩ : ∃ wd : Int, (if k ≤ 2 then a.w else 1) = wd := ⟨_, rfl⟩
 have HK : Hid (a.i = 0 → zNp ⟨k, na, nb, nc, nn, nm, ⟨si, sw⟩, nt⟩ a ⟨0, 0⟩ ⟨0, 0⟩ = some ⟨0, wd⟩) := Kh (fun h => by
  rw [← hwd]; unfold zNp; dsimp only; rw [if_neg (show ¬ (k = 35 ∨ k = 36) by omega), if_neg (show ¬ k = 34 by omega), if_neg (show ¬ k = 33 by omega), if_neg (show ¬ k = 21 by omega), if_neg (show ¬ k = 37 by omega), if_neg (show ¬ k = 38 by omega), if_neg (by rw [h]; decide)]
  by_cases h2 : k ≤ 2
  · rw [if_pos (by omega), if_pos h2]; exact congrArg some (So.ext_iff.2 ⟨h, rfl⟩)
  · rw [if_neg (by omega), if_pos (by omega), if_neg h2]; rfl)
 have T3 : Hid (∃ v, ∀ W, Calls Tryz.prog 166 #[.int .i64 k, .int .i64 a.w, .int .i64 0] W fun e w' => e = .returned (.tuple #[.int .i64 v, .int .i64 wd, .bool true]) ∧ W = w') := Kh (by rw [← hwd]; exact one0' hk haw)
 clear hwd; have d33 : (k == 33) = false := by simp only [beq_eq_false_iff_ne]; omega
 have d37 : (k == 37) = false := by simp only [beq_eq_false_iff_ne]; omega
 have d38 : (k == 38) = false := by simp only [beq_eq_false_iff_ne]; omega
 have d21 : (k == 21) = false := by simp only [beq_eq_false_iff_ne]; omega
 have d29 : (k == 29) = false := by simp only [beq_eq_false_iff_ne]; omega
 have d30 : (k == 30) = false := by simp only [beq_eq_false_iff_ne]; omega
 have d31 : (k == 31) = false := by simp only [beq_eq_false_iff_ne]; omega
 have d32 : (k == 32) = false := by simp only [beq_eq_false_iff_ne]; omega
 have S0 := Kh (RX.made w #[.int .i64 k, .int .i64 na, .int .i64 nb, .int .i64 nc, .int .i64 nn, .int .i64 nm, .int .i64 si, .int .i64 sw, .string nt])
 go_enter Tryz.func157, Tryz.ntmps157
 go_wp2_with fail
 obtain ⟨w1, hwz⟩ : ∃ z, ((w.alloc (.cells #[.int .i64 k, .int .i64 na, .int .i64 nb, .int .i64 nc, .int .i64 nn, .int .i64 nm, .int .i64 si, .int .i64 sw, .string nt] 42)).alloc (.cells #[.int .i64 0, .int .i64 0] 40)) = z := ⟨_, rfl⟩
 rw [hwz] at S0 ⊢; clear hwz; have S1 := S0; clear S0; have hgz : g < w1.heap.size := Nat.lt_of_lt_of_le hg S1.out.bel.size; have hbz : w.heap.size < w1.heap.size := S1.out.b0.lt; obtain ⟨b0, b1, b2, b3, b4, b5, b6, b7, b8⟩ := S1.out.b0.nine; obtain ⟨r0, r1⟩ := S1.out.b1.two; have f0 := S1.out.b1.frozen 0; have f1 := S1.out.b1.frozen 1; have v0 := S1.out.old hg Y0.out
 go_loop [6] (fun j => ∃ r : Nat, r ≤ 1 ∧ Hid (0 < r → a.i = 0) ∧ j = .int .i64 (r : Int)) (fun j => 1 - (intOf j).toNat)
 case atStart => exact ⟨0, by decide, Kh (fun h => absurd h (by omega)), rfl⟩
 case round =>
  obtain ⟨r, hr, H0, rfl⟩ := hrel
  rcases (show r = 0 ∨ r = 1 by omega) with rfl | rfl
  · by_cases hp : 0 < a.i
    · have HP := Kh (S1.out.put rfl (.int .i64 0) (.int .i64 0))
      have HN := Kh (NONE.out (by omega))
      go_wp2_with fail
      exact bodyPost_ret (v := .tuple #[.agg #[.int .i64 0, .int .i64 0], .bool false]) (by simp [results, Tryz.results157, go_sem, r0, r1]) rfl ⟨⟨0, 0⟩, false, rfl, HN.out, HP.out.bel⟩
    · have dp : decide (0 < a.i) = false := decide_eq_false hp
      have HZ : Hid (0 < 1 → a.i = 0) := Kh (fun _ => by omega)
      go_wp2_with fail
      go_round
      case rel => exact ⟨1, by omega, HZ, rfl⟩
      case measure => simp [intOf]
  · have E0 := H0.out (by omega)
    have HE0 := Kh E0; clear E0 H0 v0; have HF := Kh (HK.out HE0.out); obtain ⟨v, hv⟩ := T3.out; have TT := Kh hv; clear hv T3
    go_wp2_with fail
    have z0 := S1.out.old hg Y0.out; have k0 := fun x : Ext w1 => zDt z0 hgz x
    have z1 := S1.out.old hg Y1.out; have k1 := fun x : Ext w1 => zDt z1 hgz x
    have kb0 := fun x : Ext w1 => zDt b0 hbz x
    have kb4 := fun x : Ext w1 => zDt b4 hbz x
    have kb5 := fun x : Ext w1 => zDt b5 hbz x
    refine zR4 (by kernel_rfl) (by kernel_rfl) ?_
    repeat go_big_quiet_step ((go_at_call 166; exact zDv _ (TT.out _)))
    refine wpQuiet_nil ?_
    intro wt hwt; obtain ⟨xt, hwx⟩ := hwt; subst hwx; have S2 := Kh (S1.out.below xt.2); obtain ⟨r0, r1⟩ := S2.out.b1.two; clear kb0 kb4 kb5 k0 z0 k1 z1
    go_wp2_with (go_at_call 104; refine (zGo _ _).mono ?_; rintro e w3 ⟨rfl, hb3⟩; have S3 := Kh (S2.out.below hb3); obtain ⟨r0, r1⟩ := S3.out.b1.two; have f0 := S3.out.b1.frozen 0; have f1 := S3.out.b1.frozen 1; clear hb3)
    have HP := Kh (S3.out.put rfl (.int .i64 0) (.int .i64 (wd)))
    exact bodyPost_ret (v := .tuple #[.agg #[.int .i64 0, .int .i64 (wd)], .bool true]) (by simp [results, Tryz.results157, go_sem, r0, r1]) rfl ⟨⟨0, wd⟩, true, rfl, HF.out, HP.out.bel⟩
theorem zGd (A : Option Addr) (cap : Nat) (na nb nc nn nm si sw : Int) (nt : ByteArray) (a b : So) (w : World) (hS : zAh w A [a, b]) (ha : sortOk a) (hb : sortOk b) : Calls Tryz.prog 157 #[.agg #[.int .i64 29, .int .i64 na, .int .i64 nb, .int .i64 nc, .int .i64 nn, .int .i64 nm, .int .i64 si, .int .i64 sw, .string nt], .slice A 2 cap] w fun e w' => SoP (zNp ⟨29, na, nb, nc, nn, nm, ⟨si, sw⟩, nt⟩ a b ⟨0, 0⟩) w e w' := by
 obtain ⟨g, rfl, hg, hc⟩ := hS (by simp)
 obtain ⟨y0, y1⟩ := hc 0 (by simp)
 obtain ⟨y2, y3⟩ := hc 1 (by simp)
 simp only [List.getElem_cons_zero, List.getElem_cons_succ, Nat.zero_mul, Nat.zero_add, Nat.one_mul, Nat.reduceMul, Nat.reduceAdd] at y0 y1 y2 y3; clear hc hS; have Y0 := Kh y0; have Y1 := Kh y1; have Y2 := Kh y2; have Y3 := Kh y3; clear y0 y1 y2 y3; have hai := ha.1.1; have haw := ha.2; have hbi := hb.1.1; have hbw := hb.2; have NONE : Hid (0 < a.i ∨ 0 < b.i → zNp ⟨29, na, nb, nc, nn, nm, ⟨si, sw⟩, nt⟩ a b ⟨0, 0⟩ = none) := Kh (fun h => by unfold zNp; dsimp only; rw [if_neg (show ¬ ((29 : Int) = 35 ∨ (29 : Int) = 36) by omega), if_neg (show ¬ (29 : Int) = 34 by omega), if_neg (show ¬ (29 : Int) = 33 by omega), if_neg (show ¬ (29 : Int) = 21 by omega), if_neg (show ¬ (29 : Int) = 37 by omega), if_neg (show ¬ (29 : Int) = 38 by omega), if_pos (by omega)])
 have HK : Hid (a.i = 0 → b.i = 0 → zNp ⟨29, na, nb, nc, nn, nm, ⟨si, sw⟩, nt⟩ a b ⟨0, 0⟩ = if a.w + b.w ≤ 16 then some ⟨0, a.w + b.w⟩ else none) := Kh (fun h h' => by
  unfold zNp; dsimp only; rw [if_neg (show ¬ ((29 : Int) = 35 ∨ (29 : Int) = 36) by omega), if_neg (show ¬ (29 : Int) = 34 by omega), if_neg (show ¬ (29 : Int) = 33 by omega), if_neg (show ¬ (29 : Int) = 21 by omega), if_neg (show ¬ (29 : Int) = 37 by omega), if_neg (show ¬ (29 : Int) = 38 by omega), if_neg (by rw [h, h']; decide), if_neg (by decide), if_neg (by decide), if_neg (by decide), if_neg (by decide), if_pos rfl]; rfl)
 have S0 := Kh (RX.made w #[.int .i64 29, .int .i64 na, .int .i64 nb, .int .i64 nc, .int .i64 nn, .int .i64 nm, .int .i64 si, .int .i64 sw, .string nt])
 go_enter Tryz.func157, Tryz.ntmps157
 go_wp2_with fail
 obtain ⟨w1, hwz⟩ : ∃ z, ((w.alloc (.cells #[.int .i64 29, .int .i64 na, .int .i64 nb, .int .i64 nc, .int .i64 nn, .int .i64 nm, .int .i64 si, .int .i64 sw, .string nt] 42)).alloc (.cells #[.int .i64 0, .int .i64 0] 40)) = z := ⟨_, rfl⟩
 rw [hwz] at S0 ⊢; clear hwz; have S1 := S0; clear S0; have hgz : g < w1.heap.size := Nat.lt_of_lt_of_le hg S1.out.bel.size; have hbz : w.heap.size < w1.heap.size := S1.out.b0.lt; obtain ⟨b0, b1, b2, b3, b4, b5, b6, b7, b8⟩ := S1.out.b0.nine; obtain ⟨r0, r1⟩ := S1.out.b1.two; have f0 := S1.out.b1.frozen 0; have f1 := S1.out.b1.frozen 1; have v0 := S1.out.old hg Y0.out; have v1 := S1.out.old hg Y2.out
 go_loop [6] (fun j => ∃ r : Nat, r ≤ 2 ∧ Hid (0 < r → a.i = 0) ∧ Hid (1 < r → b.i = 0) ∧ j = .int .i64 (r : Int)) (fun j => 2 - (intOf j).toNat)
 case atStart => exact ⟨0, by decide, Kh (fun h => absurd h (by omega)), Kh (fun h => absurd h (by omega)), rfl⟩
 case round =>
  obtain ⟨r, hr, H0, H1, rfl⟩ := hrel
  rcases (show r = 0 ∨ r = 1 ∨ r = 2 by omega) with rfl | rfl | rfl
  · by_cases hp : 0 < a.i
    · have HP := Kh (S1.out.put rfl (.int .i64 0) (.int .i64 0))
      have HN := Kh (NONE.out (by omega))
      go_wp2_with fail
      exact bodyPost_ret (v := .tuple #[.agg #[.int .i64 0, .int .i64 0], .bool false]) (by simp [results, Tryz.results157, go_sem, r0, r1]) rfl ⟨⟨0, 0⟩, false, rfl, HN.out, HP.out.bel⟩
    · have dp : decide (0 < a.i) = false := decide_eq_false hp
      have HZ : Hid (0 < 1 → a.i = 0) := Kh (fun _ => by omega)
      go_wp2_with fail
      go_round
      case rel => exact ⟨1, by omega, HZ, Kh (fun h => absurd h (by omega)), rfl⟩
      case measure => simp [intOf]
  · by_cases hp : 0 < b.i
    · have HP := Kh (S1.out.put rfl (.int .i64 0) (.int .i64 0))
      have HN := Kh (NONE.out (by omega))
      go_wp2_with fail
      exact bodyPost_ret (v := .tuple #[.agg #[.int .i64 0, .int .i64 0], .bool false]) (by simp [results, Tryz.results157, go_sem, r0, r1]) rfl ⟨⟨0, 0⟩, false, rfl, HN.out, HP.out.bel⟩
    · have dp : decide (0 < b.i) = false := decide_eq_false hp
      have HZ : Hid (1 < 2 → b.i = 0) := Kh (fun _ => by omega)
      go_wp2_with fail
      go_round
      case rel => exact ⟨2, by omega, Kh (fun _ => H0.out (by omega)), HZ, rfl⟩
      case measure => simp [intOf]
  · have E0 := H0.out (by omega)
    have E1 := H1.out (by omega)
    have HE0 := Kh E0; have HE1 := Kh E1; clear E0 E1 H0 H1 v0 v1
    by_cases hc : a.w + b.w ≤ 16
    · have HF := Kh ((HK.out HE0.out HE1.out).trans (if_pos hc))
      have T := Kh (fun W => zFp haw hbw hc W)
      generalize hwd : a.w + b.w = wd at *; clear hwd hc
      go_wp2_with fail
      have z0 := S1.out.old hg Y0.out; have k0 := fun x : Ext w1 => zDt z0 hgz x
      have z1 := S1.out.old hg Y1.out; have k1 := fun x : Ext w1 => zDt z1 hgz x
      have z2 := S1.out.old hg Y2.out; have k2 := fun x : Ext w1 => zDt z2 hgz x
      have z3 := S1.out.old hg Y3.out; have k3 := fun x : Ext w1 => zDt z3 hgz x
      have kb0 := fun x : Ext w1 => zDt b0 hbz x
      have kb4 := fun x : Ext w1 => zDt b4 hbz x
      have kb5 := fun x : Ext w1 => zDt b5 hbz x
      refine zR4 (by kernel_rfl) (by kernel_rfl) ?_
      repeat go_big_quiet_step ((go_at_call 163; exact zDv _ (T.out _)))
      refine wpQuiet_nil ?_
      intro wt hwt; obtain ⟨xt, hwx⟩ := hwt; subst hwx; have S2 := Kh (S1.out.below xt.2); obtain ⟨r0, r1⟩ := S2.out.b1.two; clear kb0 kb4 kb5 k0 z0 k1 z1 k2 z2 k3 z3
      go_wp2_with (go_at_call 104; refine (zGo _ _).mono ?_; rintro e w3 ⟨rfl, hb3⟩; have S3 := Kh (S2.out.below hb3); obtain ⟨r0, r1⟩ := S3.out.b1.two; have f0 := S3.out.b1.frozen 0; have f1 := S3.out.b1.frozen 1; clear hb3)
      have HP := Kh (S3.out.put rfl (.int .i64 0) (.int .i64 (wd)))
      exact bodyPost_ret (v := .tuple #[.agg #[.int .i64 0, .int .i64 (wd)], .bool true]) (by simp [results, Tryz.results157, go_sem, r0, r1]) rfl ⟨⟨0, wd⟩, true, rfl, HF.out, HP.out.bel⟩
    · have HF := Kh ((HK.out HE0.out HE1.out).trans (if_neg hc))
      have T := Kh (fun W => zFo haw hbw hc W)
      clear hc
      go_wp2_with fail
      have z0 := S1.out.old hg Y0.out; have k0 := fun x : Ext w1 => zDt z0 hgz x
      have z1 := S1.out.old hg Y1.out; have k1 := fun x : Ext w1 => zDt z1 hgz x
      have z2 := S1.out.old hg Y2.out; have k2 := fun x : Ext w1 => zDt z2 hgz x
      have z3 := S1.out.old hg Y3.out; have k3 := fun x : Ext w1 => zDt z3 hgz x
      have kb0 := fun x : Ext w1 => zDt b0 hbz x
      have kb4 := fun x : Ext w1 => zDt b4 hbz x
      have kb5 := fun x : Ext w1 => zDt b5 hbz x
      refine zR4 (by kernel_rfl) (by kernel_rfl) ?_
      repeat go_big_quiet_step ((go_at_call 163; exact zDv _ (T.out _)))
      refine wpQuiet_nil ?_
      intro wt hwt; obtain ⟨xt, hwx⟩ := hwt; subst hwx; have S2 := Kh (S1.out.below xt.2); obtain ⟨r0, r1⟩ := S2.out.b1.two; clear kb0 kb4 kb5 k0 z0 k1 z1 k2 z2 k3 z3
      go_wp2_with (go_at_call 104; refine (zGo _ _).mono ?_; rintro e w3 ⟨rfl, hb3⟩; have S3 := Kh (S2.out.below hb3); obtain ⟨r0, r1⟩ := S3.out.b1.two; have f0 := S3.out.b1.frozen 0; have f1 := S3.out.b1.frozen 1; clear hb3)
      have HP := Kh (S3.out.put rfl (.int .i64 0) (.int .i64 (0)))
      exact bodyPost_ret (v := .tuple #[.agg #[.int .i64 0, .int .i64 (0)], .bool false]) (by simp [results, Tryz.results157, go_sem, r0, r1]) rfl ⟨⟨0, 0⟩, false, rfl, HF.out, HP.out.bel⟩
theorem zGm (A : Option Addr) (cap : Nat) (k na nb nc nn nm si sw : Int) (nt : ByteArray) (a b : So) (w : World) (hS : zAh w A [a, b]) (ha : sortOk a) (hb : sortOk b) (hk : 6 ≤ k ∧ k ≤ 28) (hk21 : k ≠ 21) : Calls Tryz.prog 157 #[.agg #[.int .i64 k, .int .i64 na, .int .i64 nb, .int .i64 nc, .int .i64 nn, .int .i64 nm, .int .i64 si, .int .i64 sw, .string nt], .slice A 2 cap] w fun e w' => SoP (zNp ⟨k, na, nb, nc, nn, nm, ⟨si, sw⟩, nt⟩ a b ⟨0, 0⟩) w e w' := by
 obtain ⟨g, rfl, hg, hc⟩ := hS (by simp)
 obtain ⟨y0, y1⟩ := hc 0 (by simp)
 obtain ⟨y2, y3⟩ := hc 1 (by simp)
 simp only [List.getElem_cons_zero, List.getElem_cons_succ, Nat.zero_mul, Nat.zero_add, Nat.one_mul, Nat.reduceMul, Nat.reduceAdd] at y0 y1 y2 y3; clear hc hS; have Y0 := Kh y0; have Y1 := Kh y1; have Y2 := Kh y2; have Y3 := Kh y3; clear y0 y1 y2 y3; have hai := ha.1.1; have haw := ha.2; have hbi := hb.1.1; have hbw := hb.2; have NONE : Hid (0 < a.i ∨ 0 < b.i → zNp ⟨k, na, nb, nc, nn, nm, ⟨si, sw⟩, nt⟩ a b ⟨0, 0⟩ = none) := Kh (fun h => by unfold zNp; dsimp only; rw [if_neg (show ¬ (k = 35 ∨ k = 36) by omega), if_neg (show ¬ k = 34 by omega), if_neg (show ¬ k = 33 by omega), if_neg (show ¬ k = 21 by omega), if_neg (show ¬ k = 37 by omega), if_neg (show ¬ k = 38 by omega), if_pos (by omega)])
 obtain ⟨wd, hwd⟩ : ∃ wd : Int, (if k ≤ 20 then a.w else 1) = wd := ⟨_, rfl⟩
 have HK : Hid (a.i = 0 → b.i = 0 → zNp ⟨k, na, nb, nc, nn, nm, ⟨si, sw⟩, nt⟩ a b ⟨0, 0⟩ = if a = b then some ⟨0, wd⟩ else none) := Kh (fun h h' => by
  rw [← hwd]; unfold zNp; dsimp only; rw [if_neg (show ¬ (k = 35 ∨ k = 36) by omega), if_neg (show ¬ k = 34 by omega), if_neg (show ¬ k = 33 by omega), if_neg (show ¬ k = 21 by omega), if_neg (show ¬ k = 37 by omega), if_neg (show ¬ k = 38 by omega), if_neg (by rw [h, h']; decide), if_neg (by omega), if_neg (by omega), if_neg (by omega), if_neg (by omega), if_neg (by omega)]
  by_cases hab : a = b
  · rw [if_pos hab, if_pos hab]
    by_cases h2 : k ≤ 20
    · rw [if_neg (by omega), if_pos h2]; exact congrArg some (So.ext_iff.2 ⟨h, rfl⟩)
    · rw [if_pos (by omega), if_neg h2]; rfl
  · rw [if_neg hab, if_neg hab])
 have T3 : Hid (∃ v, ∀ W, Calls Tryz.prog 167 #[.int .i64 k, .int .i64 a.w, .int .i64 0, .int .i64 0] W fun e w' => e = .returned (.tuple #[.int .i64 v, .int .i64 wd, .bool true]) ∧ Below W.heap.size W w') := Kh (by rw [← hwd]; exact two0' hk haw)
 clear hwd; obtain ⟨x1, h1⟩ : ∃ x, decide (a.i = b.i ∧ a.w = b.w) = x := ⟨_, rfl⟩
 have q1 := fun w => zDq h1 w
 have HX1 : Hid (a = b ↔ x1 = true) := Kh (by rw [← h1]; simp [So.ext_iff])
 clear h1; have d33 : (k == 33) = false := by simp only [beq_eq_false_iff_ne]; omega
 have d37 : (k == 37) = false := by simp only [beq_eq_false_iff_ne]; omega
 have d38 : (k == 38) = false := by simp only [beq_eq_false_iff_ne]; omega
 have d21 : (k == 21) = false := by simp only [beq_eq_false_iff_ne]; omega
 have d29 : (k == 29) = false := by simp only [beq_eq_false_iff_ne]; omega
 have d30 : (k == 30) = false := by simp only [beq_eq_false_iff_ne]; omega
 have d31 : (k == 31) = false := by simp only [beq_eq_false_iff_ne]; omega
 have d32 : (k == 32) = false := by simp only [beq_eq_false_iff_ne]; omega
 have S0 := Kh (RX.made w #[.int .i64 k, .int .i64 na, .int .i64 nb, .int .i64 nc, .int .i64 nn, .int .i64 nm, .int .i64 si, .int .i64 sw, .string nt])
 go_enter Tryz.func157, Tryz.ntmps157
 go_wp2_with fail
 obtain ⟨w1, hwz⟩ : ∃ z, ((w.alloc (.cells #[.int .i64 k, .int .i64 na, .int .i64 nb, .int .i64 nc, .int .i64 nn, .int .i64 nm, .int .i64 si, .int .i64 sw, .string nt] 42)).alloc (.cells #[.int .i64 0, .int .i64 0] 40)) = z := ⟨_, rfl⟩
 rw [hwz] at S0 ⊢; clear hwz; have S1 := S0; clear S0; have hgz : g < w1.heap.size := Nat.lt_of_lt_of_le hg S1.out.bel.size; have hbz : w.heap.size < w1.heap.size := S1.out.b0.lt; obtain ⟨b0, b1, b2, b3, b4, b5, b6, b7, b8⟩ := S1.out.b0.nine; obtain ⟨r0, r1⟩ := S1.out.b1.two; have f0 := S1.out.b1.frozen 0; have f1 := S1.out.b1.frozen 1; have v0 := S1.out.old hg Y0.out; have v1 := S1.out.old hg Y2.out
 go_loop [6] (fun j => ∃ r : Nat, r ≤ 2 ∧ Hid (0 < r → a.i = 0) ∧ Hid (1 < r → b.i = 0) ∧ j = .int .i64 (r : Int)) (fun j => 2 - (intOf j).toNat)
 case atStart => exact ⟨0, by decide, Kh (fun h => absurd h (by omega)), Kh (fun h => absurd h (by omega)), rfl⟩
 case round =>
  obtain ⟨r, hr, H0, H1, rfl⟩ := hrel
  rcases (show r = 0 ∨ r = 1 ∨ r = 2 by omega) with rfl | rfl | rfl
  · by_cases hp : 0 < a.i
    · have HP := Kh (S1.out.put rfl (.int .i64 0) (.int .i64 0))
      have HN := Kh (NONE.out (by omega))
      go_wp2_with fail
      exact bodyPost_ret (v := .tuple #[.agg #[.int .i64 0, .int .i64 0], .bool false]) (by simp [results, Tryz.results157, go_sem, r0, r1]) rfl ⟨⟨0, 0⟩, false, rfl, HN.out, HP.out.bel⟩
    · have dp : decide (0 < a.i) = false := decide_eq_false hp
      have HZ : Hid (0 < 1 → a.i = 0) := Kh (fun _ => by omega)
      go_wp2_with fail
      go_round
      case rel => exact ⟨1, by omega, HZ, Kh (fun h => absurd h (by omega)), rfl⟩
      case measure => simp [intOf]
  · by_cases hp : 0 < b.i
    · have HP := Kh (S1.out.put rfl (.int .i64 0) (.int .i64 0))
      have HN := Kh (NONE.out (by omega))
      go_wp2_with fail
      exact bodyPost_ret (v := .tuple #[.agg #[.int .i64 0, .int .i64 0], .bool false]) (by simp [results, Tryz.results157, go_sem, r0, r1]) rfl ⟨⟨0, 0⟩, false, rfl, HN.out, HP.out.bel⟩
    · have dp : decide (0 < b.i) = false := decide_eq_false hp
      have HZ : Hid (1 < 2 → b.i = 0) := Kh (fun _ => by omega)
      go_wp2_with fail
      go_round
      case rel => exact ⟨2, by omega, Kh (fun _ => H0.out (by omega)), HZ, rfl⟩
      case measure => simp [intOf]
  · have E0 := H0.out (by omega)
    have E1 := H1.out (by omega)
    have HE0 := Kh E0; have HE1 := Kh E1; clear E0 E1 H0 H1 v0 v1; have Z0 := S1.out.old hg Y0.out; have Z1 := S1.out.old hg Y1.out; have Z2 := S1.out.old hg Y2.out; have Z3 := S1.out.old hg Y3.out; obtain ⟨v, hv⟩ := T3.out; have TT := Kh hv; clear hv T3
    cases x1 with
    | true =>
     have HF := Kh ((HK.out HE0.out HE1.out).trans (if_pos (HX1.out.2 rfl)))
     go_wp2_with fail
     go_still (by kernel_rfl)
     have S1 := Kh S1.out.drew
     go_wp2_with fail
     have z0 := S1.out.old hg Y0.out; have k0 := fun x : Ext w1.drew => zDt z0 hgz x
     have z1 := S1.out.old hg Y1.out; have k1 := fun x : Ext w1.drew => zDt z1 hgz x
     have z2 := S1.out.old hg Y2.out; have k2 := fun x : Ext w1.drew => zDt z2 hgz x
     have z3 := S1.out.old hg Y3.out; have k3 := fun x : Ext w1.drew => zDt z3 hgz x
     have kb0 := fun x : Ext w1.drew => zDt (X := w1.drew) b0 hbz x
     have kb4 := fun x : Ext w1.drew => zDt (X := w1.drew) b4 hbz x
     have kb5 := fun x : Ext w1.drew => zDt (X := w1.drew) b5 hbz x
     refine zR4 (by kernel_rfl) (by kernel_rfl) ?_
     repeat go_big_quiet_step ((go_at_call 167; exact zDs _ (TT.out _)))
     refine wpQuiet_nil ?_
     intro wt hwt; obtain ⟨xt, hwx⟩ := hwt; subst hwx; have S2 := Kh (S1.out.below xt.2); obtain ⟨r0, r1⟩ := S2.out.b1.two; clear kb0 kb4 kb5 k0 z0 k1 z1 k2 z2 k3 z3
     go_wp2_with (go_at_call 104; refine (zGo _ _).mono ?_; rintro e w3 ⟨rfl, hb3⟩; have S3 := Kh (S2.out.below hb3); obtain ⟨r0, r1⟩ := S3.out.b1.two; have f0 := S3.out.b1.frozen 0; have f1 := S3.out.b1.frozen 1; clear hb3)
     have HP := Kh (S3.out.put rfl (.int .i64 0) (.int .i64 (wd)))
     exact bodyPost_ret (v := .tuple #[.agg #[.int .i64 0, .int .i64 (wd)], .bool true]) (by simp [results, Tryz.results157, go_sem, r0, r1]) rfl ⟨⟨0, wd⟩, true, rfl, HF.out, HP.out.bel⟩
    | false =>
     have HF := Kh ((HK.out HE0.out HE1.out).trans (if_neg (fun h => by have := HX1.out.1 h; cases this)))
     go_wp2_with fail
     go_still (by kernel_rfl)
     have S2 := Kh S1.out.drew; obtain ⟨r0, r1⟩ := S2.out.b1.two
     go_wp2_with (go_at_call 104; refine (zGo _ _).mono ?_; rintro e w3 ⟨rfl, hb3⟩; have S3 := Kh (S2.out.below hb3); obtain ⟨r0, r1⟩ := S3.out.b1.two; have f0 := S3.out.b1.frozen 0; have f1 := S3.out.b1.frozen 1; clear hb3)
     have HP := Kh (S3.out.put rfl (.int .i64 0) (.int .i64 (0)))
     exact bodyPost_ret (v := .tuple #[.agg #[.int .i64 0, .int .i64 (0)], .bool false]) (by simp [results, Tryz.results157, go_sem, r0, r1]) rfl ⟨⟨0, 0⟩, false, rfl, HF.out, HP.out.bel⟩
end Go.Proofs.YtmolbnghobfmoaaGreat
