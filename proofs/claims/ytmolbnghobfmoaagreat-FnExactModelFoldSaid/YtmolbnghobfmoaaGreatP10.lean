/- Part 10 of what the row Row28 rests on: G7. -/
import Derived.Test.YtmolbnghobfmoaaGreatP9
set_option maxRecDepth 100000
set_option maxHeartbeats 16000000
set_option linter.unusedSimpArgs false
set_option linter.unusedVariables false
namespace Go.Proofs.YtmolbnghobfmoaaGreat
open Go.RowKit
theorem zG6 (t : ByteArray) (ht : t.size ≤ 1048576) (V : Bool) (hV : decide (zFh t) = V) (w : World) : Calls Tryz.prog 185 #[.string t] w fun e w' => e = .returned (.bool V) ∧ w = w' := by
 have HV := Kh hV; clear hV
 by_cases hs : 1 ≤ t.size ∧ t.size ≤ 8
 case neg =>
  obtain rfl : false = V := by rw [← HV.out]; exact (decide_eq_false (fun h => hs h.1)).symm
  go_enter Tryz.func185, Tryz.ntmps185
  go_wp2_with (go_at_call 111; refine (zFx _ _ _ false (decide_eq_false (by omega)) _).mono ?_; rintro e w1 ⟨rfl, rfl⟩)
  go_ret
  exact ⟨rfl, rfl⟩
 have h0 : 0 < t.size := by omega
 have IN := Kh (fun W => zFx (t.size : Int) 1 8 true (decide_eq_true (by omega)) W)
 obtain ⟨x, hx⟩ : ∃ x : Nat, (t[0]'h0).toNat = x := ⟨_, rfl⟩
 have hb0 : zBu t 0 = (x : Int) := by rw [zBv h0, hx]
 have q0 : (0 : Int) < (t.size : Int) := by omega
 by_cases h1 : x < 97
 · obtain rfl : false = V := by
     rw [← HV.out]; symm; refine decide_eq_false (fun h => ?_)
     have := h.2 0 h0; unfold zCm zH0 at this; rw [hb0] at this; omega
   have d1 : decide (x < 97) = true := decide_eq_true h1; have d2 : decide ((x : Int) < 97) = true := decide_eq_true (by omega)
   clear hb0 hs
   go_enter Tryz.func185, Tryz.ntmps185
   go_wp2_with (go_at_call 111; refine (IN.out _).mono ?_; rintro e w1 ⟨rfl, rfl⟩)
   go_ret
   exact ⟨rfl, rfl⟩
 have d1 : decide (x < 97) = false := decide_eq_false h1; have d2 : decide ((x : Int) < 97) = false := decide_eq_false (by omega)
 by_cases h2 : 122 < x
 · obtain rfl : false = V := by
     rw [← HV.out]; symm; refine decide_eq_false (fun h => ?_)
     have := h.2 0 h0; unfold zCm zH0 at this; rw [hb0] at this; omega
   have d3 : decide (122 < x) = true := decide_eq_true h2; have d4 : decide (122 < (x : Int)) = true := decide_eq_true (by omega)
   clear hb0 hs
   go_enter Tryz.func185, Tryz.ntmps185
   go_wp2_with (go_at_call 111; refine (IN.out _).mono ?_; rintro e w1 ⟨rfl, rfl⟩)
   go_ret
   exact ⟨rfl, rfl⟩
 have d3 : decide (122 < x) = false := decide_eq_false h2; have d4 : decide (122 < (x : Int)) = false := decide_eq_false (by omega)
 have HL : Hid (zH0 (zBu t 0)) := Kh (by rw [hb0]; unfold zH0; omega)
 have HX0 := Kh hx; have HS := Kh hs; clear hb0 hs h1 h2
 go_enter Tryz.func185, Tryz.ntmps185
 go_wp2_with (go_at_call 111; refine (IN.out _).mono ?_; rintro e w1 ⟨rfl, rfl⟩)
 clear hx d1 d2 d3 d4
 go_loop [3] (fun i => ∃ k : Nat, k ≤ t.size ∧ Hid (∀ j, j < k → zCm t j) ∧ i = .int .i64 k) (fun i => t.size - (intOf i).toNat)
 case atStart => exact ⟨0, Nat.zero_le _, fun j h => absurd h (by omega), rfl⟩
 case round =>
  obtain ⟨k, hk, hno, rfl⟩ := hrel
  by_cases hlt : k < t.size
  case neg =>
   obtain rfl : k = t.size := by omega
   obtain rfl : true = V := by rw [← HV.out]; exact (decide_eq_true (show zFh t from ⟨HS.out, hno.out⟩)).symm
   go_wp2_with fail
   go_ret
   exact ⟨rfl, rfl⟩
  have e1 : IntKind.i64.wrap ((k : Int) + 1) = (k : Int) + 1 := zRa (by have := HS.out; omega) (by have := HS.out; omega)
  have hj0 : (0 : Int) ≤ k := by omega
  have hj1 : (k : Int) < (t.size : Int) := by omega
  obtain ⟨y, hy⟩ : ∃ y : Nat, (t[k]'hlt).toNat = y := ⟨_, rfl⟩
  have HY : Hid (zBu t k = (y : Int)) := Kh (by rw [zBv hlt, hy])
  have HBad : Hid (¬ zCm t k → false = V) := Kh (fun h => by rw [← HV.out]; exact (decide_eq_false (fun h2 => h (h2.2 k hlt))).symm)
  have HGood : Hid (zCm t k → Hid (∀ j, j < k + 1 → zCm t j)) := Kh (fun h => Kh (fun j hj => by
   by_cases e : j = k
   · rw [e]; exact h
   · exact hno.out j (by omega)))
  by_cases ha : 97 ≤ y
  · by_cases hz : y ≤ 122
    ·
     have d0 : decide (97 ≤ y) = true := decide_eq_true (by omega)
     have d1 : decide (97 ≤ (y : Int)) = true := decide_eq_true (by omega)
     have d2 : decide (y ≤ 122) = true := decide_eq_true (by omega)
     have d3 : decide ((y : Int) ≤ 122) = true := decide_eq_true (by omega)
     have HG := HGood.out (.inl (by rw [HY.out]; unfold zH0; omega))
     go_wp2_with fail
     go_round
     case rel => exact ⟨k + 1, by omega, HG, by go_num⟩
     case measure => simp [intOf]; omega
    ·
     have d0 : decide (97 ≤ y) = true := decide_eq_true (by omega)
     have d1 : decide (97 ≤ (y : Int)) = true := decide_eq_true (by omega)
     have d2 : decide (y ≤ 122) = false := decide_eq_false (by omega)
     have d3 : decide ((y : Int) ≤ 122) = false := decide_eq_false (by omega)
     have d4 : decide (48 ≤ y) = true := decide_eq_true (by omega)
     have d5 : decide (48 ≤ (y : Int)) = true := decide_eq_true (by omega)
     have d6 : decide (y ≤ 57) = false := decide_eq_false (by omega)
     have d7 : decide ((y : Int) ≤ 57) = false := decide_eq_false (by omega)
     obtain rfl := HBad.out (by unfold zCm zH0 zDb; rw [HY.out]; omega)
     go_wp2_with fail
     go_ret
     exact ⟨rfl, rfl⟩
  · by_cases h4 : 48 ≤ y
    · by_cases h5 : y ≤ 57
      ·
       have d0 : decide (97 ≤ y) = false := decide_eq_false (by omega)
       have d1 : decide (97 ≤ (y : Int)) = false := decide_eq_false (by omega)
       have d2 : decide (48 ≤ y) = true := decide_eq_true (by omega)
       have d3 : decide (48 ≤ (y : Int)) = true := decide_eq_true (by omega)
       have d4 : decide (y ≤ 57) = true := decide_eq_true (by omega)
       have d5 : decide ((y : Int) ≤ 57) = true := decide_eq_true (by omega)
       have HG := HGood.out (.inr ⟨by rcases Nat.eq_zero_or_pos k with h | h; (subst h; have := HL.out; rw [HY.out] at this; unfold zH0 at this; omega); exact h, by rw [HY.out]; unfold zDb; omega⟩)
       go_wp2_with fail
       go_round
       case rel => exact ⟨k + 1, by omega, HG, by go_num⟩
       case measure => simp [intOf]; omega
      ·
       have d0 : decide (97 ≤ y) = false := decide_eq_false (by omega)
       have d1 : decide (97 ≤ (y : Int)) = false := decide_eq_false (by omega)
       have d2 : decide (48 ≤ y) = true := decide_eq_true (by omega)
       have d3 : decide (48 ≤ (y : Int)) = true := decide_eq_true (by omega)
       have d4 : decide (y ≤ 57) = false := decide_eq_false (by omega)
       have d5 : decide ((y : Int) ≤ 57) = false := decide_eq_false (by omega)
       obtain rfl := HBad.out (by unfold zCm zH0 zDb; rw [HY.out]; omega)
       go_wp2_with fail
       go_ret
       exact ⟨rfl, rfl⟩
    ·
     have d0 : decide (97 ≤ y) = false := decide_eq_false (by omega)
     have d1 : decide (97 ≤ (y : Int)) = false := decide_eq_false (by omega)
     have d2 : decide (48 ≤ y) = false := decide_eq_false (by omega)
     have d3 : decide (48 ≤ (y : Int)) = false := decide_eq_false (by omega)
     obtain rfl := HBad.out (by unfold zCm zH0 zDb; rw [HY.out]; omega)
     go_wp2_with fail
     go_ret
     exact ⟨rfl, rfl⟩
theorem zG3 (A : Option Addr) (bh cap : Nat) (k na nb nc nn nm si sw : Int) (nt : ByteArray) (V : Bool) (hbh : bh ≤ 1048576) (ht : nt.size ≤ 1048576) (hV : decide (zE5 bh ⟨k, na, nb, nc, nn, nm, ⟨si, sw⟩, nt⟩) = V) (w : World) :
 Calls Tryz.prog 154 #[.slice A bh cap, .agg #[.int .i64 k, .int .i64 na, .int .i64 nb, .int .i64 nc, .int .i64 nn, .int .i64 nm, .int .i64 si, .int .i64 sw, .string nt]] w fun e w' => e = .returned (.bool V) ∧ Below w.heap.size w w' := by
 have HBad : Hid (¬ zE5 bh ⟨k, na, nb, nc, nn, nm, ⟨si, sw⟩, nt⟩ → false = V) := Kh (fun h => by rw [← hV]; exact (decide_eq_false h).symm)
 have HGood : Hid (zE5 bh ⟨k, na, nb, nc, nn, nm, ⟨si, sw⟩, nt⟩ → true = V) := Kh (fun h => by rw [← hV]; exact (decide_eq_true h).symm)
 clear hV; obtain ⟨M, hM⟩ : ∃ m, zK1 k = m := ⟨_, rfl⟩
 have HM := Kh hM; have PT := Kh (fun W => zG8 k W)
 rw [hM] at PT; have hM3 : -1 ≤ M ∧ M ≤ 3 := by rw [← hM]; exact zK2 k
 clear hM; have e0 : IntKind.i64.wrap ((bh : Int) - 1) = (bh : Int) - 1 := zRa (by omega) (by omega)
 have HB := bx w #[.int .i64 k, .int .i64 na, .int .i64 nb, .int .i64 nc, .int .i64 nn, .int .i64 nm, .int .i64 si, .int .i64 sw, .string nt] 42; have HB2 : Hid (Below w.heap.size w ((w.alloc (.cells #[.int .i64 k, .int .i64 na, .int .i64 nb, .int .i64 nc, .int .i64 nn, .int .i64 nm, .int .i64 si, .int .i64 sw, .string nt] 42)).alloc (.cells #[.int .i64 na, .int .i64 nb, .int .i64 nc] 3))) := HB.out.alloc (by simp) _
 have HX : Hid (Blk ((w.alloc (.cells #[.int .i64 k, .int .i64 na, .int .i64 nb, .int .i64 nc, .int .i64 nn, .int .i64 nm, .int .i64 si, .int .i64 sw, .string nt] 42)).alloc (.cells #[.int .i64 na, .int .i64 nb, .int .i64 nc] 3)) w.heap.size 42 #[.int .i64 k, .int .i64 na, .int .i64 nb, .int .i64 nc, .int .i64 nn, .int .i64 nm, .int .i64 si, .int .i64 sw, .string nt]) := (Blk.new _ _ _).alloc _; have HY : Hid (Blk ((w.alloc (.cells #[.int .i64 k, .int .i64 na, .int .i64 nb, .int .i64 nc, .int .i64 nn, .int .i64 nm, .int .i64 si, .int .i64 sw, .string nt] 42)).alloc (.cells #[.int .i64 na, .int .i64 nb, .int .i64 nc] 3)) (w.heap.size + 1) 3 #[.int .i64 na, .int .i64 nb, .int .i64 nc]) := Blk.new_at _ _ _ (by simp)
 by_cases hneg : M < 0
 · obtain rfl := HBad.out (by unfold zE5; rintro ⟨h, -⟩; rw [HM.out] at h; omega)
   go_enter Tryz.func154, Tryz.ntmps154
   go_wp2_with (go_at_call 79; refine (PT.out _).mono ?_; rintro e w1 ⟨rfl, rfl⟩)
   go_ret
   exact ⟨rfl, HB.out⟩
 have d0 : decide (M < 0) = false := decide_eq_false hneg; have h0M : (0 : Int) ≤ M := by omega
 clear hneg
 go_enter Tryz.func154, Tryz.ntmps154
 go_wp2_with (go_at_call 79; refine (PT.out _).mono ?_; rintro e w1 ⟨rfl, rfl⟩)
 obtain ⟨wz, hwz⟩ : ∃ z, ((w.alloc (.cells #[.int .i64 k, .int .i64 na, .int .i64 nb, .int .i64 nc, .int .i64 nn, .int .i64 nm, .int .i64 si, .int .i64 sw, .string nt] 42)).alloc (.cells #[.int .i64 na, .int .i64 nb, .int .i64 nc] 3)) = z := ⟨_, rfl⟩
 rw [hwz] at HB2 HX HY ⊢; clear hwz HB d0; obtain ⟨c0, c1, c2⟩ := HY.out.three; obtain ⟨x0, x1, x2, x3, x4, x5, x6, x7, x8⟩ := HX.out.nine
 go_loop [7] (fun i => ∃ r : Nat, r ≤ 3 ∧ Hid ((1 ≤ r → zJt M 0 bh na) ∧ (2 ≤ r → zJt M 1 bh nb) ∧ (3 ≤ r → zJt M 2 bh nc)) ∧ i = .int .i64 (r : Int)) (fun i => 3 - (intOf i).toNat)
 case atStart => exact ⟨0, by omega, ⟨fun h => absurd h (by omega), fun h => absurd h (by omega), fun h => absurd h (by omega)⟩, rfl⟩
 case round =>
  obtain ⟨r, hr, hno, rfl⟩ := hrel
  rcases (show r = 0 ∨ r = 1 ∨ r = 2 ∨ r = 3 by omega) with rfl | rfl | rfl | rfl
  · by_cases hj : (0 : Int) < M
    · have g1 : decide ((0 : Int) < M) = true := decide_eq_true hj
      have g2 : decide (M ≤ (0 : Int)) = false := decide_eq_false (by omega)
      by_cases hi : 0 ≤ na ∧ na ≤ (bh : Int) - 1
      · have hp : zJt M 0 bh na := by unfold zJt; rw [if_pos hj]; exact hi
        have HN : Hid ((1 ≤ 1 → zJt M 0 bh na) ∧ (2 ≤ 1 → zJt M 1 bh nb) ∧ (3 ≤ 1 → zJt M 2 bh nc)) := Kh ⟨fun _ => hp, fun h => absurd h (by omega), fun h => absurd h (by omega)⟩
        clear hp
        go_wp2_with (go_at_call 111; refine (zFx _ _ _ true (decide_eq_true (by omega)) _).mono ?_; rintro e wI ⟨rfl, rfl⟩)
        go_round
        case rel => exact ⟨1, by omega, HN, rfl⟩
        case measure => simp [intOf]
      · obtain rfl := HBad.out (fun h => by have := h.2.1.1; dsimp only at this; rw [HM.out] at this; unfold zJt at this; rw [if_pos hj] at this; omega)
        go_wp2_with (go_at_call 111; refine (zFx _ _ _ false (decide_eq_false (by omega)) _).mono ?_; rintro e wI ⟨rfl, rfl⟩)
        go_ret
        exact ⟨rfl, HB2.out⟩
    · have g1 : decide ((0 : Int) < M) = false := decide_eq_false hj
      have g2 : decide (M ≤ (0 : Int)) = true := decide_eq_true (by omega)
      have g3 : M ≤ (0 : Int) := by omega
      by_cases hi : na = 0
      · have hp : zJt M 0 bh na := by unfold zJt; rw [if_neg hj]; exact hi
        have HN : Hid ((1 ≤ 1 → zJt M 0 bh na) ∧ (2 ≤ 1 → zJt M 1 bh nb) ∧ (3 ≤ 1 → zJt M 2 bh nc)) := Kh ⟨fun _ => hp, fun h => absurd h (by omega), fun h => absurd h (by omega)⟩
        have z1 : (na != 0) = false := by simp [hi]
        clear hp; subst hi
        go_wp2_with fail
        go_round
        case rel => exact ⟨1, by omega, HN, rfl⟩
        case measure => simp [intOf]
      · obtain rfl := HBad.out (fun h => by have := h.2.1.1; dsimp only at this; rw [HM.out] at this; unfold zJt at this; rw [if_neg hj] at this; omega)
        have z1 : (na != 0) = true := by simp [hi]
        have z2 : (na == 0) = false := by simp [hi]
        go_wp2_with fail
        go_ret
        exact ⟨rfl, HB2.out⟩
  · by_cases hj : (1 : Int) < M
    · have g1 : decide ((1 : Int) < M) = true := decide_eq_true hj
      have g2 : decide (M ≤ (1 : Int)) = false := decide_eq_false (by omega)
      by_cases hi : 0 ≤ nb ∧ nb ≤ (bh : Int) - 1
      · have hp : zJt M 1 bh nb := by unfold zJt; rw [if_pos hj]; exact hi
        have HN : Hid ((1 ≤ 2 → zJt M 0 bh na) ∧ (2 ≤ 2 → zJt M 1 bh nb) ∧ (3 ≤ 2 → zJt M 2 bh nc)) := Kh ⟨fun _ => hno.out.1 (by omega), fun _ => hp, fun h => absurd h (by omega)⟩
        clear hp
        go_wp2_with (go_at_call 111; refine (zFx _ _ _ true (decide_eq_true (by omega)) _).mono ?_; rintro e wI ⟨rfl, rfl⟩)
        go_round
        case rel => exact ⟨2, by omega, HN, rfl⟩
        case measure => simp [intOf]
      · obtain rfl := HBad.out (fun h => by have := h.2.1.2.1; dsimp only at this; rw [HM.out] at this; unfold zJt at this; rw [if_pos hj] at this; omega)
        go_wp2_with (go_at_call 111; refine (zFx _ _ _ false (decide_eq_false (by omega)) _).mono ?_; rintro e wI ⟨rfl, rfl⟩)
        go_ret
        exact ⟨rfl, HB2.out⟩
    · have g1 : decide ((1 : Int) < M) = false := decide_eq_false hj
      have g2 : decide (M ≤ (1 : Int)) = true := decide_eq_true (by omega)
      have g3 : M ≤ (1 : Int) := by omega
      by_cases hi : nb = 0
      · have hp : zJt M 1 bh nb := by unfold zJt; rw [if_neg hj]; exact hi
        have HN : Hid ((1 ≤ 2 → zJt M 0 bh na) ∧ (2 ≤ 2 → zJt M 1 bh nb) ∧ (3 ≤ 2 → zJt M 2 bh nc)) := Kh ⟨fun _ => hno.out.1 (by omega), fun _ => hp, fun h => absurd h (by omega)⟩
        have z1 : (nb != 0) = false := by simp [hi]
        clear hp; subst hi
        go_wp2_with fail
        go_round
        case rel => exact ⟨2, by omega, HN, rfl⟩
        case measure => simp [intOf]
      · obtain rfl := HBad.out (fun h => by have := h.2.1.2.1; dsimp only at this; rw [HM.out] at this; unfold zJt at this; rw [if_neg hj] at this; omega)
        have z1 : (nb != 0) = true := by simp [hi]
        have z2 : (nb == 0) = false := by simp [hi]
        go_wp2_with fail
        go_ret
        exact ⟨rfl, HB2.out⟩
  · by_cases hj : (2 : Int) < M
    · have g1 : decide ((2 : Int) < M) = true := decide_eq_true hj
      have g2 : decide (M ≤ (2 : Int)) = false := decide_eq_false (by omega)
      by_cases hi : 0 ≤ nc ∧ nc ≤ (bh : Int) - 1
      · have hp : zJt M 2 bh nc := by unfold zJt; rw [if_pos hj]; exact hi
        have HN : Hid ((1 ≤ 3 → zJt M 0 bh na) ∧ (2 ≤ 3 → zJt M 1 bh nb) ∧ (3 ≤ 3 → zJt M 2 bh nc)) := Kh ⟨fun _ => hno.out.1 (by omega), fun _ => hno.out.2.1 (by omega), fun _ => hp⟩
        clear hp
        go_wp2_with (go_at_call 111; refine (zFx _ _ _ true (decide_eq_true (by omega)) _).mono ?_; rintro e wI ⟨rfl, rfl⟩)
        go_round
        case rel => exact ⟨3, by omega, HN, rfl⟩
        case measure => simp [intOf]
      · obtain rfl := HBad.out (fun h => by have := h.2.1.2.2; dsimp only at this; rw [HM.out] at this; unfold zJt at this; rw [if_pos hj] at this; omega)
        go_wp2_with (go_at_call 111; refine (zFx _ _ _ false (decide_eq_false (by omega)) _).mono ?_; rintro e wI ⟨rfl, rfl⟩)
        go_ret
        exact ⟨rfl, HB2.out⟩
    · have g1 : decide ((2 : Int) < M) = false := decide_eq_false hj
      have g2 : decide (M ≤ (2 : Int)) = true := decide_eq_true (by omega)
      have g3 : M ≤ (2 : Int) := by omega
      by_cases hi : nc = 0
      · have hp : zJt M 2 bh nc := by unfold zJt; rw [if_neg hj]; exact hi
        have HN : Hid ((1 ≤ 3 → zJt M 0 bh na) ∧ (2 ≤ 3 → zJt M 1 bh nb) ∧ (3 ≤ 3 → zJt M 2 bh nc)) := Kh ⟨fun _ => hno.out.1 (by omega), fun _ => hno.out.2.1 (by omega), fun _ => hp⟩
        have z1 : (nc != 0) = false := by simp [hi]
        clear hp; subst hi
        go_wp2_with fail
        go_round
        case rel => exact ⟨3, by omega, HN, rfl⟩
        case measure => simp [intOf]
      · obtain rfl := HBad.out (fun h => by have := h.2.1.2.2; dsimp only at this; rw [HM.out] at this; unfold zJt at this; rw [if_neg hj] at this; omega)
        have z1 : (nc != 0) = true := by simp [hi]
        have z2 : (nc == 0) = false := by simp [hi]
        go_wp2_with fail
        go_ret
        exact ⟨rfl, HB2.out⟩
  · have HP : Hid (zJt M 0 bh na ∧ zJt M 1 bh nb ∧ zJt M 2 bh nc) := Kh ⟨hno.out.1 (by omega), hno.out.2.1 (by omega), hno.out.2.2 (by omega)⟩
    clear c0 c1 c2; obtain ⟨F, hF⟩ : ∃ b, decide (zFh nt) = b := ⟨_, rfl⟩
    have TN := Kh (fun W => zG6 nt ht F hF W)
    have HF := Kh hF; clear hF; have HT : Hid ((((k = 34 ∨ k = 30 ∨ k = 31 ∨ k = 32) ∨ nn = 0) ∧ (k = 30 ∨ nm = 0) ∧ (if zI6 k then zFh nt else nt.size = 0)) → true = V) := Kh (fun h => HGood.out ⟨by rw [HM.out]; exact h0M, by rw [HM.out]; exact HP.out, h.1, h.2.1, h.2.2⟩)
    have HU : Hid (¬ (((k = 34 ∨ k = 30 ∨ k = 31 ∨ k = 32) ∨ nn = 0) ∧ (k = 30 ∨ nm = 0) ∧ (if zI6 k then zFh nt else nt.size = 0)) → false = V) := Kh (fun h => HBad.out (fun hf => h ⟨hf.2.2.1, hf.2.2.2.1, hf.2.2.2.2⟩))
    clear HBad HGood HP hno
    by_cases k35 : k = 35
    case pos =>
     subst k35
     cases F with
     | false =>
      obtain rfl := HU.out (fun h => by have := h.2.2; rw [if_pos (show zI6 35 by unfold zI6; omega)] at this; exact absurd this (of_decide_eq_false HF.out))
      go_wp2_with (go_at_call 185; refine (TN.out _).mono ?_; rintro e w1 ⟨rfl, rfl⟩)
      go_ret
      exact ⟨rfl, HB2.out⟩
     | true =>
      by_cases hm : nm = 0
      case neg =>
       have m1 : (nm != 0) = true := by simpa using hm
       obtain rfl := HU.out (fun h => by have := h.2.1; omega)
       go_wp2_with (go_at_call 185; refine (TN.out _).mono ?_; rintro e w1 ⟨rfl, rfl⟩)
       go_ret
       exact ⟨rfl, HB2.out⟩
      subst hm
      by_cases hn : nn = 0
      · subst hn
        obtain rfl := HT.out ⟨.inr rfl, .inr rfl, by rw [if_pos (show zI6 35 by unfold zI6; omega)]; exact of_decide_eq_true HF.out⟩
        go_wp2_with (go_at_call 185; refine (TN.out _).mono ?_; rintro e w1 ⟨rfl, rfl⟩)
        go_ret
        exact ⟨rfl, HB2.out⟩
      · have n1 : (nn == 0) = false := by simpa using hn
        obtain rfl := HU.out (fun h => by have := h.1; omega)
        go_wp2_with (go_at_call 185; refine (TN.out _).mono ?_; rintro e w1 ⟨rfl, rfl⟩)
        go_ret
        exact ⟨rfl, HB2.out⟩
    by_cases k36 : k = 36
    case pos =>
     subst k36
     cases F with
     | false =>
      obtain rfl := HU.out (fun h => by have := h.2.2; rw [if_pos (show zI6 36 by unfold zI6; omega)] at this; exact absurd this (of_decide_eq_false HF.out))
      go_wp2_with (go_at_call 185; refine (TN.out _).mono ?_; rintro e w1 ⟨rfl, rfl⟩)
      go_ret
      exact ⟨rfl, HB2.out⟩
     | true =>
      by_cases hm : nm = 0
      case neg =>
       have m1 : (nm != 0) = true := by simpa using hm
       obtain rfl := HU.out (fun h => by have := h.2.1; omega)
       go_wp2_with (go_at_call 185; refine (TN.out _).mono ?_; rintro e w1 ⟨rfl, rfl⟩)
       go_ret
       exact ⟨rfl, HB2.out⟩
      subst hm
      by_cases hn : nn = 0
      · subst hn
        obtain rfl := HT.out ⟨.inr rfl, .inr rfl, by rw [if_pos (show zI6 36 by unfold zI6; omega)]; exact of_decide_eq_true HF.out⟩
        go_wp2_with (go_at_call 185; refine (TN.out _).mono ?_; rintro e w1 ⟨rfl, rfl⟩)
        go_ret
        exact ⟨rfl, HB2.out⟩
      · have n1 : (nn == 0) = false := by simpa using hn
        obtain rfl := HU.out (fun h => by have := h.1; omega)
        go_wp2_with (go_at_call 185; refine (TN.out _).mono ?_; rintro e w1 ⟨rfl, rfl⟩)
        go_ret
        exact ⟨rfl, HB2.out⟩
    have d35 : (k == 35) = false := by simpa using k35
    have d36 : (k == 36) = false := by simpa using k36
    have hnk : ¬ zI6 k := by unfold zI6; omega
    by_cases hnt : nt.size = 0
    case neg =>
     have y1 : (nt.toList == []) = false := by rw [Bool.eq_false_iff]; exact fun h => hnt ((zDf nt).1 h)
     have y2 : ¬ nt.toList = [] := by simpa using y1
     have y3 : (nt.toList != []) = true := by simpa using y1
     have y4 : (!nt.toList.isEmpty) = true := by simpa using y2
     have y5 : nt.toList.isEmpty = false := by simpa using y2
     obtain rfl := HU.out (fun h => by have := h.2.2; rw [if_neg hnk] at this; exact hnt this)
     cases F with
     | false =>
      go_wp2_with (go_at_call 185; refine (TN.out _).mono ?_; rintro e w1 ⟨rfl, rfl⟩)
      go_ret
      exact ⟨rfl, HB2.out⟩
     | true =>
      go_wp2_with (go_at_call 185; refine (TN.out _).mono ?_; rintro e w1 ⟨rfl, rfl⟩)
      go_ret
      exact ⟨rfl, HB2.out⟩
    have y1 : (nt.toList == []) = true := (zDf nt).2 hnt; have y2 : nt.toList = [] := by simpa using y1
    obtain rfl : false = F := by rw [← HF.out]; exact (decide_eq_false (fun h => by have := h.1; omega)).symm
    have HNT := Kh hnt; have HNK := Kh hnk; clear hnt hnk
    by_cases k30 : k = 30
    case pos =>
     subst k30; obtain rfl := HT.out ⟨.inl (.inr (.inl rfl)), .inl rfl, by rw [if_neg HNK.out]; exact HNT.out⟩
     by_cases hn : nn = 0
     · subst hn
       go_wp2_with (go_at_call 185; refine (TN.out _).mono ?_; rintro e w1 ⟨rfl, rfl⟩)
       go_ret
       exact ⟨rfl, HB2.out⟩
     · have n1 : (nn == 0) = false := by simpa using hn
       go_wp2_with (go_at_call 185; refine (TN.out _).mono ?_; rintro e w1 ⟨rfl, rfl⟩)
       go_ret
       exact ⟨rfl, HB2.out⟩
    have d30 : (k == 30) = false := by simpa using k30
    have d30' : (k != 30) = true := by simpa using k30
    by_cases hm : nm = 0
    case neg =>
     have m1 : (nm != 0) = true := by simpa using hm
     obtain rfl := HU.out (fun h => by have := h.2.1; omega)
     go_wp2_with (go_at_call 185; refine (TN.out _).mono ?_; rintro e w1 ⟨rfl, rfl⟩)
     go_ret
     exact ⟨rfl, HB2.out⟩
    subst hm
    by_cases hn : nn = 0
    case pos =>
     subst hn; obtain rfl := HT.out ⟨.inr rfl, .inr rfl, by rw [if_neg HNK.out]; exact HNT.out⟩
     go_wp2_with (go_at_call 185; refine (TN.out _).mono ?_; rintro e w1 ⟨rfl, rfl⟩)
     go_ret
     exact ⟨rfl, HB2.out⟩
    have n1 : (nn == 0) = false := by simpa using hn
    by_cases k31 : k = 31
    case pos =>
     subst k31; obtain rfl := HT.out ⟨.inl (.inr (.inr (.inl rfl))), .inr rfl, by rw [if_neg HNK.out]; exact HNT.out⟩
     go_wp2_with (go_at_call 185; refine (TN.out _).mono ?_; rintro e w1 ⟨rfl, rfl⟩)
     go_ret
     exact ⟨rfl, HB2.out⟩
    have d31 : (k == 31) = false := by simpa using k31
    by_cases k32 : k = 32
    case pos =>
     subst k32; obtain rfl := HT.out ⟨.inl (.inr (.inr (.inr rfl))), .inr rfl, by rw [if_neg HNK.out]; exact HNT.out⟩
     go_wp2_with (go_at_call 185; refine (TN.out _).mono ?_; rintro e w1 ⟨rfl, rfl⟩)
     go_ret
     exact ⟨rfl, HB2.out⟩
    have d32 : (k == 32) = false := by simpa using k32
    by_cases k34 : k = 34
    case pos =>
     subst k34; obtain rfl := HT.out ⟨.inl (.inl rfl), .inr rfl, by rw [if_neg HNK.out]; exact HNT.out⟩
     go_wp2_with (go_at_call 185; refine (TN.out _).mono ?_; rintro e w1 ⟨rfl, rfl⟩)
     go_ret
     exact ⟨rfl, HB2.out⟩
    have d34 : (k == 34) = false := by simpa using k34
    obtain rfl := HU.out (fun h => by have := h.1; omega)
    go_wp2_with (go_at_call 185; refine (TN.out _).mono ?_; rintro e w1 ⟨rfl, rfl⟩)
    go_ret
    exact ⟨rfl, HB2.out⟩
end Go.Proofs.YtmolbnghobfmoaaGreat
