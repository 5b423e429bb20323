/- Part 4 of what the row Row28 rests on: G3 G4. -/
import Derived.Test.YtmolbnghobfmoaaGreatP2
import Derived.Test.YtmolbnghobfmoaaGreatP3
set_option maxRecDepth 100000
set_option maxHeartbeats 16000000
set_option linter.unusedSimpArgs false
set_option linter.unusedVariables false
namespace Go.Proofs.YtmolbnghobfmoaaGreat
open Go.RowKit
theorem turn_at {w b r : Nat} (hw : 1 ≤ w) (hr : r < w) : (r + w - b % w) % w = (r + (w - b % w) % w) % w := by
 have h := Nat.mod_lt b (show w > 0 by omega)
 rw [Nat.add_mod r ((w - b % w) % w), Nat.mod_mod, ← Nat.add_mod]; congr 1; omega
theorem zPn {w a r i : Nat} (ha : a < 2 ^ w) (hr : r < w) (hi : i ≤ w) : zPl w a r i ≤ zPl w a r w := by
 obtain ⟨d, rfl⟩ : ∃ d, w = i + d := ⟨w - i, by omega⟩
 have : ∀ d', d' ≤ d → zPl (i + d) a r i ≤ zPl (i + d) a r (i + d') := by
  intro d'
  induction d' with
  | zero => intro _; exact Nat.le_refl _
  | succ n ih =>
   intro h; have h1 := ih (by omega)
   have h2 := zPo (a := a) hr (show i + n < i + d by omega)
   have h3 : i + (n + 1) = i + n + 1 := rfl; rw [h3, h2]
   exact Nat.le_trans h1 (Nat.le_add_right _ _)
 exact this d (Nat.le_refl _)
theorem zMf (w a b : Nat) (hw : 1 ≤ w ∧ w ≤ 16) (ha : a < 2 ^ w) (hb : b < 2 ^ w) (W : World) :
 Calls Tryz.prog 194 #[.int .i64 16, .int .i64 (w : Int), .int .i64 (a : Int), .int .i64 (b : Int)] W fun e w' => e = .returned (.int .i64 (zPu 16 w a b : Int)) ∧ W = w' := by
 have h16 := zKc hw.2; have hX : zPu 16 w a b < 2 ^ w := zPv (k := 16) hw.1 ha hb (by decide)
 have HX : Hid (∀ i, i < w → tb (zPu 16 w a b) i = if b ≤ i then tb a (i - b) else 0) := Kh (fun i hi => shl_bit hi)
 generalize zPu 16 w a b = X at *; have HXw : Hid (X % 2 ^ w = X) := Kh (Nat.mod_eq_of_lt hX)
 go_enter Tryz.func194, Tryz.ntmps194
 go_wp2_with fail
 go_loop [9, 10] (fun n i => ∃ r : Nat, r ≤ w ∧ n = .int .i64 ((X % 2 ^ r : Nat) : Int) ∧ i = .int .i64 (r : Int)) (fun _ i => w - (intOf i).toNat)
 case atStart => exact ⟨0, Nat.zero_le _, by rw [Nat.pow_zero, Nat.mod_one]; rfl, rfl⟩
 case round =>
  obtain ⟨r, hr, rfl, rfl⟩ := hrel
  by_cases hlt : r < w
  · have e1 : IntKind.i64.wrap ((r : Int) + 1) = (r : Int) + 1 := zRa (by omega) (by omega)
    obtain ⟨P, hP, hP1, hP2, hP3⟩ := zKb (x := r) (by omega)
    have HZ : Hid (∀ z, tb X r = z → IntKind.i64.wrap (((X % 2 ^ r : Nat) : Int) + (z : Int) * P) = ((X % 2 ^ (r + 1) : Nat) : Int)) := Kh (fun z hz => zKq (by omega) hP1 hP3 hz (by omega))
    have HB := Kh (HX.out r hlt); have t1 : (0 : Int) ≤ (r : Int) := by omega
    have t2 : (r : Int) ≤ 16 := by omega
    have hv := Nat.mod_le X (2 ^ r); obtain ⟨V, hV⟩ : ∃ V : Int, ((X % 2 ^ r : Nat) : Int) = V := ⟨_, rfl⟩
    obtain ⟨V', hV'⟩ : ∃ V' : Int, ((X % 2 ^ (r + 1) : Nat) : Int) = V' := ⟨_, rfl⟩
    rw [hV, hV'] at HZ; rw [hV]; have HV' := Kh hV'; have v0 : 0 ≤ V := by omega
    have v1 : V ≤ 65536 := by omega
    have ha6 : a < 65536 := by omega
    have hb6 : b < 65536 := by omega
    clear hV hV' hv hP1 h16 hX ha hb; have s1 : IntKind.i64.wrap ((r : Int) + (b : Int)) = ((r + b : Nat) : Int) := by rw [zRa (by omega) (by omega)]; omega
    by_cases hbi : b ≤ r
    · rw [if_pos hbi] at HB
      have s2 : IntKind.i64.wrap ((r : Int) - (b : Int)) = ((r - b : Nat) : Int) := by rw [zRa (by omega) (by omega)]; omega
      have TA := Kh (fun W => zLo a (r - b) ha6 (by omega) W)
      have hA := zP1 a (r - b); generalize tb a (r - b) = x at *; obtain ⟨d, hd⟩ : ∃ d, r - b = d := ⟨_, rfl⟩
      rw [hd] at s2 TA; have q1 : d < w := by omega
      have q2 : (0 : Int) ≤ (d : Int) := by omega
      clear hd
      rcases hA with rfl | rfl
      · have eZ := HZ.out 0 HB.out
        have eZ' : IntKind.i64.wrap (V + 0) = V' := by rw [show V + 0 = V + ((0 : Nat) : Int) * P by omega]; exact eZ
        obtain rfl : V = V' := by rw [← eZ']; exact ((zRa (by omega) (by omega)).trans (by omega)).symm
        clear eZ eZ'
        go_wp2_with (go_at_call 206; refine (TA.out _).mono ?_; rintro e w' ⟨rfl, rfl⟩)
        go_round
        case rel => exact ⟨r + 1, by omega, by rw [HV'.out], by go_num⟩
        case measure => simp [intOf]; omega
      · have eZ := HZ.out 1 HB.out
        have eZ' : IntKind.i64.wrap (V + P) = V' := by rw [show V + P = V + ((1 : Nat) : Int) * P by omega]; exact eZ
        have eV : V + P = V' := by rw [← eZ']; exact (zRa (by omega) (by omega)).symm
        clear eZ eZ'
        go_wp2_with (go_at_call 206; refine (TA.out _).mono ?_; rintro e w' ⟨rfl, rfl⟩)
        go_round
        case rel => exact ⟨r + 1, by omega, by rw [HV'.out], by go_num⟩
        case measure => simp [intOf]; omega
    · rw [if_neg hbi] at HB
      obtain ⟨z, hz⟩ : ∃ z : Int, (r : Int) - (b : Int) = z := ⟨_, rfl⟩
      have s2 : IntKind.i64.wrap ((r : Int) - (b : Int)) = z := by rw [← hz]; exact zRa (by omega) (by omega)
      have q1 : decide (0 ≤ z) = false := decide_eq_false (by omega)
      clear hz hbi; have eZ := HZ.out 0 HB.out; have eZ' : IntKind.i64.wrap (V + 0) = V' := by rw [show V + 0 = V + ((0 : Nat) : Int) * P by omega]; exact eZ
      obtain rfl : V = V' := by rw [← eZ']; exact ((zRa (by omega) (by omega)).trans (by omega)).symm
      clear eZ eZ'
      go_wp2_with fail
      go_round
      case rel => exact ⟨r + 1, by omega, by rw [HV'.out], by go_num⟩
      case measure => simp [intOf]; omega
  · obtain rfl : r = w := by omega
    rw [HXw.out]
    go_wp2_with fail
    go_ret
    exact ⟨rfl, rfl⟩
theorem zMg (w a b : Nat) (hw : 1 ≤ w ∧ w ≤ 16) (ha : a < 2 ^ w) (hb : b < 2 ^ w) (W : World) :
 Calls Tryz.prog 194 #[.int .i64 17, .int .i64 (w : Int), .int .i64 (a : Int), .int .i64 (b : Int)] W fun e w' => e = .returned (.int .i64 (zPu 17 w a b : Int)) ∧ W = w' := by
 have h16 := zKc hw.2; have hX : zPu 17 w a b < 2 ^ w := zPv (k := 17) hw.1 ha hb (by decide)
 have HX : Hid (∀ i, i < w → tb (zPu 17 w a b) i = if i + b < w then tb a (i + b) else 0) := Kh (fun i hi => zN7 ha)
 generalize zPu 17 w a b = X at *; have HXw : Hid (X % 2 ^ w = X) := Kh (Nat.mod_eq_of_lt hX)
 go_enter Tryz.func194, Tryz.ntmps194
 go_wp2_with fail
 go_loop [9, 10] (fun n i => ∃ r : Nat, r ≤ w ∧ n = .int .i64 ((X % 2 ^ r : Nat) : Int) ∧ i = .int .i64 (r : Int)) (fun _ i => w - (intOf i).toNat)
 case atStart => exact ⟨0, Nat.zero_le _, by rw [Nat.pow_zero, Nat.mod_one]; rfl, rfl⟩
 case round =>
  obtain ⟨r, hr, rfl, rfl⟩ := hrel
  by_cases hlt : r < w
  · have e1 : IntKind.i64.wrap ((r : Int) + 1) = (r : Int) + 1 := zRa (by omega) (by omega)
    obtain ⟨P, hP, hP1, hP2, hP3⟩ := zKb (x := r) (by omega)
    have HZ : Hid (∀ z, tb X r = z → IntKind.i64.wrap (((X % 2 ^ r : Nat) : Int) + (z : Int) * P) = ((X % 2 ^ (r + 1) : Nat) : Int)) := Kh (fun z hz => zKq (by omega) hP1 hP3 hz (by omega))
    have HB := Kh (HX.out r hlt); have t1 : (0 : Int) ≤ (r : Int) := by omega
    have t2 : (r : Int) ≤ 16 := by omega
    have hv := Nat.mod_le X (2 ^ r); obtain ⟨V, hV⟩ : ∃ V : Int, ((X % 2 ^ r : Nat) : Int) = V := ⟨_, rfl⟩
    obtain ⟨V', hV'⟩ : ∃ V' : Int, ((X % 2 ^ (r + 1) : Nat) : Int) = V' := ⟨_, rfl⟩
    rw [hV, hV'] at HZ; rw [hV]; have HV' := Kh hV'; have v0 : 0 ≤ V := by omega
    have v1 : V ≤ 65536 := by omega
    have ha6 : a < 65536 := by omega
    have hb6 : b < 65536 := by omega
    clear hV hV' hv hP1 h16 hX ha hb; have s1 : IntKind.i64.wrap ((r : Int) + (b : Int)) = ((r + b : Nat) : Int) := by rw [zRa (by omega) (by omega)]; omega
    obtain ⟨s, hs⟩ : ∃ s, r + b = s := ⟨_, rfl⟩
    rw [hs] at s1 HB; have s0 : (r : Int) + (b : Int) = (s : Int) := by omega
    have q2 : (0 : Int) ≤ (s : Int) := by omega
    by_cases hsw : s < w
    · rw [if_pos hsw] at HB
      have TA := Kh (fun W => zLo a s ha6 (by omega) W)
      have hA := zP1 a s; generalize tb a s = x at *
      rcases hA with rfl | rfl
      · have eZ := HZ.out 0 HB.out
        have eZ' : IntKind.i64.wrap (V + 0) = V' := by rw [show V + 0 = V + ((0 : Nat) : Int) * P by omega]; exact eZ
        obtain rfl : V = V' := by rw [← eZ']; exact ((zRa (by omega) (by omega)).trans (by omega)).symm
        clear eZ eZ'
        go_wp2_with (go_at_call 206; refine (TA.out _).mono ?_; rintro e w' ⟨rfl, rfl⟩)
        go_round
        case rel => exact ⟨r + 1, by omega, by rw [HV'.out], by go_num⟩
        case measure => simp [intOf]; omega
      · have eZ := HZ.out 1 HB.out
        have eZ' : IntKind.i64.wrap (V + P) = V' := by rw [show V + P = V + ((1 : Nat) : Int) * P by omega]; exact eZ
        have eV : V + P = V' := by rw [← eZ']; exact (zRa (by omega) (by omega)).symm
        clear eZ eZ'
        go_wp2_with (go_at_call 206; refine (TA.out _).mono ?_; rintro e w' ⟨rfl, rfl⟩)
        go_round
        case rel => exact ⟨r + 1, by omega, by rw [HV'.out], by go_num⟩
        case measure => simp [intOf]; omega
    · rw [if_neg hsw] at HB
      have q1 : decide (s < w) = false := decide_eq_false hsw; have eZ := HZ.out 0 HB.out; have eZ' : IntKind.i64.wrap (V + 0) = V' := by rw [show V + 0 = V + ((0 : Nat) : Int) * P by omega]; exact eZ
      obtain rfl : V = V' := by rw [← eZ']; exact ((zRa (by omega) (by omega)).trans (by omega)).symm
      clear eZ eZ'
      go_wp2_with fail
      go_round
      case rel => exact ⟨r + 1, by omega, by rw [HV'.out], by go_num⟩
      case measure => simp [intOf]; omega
  · obtain rfl : r = w := by omega
    rw [HXw.out]
    go_wp2_with fail
    go_ret
    exact ⟨rfl, rfl⟩
theorem zMh (w a b : Nat) (hw : 1 ≤ w ∧ w ≤ 16) (ha : a < 2 ^ w) (hb : b < 2 ^ w) (W : World) :
 Calls Tryz.prog 194 #[.int .i64 18, .int .i64 (w : Int), .int .i64 (a : Int), .int .i64 (b : Int)] W fun e w' => e = .returned (.int .i64 (zPu 18 w a b : Int)) ∧ W = w' := by
 have h16 := zKc hw.2; have hX : zPu 18 w a b < 2 ^ w := zPv (k := 18) hw.1 ha hb (by decide)
 have HX : Hid (∀ i, i < w → tb (zPu 18 w a b) i = if i + b < w then tb a (i + b) else tb a (w - 1)) := Kh (fun i hi => sar_bit hw.1 ha hi)
 generalize zPu 18 w a b = X at *; have HXw : Hid (X % 2 ^ w = X) := Kh (Nat.mod_eq_of_lt hX)
 go_enter Tryz.func194, Tryz.ntmps194
 go_wp2_with fail
 go_loop [9, 10] (fun n i => ∃ r : Nat, r ≤ w ∧ n = .int .i64 ((X % 2 ^ r : Nat) : Int) ∧ i = .int .i64 (r : Int)) (fun _ i => w - (intOf i).toNat)
 case atStart => exact ⟨0, Nat.zero_le _, by rw [Nat.pow_zero, Nat.mod_one]; rfl, rfl⟩
 case round =>
  obtain ⟨r, hr, rfl, rfl⟩ := hrel
  by_cases hlt : r < w
  · have e1 : IntKind.i64.wrap ((r : Int) + 1) = (r : Int) + 1 := zRa (by omega) (by omega)
    obtain ⟨P, hP, hP1, hP2, hP3⟩ := zKb (x := r) (by omega)
    have HZ : Hid (∀ z, tb X r = z → IntKind.i64.wrap (((X % 2 ^ r : Nat) : Int) + (z : Int) * P) = ((X % 2 ^ (r + 1) : Nat) : Int)) := Kh (fun z hz => zKq (by omega) hP1 hP3 hz (by omega))
    have HB := Kh (HX.out r hlt); have t1 : (0 : Int) ≤ (r : Int) := by omega
    have t2 : (r : Int) ≤ 16 := by omega
    have hv := Nat.mod_le X (2 ^ r); obtain ⟨V, hV⟩ : ∃ V : Int, ((X % 2 ^ r : Nat) : Int) = V := ⟨_, rfl⟩
    obtain ⟨V', hV'⟩ : ∃ V' : Int, ((X % 2 ^ (r + 1) : Nat) : Int) = V' := ⟨_, rfl⟩
    rw [hV, hV'] at HZ; rw [hV]; have HV' := Kh hV'; have v0 : 0 ≤ V := by omega
    have v1 : V ≤ 65536 := by omega
    have ha6 : a < 65536 := by omega
    have hb6 : b < 65536 := by omega
    clear hV hV' hv hP1 h16 hX ha hb; have s1 : IntKind.i64.wrap ((r : Int) + (b : Int)) = ((r + b : Nat) : Int) := by rw [zRa (by omega) (by omega)]; omega
    obtain ⟨s, hs⟩ : ∃ s, r + b = s := ⟨_, rfl⟩
    rw [hs] at s1 HB; have s0 : (r : Int) + (b : Int) = (s : Int) := by omega
    have q2 : (0 : Int) ≤ (s : Int) := by omega
    by_cases hsw : s < w
    · rw [if_pos hsw] at HB
      have TA := Kh (fun W => zLo a s ha6 (by omega) W)
      have hA := zP1 a s; generalize tb a s = x at *
      rcases hA with rfl | rfl
      · have eZ := HZ.out 0 HB.out
        have eZ' : IntKind.i64.wrap (V + 0) = V' := by rw [show V + 0 = V + ((0 : Nat) : Int) * P by omega]; exact eZ
        obtain rfl : V = V' := by rw [← eZ']; exact ((zRa (by omega) (by omega)).trans (by omega)).symm
        clear eZ eZ'
        go_wp2_with (go_at_call 206; refine (TA.out _).mono ?_; rintro e w' ⟨rfl, rfl⟩)
        go_round
        case rel => exact ⟨r + 1, by omega, by rw [HV'.out], by go_num⟩
        case measure => simp [intOf]; omega
      · have eZ := HZ.out 1 HB.out
        have eZ' : IntKind.i64.wrap (V + P) = V' := by rw [show V + P = V + ((1 : Nat) : Int) * P by omega]; exact eZ
        have eV : V + P = V' := by rw [← eZ']; exact (zRa (by omega) (by omega)).symm
        clear eZ eZ'
        go_wp2_with (go_at_call 206; refine (TA.out _).mono ?_; rintro e w' ⟨rfl, rfl⟩)
        go_round
        case rel => exact ⟨r + 1, by omega, by rw [HV'.out], by go_num⟩
        case measure => simp [intOf]; omega
    · rw [if_neg hsw] at HB
      have q1 : decide (s < w) = false := decide_eq_false hsw; obtain ⟨u, hu⟩ : ∃ u, w - 1 = u := ⟨_, rfl⟩
      have s3 : IntKind.i64.wrap ((w : Int) - 1) = (u : Int) := by rw [zRa (by omega) (by omega)]; omega
      rw [hu] at HB; have TA := Kh (fun W => zLo a u ha6 (by omega) W)
      have hA := zP1 a u; generalize tb a u = x at *; clear hu
      rcases hA with rfl | rfl
      · have eZ := HZ.out 0 HB.out
        have eZ' : IntKind.i64.wrap (V + 0) = V' := by rw [show V + 0 = V + ((0 : Nat) : Int) * P by omega]; exact eZ
        obtain rfl : V = V' := by rw [← eZ']; exact ((zRa (by omega) (by omega)).trans (by omega)).symm
        clear eZ eZ'
        go_wp2_with (go_at_call 206; refine (TA.out _).mono ?_; rintro e w' ⟨rfl, rfl⟩)
        go_round
        case rel => exact ⟨r + 1, by omega, by rw [HV'.out], by go_num⟩
        case measure => simp [intOf]; omega
      · have eZ := HZ.out 1 HB.out
        have eZ' : IntKind.i64.wrap (V + P) = V' := by rw [show V + P = V + ((1 : Nat) : Int) * P by omega]; exact eZ
        have eV : V + P = V' := by rw [← eZ']; exact (zRa (by omega) (by omega)).symm
        clear eZ eZ'
        go_wp2_with (go_at_call 206; refine (TA.out _).mono ?_; rintro e w' ⟨rfl, rfl⟩)
        go_round
        case rel => exact ⟨r + 1, by omega, by rw [HV'.out], by go_num⟩
        case measure => simp [intOf]; omega
  · obtain rfl : r = w := by omega
    rw [HXw.out]
    go_wp2_with fail
    go_ret
    exact ⟨rfl, rfl⟩
theorem zMm (w a b : Nat) (hw : 1 ≤ w ∧ w ≤ 16) (ha : a < 2 ^ w) (hb : b < 2 ^ w) (W : World) :
 Calls Tryz.prog 195 #[.int .i64 19, .int .i64 (w : Int), .int .i64 (a : Int), .int .i64 (b : Int)] W fun e w' => e = .returned (.int .i64 (zPu 19 w a b : Int)) ∧ Below W.heap.size W w' := by
 have h16 := zKc hw.2; have hX : zPu 19 w a b < 2 ^ w := zPv (k := 19) hw.1 ha hb (by decide)
 have hmod := Nat.mod_lt b (show w > 0 by omega)
 have hR : (b % w) < w := Nat.mod_lt _ (by omega)
 have eX : zPu 19 w a b = zL0 w a (b % w) := rfl; rw [eX] at hX ⊢; rw [← zPm (r := (b % w)) ha] at hX ⊢; have HT : Hid (∀ i, i < w → zPl w a (b % w) (i + 1) = zPl w a (b % w) i + tb a i * 2 ^ ((i + b % w) % w)) := Kh (fun i hi => by rw [zPo hR hi])
 have HL : Hid (∀ i, i ≤ w → zPl w a (b % w) i < 65536) := Kh (fun i hi => by have := zPn ha hR hi; omega)
 have H0 : Hid (zPl w a (b % w) 0 = 0) := Kh (zPp _ _ _); clear hX eX hR; generalize zPl w a (b % w) = X at *; have n0 : ¬ (w : Int) = 0 := by omega
 have n1 : ((w : Int) == 0) = false := by simp only [beq_eq_false_iff_ne]; omega
 obtain ⟨m, hm⟩ : ∃ m, b % w = m := ⟨_, rfl⟩
 rw [hm] at HT hmod; have m0 : (b : Int) % (w : Int) = (m : Int) := by rw [← Int.natCast_emod, hm]
 have m1 : (b : Int).tmod (w : Int) = (m : Int) := by rw [Int.tmod_eq_emod_of_nonneg (by omega)]; exact m0
 have m2 : IntKind.i64.wrap (m : Int) = (m : Int) := zRa (by omega) (by omega)
 have ha6 : a < 65536 := by omega
 clear hm h16 ha hb
 go_enter Tryz.func195, Tryz.ntmps195
 go_wp2_with fail
 go_loopw [9, 10] (fun n i wr => ∃ r : Nat, r ≤ w ∧ Hid (Below W.heap.size W wr) ∧ n = .int .i64 (X r : Int) ∧ i = .int .i64 (r : Int)) (fun _ i _ => w - (intOf i).toNat)
 case atStart => exact ⟨0, Nat.zero_le _, Kh (Below.refl _ _), by rw [H0.out]; rfl, rfl⟩
 case round =>
  obtain ⟨wz, rfl⟩ : ∃ x : World, x = wr := ⟨_, rfl⟩
  obtain ⟨r, hr, HB, rfl, rfl⟩ := hrel
  by_cases hlt : r < w
  · have e1 : IntKind.i64.wrap ((r : Int) + 1) = (r : Int) + 1 := zRa (by omega) (by omega)
    obtain ⟨t0, ht0⟩ : ∃ t0, r + m = t0 := ⟨_, rfl⟩
    have s1 : IntKind.i64.wrap ((r : Int) + (m : Int)) = (t0 : Int) := by rw [zRa (by omega) (by omega)]; omega
    have s0 : (r : Int) + (m : Int) = (t0 : Int) := by omega
    have s2 : IntKind.i64.wrap (t0 : Int) = (t0 : Int) := zRa (by omega) (by omega)
    have eT : r + m = t0 := by omega
    have hT := HT.out r hlt; rw [eT] at hT; have hq := Nat.mod_lt t0 (show w > 0 by omega)
    obtain ⟨q, hqq⟩ : ∃ q, t0 % w = q := ⟨_, rfl⟩
    rw [hqq] at hq hT; have u0 : (t0 : Int) % (w : Int) = (q : Int) := by rw [← Int.natCast_emod, hqq]
    have u1 : (t0 : Int).tmod (w : Int) = (q : Int) := by rw [Int.tmod_eq_emod_of_nonneg (by omega)]; exact u0
    have u2 : IntKind.i64.wrap (q : Int) = (q : Int) := zRa (by omega) (by omega)
    obtain ⟨P, hP, hP1, hP2, hP3⟩ := zKb (x := q) (by omega)
    have TA := Kh (fun W => zLo a r ha6 (by omega) W)
    have hA := zP1 a r; have l1 := HL.out r (by omega)
    have l2 := HL.out (r + 1) (by omega)
    have t1' : (0 : Int) ≤ (q : Int) := by omega
    have t2' : (q : Int) ≤ 16 := by omega
    have ht0' : (0 : Int) ≤ (t0 : Int) := by omega
    have HS := Kh hT; generalize tb a r = x at *; have HY : Hid (∃ Y, X (r + 1) = Y) := Kh ⟨_, rfl⟩
    obtain ⟨Y, hY⟩ := HY.out; rw [hY] at HS l2; have HY := Kh hY; clear hY; generalize X r = Z at *; clear hT hqq eT ht0
    rcases hA with rfl | rfl
    · have e3 : (Y : Int) = (Z : Int) := by have := HS.out; omega
      have e2 : IntKind.i64.wrap ((Z : Int) + 0) = (Z : Int) := by rw [Int.add_zero]; exact zRa (by omega) (by omega)
      have HE := Kh e3; clear e3 hP1
      go_wp2_with fail
      go_quiet ((go_at_call 206; exact zKt (TA.out _)))
      have HB := Kh (zB1 HB.out)
      go_wp2_with fail
      go_roundw
      case rel => exact ⟨r + 1, by omega, Kh (HB.out _), by rw [HY.out, HE.out], by go_num⟩
      case measure => simp [intOf]; omega
    · have e3 : (Y : Int) = (Z : Int) + P := by have := HS.out; omega
      have e2 : IntKind.i64.wrap ((Z : Int) + P) = (Z : Int) + P := zRa (by omega) (by omega)
      have HE := Kh e3; clear e3 hP1
      go_wp2_with fail
      go_quiet ((go_at_call 206; exact zKt (TA.out _)))
      have HB := Kh (zB1 HB.out)
      go_wp2_with fail
      go_roundw
      case rel => exact ⟨r + 1, by omega, Kh (HB.out _), by rw [HY.out, HE.out], by go_num⟩
      case measure => simp [intOf]; omega
  · obtain rfl : r = w := by omega
    go_wp2_with fail
    go_ret
    exact ⟨rfl, HB.out⟩
theorem zMn (w a b : Nat) (hw : 1 ≤ w ∧ w ≤ 16) (ha : a < 2 ^ w) (hb : b < 2 ^ w) (W : World) :
 Calls Tryz.prog 195 #[.int .i64 20, .int .i64 (w : Int), .int .i64 (a : Int), .int .i64 (b : Int)] W fun e w' => e = .returned (.int .i64 (zPu 20 w a b : Int)) ∧ Below W.heap.size W w' := by
 have h16 := zKc hw.2; have hX : zPu 20 w a b < 2 ^ w := zPv (k := 20) hw.1 ha hb (by decide)
 have hmod := Nat.mod_lt b (show w > 0 by omega)
 have hR : ((w - b % w) % w) < w := Nat.mod_lt _ (by omega)
 have eX : zPu 20 w a b = zL0 w a ((w - b % w) % w) := rfl; rw [eX] at hX ⊢; rw [← zPm (r := ((w - b % w) % w)) ha] at hX ⊢; have HT : Hid (∀ i, i < w → zPl w a ((w - b % w) % w) (i + 1) = zPl w a ((w - b % w) % w) i + tb a i * 2 ^ ((i + w - b % w) % w)) := Kh (fun i hi => by rw [zPo hR hi]; rw [turn_at hw.1 hi])
 have HL : Hid (∀ i, i ≤ w → zPl w a ((w - b % w) % w) i < 65536) := Kh (fun i hi => by have := zPn ha hR hi; omega)
 have H0 : Hid (zPl w a ((w - b % w) % w) 0 = 0) := Kh (zPp _ _ _); clear hX eX hR; generalize zPl w a ((w - b % w) % w) = X at *; have n0 : ¬ (w : Int) = 0 := by omega
 have n1 : ((w : Int) == 0) = false := by simp only [beq_eq_false_iff_ne]; omega
 obtain ⟨m, hm⟩ : ∃ m, b % w = m := ⟨_, rfl⟩
 rw [hm] at HT hmod; have m0 : (b : Int) % (w : Int) = (m : Int) := by rw [← Int.natCast_emod, hm]
 have m1 : (b : Int).tmod (w : Int) = (m : Int) := by rw [Int.tmod_eq_emod_of_nonneg (by omega)]; exact m0
 have m2 : IntKind.i64.wrap (m : Int) = (m : Int) := zRa (by omega) (by omega)
 have ha6 : a < 65536 := by omega
 clear hm h16 ha hb
 go_enter Tryz.func195, Tryz.ntmps195
 go_wp2_with fail
 go_loopw [9, 10] (fun n i wr => ∃ r : Nat, r ≤ w ∧ Hid (Below W.heap.size W wr) ∧ n = .int .i64 (X r : Int) ∧ i = .int .i64 (r : Int)) (fun _ i _ => w - (intOf i).toNat)
 case atStart => exact ⟨0, Nat.zero_le _, Kh (Below.refl _ _), by rw [H0.out]; rfl, rfl⟩
 case round =>
  obtain ⟨wz, rfl⟩ : ∃ x : World, x = wr := ⟨_, rfl⟩
  obtain ⟨r, hr, HB, rfl, rfl⟩ := hrel
  by_cases hlt : r < w
  · have e1 : IntKind.i64.wrap ((r : Int) + 1) = (r : Int) + 1 := zRa (by omega) (by omega)
    obtain ⟨t0, ht0⟩ : ∃ t0, r + m = t0 := ⟨_, rfl⟩
    have s1 : IntKind.i64.wrap ((r : Int) + (m : Int)) = (t0 : Int) := by rw [zRa (by omega) (by omega)]; omega
    have s0 : (r : Int) + (m : Int) = (t0 : Int) := by omega
    have s2 : IntKind.i64.wrap (t0 : Int) = (t0 : Int) := zRa (by omega) (by omega)
    obtain ⟨t1, ht1⟩ : ∃ t1, r + w = t1 := ⟨_, rfl⟩
    have s4 : IntKind.i64.wrap ((r : Int) + (w : Int)) = (t1 : Int) := by rw [zRa (by omega) (by omega)]; omega
    have s5 : (r : Int) + (w : Int) = (t1 : Int) := by omega
    have s6 : IntKind.i64.wrap (t1 : Int) = (t1 : Int) := zRa (by omega) (by omega)
    obtain ⟨t2, ht2⟩ : ∃ t2, t1 - m = t2 := ⟨_, rfl⟩
    have s7 : IntKind.i64.wrap ((t1 : Int) - (m : Int)) = (t2 : Int) := by rw [zRa (by omega) (by omega)]; omega
    have s8 : (t1 : Int) - (m : Int) = (t2 : Int) := by omega
    have s9 : IntKind.i64.wrap (t2 : Int) = (t2 : Int) := zRa (by omega) (by omega)
    have eT : r + w - m = t2 := by omega
    have hT := HT.out r hlt; rw [eT] at hT; have hq := Nat.mod_lt t2 (show w > 0 by omega)
    obtain ⟨q, hqq⟩ : ∃ q, t2 % w = q := ⟨_, rfl⟩
    rw [hqq] at hq hT; have u0 : (t2 : Int) % (w : Int) = (q : Int) := by rw [← Int.natCast_emod, hqq]
    have u1 : (t2 : Int).tmod (w : Int) = (q : Int) := by rw [Int.tmod_eq_emod_of_nonneg (by omega)]; exact u0
    have u2 : IntKind.i64.wrap (q : Int) = (q : Int) := zRa (by omega) (by omega)
    obtain ⟨P, hP, hP1, hP2, hP3⟩ := zKb (x := q) (by omega)
    have TA := Kh (fun W => zLo a r ha6 (by omega) W)
    have hA := zP1 a r; have l1 := HL.out r (by omega)
    have l2 := HL.out (r + 1) (by omega)
    have t1' : (0 : Int) ≤ (q : Int) := by omega
    have t2' : (q : Int) ≤ 16 := by omega
    have ht0' : (0 : Int) ≤ (t2 : Int) := by omega
    have HS := Kh hT; generalize tb a r = x at *; have HY : Hid (∃ Y, X (r + 1) = Y) := Kh ⟨_, rfl⟩
    obtain ⟨Y, hY⟩ := HY.out; rw [hY] at HS l2; have HY := Kh hY; clear hY; generalize X r = Z at *; clear hT hqq eT ht0 ht1 ht2
    rcases hA with rfl | rfl
    · have e3 : (Y : Int) = (Z : Int) := by have := HS.out; omega
      have e2 : IntKind.i64.wrap ((Z : Int) + 0) = (Z : Int) := by rw [Int.add_zero]; exact zRa (by omega) (by omega)
      have HE := Kh e3; clear e3 hP1
      go_wp2_with fail
      go_quiet ((go_at_call 206; exact zKt (TA.out _)))
      have HB := Kh (zB1 HB.out)
      go_wp2_with fail
      go_roundw
      case rel => exact ⟨r + 1, by omega, Kh (HB.out _), by rw [HY.out, HE.out], by go_num⟩
      case measure => simp [intOf]; omega
    · have e3 : (Y : Int) = (Z : Int) + P := by have := HS.out; omega
      have e2 : IntKind.i64.wrap ((Z : Int) + P) = (Z : Int) + P := zRa (by omega) (by omega)
      have HE := Kh e3; clear e3 hP1
      go_wp2_with fail
      go_quiet ((go_at_call 206; exact zKt (TA.out _)))
      have HB := Kh (zB1 HB.out)
      go_wp2_with fail
      go_roundw
      case rel => exact ⟨r + 1, by omega, Kh (HB.out _), by rw [HY.out, HE.out], by go_num⟩
      case measure => simp [intOf]; omega
  · obtain rfl : r = w := by omega
    go_wp2_with fail
    go_ret
    exact ⟨rfl, HB.out⟩
theorem sgn_toW {w : Nat} (hw : 1 ≤ w) (z : Int) : sgn w (toW w z) = z ↔ -((2 ^ (w - 1) : Nat) : Int) ≤ z ∧ z ≤ ((2 ^ (w - 1) : Nat) : Int) - 1 := by
 have h2 := zPw hw; have hlt := zPi w z; have hc := zPh w z; have hp := Nat.two_pow_pos (w - 1); constructor
 · intro h
   have := zN5 hw hlt; rw [h] at this; omega
 · rintro ⟨h1, h2'⟩
   by_cases hz : 0 ≤ z
   · have e : (toW w z : Int) = z := by rw [hc, Int.emod_eq_of_lt hz (by omega)]
     unfold sgn; rw [if_pos (by omega)]; exact e
   · have e : (toW w z : Int) = z + ((2 ^ w : Nat) : Int) := by
       rw [hc, ← Int.add_emod_right, Int.emod_eq_of_lt (by omega) (by omega)]
     unfold sgn; rw [if_neg (by omega)]; omega
theorem zB6 (a b : Nat) : ((a : Int) == (b : Int)) = decide (a = b) := by
 by_cases h : a = b
 · subst h; simp
 · rw [decide_eq_false h]; simp only [beq_eq_false_iff_ne]; omega
theorem zPk (w x : Nat) : toW w (x : Int) = x % 2 ^ w := by
 unfold toW; rw [← Int.natCast_emod]; exact Int.toNat_natCast _
theorem zQn {w x : Nat} (hw : 1 ≤ w ∧ w ≤ 16) : zQi (w : Int) (x : Int) ↔ x < 2 ^ w := by
 constructor
 · rintro ⟨-, -, h⟩; rw [Int.toNat_natCast] at h; omega
 · exact zQl hw
theorem zMc (k w a b : Nat) (hk : 21 ≤ k ∧ k ≤ 28) (hw : 1 ≤ w ∧ w ≤ 16) (ha : a < 2 ^ w) (hb : b < 2 ^ w) (W : World) :
 Calls Tryz.prog 190 #[.int .i64 (k : Int), .int .i64 (w : Int), .int .i64 (a : Int), .int .i64 (b : Int)] W fun e w' => e = .returned (.tuple #[.bool (zCs k w a b), .bool true]) ∧ W = w' := by
 have h16 := zKc hw.2; have hsa := zN5 hw.1 ha; have hsb := zN5 hw.1 hb; have h2 := zPw hw.1; have hp := Nat.two_pow_pos (w - 1); have SA := Kh (zMx w a hw ha); have SB := Kh (zMx w b hw hb); obtain ⟨V, hV⟩ : ∃ V, zCs k w a b = V := ⟨_, rfl⟩
 rw [hV]; unfold zCs at hV; have hab : a * b < 4294967296 := Nat.lt_of_lt_of_le (Nat.mul_lt_mul_of_lt_of_le ha (Nat.le_of_lt hb) (by omega)) (Nat.mul_le_mul (h16) (h16))
 generalize sgn w a = x at *; generalize sgn w b = y at *
 rcases (show k = 21 ∨ k = 22 ∨ k = 23 ∨ k = 24 ∨ k = 25 ∨ k = 26 ∨ k = 27 ∨ k = 28 by omega) with rfl | rfl | rfl | rfl | rfl | rfl | rfl | rfl
 · have HV : Hid (((a : Int) == (b : Int)) = V) := Kh ((zB6 a b).trans hV)
   clear h16 hsa hsb h2 hV hp ha hb hab hk
   go_enter Tryz.func190, Tryz.ntmps190
   go_wp2_with (first | ((with_reducible show Calls _ _ #[_, .int .i64 (a : Int)] _ _); go_at_call 188; refine (SA.out _).mono ?_; rintro e w1 ⟨rfl, rfl⟩) | ((with_reducible show Calls _ _ #[_, .int .i64 (b : Int)] _ _); go_at_call 188; refine (SB.out _).mono ?_; rintro e w1 ⟨rfl, rfl⟩))
   exact bodyPost_ret (v := .tuple #[.bool V, .bool true]) (by simp [results, Tryz.results190, go_sem, ← HV.out]) rfl ⟨rfl, rfl⟩
 · have HV : Hid (decide ((a : Int) < (b : Int)) = V) := Kh (by rw [← hV]; exact decide_eq_decide.2 (by omega))
   clear h16 hsa hsb h2 hV hp ha hb hab hk
   go_enter Tryz.func190, Tryz.ntmps190
   go_wp2_with (first | ((with_reducible show Calls _ _ #[_, .int .i64 (a : Int)] _ _); go_at_call 188; refine (SA.out _).mono ?_; rintro e w1 ⟨rfl, rfl⟩) | ((with_reducible show Calls _ _ #[_, .int .i64 (b : Int)] _ _); go_at_call 188; refine (SB.out _).mono ?_; rintro e w1 ⟨rfl, rfl⟩))
   exact bodyPost_ret (v := .tuple #[.bool V, .bool true]) (by simp [results, Tryz.results190, go_sem, ← HV.out]) rfl ⟨rfl, rfl⟩
 · have HV : Hid (decide (x < y) = V) := Kh (hV)
   clear h16 hsa hsb h2 hV hp ha hb hab hk
   go_enter Tryz.func190, Tryz.ntmps190
   go_wp2_with (first | ((with_reducible show Calls _ _ #[_, .int .i64 (a : Int)] _ _); go_at_call 188; refine (SA.out _).mono ?_; rintro e w1 ⟨rfl, rfl⟩) | ((with_reducible show Calls _ _ #[_, .int .i64 (b : Int)] _ _); go_at_call 188; refine (SB.out _).mono ?_; rintro e w1 ⟨rfl, rfl⟩))
   exact bodyPost_ret (v := .tuple #[.bool V, .bool true]) (by simp [results, Tryz.results190, go_sem, ← HV.out]) rfl ⟨rfl, rfl⟩
 · have HV : Hid (decide ((a : Int) ≤ (b : Int)) = V) := Kh (by rw [← hV]; exact decide_eq_decide.2 (by omega))
   clear h16 hsa hsb h2 hV hp ha hb hab hk
   go_enter Tryz.func190, Tryz.ntmps190
   go_wp2_with (first | ((with_reducible show Calls _ _ #[_, .int .i64 (a : Int)] _ _); go_at_call 188; refine (SA.out _).mono ?_; rintro e w1 ⟨rfl, rfl⟩) | ((with_reducible show Calls _ _ #[_, .int .i64 (b : Int)] _ _); go_at_call 188; refine (SB.out _).mono ?_; rintro e w1 ⟨rfl, rfl⟩))
   exact bodyPost_ret (v := .tuple #[.bool V, .bool true]) (by simp [results, Tryz.results190, go_sem, ← HV.out]) rfl ⟨rfl, rfl⟩
 · have HV : Hid (decide (x ≤ y) = V) := Kh (hV)
   clear h16 hsa hsb h2 hV hp ha hb hab hk
   go_enter Tryz.func190, Tryz.ntmps190
   go_wp2_with (first | ((with_reducible show Calls _ _ #[_, .int .i64 (a : Int)] _ _); go_at_call 188; refine (SA.out _).mono ?_; rintro e w1 ⟨rfl, rfl⟩) | ((with_reducible show Calls _ _ #[_, .int .i64 (b : Int)] _ _); go_at_call 188; refine (SB.out _).mono ?_; rintro e w1 ⟨rfl, rfl⟩))
   exact bodyPost_ret (v := .tuple #[.bool V, .bool true]) (by simp [results, Tryz.results190, go_sem, ← HV.out]) rfl ⟨rfl, rfl⟩
 · have e1 : IntKind.i64.wrap ((a : Int) + (b : Int)) = ((a + b : Nat) : Int) := by rw [show (a : Int) + (b : Int) = ((a + b : Nat) : Int) by first | exact (Int.natCast_mul a b).symm | exact (Int.natCast_add a b).symm]; exact zRa (by omega) (by omega)
   have e2 : (a : Int) + (b : Int) = ((a + b : Nat) : Int) := by first | exact (Int.natCast_mul a b).symm | exact (Int.natCast_add a b).symm
   have HV : Hid (decide (zQi (w : Int) ((a + b : Nat) : Int)) = !V) := Kh (by rw [← hV]; have := zQn (x := a + b) hw; by_cases h : a + b < 2 ^ w; (rw [decide_eq_true (this.2 h)]; simp; omega); (rw [decide_eq_false (fun h' => h (this.1 h'))]; simp; omega))
   have OK := Kh (fun W => zMu (w : Int) ((a + b : Nat) : Int) (!V) HV.out W)
   have s0 : (0 : Int) ≤ ((a + b : Nat) : Int) := by omega
   have e3 : IntKind.i64.wrap ((a + b : Nat) : Int) = ((a + b : Nat) : Int) := zRa (by omega) (by omega)
   generalize a + b = s at *; clear h16 hsa hsb h2 hV hp ha hb hab hk
   go_enter Tryz.func190, Tryz.ntmps190
   go_wp2_with (first | ((with_reducible show Calls _ _ #[_, .int .i64 (a : Int)] _ _); go_at_call 188; refine (SA.out _).mono ?_; rintro e w1 ⟨rfl, rfl⟩) | ((with_reducible show Calls _ _ #[_, .int .i64 (b : Int)] _ _); go_at_call 188; refine (SB.out _).mono ?_; rintro e w1 ⟨rfl, rfl⟩) | (go_at_call 156; refine (OK.out _).mono ?_; rintro e w1 ⟨rfl, rfl⟩))
   exact bodyPost_ret (v := .tuple #[.bool V, .bool true]) (by simp [results, Tryz.results190, go_sem]) rfl ⟨rfl, rfl⟩
 · have e1 : IntKind.i64.wrap (x + y) = x + y := zRa (by omega) (by omega)
   have SF := Kh (fun W => zMp w (x + y) hw (by omega) W)
   have ST := Kh (fun W => zMx w (toW w (x + y)) hw (zPi _ _) W)
   have HV : Hid ((sgn w (toW w (x + y)) != x + y) = V) := Kh (by
    rw [← hV]; have := sgn_toW hw.1 (x + y)
    by_cases h : -((2 ^ (w - 1) : Nat) : Int) ≤ x + y ∧ x + y ≤ ((2 ^ (w - 1) : Nat) : Int) - 1
    · rw [this.2 h, decide_eq_true h]; simp
    · have h' : sgn w (toW w (x + y)) ≠ x + y := fun e => h (this.1 e)
      rw [decide_eq_false h]; simp [h'])
   have hlt := zPi w (x + y); generalize sgn w (toW w (x + y)) = z at *; generalize toW w (x + y) = t at *; obtain ⟨s, hs⟩ : ∃ s, x + y = s := ⟨_, rfl⟩
   rw [hs] at e1 SF HV; have e4 : x + y = s := hs; have e5 : IntKind.i64.wrap s = s := zRa (by omega) (by omega)
   clear hs; clear h16 hsa hsb h2 hV hp ha hb hab hk; clear hlt
   go_enter Tryz.func190, Tryz.ntmps190
   go_wp2_with (first | ((with_reducible show Calls _ _ #[_, .int .i64 (t : Int)] _ _); go_at_call 188; refine (ST.out _).mono ?_; rintro e w1 ⟨rfl, rfl⟩) | ((with_reducible show Calls _ _ #[_, .int .i64 (a : Int)] _ _); go_at_call 188; refine (SA.out _).mono ?_; rintro e w1 ⟨rfl, rfl⟩) | ((with_reducible show Calls _ _ #[_, .int .i64 (b : Int)] _ _); go_at_call 188; refine (SB.out _).mono ?_; rintro e w1 ⟨rfl, rfl⟩) | (go_at_call 187; refine (SF.out _).mono ?_; rintro e w1 ⟨rfl, rfl⟩))
   exact bodyPost_ret (v := .tuple #[.bool V, .bool true]) (by simp [results, Tryz.results190, go_sem, ← HV.out]) rfl ⟨rfl, rfl⟩
 · have e1 : IntKind.i64.wrap ((a : Int) * (b : Int)) = ((a * b : Nat) : Int) := by rw [show (a : Int) * (b : Int) = ((a * b : Nat) : Int) by first | exact (Int.natCast_mul a b).symm | exact (Int.natCast_add a b).symm]; exact zRa (by omega) (by omega)
   have e2 : (a : Int) * (b : Int) = ((a * b : Nat) : Int) := by first | exact (Int.natCast_mul a b).symm | exact (Int.natCast_add a b).symm
   have HV : Hid (decide (zQi (w : Int) ((a * b : Nat) : Int)) = !V) := Kh (by rw [← hV]; have := zQn (x := a * b) hw; by_cases h : a * b < 2 ^ w; (rw [decide_eq_true (this.2 h)]; simp; omega); (rw [decide_eq_false (fun h' => h (this.1 h'))]; simp; omega))
   have OK := Kh (fun W => zMu (w : Int) ((a * b : Nat) : Int) (!V) HV.out W)
   have s0 : (0 : Int) ≤ ((a * b : Nat) : Int) := by omega
   have e3 : IntKind.i64.wrap ((a * b : Nat) : Int) = ((a * b : Nat) : Int) := zRa (by omega) (by omega)
   generalize a * b = s at *; clear h16 hsa hsb h2 hV hp ha hb hab hk
   go_enter Tryz.func190, Tryz.ntmps190
   go_wp2_with (first | ((with_reducible show Calls _ _ #[_, .int .i64 (a : Int)] _ _); go_at_call 188; refine (SA.out _).mono ?_; rintro e w1 ⟨rfl, rfl⟩) | ((with_reducible show Calls _ _ #[_, .int .i64 (b : Int)] _ _); go_at_call 188; refine (SB.out _).mono ?_; rintro e w1 ⟨rfl, rfl⟩) | (go_at_call 156; refine (OK.out _).mono ?_; rintro e w1 ⟨rfl, rfl⟩))
   exact bodyPost_ret (v := .tuple #[.bool V, .bool true]) (by simp [results, Tryz.results190, go_sem]) rfl ⟨rfl, rfl⟩
theorem zMd (k w a b : Nat) (hk : 6 ≤ k ∧ k ≤ 20) (hw : 1 ≤ w ∧ w ≤ 16) (ha : a < 2 ^ w) (hb : b < 2 ^ w) (W : World) :
 Calls Tryz.prog 190 #[.int .i64 (k : Int), .int .i64 (w : Int), .int .i64 (a : Int), .int .i64 (b : Int)] W fun e w' => e = .returned (.tuple #[.bool false, .bool false]) ∧ W = w' := by
 have SA := Kh (zMx w a hw ha); have SB := Kh (zMx w b hw hb); have d21 : ((k : Int) == 21) = false := by simp only [beq_eq_false_iff_ne]; omega
 have d22 : ((k : Int) == 22) = false := by simp only [beq_eq_false_iff_ne]; omega
 have d23 : ((k : Int) == 23) = false := by simp only [beq_eq_false_iff_ne]; omega
 have d24 : ((k : Int) == 24) = false := by simp only [beq_eq_false_iff_ne]; omega
 have d25 : ((k : Int) == 25) = false := by simp only [beq_eq_false_iff_ne]; omega
 have d26 : ((k : Int) == 26) = false := by simp only [beq_eq_false_iff_ne]; omega
 have d27 : ((k : Int) == 27) = false := by simp only [beq_eq_false_iff_ne]; omega
 have d28 : ((k : Int) == 28) = false := by simp only [beq_eq_false_iff_ne]; omega
 go_enter Tryz.func190, Tryz.ntmps190
 go_wp2_with (first | ((with_reducible show Calls _ _ #[_, .int .i64 (a : Int)] _ _); go_at_call 188; refine (SA.out _).mono ?_; rintro e w1 ⟨rfl, rfl⟩) | ((with_reducible show Calls _ _ #[_, .int .i64 (b : Int)] _ _); go_at_call 188; refine (SB.out _).mono ?_; rintro e w1 ⟨rfl, rfl⟩))
 exact bodyPost_ret (v := .tuple #[.bool false, .bool false]) (by simp [results, Tryz.results190, go_sem]) rfl ⟨rfl, rfl⟩
theorem zN0 (k w a b : Nat) (hk : 6 ≤ k ∧ k ≤ 28) (hw : 1 ≤ w ∧ w ≤ 16) (ha : a < 2 ^ w) (hb : b < 2 ^ w) (W : World) :
 Calls Tryz.prog 167 #[.int .i64 (k : Int), .int .i64 (w : Int), .int .i64 (a : Int), .int .i64 (b : Int)] W fun e w' => e = .returned (.tuple #[.int .i64 (zPu k w a b : Int), .int .i64 (zPt k w : Int), .bool true]) ∧ Below W.heap.size W w' := by
 have OA := Kh (fun W => zMu (w : Int) (a : Int) true (decide_eq_true (zQl hw ha)) W)
 have OB := Kh (fun W => zMu (w : Int) (b : Int) true (decide_eq_true (zQl hw hb)) W)
 have h16 := zKc hw.2
 by_cases h21 : 21 ≤ k
 · have T := Kh (fun W => zMc k w a b ⟨h21, hk.2⟩ hw ha hb W)
   have er : zPu k w a b = (zCs k w a b).toNat := by unfold zPu; iterate 14 rw [if_neg (by omega)]
   have ev : zPt k w = 1 := by unfold zPt; rw [if_neg (by omega)]
   rw [er, ev]; generalize zCs k w a b = V at *; clear er ev h16 ha hb
   go_enter Tryz.func167, Tryz.ntmps167
   go_wp2_with (first | ((with_reducible show Calls _ _ #[_, .int .i64 (a : Int)] _ _); go_at_call 156; refine (OA.out _).mono ?_; rintro e w1 ⟨rfl, rfl⟩) | ((with_reducible show Calls _ _ #[_, .int .i64 (b : Int)] _ _); go_at_call 156; refine (OB.out _).mono ?_; rintro e w1 ⟨rfl, rfl⟩) | (go_at_call 190; refine (T.out _).mono ?_; rintro e w1 ⟨rfl, rfl⟩) | (go_at_call 161; refine (zN1 _ _).mono ?_; rintro e w1 ⟨rfl, rfl⟩))
   exact bodyPost_ret (v := .tuple #[.int .i64 ((V.toNat : Nat) : Int), .int .i64 1, .bool true]) (by simp [results, Tryz.results167, go_sem]) rfl ⟨rfl, Below.refl _ _⟩
 have T := Kh (fun W => zMd k w a b ⟨hk.1, by omega⟩ hw ha hb W)
 have ev : zPt k w = w := by unfold zPt; rw [if_pos (by omega)]
 rw [ev]; clear ev; have NO : Hid (∀ x : Nat, k ≠ x → ((k : Int) == (x : Int)) = false) := Kh (fun x h => by simp only [beq_eq_false_iff_ne]; omega)
 rcases (show k = 6 ∨ k = 7 ∨ k = 8 ∨ k = 9 ∨ k = 10 ∨ k = 11 ∨ (k = 12 ∨ k = 13) ∨ (k = 14 ∨ k = 15) ∨ k = 16 ∨ k = 17 ∨ k = 18 ∨ k = 19 ∨ k = 20 by omega) with rfl | rfl | rfl | rfl | rfl | rfl | h | h | rfl | rfl | rfl | rfl | rfl
 · have S := Kh (fun W => sEach_6 w a b hw ha hb W)
   generalize zPu 6 w a b = V at *; clear h16 ha hb NO h21
   go_enter Tryz.func167, Tryz.ntmps167
   go_wp2_with (first | ((with_reducible show Calls _ _ #[_, .int .i64 (a : Int)] _ _); go_at_call 156; refine (OA.out _).mono ?_; rintro e w1 ⟨rfl, rfl⟩) | ((with_reducible show Calls _ _ #[_, .int .i64 (b : Int)] _ _); go_at_call 156; refine (OB.out _).mono ?_; rintro e w1 ⟨rfl, rfl⟩) | (go_at_call 190; refine (T.out _).mono ?_; rintro e w1 ⟨rfl, rfl⟩) | (go_at_call 191; refine (S.out _).mono ?_; rintro e w1 ⟨rfl, rfl⟩))
   exact bodyPost_ret (v := .tuple #[.int .i64 (V : Int), .int .i64 (w : Int), .bool true]) (by simp [results, Tryz.results167, go_sem]) rfl ⟨rfl, Below.refl _ _⟩
 · have S := Kh (fun W => sEach_7 w a b hw ha hb W)
   generalize zPu 7 w a b = V at *; clear h16 ha hb NO h21
   go_enter Tryz.func167, Tryz.ntmps167
   go_wp2_with (first | ((with_reducible show Calls _ _ #[_, .int .i64 (a : Int)] _ _); go_at_call 156; refine (OA.out _).mono ?_; rintro e w1 ⟨rfl, rfl⟩) | ((with_reducible show Calls _ _ #[_, .int .i64 (b : Int)] _ _); go_at_call 156; refine (OB.out _).mono ?_; rintro e w1 ⟨rfl, rfl⟩) | (go_at_call 190; refine (T.out _).mono ?_; rintro e w1 ⟨rfl, rfl⟩) | (go_at_call 191; refine (S.out _).mono ?_; rintro e w1 ⟨rfl, rfl⟩))
   exact bodyPost_ret (v := .tuple #[.int .i64 (V : Int), .int .i64 (w : Int), .bool true]) (by simp [results, Tryz.results167, go_sem]) rfl ⟨rfl, Below.refl _ _⟩
 · have S := Kh (fun W => sEach_8 w a b hw ha hb W)
   generalize zPu 8 w a b = V at *; clear h16 ha hb NO h21
   go_enter Tryz.func167, Tryz.ntmps167
   go_wp2_with (first | ((with_reducible show Calls _ _ #[_, .int .i64 (a : Int)] _ _); go_at_call 156; refine (OA.out _).mono ?_; rintro e w1 ⟨rfl, rfl⟩) | ((with_reducible show Calls _ _ #[_, .int .i64 (b : Int)] _ _); go_at_call 156; refine (OB.out _).mono ?_; rintro e w1 ⟨rfl, rfl⟩) | (go_at_call 190; refine (T.out _).mono ?_; rintro e w1 ⟨rfl, rfl⟩) | (go_at_call 191; refine (S.out _).mono ?_; rintro e w1 ⟨rfl, rfl⟩))
   exact bodyPost_ret (v := .tuple #[.int .i64 (V : Int), .int .i64 (w : Int), .bool true]) (by simp [results, Tryz.results167, go_sem]) rfl ⟨rfl, Below.refl _ _⟩
 · have S := Kh (fun W => zMp w ((a : Int) + (b : Int)) hw (by omega) W)
   have e1 : IntKind.i64.wrap ((a : Int) + (b : Int)) = (a : Int) + (b : Int) := zRa (by omega) (by omega)
   have eW : toW w ((a : Int) + (b : Int)) = zPu 9 w a b := by rw [show (a : Int) + (b : Int) = ((a + b : Nat) : Int) from (Int.natCast_add a b).symm, zPk]; rfl
   rw [eW] at S; generalize zPu 9 w a b = V at *; clear eW; clear h16 ha hb NO h21
   go_enter Tryz.func167, Tryz.ntmps167
   go_wp2_with (first | ((with_reducible show Calls _ _ #[_, .int .i64 (a : Int)] _ _); go_at_call 156; refine (OA.out _).mono ?_; rintro e w1 ⟨rfl, rfl⟩) | ((with_reducible show Calls _ _ #[_, .int .i64 (b : Int)] _ _); go_at_call 156; refine (OB.out _).mono ?_; rintro e w1 ⟨rfl, rfl⟩) | (go_at_call 190; refine (T.out _).mono ?_; rintro e w1 ⟨rfl, rfl⟩) | (go_at_call 187; refine (S.out _).mono ?_; rintro e w1 ⟨rfl, rfl⟩))
   exact bodyPost_ret (v := .tuple #[.int .i64 (V : Int), .int .i64 (w : Int), .bool true]) (by simp [results, Tryz.results167, go_sem]) rfl ⟨rfl, Below.refl _ _⟩
 · have S := Kh (fun W => zMp w ((a : Int) - (b : Int)) hw (by omega) W)
   have e1 : IntKind.i64.wrap ((a : Int) - (b : Int)) = (a : Int) - (b : Int) := zRa (by omega) (by omega)
   have eW : toW w ((a : Int) - (b : Int)) = zPu 10 w a b := rfl; rw [eW] at S; generalize zPu 10 w a b = V at *; clear eW; clear h16 ha hb NO h21
   go_enter Tryz.func167, Tryz.ntmps167
   go_wp2_with (first | ((with_reducible show Calls _ _ #[_, .int .i64 (a : Int)] _ _); go_at_call 156; refine (OA.out _).mono ?_; rintro e w1 ⟨rfl, rfl⟩) | ((with_reducible show Calls _ _ #[_, .int .i64 (b : Int)] _ _); go_at_call 156; refine (OB.out _).mono ?_; rintro e w1 ⟨rfl, rfl⟩) | (go_at_call 190; refine (T.out _).mono ?_; rintro e w1 ⟨rfl, rfl⟩) | (go_at_call 187; refine (S.out _).mono ?_; rintro e w1 ⟨rfl, rfl⟩))
   exact bodyPost_ret (v := .tuple #[.int .i64 (V : Int), .int .i64 (w : Int), .bool true]) (by simp [results, Tryz.results167, go_sem]) rfl ⟨rfl, Below.refl _ _⟩
 · have hab : a * b < 4294967296 := Nat.lt_of_lt_of_le (Nat.mul_lt_mul_of_lt_of_le ha (Nat.le_of_lt hb) (by omega)) (Nat.mul_le_mul h16 h16)
   have hab' : (a : Int) * (b : Int) = ((a * b : Nat) : Int) := (Int.natCast_mul a b).symm; have S := Kh (fun W => zMp w ((a : Int) * (b : Int)) hw (by omega) W)
   have e1 : IntKind.i64.wrap ((a : Int) * (b : Int)) = (a : Int) * (b : Int) := zRa (by omega) (by omega)
   have eW : toW w ((a : Int) * (b : Int)) = zPu 11 w a b := by rw [hab', zPk]; rfl
   rw [eW] at S; generalize zPu 11 w a b = V at *; clear eW hab hab'; clear h16 ha hb NO h21
   go_enter Tryz.func167, Tryz.ntmps167
   go_wp2_with (first | ((with_reducible show Calls _ _ #[_, .int .i64 (a : Int)] _ _); go_at_call 156; refine (OA.out _).mono ?_; rintro e w1 ⟨rfl, rfl⟩) | ((with_reducible show Calls _ _ #[_, .int .i64 (b : Int)] _ _); go_at_call 156; refine (OB.out _).mono ?_; rintro e w1 ⟨rfl, rfl⟩) | (go_at_call 190; refine (T.out _).mono ?_; rintro e w1 ⟨rfl, rfl⟩) | (go_at_call 187; refine (S.out _).mono ?_; rintro e w1 ⟨rfl, rfl⟩))
   exact bodyPost_ret (v := .tuple #[.int .i64 (V : Int), .int .i64 (w : Int), .bool true]) (by simp [results, Tryz.results167, go_sem]) rfl ⟨rfl, Below.refl _ _⟩
 · have S := Kh (fun W => sDiv_is k w a b h hw ha hb W)
   generalize zPu k w a b = V at *; have d6 := NO.out 6 (by omega)
   have d7 := NO.out 7 (by omega)
   have d8 := NO.out 8 (by omega)
   have d9 := NO.out 9 (by omega)
   have d10 := NO.out 10 (by omega)
   have d11 := NO.out 11 (by omega)
   rcases h with rfl | rfl
   all_goals
    clear h16 ha hb NO h21
    go_enter Tryz.func167, Tryz.ntmps167
    go_wp2_with (first | ((with_reducible show Calls _ _ #[_, .int .i64 (a : Int)] _ _); go_at_call 156; refine (OA.out _).mono ?_; rintro e w1 ⟨rfl, rfl⟩) | ((with_reducible show Calls _ _ #[_, .int .i64 (b : Int)] _ _); go_at_call 156; refine (OB.out _).mono ?_; rintro e w1 ⟨rfl, rfl⟩) | (go_at_call 190; refine (T.out _).mono ?_; rintro e w1 ⟨rfl, rfl⟩) | (go_at_call 192; refine (S.out _).mono ?_; rintro e w1 ⟨rfl, rfl⟩))
    exact bodyPost_ret (v := .tuple #[.int .i64 (V : Int), .int .i64 (w : Int), .bool true]) (by simp [results, Tryz.results167, go_sem]) rfl ⟨rfl, Below.refl _ _⟩
 · have S := Kh (fun W => zMe k w a b h hw ha hb W)
   have eW : zPu k w a b = zN2 k w a b := by
    unfold zPu
    iterate 8 rw [if_neg (by omega)]
    rw [if_pos h]
   rw [eW]; clear eW; generalize zN2 k w a b = V at *; have d6 := NO.out 6 (by omega)
   have d7 := NO.out 7 (by omega)
   have d8 := NO.out 8 (by omega)
   have d9 := NO.out 9 (by omega)
   have d10 := NO.out 10 (by omega)
   have d11 := NO.out 11 (by omega)
   have d12 := NO.out 12 (by omega)
   have d13 := NO.out 13 (by omega)
   rcases h with rfl | rfl
   all_goals
    clear h16 ha hb NO h21
    go_enter Tryz.func167, Tryz.ntmps167
    go_wp2_with (first | ((with_reducible show Calls _ _ #[_, .int .i64 (a : Int)] _ _); go_at_call 156; refine (OA.out _).mono ?_; rintro e w1 ⟨rfl, rfl⟩) | ((with_reducible show Calls _ _ #[_, .int .i64 (b : Int)] _ _); go_at_call 156; refine (OB.out _).mono ?_; rintro e w1 ⟨rfl, rfl⟩) | (go_at_call 190; refine (T.out _).mono ?_; rintro e w1 ⟨rfl, rfl⟩) | (go_at_call 193; refine (S.out _).mono ?_; rintro e w1 ⟨rfl, rfl⟩))
    exact bodyPost_ret (v := .tuple #[.int .i64 (V : Int), .int .i64 (w : Int), .bool true]) (by simp [results, Tryz.results167, go_sem]) rfl ⟨rfl, Below.refl _ _⟩
 · have S := Kh (fun W => zMf w a b hw ha hb W)
   generalize zPu 16 w a b = V at *; clear h16 ha hb NO h21
   go_enter Tryz.func167, Tryz.ntmps167
   go_wp2_with (first | ((with_reducible show Calls _ _ #[_, .int .i64 (a : Int)] _ _); go_at_call 156; refine (OA.out _).mono ?_; rintro e w1 ⟨rfl, rfl⟩) | ((with_reducible show Calls _ _ #[_, .int .i64 (b : Int)] _ _); go_at_call 156; refine (OB.out _).mono ?_; rintro e w1 ⟨rfl, rfl⟩) | (go_at_call 190; refine (T.out _).mono ?_; rintro e w1 ⟨rfl, rfl⟩) | (go_at_call 194; refine (S.out _).mono ?_; rintro e w1 ⟨rfl, rfl⟩))
   exact bodyPost_ret (v := .tuple #[.int .i64 (V : Int), .int .i64 (w : Int), .bool true]) (by simp [results, Tryz.results167, go_sem]) rfl ⟨rfl, Below.refl _ _⟩
 · have S := Kh (fun W => zMg w a b hw ha hb W)
   generalize zPu 17 w a b = V at *; clear h16 ha hb NO h21
   go_enter Tryz.func167, Tryz.ntmps167
   go_wp2_with (first | ((with_reducible show Calls _ _ #[_, .int .i64 (a : Int)] _ _); go_at_call 156; refine (OA.out _).mono ?_; rintro e w1 ⟨rfl, rfl⟩) | ((with_reducible show Calls _ _ #[_, .int .i64 (b : Int)] _ _); go_at_call 156; refine (OB.out _).mono ?_; rintro e w1 ⟨rfl, rfl⟩) | (go_at_call 190; refine (T.out _).mono ?_; rintro e w1 ⟨rfl, rfl⟩) | (go_at_call 194; refine (S.out _).mono ?_; rintro e w1 ⟨rfl, rfl⟩))
   exact bodyPost_ret (v := .tuple #[.int .i64 (V : Int), .int .i64 (w : Int), .bool true]) (by simp [results, Tryz.results167, go_sem]) rfl ⟨rfl, Below.refl _ _⟩
 · have S := Kh (fun W => zMh w a b hw ha hb W)
   generalize zPu 18 w a b = V at *; clear h16 ha hb NO h21
   go_enter Tryz.func167, Tryz.ntmps167
   go_wp2_with (first | ((with_reducible show Calls _ _ #[_, .int .i64 (a : Int)] _ _); go_at_call 156; refine (OA.out _).mono ?_; rintro e w1 ⟨rfl, rfl⟩) | ((with_reducible show Calls _ _ #[_, .int .i64 (b : Int)] _ _); go_at_call 156; refine (OB.out _).mono ?_; rintro e w1 ⟨rfl, rfl⟩) | (go_at_call 190; refine (T.out _).mono ?_; rintro e w1 ⟨rfl, rfl⟩) | (go_at_call 194; refine (S.out _).mono ?_; rintro e w1 ⟨rfl, rfl⟩))
   exact bodyPost_ret (v := .tuple #[.int .i64 (V : Int), .int .i64 (w : Int), .bool true]) (by simp [results, Tryz.results167, go_sem]) rfl ⟨rfl, Below.refl _ _⟩
 · have S := Kh (fun W => zMm w a b hw ha hb W)
   generalize zPu 19 w a b = V at *; clear h16 ha hb NO h21
   go_enter Tryz.func167, Tryz.ntmps167
   go_wp2_with (first | ((with_reducible show Calls _ _ #[_, .int .i64 (a : Int)] _ _); go_at_call 156; refine (OA.out _).mono ?_; rintro e w1 ⟨rfl, rfl⟩) | ((with_reducible show Calls _ _ #[_, .int .i64 (b : Int)] _ _); go_at_call 156; refine (OB.out _).mono ?_; rintro e w1 ⟨rfl, rfl⟩) | (go_at_call 190; refine (T.out _).mono ?_; rintro e w1 ⟨rfl, rfl⟩) | (go_at_call 195; refine (S.out _).mono ?_; rintro e w1 ⟨rfl, hb1⟩; have HB := Kh hb1; clear hb1))
   exact bodyPost_ret (v := .tuple #[.int .i64 (V : Int), .int .i64 (w : Int), .bool true]) (by simp [results, Tryz.results167, go_sem]) rfl ⟨rfl, HB.out⟩
 · have S := Kh (fun W => zMn w a b hw ha hb W)
   generalize zPu 20 w a b = V at *; clear h16 ha hb NO h21
   go_enter Tryz.func167, Tryz.ntmps167
   go_wp2_with (first | ((with_reducible show Calls _ _ #[_, .int .i64 (a : Int)] _ _); go_at_call 156; refine (OA.out _).mono ?_; rintro e w1 ⟨rfl, rfl⟩) | ((with_reducible show Calls _ _ #[_, .int .i64 (b : Int)] _ _); go_at_call 156; refine (OB.out _).mono ?_; rintro e w1 ⟨rfl, rfl⟩) | (go_at_call 190; refine (T.out _).mono ?_; rintro e w1 ⟨rfl, rfl⟩) | (go_at_call 195; refine (S.out _).mono ?_; rintro e w1 ⟨rfl, hb1⟩; have HB := Kh hb1; clear hb1))
   exact bodyPost_ret (v := .tuple #[.int .i64 (V : Int), .int .i64 (w : Int), .bool true]) (by simp [results, Tryz.results167, go_sem]) rfl ⟨rfl, HB.out⟩
end Go.Proofs.YtmolbnghobfmoaaGreat
