/- Part 3 of what the row Row28 rests on: G1 G2. -/
import Derived.Test.YtmolbnghobfmoaaGreatP2
set_option maxRecDepth 100000
set_option maxHeartbeats 16000000
set_option linter.unusedSimpArgs false
set_option linter.unusedVariables false
namespace Go.Proofs.YtmolbnghobfmoaaGreat
open Go.RowKit
theorem zFx (n lo hi : Int) (b : Bool) (h : decide (lo ≤ n ∧ n ≤ hi) = b) (w : World) : Calls Tryz.prog 111 #[.int .i64 n, .int .i64 lo, .int .i64 hi] w fun e w' => e = .returned (.bool b) ∧ w = w' := by
 subst h
 by_cases h : lo ≤ n
 · go_enter Tryz.func111, Tryz.ntmps111
   go_wp2
   go_ret
   exact ⟨by simp [h], rfl⟩
 · have h' : decide (lo ≤ n) = false := by simpa using h
   go_enter Tryz.func111, Tryz.ntmps111
   go_wp2
   go_ret
   exact ⟨by simp, rfl⟩
theorem zFy (n : Int) (b : Bool) (h : decide (1 ≤ n ∧ n ≤ 16) = b) (w : World) : Calls Tryz.prog 186 #[.int .i64 n] w fun e w' => e = .returned (.bool b) ∧ w = w' := by
 go_enter Tryz.func186, Tryz.ntmps186
 go_wp2_with (go_at_call 111; refine (zFx _ _ _ b h _).mono ?_; rintro e w' ⟨rfl, rfl⟩)
 go_ret
 exact ⟨rfl, rfl⟩
theorem zKb {x : Nat} (h : x ≤ 16) : ∃ P : Int, (2 : Int) ^ x = P ∧ P = ((2 ^ x : Nat) : Int) ∧ 1 ≤ P ∧ P ≤ 65536 := by
 have h1 := zKc h; have h2 := Nat.two_pow_pos x
 exact ⟨_, rfl, by simp, by have e : (2 : Int) ^ x = ((2 ^ x : Nat) : Int) := by simp
                            omega, by have e : (2 : Int) ^ x = ((2 ^ x : Nat) : Int) := by simp
                                      omega⟩
theorem zMv (wd v : Int) (w : World) : Calls Tryz.prog 156 #[.int .i64 wd, .int .i64 v] w fun e w' => e = .returned (.bool (decide (zQi wd v))) ∧ w = w' := by
 by_cases h1 : 1 ≤ wd ∧ wd ≤ 16
 · obtain ⟨n, rfl⟩ : ∃ n : Nat, wd = (n : Int) := ⟨wd.toNat, by omega⟩
   obtain ⟨P, hP, hP1, hP2, hP3⟩ := zKb (x := n) (by omega)
   have e : decide (zQi (n : Int) v) = decide (0 ≤ v ∧ v ≤ P - 1) := by unfold zQi; simp [h1, hP1]
   rw [e]; obtain ⟨b, hb⟩ : ∃ b, decide (0 ≤ v ∧ v ≤ P - 1) = b := ⟨_, rfl⟩
   rw [hb]; have HB := Kh hb; clear hb e hP1; have t1 : (0 : Int) ≤ (n : Int) := by omega
   have t2 : (n : Int) ≤ 16 := by omega
   go_enter Tryz.func156, Tryz.ntmps156
   go_wp2_with (first
    | (go_at_call 186; refine (zFy _ true (decide_eq_true h1) _).mono ?_; rintro e w1 ⟨rfl, rfl⟩)
    | (go_at_call 111; refine (zFx _ _ _ b HB.out _).mono ?_; rintro e w1 ⟨rfl, rfl⟩))
   go_ret
   exact ⟨rfl, rfl⟩
 · have e : decide (zQi wd v) = false := decide_eq_false (fun h => h1 h.1)
   rw [e]
   go_enter Tryz.func156, Tryz.ntmps156
   go_wp2_with (go_at_call 186; refine (zFy _ false (decide_eq_false h1) _).mono ?_; rintro e w1 ⟨rfl, rfl⟩)
   go_ret
   exact ⟨rfl, rfl⟩
theorem zMu (wd v : Int) (b : Bool) (h : decide (zQi wd v) = b) (w : World) : Calls Tryz.prog 156 #[.int .i64 wd, .int .i64 v] w fun e w' => e = .returned (.bool b) ∧ w = w' := by subst h; exact zMv wd v w
theorem zQl {w a : Nat} (hw : 1 ≤ w ∧ w ≤ 16) (ha : a < 2 ^ w) : zQi (w : Int) (a : Int) := by
 refine ⟨by omega, by omega, ?_⟩
 rw [Int.toNat_natCast]; omega
theorem zMx (w a : Nat) (hw : 1 ≤ w ∧ w ≤ 16) (ha : a < 2 ^ w) (W : World) : Calls Tryz.prog 188 #[.int .i64 (w : Int), .int .i64 (a : Int)] W fun e w' => e = .returned (.int .i64 (sgn w a)) ∧ W = w' := by
 have OK := Kh (fun W => zMu (w : Int) (a : Int) true (decide_eq_true (zQl hw ha)) W)
 have h16 := zKc hw.2; obtain ⟨u, hu⟩ : ∃ u, w - 1 = u := ⟨_, rfl⟩
 obtain ⟨P, hP, hP1, hP2, hP3⟩ := zKb (x := w) (by omega)
 obtain ⟨Q, hQ, hQ1, hQ2, hQ3⟩ := zKb (x := u) (by omega)
 have e1 : IntKind.i64.wrap ((w : Int) - 1) = (u : Int) := by rw [zRa (by omega) (by omega)]; omega
 have e2 : IntKind.i64.wrap ((a : Int) - P) = (a : Int) - P := zRa (by omega) (by omega)
 have t1 : (0 : Int) ≤ (u : Int) := by omega
 have t2 : (u : Int) ≤ 16 := by omega
 have t3 : (0 : Int) ≤ (w : Int) := by omega
 have t4 : (w : Int) ≤ 16 := by omega
 by_cases h : a < 2 ^ (w - 1)
 · have e : sgn w a = (a : Int) := by unfold sgn; rw [if_pos h]
   rw [e]; rw [hu] at h; have hd : decide (Q ≤ (a : Int)) = false := decide_eq_false (by omega)
   clear e h hu h16 hw ha hP1 hQ1
   go_enter Tryz.func188, Tryz.ntmps188
   go_wp2_with (go_at_call 156; refine (OK.out _).mono ?_; rintro e w' ⟨rfl, rfl⟩)
   go_ret
   exact ⟨rfl, rfl⟩
 · have e : sgn w a = (a : Int) - P := by unfold sgn; rw [if_neg h, hP1]
   rw [e]; rw [hu] at h; have hd : decide (Q ≤ (a : Int)) = true := decide_eq_true (by omega)
   have hd' : Q ≤ (a : Int) := by omega
   clear e h hu h16 hw ha hP1 hQ1
   go_enter Tryz.func188, Tryz.ntmps188
   go_wp2_with (go_at_call 156; refine (OK.out _).mono ?_; rintro e w' ⟨rfl, rfl⟩)
   go_ret
   exact ⟨rfl, rfl⟩
theorem zP8 {x P : Int} (hx : x < 0) (hP : 0 < P) : (x.tmod P < 0 ∧ x.tmod P + P = x % P) ∨ (¬ x.tmod P < 0 ∧ x.tmod P = x % P) := by
 have h1 : x.tmod P = -((-x) % P) := by
  have : x = -(-x) := by omega
  rw [this, Int.neg_tmod, Int.tmod_eq_emod_of_nonneg (by omega)]; simp
 have h2 := Int.emod_nonneg (-x) (show P ≠ 0 by omega)
 have h3 := Int.emod_lt_of_pos (-x) hP; have h4 := Int.mul_ediv_add_emod (-x) P; rw [h1]; generalize (-x) % P = d at *; generalize (-x) / P = q at *
 by_cases hd : d = 0
 · refine .inr ⟨by omega, ?_⟩
   have : x = P * (-q) := by rw [Int.mul_neg]; omega
   rw [this, Int.mul_emod_right]; omega
 · refine .inl ⟨by omega, ?_⟩
   have : x = (P - d) + P * (-q - 1) := by rw [Int.mul_sub, Int.mul_neg]; omega
   rw [this, Int.add_mul_emod_self_left, Int.emod_eq_of_lt (by omega) (by omega)]; omega
theorem zMp (w : Nat) (x : Int) (hw : 1 ≤ w ∧ w ≤ 16) (hx : -1099511627776 ≤ x ∧ x ≤ 1099511627776) (W : World) : Calls Tryz.prog 187 #[.int .i64 (w : Int), .int .i64 x] W fun e w' => e = .returned (.int .i64 (toW w x : Int)) ∧ W = w' := by
 obtain ⟨P, hP, hP1, hP2, hP3⟩ := zKb (x := w) (by omega)
 have ht := zPh w x; rw [← hP1] at ht; rw [ht]; have hwd : decide (1 ≤ (w : Int) ∧ (w : Int) ≤ 16) = true := decide_eq_true (by omega)
 have t1 : (0 : Int) ≤ (w : Int) := by omega
 have t2 : (w : Int) ≤ 16 := by omega
 have hPn : ¬ P = 0 := by omega
 have hPb : (P == 0) = false := by simpa using hPn
 have h0 := Int.emod_nonneg x hPn; have h1 := Int.emod_lt_of_pos x (show 0 < P by omega)
 have key : (x.tmod P < 0 ∧ x.tmod P + P = x % P) ∨ (¬ x.tmod P < 0 ∧ x.tmod P = x % P) := by
  by_cases hx0 : x < 0
  · exact zP8 hx0 (by omega)
  · rw [Int.tmod_eq_emod_of_nonneg (by omega)]; exact .inr ⟨by omega, rfl⟩
 obtain ⟨R, hR⟩ : ∃ R, x.tmod P = R := ⟨_, rfl⟩
 rw [hR] at key; obtain ⟨E, hE⟩ : ∃ E, x % P = E := ⟨_, rfl⟩
 rw [hE] at key h0 h1; rw [hE]; have eR : IntKind.i64.wrap R = R := zRa (by omega) (by omega)
 have HW := Kh hwd
 rcases key with ⟨k1, k2⟩ | ⟨k1, k2⟩
 · have eE : IntKind.i64.wrap (R + P) = E := by rw [k2]; exact zRa (by omega) (by omega)
   have d1 : decide (R < 0) = true := decide_eq_true k1; have HR := Kh hR
   by_cases hxn : 0 ≤ x
   · exfalso
     rw [Int.tmod_eq_emod_of_nonneg hxn] at hR; omega
   · clear hwd ht hE h0 h1 hx hw hP1 hxn HR k2
     go_enter Tryz.func187, Tryz.ntmps187
     go_wp2_with (go_at_call 186; refine (zFy _ true HW.out _).mono ?_; rintro e w' ⟨rfl, rfl⟩)
     go_ret
     exact ⟨rfl, rfl⟩
 · subst k2
   have d1 : decide (R < 0) = false := decide_eq_false k1; clear hwd ht hx hw hP1 h0 h1
   go_enter Tryz.func187, Tryz.ntmps187
   go_wp2_with (go_at_call 186; refine (zFy _ true HW.out _).mono ?_; rintro e w' ⟨rfl, rfl⟩)
   go_ret
   exact ⟨rfl, rfl⟩
theorem zLo (a i : Nat) (ha : a < 65536) (hi : i ≤ 62) (W : World) : Calls Tryz.prog 206 #[.int .i64 (a : Int), .int .i64 (i : Int)] W fun e w' => e = .returned (.int .i64 (tb a i : Int)) ∧ W = w' := by
 have t1 : (0 : Int) ≤ (i : Int) := by omega
 have t2 : (i : Int) ≤ 62 := by omega
 have e : (a : Int) / (2 : Int) ^ i = ((a / 2 ^ i : Nat) : Int) := by simp
 have e2 : (((a / 2 ^ i : Nat) : Int)).tmod 2 = ((a / 2 ^ i % 2 : Nat) : Int) := rfl; have e3 : (tb a i : Int) = ((a / 2 ^ i % 2 : Nat) : Int) := rfl; rw [e3]; have hm : a / 2 ^ i % 2 < 2 := Nat.mod_lt _ (by decide)
 have hq : a / 2 ^ i ≤ a := Nat.div_le_self _ _; generalize a / 2 ^ i = q at *; have e4 : (q : Int) % 2 = ((q % 2 : Nat) : Int) := by simp
 generalize q % 2 = z at *
 go_enter Tryz.func206, Tryz.ntmps206
 go_wp2_with fail
 go_ret
 exact ⟨by first | rfl | simp_all, rfl⟩
theorem zN1 (b : Bool) (W : World) : Calls Tryz.prog 161 #[.bool b] W fun e w' => e = .returned (.int .i64 (b.toNat : Int)) ∧ W = w' := by
 cases b <;>
 · go_enter Tryz.func161, Tryz.ntmps161
   go_wp2_with fail
   go_ret
   exact ⟨rfl, rfl⟩
theorem zM7 (w a : Nat) (hw : w ≤ 16) (ha : a < 65536) (W : World) : Calls Tryz.prog 189 #[.int .i64 (w : Int), .int .i64 (a : Int)] W fun e w' => e = .returned (.int .i64 (pop w a : Int)) ∧ W = w' := by
 go_enter Tryz.func189, Tryz.ntmps189
 go_wp2_with fail
 go_loop [5, 6] (fun n i => ∃ k : Nat, k ≤ w ∧ n = .int .i64 (pop k a : Int) ∧ i = .int .i64 (k : Int)) (fun _ i => w - (intOf i).toNat)
 case atStart => exact ⟨0, Nat.zero_le _, rfl, rfl⟩
 case round =>
  obtain ⟨k, hk, rfl, rfl⟩ := hrel
  by_cases hlt : k < w
  · have h1 := zK9 k a
    have h2 := zP4 a k; have e1 := wr1 (r := k) (by omega)
    have HS : Hid (pop (k + 1) a = pop k a + tb a k) := Kh rfl; have T := Kh (fun W => zLo a k ha (by omega) W)
    generalize pop k a = p at *; generalize tb a k = b at *
    go_wp2_with (go_at_call 206; refine (T.out _).mono ?_; rintro e w' ⟨rfl, rfl⟩)
    go_round
    case rel => exact ⟨k + 1, by omega, by rw [HS.out]; go_num, by go_num⟩
    case measure => simp [intOf]; omega
  · obtain rfl : k = w := by omega
    go_wp2_with fail
    go_ret
    exact ⟨rfl, rfl⟩
theorem zMw (k w a : Nat) (hk : 1 ≤ k ∧ k ≤ 5) (hw : 1 ≤ w ∧ w ≤ 16) (ha : a < 2 ^ w) (W : World) :
 Calls Tryz.prog 166 #[.int .i64 (k : Int), .int .i64 (w : Int), .int .i64 (a : Int)] W fun e w' => e = .returned (.tuple #[.int .i64 (zIx k w a : Int), .int .i64 (zIw k w : Int), .bool true]) ∧ W = w' := by
 have OK := Kh (fun W => zMu (w : Int) (a : Int) true (decide_eq_true (zQl hw ha)) W)
 have h16 := zKc hw.2; obtain ⟨P, hP, hP1, hP2, hP3⟩ := zKb (x := w) (by omega)
 have t3 : (0 : Int) ≤ (w : Int) := by omega
 have t4 : (w : Int) ≤ 16 := by omega
 have OnesT := Kh (fun W => zM7 w a hw.2 (by omega) W)
 have hpop := zK9 w a; have HW := Kh hw
 rcases (show k = 1 ∨ k = 2 ∨ k = 3 ∨ k = 4 ∨ k = 5 by omega) with rfl | rfl | rfl | rfl | rfl
 · have e0 : IntKind.i64.wrap (P - 1 - (a : Int)) = (zIx 1 w a : Int) := by rw [zRa (by omega) (by omega)]; show _ = ((2 ^ w - 1 - a : Nat) : Int); omega
   have ev : zIw 1 w = w := rfl; rw [ev]; generalize zIx 1 w a = r at *; clear hP1 h16 hw ha hk
   go_enter Tryz.func166, Tryz.ntmps166
   go_wp2_with (go_at_call 156; refine (OK.out _).mono ?_; rintro e w1 ⟨rfl, rfl⟩)
   exact bodyPost_ret (v := .tuple #[.int .i64 (r : Int), .int .i64 (w : Int), .bool true]) (by simp [results, Tryz.results166, go_sem, e0]) rfl ⟨rfl, rfl⟩
 · have e0 : IntKind.i64.wrap (-(a : Int)) = -(a : Int) := zRa (by omega) (by omega)
   have ev : zIw 2 w = w := rfl; have S := Kh (fun W => zMp w (-(a : Int)) hw (by omega) W)
   have er : zIx 2 w a = toW w (-(a : Int)) := rfl; rw [ev, er]; generalize toW w (-(a : Int)) = r at *; clear hP1 h16 hw ha hk er
   go_enter Tryz.func166, Tryz.ntmps166
   go_wp2_with (first | (go_at_call 156; refine (OK.out _).mono ?_; rintro e w1 ⟨rfl, rfl⟩) | (go_at_call 187; refine (S.out _).mono ?_; rintro e w1 ⟨rfl, rfl⟩))
   exact bodyPost_ret (v := .tuple #[.int .i64 (r : Int), .int .i64 (w : Int), .bool true]) (by simp [results, Tryz.results166, go_sem]) rfl ⟨rfl, rfl⟩
 · have ev : zIw 3 w = 1 := rfl
   have er : (zIx 3 w a : Int) = ((decide (0 < a)).toNat : Int) := by
    show ((if a = 0 then 0 else 1 : Nat) : Int) = _
    by_cases h : a = 0
    · subst h; rfl
    · rw [if_neg h, decide_eq_true (by omega)]; rfl
   rw [ev, er]; have ed : decide ((0 : Int) < (a : Int)) = decide (0 < a) := decide_eq_decide.2 (by omega)
   clear hP1 h16 hw ha hk er
   go_enter Tryz.func166, Tryz.ntmps166
   go_wp2_with (first | (go_at_call 156; refine (OK.out _).mono ?_; rintro e w1 ⟨rfl, rfl⟩) | (go_at_call 161; refine (zN1 _ _).mono ?_; rintro e w1 ⟨rfl, rfl⟩))
   exact bodyPost_ret (v := .tuple #[.int .i64 ((decide (0 < a)).toNat : Int), .int .i64 1, .bool true]) (by simp [results, Tryz.results166, go_sem]) rfl ⟨rfl, rfl⟩
 · have ev : zIw 4 w = 1 := rfl
   have er : (zIx 4 w a : Int) = ((decide (pop w a = w)).toNat : Int) := by
    show ((if a = 2 ^ w - 1 then 1 else 0 : Nat) : Int) = _
    by_cases h : a = 2 ^ w - 1
    · rw [if_pos h, decide_eq_true ((zK8 w a ha).2 h)]; rfl
    · rw [if_neg h, decide_eq_false (fun h' => h ((zK8 w a ha).1 h'))]; rfl
   rw [ev, er]; generalize pop w a = p at *
   have ed : ((p : Int) == (w : Int)) = decide (p = w) := by
    by_cases h : p = w
    · subst h; simp
    · rw [decide_eq_false h]; simp only [beq_eq_false_iff_ne]; omega
   clear hP1 h16 hw ha hk er
   go_enter Tryz.func166, Tryz.ntmps166
   go_wp2_with (first | (go_at_call 156; refine (OK.out _).mono ?_; rintro e w1 ⟨rfl, rfl⟩) | (go_at_call 189; refine (OnesT.out _).mono ?_; rintro e w1 ⟨rfl, rfl⟩) | (go_at_call 161; refine (zN1 _ _).mono ?_; rintro e w1 ⟨rfl, rfl⟩))
   exact bodyPost_ret (v := .tuple #[.int .i64 ((decide (p = w)).toNat : Int), .int .i64 1, .bool true]) (by simp [results, Tryz.results166, go_sem]) rfl ⟨rfl, rfl⟩
 · have ev : zIw 5 w = 1 := rfl
   have er : (zIx 5 w a : Int) = ((pop w a % 2 : Nat) : Int) := rfl; rw [ev, er]; generalize pop w a = p at *; have e4 : (p : Int) % 2 = ((p % 2 : Nat) : Int) := by simp
   clear hP1 h16 hw ha hk er
   go_enter Tryz.func166, Tryz.ntmps166
   go_wp2_with (first | (go_at_call 156; refine (OK.out _).mono ?_; rintro e w1 ⟨rfl, rfl⟩) | (go_at_call 189; refine (OnesT.out _).mono ?_; rintro e w1 ⟨rfl, rfl⟩))
   exact bodyPost_ret (v := .tuple #[.int .i64 ((p % 2 : Nat) : Int), .int .i64 1, .bool true]) (by simp [results, Tryz.results166, go_sem]) rfl ⟨rfl, rfl⟩
theorem zP1 (a i : Nat) : tb a i = 0 ∨ tb a i = 1 := by have := zP4 a i; omega
theorem zKq {X i z : Nat} {P : Int} (hi : i < 16) (hP : P = ((2 ^ i : Nat) : Int)) (hP3 : P ≤ 65536) (hz : tb X i = z) (hX : X < 65536) : IntKind.i64.wrap (((X % 2 ^ i : Nat) : Int) + (z : Int) * P) = ((X % 2 ^ (i + 1) : Nat) : Int) := by
 have hz2 := zP4 X i; rw [hz] at hz2; have h1 : X % 2 ^ (i + 1) = X % 2 ^ i + z * 2 ^ i := by rw [zP5, hz]
 have h2 := Nat.mod_le X (2 ^ i); have h3 := Nat.mod_le X (2 ^ (i + 1)); rw [h1, hP]; rw [h1] at h3; have : ((X % 2 ^ i + z * 2 ^ i : Nat) : Int) = ((X % 2 ^ i : Nat) : Int) + (z : Int) * ((2 ^ i : Nat) : Int) := by rw [Int.natCast_add, Int.natCast_mul]
 rw [← this]
 exact zRa (by omega) (by omega)
theorem sEach_6 (w a b : Nat) (hw : 1 ≤ w ∧ w ≤ 16) (ha : a < 2 ^ w) (hb : b < 2 ^ w) (W : World) :
 Calls Tryz.prog 191 #[.int .i64 6, .int .i64 (w : Int), .int .i64 (a : Int), .int .i64 (b : Int)] W fun e w' => e = .returned (.int .i64 (zPu 6 w a b : Int)) ∧ W = w' := by
 have h16 := zKc hw.2; have hX : a &&& b < 2 ^ w := Nat.and_lt_two_pow _ hb; have eX : zPu 6 w a b = a &&& b := rfl; rw [eX]; have HX : Hid (∀ i, tb (a &&& b) i = tb a i * tb b i) := Kh (fun i => tb_and a b i)
 generalize a &&& b = X at *; have HXw : Hid (X % 2 ^ w = X) := Kh (Nat.mod_eq_of_lt hX)
 go_enter Tryz.func191, Tryz.ntmps191
 go_wp2_with fail
 go_loop [9, 10] (fun n i => ∃ r : Nat, r ≤ w ∧ n = .int .i64 ((X % 2 ^ r : Nat) : Int) ∧ i = .int .i64 (r : Int)) (fun _ i => w - (intOf i).toNat)
 case atStart => exact ⟨0, Nat.zero_le _, by rw [Nat.pow_zero, Nat.mod_one]; rfl, rfl⟩
 case round =>
  obtain ⟨r, hr, rfl, rfl⟩ := hrel
  by_cases hlt : r < w
  · have e1 : IntKind.i64.wrap ((r : Int) + 1) = (r : Int) + 1 := zRa (by omega) (by omega)
    obtain ⟨P, hP, hP1, hP2, hP3⟩ := zKb (x := r) (by omega)
    have TA := Kh (fun W => zLo a r (by omega) (by omega) W)
    have TB := Kh (fun W => zLo b r (by omega) (by omega) W)
    have HZ : Hid (∀ z, tb X r = z → IntKind.i64.wrap (((X % 2 ^ r : Nat) : Int) + (z : Int) * P) = ((X % 2 ^ (r + 1) : Nat) : Int)) := Kh (fun z hz => zKq (by omega) hP1 hP3 hz (by omega))
    have HX2 := Kh (HX.out r); have t1 : (0 : Int) ≤ (r : Int) := by omega
    have t2 : (r : Int) ≤ 16 := by omega
    have hv := Nat.mod_le X (2 ^ r); have hA := zP1 a r; have hB := zP1 b r; generalize tb a r = x at *; generalize tb b r = y at *; obtain ⟨V, hV⟩ : ∃ V : Int, ((X % 2 ^ r : Nat) : Int) = V := ⟨_, rfl⟩
    obtain ⟨V', hV'⟩ : ∃ V' : Int, ((X % 2 ^ (r + 1) : Nat) : Int) = V' := ⟨_, rfl⟩
    rw [hV, hV'] at HZ; rw [hV]; have HV' := Kh hV'; have v0 : 0 ≤ V := by omega
    have v1 : V ≤ 65536 := by omega
    clear hV hV' hv hP1 h16 hX
    rcases hA with rfl | rfl <;> rcases hB with rfl | rfl
    · have eZ := HZ.out 0 HX2.out
      have eZ' : IntKind.i64.wrap (V + 0) = V' := by rw [show V + 0 = V + ((0 : Nat) : Int) * P by omega]; exact eZ
      obtain rfl : V = V' := by rw [← eZ']; exact ((zRa (by omega) (by omega)).trans (by omega)).symm
      clear eZ eZ'
      go_wp2_with (first | ((with_reducible show Calls _ _ #[.int .i64 (a : Int), _] _ _); go_at_call 206; refine (TA.out _).mono ?_; rintro e w' ⟨rfl, rfl⟩) | ((with_reducible show Calls _ _ #[.int .i64 (b : Int), _] _ _); go_at_call 206; refine (TB.out _).mono ?_; rintro e w' ⟨rfl, rfl⟩))
      go_round
      case rel => exact ⟨r + 1, by omega, by rw [HV'.out], by go_num⟩
      case measure => simp [intOf]; omega
    · have eZ := HZ.out 0 HX2.out
      have eZ' : IntKind.i64.wrap (V + 0) = V' := by rw [show V + 0 = V + ((0 : Nat) : Int) * P by omega]; exact eZ
      obtain rfl : V = V' := by rw [← eZ']; exact ((zRa (by omega) (by omega)).trans (by omega)).symm
      clear eZ eZ'
      go_wp2_with (first | ((with_reducible show Calls _ _ #[.int .i64 (a : Int), _] _ _); go_at_call 206; refine (TA.out _).mono ?_; rintro e w' ⟨rfl, rfl⟩) | ((with_reducible show Calls _ _ #[.int .i64 (b : Int), _] _ _); go_at_call 206; refine (TB.out _).mono ?_; rintro e w' ⟨rfl, rfl⟩))
      go_round
      case rel => exact ⟨r + 1, by omega, by rw [HV'.out], by go_num⟩
      case measure => simp [intOf]; omega
    · have eZ := HZ.out 0 HX2.out
      have eZ' : IntKind.i64.wrap (V + 0) = V' := by rw [show V + 0 = V + ((0 : Nat) : Int) * P by omega]; exact eZ
      obtain rfl : V = V' := by rw [← eZ']; exact ((zRa (by omega) (by omega)).trans (by omega)).symm
      clear eZ eZ'
      go_wp2_with (first | ((with_reducible show Calls _ _ #[.int .i64 (a : Int), _] _ _); go_at_call 206; refine (TA.out _).mono ?_; rintro e w' ⟨rfl, rfl⟩) | ((with_reducible show Calls _ _ #[.int .i64 (b : Int), _] _ _); go_at_call 206; refine (TB.out _).mono ?_; rintro e w' ⟨rfl, rfl⟩))
      go_round
      case rel => exact ⟨r + 1, by omega, by rw [HV'.out], by go_num⟩
      case measure => simp [intOf]; omega
    · have eZ := HZ.out 1 HX2.out
      have eZ' : IntKind.i64.wrap (V + P) = V' := by rw [show V + P = V + ((1 : Nat) : Int) * P by omega]; exact eZ
      have eV : V + P = V' := by rw [← eZ']; exact (zRa (by omega) (by omega)).symm
      clear eZ eZ'
      go_wp2_with (first | ((with_reducible show Calls _ _ #[.int .i64 (a : Int), _] _ _); go_at_call 206; refine (TA.out _).mono ?_; rintro e w' ⟨rfl, rfl⟩) | ((with_reducible show Calls _ _ #[.int .i64 (b : Int), _] _ _); go_at_call 206; refine (TB.out _).mono ?_; rintro e w' ⟨rfl, rfl⟩))
      go_round
      case rel => exact ⟨r + 1, by omega, by rw [HV'.out], by go_num⟩
      case measure => simp [intOf]; omega
  · obtain rfl : r = w := by omega
    rw [HXw.out]
    go_wp2_with fail
    go_ret
    exact ⟨rfl, rfl⟩
theorem sEach_7 (w a b : Nat) (hw : 1 ≤ w ∧ w ≤ 16) (ha : a < 2 ^ w) (hb : b < 2 ^ w) (W : World) :
 Calls Tryz.prog 191 #[.int .i64 7, .int .i64 (w : Int), .int .i64 (a : Int), .int .i64 (b : Int)] W fun e w' => e = .returned (.int .i64 (zPu 7 w a b : Int)) ∧ W = w' := by
 have h16 := zKc hw.2; have hX : a ||| b < 2 ^ w := Nat.or_lt_two_pow ha hb
 have eX : zPu 7 w a b = a ||| b := rfl
 rw [eX]; have HX : Hid (∀ i, tb (a ||| b) i = tb a i + tb b i - tb a i * tb b i) := Kh (fun i => tb_or a b i)
 generalize a ||| b = X at *
 have HXw : Hid (X % 2 ^ w = X) := Kh (Nat.mod_eq_of_lt hX)
 go_enter Tryz.func191, Tryz.ntmps191
 go_wp2_with fail
 go_loop [9, 10] (fun n i => ∃ r : Nat, r ≤ w ∧ n = .int .i64 ((X % 2 ^ r : Nat) : Int) ∧ i = .int .i64 (r : Int)) (fun _ i => w - (intOf i).toNat)
 case atStart => exact ⟨0, Nat.zero_le _, by rw [Nat.pow_zero, Nat.mod_one]; rfl, rfl⟩
 case round =>
  obtain ⟨r, hr, rfl, rfl⟩ := hrel
  by_cases hlt : r < w
  · have e1 : IntKind.i64.wrap ((r : Int) + 1) = (r : Int) + 1 := zRa (by omega) (by omega)
    obtain ⟨P, hP, hP1, hP2, hP3⟩ := zKb (x := r) (by omega)
    have TA := Kh (fun W => zLo a r (by omega) (by omega) W)
    have TB := Kh (fun W => zLo b r (by omega) (by omega) W)
    have HZ : Hid (∀ z, tb X r = z → IntKind.i64.wrap (((X % 2 ^ r : Nat) : Int) + (z : Int) * P) = ((X % 2 ^ (r + 1) : Nat) : Int)) := Kh (fun z hz => zKq (by omega) hP1 hP3 hz (by omega))
    have HX2 := Kh (HX.out r); have t1 : (0 : Int) ≤ (r : Int) := by omega
    have t2 : (r : Int) ≤ 16 := by omega
    have hv := Nat.mod_le X (2 ^ r); have hA := zP1 a r; have hB := zP1 b r; generalize tb a r = x at *; generalize tb b r = y at *; obtain ⟨V, hV⟩ : ∃ V : Int, ((X % 2 ^ r : Nat) : Int) = V := ⟨_, rfl⟩
    obtain ⟨V', hV'⟩ : ∃ V' : Int, ((X % 2 ^ (r + 1) : Nat) : Int) = V' := ⟨_, rfl⟩
    rw [hV, hV'] at HZ; rw [hV]; have HV' := Kh hV'; have v0 : 0 ≤ V := by omega
    have v1 : V ≤ 65536 := by omega
    clear hV hV' hv hP1 h16 hX
    rcases hA with rfl | rfl <;> rcases hB with rfl | rfl
    · have eZ := HZ.out 0 HX2.out
      have eZ' : IntKind.i64.wrap (V + 0) = V' := by rw [show V + 0 = V + ((0 : Nat) : Int) * P by omega]; exact eZ
      obtain rfl : V = V' := by rw [← eZ']; exact ((zRa (by omega) (by omega)).trans (by omega)).symm
      clear eZ eZ'
      go_wp2_with (first | ((with_reducible show Calls _ _ #[.int .i64 (a : Int), _] _ _); go_at_call 206; refine (TA.out _).mono ?_; rintro e w' ⟨rfl, rfl⟩) | ((with_reducible show Calls _ _ #[.int .i64 (b : Int), _] _ _); go_at_call 206; refine (TB.out _).mono ?_; rintro e w' ⟨rfl, rfl⟩))
      go_round
      case rel => exact ⟨r + 1, by omega, by rw [HV'.out], by go_num⟩
      case measure => simp [intOf]; omega
    · have eZ := HZ.out 1 HX2.out
      have eZ' : IntKind.i64.wrap (V + P) = V' := by rw [show V + P = V + ((1 : Nat) : Int) * P by omega]; exact eZ
      have eV : V + P = V' := by rw [← eZ']; exact (zRa (by omega) (by omega)).symm
      clear eZ eZ'
      go_wp2_with (first | ((with_reducible show Calls _ _ #[.int .i64 (a : Int), _] _ _); go_at_call 206; refine (TA.out _).mono ?_; rintro e w' ⟨rfl, rfl⟩) | ((with_reducible show Calls _ _ #[.int .i64 (b : Int), _] _ _); go_at_call 206; refine (TB.out _).mono ?_; rintro e w' ⟨rfl, rfl⟩))
      go_round
      case rel => exact ⟨r + 1, by omega, by rw [HV'.out], by go_num⟩
      case measure => simp [intOf]; omega
    · have eZ := HZ.out 1 HX2.out
      have eZ' : IntKind.i64.wrap (V + P) = V' := by rw [show V + P = V + ((1 : Nat) : Int) * P by omega]; exact eZ
      have eV : V + P = V' := by rw [← eZ']; exact (zRa (by omega) (by omega)).symm
      clear eZ eZ'
      go_wp2_with (first | ((with_reducible show Calls _ _ #[.int .i64 (a : Int), _] _ _); go_at_call 206; refine (TA.out _).mono ?_; rintro e w' ⟨rfl, rfl⟩) | ((with_reducible show Calls _ _ #[.int .i64 (b : Int), _] _ _); go_at_call 206; refine (TB.out _).mono ?_; rintro e w' ⟨rfl, rfl⟩))
      go_round
      case rel => exact ⟨r + 1, by omega, by rw [HV'.out], by go_num⟩
      case measure => simp [intOf]; omega
    · have eZ := HZ.out 1 HX2.out
      have eZ' : IntKind.i64.wrap (V + P) = V' := by rw [show V + P = V + ((1 : Nat) : Int) * P by omega]; exact eZ
      have eV : V + P = V' := by rw [← eZ']; exact (zRa (by omega) (by omega)).symm
      clear eZ eZ'
      go_wp2_with (first | ((with_reducible show Calls _ _ #[.int .i64 (a : Int), _] _ _); go_at_call 206; refine (TA.out _).mono ?_; rintro e w' ⟨rfl, rfl⟩) | ((with_reducible show Calls _ _ #[.int .i64 (b : Int), _] _ _); go_at_call 206; refine (TB.out _).mono ?_; rintro e w' ⟨rfl, rfl⟩))
      go_round
      case rel => exact ⟨r + 1, by omega, by rw [HV'.out], by go_num⟩
      case measure => simp [intOf]; omega
  · obtain rfl : r = w := by omega
    rw [HXw.out]
    go_wp2_with fail
    go_ret
    exact ⟨rfl, rfl⟩
theorem sEach_8 (w a b : Nat) (hw : 1 ≤ w ∧ w ≤ 16) (ha : a < 2 ^ w) (hb : b < 2 ^ w) (W : World) :
 Calls Tryz.prog 191 #[.int .i64 8, .int .i64 (w : Int), .int .i64 (a : Int), .int .i64 (b : Int)] W fun e w' => e = .returned (.int .i64 (zPu 8 w a b : Int)) ∧ W = w' := by
 have h16 := zKc hw.2; have hX : a ^^^ b < 2 ^ w := Nat.xor_lt_two_pow ha hb; have eX : zPu 8 w a b = a ^^^ b := rfl; rw [eX]; have HX : Hid (∀ i, tb (a ^^^ b) i = (tb a i + tb b i) % 2) := Kh (fun i => tb_xor a b i)
 generalize a ^^^ b = X at *; have HXw : Hid (X % 2 ^ w = X) := Kh (Nat.mod_eq_of_lt hX)
 go_enter Tryz.func191, Tryz.ntmps191
 go_wp2_with fail
 go_loop [9, 10] (fun n i => ∃ r : Nat, r ≤ w ∧ n = .int .i64 ((X % 2 ^ r : Nat) : Int) ∧ i = .int .i64 (r : Int)) (fun _ i => w - (intOf i).toNat)
 case atStart => exact ⟨0, Nat.zero_le _, by rw [Nat.pow_zero, Nat.mod_one]; rfl, rfl⟩
 case round =>
  obtain ⟨r, hr, rfl, rfl⟩ := hrel
  by_cases hlt : r < w
  · have e1 : IntKind.i64.wrap ((r : Int) + 1) = (r : Int) + 1 := zRa (by omega) (by omega)
    obtain ⟨P, hP, hP1, hP2, hP3⟩ := zKb (x := r) (by omega)
    have TA := Kh (fun W => zLo a r (by omega) (by omega) W)
    have TB := Kh (fun W => zLo b r (by omega) (by omega) W)
    have HZ : Hid (∀ z, tb X r = z → IntKind.i64.wrap (((X % 2 ^ r : Nat) : Int) + (z : Int) * P) = ((X % 2 ^ (r + 1) : Nat) : Int)) := Kh (fun z hz => zKq (by omega) hP1 hP3 hz (by omega))
    have HX2 := Kh (HX.out r); have t1 : (0 : Int) ≤ (r : Int) := by omega
    have t2 : (r : Int) ≤ 16 := by omega
    have hv := Nat.mod_le X (2 ^ r); have hA := zP1 a r; have hB := zP1 b r; generalize tb a r = x at *; generalize tb b r = y at *; obtain ⟨V, hV⟩ : ∃ V : Int, ((X % 2 ^ r : Nat) : Int) = V := ⟨_, rfl⟩
    obtain ⟨V', hV'⟩ : ∃ V' : Int, ((X % 2 ^ (r + 1) : Nat) : Int) = V' := ⟨_, rfl⟩
    rw [hV, hV'] at HZ; rw [hV]; have HV' := Kh hV'; have v0 : 0 ≤ V := by omega
    have v1 : V ≤ 65536 := by omega
    clear hV hV' hv hP1 h16 hX
    rcases hA with rfl | rfl <;> rcases hB with rfl | rfl
    · have eZ := HZ.out 0 HX2.out
      have eZ' : IntKind.i64.wrap (V + 0) = V' := by rw [show V + 0 = V + ((0 : Nat) : Int) * P by omega]; exact eZ
      obtain rfl : V = V' := by rw [← eZ']; exact ((zRa (by omega) (by omega)).trans (by omega)).symm
      clear eZ eZ'
      go_wp2_with (first | ((with_reducible show Calls _ _ #[.int .i64 (a : Int), _] _ _); go_at_call 206; refine (TA.out _).mono ?_; rintro e w' ⟨rfl, rfl⟩) | ((with_reducible show Calls _ _ #[.int .i64 (b : Int), _] _ _); go_at_call 206; refine (TB.out _).mono ?_; rintro e w' ⟨rfl, rfl⟩))
      go_round
      case rel => exact ⟨r + 1, by omega, by rw [HV'.out], by go_num⟩
      case measure => simp [intOf]; omega
    · have eZ := HZ.out 1 HX2.out
      have eZ' : IntKind.i64.wrap (V + P) = V' := by rw [show V + P = V + ((1 : Nat) : Int) * P by omega]; exact eZ
      have eV : V + P = V' := by rw [← eZ']; exact (zRa (by omega) (by omega)).symm
      clear eZ eZ'
      go_wp2_with (first | ((with_reducible show Calls _ _ #[.int .i64 (a : Int), _] _ _); go_at_call 206; refine (TA.out _).mono ?_; rintro e w' ⟨rfl, rfl⟩) | ((with_reducible show Calls _ _ #[.int .i64 (b : Int), _] _ _); go_at_call 206; refine (TB.out _).mono ?_; rintro e w' ⟨rfl, rfl⟩))
      go_round
      case rel => exact ⟨r + 1, by omega, by rw [HV'.out], by go_num⟩
      case measure => simp [intOf]; omega
    · have eZ := HZ.out 1 HX2.out
      have eZ' : IntKind.i64.wrap (V + P) = V' := by rw [show V + P = V + ((1 : Nat) : Int) * P by omega]; exact eZ
      have eV : V + P = V' := by rw [← eZ']; exact (zRa (by omega) (by omega)).symm
      clear eZ eZ'
      go_wp2_with (first | ((with_reducible show Calls _ _ #[.int .i64 (a : Int), _] _ _); go_at_call 206; refine (TA.out _).mono ?_; rintro e w' ⟨rfl, rfl⟩) | ((with_reducible show Calls _ _ #[.int .i64 (b : Int), _] _ _); go_at_call 206; refine (TB.out _).mono ?_; rintro e w' ⟨rfl, rfl⟩))
      go_round
      case rel => exact ⟨r + 1, by omega, by rw [HV'.out], by go_num⟩
      case measure => simp [intOf]; omega
    · have eZ := HZ.out 0 HX2.out
      have eZ' : IntKind.i64.wrap (V + 0) = V' := by rw [show V + 0 = V + ((0 : Nat) : Int) * P by omega]; exact eZ
      obtain rfl : V = V' := by rw [← eZ']; exact ((zRa (by omega) (by omega)).trans (by omega)).symm
      clear eZ eZ'
      go_wp2_with (first | ((with_reducible show Calls _ _ #[.int .i64 (a : Int), _] _ _); go_at_call 206; refine (TA.out _).mono ?_; rintro e w' ⟨rfl, rfl⟩) | ((with_reducible show Calls _ _ #[.int .i64 (b : Int), _] _ _); go_at_call 206; refine (TB.out _).mono ?_; rintro e w' ⟨rfl, rfl⟩))
      go_round
      case rel => exact ⟨r + 1, by omega, by rw [HV'.out], by go_num⟩
      case measure => simp [intOf]; omega
  · obtain rfl : r = w := by omega
    rw [HXw.out]
    go_wp2_with fail
    go_ret
    exact ⟨rfl, rfl⟩
theorem sDiv_is (k w a b : Nat) (hk : k = 12 ∨ k = 13) (hw : 1 ≤ w ∧ w ≤ 16) (ha : a < 2 ^ w) (hb : b < 2 ^ w) (W : World) :
 Calls Tryz.prog 192 #[.int .i64 (k : Int), .int .i64 (w : Int), .int .i64 (a : Int), .int .i64 (b : Int)] W fun e w' => e = .returned (.int .i64 (zPu k w a b : Int)) ∧ W = w' := by
 have h16 := zKc hw.2; obtain ⟨P, hP, hP1, hP2, hP3⟩ := zKb (x := w) (by omega)
 have t1 : (0 : Int) ≤ (w : Int) := by omega
 have t2 : (w : Int) ≤ 16 := by omega
 obtain ⟨V, hV⟩ : ∃ V : Int, (zPu k w a b : Int) = V := ⟨_, rfl⟩
 rw [hV]
 by_cases hb0 : b = 0
 · subst hb0
   rcases hk with rfl | rfl
   · obtain rfl : P - 1 = V := by rw [← hV]; show _ = ((2 ^ w - 1 : Nat) : Int); have := Nat.two_pow_pos w; omega
     clear hV h16 hP1
     go_enter Tryz.func192, Tryz.ntmps192
     go_wp2_with fail
     go_ret
     exact ⟨rfl, rfl⟩
   · obtain rfl : (a : Int) = V := hV
     clear h16 hP1
     go_enter Tryz.func192, Tryz.ntmps192
     go_wp2_with fail
     go_ret
     exact ⟨rfl, rfl⟩
 · have hb1 : ¬ (b : Int) = 0 := by omega
   have db : ((b : Int) == 0) = false := by simpa using hb1
   have hbp : 0 < b := by omega
   have hbp' : (0 : Int) < (b : Int) := by omega
   rcases hk with rfl | rfl
   · have hv : ((a / b : Nat) : Int) = V := by rw [← hV]; show _ = ((if b = 0 then 2 ^ w - 1 else a / b : Nat) : Int); rw [if_neg hb0]
     have hq := Nat.div_le_self a b; have e0 : (a : Int).tdiv (b : Int) = V := by rw [← hv]; rw [Int.tdiv_eq_ediv_of_nonneg (by omega)]; rfl
     have e00 : (a : Int) / (b : Int) = V := by rw [← hv]; rfl
     have e1 : IntKind.i64.wrap V = V := by rw [← hv]; exact zRa (by omega) (by omega)
     clear hV hv hq h16 hP1 ha hb
     go_enter Tryz.func192, Tryz.ntmps192
     go_wp2_with fail
     go_ret
     exact ⟨rfl, rfl⟩
   · have hv : ((a % b : Nat) : Int) = V := by rw [← hV]; show _ = ((if b = 0 then a else a % b : Nat) : Int); rw [if_neg hb0]
     have hq := Nat.mod_le a b; have e0 : (a : Int).tmod (b : Int) = V := by rw [← hv]; rw [Int.tmod_eq_emod_of_nonneg (by omega)]; rfl
     have e00 : (a : Int) % (b : Int) = V := by rw [← hv]; rfl
     have e1 : IntKind.i64.wrap V = V := by rw [← hv]; exact zRa (by omega) (by omega)
     clear hV hv hq h16 hP1 ha hb
     go_enter Tryz.func192, Tryz.ntmps192
     go_wp2_with fail
     go_ret
     exact ⟨rfl, rfl⟩
theorem zMe (k w a b : Nat) (hk : k = 14 ∨ k = 15) (hw : 1 ≤ w ∧ w ≤ 16) (ha : a < 2 ^ w) (hb : b < 2 ^ w) (W : World) :
 Calls Tryz.prog 193 #[.int .i64 (k : Int), .int .i64 (w : Int), .int .i64 (a : Int), .int .i64 (b : Int)] W fun e w' => e = .returned (.int .i64 (zN2 k w a b : Int)) ∧ W = w' := by
 have h16 := zKc hw.2; have hsa := zN5 hw.1 ha; have hsb := zN5 hw.1 hb; have h2 := zPw hw.1; obtain ⟨P, hP, hP1, hP2, hP3⟩ := zKb (x := w) (by omega)
 have t1 : (0 : Int) ≤ (w : Int) := by omega
 have t2 : (w : Int) ≤ 16 := by omega
 have SA := Kh (zMx w a hw ha); have SB := Kh (zMx w b hw hb); obtain ⟨V, hV⟩ : ∃ V : Int, (zN2 k w a b : Int) = V := ⟨_, rfl⟩
 rw [hV]; unfold zN2 at hV; generalize sgn w a = x at *; generalize sgn w b = y at *
 by_cases hy : y = 0
 · rw [if_pos hy] at hV
   subst hy
   by_cases hk15 : k = 15
   · rw [if_pos hk15] at hV
     subst hk15; subst hV; have SF := Kh True.intro; clear h16 hsa hsb h2 hP1
     go_enter Tryz.func193, Tryz.ntmps193
     go_wp2_with (first | ((with_reducible show Calls _ _ #[_, .int .i64 (a : Int)] _ _); go_at_call 188; refine (SA.out _).mono ?_; rintro e w1 ⟨rfl, rfl⟩) | ((with_reducible show Calls _ _ #[_, .int .i64 (b : Int)] _ _); go_at_call 188; refine (SB.out _).mono ?_; rintro e w1 ⟨rfl, rfl⟩) | (go_at_call 187; refine (SF.out _).mono ?_; rintro e w1 ⟨rfl, rfl⟩))
     go_ret
     exact ⟨rfl, rfl⟩
   obtain rfl : k = 14 := by omega
   rw [if_neg hk15] at hV; have SF := Kh True.intro
   by_cases hx : x < 0
   · rw [if_pos hx] at hV
     obtain rfl : 1 = V := hV; clear h16 hsa hsb h2 hP1
     go_enter Tryz.func193, Tryz.ntmps193
     go_wp2_with (first | ((with_reducible show Calls _ _ #[_, .int .i64 (a : Int)] _ _); go_at_call 188; refine (SA.out _).mono ?_; rintro e w1 ⟨rfl, rfl⟩) | ((with_reducible show Calls _ _ #[_, .int .i64 (b : Int)] _ _); go_at_call 188; refine (SB.out _).mono ?_; rintro e w1 ⟨rfl, rfl⟩) | (go_at_call 187; refine (SF.out _).mono ?_; rintro e w1 ⟨rfl, rfl⟩))
     go_ret
     exact ⟨rfl, rfl⟩
   · rw [if_neg hx] at hV
     have hp := Nat.two_pow_pos w; obtain rfl : P - 1 = V := by omega
     have dx : decide (x < 0) = false := decide_eq_false hx; clear h16 hsa hsb h2 hV hP1 hp
     go_enter Tryz.func193, Tryz.ntmps193
     go_wp2_with (first | ((with_reducible show Calls _ _ #[_, .int .i64 (a : Int)] _ _); go_at_call 188; refine (SA.out _).mono ?_; rintro e w1 ⟨rfl, rfl⟩) | ((with_reducible show Calls _ _ #[_, .int .i64 (b : Int)] _ _); go_at_call 188; refine (SB.out _).mono ?_; rintro e w1 ⟨rfl, rfl⟩) | (go_at_call 187; refine (SF.out _).mono ?_; rintro e w1 ⟨rfl, rfl⟩))
     go_ret
     exact ⟨rfl, rfl⟩
 · rw [if_neg hy] at hV
   have dy : (y == 0) = false := by simpa using hy
   have hq1 : (x.tdiv y).natAbs ≤ x.natAbs := by rw [Int.natAbs_tdiv]; exact Nat.div_le_self _ _
   have hq2 : (x.tmod y).natAbs ≤ x.natAbs := by rw [Int.natAbs_tmod]; exact Nat.mod_le _ _
   rcases hk with rfl | rfl
   · rw [if_pos rfl] at hV
     have e1 : IntKind.i64.wrap (x.tdiv y) = x.tdiv y := zRa (by omega) (by omega)
     have SF := Kh (fun W => zMp w (x.tdiv y) hw (by omega) W)
     rw [hV] at SF; clear h16 hsa hsb h2 hP1 hV hq1 hq2 ha hb
     go_enter Tryz.func193, Tryz.ntmps193
     go_wp2_with (first | ((with_reducible show Calls _ _ #[_, .int .i64 (a : Int)] _ _); go_at_call 188; refine (SA.out _).mono ?_; rintro e w1 ⟨rfl, rfl⟩) | ((with_reducible show Calls _ _ #[_, .int .i64 (b : Int)] _ _); go_at_call 188; refine (SB.out _).mono ?_; rintro e w1 ⟨rfl, rfl⟩) | (go_at_call 187; refine (SF.out _).mono ?_; rintro e w1 ⟨rfl, rfl⟩))
     go_ret
     exact ⟨rfl, rfl⟩
   · rw [if_neg (by decide)] at hV
     have e1 : IntKind.i64.wrap (x.tmod y) = x.tmod y := zRa (by omega) (by omega)
     have SF := Kh (fun W => zMp w (x.tmod y) hw (by omega) W)
     rw [hV] at SF; clear h16 hsa hsb h2 hP1 hV hq1 hq2 ha hb
     go_enter Tryz.func193, Tryz.ntmps193
     go_wp2_with (first | ((with_reducible show Calls _ _ #[_, .int .i64 (a : Int)] _ _); go_at_call 188; refine (SA.out _).mono ?_; rintro e w1 ⟨rfl, rfl⟩) | ((with_reducible show Calls _ _ #[_, .int .i64 (b : Int)] _ _); go_at_call 188; refine (SB.out _).mono ?_; rintro e w1 ⟨rfl, rfl⟩) | (go_at_call 187; refine (SF.out _).mono ?_; rintro e w1 ⟨rfl, rfl⟩))
     go_ret
     exact ⟨rfl, rfl⟩
end Go.Proofs.YtmolbnghobfmoaaGreat
