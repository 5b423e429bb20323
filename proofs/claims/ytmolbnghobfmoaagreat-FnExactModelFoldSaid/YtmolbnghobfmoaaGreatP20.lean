/- Part 20 of what the row Row28 rests on: F18 F19 G18. -/
import Derived.Test.YtmolbnghobfmoaaGreatP18
import Derived.Test.YtmolbnghobfmoaaGreatP19
set_option maxRecDepth 100000
set_option maxHeartbeats 16000000
set_option linter.unusedSimpArgs false
set_option linter.unusedVariables false
namespace Go.Proofs.YtmolbnghobfmoaaGreat
open Go.RowKit
theorem two_is (k w a b : Nat) (hk : 6 ≤ k ∧ k ≤ 28) (hw : 1 ≤ w ∧ w ≤ 16) (ha : a < 2 ^ w) (hb : b < 2 ^ w) (W : World) :
 Calls Tryz.prog 176 #[.int .i64 (k : Int), .int .i64 (w : Int), .int .i64 (a : Int), .int .i64 (b : Int)] W fun e w' => e = .returned (.tuple #[.int .i64 (zPu k w a b : Int), .int .i64 (zPt k w : Int)]) ∧ Below W.heap.size W w' := by
 have h16 := zKc hw.2; have hp := Nat.two_pow_pos w; have e62 : (2 : Nat) ^ 62 = 4611686018427387904 := by decide
 obtain ⟨M, hM⟩ : ∃ M : Int, ((2 ^ w : Nat) : Int) - 1 = M := ⟨_, rfl⟩
 have T := Kh (zHp (by omega : w ≤ 62) hM)
 have hab : a * b < 4294967296 := Nat.lt_of_lt_of_le (Nat.mul_lt_mul_of_lt_of_le ha (Nat.le_of_lt hb) (by omega)) (Nat.mul_le_mul h16 h16)
 have HW := Kh hw; have HA := Kh ha; have HBb := Kh hb; have hwi : (w : Int) ≠ 0 := by omega
 rcases (show k = 6 ∨ k = 7 ∨ k = 8 ∨ k = 9 ∨ k = 10 ∨ k = 11 ∨ k = 12 ∨ k = 13 ∨ k = 14 ∨ k = 15 ∨ k = 16 ∨ k = 17 ∨ k = 18 ∨ k = 19 ∨ k = 20 ∨ k = 21 ∨ k = 22 ∨ k = 23 ∨ k = 24 ∨ k = 25 ∨ k = 26 ∨ k = 27 ∨ k = 28 by omega) with rfl | rfl | rfl | rfl | rfl | rfl | rfl | rfl | rfl | rfl | rfl | rfl | rfl | rfl | rfl | rfl | rfl | rfl | rfl | rfl | rfl | rfl | rfl
 ·
  have e1 : bits .and .i64 (a : Int) (b : Int) = (zPu 6 w a b : Int) := zBp (by omega) (by omega)
  clear h16 hp e62 hab hM ha hb hw hk hwi
  go_enter Tryz.func176, Tryz.ntmps176
  go_wp2_with fail
  exact bodyPost_ret (v := .tuple #[.int .i64 (zPu 6 w a b : Int), .int .i64 (w : Int)]) (by simp [results, Tryz.results176, go_sem]) rfl ⟨rfl, Below.refl _ _⟩
 ·
  have e1 : bits .or .i64 (a : Int) (b : Int) = (zPu 7 w a b : Int) := zBs (by omega) (by omega)
  clear h16 hp e62 hab hM ha hb hw hk hwi
  go_enter Tryz.func176, Tryz.ntmps176
  go_wp2_with fail
  exact bodyPost_ret (v := .tuple #[.int .i64 (zPu 7 w a b : Int), .int .i64 (w : Int)]) (by simp [results, Tryz.results176, go_sem]) rfl ⟨rfl, Below.refl _ _⟩
 ·
  have e1 : bits .xor .i64 (a : Int) (b : Int) = (zPu 8 w a b : Int) := zBt (by omega) (by omega)
  clear h16 hp e62 hab hM ha hb hw hk hwi
  go_enter Tryz.func176, Tryz.ntmps176
  go_wp2_with fail
  exact bodyPost_ret (v := .tuple #[.int .i64 (zPu 8 w a b : Int), .int .i64 (w : Int)]) (by simp [results, Tryz.results176, go_sem]) rfl ⟨rfl, Below.refl _ _⟩
 ·
  have e0 : IntKind.i64.wrap ((a : Int) + (b : Int)) = (a : Int) + (b : Int) := zRa (by omega) (by omega)
  have e1 : bits .and .i64 ((a : Int) + (b : Int)) M = (zPu 9 w a b : Int) := by rw [← hM, zBr _ (by omega), show (a : Int) + (b : Int) = ((a + b : Nat) : Int) by omega, zPj]; rfl
  clear h16 hp e62 hab hM ha hb hw hk hwi
  go_enter Tryz.func176, Tryz.ntmps176
  go_wp2_with (go_at_call 173; refine (T.out _).mono ?_; rintro e w1 ⟨rfl, rfl⟩)
  exact bodyPost_ret (v := .tuple #[.int .i64 (zPu 9 w a b : Int), .int .i64 (w : Int)]) (by simp [results, Tryz.results176, go_sem]) rfl ⟨rfl, Below.refl _ _⟩
 ·
  have e0 : IntKind.i64.wrap ((a : Int) - (b : Int)) = (a : Int) - (b : Int) := zRa (by omega) (by omega)
  have e1 : bits .and .i64 ((a : Int) - (b : Int)) M = (zPu 10 w a b : Int) := by rw [← hM, zBr _ (by omega)]; rfl
  clear h16 hp e62 hab hM ha hb hw hk hwi
  go_enter Tryz.func176, Tryz.ntmps176
  go_wp2_with (go_at_call 173; refine (T.out _).mono ?_; rintro e w1 ⟨rfl, rfl⟩)
  exact bodyPost_ret (v := .tuple #[.int .i64 (zPu 10 w a b : Int), .int .i64 (w : Int)]) (by simp [results, Tryz.results176, go_sem]) rfl ⟨rfl, Below.refl _ _⟩
 ·
  have e0 : IntKind.i64.wrap ((a : Int) * (b : Int)) = (a : Int) * (b : Int) := by rw [← Int.natCast_mul]; exact zRa (by omega) (by omega)
  have e1 : bits .and .i64 ((a : Int) * (b : Int)) M = (zPu 11 w a b : Int) := by rw [← hM, zBr _ (by omega), ← Int.natCast_mul, zPj]; rfl
  clear h16 hp e62 hab hM ha hb hw hk hwi
  go_enter Tryz.func176, Tryz.ntmps176
  go_wp2_with (go_at_call 173; refine (T.out _).mono ?_; rintro e w1 ⟨rfl, rfl⟩)
  exact bodyPost_ret (v := .tuple #[.int .i64 (zPu 11 w a b : Int), .int .i64 (w : Int)]) (by simp [results, Tryz.results176, go_sem]) rfl ⟨rfl, Below.refl _ _⟩
 ·
  obtain ⟨V, hV⟩ : ∃ V : Int, (zPu 12 w a b : Int) = V := ⟨_, rfl⟩
  rw [hV]; have hV' : ((if b = 0 then 2 ^ w - 1 else a / b : Nat) : Int) = V := hV
  clear hV
  by_cases h : b = 0
  · subst h
    rw [if_pos rfl] at hV'; obtain rfl : M = V := by omega
    clear hV'; clear h16 hp e62 hab hM ha hb hw hk hwi
    go_enter Tryz.func176, Tryz.ntmps176
    go_wp2_with (go_at_call 173; refine (T.out _).mono ?_; rintro e w1 ⟨rfl, rfl⟩)
    exact bodyPost_ret (v := .tuple #[.int .i64 M, .int .i64 (w : Int)]) (by simp [results, Tryz.results176, go_sem]) rfl ⟨rfl, Below.refl _ _⟩
  ·
   rw [if_neg h] at hV'; have dd : (0 : Int) < (b : Int) := by omega
   have dd' : 0 < b := by omega
   have hb0 : ¬ (b : Int) = 0 := by omega
   have e0 : (a : Int).tdiv (b : Int) = V := by rw [← hV']; rw [Int.tdiv_eq_ediv_of_nonneg (by omega)]; rfl
   have e00 : (a : Int) / (b : Int) = V := by rw [← hV']; rfl
   have e1 : IntKind.i64.wrap V = V := by rw [← hV']; exact zRa (by have := Int.natCast_nonneg (a / b); omega) (by have := Nat.div_le_self a b; omega)
   clear hV'; clear h16 hp e62 hab hM ha hb hw hk hwi
   go_enter Tryz.func176, Tryz.ntmps176
   go_wp2_with (go_at_call 173; refine (T.out _).mono ?_; rintro e w1 ⟨rfl, rfl⟩)
   exact bodyPost_ret (v := .tuple #[.int .i64 V, .int .i64 (w : Int)]) (by simp [results, Tryz.results176, go_sem]) rfl ⟨rfl, Below.refl _ _⟩
 ·
  obtain ⟨V, hV⟩ : ∃ V : Int, (zPu 13 w a b : Int) = V := ⟨_, rfl⟩
  rw [hV]; have hV' : ((if b = 0 then a else a % b : Nat) : Int) = V := hV
  clear hV
  by_cases h : b = 0
  · subst h
    rw [if_pos rfl] at hV'; obtain rfl : (a : Int) = V := by omega
    clear h16 hp e62 hab hM ha hb hw hk hwi
    go_enter Tryz.func176, Tryz.ntmps176
    go_wp2_with (go_at_call 173; refine (T.out _).mono ?_; rintro e w1 ⟨rfl, rfl⟩)
    exact bodyPost_ret (v := .tuple #[.int .i64 (a : Int), .int .i64 (w : Int)]) (by simp [results, Tryz.results176, go_sem]) rfl ⟨rfl, Below.refl _ _⟩
  ·
   rw [if_neg h] at hV'; have dd : (0 : Int) < (b : Int) := by omega
   have dd' : 0 < b := by omega
   have hb0 : ¬ (b : Int) = 0 := by omega
   have e0 : (a : Int).tmod (b : Int) = V := by rw [← hV']; rw [Int.tmod_eq_emod_of_nonneg (by omega)]; rfl
   have e00 : (a : Int) % (b : Int) = V := by rw [← hV']; rfl
   have e1 : IntKind.i64.wrap V = V := by rw [← hV']; exact zRa (by have := Int.natCast_nonneg (a % b); omega) (by have := Nat.mod_le a b; omega)
   clear hV'; clear h16 hp e62 hab hM ha hb hw hk hwi
   go_enter Tryz.func176, Tryz.ntmps176
   go_wp2_with (go_at_call 173; refine (T.out _).mono ?_; rintro e w1 ⟨rfl, rfl⟩)
   exact bodyPost_ret (v := .tuple #[.int .i64 V, .int .i64 (w : Int)]) (by simp [results, Tryz.results176, go_sem]) rfl ⟨rfl, Below.refl _ _⟩
 ·
  have S := Kh (fun W => zDe 14 w a b (by omega) hw ha hb W)
  have E : Hid ((zN2 14 w a b : Int) = (zPu 14 w a b : Int)) := Kh rfl; generalize (zN2 14 w a b : Int) = V at *; rw [← E.out]; clear h16 hp e62 hab hM ha hb hw hk hwi
  go_enter Tryz.func176, Tryz.ntmps176
  go_wp2_with (first | (go_at_call 173; refine (T.out _).mono ?_; rintro e w1 ⟨rfl, rfl⟩) | (go_at_call 200; refine (S.out _).mono ?_; rintro e w1 ⟨rfl, hb1⟩; have HB1 := Kh hb1; clear hb1))
  exact bodyPost_ret (v := .tuple #[.int .i64 V, .int .i64 (w : Int)]) (by simp [results, Tryz.results176, go_sem]) rfl ⟨rfl, HB1.out⟩
 ·
  have S := Kh (fun W => zDe 15 w a b (by omega) hw ha hb W)
  have E : Hid ((zN2 15 w a b : Int) = (zPu 15 w a b : Int)) := Kh rfl; generalize (zN2 15 w a b : Int) = V at *; rw [← E.out]; clear h16 hp e62 hab hM ha hb hw hk hwi
  go_enter Tryz.func176, Tryz.ntmps176
  go_wp2_with (first | (go_at_call 173; refine (T.out _).mono ?_; rintro e w1 ⟨rfl, rfl⟩) | (go_at_call 200; refine (S.out _).mono ?_; rintro e w1 ⟨rfl, hb1⟩; have HB1 := Kh hb1; clear hb1))
  exact bodyPost_ret (v := .tuple #[.int .i64 V, .int .i64 (w : Int)]) (by simp [results, Tryz.results176, go_sem]) rfl ⟨rfl, HB1.out⟩
 ·
  have S := Kh (fun W => zN6 16 w a b (by omega) hw ha (by omega) W)
  have E : Hid (((if 16 = 16 then a * 2 ^ min b w % 2 ^ w else if 16 = 17 then a / 2 ^ min b w else sar w a (min b w) : Nat) : Int) = (zPu 16 w a b : Int)) := Kh rfl
  generalize ((if 16 = 16 then a * 2 ^ min b w % 2 ^ w else if 16 = 17 then a / 2 ^ min b w else sar w a (min b w) : Nat) : Int) = V at *
  rw [← E.out]; clear h16 hp e62 hab hM ha hb hw hk hwi
  go_enter Tryz.func176, Tryz.ntmps176
  go_wp2_with (first | (go_at_call 173; refine (T.out _).mono ?_; rintro e w1 ⟨rfl, rfl⟩) | (go_at_call 201; refine (S.out _).mono ?_; rintro e w1 ⟨rfl, hb1⟩; have HB1 := Kh hb1; clear hb1))
  exact bodyPost_ret (v := .tuple #[.int .i64 V, .int .i64 (w : Int)]) (by simp [results, Tryz.results176, go_sem]) rfl ⟨rfl, HB1.out⟩
 ·
  have S := Kh (fun W => zN6 17 w a b (by omega) hw ha (by omega) W)
  have E : Hid (((if 17 = 16 then a * 2 ^ min b w % 2 ^ w else if 17 = 17 then a / 2 ^ min b w else sar w a (min b w) : Nat) : Int) = (zPu 17 w a b : Int)) := Kh rfl
  generalize ((if 17 = 16 then a * 2 ^ min b w % 2 ^ w else if 17 = 17 then a / 2 ^ min b w else sar w a (min b w) : Nat) : Int) = V at *
  rw [← E.out]; clear h16 hp e62 hab hM ha hb hw hk hwi
  go_enter Tryz.func176, Tryz.ntmps176
  go_wp2_with (first | (go_at_call 173; refine (T.out _).mono ?_; rintro e w1 ⟨rfl, rfl⟩) | (go_at_call 201; refine (S.out _).mono ?_; rintro e w1 ⟨rfl, hb1⟩; have HB1 := Kh hb1; clear hb1))
  exact bodyPost_ret (v := .tuple #[.int .i64 V, .int .i64 (w : Int)]) (by simp [results, Tryz.results176, go_sem]) rfl ⟨rfl, HB1.out⟩
 ·
  have S := Kh (fun W => zN6 18 w a b (by omega) hw ha (by omega) W)
  have E : Hid (((if 18 = 16 then a * 2 ^ min b w % 2 ^ w else if 18 = 17 then a / 2 ^ min b w else sar w a (min b w) : Nat) : Int) = (zPu 18 w a b : Int)) := Kh rfl
  generalize ((if 18 = 16 then a * 2 ^ min b w % 2 ^ w else if 18 = 17 then a / 2 ^ min b w else sar w a (min b w) : Nat) : Int) = V at *
  rw [← E.out]; clear h16 hp e62 hab hM ha hb hw hk hwi
  go_enter Tryz.func176, Tryz.ntmps176
  go_wp2_with (first | (go_at_call 173; refine (T.out _).mono ?_; rintro e w1 ⟨rfl, rfl⟩) | (go_at_call 201; refine (S.out _).mono ?_; rintro e w1 ⟨rfl, hb1⟩; have HB1 := Kh hb1; clear hb1))
  exact bodyPost_ret (v := .tuple #[.int .i64 V, .int .i64 (w : Int)]) (by simp [results, Tryz.results176, go_sem]) rfl ⟨rfl, HB1.out⟩
 ·
  have S := Kh (fun W => zKz w a b hw ha (by omega) W)
  have E : Hid ((zL0 w a (b % w) : Int) = (zPu 19 w a b : Int)) := Kh rfl; generalize (zL0 w a (b % w) : Int) = V at *; rw [← E.out]; clear h16 hp e62 hab hM ha hb hw hk hwi
  go_enter Tryz.func176, Tryz.ntmps176
  go_wp2_with (go_at_call 202; refine (S.out _).mono ?_; rintro e w1 ⟨rfl, hb1⟩; have HB1 := Kh hb1; clear hb1)
  exact bodyPost_ret (v := .tuple #[.int .i64 V, .int .i64 (w : Int)]) (by simp [results, Tryz.results176, go_sem]) rfl ⟨rfl, HB1.out⟩
 ·
  have hr := Nat.mod_lt b (show w > 0 by omega)
  have S := Kh (fun W => zKz w a (w - b % w) hw ha (by omega) W)
  have E : Hid ((zL0 w a ((w - b % w) % w) : Int) = (zPu 20 w a b : Int)) := Kh rfl; generalize (zL0 w a ((w - b % w) % w) : Int) = V at *; rw [← E.out]; have n1 : ((w : Int) == 0) = false := by simp only [beq_eq_false_iff_ne]; omega
  have n0 : ¬ (w : Int) = 0 := hwi; obtain ⟨r, hrr⟩ : ∃ r, b % w = r := ⟨_, rfl⟩
  rw [hrr] at S hr; have e0' : (b : Int) % (w : Int) = (r : Int) := by rw [← Int.natCast_emod, hrr]
  have e00 : (b : Int).tmod (w : Int) = (r : Int) := by rw [Int.tmod_eq_emod_of_nonneg (by omega)]; exact e0'
  have e1 : IntKind.i64.wrap (r : Int) = (r : Int) := zRa (by omega) (by omega)
  have e2 : IntKind.i64.wrap ((w : Int) - (r : Int)) = ((w - r : Nat) : Int) := by rw [zRa (by omega) (by omega)]; omega
  generalize w - r = u at *; clear hrr hr; clear h16 hp e62 hab hM ha hb hw hk hwi
  go_enter Tryz.func176, Tryz.ntmps176
  go_wp2_with (go_at_call 202; refine (S.out _).mono ?_; rintro e w1 ⟨rfl, hb1⟩; have HB1 := Kh hb1; clear hb1)
  exact bodyPost_ret (v := .tuple #[.int .i64 V, .int .i64 (w : Int)]) (by simp [results, Tryz.results176, go_sem]) rfl ⟨rfl, HB1.out⟩
 ·
  have S := Kh (fun W => zCz 21 w a b (by omega) hw ha hb W)
  have E : Hid (((zCs 21 w a b).toNat : Int) = (zPu 21 w a b : Int)) := Kh rfl; generalize zCs 21 w a b = V at *; rw [← E.out]; clear h16 hp e62 hab hM ha hb hw hk hwi
  go_enter Tryz.func176, Tryz.ntmps176
  go_wp2_with (first | (go_at_call 203; refine (S.out _).mono ?_; rintro e w1 ⟨rfl, hb1⟩; have HB1 := Kh hb1; clear hb1) | (go_at_call 171; refine (zBj _ _).mono ?_; rintro e w2 ⟨rfl, rfl⟩))
  exact bodyPost_ret (v := .tuple #[.int .i64 ((V.toNat : Nat) : Int), .int .i64 1]) (by simp [results, Tryz.results176, go_sem]) rfl ⟨rfl, HB1.out⟩
 ·
  have S := Kh (fun W => zCz 22 w a b (by omega) hw ha hb W)
  have E : Hid (((zCs 22 w a b).toNat : Int) = (zPu 22 w a b : Int)) := Kh rfl; generalize zCs 22 w a b = V at *; rw [← E.out]; clear h16 hp e62 hab hM ha hb hw hk hwi
  go_enter Tryz.func176, Tryz.ntmps176
  go_wp2_with (first | (go_at_call 203; refine (S.out _).mono ?_; rintro e w1 ⟨rfl, hb1⟩; have HB1 := Kh hb1; clear hb1) | (go_at_call 171; refine (zBj _ _).mono ?_; rintro e w2 ⟨rfl, rfl⟩))
  exact bodyPost_ret (v := .tuple #[.int .i64 ((V.toNat : Nat) : Int), .int .i64 1]) (by simp [results, Tryz.results176, go_sem]) rfl ⟨rfl, HB1.out⟩
 ·
  have S := Kh (fun W => zCz 23 w a b (by omega) hw ha hb W)
  have E : Hid (((zCs 23 w a b).toNat : Int) = (zPu 23 w a b : Int)) := Kh rfl; generalize zCs 23 w a b = V at *; rw [← E.out]; clear h16 hp e62 hab hM ha hb hw hk hwi
  go_enter Tryz.func176, Tryz.ntmps176
  go_wp2_with (first | (go_at_call 203; refine (S.out _).mono ?_; rintro e w1 ⟨rfl, hb1⟩; have HB1 := Kh hb1; clear hb1) | (go_at_call 171; refine (zBj _ _).mono ?_; rintro e w2 ⟨rfl, rfl⟩))
  exact bodyPost_ret (v := .tuple #[.int .i64 ((V.toNat : Nat) : Int), .int .i64 1]) (by simp [results, Tryz.results176, go_sem]) rfl ⟨rfl, HB1.out⟩
 ·
  have S := Kh (fun W => zCz 24 w a b (by omega) hw ha hb W)
  have E : Hid (((zCs 24 w a b).toNat : Int) = (zPu 24 w a b : Int)) := Kh rfl; generalize zCs 24 w a b = V at *; rw [← E.out]; clear h16 hp e62 hab hM ha hb hw hk hwi
  go_enter Tryz.func176, Tryz.ntmps176
  go_wp2_with (first | (go_at_call 203; refine (S.out _).mono ?_; rintro e w1 ⟨rfl, hb1⟩; have HB1 := Kh hb1; clear hb1) | (go_at_call 171; refine (zBj _ _).mono ?_; rintro e w2 ⟨rfl, rfl⟩))
  exact bodyPost_ret (v := .tuple #[.int .i64 ((V.toNat : Nat) : Int), .int .i64 1]) (by simp [results, Tryz.results176, go_sem]) rfl ⟨rfl, HB1.out⟩
 ·
  have S := Kh (fun W => zCz 25 w a b (by omega) hw ha hb W)
  have E : Hid (((zCs 25 w a b).toNat : Int) = (zPu 25 w a b : Int)) := Kh rfl; generalize zCs 25 w a b = V at *; rw [← E.out]; clear h16 hp e62 hab hM ha hb hw hk hwi
  go_enter Tryz.func176, Tryz.ntmps176
  go_wp2_with (first | (go_at_call 203; refine (S.out _).mono ?_; rintro e w1 ⟨rfl, hb1⟩; have HB1 := Kh hb1; clear hb1) | (go_at_call 171; refine (zBj _ _).mono ?_; rintro e w2 ⟨rfl, rfl⟩))
  exact bodyPost_ret (v := .tuple #[.int .i64 ((V.toNat : Nat) : Int), .int .i64 1]) (by simp [results, Tryz.results176, go_sem]) rfl ⟨rfl, HB1.out⟩
 ·
  have S := Kh (fun W => zCz 26 w a b (by omega) hw ha hb W)
  have E : Hid (((zCs 26 w a b).toNat : Int) = (zPu 26 w a b : Int)) := Kh rfl; generalize zCs 26 w a b = V at *; rw [← E.out]; clear h16 hp e62 hab hM ha hb hw hk hwi
  go_enter Tryz.func176, Tryz.ntmps176
  go_wp2_with (first | (go_at_call 203; refine (S.out _).mono ?_; rintro e w1 ⟨rfl, hb1⟩; have HB1 := Kh hb1; clear hb1) | (go_at_call 171; refine (zBj _ _).mono ?_; rintro e w2 ⟨rfl, rfl⟩))
  exact bodyPost_ret (v := .tuple #[.int .i64 ((V.toNat : Nat) : Int), .int .i64 1]) (by simp [results, Tryz.results176, go_sem]) rfl ⟨rfl, HB1.out⟩
 ·
  have S := Kh (fun W => zCz 27 w a b (by omega) hw ha hb W)
  have E : Hid (((zCs 27 w a b).toNat : Int) = (zPu 27 w a b : Int)) := Kh rfl; generalize zCs 27 w a b = V at *; rw [← E.out]; clear h16 hp e62 hab hM ha hb hw hk hwi
  go_enter Tryz.func176, Tryz.ntmps176
  go_wp2_with (first | (go_at_call 203; refine (S.out _).mono ?_; rintro e w1 ⟨rfl, hb1⟩; have HB1 := Kh hb1; clear hb1) | (go_at_call 171; refine (zBj _ _).mono ?_; rintro e w2 ⟨rfl, rfl⟩))
  exact bodyPost_ret (v := .tuple #[.int .i64 ((V.toNat : Nat) : Int), .int .i64 1]) (by simp [results, Tryz.results176, go_sem]) rfl ⟨rfl, HB1.out⟩
 ·
  have S := Kh (fun W => zCz 28 w a b (by omega) hw ha hb W)
  have E : Hid (((zCs 28 w a b).toNat : Int) = (zPu 28 w a b : Int)) := Kh rfl; generalize zCs 28 w a b = V at *; rw [← E.out]; clear h16 hp e62 hab hM ha hb hw hk hwi
  go_enter Tryz.func176, Tryz.ntmps176
  go_wp2_with (first | (go_at_call 203; refine (S.out _).mono ?_; rintro e w1 ⟨rfl, hb1⟩; have HB1 := Kh hb1; clear hb1) | (go_at_call 171; refine (zBj _ _).mono ?_; rintro e w2 ⟨rfl, rfl⟩))
  exact bodyPost_ret (v := .tuple #[.int .i64 ((V.toNat : Nat) : Int), .int .i64 1]) (by simp [results, Tryz.results176, go_sem]) rfl ⟨rfl, HB1.out⟩
def VAt (w : World) (A : Option Addr) (vs : List (List Int)) : Prop :=
 0 < vs.length → ∃ g, A = some ⟨g, 0, none⟩ ∧ g < w.heap.size ∧ ∀ k (h : k < vs.length), ∃ B c, w.cell? ⟨g, k, none⟩ = some (.slice B vs[k].length c) ∧ IAt w B vs[k] ∧ (B = none → c = 0)
theorem VAt.below {w w' : World} {A : Option Addr} {vs : List (List Int)} (h : VAt w A vs) (hb : Below w.heap.size w w') : VAt w' A vs := fun hp => by
 obtain ⟨g, rfl, hg, hc⟩ := h hp
 refine ⟨g, rfl, Nat.lt_of_lt_of_le hg hb.size, fun k hk => ?_⟩
 obtain ⟨B, c, h1, h2, h3⟩ := hc k hk
 exact ⟨B, c, (hb.cell (p := ⟨g, k, none⟩) hg).trans h1, h2.below hb, h3⟩
theorem zQb : Enters Tryz.prog 169 := enters_of Tryz.func169 (by kernel_rfl) rfl
theorem zQf : Enters Tryz.prog 170 := enters_of Tryz.func170 (by kernel_rfl) rfl
theorem zQa (A : Option Addr) (cap : Nat) (vs : List (List Int)) (p g1 : Nat) (W : World) (hA : VAt W A vs) (h1 : W.cell? ⟨g1, 0, none⟩ = some (.slice A vs.length cap)) (hp : p < vs.length) (hl : vs.length ≤ 1048576) {v : Int} (hv : hd0 (vs.getD p []) = v) (h0 : 0 < (vs.getD p []).length) :
 Calls Tryz.prog 169 #[.int .i64 (p : Int), .pointer (some ⟨g1, 0, none⟩)] W fun e w' => e = .returned (.int .i64 v) ∧ W = w' := by
 obtain ⟨g, rfl, hg, hc⟩ := hA (by omega)
 obtain ⟨B, c, z0, z1, z2⟩ := hc p hp; have e : vs.getD p [] = vs[p] := by rw [List.getD_eq_getElem?_getD, List.getElem?_eq_getElem hp]; rfl
 rw [e] at hv h0; obtain ⟨gb, rfl, hgb, hcb⟩ := z1 h0; have z3 := hcb 0 h0; have e3 : vs[p][0] = v := by rw [← hv]; unfold hd0; rw [List.getD_eq_getElem?_getD, List.getElem?_eq_getElem h0]; rfl
 rw [e3] at z3; obtain ⟨n, hn⟩ : ∃ n, vs[p].length = n := ⟨_, rfl⟩
 rw [hn] at z0 h0; have hp0 : (0 : Int) ≤ (p : Int) := by omega
 have hp1 : (p : Int) < (vs.length : Int) := by omega
 have hn1 : (0 : Int) < (n : Int) := by omega
 clear hc hcb e hv hn e3 z1
 go_enter Tryz.func169, Tryz.ntmps169
 go_wp2_with fail
 go_ret
 exact ⟨rfl, rfl⟩
theorem zQe (v : Int) (W : World) : Calls Tryz.prog 170 #[.int .i64 v] W fun e w' => ∃ g, e = .returned (.agg #[.slice (some ⟨g, 0, none⟩) 1 1]) ∧ W.heap.size ≤ g ∧ Blk w' g 3 #[.int .i64 v] ∧ Below W.heap.size W w' := by
 go_enter Tryz.func170, Tryz.ntmps170
 go_wp2_with fail
 have hb0 := (Below.refl W.heap.size W).alloc (Nat.le_refl _) (.cells #[.slice (some ⟨W.heap.size + 1, 0, none⟩) 1 1] 53)
 refine bodyPost_ret (v := .agg #[.slice (some ⟨W.heap.size + 1, 0, none⟩) 1 1]) (by simp [results, Tryz.results170, go_sem]) rfl ⟨W.heap.size + 1, rfl, by omega, ?_, hb0.alloc hb0.size _⟩
 have := Blk.new (W.alloc (.cells #[.slice (some ⟨W.heap.size + 1, 0, none⟩) 1 1] 53)) 3 #[.int .i64 v]; simpa using this
theorem zCo (A : Option Addr) (c : Nat) (l : List Int) (w : World) (h : IAt w A l) (hc : A = none → c = 0) (hn : l.length ≤ 1048576) :
 Calls Tryz.prog 100 #[.slice A l.length c] w fun e w' => ∃ A' c', e = .returned (.slice A' l.length c') ∧ w'.ownsRow w.heap.size 3 1 (.slice A' l.length c') l.length (l.map (.int .i64)) ∧ Below w.heap.size w w' := by
 have HS := Kh (zOd h hc); clear h hc; obtain ⟨i3, hi, hz0, hz1, hz2⟩ := info_parts zF2
 go_enter Tryz.func100, Tryz.ntmps100
 go_wp2_with (at_builtin; refine zR2 rfl _ _ 24 rfl w.heap.size 3 i3 (.int .i64 0) 1 8 Tryz.underlying24 hi hz0 hz1 hz2 rfl (by decide) _ 0 [] rfl (World.ownsRow_nil _ _ _ _) A l.length c (l.map (.int .i64)) rfl (by exact HS.out) (by simp) (zF9 l) (by unfold maxLen; omega) (by omega) (Nat.le_refl _) ?_; intro A' c' w3 ho3 hg3 hor3)
 go_ret; replace hg3 : World.grownBy _ w3 none := hg3
 simp only [Nat.zero_add, List.nil_append] at ho3 ⊢
 exact ⟨A', c', rfl, ho3, (Below.refl _ _).grown hg3 (Nat.le_refl _) (by simp)⟩
theorem zDr (A B : Option Addr) (c d : Nat) (l k : List Int) (w : World) (hA : IAt w A l) (hB : IAt w B k) (hl : l.length ≤ 1048576) (hk : k.length ≤ 1048576) :
 Calls Tryz.prog 172 #[.slice A l.length c, .slice B k.length d] w fun e w' => e = .returned (.bool (decide (l = k))) ∧ Below w.heap.size w w' := by
 by_cases hlk : l.length = k.length
 case neg =>
  have e : decide (l = k) = false := decide_eq_false (fun h => hlk (by rw [h]))
  have d : ((l.length : Int) != (k.length : Int)) = true := by simp only [bne_iff_ne]; omega
  rw [e]
  go_enter Tryz.func172, Tryz.ntmps172
  go_wp2_with fail
  go_ret
  exact ⟨rfl, Below.refl _ _⟩
 obtain ⟨V, hV⟩ : ∃ V, decide (l = k) = V := ⟨_, rfl⟩
 rw [hV]; have HV := Kh hV; clear hV; have HA := Kh hA; have HB := Kh hB; have HK := Kh hlk; clear hA hB; generalize hn : l.length = n at *; subst hlk; have hnk : ((k.length : Int) != (k.length : Int)) = false := by simp
 go_enter Tryz.func172, Tryz.ntmps172
 go_wp2_with fail
 go_loopw [13] (fun j wr => ∃ r : Nat, r ≤ k.length ∧ Hid (l.take r = k.take r) ∧ Hid (Below w.heap.size w wr) ∧ j = .int .i64 (r : Int)) (fun j _ => k.length - (intOf j).toNat)
 case atStart => exact ⟨0, Nat.zero_le _, Kh (by simp), Below.refl _ _, rfl⟩
 case round =>
  obtain ⟨r, hr, HE, HBr, rfl⟩ := hrel
  by_cases hlt : r < k.length
  case neg =>
   obtain rfl : r = k.length := by omega
   have e : decide (l = k) = true := decide_eq_true (by have := HE.out; rw [List.take_length, ← hn, List.take_length] at this; exact this)
   obtain rfl : V = true := by rw [← HV.out]; exact e
   clear hn e
   go_wp2_with fail
   go_ret
   exact ⟨rfl, HBr.out⟩
  obtain ⟨ga, rfl, hga, hca⟩ := (HA.out.below HBr.out) (by omega)
  obtain ⟨gb, rfl, hgb, hcb⟩ := (HB.out.below HBr.out) (by omega)
  have hrl : r < l.length := by omega
  have z0 := hca r hrl; have z1 := hcb r hlt; have HS : Hid (l[r] = k[r] → l.take (r + 1) = k.take (r + 1)) := Kh (fun h => by rw [List.take_succ_eq_append_getElem hrl, List.take_succ_eq_append_getElem hlt, HE.out, h])
  have HD : Hid (l[r] ≠ k[r] → decide (l = k) = false) := Kh (fun h => decide_eq_false (fun e => h (by subst e; rfl)))
  clear hca hcb; generalize l[r] = x at *; generalize k[r] = y at *; have e1 := wr1 (r := r) (by omega)
  have hj0 : (0 : Int) ≤ (r : Int) := by omega
  have hj1 : (r : Int) < (k.length : Int) := by omega
  clear hn hrl
  by_cases hxy : x = y
  · have HS' := Kh (HS.out hxy)
    subst hxy
    go_wp2_with fail
    go_still (by kernel_rfl)
    go_wp2_with fail
    go_roundw
    case rel => exact ⟨r + 1, by omega, HS', HBr.out.drew, by go_num⟩
    case measure => simp [intOf]; omega
  · obtain rfl : V = false := by rw [← HV.out]; exact HD.out hxy
    have d : (x != y) = true := by simpa using hxy
    go_wp2_with fail
    go_still (by kernel_rfl)
    go_wp2_with fail
    go_ret
    exact ⟨rfl, HBr.out.drew⟩
theorem zGr (v : Int) (W : World) : Calls Tryz.prog 123 #[.int .i64 v] W fun e w' => ∃ g, e = .returned (.agg #[.slice (some ⟨g, 0, none⟩) 1 1]) ∧ W.heap.size ≤ g ∧ Blk w' g 3 #[.int .i64 v] ∧ Below W.heap.size W w' := by
 go_enter Tryz.func123, Tryz.ntmps123
 go_wp2_with fail
 have hb0 := (Below.refl W.heap.size W).alloc (Nat.le_refl _) (.cells #[.slice (some ⟨W.heap.size + 1, 0, none⟩) 1 1] 53)
 refine bodyPost_ret (v := .agg #[.slice (some ⟨W.heap.size + 1, 0, none⟩) 1 1]) (by simp [results, Tryz.results123, go_sem]) rfl ⟨W.heap.size + 1, rfl, by omega, ?_, hb0.alloc hb0.size _⟩
 have := Blk.new (W.alloc (.cells #[.slice (some ⟨W.heap.size + 1, 0, none⟩) 1 1] 53)) 3 #[.int .i64 v]; simpa using this
theorem zDo {l k : List Int} (h : l.length = k.length) (hj : ∀ (j : Nat) (h1 : j < l.length) (h2 : j < k.length), l[j] = k[j]) : l = k := List.ext_getElem h hj
theorem zGs (A B : Option Addr) (c d : Nat) (l k : List Int) (w : World) (hA : IAt w A l) (hB : IAt w B k) (hl : l.length ≤ 1048576) (hk : k.length ≤ 1048576) (hlk : l.length ≤ k.length) :
 Calls Tryz.prog 162 #[.agg #[.slice A l.length c], .agg #[.slice B k.length d]] w fun e w' => e = .returned (.bool (decide (l = k))) ∧ Below w.heap.size w w' := by
 obtain ⟨F, hF⟩ : ∃ x, decide (l = k) = x := ⟨_, rfl⟩
 rw [hF]; have HF := Kh hF; have HA := Kh hA; have HK := Kh hB; clear hF hA hB; have HB0 : Hid (Below w.heap.size w ((w.alloc (.cells #[.slice A l.length c] 53)).alloc (.cells #[.slice B k.length d] 53))) := ((Below.refl _ _).alloc (Nat.le_refl _) _).alloc (by simp) _
 have HX0 : Hid (Blk ((w.alloc (.cells #[.slice A l.length c] 53)).alloc (.cells #[.slice B k.length d] 53)) w.heap.size 53 #[.slice A l.length c]) := (Blk.new _ _ _).alloc _; have HY0 : Hid (Blk ((w.alloc (.cells #[.slice A l.length c] 53)).alloc (.cells #[.slice B k.length d] 53)) (w.heap.size + 1) 53 #[.slice B k.length d]) := Blk.new_at _ _ _ (by simp)
 go_enter Tryz.func162, Tryz.ntmps162
 go_wp2_with fail
 go_loopw [5] (fun i wr => ∃ r : Nat, r ≤ l.length ∧ Hid (∀ (j : Nat) (h1 : j < l.length) (h2 : j < k.length), j < r → l[j] = k[j]) ∧ Hid (Below w.heap.size w wr) ∧ Hid (Blk wr w.heap.size 53 #[.slice A l.length c]) ∧ Hid (Blk wr (w.heap.size + 1) 53 #[.slice B k.length d]) ∧ i = .int .i64 (r : Int)) (fun i _ => l.length - (intOf i).toNat)
 case atStart => exact ⟨0, Nat.zero_le _, fun j h1 h2 h => absurd h (by omega), HB0, HX0, HY0, rfl⟩
 case round =>
  obtain ⟨wz, rfl⟩ : ∃ x : World, x = wr := ⟨_, rfl⟩
  clear HB0 HX0 HY0; obtain ⟨r, hr, HE, HBr, HXr, HYr, rfl⟩ := hrel; have x0 : wz.cell? ⟨w.heap.size, 0, none⟩ = some (.slice A l.length c) := by rw [HXr.out.cell]; rfl
  have y0 : wz.cell? ⟨w.heap.size + 1, 0, none⟩ = some (.slice B k.length d) := by rw [HYr.out.cell]; rfl
  by_cases hlt : r < l.length
  case neg =>
   obtain rfl : r = l.length := by omega
   have HV : Hid (decide (l.length = k.length) = F) := Kh (by
    rw [← HF.out]; apply decide_eq_decide.2
    exact ⟨fun h => zDo h (fun j h1 h2 => HE.out j h1 h2 h1), fun h => by rw [h]⟩)
   clear HE
   by_cases hll : l.length = k.length
   · have HT : Hid (F = true) := Kh (by rw [← HV.out]; exact decide_eq_true hll)
     have d1 : decide ((l.length : Int) = (k.length : Int)) = true := decide_eq_true (by omega)
     have d2 : ((l.length : Int) == (k.length : Int)) = true := by rw [beq_iff_eq]; omega
     clear hll
     go_wp2_with fail
     go_ret
     exact ⟨zKu HT.out.symm, HBr.out⟩
   · have HT : Hid (F = false) := Kh (by rw [← HV.out]; exact decide_eq_false hll)
     have d1 : decide ((l.length : Int) = (k.length : Int)) = false := decide_eq_false (by omega)
     have d2 : ((l.length : Int) == (k.length : Int)) = false := by
      rw [beq_eq_false_iff_ne]; omega
     clear hll
     go_wp2_with fail
     go_ret
     exact ⟨zKu HT.out.symm, HBr.out⟩
  have hrk : r < k.length := by omega
  have hj0 : (0 : Int) ≤ (r : Int) := by omega
  have hj1 : (r : Int) < (l.length : Int) := by omega
  have hj2 : (r : Int) < (k.length : Int) := by omega
  have e1 := wr1 (r := r) (by omega)
  obtain ⟨ga, rfl, hga, hca⟩ := (HA.out.below HBr.out) (by omega)
  obtain ⟨gb, rfl, hgb, hcb⟩ := (HK.out.below HBr.out) (by omega)
  have z0 := hca r hlt; have z1 := hcb r hrk; clear hca hcb; have HD := Kh (fun n => zB1 HBr.out n)
  have HDX := Kh (fun n => HXr.out.below (zB1 (Below.refl _ wz) n) HXr.out.lt)
  have HDY := Kh (fun n => HYr.out.below (zB1 (Below.refl _ wz) n) HYr.out.lt)
  by_cases hv : l[r] = k[r]
  · have HN : Hid (∀ (j : Nat) (h1 : j < l.length) (h2 : j < k.length), j < r + 1 → l[j] = k[j]) := Kh (fun j h1 h2 h => by
      by_cases e : j = r
      · subst e; exact hv
      · exact HE.out j h1 h2 (by omega))
    rw [hv] at z0; clear hv
    go_wp2_with fail
    go_quiet (fail)
    go_wp2_with fail
    go_roundw
    case rel => exact ⟨r + 1, by omega, HN, Kh (HD.out _), Kh (HDX.out _), Kh (HDY.out _), by go_num⟩
    case measure => simp [intOf]; omega
  · have HT : Hid (F = false) := Kh (by rw [← HF.out]; exact decide_eq_false (fun h => hv (by subst h; rfl)))
    have dv : (l[r] == k[r]) = false := by simpa using hv
    clear hv
    go_wp2_with fail
    go_quiet (fail)
    go_wp2_with fail
    go_ret
    exact ⟨zKu HT.out.symm, HD.out _⟩
end Go.Proofs.YtmolbnghobfmoaaGreat
