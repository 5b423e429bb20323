/- Part 5 of what the row Row28 rests on: G5 F2 Rt Rs. -/
import Derived.StillTailTactics
import Derived.Test.YtmolbnghobfmoaaGreatP1
import Derived.Test.YtmolbnghobfmoaaGreatP2
import Derived.Test.YtmolbnghobfmoaaGreatP4
set_option maxRecDepth 100000
set_option maxHeartbeats 16000000
set_option linter.unusedSimpArgs false
set_option linter.unusedVariables false
namespace Go.Proofs.YtmolbnghobfmoaaGreat
open Go.RowKit
theorem zMt (w a u b : Nat) (hw : 1 ≤ w ∧ w ≤ 16) (hu : 1 ≤ u ∧ u ≤ 16) (ha : a < 2 ^ w) (hb : b < 2 ^ u) (h : w + u ≤ 16) (W : World) :
 Calls Tryz.prog 163 #[.int .i64 (w : Int), .int .i64 (a : Int), .int .i64 (u : Int), .int .i64 (b : Int)] W fun e w' => e = .returned (.tuple #[.int .i64 ((a * 2 ^ u + b : Nat) : Int), .int .i64 ((w + u : Nat) : Int), .bool true]) ∧ W = w' := by
 have OA := Kh (fun W => zMu (w : Int) (a : Int) true (decide_eq_true (zQl hw ha)) W)
 have OB := Kh (fun W => zMu (u : Int) (b : Int) true (decide_eq_true (zQl hu hb)) W)
 obtain ⟨P, hP, hP1, hP2, hP3⟩ := zKb (x := u) (by omega)
 have h16 := zKc h
 have hY : a * 2 ^ u + b < 2 ^ (w + u) := by
  rw [Nat.pow_add]
  calc a * 2 ^ u + b < a * 2 ^ u + 2 ^ u := by omega
   _ = (a + 1) * 2 ^ u := by rw [Nat.add_mul, Nat.one_mul]
   _ ≤ 2 ^ w * 2 ^ u := Nat.mul_le_mul_right _ (by omega)
 have y1 : (a : Int) * P = ((a * 2 ^ u : Nat) : Int) := by rw [hP1, ← Int.natCast_mul]
 generalize a * 2 ^ u = Y at *; have y2 : IntKind.i64.wrap ((a : Int) * P) = (Y : Int) := by rw [y1]; exact zRa (by omega) (by omega)
 have y3 : IntKind.i64.wrap (Y : Int) = (Y : Int) := zRa (by omega) (by omega)
 have y4 : IntKind.i64.wrap ((Y : Int) + (b : Int)) = ((Y + b : Nat) : Int) := by rw [zRa (by omega) (by omega)]; omega
 have y5 : IntKind.i64.wrap ((w : Int) + (u : Int)) = ((w + u : Nat) : Int) := by rw [zRa (by omega) (by omega)]; omega
 have t1 : (0 : Int) ≤ (u : Int) := by omega
 have t2 : (u : Int) ≤ 16 := by omega
 have g1 : decide ((16 : Int) < ((w + u : Nat) : Int)) = false := decide_eq_false (by omega)
 have g2 : decide ((16 : Int) < (w : Int) + (u : Int)) = false := decide_eq_false (by omega)
 have g3 : ((Y + b : Nat) : Int) = (Y : Int) + (b : Int) := by omega
 have g4 : ((w + u : Nat) : Int) = (w : Int) + (u : Int) := by omega
 rw [g3, g4]; rw [g3] at y4; rw [g4] at y5 g1; clear g3 g4 hP1 ha hb h16
 go_enter Tryz.func163, Tryz.ntmps163
 go_wp2_with (first | ((with_reducible show Calls _ _ #[_, .int .i64 (a : Int)] _ _); go_at_call 156; refine (OA.out _).mono ?_; rintro e w1 ⟨rfl, rfl⟩) | ((with_reducible show Calls _ _ #[_, .int .i64 (b : Int)] _ _); go_at_call 156; refine (OB.out _).mono ?_; rintro e w1 ⟨rfl, rfl⟩))
 exact bodyPost_ret (v := .tuple #[.int .i64 ((Y : Int) + (b : Int)), .int .i64 ((w : Int) + (u : Int)), .bool true]) (by simp [results, Tryz.results163, go_sem]) rfl ⟨rfl, rfl⟩
theorem zMs (w a u b : Nat) (hw : 1 ≤ w ∧ w ≤ 16) (hu : 1 ≤ u ∧ u ≤ 16) (ha : a < 2 ^ w) (hb : b < 2 ^ u) (h : ¬ w + u ≤ 16) (W : World) :
 Calls Tryz.prog 163 #[.int .i64 (w : Int), .int .i64 (a : Int), .int .i64 (u : Int), .int .i64 (b : Int)] W fun e w' => e = .returned (.tuple #[.int .i64 0, .int .i64 0, .bool false]) ∧ W = w' := by
 have OA := Kh (fun W => zMu (w : Int) (a : Int) true (decide_eq_true (zQl hw ha)) W)
 have OB := Kh (fun W => zMu (u : Int) (b : Int) true (decide_eq_true (zQl hu hb)) W)
 have y5 : IntKind.i64.wrap ((w : Int) + (u : Int)) = (w : Int) + (u : Int) := zRa (by omega) (by omega)
 have g2 : decide ((16 : Int) < (w : Int) + (u : Int)) = true := decide_eq_true (by omega)
 have g3 : (16 : Int) < (w : Int) + (u : Int) := by omega
 clear ha hb
 go_enter Tryz.func163, Tryz.ntmps163
 go_wp2_with (first | ((with_reducible show Calls _ _ #[.int .i64 (w : Int), .int .i64 (a : Int)] _ _); go_at_call 156; refine (OA.out _).mono ?_; rintro e w1 ⟨rfl, rfl⟩) | ((with_reducible show Calls _ _ #[.int .i64 (u : Int), .int .i64 (b : Int)] _ _); go_at_call 156; refine (OB.out _).mono ?_; rintro e w1 ⟨rfl, rfl⟩))
 exact bodyPost_ret (v := .tuple #[.int .i64 0, .int .i64 0, .bool false]) (by simp [results, Tryz.results163, go_sem]) rfl ⟨rfl, rfl⟩
theorem zMz (w a h l : Nat) (hw : 1 ≤ w ∧ w ≤ 16) (ha : a < 2 ^ w) (hl : l ≤ h) (hh : h < w) (W : World) :
 Calls Tryz.prog 164 #[.int .i64 (w : Int), .int .i64 (a : Int), .int .i64 (h : Int), .int .i64 (l : Int)] W fun e w' => e = .returned (.tuple #[.int .i64 ((a / 2 ^ l % 2 ^ (h - l + 1) : Nat) : Int), .int .i64 ((h - l + 1 : Nat) : Int), .bool true]) ∧ W = w' := by
 have OA := Kh (fun W => zMu (w : Int) (a : Int) true (decide_eq_true (zQl hw ha)) W)
 obtain ⟨c, hc⟩ : ∃ c, h - l + 1 = c := ⟨_, rfl⟩
 rw [hc]; obtain ⟨P, hP, hP1, hP2, hP3⟩ := zKb (x := c) (by omega)
 have h16 := zKc hw.2; have y0 : (a : Int) / (2 : Int) ^ l = ((a / 2 ^ l : Nat) : Int) := by simp
 have yd : a / 2 ^ l ≤ a := Nat.div_le_self _ _; generalize a / 2 ^ l = d at *; have hPn : ¬ P = 0 := by omega
 have hPb : (P == 0) = false := by simpa using hPn
 have y1 : (d : Int) % P = ((d % 2 ^ c : Nat) : Int) := by rw [hP1, ← Int.natCast_emod]
 have y2 : (d : Int).tmod P = ((d % 2 ^ c : Nat) : Int) := by rw [Int.tmod_eq_emod_of_nonneg (by omega)]; exact y1
 have ym := Nat.mod_le d (2 ^ c); generalize d % 2 ^ c = m at *; have y3 : IntKind.i64.wrap (m : Int) = (m : Int) := zRa (by omega) (by omega)
 obtain ⟨s, hs⟩ : ∃ s, h - l = s := ⟨_, rfl⟩
 have y4 : IntKind.i64.wrap ((h : Int) - (l : Int)) = (s : Int) := by rw [zRa (by omega) (by omega)]; omega
 have y40 : (h : Int) - (l : Int) = (s : Int) := by omega
 have y41 : IntKind.i64.wrap (s : Int) = (s : Int) := zRa (by omega) (by omega)
 have y5 : IntKind.i64.wrap ((s : Int) + 1) = (c : Int) := by rw [zRa (by omega) (by omega)]; omega
 have y50 : (s : Int) + 1 = (c : Int) := by omega
 have y51 : IntKind.i64.wrap (c : Int) = (c : Int) := zRa (by omega) (by omega)
 have t1 : (0 : Int) ≤ (c : Int) := by omega
 have t2 : (c : Int) ≤ 16 := by omega
 have t3 : (0 : Int) ≤ (l : Int) := by omega
 have t4 : (l : Int) ≤ 16 := by omega
 have g1 : decide ((l : Int) < 0) = false := decide_eq_false (by omega)
 have g2 : decide (h < l) = false := decide_eq_false (by omega)
 have g3 : decide (w ≤ h) = false := decide_eq_false (by omega)
 clear hP1 ha h16 hs hc yd ym
 go_enter Tryz.func164, Tryz.ntmps164
 go_wp2_with (go_at_call 156; refine (OA.out _).mono ?_; rintro e w1 ⟨rfl, rfl⟩)
 exact bodyPost_ret (v := .tuple #[.int .i64 (m : Int), .int .i64 (c : Int), .bool true]) (by simp [results, Tryz.results164, go_sem]) rfl ⟨rfl, rfl⟩
theorem zMy (w a : Nat) (hi lo : Int) (hw : 1 ≤ w ∧ w ≤ 16) (ha : a < 2 ^ w) (h : ¬ (0 ≤ lo ∧ lo ≤ hi ∧ hi ≤ (w : Int) - 1)) (W : World) :
 Calls Tryz.prog 164 #[.int .i64 (w : Int), .int .i64 (a : Int), .int .i64 hi, .int .i64 lo] W fun e w' => e = .returned (.tuple #[.int .i64 0, .int .i64 0, .bool false]) ∧ W = w' := by
 have OA := Kh (fun W => zMu (w : Int) (a : Int) true (decide_eq_true (zQl hw ha)) W)
 clear ha
 by_cases h1 : lo < 0
 · go_enter Tryz.func164, Tryz.ntmps164
   go_wp2_with (go_at_call 156; refine (OA.out _).mono ?_; rintro e w1 ⟨rfl, rfl⟩)
   exact bodyPost_ret (v := .tuple #[.int .i64 0, .int .i64 0, .bool false]) (by simp [results, Tryz.results164, go_sem]) rfl ⟨rfl, rfl⟩
 have d1 : decide (lo < 0) = false := decide_eq_false h1
 by_cases h2 : hi < lo
 · clear h
   go_enter Tryz.func164, Tryz.ntmps164
   go_wp2_with (go_at_call 156; refine (OA.out _).mono ?_; rintro e w1 ⟨rfl, rfl⟩)
   exact bodyPost_ret (v := .tuple #[.int .i64 0, .int .i64 0, .bool false]) (by simp [results, Tryz.results164, go_sem]) rfl ⟨rfl, rfl⟩
 have d2 : decide (hi < lo) = false := decide_eq_false h2; have h3 : (w : Int) ≤ hi := by omega
 clear h
 go_enter Tryz.func164, Tryz.ntmps164
 go_wp2_with (go_at_call 156; refine (OA.out _).mono ?_; rintro e w1 ⟨rfl, rfl⟩)
 exact bodyPost_ret (v := .tuple #[.int .i64 0, .int .i64 0, .bool false]) (by simp [results, Tryz.results164, go_sem]) rfl ⟨rfl, rfl⟩
theorem zMr (w a m : Nat) (sg : Bool) (hw : 1 ≤ w ∧ w ≤ 16) (ha : a < 2 ^ w) (hm : w + m ≤ 16) (W : World) :
 Calls Tryz.prog 165 #[.int .i64 (w : Int), .int .i64 (a : Int), .int .i64 (m : Int), .bool sg] W fun e w' => e = .returned (.tuple #[.int .i64 (zEe w a m sg : Int), .int .i64 ((w + m : Nat) : Int), .bool true]) ∧ W = w' := by
 have OA := Kh (fun W => zMu (w : Int) (a : Int) true (decide_eq_true (zQl hw ha)) W)
 have h16 := zKc hw.2; have h2 := zPw hw.1; have hb := zN5 hw.1 ha; have SA := Kh (zMx w a hw ha); have SF := Kh (fun W => zMp (w + m) (sgn w a) ⟨by omega, hm⟩ (by omega) W)
 obtain ⟨s, hs⟩ : ∃ s, w + m = s := ⟨_, rfl⟩
 have y1 : IntKind.i64.wrap ((w : Int) + (m : Int)) = (s : Int) := by rw [zRa (by omega) (by omega)]; omega
 have y2 : (w : Int) + (m : Int) = (s : Int) := by omega
 have y3 : IntKind.i64.wrap (s : Int) = (s : Int) := zRa (by omega) (by omega)
 obtain ⟨r, hr⟩ : ∃ r : Int, (16 : Int) - (w : Int) = r := ⟨_, rfl⟩
 have y4 : IntKind.i64.wrap ((16 : Int) - (w : Int)) = r := by rw [hr]; exact zRa (by omega) (by omega)
 have g1 : decide ((m : Int) < 0) = false := decide_eq_false (by omega)
 have g2 : decide (r < (m : Int)) = false := decide_eq_false (by omega)
 have g3 : IntKind.i64.wrap r = r := zRa (by omega) (by omega)
 rw [hs] at SF ⊢; have ye : toW s (sgn w a) = zEe w a m true := by subst hs; rfl
 rw [ye] at SF; have yf : zEe w a m false = a := rfl; generalize sgn w a = z at *; generalize hV : zEe w a m true = V at *; clear ha h16 h2 hb hs ye
 cases sg with
 | true =>
  rw [hV]; clear hV
  go_enter Tryz.func165, Tryz.ntmps165
  go_wp2_with (first | (go_at_call 156; refine (OA.out _).mono ?_; rintro e w1 ⟨rfl, rfl⟩) | (go_at_call 188; refine (SA.out _).mono ?_; rintro e w1 ⟨rfl, rfl⟩) | (go_at_call 187; refine (SF.out _).mono ?_; rintro e w1 ⟨rfl, rfl⟩))
  exact bodyPost_ret (v := .tuple #[.int .i64 (V : Int), .int .i64 (s : Int), .bool true]) (by simp [results, Tryz.results165, go_sem]) rfl ⟨rfl, rfl⟩
 | false =>
  rw [yf]; clear hV
  go_enter Tryz.func165, Tryz.ntmps165
  go_wp2_with (first | (go_at_call 156; refine (OA.out _).mono ?_; rintro e w1 ⟨rfl, rfl⟩))
  exact bodyPost_ret (v := .tuple #[.int .i64 (a : Int), .int .i64 (s : Int), .bool true]) (by simp [results, Tryz.results165, go_sem]) rfl ⟨rfl, rfl⟩
theorem zMq (w a : Nat) (n : Int) (sg : Bool) (hw : 1 ≤ w ∧ w ≤ 16) (ha : a < 2 ^ w) (hm : ¬ (0 ≤ n ∧ n ≤ 16 - (w : Int))) (W : World) :
 Calls Tryz.prog 165 #[.int .i64 (w : Int), .int .i64 (a : Int), .int .i64 n, .bool sg] W fun e w' => e = .returned (.tuple #[.int .i64 0, .int .i64 0, .bool false]) ∧ W = w' := by
 have OA := Kh (fun W => zMu (w : Int) (a : Int) true (decide_eq_true (zQl hw ha)) W)
 obtain ⟨r, hr⟩ : ∃ r : Int, (16 : Int) - (w : Int) = r := ⟨_, rfl⟩
 have y4 : IntKind.i64.wrap ((16 : Int) - (w : Int)) = r := by rw [hr]; exact zRa (by omega) (by omega)
 have g3 : IntKind.i64.wrap r = r := zRa (by omega) (by omega)
 rw [hr] at hm; clear ha
 by_cases h1 : n < 0
 · clear hm
   go_enter Tryz.func165, Tryz.ntmps165
   go_wp2_with (go_at_call 156; refine (OA.out _).mono ?_; rintro e w1 ⟨rfl, rfl⟩)
   exact bodyPost_ret (v := .tuple #[.int .i64 0, .int .i64 0, .bool false]) (by simp [results, Tryz.results165, go_sem]) rfl ⟨rfl, rfl⟩
 have d1 : decide (n < 0) = false := decide_eq_false h1; have h3 : r < n := by omega
 clear hm
 go_enter Tryz.func165, Tryz.ntmps165
 go_wp2_with (go_at_call 156; refine (OA.out _).mono ?_; rintro e w1 ⟨rfl, rfl⟩)
 exact bodyPost_ret (v := .tuple #[.int .i64 0, .int .i64 0, .bool false]) (by simp [results, Tryz.results165, go_sem]) rfl ⟨rfl, rfl⟩
theorem zFg (x : Int) (w : World) : Calls Tryz.prog 209 #[.int .u8 x] w fun e w' => e = .returned (.bool (decide (zH0 x))) ∧ w = w' := by
 by_cases h1 : 97 ≤ x
 · have d1 : decide (97 ≤ x) = true := decide_eq_true h1
   have e : decide (zH0 x) = decide (x ≤ 122) := by unfold zH0; simp [h1]
   rw [e]
   go_enter Tryz.func209, Tryz.ntmps209
   go_wp2_with fail
   go_ret
   exact ⟨rfl, rfl⟩
 · have d1 : decide (97 ≤ x) = false := decide_eq_false h1
   have e : decide (zH0 x) = false := decide_eq_false (fun h => h1 h.1)
   rw [e]
   go_enter Tryz.func209, Tryz.ntmps209
   go_wp2_with fail
   go_ret
   exact ⟨rfl, rfl⟩
theorem zQk (wd v : Int) (w : World) : Calls Tryz.prog 197 #[.int .i64 wd, .int .i64 v] w fun e w' => e = .returned (.bool (decide (zQi wd v))) ∧ w = w' := by
 by_cases h1 : 1 ≤ wd ∧ wd ≤ 16
 · obtain ⟨n, rfl⟩ : ∃ n : Nat, wd = (n : Int) := ⟨wd.toNat, by omega⟩
   have e : decide (zQi (n : Int) v) = decide (0 ≤ v ∧ v ≤ ((2 ^ n : Nat) : Int) - 1) := by unfold zQi; simp [h1]
   rw [e]; obtain ⟨b, hb⟩ : ∃ b, decide (0 ≤ v ∧ v ≤ ((2 ^ n : Nat) : Int) - 1) = b := ⟨_, rfl⟩
   rw [hb]; have HB := Kh hb; clear hb e
   go_enter Tryz.func197, Tryz.ntmps197
   go_wp2_with (first
    | (go_at_call 205; refine (zFm _ true (decide_eq_true h1) _).mono ?_; rintro e w1 ⟨rfl, rfl⟩)
    | (go_at_call 173; refine (zHo n (by omega) _).mono ?_; rintro e w1 ⟨rfl, rfl⟩)
    | (go_at_call 143; refine (zEx _ _ _ b HB.out _).mono ?_; rintro e w1 ⟨rfl, rfl⟩))
   go_ret
   exact ⟨rfl, rfl⟩
 · have e : decide (zQi wd v) = false := decide_eq_false (fun h => h1 h.1)
   rw [e]
   go_enter Tryz.func197, Tryz.ntmps197
   go_wp2_with (go_at_call 205; refine (zFm _ false (decide_eq_false h1) _).mono ?_; rintro e w1 ⟨rfl, rfl⟩)
   go_ret
   exact ⟨rfl, rfl⟩
theorem zQj (wd v : Int) (b : Bool) (h : decide (zQi wd v) = b) (w : World) : Calls Tryz.prog 197 #[.int .i64 wd, .int .i64 v] w fun e w' => e = .returned (.bool b) ∧ w = w' := by subst h; exact zQk wd v w
theorem zNn (s : So) (x : Nat) (h : cellsOf s = x) (w : World) : Calls Tryz.prog 180 #[.agg #[.int .i64 s.i, .int .i64 s.w]] w fun e w' => e = .returned (.int .i64 (x : Int)) ∧ Below w.heap.size w w' := by
 subst h; exact zNo s w
theorem zNm (s : So) (w : World) : Calls Tryz.prog 144 #[.agg #[.int .i64 s.i, .int .i64 s.w]] w fun e w' => e = .returned (.int .i64 (zBn s)) ∧ Below w.heap.size w w' := by
 have HB := bx w #[.int .i64 s.i, .int .i64 s.w] 40; have hc := zCj s; obtain ⟨x, hx⟩ : ∃ x : Nat, cellsOf s = x := ⟨_, rfl⟩
 have e : zBn s = (x : Int) * max 0 (min 16 s.w) := by unfold zBn; rw [hx]
 rw [e]; have HX := Kh hx; clear hx e; have HC := nx w #[.int .i64 s.i, .int .i64 s.w] 40; have K1 := fun x : Ext (w.alloc (.cells #[.int .i64 s.i, .int .i64 s.w] 40)) => zDt HC.out.two.1 (by have h := HC.out.lt; exact h) x
 have K2 := fun x : Ext (w.alloc (.cells #[.int .i64 s.i, .int .i64 s.w] 40)) => zDt HC.out.two.2 (by have h := HC.out.lt; exact h) x
 go_enter Tryz.func144, Tryz.ntmps144
 go_wp2_with fail
 refine zR4 (by kernel_rfl) (by kernel_rfl) ?_
 repeat go_big_quiet_step ((go_at_call 180; exact zDs _ (zNn s x HX.out _)))
 refine wpQuiet_nil ?_
 intro _ hw'; obtain ⟨xx, hw''⟩ := hw'; subst hw''
 go_wp2_with fail
 all_goals
  go_ret
  refine ⟨zKv ?_, zDu HB.out (by simp) xx⟩
  rcases (show x = 0 ∨ x = 1 ∨ x = 2 ∨ x = 3 ∨ x = 4 by have := HX.out; omega) with rfl | rfl | rfl | rfl | rfl <;> unfold wrap64 <;> omega
theorem zBv {t : ByteArray} {k : Nat} (h : k < t.size) : zBu t k = ((t[k]'h).toNat : Int) := by
 unfold zBu; have h' : k < t.data.toList.length := h; rw [List.getD_eq_getElem?_getD, List.getElem?_eq_getElem h']; rfl
theorem zFf (x : Int) (b : Bool) (h : decide (zH0 x) = b) (w : World) : Calls Tryz.prog 209 #[.int .u8 x] w fun e w' => e = .returned (.bool b) ∧ w = w' := by subst h; exact zFg x w
theorem zFj (t : ByteArray) (ht : t.size ≤ 1048576) (w : World) : Calls Tryz.prog 204 #[.string t] w fun e w' => e = .returned (.bool (decide (zFh t))) ∧ w = w' := by
 obtain ⟨bb, hbb⟩ : ∃ b, decide (zFh t) = b := ⟨_, rfl⟩
 rw [hbb]; have HBB := Kh hbb; clear hbb
 go_enter Tryz.func204, Tryz.ntmps204
 go_wp2_with fail
 go_loop [6] (fun i => ∃ k : Nat, k ≤ t.size ∧ Hid (∀ j, j < k → zCm t j) ∧ i = .int .i64 k) (fun i => t.size - (intOf i).toNat)
 case atStart => exact ⟨0, Nat.zero_le _, fun j h => absurd h (by omega), rfl⟩
 case round =>
  obtain ⟨k, hk, hno, rfl⟩ := hrel
  by_cases hlt : k < t.size
  case neg =>
   obtain rfl : k = t.size := by omega
   have hd : decide ((1 : Int) ≤ (t.size : Int) ∧ (t.size : Int) ≤ 8) = bb := by
    rw [← HBB.out]; have := hno.out
    by_cases h : (1 : Int) ≤ (t.size : Int) ∧ (t.size : Int) ≤ 8
    · exact (decide_eq_true h).trans (decide_eq_true (show zFh t from ⟨by omega, this⟩)).symm
    · exact (decide_eq_false h).trans (decide_eq_false (show ¬ zFh t from fun h2 => h (by have := h2.1; omega))).symm
   have HD := Kh hd; clear hd
   go_wp2_with (go_at_call 143; refine (zEx _ _ _ bb HD.out _).mono ?_; rintro e w1 ⟨rfl, rfl⟩)
   go_ret
   exact ⟨rfl, rfl⟩
  have e1 := wr1 (r := k) (by omega)
  have hj0 : (0 : Int) ≤ k := by omega
  have hj1 : (k : Int) < (t.size : Int) := by omega
  have hb := Kh (zBv hlt); have bad : ¬ zCm t k → Hid (bb = false) := fun h => Kh (by rw [← HBB.out]; exact decide_eq_false (fun h2 => h (h2.2 k hlt)))
  have good : zCm t k → Hid (∀ j, j < k + 1 → zCm t j) := fun h => Kh (fun j hj => by
   by_cases e : j = k
   · rw [e]; exact h
   · exact hno.out j (by omega))
  have HBad := Kh bad; have HGood := Kh good; clear bad good
  by_cases hl : zH0 (zBu t k)
  · have HL := Kh (show decide (zH0 ((t[k]'hlt).toNat : Int)) = true by rw [← hb.out]; exact decide_eq_true hl)
    have HG := HGood.out (.inl hl); clear hl
    go_wp2_with (go_at_call 209; refine (zFf _ true HL.out _).mono ?_; rintro e w1 ⟨rfl, rfl⟩)
    go_round
    case rel => exact ⟨k + 1, by omega, HG, by go_num⟩
    case measure => simp [intOf]; omega
  have HL := Kh (show decide (zH0 ((t[k]'hlt).toNat : Int)) = false by rw [← hb.out]; exact decide_eq_false hl)
  by_cases h0 : k = 0
  · have HN := HBad.out (by unfold zCm; rintro (h | ⟨h, -⟩); exact hl h; omega)
    clear hl; subst h0
    go_wp2_with (go_at_call 209; refine (zFf _ false HL.out _).mono ?_; rintro e w1 ⟨rfl, rfl⟩)
    go_ret; rw [HN.out]
    exact ⟨rfl, rfl⟩
  have z0 : ((k : Int) == 0) = false := by simpa using (show ¬ (k : Int) = 0 by omega)
  by_cases h48 : zBu t k < 48
  · have HN := HBad.out (by unfold zCm zDb; rintro (h | ⟨-, h⟩); exact hl h; omega)
    have d1 : decide (((t[k]'hlt).toNat : Int) < 48) = true := by rw [← hb.out]; exact decide_eq_true h48
    have d1' : decide ((t[k]'hlt).toNat < 48) = true := decide_eq_true (by have := of_decide_eq_true d1; omega)
    clear hl h48
    go_wp2_with (go_at_call 209; refine (zFf _ false HL.out _).mono ?_; rintro e w1 ⟨rfl, rfl⟩)
    go_ret; rw [HN.out]
    exact ⟨rfl, rfl⟩
  have d1 : decide (((t[k]'hlt).toNat : Int) < 48) = false := by rw [← hb.out]; exact decide_eq_false h48
  have d1' : decide ((t[k]'hlt).toNat < 48) = false := decide_eq_false (by have := of_decide_eq_false d1; omega)
  by_cases h57 : 57 < zBu t k
  · have HN := HBad.out (by unfold zCm zDb; rintro (h | ⟨-, h⟩); exact hl h; omega)
    have d2 : decide ((57 : Int) < ((t[k]'hlt).toNat : Int)) = true := by rw [← hb.out]; exact decide_eq_true h57
    have d2' : decide (57 < (t[k]'hlt).toNat) = true := decide_eq_true (by have := of_decide_eq_true d2; omega)
    clear hl h48 h57
    go_wp2_with (go_at_call 209; refine (zFf _ false HL.out _).mono ?_; rintro e w1 ⟨rfl, rfl⟩)
    go_ret; rw [HN.out]
    exact ⟨rfl, rfl⟩
  have d2 : decide ((57 : Int) < ((t[k]'hlt).toNat : Int)) = false := by rw [← hb.out]; exact decide_eq_false h57
  have d2' : decide (57 < (t[k]'hlt).toNat) = false := decide_eq_false (by have := of_decide_eq_false d2; omega)
  have HG := HGood.out (.inr ⟨by omega, by unfold zDb; omega⟩)
  clear hl h48 h57
  go_wp2_with (go_at_call 209; refine (zFf _ false HL.out _).mono ?_; rintro e w1 ⟨rfl, rfl⟩)
  go_round
  case rel => exact ⟨k + 1, by omega, HG, by go_num⟩
  case measure => simp [intOf]; omega
end Go.Proofs.YtmolbnghobfmoaaGreat
namespace Go.Proofs.YtmolbnghobfmoaaGreat
open Go.RowKit
section
variable {P : Program} {ops : Array Oper} {md : Region.Mode} {C : World → Prop}
def zQw (P : Program) (md : Region.Mode) (ops : Array Oper) (C : World → Prop) (n : Nat) (L : Array Bool → Act → Prop) : Nat → Array Bool → Act → Prop
 | 0, listed, a => L listed a
 | f + 1, listed, a =>
  Region.ready md ops listed ≠ [] ∧ ∀ i ∈ Region.ready md ops listed, i < n ∧ qOp P ops C i (zQw P md ops C n L f (listed.setIfInBounds i true)) a
theorem zR0 {n g : Nat} {L : Array Bool → Act → Prop} {Q' : Exit → Act → World → Prop} (hL : ∀ listed a w, C w → L listed a → wpAny P md ops Q' g listed a w) :
 ∀ (f : Nat) (listed : Array Bool) (a : Act) (w : World), C w → zQw P md ops C n L f listed a → wpAny P md ops Q' (f + g) listed a w
 | 0, listed, a, w, hw, h => by rw [Nat.zero_add]; exact hL _ _ _ hw h
 | f + 1, listed, a, w, hw, h => by
  rw [show f + 1 + g = (f + g) + 1 by omega]
  exact ⟨fun h0 => absurd h0 h.1, fun i hi => wpOp_of_qOp hw (fun a' w' hw' h' => zR0 hL f _ a' w' hw' h') (h.2 i hi).2⟩
theorem zQx {n i : Nat} {oi : Oper} {v : Value} {L : Array Bool → Act → Prop} (hi : ops[i]? = some oi) (hsel : ∀ (j : Nat) (o : Oper) cs b, ops[j]? = some o → o.op ≠ .select cs b)
 (hs : Region.sinkB md ops n = true) (hc : Region.chainB md ops n = true) (hn : n < ops.size) (hin : i < n)
    (hdone : ∀ listed a, L listed a → ∀ j ∈ Region.ready md ops listed, n ≤ j) :
    ∀ (f : Nat) (listed : Array Bool) (a : Act), HeadInv md ops n listed →
     (∀ j oj, ops[j]? = some oj → j ≠ i → listed.getD j true = false → (∀ e ∈ oj.after, Region.binds md e = true → e.on ≠ i) → oi.apart ops oj = true) →
     i ∈ Region.ready md ops listed → YieldsIn P ops C oi v a →
     zQw P md ops C n L f (listed.setIfInBounds i true) (a.put oi.dst v) → zQw P md ops C n L (f + 1) listed a := by
 intro f
 induction f with
 | zero =>
  intro listed a inv _ hr hy H; have hun := (mem_ready.1 hr).1
  refine ⟨fun h => (by rw [h] at hr; cases hr), fun j hj => ?_⟩
  have hjn : j < n := by
   rcases Nat.lt_or_ge j n with h | h
   · exact h
   · exact absurd hj (tail_waits hs hc hn inv _ i rfl hin hun j h)
  refine ⟨hjn, ?_⟩
  by_cases hji : j = i
  · subst hji; exact hy.qOp hi H
  · have := hdone _ _ H j (ready_mono hj hji)
    omega
 | succ f ih =>
  intro listed a inv hfree hr hy H; have hun := (mem_ready.1 hr).1
  refine ⟨fun h => (by rw [h] at hr; cases hr), fun j hj => ?_⟩
  have hjn : j < n := by
   rcases Nat.lt_or_ge j n with h | h
   · exact h
   · exact absurd hj (tail_waits hs hc hn inv _ i rfl hin hun j h)
  refine ⟨hjn, ?_⟩
  by_cases hji : j = i
  · subst hji; exact hy.qOp hi H
  · have h1 := (H.2 j (ready_mono hj hji)).2
    obtain ⟨hjun, oj, hoj, hall⟩ := mem_ready.1 hj
    have hnot : ∀ e ∈ oj.after, Region.binds md e = true → e.on ≠ i := fun e he hb heq => by
     have h1 := hall e he hb; rw [heq, getD_both hun] at h1
     cases h1
    have h2 := qOp_put hoj (hfree j oj hoj hji hjun hnot) (fun cs b => hsel i oi cs b hi) (fun cs b => hsel j oj cs b hoj) hy h1
    have hfree' : ∀ k ok, ops[k]? = some ok → k ≠ i → (listed.setIfInBounds j true).getD k true = false →
        (∀ e ∈ ok.after, Region.binds md e = true → e.on ≠ i) → oi.apart ops ok = true := fun k ok hk hki hun hno => by
     refine hfree k ok hk hki ?_ hno
     by_cases hjk : j = k
     · subst hjk; exact hjun
     · rw [getD_set_ne true hjk] at hun; exact hun
    refine qOp_mono (fun a' h3 => ih (listed.setIfInBounds j true) a' (inv.set hj hjn) hfree' (ready_mono hr (Ne.symm hji)) h3.1 ?_) h2
    rw [Array.setIfInBounds_comm _ _ hji]
    exact h3.2
theorem zQy {n g : Nat} {Lq : Act → Prop} (hsel : Region.noSelect ops = true) (hs : Region.sinkB md ops n = true) (hc : Region.chainB md ops n = true) (hn : n < ops.size) :
 ∀ (l : List Oper) (k : Nat) (listed : Array Bool) (a : Act), (∀ j, j < l.length → l[j]? = ops[k + j]?) → k + l.length = n → HeadInv md ops n listed →
    Region.lexHead md ops g l.length k listed = true → wpQuiet P ops C Lq l a →
    zQw P md ops C n (fun listed' a' => Region.seqB md ops g n listed' = true ∧ Lq a') l.length listed a
 | [], k, listed, a, _, hk, _, hB, h => by
  have : k = n := by simpa using hk
  subst this
  exact ⟨by simpa [Region.lexHead] using hB, h⟩
 | o :: l, k, listed, a, hl, hk, inv, hB, h => by
  have h0 : ops[k]? = some o := by simpa using (hl 0 (by simp)).symm
  simp only [List.length_cons, Region.lexHead, Bool.and_eq_true] at hB; obtain ⟨⟨hr, hf⟩, hB'⟩ := hB; have hkn : k < n := by simp only [List.length_cons] at hk; omega
  have hr' : k ∈ Region.ready md ops listed := by simpa using hr
  have hst : qOp P ops C k (wpQuiet P ops C Lq l) a := by unfold qOp; simp only [h0]; exact h
  obtain ⟨v, hy, hK⟩ := yieldsIn_of_qOp h0 hst
  exact zQx h0 (Region.noSelect_spec hsel) hs hc hn hkn (fun listed' a' hL => seqB_ready hL.1) l.length listed a inv (Region.free_spec h0 hf) hr' hy
   (zQy hsel hs hc hn l (k + 1) _ _ (fun j hj => by have := hl (j + 1) (by simp; omega); simpa [Nat.add_assoc, Nat.add_comm 1 j] using this) (by simp only [List.length_cons] at hk; omega) (inv.set hr' hkn) hB' hK)
theorem zR9 {id : Nat} {Q : Exit → Act → World → Prop} {a : Act} {w : World} {l : List Oper} (n : Nat) (hm : P.follows .mixedOrders = true) (hB : Region.lexTailB .any l.toArray n = true) (hC : C { w with drawn := w.drawn + 1 })
 (h : wpQuiet P l.toArray C (fun a' => ∀ w', C w' → wpList P l.toArray Q (l.drop n) a' w') (l.take n) a) : (Code.region id l.toArray true).wp P Q a w := by
 simp only [Region.lexTailB, Bool.and_eq_true, decide_eq_true_eq] at hB; obtain ⟨⟨⟨⟨hsel, hn⟩, hs⟩, hc⟩, hlex⟩ := hB; have hn' : n < l.length := by simpa using hn
 have htl : (l.take n).length = n := by simp; omega
 have hdl : (l.drop n).length = l.toArray.size - n := by simp
 have inv0 : HeadInv .any l.toArray n (Array.replicate l.toArray.size false) :=
  ⟨by simp, fun j oj _ hl => (by rw [getD_replicate_false] at hl; cases hl), fun t _ ht => getD_in (by simpa using ht) (getD_replicate_false _ _)⟩
 have H := zQy (md := .any) (g := l.toArray.size - n) hsel hs hc hn (l.take n) 0 _ a (fun j hj => by
  have hj' : j < n := by rw [htl] at hj; exact hj
  simp [hj']) (by simpa using htl) inv0 (by rw [htl]; exact hlex) h
 refine wp_region_any hm ?_
 have := zR0 (Q' := Q) (g := l.toArray.size - n) (fun listed a' w' hw' hL => by
  have := wpAny_of_seq (md := .any) (Q' := Q) (l.drop n) n listed a' w' (fun j => by simp [List.getElem?_drop]) (by rw [hdl]; exact hL.1) (hL.2 w' hw')
  rwa [hdl] at this) _ _ _ _ hC H
 rw [htl, show n + (l.toArray.size - n) = l.toArray.size by omega] at this
 exact this
end
section
variable {P : Program} {X : World}
theorem zR5 {id : Nat} {Q : Exit → Act → World → Prop} {a : Act} {l : List Oper} (n : Nat) (hm : P.follows .mixedOrders = true) (hB : Region.lexTailB .any l.toArray n = true)
 (h : wpQuiet P l.toArray (fun w' => ∃ x : Ext X, w' = x.1) (fun a' => ∀ w', (∃ x : Ext X, w' = x.1) → wpList P l.toArray Q (l.drop n) a' w') (l.take n) a) : (Code.region id l.toArray true).wp P Q a X :=
 zR9 (C := fun w' => ∃ x : Ext X, w' = x.1) n hm hB ⟨⟨_, (Below.refl X.heap.size X).drew⟩, rfl⟩ h
end
end Go.Proofs.YtmolbnghobfmoaaGreat
namespace Go.Proofs.YtmolbnghobfmoaaGreat
open Go.RowKit
section
variable {P : Program} {ops : Array Oper} {md : Region.Mode} {C : Bool → World → Prop} {s : Nat}
def zAk (P : Program) (ops : Array Oper) (C : Bool → World → Prop) (s i : Nat) (o : Oper) (v : Value) (a : Act) : Prop :=
 (Region.wanted o (yielded ops a.tmps) = true ∧ ((i = s ∧ v = undef ∧ ∀ r w, C r w → ∃ w', (execOp a.eval o).run P w = .ok .skip w' ∧ C true w') ∨ (i ≠ s ∧ ∀ r w, C r w → o.quietAt P a (C r) w v))) ∨
 (Region.wanted o (yielded ops a.tmps) = false ∧ i ≠ s ∧ v = undef)
theorem zAk.of_same {i : Nat} {o : Oper} {v : Value} {a a' : Act} (hy : zAk P ops C s i o v a) (he : execOp a'.eval o = execOp a.eval o) (hw : Region.wanted o (yielded ops a'.tmps) = Region.wanted o (yielded ops a.tmps)) : zAk P ops C s i o v a' := by
 unfold zAk Oper.quietAt at *; rw [he, hw]; exact hy
theorem zAk.op {i : Nat} {o : Oper} {v : Value} {a : Act} {r : Bool} {w : World} {K : Act → World → Prop} {Q' : Exit → Act → World → Prop} (ho : ops[i]? = some o) (hy : zAk P ops C s i o v a) (hC : C r w) (hK : ∀ r' w', C r' w' → (i = s → r' = true) → (r = true → r' = true) → K (a.put o.dst v) w') : wpOp P ops Q' i K a w := by
 unfold wpOp; simp only [ho]
 rcases hy with ⟨hw, ⟨hs, rfl, h⟩ | ⟨hs, h⟩⟩ | ⟨hw, hs, rfl⟩
 · rw [if_pos hw]
   obtain ⟨w', hr, hc⟩ := h r w hC
   refine .inl ?_
   unfold Oper.wp; rw [hr]
   exact hK true w' hc (fun _ => rfl) (fun _ => rfl)
 · rw [if_pos hw]
   exact .inl (Oper.wp_of_quiet (C := C r) (K := fun a' => a' = a.put o.dst v) hC (fun a' w' hw' e => by subst e; exact hK r w' hw' (fun e => absurd e hs) id) ⟨v, fun w hw => h r w hw, rfl⟩)
 · rw [if_neg (by rw [hw]; exact Bool.false_ne_true)]
   exact hK r w hC (fun e => absurd e hs) id
def zQt (P : Program) (md : Region.Mode) (ops : Array Oper) (C : Bool → World → Prop) (s : Nat) (Q : Act → Prop) : Nat → Array Bool → Act → Prop
 | 0, listed, a => Region.ready md ops listed = [] ∧ listed.getD s false = true ∧ Q a
 | f + 1, listed, a => Region.ready md ops listed ≠ [] ∧ ∀ i ∈ Region.ready md ops listed, ∃ o, ops[i]? = some o ∧ ∃ v, zAk P ops C s i o v a ∧ zQt P md ops C s Q f (listed.setIfInBounds i true) (a.put o.dst v)
theorem zQz {Q : Act → Prop} {Q' : Exit → Act → World → Prop} (hQ : ∀ a w, C true w → Q a → Q' .normal a w) : ∀ (f : Nat) (listed : Array Bool) (a : Act) (r : Bool) (w : World), C r w → (listed.getD s false = true → r = true) →
 zQt P md ops C s Q f listed a → wpAny P md ops Q' f listed a w
 | 0, listed, a, r, w, hC, hr, h => ⟨h.1, hQ a w (by have := hr h.2.1; subst this; exact hC) h.2.2⟩
 | f + 1, listed, a, r, w, hC, hr, h => ⟨fun h0 => absurd h0 h.1, fun i hi => by
  obtain ⟨o, ho, v, hy, hrest⟩ := h.2 i hi
  refine hy.op ho hC (fun r' w' hC' h1 h2 => zQz hQ f _ _ r' w' hC' (fun hl => ?_) hrest)
  by_cases his : i = s
  · exact h1 his
  · rw [getD_set_ne false his] at hl; exact h2 (hr hl)⟩
theorem zQu {Q : Act → Prop} {i : Nat} {oi : Oper} {v : Value} (hi : ops[i]? = some oi) (hsel : ∀ (j : Nat) (o : Oper) cs b, ops[j]? = some o → o.op ≠ .select cs b) :
 ∀ (f : Nat) (listed : Array Bool) (a : Act),
     (∀ j oj, ops[j]? = some oj → j ≠ i → listed.getD j true = false → (∀ e ∈ oj.after, Region.binds md e = true → e.on ≠ i) → oi.apart ops oj = true) →
     i ∈ Region.ready md ops listed → zAk P ops C s i oi v a →
     zQt P md ops C s Q f (listed.setIfInBounds i true) (a.put oi.dst v) → zQt P md ops C s Q (f + 1) listed a := by
 intro f
 induction f with
 | zero =>
  intro listed a _ hr hy H
  refine ⟨fun h => (by rw [h] at hr; cases hr), fun j hj => ?_⟩
  by_cases hji : j = i
  · subst hji; exact ⟨oi, hi, v, hy, H⟩
  · have := ready_mono hj hji
    rw [H.1] at this
    cases this
 | succ f ih =>
  intro listed a hfree hr hy H
  refine ⟨fun h => (by rw [h] at hr; cases hr), fun j hj => ?_⟩
  by_cases hji : j = i
  · subst hji; exact ⟨oi, hi, v, hy, H⟩
  · obtain ⟨o', ho', u, hyu, hrest⟩ := H.2 j (ready_mono hj hji)
    obtain ⟨hjun, oj, hoj, hall⟩ := mem_ready.1 hj; rw [hoj] at ho'; injection ho' with ho'
    subst ho'
    have hnot : ∀ e ∈ oj.after, Region.binds md e = true → e.on ≠ i := fun e he hb heq => by
     have h1 := hall e he hb; have h0 := (mem_ready.1 hr).1; rw [heq] at h1
     rcases Nat.lt_or_ge i listed.size with h' | h'
     · simp [h'] at h0 h1; rw [h0] at h1; cases h1
     · simp [Array.getElem?_eq_none h'] at h1
    have hap := hfree j oj hoj hji hjun hnot; obtain ⟨p1, p2, p3⟩ := Oper.apart_spec hap; have hsi := fun cs b => hsel i oi cs b hi
    have hsj := fun cs b => hsel j oj cs b hoj
    have hyj : zAk P ops C s j oj u a := hyu.of_same (execOp_put oj hsj a oi.dst v p1).symm (wanted_put oj a oi.dst v p1).symm; have hyi : zAk P ops C s i oi v (a.put oj.dst u) := hy.of_same (execOp_put oi hsi a oj.dst u p3) (wanted_put oi a oj.dst u p3)
    have hfree' : ∀ k ok, ops[k]? = some ok → k ≠ i → (listed.setIfInBounds j true).getD k true = false →
        (∀ e ∈ ok.after, Region.binds md e = true → e.on ≠ i) → oi.apart ops ok = true := fun k ok hk hki hun hno => by
     refine hfree k ok hk hki ?_ hno
     by_cases hjk : j = k
     · subst hjk; exact hjun
     · rw [getD_set_ne true hjk] at hun; exact hun
    refine ⟨oj, hoj, u, hyj, ih (listed.setIfInBounds j true) _ hfree' (ready_mono hr (Ne.symm hji)) hyi ?_⟩
    rw [Array.setIfInBounds_comm _ _ hji, ← Act.put_comm a v u p2]
    exact hrest
def zR1 (P : Program) (ops : Array Oper) (C : Bool → World → Prop) (s : Nat) (Q : Act → Prop) : Nat → List Oper → Act → Prop
 | _, [], a => Q a
 | k, o :: rest, a => ∃ v, zAk P ops C s k o v a ∧ zR1 P ops C s Q (k + 1) rest (a.put o.dst v)
theorem zQv {Q : Act → Prop} (hs : Region.noSelect ops = true) : ∀ (l : List Oper) (k : Nat) (listed : Array Bool) (a : Act), (∀ j, l[j]? = ops[k + j]?) → s < k + l.length → s < listed.size → (s < k → listed.getD s false = true) →
 Region.lexFrom md ops l.length k listed = true → zR1 P ops C s Q k l a → zQt P md ops C s Q l.length listed a
 | [], k, listed, a, _, hsk, _, hk, hB, h => ⟨by simpa [Region.lexFrom] using hB, hk (by simpa using hsk), h⟩
 | o :: l, k, listed, a, hl, hsk, hsz, hk, hB, h => by
  have h0 : ops[k]? = some o := by simpa using (hl 0).symm
  simp only [List.length_cons, Region.lexFrom, Bool.and_eq_true] at hB; obtain ⟨⟨hr, hf⟩, hB'⟩ := hB; obtain ⟨v, hy, hK⟩ := h
  refine zQu h0 (Region.noSelect_spec hs) l.length listed a (Region.free_spec h0 hf) (by simpa using hr) hy
   (zQv hs l (k + 1) _ _ (fun j => by have := hl (j + 1); simpa [Nat.add_assoc, Nat.add_comm 1 j] using this) (by simp only [List.length_cons] at hsk; omega) (by simpa using hsz) (fun h1 => ?_) hB' hK)
  by_cases e : k = s
  · subst e; simp [Array.getD, hsz]
  · rw [getD_set_ne false e]; exact hk (by omega)
theorem zKs {C : World → Prop} {A : Act} {d : Tmp} : ∀ (l : List Oper) (a : Act), wpQuiet P ops C (fun a' => a' = A) l a → (∀ o ∈ l, o.dst ≠ some d) → A.tmps.getD d undef = a.tmps.getD d undef
 | [], a, h, _ => by have : a = A := h; rw [this]
 | o :: l, a, h, hd => by
  have hput : ∀ v, (a.put o.dst v).tmps.getD d undef = a.tmps.getD d undef := fun v => by
   have := hd o List.mem_cons_self
   cases hdst : o.dst with
   | none => rfl
   | some x =>
    rw [hdst] at this; have hne : x ≠ d := fun e => this (by rw [e])
    show (a.tmps.setIfInBounds x v).getD d undef = _
    simp [Array.getD_eq_getD_getElem?, Array.getElem?_setIfInBounds_ne hne]
  unfold wpQuiet at h; split at h
  · obtain ⟨v, _, hn⟩ := h
    rw [zKs l _ hn (fun o' ho' => hd o' (List.mem_cons_of_mem _ ho')), hput]
  · rw [zKs l _ h (fun o' ho' => hd o' (List.mem_cons_of_mem _ ho')), hput]
def zDd : List Oper → Nat → Bool
 | [], _ => true
 | o :: l, n => (match o.dst with | some d => decide (d < n) && l.all (fun o' => o'.dst != some d) | none => false) && zDd l n
theorem zH1 {A : Act} {Q : Act → Prop} {rest : List Oper} : ∀ (l : List Oper) (k : Nat) (a : Act), (∀ r, wpQuiet P ops (C r) (fun a' => a' = A) l a) → zDd l a.tmps.size = true → (k + l.length ≤ s ∨ s < k) →
 zR1 P ops C s Q (k + l.length) rest A → zR1 P ops C s Q k (l ++ rest) a
 | [], k, a, h, _, _, hr => by have : a = A := h true; subst this; exact hr
 | o :: l, k, a, h, hd, hs, hr => by
  simp only [zDd, Bool.and_eq_true] at hd; obtain ⟨hd1, hd2⟩ := hd; obtain ⟨d, hdst⟩ : ∃ d, o.dst = some d := by cases hx : o.dst with | none => rw [hx] at hd1; cases hd1 | some d => exact ⟨d, rfl⟩
  rw [hdst] at hd1; simp only [Bool.and_eq_true, decide_eq_true_eq, List.all_eq_true, bne_iff_ne] at hd1; have hks : k ≠ s := by simp only [List.length_cons] at hs; omega
  have hsize : ∀ v, (a.put o.dst v).tmps.size = a.tmps.size := fun v => by rw [hdst]; show (a.tmps.setIfInBounds d v).size = _; simp
  have hval : ∀ v, (a.put o.dst v).tmps.getD d undef = v := fun v => by
   rw [hdst]; show (a.tmps.setIfInBounds d v).getD d undef = _
   simp [Array.getD_eq_getD_getElem?, hd1.1]
  have hr' : zR1 P ops C s Q (k + 1 + l.length) rest A := by rw [show k + 1 + l.length = k + (o :: l).length by simp; omega]; exact hr
  have hs' : k + 1 + l.length ≤ s ∨ s < k + 1 := by simp only [List.length_cons] at hs; omega
  by_cases hw : Region.wanted o (yielded ops a.tmps) = true
  · have hq : ∀ r, ∃ v, (∀ w, C r w → o.quietAt P a (C r) w v) ∧ wpQuiet P ops (C r) (fun a' => a' = A) l (a.put o.dst v) := fun r => by
      have := h r; unfold wpQuiet at this; rw [if_pos hw] at this; exact this
    have hv : ∀ r, (∀ w, C r w → o.quietAt P a (C r) w (A.tmps.getD d undef)) ∧ wpQuiet P ops (C r) (fun a' => a' = A) l (a.put o.dst (A.tmps.getD d undef)) := fun r => by
     obtain ⟨v, h1, h2⟩ := hq r; have : A.tmps.getD d undef = v := by rw [zKs l _ h2 (fun o' ho' => hd1.2 o' ho'), hval]
     rw [this]; exact ⟨h1, h2⟩
    exact ⟨A.tmps.getD d undef, .inl ⟨hw, .inr ⟨hks, fun r w hC => (hv r).1 w hC⟩⟩, zH1 l (k + 1) _ (fun r => (hv r).2) (by rw [hsize]; exact hd2) hs' hr'⟩
  · have hw' : Region.wanted o (yielded ops a.tmps) = false := by simpa using hw
    exact ⟨undef, .inr ⟨hw', hks, rfl⟩, zH1 l (k + 1) _ (fun r => by have := h r; unfold wpQuiet at this; rw [if_neg hw] at this; exact this) (by rw [hsize]; exact hd2) hs' hr'⟩
theorem zR6 {id : Nat} {Q : Exit → Act → World → Prop} {a A B : Act} {w : World} {l1 l2 : List Oper} {o : Oper} (hm : P.follows .mixedOrders = true) (hB : Region.lexB .any (l1 ++ o :: l2).toArray = true)
 (hd1 : zDd l1 a.tmps.size = true) (hd2 : zDd l2 A.tmps.size = true) (hg : o.guard = none) (ho : o.dst = none)
    (hC : C false w.drew)
    (h1 : ∀ r, wpQuiet P (l1 ++ o :: l2).toArray (C r) (fun a' => a' = A) l1 a)
    (hst : ∀ r W, C r W → ∃ W', (execOp A.eval o).run P W = .ok .skip W' ∧ C true W')
    (h2 : ∀ r, wpQuiet P (l1 ++ o :: l2).toArray (C r) (fun a' => a' = B) l2 A)
    (hQ : ∀ W, C true W → Q .normal B W) : (Code.region id (l1 ++ o :: l2).toArray true).wp P Q a w := by
 simp only [Region.lexB, Bool.and_eq_true] at hB
 refine wp_region_any hm ?_
 have hput : ∀ v, A.put o.dst v = A := fun v => by rw [ho]; rfl
 have hlex2 : zR1 P (l1 ++ o :: l2).toArray C l1.length (fun a' => a' = B) (l1.length + 1) l2 A := by
  have := zH1 (P := P) (ops := (l1 ++ o :: l2).toArray) (C := C) (s := l1.length) (Q := fun a' => a' = B) (rest := []) l2 (l1.length + 1) A h2 hd2 (.inr (by omega)) rfl
  simpa using this
 have hst' : zR1 P (l1 ++ o :: l2).toArray C l1.length (fun a' => a' = B) (0 + l1.length) (o :: l2) A := by
  rw [Nat.zero_add]
  exact ⟨undef, .inl ⟨by simp [Region.wanted, hg], .inl ⟨rfl, rfl, hst⟩⟩, by rw [hput]; exact hlex2⟩
 have hlex := zH1 (P := P) (ops := (l1 ++ o :: l2).toArray) (C := C) (s := l1.length) (Q := fun a' => a' = B) (rest := o :: l2) l1 0 a h1 hd1 (.inl (by omega)) hst'
 have := zQv (md := .any) (s := l1.length) hB.1 (l1 ++ o :: l2) 0 (Array.replicate (l1 ++ o :: l2).toArray.size false) a (by simp) (by simp) (by simp) (fun h => by omega) (by simpa using hB.2) hlex
 have := zQz (md := .any) (Q' := Q) (fun a' W hW e => by subst e; exact hQ W hW) _ _ _ false _ hC (fun h => by simp [Array.getD] at h) this
 simpa using this
def Cls (D : World → Prop) : Type := { W : World // D W }
theorem zR7 {D : Bool → World → Prop} {id : Nat} {Q : Exit → Act → World → Prop} {a A B : Act} {w : World} {l : List Oper} {o : Oper} (s : Nat) (hos : l[s]? = some o) (hm : P.follows .mixedOrders = true) (hB : Region.lexB .any l.toArray = true)
 (hd1 : zDd (l.take s) a.tmps.size = true) (hg : o.guard = none) (ho : o.dst = none) (hC : D false w.drew)
    (h1 : ∀ r (K : Act → Prop), Hid (K A) → wpQuiet P l.toArray (fun W => ∃ x : Cls (D r), W = x.1) K (l.take s) a)
    (hst : ∀ r W, D r W → ∃ W', (execOp A.eval o).run P W = .ok .skip W' ∧ D true W')
    (h2 : ∀ r (K : Act → Prop), Hid (K B) → wpQuiet P l.toArray (fun W => ∃ x : Cls (D r), W = x.1) K (l.drop (s + 1)) A)
    (hd2 : zDd (l.drop (s + 1)) A.tmps.size = true)
    (hQ : ∀ W, D true W → Q .normal B W) : (Code.region id l.toArray true).wp P Q a w := by
 have hlt : s < l.length := (List.getElem?_eq_some_iff.1 hos).1
 have he : l[s] = o := (List.getElem?_eq_some_iff.1 hos).2
 have e : l = l.take s ++ o :: l.drop (s + 1) := by
  rw [← he, ← List.drop_eq_getElem_cons hlt, List.take_append_drop]
 have hco : ∀ r W, (∃ x : Cls (D r), W = x.1) → D r W := fun r W ⟨x, h⟩ => by rw [h]; exact x.2
 have h1' : ∀ r, wpQuiet P (l.take s ++ o :: l.drop (s + 1)).toArray (fun W => ∃ x : Cls (D r), W = x.1) (fun a' => a' = A) (l.take s) a := by rw [← e]; exact fun r => h1 r _ rfl
 have h2' : ∀ r, wpQuiet P (l.take s ++ o :: l.drop (s + 1)).toArray (fun W => ∃ x : Cls (D r), W = x.1) (fun a' => a' = B) (l.drop (s + 1)) A := by rw [← e]; exact fun r => h2 r _ rfl
 have := zR6 (C := fun r W => ∃ x : Cls (D r), W = x.1) (id := id) hm (by rw [← e]; exact hB) hd1 hd2 hg ho ⟨⟨_, hC⟩, rfl⟩ h1' (fun r W hW => by
  obtain ⟨W', hr, hD⟩ := hst r W (hco _ _ hW)
  exact ⟨W', hr, ⟨W', hD⟩, rfl⟩) h2' (fun W hW => hQ W (hco _ _ hW))
 rw [← e] at this
 exact this
theorem zR8 {D : Bool → World → Prop} {id : Nat} {Q : Exit → Act → World → Prop} {a : Act} {w : World} {l : List Oper} {o : Oper} (s : Nat) (hos : l[s]? = some o) (hm : P.follows .mixedOrders = true) (hB : Region.lexB .any l.toArray = true)
 (hd1 : zDd (l.take s) a.tmps.size = true) (hg : o.guard = none) (ho : o.dst = none) (hC : D false w.drew)
    (h : ∃ A, (∀ r (K : Act → Prop), Hid (K A) → wpQuiet P l.toArray (fun W => ∃ x : Cls (D r), W = x.1) K (l.take s) a) ∧
     (∀ r W, D r W → ∃ W', (execOp A.eval o).run P W = .ok .skip W' ∧ D true W') ∧ zDd (l.drop (s + 1)) A.tmps.size = true ∧
     ∃ B, (∀ r (K : Act → Prop), Hid (K B) → wpQuiet P l.toArray (fun W => ∃ x : Cls (D r), W = x.1) K (l.drop (s + 1)) A) ∧ ∀ W, D true W → Q .normal B W) : (Code.region id l.toArray true).wp P Q a w :=
 let ⟨_, h1, hst, hd2, _, h2, hQ⟩ := h
 zR7 s hos hm hB hd1 hg ho hC h1 hst h2 hd2 hQ
end
end Go.Proofs.YtmolbnghobfmoaaGreat
