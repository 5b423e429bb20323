/- Part 8 of what the row Row28 rests on: F4. -/
import Derived.Test.YtmolbnghobfmoaaGreatP5
set_option maxRecDepth 100000
set_option maxHeartbeats 16000000
set_option linter.unusedSimpArgs false
set_option linter.unusedVariables false
namespace Go.Proofs.YtmolbnghobfmoaaGreat
open Go.RowKit
theorem zDf (t : ByteArray) : (t.toList == []) = true ↔ t.size = 0 := by
 rw [ByteArray.toList_eq]; obtain ⟨⟨x⟩⟩ := t
 cases x with
 | nil => simp; rfl
 | cons a b => constructor
               · intro h; cases h
               · intro h; cases h
theorem Blk.nine {w : World} {g : Nat} {t : TypeId} {a b c d e f x y z : Value} (h : Blk w g t #[a, b, c, d, e, f, x, y, z]) : w.cell? ⟨g, 0, none⟩ = some a ∧ w.cell? ⟨g, 1, none⟩ = some b ∧ w.cell? ⟨g, 2, none⟩ = some c ∧ w.cell? ⟨g, 3, none⟩ = some d ∧ w.cell? ⟨g, 4, none⟩ = some e ∧
 w.cell? ⟨g, 5, none⟩ = some f ∧ w.cell? ⟨g, 6, none⟩ = some x ∧ w.cell? ⟨g, 7, none⟩ = some y ∧ w.cell? ⟨g, 8, none⟩ = some z :=
 ⟨by rw [h.cell]; rfl, by rw [h.cell]; rfl, by rw [h.cell]; rfl, by rw [h.cell]; rfl, by rw [h.cell]; rfl, by rw [h.cell]; rfl, by rw [h.cell]; rfl, by rw [h.cell]; rfl, by rw [h.cell]; rfl⟩
theorem zFi (t : ByteArray) (ht : t.size ≤ 1048576) (b : Bool) (h : decide (zFh t) = b) (w : World) : Calls Tryz.prog 204 #[.string t] w fun e w' => e = .returned (.bool b) ∧ w = w' := by subst h; exact zFj t ht w
theorem zI7 (k : Int) (b : Bool) (h : decide (zI6 k) = b) (w : World) : Calls Tryz.prog 140 #[.int .i64 k] w fun e w' => e = .returned (.bool b) ∧ w = w' := by subst h; exact zI8 k w
theorem zK5 (k m : Int) (h : zK1 k = m) (w : World) : Calls Tryz.prog 98 #[.int .i64 k] w fun e w' => e = .returned (.int .i64 m) ∧ w = w' := by subst h; exact zK6 k w
theorem zE6 (k na nb nc nn nm si sw : Int) (nt : ByteArray) (bh : Nat) (w : World) (hb : bh ≤ 1048576) (ht : nt.size ≤ 1048576) : Calls Tryz.prog 177 #[.agg #[.int .i64 k, .int .i64 na, .int .i64 nb, .int .i64 nc, .int .i64 nn, .int .i64 nm, .int .i64 si, .int .i64 sw, .string nt], .int .i64 (bh : Int)] w
 fun e w' => e = .returned (.bool (decide (zE5 bh ⟨k, na, nb, nc, nn, nm, ⟨si, sw⟩, nt⟩))) ∧ Below w.heap.size w w' := by
 obtain ⟨F, hF⟩ : ∃ b, decide (zE5 bh ⟨k, na, nb, nc, nn, nm, ⟨si, sw⟩, nt⟩) = b := ⟨_, rfl⟩
 rw [hF]; have HF := Kh hF; clear hF; have bad : ¬ zE5 bh ⟨k, na, nb, nc, nn, nm, ⟨si, sw⟩, nt⟩ → Hid (F = false) := fun h => Kh (by rw [← HF.out]; exact decide_eq_false h)
 have HBad := Kh bad; clear bad; obtain ⟨M, hM⟩ : ∃ m, zK1 k = m := ⟨_, rfl⟩
 have HM := Kh hM; have hM3 : -1 ≤ M ∧ M ≤ 3 := by rw [← hM]; exact zK2 k
 clear hM; have hlen : (0 : Int) ≤ bh := by omega
 have e0 : IntKind.i64.wrap ((bh : Int) - 1) = (bh : Int) - 1 := zRa (by omega) (by omega)
 have HB := bx w #[.int .i64 k, .int .i64 na, .int .i64 nb, .int .i64 nc, .int .i64 nn, .int .i64 nm, .int .i64 si, .int .i64 sw, .string nt] 42; have HB2 : Hid (Below w.heap.size w ((w.alloc (.cells #[.int .i64 k, .int .i64 na, .int .i64 nb, .int .i64 nc, .int .i64 nn, .int .i64 nm, .int .i64 si, .int .i64 sw, .string nt] 42)).alloc (.cells #[.int .i64 na, .int .i64 nb, .int .i64 nc] 3))) := HB.out.alloc (by simp) _
 have HX : Hid (Blk ((w.alloc (.cells #[.int .i64 k, .int .i64 na, .int .i64 nb, .int .i64 nc, .int .i64 nn, .int .i64 nm, .int .i64 si, .int .i64 sw, .string nt] 42)).alloc (.cells #[.int .i64 na, .int .i64 nb, .int .i64 nc] 3)) w.heap.size 42 #[.int .i64 k, .int .i64 na, .int .i64 nb, .int .i64 nc, .int .i64 nn, .int .i64 nm, .int .i64 si, .int .i64 sw, .string nt]) := (Blk.new _ _ _).alloc _; have HY : Hid (Blk ((w.alloc (.cells #[.int .i64 k, .int .i64 na, .int .i64 nb, .int .i64 nc, .int .i64 nn, .int .i64 nm, .int .i64 si, .int .i64 sw, .string nt] 42)).alloc (.cells #[.int .i64 na, .int .i64 nb, .int .i64 nc] 3)) (w.heap.size + 1) 3 #[.int .i64 na, .int .i64 nb, .int .i64 nc]) := Blk.new_at _ _ _ (by simp)
 by_cases hneg : M < 0
 · have HN := HBad.out (by unfold zE5; rintro ⟨h, -⟩; rw [HM.out] at h; omega)
   go_enter Tryz.func177, Tryz.ntmps177
   go_wp2_with (go_at_call 98; refine (zK5 k M HM.out _).mono ?_; rintro e w1 ⟨rfl, rfl⟩)
   go_ret; rw [HN.out]
   exact ⟨rfl, HB.out⟩
 have h0M : (0 : Int) ≤ M := by omega
 go_enter Tryz.func177, Tryz.ntmps177
 go_wp2_with (go_at_call 98; refine (zK5 k M HM.out _).mono ?_; rintro e w1 ⟨rfl, rfl⟩)
 go_loop [22] (fun i => ∃ k : Nat, k ≤ 3 ∧ Hid ((1 ≤ k → zJt M 0 bh na) ∧ (2 ≤ k → zJt M 1 bh nb) ∧ (3 ≤ k → zJt M 2 bh nc)) ∧ i = .int .i64 k) (fun i => 3 - (intOf i).toNat)
 case atStart => exact ⟨0, by omega, ⟨fun h => absurd h (by omega), fun h => absurd h (by omega), fun h => absurd h (by omega)⟩, rfl⟩
 case round =>
  obtain ⟨r, hr, hno, rfl⟩ := hrel
  rcases (show r = 0 ∨ r = 1 ∨ r = 2 ∨ r = 3 by omega) with rfl | rfl | rfl | rfl
  case _ =>
   have c0 := (HY.out.three).1
   by_cases hj : (0 : Int) < M
   · have d1 : decide ((0 : Int) < M) = true := decide_eq_true hj
     have d2 : decide (M ≤ (0 : Int)) = false := decide_eq_false (by omega)
     by_cases hp : 0 ≤ na ∧ na ≤ (bh : Int) - 1
     · have hj1 : zJt M 0 bh na := by unfold zJt; rw [if_pos hj]; exact hp
       have HG := Kh (show (1 ≤ 1 → zJt M 0 bh na) ∧ (2 ≤ 1 → zJt M 1 bh nb) ∧ (3 ≤ 1 → zJt M 2 bh nc) from ⟨fun _ => hj1, fun h => absurd h (by omega), fun h => absurd h (by omega)⟩)
       have HP := Kh hp; clear hp hj hj1 hM3
       go_wp2_with (go_at_call 143; refine (zEx _ _ _ true (by exact decide_eq_true HP.out) _).mono ?_; rintro e wI ⟨rfl, rfl⟩)
       go_round
       case rel => exact ⟨1, by omega, HG, rfl⟩
       case measure => simp [intOf]
     · have HN := HBad.out (by unfold zE5; rintro ⟨-, ⟨g0, g1, g2⟩, -⟩; simp only at g0; rw [HM.out] at g0; unfold zJt at g0; rw [if_pos hj] at g0; exact hp g0)
       have HP := Kh hp; clear hp hj hM3
       go_wp2_with (go_at_call 143; refine (zEx _ _ _ false (by exact decide_eq_false HP.out) _).mono ?_; rintro e wI ⟨rfl, rfl⟩)
       go_ret; rw [HN.out]
       exact ⟨rfl, HB2.out⟩
   · have d1 : decide ((0 : Int) < M) = false := decide_eq_false hj
     have d2 : decide (M ≤ (0 : Int)) = true := decide_eq_true (by omega)
     by_cases hp : na = 0
     · have hj1 : zJt M 0 bh na := by unfold zJt; rw [if_neg hj]; exact hp
       have HG := Kh (show (1 ≤ 1 → zJt M 0 bh na) ∧ (2 ≤ 1 → zJt M 1 bh nb) ∧ (3 ≤ 1 → zJt M 2 bh nc) from ⟨fun _ => hj1, fun h => absurd h (by omega), fun h => absurd h (by omega)⟩)
       clear hj hj1 hM3; subst hp
       go_wp2_with fail
       go_round
       case rel => exact ⟨1, by omega, HG, rfl⟩
       case measure => simp [intOf]
     · have HN := HBad.out (by unfold zE5; rintro ⟨-, ⟨g0, g1, g2⟩, -⟩; simp only at g0; rw [HM.out] at g0; unfold zJt at g0; rw [if_neg hj] at g0; exact hp g0)
       have z1 : (na == 0) = false := by simpa using hp
       clear hp hj hM3
       go_wp2_with fail
       go_ret; rw [HN.out]
       exact ⟨rfl, HB2.out⟩
  case _ =>
   have c0 := (HY.out.three).2.1
   by_cases hj : (1 : Int) < M
   · have d1 : decide ((1 : Int) < M) = true := decide_eq_true hj
     have d2 : decide (M ≤ (1 : Int)) = false := decide_eq_false (by omega)
     by_cases hp : 0 ≤ nb ∧ nb ≤ (bh : Int) - 1
     · have hj1 : zJt M 1 bh nb := by unfold zJt; rw [if_pos hj]; exact hp
       have HG := Kh (show (1 ≤ 2 → zJt M 0 bh na) ∧ (2 ≤ 2 → zJt M 1 bh nb) ∧ (3 ≤ 2 → zJt M 2 bh nc) from ⟨fun _ => hno.out.1 (by omega), fun _ => hj1, fun h => absurd h (by omega)⟩)
       have HP := Kh hp; clear hp hj hj1 hM3
       go_wp2_with (go_at_call 143; refine (zEx _ _ _ true (by exact decide_eq_true HP.out) _).mono ?_; rintro e wI ⟨rfl, rfl⟩)
       go_round
       case rel => exact ⟨2, by omega, HG, rfl⟩
       case measure => simp [intOf]
     · have HN := HBad.out (by unfold zE5; rintro ⟨-, ⟨g0, g1, g2⟩, -⟩; simp only at g1; rw [HM.out] at g1; unfold zJt at g1; rw [if_pos hj] at g1; exact hp g1)
       have HP := Kh hp; clear hp hj hM3
       go_wp2_with (go_at_call 143; refine (zEx _ _ _ false (by exact decide_eq_false HP.out) _).mono ?_; rintro e wI ⟨rfl, rfl⟩)
       go_ret; rw [HN.out]
       exact ⟨rfl, HB2.out⟩
   · have d1 : decide ((1 : Int) < M) = false := decide_eq_false hj
     have d2 : decide (M ≤ (1 : Int)) = true := decide_eq_true (by omega)
     by_cases hp : nb = 0
     · have hj1 : zJt M 1 bh nb := by unfold zJt; rw [if_neg hj]; exact hp
       have HG := Kh (show (1 ≤ 2 → zJt M 0 bh na) ∧ (2 ≤ 2 → zJt M 1 bh nb) ∧ (3 ≤ 2 → zJt M 2 bh nc) from ⟨fun _ => hno.out.1 (by omega), fun _ => hj1, fun h => absurd h (by omega)⟩)
       clear hj hj1 hM3; subst hp
       go_wp2_with fail
       go_round
       case rel => exact ⟨2, by omega, HG, rfl⟩
       case measure => simp [intOf]
     · have HN := HBad.out (by unfold zE5; rintro ⟨-, ⟨g0, g1, g2⟩, -⟩; simp only at g1; rw [HM.out] at g1; unfold zJt at g1; rw [if_neg hj] at g1; exact hp g1)
       have z1 : (nb == 0) = false := by simpa using hp
       clear hp hj hM3
       go_wp2_with fail
       go_ret; rw [HN.out]
       exact ⟨rfl, HB2.out⟩
  case _ =>
   have c0 := (HY.out.three).2.2
   by_cases hj : (2 : Int) < M
   · have d1 : decide ((2 : Int) < M) = true := decide_eq_true hj
     have d2 : decide (M ≤ (2 : Int)) = false := decide_eq_false (by omega)
     by_cases hp : 0 ≤ nc ∧ nc ≤ (bh : Int) - 1
     · have hj1 : zJt M 2 bh nc := by unfold zJt; rw [if_pos hj]; exact hp
       have HG := Kh (show (1 ≤ 3 → zJt M 0 bh na) ∧ (2 ≤ 3 → zJt M 1 bh nb) ∧ (3 ≤ 3 → zJt M 2 bh nc) from ⟨fun _ => hno.out.1 (by omega), fun _ => hno.out.2.1 (by omega), fun _ => hj1⟩)
       have HP := Kh hp; clear hp hj hj1 hM3
       go_wp2_with (go_at_call 143; refine (zEx _ _ _ true (by exact decide_eq_true HP.out) _).mono ?_; rintro e wI ⟨rfl, rfl⟩)
       go_round
       case rel => exact ⟨3, by omega, HG, rfl⟩
       case measure => simp [intOf]
     · have HN := HBad.out (by unfold zE5; rintro ⟨-, ⟨g0, g1, g2⟩, -⟩; simp only at g2; rw [HM.out] at g2; unfold zJt at g2; rw [if_pos hj] at g2; exact hp g2)
       have HP := Kh hp; clear hp hj hM3
       go_wp2_with (go_at_call 143; refine (zEx _ _ _ false (by exact decide_eq_false HP.out) _).mono ?_; rintro e wI ⟨rfl, rfl⟩)
       go_ret; rw [HN.out]
       exact ⟨rfl, HB2.out⟩
   · have d1 : decide ((2 : Int) < M) = false := decide_eq_false hj
     have d2 : decide (M ≤ (2 : Int)) = true := decide_eq_true (by omega)
     by_cases hp : nc = 0
     · have hj1 : zJt M 2 bh nc := by unfold zJt; rw [if_neg hj]; exact hp
       have HG := Kh (show (1 ≤ 3 → zJt M 0 bh na) ∧ (2 ≤ 3 → zJt M 1 bh nb) ∧ (3 ≤ 3 → zJt M 2 bh nc) from ⟨fun _ => hno.out.1 (by omega), fun _ => hno.out.2.1 (by omega), fun _ => hj1⟩)
       clear hj hj1 hM3; subst hp
       go_wp2_with fail
       go_round
       case rel => exact ⟨3, by omega, HG, rfl⟩
       case measure => simp [intOf]
     · have HN := HBad.out (by unfold zE5; rintro ⟨-, ⟨g0, g1, g2⟩, -⟩; simp only at g2; rw [HM.out] at g2; unfold zJt at g2; rw [if_neg hj] at g2; exact hp g2)
       have z1 : (nc == 0) = false := by simpa using hp
       clear hp hj hM3
       go_wp2_with fail
       go_ret; rw [HN.out]
       exact ⟨rfl, HB2.out⟩
  case _ =>
   have p0 := hno.out.1 (by omega)
   have p1 := hno.out.2.1 (by omega)
   have p2 := hno.out.2.2 (by omega)
   have HT : Hid (F = decide (((k = 34 ∨ k = 30 ∨ k = 31 ∨ k = 32) ∨ nn = 0) ∧ (k = 30 ∨ nm = 0) ∧ (if zI6 k then zFh nt else nt.size = 0))) := Kh (by
    rw [← HF.out]; apply decide_eq_decide.2
    constructor
    · rintro ⟨-, -, h⟩; exact h
    · intro h; exact ⟨by rw [HM.out]; exact h0M, ⟨by rw [HM.out]; exact p0, by rw [HM.out]; exact p1, by rw [HM.out]; exact p2⟩, h⟩)
   obtain ⟨c0, c1, c2, c3, c4, c5, c6, c7, c8⟩ := HX.out.nine; clear p0 p1 p2 hM3 HBad hno
   by_cases k30 : k = 30
   · subst k30
     clear HM HF
     by_cases hn : nt.size = 0
     · have y1 : (nt.toList == []) = true := (zDf nt).2 hn
       have HN := Kh hn; clear hn
       go_wp2_with (first | (go_at_call 140; refine (zI7 _ false (by exact (decide_eq_false (by unfold zI6; omega))) _).mono ?_; rintro e wI ⟨rfl, rfl⟩) | (go_at_call 204; refine (zFi nt ht _ HX1.out _).mono ?_; rintro e wI ⟨rfl, rfl⟩))
       go_ret
       refine ⟨zKu ?_, HB2.out⟩
       rw [HT.out]; have := HN.out; simp [this, zI6]
     · have y1 : (nt.toList == []) = false := by rw [Bool.eq_false_iff]; exact fun h => hn ((zDf nt).1 h)
       have HN := Kh hn; clear hn
       go_wp2_with (first | (go_at_call 140; refine (zI7 _ false (by exact (decide_eq_false (by unfold zI6; omega))) _).mono ?_; rintro e wI ⟨rfl, rfl⟩) | (go_at_call 204; refine (zFi nt ht _ HX1.out _).mono ?_; rintro e wI ⟨rfl, rfl⟩))
       go_ret
       refine ⟨zKu ?_, HB2.out⟩
       rw [HT.out]; have := HN.out; simp [this, zI6]
   by_cases k31 : k = 31
   · subst k31
     clear HM HF
     by_cases hnm : nm = 0
     · subst hnm
       by_cases hn : nt.size = 0
       · have y1 : (nt.toList == []) = true := (zDf nt).2 hn
         have HN := Kh hn; clear hn
         go_wp2_with (first | (go_at_call 140; refine (zI7 _ false (by exact (decide_eq_false (by unfold zI6; omega))) _).mono ?_; rintro e wI ⟨rfl, rfl⟩) | (go_at_call 204; refine (zFi nt ht _ HX1.out _).mono ?_; rintro e wI ⟨rfl, rfl⟩))
         go_ret
         refine ⟨zKu ?_, HB2.out⟩
         rw [HT.out]; have := HN.out; simp [this, zI6]
       · have y1 : (nt.toList == []) = false := by rw [Bool.eq_false_iff]; exact fun h => hn ((zDf nt).1 h)
         have HN := Kh hn; clear hn
         go_wp2_with (first | (go_at_call 140; refine (zI7 _ false (by exact (decide_eq_false (by unfold zI6; omega))) _).mono ?_; rintro e wI ⟨rfl, rfl⟩) | (go_at_call 204; refine (zFi nt ht _ HX1.out _).mono ?_; rintro e wI ⟨rfl, rfl⟩))
         go_ret
         refine ⟨zKu ?_, HB2.out⟩
         rw [HT.out]; have := HN.out; simp [this, zI6]
     · have znm : (nm == 0) = false := by simpa using hnm
       have Znm := Kh hnm; clear hnm
       go_wp2_with (first | (go_at_call 140; refine (zI7 _ false (by exact (decide_eq_false (by unfold zI6; omega))) _).mono ?_; rintro e wI ⟨rfl, rfl⟩) | (go_at_call 204; refine (zFi nt ht _ HX1.out _).mono ?_; rintro e wI ⟨rfl, rfl⟩))
       go_ret
       refine ⟨zKu ?_, HB2.out⟩
       rw [HT.out]; have := Znm.out; simp [this, zI6]
   by_cases k32 : k = 32
   · subst k32
     clear HM HF
     by_cases hnm : nm = 0
     · subst hnm
       by_cases hn : nt.size = 0
       · have y1 : (nt.toList == []) = true := (zDf nt).2 hn
         have HN := Kh hn; clear hn
         go_wp2_with (first | (go_at_call 140; refine (zI7 _ false (by exact (decide_eq_false (by unfold zI6; omega))) _).mono ?_; rintro e wI ⟨rfl, rfl⟩) | (go_at_call 204; refine (zFi nt ht _ HX1.out _).mono ?_; rintro e wI ⟨rfl, rfl⟩))
         go_ret
         refine ⟨zKu ?_, HB2.out⟩
         rw [HT.out]; have := HN.out; simp [this, zI6]
       · have y1 : (nt.toList == []) = false := by rw [Bool.eq_false_iff]; exact fun h => hn ((zDf nt).1 h)
         have HN := Kh hn; clear hn
         go_wp2_with (first | (go_at_call 140; refine (zI7 _ false (by exact (decide_eq_false (by unfold zI6; omega))) _).mono ?_; rintro e wI ⟨rfl, rfl⟩) | (go_at_call 204; refine (zFi nt ht _ HX1.out _).mono ?_; rintro e wI ⟨rfl, rfl⟩))
         go_ret
         refine ⟨zKu ?_, HB2.out⟩
         rw [HT.out]; have := HN.out; simp [this, zI6]
     · have znm : (nm == 0) = false := by simpa using hnm
       have Znm := Kh hnm; clear hnm
       go_wp2_with (first | (go_at_call 140; refine (zI7 _ false (by exact (decide_eq_false (by unfold zI6; omega))) _).mono ?_; rintro e wI ⟨rfl, rfl⟩) | (go_at_call 204; refine (zFi nt ht _ HX1.out _).mono ?_; rintro e wI ⟨rfl, rfl⟩))
       go_ret
       refine ⟨zKu ?_, HB2.out⟩
       rw [HT.out]; have := Znm.out; simp [this, zI6]
   by_cases k34 : k = 34
   · subst k34
     clear HM HF
     by_cases hnm : nm = 0
     · subst hnm
       by_cases hn : nt.size = 0
       · have y1 : (nt.toList == []) = true := (zDf nt).2 hn
         have HN := Kh hn; clear hn
         go_wp2_with (first | (go_at_call 140; refine (zI7 _ false (by exact (decide_eq_false (by unfold zI6; omega))) _).mono ?_; rintro e wI ⟨rfl, rfl⟩) | (go_at_call 204; refine (zFi nt ht _ HX1.out _).mono ?_; rintro e wI ⟨rfl, rfl⟩))
         go_ret
         refine ⟨zKu ?_, HB2.out⟩
         rw [HT.out]; have := HN.out; simp [this, zI6]
       · have y1 : (nt.toList == []) = false := by rw [Bool.eq_false_iff]; exact fun h => hn ((zDf nt).1 h)
         have HN := Kh hn; clear hn
         go_wp2_with (first | (go_at_call 140; refine (zI7 _ false (by exact (decide_eq_false (by unfold zI6; omega))) _).mono ?_; rintro e wI ⟨rfl, rfl⟩) | (go_at_call 204; refine (zFi nt ht _ HX1.out _).mono ?_; rintro e wI ⟨rfl, rfl⟩))
         go_ret
         refine ⟨zKu ?_, HB2.out⟩
         rw [HT.out]; have := HN.out; simp [this, zI6]
     · have znm : (nm == 0) = false := by simpa using hnm
       have Znm := Kh hnm; clear hnm
       go_wp2_with (first | (go_at_call 140; refine (zI7 _ false (by exact (decide_eq_false (by unfold zI6; omega))) _).mono ?_; rintro e wI ⟨rfl, rfl⟩) | (go_at_call 204; refine (zFi nt ht _ HX1.out _).mono ?_; rintro e wI ⟨rfl, rfl⟩))
       go_ret
       refine ⟨zKu ?_, HB2.out⟩
       rw [HT.out]; have := Znm.out; simp [this, zI6]
   by_cases k35 : k = 35
   · subst k35
     clear HM HF
     by_cases hnn : nn = 0
     · subst hnn
       by_cases hnm : nm = 0
       · subst hnm
         by_cases hn : zFh nt
         · obtain ⟨x, hx, HX1⟩ : ∃ x, x = true ∧ Hid (decide (zFh nt) = x) := ⟨_, rfl, Kh (decide_eq_true hn)⟩
           subst hx; have HN := Kh hn; clear hn
           go_wp2_with (first | (go_at_call 140; refine (zI7 _ true (by exact (decide_eq_true (by unfold zI6; omega))) _).mono ?_; rintro e wI ⟨rfl, rfl⟩) | (go_at_call 204; refine (zFi nt ht _ HX1.out _).mono ?_; rintro e wI ⟨rfl, rfl⟩))
           go_ret
           refine ⟨zKu ?_, HB2.out⟩
           rw [HT.out]; have := HN.out; simp [this, zI6]
         · obtain ⟨x, hx, HX1⟩ : ∃ x, x = false ∧ Hid (decide (zFh nt) = x) := ⟨_, rfl, Kh (decide_eq_false hn)⟩
           subst hx; have HN := Kh hn; clear hn
           go_wp2_with (first | (go_at_call 140; refine (zI7 _ true (by exact (decide_eq_true (by unfold zI6; omega))) _).mono ?_; rintro e wI ⟨rfl, rfl⟩) | (go_at_call 204; refine (zFi nt ht _ HX1.out _).mono ?_; rintro e wI ⟨rfl, rfl⟩))
           go_ret
           refine ⟨zKu ?_, HB2.out⟩
           rw [HT.out]; have := HN.out; simp [this, zI6]
       · have znm : (nm == 0) = false := by simpa using hnm
         have Znm := Kh hnm; clear hnm
         go_wp2_with (first | (go_at_call 140; refine (zI7 _ true (by exact (decide_eq_true (by unfold zI6; omega))) _).mono ?_; rintro e wI ⟨rfl, rfl⟩) | (go_at_call 204; refine (zFi nt ht _ HX1.out _).mono ?_; rintro e wI ⟨rfl, rfl⟩))
         go_ret
         refine ⟨zKu ?_, HB2.out⟩
         rw [HT.out]; have := Znm.out; simp [this, zI6]
     · have znn : (nn == 0) = false := by simpa using hnn
       have Znn := Kh hnn; clear hnn
       go_wp2_with (first | (go_at_call 140; refine (zI7 _ true (by exact (decide_eq_true (by unfold zI6; omega))) _).mono ?_; rintro e wI ⟨rfl, rfl⟩) | (go_at_call 204; refine (zFi nt ht _ HX1.out _).mono ?_; rintro e wI ⟨rfl, rfl⟩))
       go_ret
       refine ⟨zKu ?_, HB2.out⟩
       rw [HT.out]; have := Znn.out; simp [this, zI6]
   by_cases k36 : k = 36
   · subst k36
     clear HM HF
     by_cases hnn : nn = 0
     · subst hnn
       by_cases hnm : nm = 0
       · subst hnm
         by_cases hn : zFh nt
         · obtain ⟨x, hx, HX1⟩ : ∃ x, x = true ∧ Hid (decide (zFh nt) = x) := ⟨_, rfl, Kh (decide_eq_true hn)⟩
           subst hx; have HN := Kh hn; clear hn
           go_wp2_with (first | (go_at_call 140; refine (zI7 _ true (by exact (decide_eq_true (by unfold zI6; omega))) _).mono ?_; rintro e wI ⟨rfl, rfl⟩) | (go_at_call 204; refine (zFi nt ht _ HX1.out _).mono ?_; rintro e wI ⟨rfl, rfl⟩))
           go_ret
           refine ⟨zKu ?_, HB2.out⟩
           rw [HT.out]; have := HN.out; simp [this, zI6]
         · obtain ⟨x, hx, HX1⟩ : ∃ x, x = false ∧ Hid (decide (zFh nt) = x) := ⟨_, rfl, Kh (decide_eq_false hn)⟩
           subst hx; have HN := Kh hn; clear hn
           go_wp2_with (first | (go_at_call 140; refine (zI7 _ true (by exact (decide_eq_true (by unfold zI6; omega))) _).mono ?_; rintro e wI ⟨rfl, rfl⟩) | (go_at_call 204; refine (zFi nt ht _ HX1.out _).mono ?_; rintro e wI ⟨rfl, rfl⟩))
           go_ret
           refine ⟨zKu ?_, HB2.out⟩
           rw [HT.out]; have := HN.out; simp [this, zI6]
       · have znm : (nm == 0) = false := by simpa using hnm
         have Znm := Kh hnm; clear hnm
         go_wp2_with (first | (go_at_call 140; refine (zI7 _ true (by exact (decide_eq_true (by unfold zI6; omega))) _).mono ?_; rintro e wI ⟨rfl, rfl⟩) | (go_at_call 204; refine (zFi nt ht _ HX1.out _).mono ?_; rintro e wI ⟨rfl, rfl⟩))
         go_ret
         refine ⟨zKu ?_, HB2.out⟩
         rw [HT.out]; have := Znm.out; simp [this, zI6]
     · have znn : (nn == 0) = false := by simpa using hnn
       have Znn := Kh hnn; clear hnn
       go_wp2_with (first | (go_at_call 140; refine (zI7 _ true (by exact (decide_eq_true (by unfold zI6; omega))) _).mono ?_; rintro e wI ⟨rfl, rfl⟩) | (go_at_call 204; refine (zFi nt ht _ HX1.out _).mono ?_; rintro e wI ⟨rfl, rfl⟩))
       go_ret
       refine ⟨zKu ?_, HB2.out⟩
       rw [HT.out]; have := Znn.out; simp [this, zI6]
   have z30 : (k == 30) = false := by simpa using k30
   have z31 : (k == 31) = false := by simpa using k31
   have z32 : (k == 32) = false := by simpa using k32
   have z34 : (k == 34) = false := by simpa using k34
   have HK : Hid (¬ k = 30 ∧ ¬ k = 31 ∧ ¬ k = 32 ∧ ¬ k = 34 ∧ ¬ k = 35 ∧ ¬ k = 36) := ⟨k30, k31, k32, k34, k35, k36⟩; clear k30 k31 k32 k34 k35 k36
   by_cases hnn : nn = 0
   · subst hnn
     by_cases hnm : nm = 0
     · subst hnm
       by_cases hn : nt.size = 0
       · have y1 : (nt.toList == []) = true := (zDf nt).2 hn
         have HN := Kh hn; clear hn
         go_wp2_with (first | (go_at_call 140; refine (zI7 _ false (by exact (decide_eq_false (by have := HK.out; unfold zI6; omega))) _).mono ?_; rintro e wI ⟨rfl, rfl⟩) | (go_at_call 204; refine (zFi nt ht _ HX1.out _).mono ?_; rintro e wI ⟨rfl, rfl⟩))
         go_ret
         refine ⟨zKu ?_, HB2.out⟩
         rw [HT.out]; have := HN.out; simp [this, zI6, HK.out.1, HK.out.2.1, HK.out.2.2.1, HK.out.2.2.2.1, HK.out.2.2.2.2.1, HK.out.2.2.2.2.2]
       · have y1 : (nt.toList == []) = false := by rw [Bool.eq_false_iff]; exact fun h => hn ((zDf nt).1 h)
         have HN := Kh hn; clear hn
         go_wp2_with (first | (go_at_call 140; refine (zI7 _ false (by exact (decide_eq_false (by have := HK.out; unfold zI6; omega))) _).mono ?_; rintro e wI ⟨rfl, rfl⟩) | (go_at_call 204; refine (zFi nt ht _ HX1.out _).mono ?_; rintro e wI ⟨rfl, rfl⟩))
         go_ret
         refine ⟨zKu ?_, HB2.out⟩
         rw [HT.out]; have := HN.out; simp [this, zI6, HK.out.1, HK.out.2.1, HK.out.2.2.1, HK.out.2.2.2.1, HK.out.2.2.2.2.1, HK.out.2.2.2.2.2]
     · have znm : (nm == 0) = false := by simpa using hnm
       have Znm := Kh hnm; clear hnm
       go_wp2_with (first | (go_at_call 140; refine (zI7 _ false (by exact (decide_eq_false (by have := HK.out; unfold zI6; omega))) _).mono ?_; rintro e wI ⟨rfl, rfl⟩) | (go_at_call 204; refine (zFi nt ht _ HX1.out _).mono ?_; rintro e wI ⟨rfl, rfl⟩))
       go_ret
       refine ⟨zKu ?_, HB2.out⟩
       rw [HT.out]; have := Znm.out; simp [this, zI6, HK.out.1, HK.out.2.1, HK.out.2.2.1, HK.out.2.2.2.1, HK.out.2.2.2.2.1, HK.out.2.2.2.2.2]
   · have znn : (nn == 0) = false := by simpa using hnn
     have Znn := Kh hnn; clear hnn
     go_wp2_with (first | (go_at_call 140; refine (zI7 _ false (by exact (decide_eq_false (by have := HK.out; unfold zI6; omega))) _).mono ?_; rintro e wI ⟨rfl, rfl⟩) | (go_at_call 204; refine (zFi nt ht _ HX1.out _).mono ?_; rintro e wI ⟨rfl, rfl⟩))
     go_ret
     refine ⟨zKu ?_, HB2.out⟩
     rw [HT.out]; have := Znn.out; simp [this, zI6, HK.out.1, HK.out.2.1, HK.out.2.2.1, HK.out.2.2.2.1, HK.out.2.2.2.2.1, HK.out.2.2.2.2.2]
end Go.Proofs.YtmolbnghobfmoaaGreat
