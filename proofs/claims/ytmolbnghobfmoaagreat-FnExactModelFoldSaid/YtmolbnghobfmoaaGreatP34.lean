/- Part 34 of what the row Row28 rests on: G32 G33. -/
import Derived.Test.YtmolbnghobfmoaaGreatP33
set_option maxRecDepth 100000
set_option maxHeartbeats 16000000
set_option linter.unusedSimpArgs false
set_option linter.unusedVariables false
namespace Go.Proofs.YtmolbnghobfmoaaGreat
open Go.RowKit
theorem zKn (L : List No) (n : No) : 0 ≤ (zKm L n).2 := by
 unfold zKm; split <;> simp only <;> omega
theorem zLy (B gf : Nat) (A : Option Addr) (c : Nat) (L : List No) (nk : Int) (qa qb : Nat) (nc nn nm : Int) (si sw : Int) (nt : ByteArray) (w : World) (h : SRIn w B gf A c L ⟨nk, (qa : Int), (qb : Int), nc, nn, nm, ⟨si, sw⟩, nt⟩) (hall : zAr L ⟨nk, (qa : Int), (qb : Int), nc, nn, nm, ⟨si, sw⟩, nt⟩ = false) (hk : 6 ≤ nk ∧ nk ≤ 29) :
 Calls Tryz.prog 76 #[.pointer (some ⟨gf, 0, none⟩), .agg #[.int .i64 nk, .int .i64 (qa : Int), .int .i64 (qb : Int), .int .i64 nc, .int .i64 nn, .int .i64 nm, .int .i64 si, .int .i64 sw, .string nt]] w fun e w' => zAf w B gf A c L (zJr L ⟨nk, (qa : Int), (qb : Int), nc, nn, nm, ⟨si, sw⟩, nt⟩) e w' := by
 have H := Kh h; have hB := h.base; have hl := h.few; clear h; have B1 := bx w #[.int .i64 nk, .int .i64 (qa : Int), .int .i64 (qb : Int), .int .i64 nc, .int .i64 nn, .int .i64 nm, .int .i64 si, .int .i64 sw, .string nt] 42; have N1 := nx w #[.int .i64 nk, .int .i64 (qa : Int), .int .i64 (qb : Int), .int .i64 nc, .int .i64 nn, .int .i64 nm, .int .i64 si, .int .i64 sw, .string nt] 42; have TA := Kh (H.out.fixed false hall _ B1.out); have HA := Kh hall; clear hall; have hp2 : zK1 nk = 2 := zJz (by omega)
 have HP := Kh hp2; have hqa' : qa < L.length := by have := (H.out.inn.a (by show (0 : Int) < zK1 nk; omega)).1; simp only at this; omega
 have hqb' : qb < L.length := by have := (H.out.inn.b (by show (1 : Int) < zK1 nk; omega)).1; simp only at this; omega
 have sa := (H.out.ok.sortOk (p := (qa : Int)) (by omega) (by omega)).2
 have sb := (H.out.ok.sortOk (p := (qb : Int)) (by omega) (by omega)).2
 obtain ⟨g, rfl, hs1⟩ := H.out.fold.see hqa'; obtain ⟨g2, hg2, hs2⟩ := H.out.fold.see hqb'
 cases hg2
 have HSA := Kh hs1; have HSB := Kh hs2; have qa0 : (0 : Int) ≤ (qa : Int) := by omega
 have qa1 : (qa : Int) < (L.length : Int) := by omega
 have qb0 : (0 : Int) ≤ (qb : Int) := by omega
 have qb1 : (qb : Int) < (L.length : Int) := by omega
 have TS := Kh (fun (W : World) (hW : Below w.heap.size w W) => zMb B gf (some ⟨g, 0, none⟩) c L ⟨nk, (qa : Int), (qb : Int), nc, nn, nm, ⟨si, sw⟩, nt⟩ W (H.out.fold.below hW) (by omega))
 have T2 := Kh (fun (W : World) (hW : Below w.heap.size w W) => zLj B gf (some ⟨g, 0, none⟩) c L ⟨nk, (qa : Int), (qb : Int), nc, nn, nm, ⟨si, sw⟩, nt⟩ qa (qb : Int) W (H.out.fold.below hW) (by omega) hqa' sa)
 have T3 := Kh (fun (W : World) (hW : Below w.heap.size w W) => zLj B gf (some ⟨g, 0, none⟩) c L ⟨nk, (qa : Int), (qb : Int), nc, nn, nm, ⟨si, sw⟩, nt⟩ qb (qa : Int) W (H.out.fold.below hW) (by omega) hqb' sb)
 have T4 := Kh (fun (W : World) (hW : Below w.heap.size w W) => zMa B gf (some ⟨g, 0, none⟩) c L ⟨nk, (qa : Int), (qb : Int), nc, nn, nm, ⟨si, sw⟩, nt⟩ W (H.out.fold.below hW) hl H.out.inn hp2)
 obtain ⟨x1, h1⟩ : ∃ x, zAn ⟨nk, (qa : Int), (qb : Int), nc, nn, nm, ⟨si, sw⟩, nt⟩ = x := ⟨_, rfl⟩
 obtain ⟨x2, h2⟩ : ∃ x, zB7 L nk (qa : Int) (qb : Int) = x := ⟨_, rfl⟩
 obtain ⟨x3, h3⟩ : ∃ x, zB7 L nk (qb : Int) (qa : Int) = x := ⟨_, rfl⟩
 obtain ⟨x4, h4⟩ : ∃ x, zKw L ⟨nk, (qa : Int), (qb : Int), nc, nn, nm, ⟨si, sw⟩, nt⟩ = x := ⟨_, rfl⟩
 have hpk : zJr L ⟨nk, (qa : Int), (qb : Int), nc, nn, nm, ⟨si, sw⟩, nt⟩ = (if (qa : Int) = (qb : Int) then x1 else .no).or (x2.or (x3.or x4)) := by rw [← h1, ← h2, ← h3, ← h4]; rfl
 rw [hpk]; clear hpk; have c2 : ∀ wd v, x2 ≠ .con wd v := fun wd v => h2 ▸ zB8
 have c3 : ∀ wd v, x3 ≠ .con wd v := fun wd v => h3 ▸ zB8
 have c4 : ∀ wd v, x4 ≠ .con wd v := fun wd v e => zKy (h4.trans e)
 have c1p : ∀ p, x1 = .at p → 0 ≤ p := fun p e => by have := (zAp (h1.trans e)).2; simp only at this; omega
 have c2p : ∀ p, x2 = .at p → 0 ≤ p := fun p e => by have := (zBb (h2.trans e)).2; omega
 have c3p : ∀ p, x3 = .at p → 0 ≤ p := fun p e => by have := (zBb (h3.trans e)).2; omega
 have E2 : Hid (¬ (noAt L (qa : Int)).k = 34 → x2 = .no) := Kh (fun e => by rw [← h2]; exact zBa e)
 have E3 : Hid (¬ (noAt L (qb : Int)).k = 34 → x3 = .no) := Kh (fun e => by rw [← h3]; exact zBa e)
 rw [h1] at TS; dsimp only at T2 T3; rw [h2] at T2; rw [h3] at T3; rw [h4] at T4; have d33 : (nk == 33) = false := by simp only [beq_eq_false_iff_ne]; omega
 have d37 : (nk == 37) = false := by simp only [beq_eq_false_iff_ne]; omega
 clear h1 h2 h3 h4 sa sb hqa' hqb' hp2 hk hs1 hs2
 by_cases hab : qa = qb
 case neg =>
  have dab : ((qa : Int) == (qb : Int)) = false := by simp only [beq_eq_false_iff_ne]; omega
  rw [if_neg (by omega)]
  go_enter Tryz.func76, Tryz.ntmps76
  go_wp2_with (go_at_call 130; refine TA.out.mono ?_; rintro e w2 ⟨rfl, hb2⟩; have B2 := Kh (B1.out.trans (hb2.mono B1.out.size)); have N2 := Kh (N1.out.below hb2 N1.out.lt); obtain ⟨y0, y1, y2, y3, y4, y5, y6, y7, y8⟩ := N2.out.nine; clear hb2)
  go_quiet (fail)
  go_wp2_with (go_at_call 79; refine (zG8 _ _).mono ?_; rintro e wp ⟨rfl, rfl⟩; rw [HP.out])
  obtain ⟨-, z2, -⟩ := HSA.out _ B2.out; obtain ⟨f2, -⟩ := HSA.out _ B2.out
  by_cases hqa : (noAt L (qa : Int)).k = 34
  · rw [hqa] at z2
    go_quiet (fail)
    cases x2 with
    | «at» p2 =>
     have d3 : decide (p2 < 0) = false := decide_eq_false (by have := c2p p2 rfl; omega)
     go_wp2_with (go_at_call 136; refine (T2.out _ (by exact zB1 B2.out _)).mono ?_; rintro e w3 hk3; obtain ⟨rfl, hb3⟩ := hk3)
     have B3 : Hid (Below w.heap.size w w3) := Kh ((zB1 B2.out _).trans (hb3.mono B2.out.size)); clear hb3; try clear z2 f2
     go_quiet (fail)
     go_wp2_with fail
     go_ret
     exact ⟨rfl, by first | exact B3.out | exact zB1 B3.out _⟩
    | con wd v => exact absurd rfl (c2 wd v)
    | no =>
     go_wp2_with (go_at_call 136; refine (T2.out _ (by exact zB1 B2.out _)).mono ?_; rintro e w3 hk3; obtain ⟨rfl, hb3⟩ := hk3; have B3 : Hid (Below w.heap.size w w3) := Kh ((zB1 B2.out _).trans (hb3.mono B2.out.size)); have N3 : Hid (Blk w3 w.heap.size 42 #[.int .i64 nk, .int .i64 (qa : Int), .int .i64 (qb : Int), .int .i64 nc, .int .i64 nn, .int .i64 nm, .int .i64 si, .int .i64 sw, .string nt]) := Kh ((N2.out.below (zB1 (Below.refl _ w2) _) N2.out.lt).below hb3 N2.out.lt); clear hb3 y0 y1 y2 y3 y4 y5 y6 y7 y8 z2 f2; obtain ⟨y0, y1, y2, y3, y4, y5, y6, y7, y8⟩ := N3.out.nine)
     obtain ⟨-, z3, -⟩ := HSB.out _ B3.out; obtain ⟨f3, -⟩ := HSB.out _ B3.out
     by_cases hqb : (noAt L (qb : Int)).k = 34
     · rw [hqb] at z3
       go_quiet (fail)
       cases x3 with
       | «at» p2 =>
        have d4 : decide (p2 < 0) = false := decide_eq_false (by have := c3p p2 rfl; omega)
        go_wp2_with (go_at_call 136; refine (T3.out _ (by exact zB1 B3.out _)).mono ?_; rintro e w4 hk4; obtain ⟨rfl, hb4⟩ := hk4)
        have B4 : Hid (Below w.heap.size w w4) := Kh ((zB1 B3.out _).trans (hb4.mono B3.out.size)); clear hb4; try clear z3 f3
        go_wp2_with fail
        go_ret
        exact ⟨rfl, by first | exact B4.out | exact zB1 B4.out _⟩
       | con wd v => exact absurd rfl (c3 wd v)
       | no =>
        cases x4 with
        | no =>
         go_wp2_with (first | (go_at_call 136; refine (T3.out _ (by exact zB1 B3.out _)).mono ?_; rintro e w4 hk4; obtain ⟨rfl, hb4⟩ := hk4; have B4 : Hid (Below w.heap.size w w4) := Kh ((zB1 B3.out _).trans (hb4.mono B3.out.size)); have N4 : Hid (Blk w4 w.heap.size 42 #[.int .i64 nk, .int .i64 (qa : Int), .int .i64 (qb : Int), .int .i64 nc, .int .i64 nn, .int .i64 nm, .int .i64 si, .int .i64 sw, .string nt]) := Kh ((N3.out.below (zB1 (Below.refl _ w3) _) N3.out.lt).below hb4 N3.out.lt); clear hb4 y0 y1 y2 y3 y4 y5 y6 y7 y8 z3 f3; obtain ⟨y0, y1, y2, y3, y4, y5, y6, y7, y8⟩ := N4.out.nine) | (go_at_call 137; refine (T4.out _ (by exact B4.out)).mono ?_; rintro e wz hk9; obtain ⟨rfl, hb⟩ := hk9.from (by exact B4.out) hB))
         go_ret
         exact ⟨rfl, hb⟩
        | «at» q =>
         go_wp2_with (first | (go_at_call 136; refine (T3.out _ (by exact zB1 B3.out _)).mono ?_; rintro e w4 hk4; obtain ⟨rfl, hb4⟩ := hk4; have B4 : Hid (Below w.heap.size w w4) := Kh ((zB1 B3.out _).trans (hb4.mono B3.out.size)); have N4 : Hid (Blk w4 w.heap.size 42 #[.int .i64 nk, .int .i64 (qa : Int), .int .i64 (qb : Int), .int .i64 nc, .int .i64 nn, .int .i64 nm, .int .i64 si, .int .i64 sw, .string nt]) := Kh ((N3.out.below (zB1 (Below.refl _ w3) _) N3.out.lt).below hb4 N3.out.lt); clear hb4 y0 y1 y2 y3 y4 y5 y6 y7 y8 z3 f3; obtain ⟨y0, y1, y2, y3, y4, y5, y6, y7, y8⟩ := N4.out.nine) | (go_at_call 137; refine (T4.out _ (by exact B4.out)).mono ?_; rintro e wz hk9; obtain ⟨rfl, hb⟩ := hk9.from (by exact B4.out) hB))
         go_ret
         exact ⟨rfl, hb⟩
        | con wd v => exact absurd rfl (c4 wd v)
     · have dk3 : ((noAt L (qb : Int)).k == 34) = false := by simpa using hqb
       obtain rfl : .no = x3 := by rw [E3.out hqb]
       go_quiet (fail)
       cases x4 with
       | no =>
        go_wp2_with (go_at_call 137; refine (T4.out _ (by exact zB1 B3.out _)).mono ?_; rintro e wz hk9; obtain ⟨rfl, hb⟩ := hk9.from (by exact zB1 B3.out _) hB)
        go_ret
        exact ⟨rfl, hb⟩
       | «at» q =>
        go_wp2_with (go_at_call 137; refine (T4.out _ (by exact zB1 B3.out _)).mono ?_; rintro e wz hk9; obtain ⟨rfl, hb⟩ := hk9.from (by exact zB1 B3.out _) hB)
        go_ret
        exact ⟨rfl, hb⟩
       | con wd v => exact absurd rfl (c4 wd v)
  · have dk2 : ((noAt L (qa : Int)).k == 34) = false := by simpa using hqa
    obtain rfl : .no = x2 := by rw [E2.out hqa]
    go_quiet (fail)
    go_wp2_with fail
    try clear z2 f2
    obtain ⟨-, z12, -⟩ := HSB.out _ B2.out; obtain ⟨f12, -⟩ := HSB.out _ B2.out
    by_cases hqb : (noAt L (qb : Int)).k = 34
    · rw [hqb] at z12
      go_quiet (fail)
      cases x3 with
      | «at» p2 =>
       have d13 : decide (p2 < 0) = false := decide_eq_false (by have := c3p p2 rfl; omega)
       go_wp2_with (go_at_call 136; refine (T3.out _ (by exact zB1 B2.out _)).mono ?_; rintro e w13 hk13; obtain ⟨rfl, hb13⟩ := hk13)
       have B13 : Hid (Below w.heap.size w w13) := Kh ((zB1 B2.out _).trans (hb13.mono B2.out.size)); clear hb13; try clear z12 f12
       go_wp2_with fail
       go_ret
       exact ⟨rfl, by first | exact B13.out | exact zB1 B13.out _⟩
      | con wd v => exact absurd rfl (c3 wd v)
      | no =>
       cases x4 with
       | no =>
        go_wp2_with (first | (go_at_call 136; refine (T3.out _ (by exact zB1 B2.out _)).mono ?_; rintro e w13 hk13; obtain ⟨rfl, hb13⟩ := hk13; have B13 : Hid (Below w.heap.size w w13) := Kh ((zB1 B2.out _).trans (hb13.mono B2.out.size)); have N13 : Hid (Blk w13 w.heap.size 42 #[.int .i64 nk, .int .i64 (qa : Int), .int .i64 (qb : Int), .int .i64 nc, .int .i64 nn, .int .i64 nm, .int .i64 si, .int .i64 sw, .string nt]) := Kh ((N2.out.below (zB1 (Below.refl _ w2) _) N2.out.lt).below hb13 N2.out.lt); clear hb13 y0 y1 y2 y3 y4 y5 y6 y7 y8 z12 f12; obtain ⟨y0, y1, y2, y3, y4, y5, y6, y7, y8⟩ := N13.out.nine) | (go_at_call 137; refine (T4.out _ (by exact B13.out)).mono ?_; rintro e wz hk9; obtain ⟨rfl, hb⟩ := hk9.from (by exact B13.out) hB))
        go_ret
        exact ⟨rfl, hb⟩
       | «at» q =>
        go_wp2_with (first | (go_at_call 136; refine (T3.out _ (by exact zB1 B2.out _)).mono ?_; rintro e w13 hk13; obtain ⟨rfl, hb13⟩ := hk13; have B13 : Hid (Below w.heap.size w w13) := Kh ((zB1 B2.out _).trans (hb13.mono B2.out.size)); have N13 : Hid (Blk w13 w.heap.size 42 #[.int .i64 nk, .int .i64 (qa : Int), .int .i64 (qb : Int), .int .i64 nc, .int .i64 nn, .int .i64 nm, .int .i64 si, .int .i64 sw, .string nt]) := Kh ((N2.out.below (zB1 (Below.refl _ w2) _) N2.out.lt).below hb13 N2.out.lt); clear hb13 y0 y1 y2 y3 y4 y5 y6 y7 y8 z12 f12; obtain ⟨y0, y1, y2, y3, y4, y5, y6, y7, y8⟩ := N13.out.nine) | (go_at_call 137; refine (T4.out _ (by exact B13.out)).mono ?_; rintro e wz hk9; obtain ⟨rfl, hb⟩ := hk9.from (by exact B13.out) hB))
        go_ret
        exact ⟨rfl, hb⟩
       | con wd v => exact absurd rfl (c4 wd v)
    · have dk12 : ((noAt L (qb : Int)).k == 34) = false := by simpa using hqb
      obtain rfl : .no = x3 := by rw [E3.out hqb]
      go_quiet (fail)
      cases x4 with
      | no =>
       go_wp2_with (go_at_call 137; refine (T4.out _ (by exact zB1 B2.out _)).mono ?_; rintro e wz hk9; obtain ⟨rfl, hb⟩ := hk9.from (by exact zB1 B2.out _) hB)
       go_ret
       exact ⟨rfl, hb⟩
      | «at» q =>
       go_wp2_with (go_at_call 137; refine (T4.out _ (by exact zB1 B2.out _)).mono ?_; rintro e wz hk9; obtain ⟨rfl, hb⟩ := hk9.from (by exact zB1 B2.out _) hB)
       go_ret
       exact ⟨rfl, hb⟩
      | con wd v => exact absurd rfl (c4 wd v)
 case pos =>
  subst hab; rw [if_pos rfl]
  go_enter Tryz.func76, Tryz.ntmps76
  go_wp2_with (go_at_call 130; refine TA.out.mono ?_; rintro e w2 ⟨rfl, hb2⟩; have B2 := Kh (B1.out.trans (hb2.mono B1.out.size)); have N2 := Kh (N1.out.below hb2 N1.out.lt); obtain ⟨y0, y1, y2, y3, y4, y5, y6, y7, y8⟩ := N2.out.nine; clear hb2)
  go_quiet (fail)
  cases x1 with
  | «at» p1 =>
   have d3 : decide (p1 < 0) = false := decide_eq_false (by have := c1p p1 rfl; omega)
   go_wp2_with (first | (go_at_call 79; refine (zG8 _ _).mono ?_; rintro e wp ⟨rfl, rfl⟩; rw [HP.out]) | (go_at_call 135; refine (TS.out _ (by exact zB1 B2.out _)).mono ?_; rintro e w3 hk3; obtain ⟨rfl, hb3⟩ := hk3; have B3 : Hid (Below w.heap.size w w3) := Kh ((zB1 B2.out _).trans (hb3.mono B2.out.size)); clear hb3 y0 y1 y2 y3 y4 y5 y6 y7 y8))
   go_quiet (fail)
   go_wp2_with fail
   go_quiet (fail)
   go_wp2_with fail
   go_ret
   exact ⟨rfl, by first | exact B3.out | exact zB1 B3.out _⟩
  | con wd v =>
   have d3 : decide ((zKm L (zD0 wd v)).2 < 0) = false := decide_eq_false (by have := zKn L (zD0 wd v); omega)
   go_wp2_with (first | (go_at_call 79; refine (zG8 _ _).mono ?_; rintro e wp ⟨rfl, rfl⟩; rw [HP.out]) | (go_at_call 135; refine (TS.out _ (by exact zB1 B2.out _)).mono ?_; rintro e w3 hk3; obtain ⟨A', c', rfl, h1, h2, h3⟩ := zAe.from hk3 (by exact zB1 B2.out _) hB; have F4 := Kh h1; have B4 := Kh h2; have H4 := Kh h3; clear h1 h2 h3 hk3 y0 y1 y2 y3 y4 y5 y6 y7 y8))
   go_quiet (fail)
   go_wp2_with fail
   go_quiet (fail)
   go_wp2_with fail
   go_ret
   exact ⟨A', c', rfl, F4.out.below (by exact zB1 (Below.refl _ _) _), zB1 B4.out _, fun k a b d => H4.out k a b d⟩
  | no =>
   go_wp2_with (first | (go_at_call 79; refine (zG8 _ _).mono ?_; rintro e wp ⟨rfl, rfl⟩; rw [HP.out]) | (go_at_call 135; refine (TS.out _ (by exact zB1 B2.out _)).mono ?_; rintro e w3 hk3; obtain ⟨rfl, hb3⟩ := hk3; have B3 : Hid (Below w.heap.size w w3) := Kh ((zB1 B2.out _).trans (hb3.mono B2.out.size)); have N3 : Hid (Blk w3 w.heap.size 42 #[.int .i64 nk, .int .i64 (qa : Int), .int .i64 (qa : Int), .int .i64 nc, .int .i64 nn, .int .i64 nm, .int .i64 si, .int .i64 sw, .string nt]) := Kh ((N2.out.below (zB1 (Below.refl _ w2) _) N2.out.lt).below hb3 N2.out.lt); clear hb3 y0 y1 y2 y3 y4 y5 y6 y7 y8; obtain ⟨y0, y1, y2, y3, y4, y5, y6, y7, y8⟩ := N3.out.nine))
   obtain ⟨-, z3, -⟩ := HSA.out _ B3.out; obtain ⟨f3, -⟩ := HSA.out _ B3.out
   by_cases hqa : (noAt L (qa : Int)).k = 34
   · rw [hqa] at z3
     go_quiet (fail)
     cases x2 with
     | «at» p2 =>
      have d4 : decide (p2 < 0) = false := decide_eq_false (by have := c2p p2 rfl; omega)
      go_wp2_with (go_at_call 136; refine (T2.out _ (by exact zB1 B3.out _)).mono ?_; rintro e w4 hk4; obtain ⟨rfl, hb4⟩ := hk4)
      have B4 : Hid (Below w.heap.size w w4) := Kh ((zB1 B3.out _).trans (hb4.mono B3.out.size)); clear hb4; try clear z3 f3
      go_quiet (fail)
      go_wp2_with fail
      go_ret
      exact ⟨rfl, by first | exact B4.out | exact zB1 B4.out _⟩
     | con wd v => exact absurd rfl (c2 wd v)
     | no =>
      go_wp2_with (go_at_call 136; refine (T2.out _ (by exact zB1 B3.out _)).mono ?_; rintro e w4 hk4; obtain ⟨rfl, hb4⟩ := hk4; have B4 : Hid (Below w.heap.size w w4) := Kh ((zB1 B3.out _).trans (hb4.mono B3.out.size)); have N4 : Hid (Blk w4 w.heap.size 42 #[.int .i64 nk, .int .i64 (qa : Int), .int .i64 (qa : Int), .int .i64 nc, .int .i64 nn, .int .i64 nm, .int .i64 si, .int .i64 sw, .string nt]) := Kh ((N3.out.below (zB1 (Below.refl _ w3) _) N3.out.lt).below hb4 N3.out.lt); clear hb4 y0 y1 y2 y3 y4 y5 y6 y7 y8 z3 f3; obtain ⟨y0, y1, y2, y3, y4, y5, y6, y7, y8⟩ := N4.out.nine)
      obtain ⟨-, z4, -⟩ := HSB.out _ B4.out; obtain ⟨f4, -⟩ := HSB.out _ B4.out
      · rw [hqa] at z4
        go_quiet (fail)
        cases x3 with
        | «at» p2 =>
         have d5 : decide (p2 < 0) = false := decide_eq_false (by have := c3p p2 rfl; omega)
         go_wp2_with (go_at_call 136; refine (T3.out _ (by exact zB1 B4.out _)).mono ?_; rintro e w5 hk5; obtain ⟨rfl, hb5⟩ := hk5)
         have B5 : Hid (Below w.heap.size w w5) := Kh ((zB1 B4.out _).trans (hb5.mono B4.out.size)); clear hb5; try clear z4 f4
         go_wp2_with fail
         go_ret
         exact ⟨rfl, by first | exact B5.out | exact zB1 B5.out _⟩
        | con wd v => exact absurd rfl (c3 wd v)
        | no =>
         cases x4 with
         | no =>
          go_wp2_with (first | (go_at_call 136; refine (T3.out _ (by exact zB1 B4.out _)).mono ?_; rintro e w5 hk5; obtain ⟨rfl, hb5⟩ := hk5; have B5 : Hid (Below w.heap.size w w5) := Kh ((zB1 B4.out _).trans (hb5.mono B4.out.size)); have N5 : Hid (Blk w5 w.heap.size 42 #[.int .i64 nk, .int .i64 (qa : Int), .int .i64 (qa : Int), .int .i64 nc, .int .i64 nn, .int .i64 nm, .int .i64 si, .int .i64 sw, .string nt]) := Kh ((N4.out.below (zB1 (Below.refl _ w4) _) N4.out.lt).below hb5 N4.out.lt); clear hb5 y0 y1 y2 y3 y4 y5 y6 y7 y8 z4 f4; obtain ⟨y0, y1, y2, y3, y4, y5, y6, y7, y8⟩ := N5.out.nine) | (go_at_call 137; refine (T4.out _ (by exact B5.out)).mono ?_; rintro e wz hk9; obtain ⟨rfl, hb⟩ := hk9.from (by exact B5.out) hB))
          go_ret
          exact ⟨rfl, hb⟩
         | «at» q =>
          go_wp2_with (first | (go_at_call 136; refine (T3.out _ (by exact zB1 B4.out _)).mono ?_; rintro e w5 hk5; obtain ⟨rfl, hb5⟩ := hk5; have B5 : Hid (Below w.heap.size w w5) := Kh ((zB1 B4.out _).trans (hb5.mono B4.out.size)); have N5 : Hid (Blk w5 w.heap.size 42 #[.int .i64 nk, .int .i64 (qa : Int), .int .i64 (qa : Int), .int .i64 nc, .int .i64 nn, .int .i64 nm, .int .i64 si, .int .i64 sw, .string nt]) := Kh ((N4.out.below (zB1 (Below.refl _ w4) _) N4.out.lt).below hb5 N4.out.lt); clear hb5 y0 y1 y2 y3 y4 y5 y6 y7 y8 z4 f4; obtain ⟨y0, y1, y2, y3, y4, y5, y6, y7, y8⟩ := N5.out.nine) | (go_at_call 137; refine (T4.out _ (by exact B5.out)).mono ?_; rintro e wz hk9; obtain ⟨rfl, hb⟩ := hk9.from (by exact B5.out) hB))
          go_ret
          exact ⟨rfl, hb⟩
         | con wd v => exact absurd rfl (c4 wd v)
   · have dk3 : ((noAt L (qa : Int)).k == 34) = false := by simpa using hqa
     obtain rfl : .no = x2 := by rw [E2.out hqa]
     go_quiet (fail)
     go_wp2_with fail
     try clear z3 f3
     obtain ⟨-, z13, -⟩ := HSB.out _ B3.out; obtain ⟨f13, -⟩ := HSB.out _ B3.out
     · have dk13 : ((noAt L (qa : Int)).k == 34) = false := by simpa using hqa
       obtain rfl : .no = x3 := by rw [E3.out hqa]
       go_quiet (fail)
       cases x4 with
       | no =>
        go_wp2_with (go_at_call 137; refine (T4.out _ (by exact zB1 B3.out _)).mono ?_; rintro e wz hk9; obtain ⟨rfl, hb⟩ := hk9.from (by exact zB1 B3.out _) hB)
        go_ret
        exact ⟨rfl, hb⟩
       | «at» q =>
        go_wp2_with (go_at_call 137; refine (T4.out _ (by exact zB1 B3.out _)).mono ?_; rintro e wz hk9; obtain ⟨rfl, hb⟩ := hk9.from (by exact zB1 B3.out _) hB)
        go_ret
        exact ⟨rfl, hb⟩
       | con wd v => exact absurd rfl (c4 wd v)
theorem zLz (B gf : Nat) (A : Option Addr) (c : Nat) (L : List No) (qa qb : Nat) (nc nn nm : Int) (si sw : Int) (nt : ByteArray) (w : World) (h : SRIn w B gf A c L ⟨37, (qa : Int), (qb : Int), nc, nn, nm, ⟨si, sw⟩, nt⟩) (hall : zAr L ⟨37, (qa : Int), (qb : Int), nc, nn, nm, ⟨si, sw⟩, nt⟩ = false) :
 Calls Tryz.prog 76 #[.pointer (some ⟨gf, 0, none⟩), .agg #[.int .i64 37, .int .i64 (qa : Int), .int .i64 (qb : Int), .int .i64 nc, .int .i64 nn, .int .i64 nm, .int .i64 si, .int .i64 sw, .string nt]] w fun e w' => zAf w B gf A c L (zFu L ⟨37, (qa : Int), (qb : Int), nc, nn, nm, ⟨si, sw⟩, nt⟩) e w' := by
 have H := Kh h; have hB := h.base; have hl := h.few; clear h; have B1 := bx w #[.int .i64 37, .int .i64 (qa : Int), .int .i64 (qb : Int), .int .i64 nc, .int .i64 nn, .int .i64 nm, .int .i64 si, .int .i64 sw, .string nt] 42; have N1 := nx w #[.int .i64 37, .int .i64 (qa : Int), .int .i64 (qb : Int), .int .i64 nc, .int .i64 nn, .int .i64 nm, .int .i64 si, .int .i64 sw, .string nt] 42; have TA := Kh (H.out.fixed false hall _ B1.out); have HA := Kh hall; clear hall; have hp2 : zK1 37 = 2 := zJz (by omega)
 have HP := Kh hp2; have hqa' : qa < L.length := by have := (H.out.inn.a (by show (0 : Int) < zK1 37; omega)).1; simp only at this; omega
 have hqb' : qb < L.length := by have := (H.out.inn.b (by show (1 : Int) < zK1 37; omega)).1; simp only at this; omega
 have sa := (H.out.ok.sortOk (p := (qa : Int)) (by omega) (by omega)).2
 have sb := (H.out.ok.sortOk (p := (qb : Int)) (by omega) (by omega)).2
 obtain ⟨g, rfl, hs1⟩ := H.out.fold.see hqa'; obtain ⟨g2, hg2, hs2⟩ := H.out.fold.see hqb'
 cases hg2
 have HSA := Kh hs1; have HSB := Kh hs2; have qa0 : (0 : Int) ≤ (qa : Int) := by omega
 have qa1 : (qa : Int) < (L.length : Int) := by omega
 have qb0 : (0 : Int) ≤ (qb : Int) := by omega
 have qb1 : (qb : Int) < (L.length : Int) := by omega
 have hne := H.out.inn.sort37 rfl; have T3 := Kh (fun (W : World) (hW : Below w.heap.size w W) => zLj B gf (some ⟨g, 0, none⟩) c L ⟨37, (qa : Int), (qb : Int), nc, nn, nm, ⟨si, sw⟩, nt⟩ qb (qa : Int) W (H.out.fold.below hW) (by omega) hqb' sb)
 have T4 := Kh (fun (W : World) (hW : Below w.heap.size w W) => zMa B gf (some ⟨g, 0, none⟩) c L ⟨37, (qa : Int), (qb : Int), nc, nn, nm, ⟨si, sw⟩, nt⟩ W (H.out.fold.below hW) hl H.out.inn hp2)
 have k3 : zB7 L 37 (qb : Int) (qa : Int) = .no := zB9 (by omega)
 have k4 : zKw L ⟨37, (qa : Int), (qb : Int), nc, nn, nm, ⟨si, sw⟩, nt⟩ = .no := by unfold zKw; dsimp only; rw [if_neg (by omega)]
 dsimp only at T3 hne; rw [k3] at T3; rw [k4] at T4; clear k3 k4
 have ek : zFu L ⟨37, (qa : Int), (qb : Int), nc, nn, nm, ⟨si, sw⟩, nt⟩ = if (noAt L (qa : Int)).k = 38 ∧ (noAt L (qa : Int)).b = (qb : Int) then .at (noAt L (qa : Int)).c else .no := by
  unfold zFu; rw [if_neg (by rw [HA.out]; decide)]; rfl
 rw [ek]
 have hab : qa ≠ qb := by
  rintro rfl; have h1 := hne.1; have h2 := congrArg So.i hne.2.1; simp only [wS] at h2; omega
 have hca : ¬ (noAt L (qa : Int)).k = 34 := fun e => by
  have h1 := (zD1 H.out.ok qa0 qa1 e).1; have h2 := hne.1; omega
 have dab : ((qa : Int) == (qb : Int)) = false := by simp only [beq_eq_false_iff_ne]; omega
 have dka : ((noAt L (qa : Int)).k == 34) = false := by simpa using hca
 have dkb : ∀ x : Int, x = 34 ∨ (x == 34) = false := fun x => by by_cases h : x = 34 <;> simp [h]
 clear hne sa sb hqa' hqb' hp2 hs1 hs2 ek hab hca
 by_cases hk : (noAt L (qa : Int)).k = 38 ∧ (noAt L (qa : Int)).b = (qb : Int)
 case pos =>
  obtain ⟨hk1, hk2⟩ := hk; rw [if_pos ⟨hk1, hk2⟩]
  go_enter Tryz.func76, Tryz.ntmps76
  go_wp2_with (go_at_call 130; refine TA.out.mono ?_; rintro e w2 ⟨rfl, hb2⟩; have B2 := Kh (B1.out.trans (hb2.mono B1.out.size)); have N2 := Kh (N1.out.below hb2 N1.out.lt); obtain ⟨y0, y1, y2, y3, y4, y5, y6, y7, y8⟩ := N2.out.nine; clear hb2)
  obtain ⟨b0, z0, -, z2, z3, -⟩ := HSA.out _ B2.out; rw [hk1] at z0; rw [hk2] at z2; clear hk1 hk2 dka; go_quiet (fail)
  go_wp2_with fail
  go_quiet (fail)
  go_wp2_with fail
  go_ret
  exact ⟨rfl, by first | exact B2.out | exact zB1 B2.out _ | exact zB1 (zB1 B2.out _) _⟩
 rw [if_neg hk]
 have hk' : ((noAt L (qa : Int)).k = 38 ∧ ((noAt L (qa : Int)).b == (qb : Int)) = false) ∨ ((noAt L (qa : Int)).k == 38) = false := by
  by_cases h1 : (noAt L (qa : Int)).k = 38
  · exact .inl ⟨h1, by simp only [beq_eq_false_iff_ne]; exact fun h2 => hk ⟨h1, h2⟩⟩
  · exact .inr (by simpa using h1)
 clear hk
 go_enter Tryz.func76, Tryz.ntmps76
 go_wp2_with (go_at_call 130; refine TA.out.mono ?_; rintro e w2 ⟨rfl, hb2⟩; have B2 := Kh (B1.out.trans (hb2.mono B1.out.size)); have N2 := Kh (N1.out.below hb2 N1.out.lt); obtain ⟨y0, y1, y2, y3, y4, y5, y6, y7, y8⟩ := N2.out.nine; clear hb2)
 obtain ⟨b0, z0, -, z2, -⟩ := HSA.out _ B2.out; obtain ⟨-, u0, -⟩ := HSB.out _ B2.out; have hkb := dkb (noAt L (qb : Int)).k; clear dkb
 rcases hk' with ⟨hk1, hk2⟩ | hk1
 · rw [hk1] at z0 dka
   go_quiet (fail)
   go_wp2_with (go_at_call 79; refine (zG8 _ _).mono ?_; rintro e wp ⟨rfl, rfl⟩; rw [HP.out])
   go_quiet (fail)
   go_wp2_with fail
   rcases hkb with hkb | hkb
   · rw [hkb] at u0
     go_quiet (fail)
     go_wp2_with (go_at_call 136; refine (T3.out _ (by exact zB1 B2.out _)).mono ?_; rintro e w3 ⟨rfl, hb3⟩; have B3 : Hid (Below w.heap.size w w3) := Kh ((zB1 B2.out _).trans (hb3.mono B2.out.size)); have N3 := Kh ((N2.out.below (zB1 (Below.refl _ w2) _) N2.out.lt).below hb3 N2.out.lt); obtain ⟨p0, p1, p2, p3, p4, p5, p6, p7, p8⟩ := N3.out.nine; clear hb3)
     go_wp2_with (go_at_call 137; refine (T4.out _ (by exact B3.out)).mono ?_; rintro e wz hk9; have hk9 := hk9.from (by exact B3.out) hB; obtain ⟨rfl, hb⟩ := hk9)
     go_ret
     exact ⟨rfl, hb⟩
   · go_quiet (fail)
     go_wp2_with (go_at_call 137; refine (T4.out _ (by exact zB1 B2.out _)).mono ?_; rintro e wz hk9; have hk9 := hk9.from (by exact zB1 B2.out _) hB; obtain ⟨rfl, hb⟩ := hk9)
     go_ret
     exact ⟨rfl, hb⟩
 · go_quiet (fail)
   go_wp2_with (go_at_call 79; refine (zG8 _ _).mono ?_; rintro e wp ⟨rfl, rfl⟩; rw [HP.out])
   go_quiet (fail)
   go_wp2_with fail
   rcases hkb with hkb | hkb
   · rw [hkb] at u0
     go_quiet (fail)
     go_wp2_with (go_at_call 136; refine (T3.out _ (by exact zB1 B2.out _)).mono ?_; rintro e w3 ⟨rfl, hb3⟩; have B3 : Hid (Below w.heap.size w w3) := Kh ((zB1 B2.out _).trans (hb3.mono B2.out.size)); have N3 := Kh ((N2.out.below (zB1 (Below.refl _ w2) _) N2.out.lt).below hb3 N2.out.lt); obtain ⟨p0, p1, p2, p3, p4, p5, p6, p7, p8⟩ := N3.out.nine; clear hb3)
     go_wp2_with (go_at_call 137; refine (T4.out _ (by exact B3.out)).mono ?_; rintro e wz hk9; have hk9 := hk9.from (by exact B3.out) hB; obtain ⟨rfl, hb⟩ := hk9)
     go_ret
     exact ⟨rfl, hb⟩
   · go_quiet (fail)
     go_wp2_with (go_at_call 137; refine (T4.out _ (by exact zB1 B2.out _)).mono ?_; rintro e wz hk9; have hk9 := hk9.from (by exact zB1 B2.out _) hB; obtain ⟨rfl, hb⟩ := hk9)
     go_ret
     exact ⟨rfl, hb⟩
theorem zLt (B gf : Nat) (A : Option Addr) (c : Nat) (L : List No) (n : No) (w : World) (h : SRIn w B gf A c L n) :
 Calls Tryz.prog 76 #[.pointer (some ⟨gf, 0, none⟩), .agg #[.int .i64 n.k, .int .i64 n.a, .int .i64 n.b, .int .i64 n.c, .int .i64 n.n, .int .i64 n.m, .int .i64 n.s.i, .int .i64 n.s.w, .string n.t]] w fun e w' => zAf w B gf A c L (zFu L n) e w' := by
 by_cases hall : zAr L n = true
 · have e : zFu L n = .con n.s.w (zD7 L n) := by unfold zFu; rw [if_pos hall]
   rw [e]; obtain ⟨nk, na, nb, nc, nn, nm, ⟨si, sw⟩, nt⟩ := n
   exact zLu B gf A c L nk na nb nc nn nm si sw nt w h hall
 have hall : zAr L n = false := by simpa using hall
 have hk := h.inn.kind
 by_cases h33 : n.k = 33
 · obtain ⟨nk, na, nb, nc, nn, nm, ⟨si, sw⟩, nt⟩ := n
   dsimp only at h33; subst h33
   exact zLv B gf A c L na nb nc nn nm si sw nt w h hall
 by_cases h37 : n.k = 37
 · have hp := zJz (k := n.k) (by omega)
   obtain ⟨qa, hqa⟩ : ∃ q : Nat, n.a = (q : Int) := ⟨n.a.toNat, by have := (h.inn.a (by omega)).1; omega⟩
   obtain ⟨qb, hqb⟩ : ∃ q : Nat, n.b = (q : Int) := ⟨n.b.toNat, by have := (h.inn.b (by omega)).1; omega⟩
   obtain ⟨nk, na, nb, nc, nn, nm, ⟨si, sw⟩, nt⟩ := n; dsimp only at h37 hqa hqb; subst h37 hqa hqb
   exact zLz B gf A c L qa qb nc nn nm si sw nt w h hall
 have e0 : zFu L n = if zK1 n.k = 1 then zIv L n else if 6 ≤ n.k ∧ n.k ≤ 29 then zJr L n else .no := by
  unfold zFu; rw [if_neg (by rw [hall]; decide), if_neg h33, if_neg h37]
 rw [e0]
 by_cases h1 : zK1 n.k = 1
 · rw [if_pos h1]
   obtain ⟨nk, na, nb, nc, nn, nm, ⟨si, sw⟩, nt⟩ := n
   exact zLx B gf A c L nk na nb nc nn nm si sw nt w h hall h1
 rw [if_neg h1]
 by_cases h2 : 6 ≤ n.k ∧ n.k ≤ 29
 · rw [if_pos h2]
   have hp := zJz (k := n.k) (by omega)
   obtain ⟨qa, hqa⟩ : ∃ q : Nat, n.a = (q : Int) := ⟨n.a.toNat, by have := (h.inn.a (by omega)).1; omega⟩
   obtain ⟨qb, hqb⟩ : ∃ q : Nat, n.b = (q : Int) := ⟨n.b.toNat, by have := (h.inn.b (by omega)).1; omega⟩
   obtain ⟨nk, na, nb, nc, nn, nm, ⟨si, sw⟩, nt⟩ := n; dsimp only at h2 hqa hqb; subst hqa hqb
   exact zLy B gf A c L nk qa qb nc nn nm si sw nt w h hall h2
 rw [if_neg h2]; have h3 : ¬ ((1 ≤ n.k ∧ n.k ≤ 5) ∨ (30 ≤ n.k ∧ n.k ≤ 32)) := fun e => h1 (zJy e)
 obtain ⟨nk, na, nb, nc, nn, nm, ⟨si, sw⟩, nt⟩ := n; dsimp only at hk h33 h37 h2 h3
 exact zLw B gf A c L nk na nb nc nn nm si sw nt w h hall (by omega)
structure RwAt (w : World) (l : List Int) (A1 : Option Addr) (c1 : Nat) (W : World) : Prop where
 bel : Below w.heap.size w W
 row : W.ownsRow w.heap.size 3 1 (.slice A1 l.length c1) l.length (l.map (.int .i64))
theorem RwAt.below {w W W' : World} {l : List Int} {A1 : Option Addr} {c1 : Nat} (h : RwAt w l A1 c1 W) (hb : Below W.heap.size W W') : RwAt w l A1 c1 W' := ⟨h.bel.trans (hb.mono h.bel.size), zJ9 h.row hb⟩
theorem RwAt.app {w W W' : World} {l : List Int} {A1 A2 : Option Addr} {c1 c2 : Nat} {x : Int} (h : RwAt w l A1 c1 W) (ho : W'.ownsRow w.heap.size 3 1 (.slice A2 (l.length + 1) c2) (l.length + 1) (l.map (.int .i64) ++ [.int .i64 x])) (hg : W.grownBy W' (Value.slice A1 l.length c1).ownBlock) : RwAt w (l ++ [x]) A2 c2 W' :=
 ⟨h.bel.grown hg h.bel.size (fun k e => (h.row.lt k e).1), by rw [show (l ++ [x]).length = l.length + 1 by simp, List.map_append]; exact ho⟩
theorem zM3 (A AT : Option Addr) (c cT : Nat) (l T : List Int) (w : World) (hA : IAt w A l) (hT : IAt w AT T) (hl : l.length ≤ 1048576) (hT6 : T.length ≤ 1048576) (hin : IIn l T.length) :
 Calls Tryz.prog 31 #[.slice A l.length c, .slice AT T.length cT] w fun e w' => ∃ A' c', e = .returned (.slice A' (l.map (toP T)).length c') ∧ w'.ownsRow w.heap.size 3 1 (.slice A' (l.map (toP T)).length c') (l.map (toP T)).length ((l.map (toP T)).map (.int .i64)) ∧ Below w.heap.size w w' := by
 have HA := Kh hA; have HT := Kh hT; have HIN := Kh hin; clear hA hT hin; obtain ⟨i3, hi, hz0, hz1, hz2⟩ := info_parts zF2; have R0 : Hid (RwAt w ([] : List Int) none 0 w) := Kh ⟨Below.refl _ _, World.ownsRow_nil _ _ _ _⟩
 go_enter Tryz.func31, Tryz.ntmps31
 go_wp2_with fail
 go_loopw [5, 6] (fun t i wr => ∃ (r : Nat) (x : List Int) (A1 : Option Addr) (c1 : Nat), r ≤ l.length ∧ Hid (x = (l.take r).map (toP T)) ∧ x.length = r ∧ Hid (RwAt w x A1 c1 wr) ∧ t = .slice A1 x.length c1 ∧ i = .int .i64 (r : Int)) (fun _ i _ => l.length - (intOf i).toNat)
 case atStart => exact ⟨0, [], none, 0, Nat.zero_le _, Kh (by simp), rfl, R0, rfl, rfl⟩
 case round =>
  obtain ⟨wz, rfl⟩ : ∃ x : World, x = wr := ⟨_, rfl⟩
  clear R0; obtain ⟨r, x, A1, c1, hr, HX, hxl, R1, rfl, rfl⟩ := hrel
  by_cases hlt : r < l.length
  case neg =>
   have e : x = l.map (toP T) := by rw [HX.out, show r = l.length by omega, List.take_length]
   have E := Kh e; clear e
   go_wp2_with fail
   go_ret; rw [← E.out]
   exact ⟨A1, c1, rfl, R1.out.row, R1.out.bel⟩
  have hj0 : (0 : Int) ≤ (r : Int) := by omega
  have hj1 : (r : Int) < (l.length : Int) := by omega
  have e1 := wr1 (r := r) (by omega)
  obtain ⟨q, hq, hql⟩ : ∃ q : Nat, l[r] = (q : Int) ∧ q < T.length := by have := HIN.out _ (List.getElem_mem hlt); exact ⟨l[r].toNat, by omega, by omega⟩
  obtain ⟨ga, rfl, hga, hca⟩ := (HA.out.below R1.out.bel) (by omega)
  have z0 := hca r hlt; rw [hq] at z0; obtain ⟨gt, rfl, hgt, hct⟩ := (HT.out.below R1.out.bel) (by omega)
  have t0 := hct q hql; clear hca hct; have hq0 : (0 : Int) ≤ (q : Int) := by omega
  have hq1 : (q : Int) < (T.length : Int) := by omega
  have HX2 : Hid (x ++ [T[q]] = (l.take (r + 1)).map (toP T)) := Kh (by rw [HX.out, List.take_succ_eq_append_getElem hlt, List.map_append, List.map_singleton, hq, zPf hql])
  generalize T[q] = y at *; have R2 := Kh (R1.out.below ((Below.refl _ wz).alloc (Nat.le_refl _) (.cells #[.int .i64 y] 3))); clear hq
  go_wp2_with (at_builtin; refine zR2 rfl _ _ 24 rfl w.heap.size 3 i3 (.int .i64 0) 1 8 Tryz.underlying24 hi hz0 hz1 hz2 rfl (by decide) _ x.length (x.map (.int .i64)) rfl (by exact R2.out.row) (some ⟨wz.heap.size, 0, none⟩) 1 1 [.int .i64 y] rfl (by exact .inr ⟨_, rfl, Blk.news (Blk.new_at _ 3 #[.int .i64 y] rfl)⟩) rfl (by simp [Value.oneCell']) (by unfold maxLen; omega) (by omega) (by exact R2.out.bel.size) ?_; intro A5 c5 w5 ho5 hg5 hor5; have R6 := Kh (R2.out.app ho5 ⟨hg5.os, hg5.tape, hg5.output, hg5.size, hg5.block⟩); clear ho5 hg5 hor5)
  go_roundw
  case rel => exact ⟨r + 1, x ++ [y], A5, c5, by omega, HX2, by simp; omega, R6, by simp [hxl], by go_num⟩
  case measure => simp [intOf]; omega
structure RbAt (w : World) (l : List Bi) (A1 : Option Addr) (c1 : Nat) (W : World) : Prop where
 bel : Below w.heap.size w W
 row : W.ownsRow w.heap.size 55 2 (.slice A1 l.length c1) l.length (zC0 l)
theorem RbAt.below {w W W' : World} {l : List Bi} {A1 : Option Addr} {c1 : Nat} (h : RbAt w l A1 c1 W) (hb : Below W.heap.size W W') : RbAt w l A1 c1 W' := ⟨h.bel.trans (hb.mono h.bel.size), zJ9 h.row hb⟩
theorem RbAt.app {w W W' : World} {l : List Bi} {A1 A2 : Option Addr} {c1 c2 : Nat} {b : Bi} (h : RbAt w l A1 c1 W) (ho : W'.ownsRow w.heap.size 55 2 (.slice A2 (l.length + 1) c2) (l.length + 1) (zC0 l ++ (cB b).toList)) (hg : W.grownBy W' (Value.slice A1 l.length c1).ownBlock) : RbAt w (l ++ [b]) A2 c2 W' :=
 ⟨h.bel.grown hg h.bel.size (fun k e => (h.row.lt k e).1), by rw [show (l ++ [b]).length = l.length + 1 by simp, show zC0 (l ++ [b]) = zC0 l ++ (cB b).toList by simp [zC0]]; exact ho⟩
def zLk (T : List Int) (l : List Bi) : List Bi := (l.filter fun b => decide (0 ≤ toP T b.st)).map (mvB T)
theorem zLn {T : List Int} {l : List Bi} {r : Nat} (h : r < l.length) : zLk T (l.take (r + 1)) = zLk T (l.take r) ++ (if 0 ≤ toP T l[r].st then [mvB T l[r]] else []) := by
 unfold zLk; rw [List.take_succ_eq_append_getElem h, List.filter_append, List.map_append]
 by_cases e : 0 ≤ toP T l[r].st <;> simp [e]
theorem zLm (A AT : Option Addr) (c cT : Nat) (l : List Bi) (T : List Int) (w : World) (hA : zA1 w A l) (hT : IAt w AT T) (hl : l.length ≤ 1048576) (hT6 : T.length ≤ 1048576) (hin : BiIn l T.length) :
 Calls Tryz.prog 30 #[.slice A l.length c, .slice AT T.length cT] w fun e w' => ∃ A' c', e = .returned (.slice A' (zLk T l).length c') ∧ w'.ownsRow w.heap.size 55 2 (.slice A' (zLk T l).length c') (zLk T l).length (zC0 (zLk T l)) ∧ Below w.heap.size w w' := by
 have HA := Kh hA; have HT := Kh hT; have HIN := Kh hin; clear hA hT hin; obtain ⟨ib, hi, hz0, hz1, hz2⟩ := info_parts zF3; have R0 : Hid (RbAt w ([] : List Bi) none 0 w) := Kh ⟨Below.refl _ _, World.ownsRow_nil _ _ _ _⟩
 go_enter Tryz.func30, Tryz.ntmps30
 go_wp2_with fail
 go_loopw [5, 6] (fun t i wr => ∃ (r : Nat) (x : List Bi) (A1 : Option Addr) (c1 : Nat), r ≤ l.length ∧ Hid (x = zLk T (l.take r)) ∧ x.length ≤ r ∧ Hid (RbAt w x A1 c1 wr) ∧ t = .slice A1 x.length c1 ∧ i = .int .i64 (r : Int)) (fun _ i _ => l.length - (intOf i).toNat)
 case atStart => exact ⟨0, [], none, 0, Nat.zero_le _, Kh (by simp [zLk]), Nat.le_refl _, R0, rfl, rfl⟩
 case round =>
  obtain ⟨wz, rfl⟩ : ∃ x : World, x = wr := ⟨_, rfl⟩
  clear R0; obtain ⟨r, x, A1, c1, hr, HX, hxl, R1, rfl, rfl⟩ := hrel
  by_cases hlt : r < l.length
  case neg =>
   have e : x = zLk T l := by rw [HX.out, show r = l.length by omega, List.take_length]
   have E := Kh e; clear e
   go_wp2_with fail
   go_ret; rw [← E.out]
   exact ⟨A1, c1, rfl, R1.out.row, R1.out.bel⟩
  have hj0 : (0 : Int) ≤ (r : Int) := by omega
  have hj1 : (r : Int) < (l.length : Int) := by omega
  have e1 := wr1 (r := r) (by omega)
  have hm := HIN.out _ (List.getElem_mem hlt); obtain ⟨q, hq, hql⟩ : ∃ q : Nat, l[r].st = (q : Int) ∧ q < T.length := ⟨l[r].st.toNat, by omega, by omega⟩
  obtain ⟨s, hs, hsl⟩ : ∃ s : Nat, l[r].nd = (s : Int) ∧ s < T.length := ⟨l[r].nd.toNat, by omega, by omega⟩
  clear hm; obtain ⟨ga, rfl, hga, hca⟩ := (HA.out.below R1.out.bel) (by omega)
  obtain ⟨z0, z1⟩ := hca r hlt; rw [hq] at z0; rw [hs] at z1; obtain ⟨gt, rfl, hgt, hct⟩ := (HT.out.below R1.out.bel) (by omega)
  have t0 := hct q hql; have t1 := hct s hsl; clear hca hct; have hq0 : (0 : Int) ≤ (q : Int) := by omega
  have hq1 : (q : Int) < (T.length : Int) := by omega
  have hs0 : (0 : Int) ≤ (s : Int) := by omega
  have hs1 : (s : Int) < (T.length : Int) := by omega
  have HX2 : Hid (zLk T (l.take (r + 1)) = x ++ if 0 ≤ T[q] then [⟨T[q], T[s]⟩] else []) := Kh (by rw [HX.out, zLn hlt]; unfold mvB; rw [hq, hs, zPf hql, zPf hsl])
  generalize T[q] = y at *; generalize T[s] = u at *; clear hq hs
  by_cases hy : 0 ≤ y
  case neg =>
   have HX3 : Hid (x = zLk T (l.take (r + 1))) := Kh (by rw [HX2.out, if_neg hy, List.append_nil])
   have dy : decide (0 ≤ y) = false := decide_eq_false hy; clear hy
   go_wp2_with fail
   go_roundw
   case rel => exact ⟨r + 1, x, A1, c1, by omega, HX3, by omega, R1, rfl, by go_num⟩
   case measure => simp [intOf]; omega
  have HX3 : Hid (x ++ [⟨y, u⟩] = zLk T (l.take (r + 1))) := Kh (by rw [HX2.out, if_pos hy])
  have R2 := Kh (R1.out.below ((Below.refl _ wz).drew.alloc (Nat.le_refl _) (.cells #[.int .i64 y, .int .i64 u] 55))); have hws : w.heap.size ≤ (wz.drew.alloc (.cells #[.int .i64 y, .int .i64 u] 55)).heap.size := R2.out.bel.size; have HWS := Kh hws; clear hws
  go_wp2_with fail
  go_region_law (refine zOl rfl (.tmp 22) (.tmp 40) 29 rfl w.heap.size 55 ib _ 2 16 Tryz.underlying29 hi hz0 hz1 hz2 rfl (by decide) _ x.length (zC0 x) rfl (by exact R2.out.row) (some ⟨wz.heap.size, 0, none⟩) 1 1 (cB ⟨y, u⟩).toList rfl (by exact .inr ⟨_, rfl, Blk.news (Blk.new_at _ 55 #[.int .i64 y, .int .i64 u] (by simp))⟩) rfl (by simp [cB, Value.oneCell']) (by unfold maxLen; omega) (by omega) (by exact HWS.out) ?_; intro A3 c3 w3 ho3 hg3 hor3; have R3 := Kh (R2.out.app ho3 ⟨hg3.os, hg3.tape, hg3.output, hg3.size, hg3.block⟩); clear hor3 ho3 hg3)
  all_goals
   go_wp2_with fail
   go_roundw
   case rel => exact ⟨r + 1, x ++ [⟨y, u⟩], A3, c3, by omega, HX3, by simp; omega, R3, by simp, by go_num⟩
   case measure => simp [intOf]; omega
theorem zM8 (A : Option Addr) (cap : Nat) (T : List Int) (n : No) (w : World) (hA : IAt w A T) (hT : T.length ≤ 1048576) (hk : 0 ≤ zK1 n.k) (hp : zAd n T.length) :
 Calls Tryz.prog 29 #[.agg #[.int .i64 n.k, .int .i64 n.a, .int .i64 n.b, .int .i64 n.c, .int .i64 n.n, .int .i64 n.m, .int .i64 n.s.i, .int .i64 n.s.w, .string n.t], .slice A T.length cap] w fun e w' => e = .returned (.agg (cN (zJv T n))) ∧ Below w.heap.size w w' := by
 have HA := Kh hA; have HP := Kh hp; clear hA hp; obtain ⟨M, hM⟩ : ∃ M : Nat, zK1 n.k = (M : Int) := ⟨(zK1 n.k).toNat, by omega⟩
 have hM3 : M ≤ 3 := by have := (zK2 n.k).2; omega
 have HM := Kh hM; clear hk; have B1 : Hid (Below w.heap.size w ((w.alloc (.cells #[.int .i64 n.k, .int .i64 n.a, .int .i64 n.b, .int .i64 n.c, .int .i64 n.n, .int .i64 n.m, .int .i64 n.s.i, .int .i64 n.s.w, .string n.t] 42)).alloc (.cells #[.int .i64 0, .int .i64 0, .int .i64 0, .int .i64 0, .int .i64 0, .int .i64 0, .int .i64 0, .int .i64 0, .string ByteArray.empty] 42))) := ((Below.refl _ _).alloc (Nat.le_refl _) _).alloc (by simp) _
 have N1 : Hid (Blk ((w.alloc (.cells #[.int .i64 n.k, .int .i64 n.a, .int .i64 n.b, .int .i64 n.c, .int .i64 n.n, .int .i64 n.m, .int .i64 n.s.i, .int .i64 n.s.w, .string n.t] 42)).alloc (.cells #[.int .i64 0, .int .i64 0, .int .i64 0, .int .i64 0, .int .i64 0, .int .i64 0, .int .i64 0, .int .i64 0, .string ByteArray.empty] 42)) w.heap.size 42 #[.int .i64 n.k, .int .i64 n.a, .int .i64 n.b, .int .i64 n.c, .int .i64 n.n, .int .i64 n.m, .int .i64 n.s.i, .int .i64 n.s.w, .string n.t]) := (Blk.new _ _ _).alloc _; have Z1 : Hid (Blk ((w.alloc (.cells #[.int .i64 n.k, .int .i64 n.a, .int .i64 n.b, .int .i64 n.c, .int .i64 n.n, .int .i64 n.m, .int .i64 n.s.i, .int .i64 n.s.w, .string n.t] 42)).alloc (.cells #[.int .i64 0, .int .i64 0, .int .i64 0, .int .i64 0, .int .i64 0, .int .i64 0, .int .i64 0, .int .i64 0, .string ByteArray.empty] 42)) (w.heap.size + 1) 42 #[.int .i64 0, .int .i64 0, .int .i64 0, .int .i64 0, .int .i64 0, .int .i64 0, .int .i64 0, .int .i64 0, .string ByteArray.empty]) := Blk.new_at _ _ _ (by simp)
 have Q : ∀ x : Int, 0 ≤ x → x < (T.length : Int) → ∃ q : Nat, x = (q : Int) ∧ q < T.length := fun x h0 h1 => ⟨x.toNat, by omega, by omega⟩
 obtain ⟨nk, na, nb, nc, nn, nm, ⟨si, sw⟩, nt⟩ := n; dsimp only at *; have hM4 : M = 0 ∨ M = 1 ∨ M = 2 ∨ M = 3 := by omega
 rcases hM4 with rfl | rfl | rfl | rfl
 · clear hM3
   have eP : zJv T ⟨nk, na, nb, nc, nn, nm, ⟨si, sw⟩, nt⟩ = ⟨nk, na, nb, nc, nn, nm, ⟨si, sw⟩, nt⟩ := by unfold zJv; simp [hM]
   rw [eP]; clear eP hM
   go_enter Tryz.func29, Tryz.ntmps29
   go_wp2_with (go_at_call 79; refine (zG8 _ _).mono ?_; rintro e w1 ⟨rfl, rfl⟩; rw [HM.out])
   exact bodyPost_ret (v := .agg #[.int .i64 nk, .int .i64 na, .int .i64 nb, .int .i64 nc, .int .i64 nn, .int .i64 nm, .int .i64 si, .int .i64 sw, .string nt]) (by simp [results, Tryz.results29, go_sem]) rfl ⟨rfl, ((Below.refl _ _).alloc (Nat.le_refl _) _).alloc (by simp) _⟩
 · clear hM3
   obtain ⟨q0, hq0, hl0⟩ := Q na (HP.out.1 (by dsimp only; omega)).1 (HP.out.1 (by dsimp only; omega)).2
   subst hq0; have eP : zJv T ⟨nk, (q0 : Int), nb, nc, nn, nm, ⟨si, sw⟩, nt⟩ = ⟨nk, T[q0], nb, nc, nn, nm, ⟨si, sw⟩, nt⟩ := by unfold zJv; simp [hM, zPf hl0]
   rw [eP]; clear eP hM; obtain ⟨g, rfl, hg, hc⟩ := HA.out (by omega)
   have t0 := hc q0 hl0; have u0 : (0 : Int) ≤ (q0 : Int) := by omega
   have v0 : (q0 : Int) < (T.length : Int) := by omega
   clear hc; generalize T[q0] = x0 at *
   go_enter Tryz.func29, Tryz.ntmps29
   go_wp2_with (go_at_call 79; refine (zG8 _ _).mono ?_; rintro e w1 ⟨rfl, rfl⟩; rw [HM.out])
   exact bodyPost_ret (v := .agg #[.int .i64 nk, .int .i64 x0, .int .i64 nb, .int .i64 nc, .int .i64 nn, .int .i64 nm, .int .i64 si, .int .i64 sw, .string nt]) (by simp [results, Tryz.results29, go_sem]) rfl ⟨rfl, ((Below.refl _ _).alloc (Nat.le_refl _) _).alloc (by simp) _⟩
 · clear hM3
   obtain ⟨q0, hq0, hl0⟩ := Q na (HP.out.1 (by dsimp only; omega)).1 (HP.out.1 (by dsimp only; omega)).2
   subst hq0; obtain ⟨q1, hq1, hl1⟩ := Q nb (HP.out.2.1 (by dsimp only; omega)).1 (HP.out.2.1 (by dsimp only; omega)).2
   subst hq1; have eP : zJv T ⟨nk, (q0 : Int), (q1 : Int), nc, nn, nm, ⟨si, sw⟩, nt⟩ = ⟨nk, T[q0], T[q1], nc, nn, nm, ⟨si, sw⟩, nt⟩ := by unfold zJv; simp [hM, zPf hl0, zPf hl1]
   rw [eP]; clear eP hM; obtain ⟨g, rfl, hg, hc⟩ := HA.out (by omega)
   have t0 := hc q0 hl0; have u0 : (0 : Int) ≤ (q0 : Int) := by omega
   have v0 : (q0 : Int) < (T.length : Int) := by omega
   have t1 := hc q1 hl1; have u1 : (0 : Int) ≤ (q1 : Int) := by omega
   have v1 : (q1 : Int) < (T.length : Int) := by omega
   clear hc; generalize T[q0] = x0 at *; generalize T[q1] = x1 at *
   go_enter Tryz.func29, Tryz.ntmps29
   go_wp2_with (go_at_call 79; refine (zG8 _ _).mono ?_; rintro e w1 ⟨rfl, rfl⟩; rw [HM.out])
   exact bodyPost_ret (v := .agg #[.int .i64 nk, .int .i64 x0, .int .i64 x1, .int .i64 nc, .int .i64 nn, .int .i64 nm, .int .i64 si, .int .i64 sw, .string nt]) (by simp [results, Tryz.results29, go_sem]) rfl ⟨rfl, ((Below.refl _ _).alloc (Nat.le_refl _) _).alloc (by simp) _⟩
 · clear hM3
   obtain ⟨q0, hq0, hl0⟩ := Q na (HP.out.1 (by dsimp only; omega)).1 (HP.out.1 (by dsimp only; omega)).2
   subst hq0; obtain ⟨q1, hq1, hl1⟩ := Q nb (HP.out.2.1 (by dsimp only; omega)).1 (HP.out.2.1 (by dsimp only; omega)).2
   subst hq1; obtain ⟨q2, hq2, hl2⟩ := Q nc (HP.out.2.2 (by dsimp only; omega)).1 (HP.out.2.2 (by dsimp only; omega)).2
   subst hq2; have eP : zJv T ⟨nk, (q0 : Int), (q1 : Int), (q2 : Int), nn, nm, ⟨si, sw⟩, nt⟩ = ⟨nk, T[q0], T[q1], T[q2], nn, nm, ⟨si, sw⟩, nt⟩ := by unfold zJv; simp [hM, zPf hl0, zPf hl1, zPf hl2]
   rw [eP]; clear eP hM; obtain ⟨g, rfl, hg, hc⟩ := HA.out (by omega)
   have t0 := hc q0 hl0; have u0 : (0 : Int) ≤ (q0 : Int) := by omega
   have v0 : (q0 : Int) < (T.length : Int) := by omega
   have t1 := hc q1 hl1; have u1 : (0 : Int) ≤ (q1 : Int) := by omega
   have v1 : (q1 : Int) < (T.length : Int) := by omega
   have t2 := hc q2 hl2; have u2 : (0 : Int) ≤ (q2 : Int) := by omega
   have v2 : (q2 : Int) < (T.length : Int) := by omega
   clear hc; generalize T[q0] = x0 at *; generalize T[q1] = x1 at *; generalize T[q2] = x2 at *
   go_enter Tryz.func29, Tryz.ntmps29
   go_wp2_with (go_at_call 79; refine (zG8 _ _).mono ?_; rintro e w1 ⟨rfl, rfl⟩; rw [HM.out])
   exact bodyPost_ret (v := .agg #[.int .i64 nk, .int .i64 x0, .int .i64 x1, .int .i64 x2, .int .i64 nn, .int .i64 nm, .int .i64 si, .int .i64 sw, .string nt]) (by simp [results, Tryz.results29, go_sem]) rfl ⟨rfl, ((Below.refl _ _).alloc (Nat.le_refl _) _).alloc (by simp) _⟩
end Go.Proofs.YtmolbnghobfmoaaGreat
