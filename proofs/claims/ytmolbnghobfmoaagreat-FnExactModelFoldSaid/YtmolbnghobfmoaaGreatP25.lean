/- Part 25 of what the row Row28 rests on: F27. -/
import Derived.Test.YtmolbnghobfmoaaGreatP24
set_option maxRecDepth 100000
set_option maxHeartbeats 16000000
set_option linter.unusedSimpArgs false
set_option linter.unusedVariables false
namespace Go.Proofs.YtmolbnghobfmoaaGreat
open Go.RowKit
theorem zB8 {L : List No} {k c o wd v : Int} : zB7 L k c o ≠ .con wd v := by
 unfold zB7
 repeat' split
 all_goals (intro h; cases h)
theorem zJs (B gf : Nat) (A : Option Addr) (c : Nat) (L : List No) (n : No) (w : World) (h : FoldAt w B gf A c L) (hl : L.length ≤ 60) (hL : zAb L) (hn : zAa L n) (hk : 6 ≤ n.k ∧ n.k ≤ 29) :
 Calls Tryz.prog 149 #[.pointer (some ⟨gf, 0, none⟩), .agg #[.int .i64 n.k, .int .i64 n.a, .int .i64 n.b, .int .i64 n.c, .int .i64 n.n, .int .i64 n.m, .int .i64 n.s.i, .int .i64 n.s.w, .string n.t]] w fun e w' => zA6 w B gf A c L (zJr L n) e w' := by
 have H := Kh h; have hp2 : zK1 n.k = 2 := zJz (by omega)
 obtain ⟨qa, hqa, hqa'⟩ : ∃ q : Nat, n.a = (q : Int) ∧ q < L.length := by have := (hn.a (by omega)).1; exact ⟨n.a.toNat, by omega, by omega⟩
 obtain ⟨qb, hqb, hqb'⟩ : ∃ q : Nat, n.b = (q : Int) ∧ q < L.length := by have := (hn.b (by omega)).1; exact ⟨n.b.toNat, by omega, by omega⟩
 have sa := (hL.sortOk (p := (qa : Int)) (by omega) (by omega)).2
 have sb := (hL.sortOk (p := (qb : Int)) (by omega) (by omega)).2
 have hB : B ≤ w.heap.size := Nat.le_trans H.out.base (Nat.le_of_lt H.out.blk.lt); clear h hn hp2 hL; obtain ⟨k, na, nb, nc, nn, nm, ⟨si, sw⟩, nt⟩ := n; dsimp only at hqa hqb hk ⊢; subst hqa; subst hqb; have B1 := bx w #[.int .i64 k, .int .i64 (qa : Int), .int .i64 (qb : Int), .int .i64 nc, .int .i64 nn, .int .i64 nm, .int .i64 si, .int .i64 sw, .string nt] 42; have N1 := nx w #[.int .i64 k, .int .i64 (qa : Int), .int .i64 (qb : Int), .int .i64 nc, .int .i64 nn, .int .i64 nm, .int .i64 si, .int .i64 sw, .string nt] 42; have TA := Kh (zAo B gf A c L ⟨k, (qa : Int), (qb : Int), nc, nn, nm, ⟨si, sw⟩, nt⟩ (w.alloc (.cells #[.int .i64 k, .int .i64 (qa : Int), .int .i64 (qb : Int), .int .i64 nc, .int .i64 nn, .int .i64 nm, .int .i64 si, .int .i64 sw, .string nt] 42)) (H.out.below B1.out) (by omega))
 have T2 := Kh (fun (W : World) (hW : Below w.heap.size w W) => zBw B gf A c L k qa (qb : Int) W (H.out.below hW) (by omega) hqa' sa)
 have T3 := Kh (fun (W : World) (hW : Below w.heap.size w W) => zBw B gf A c L k qb (qa : Int) W (H.out.below hW) (by omega) hqb' sb)
 have T4 := Kh (fun (W : World) (hW : Below w.heap.size w W) => zFe B gf A c L qb W (H.out.below hW) (by omega) hqb')
 obtain ⟨x1, h1⟩ : ∃ x, zAn ⟨k, (qa : Int), (qb : Int), nc, nn, nm, ⟨si, sw⟩, nt⟩ = x := ⟨_, rfl⟩
 obtain ⟨x2, h2⟩ : ∃ x, zB7 L k (qa : Int) (qb : Int) = x := ⟨_, rfl⟩
 obtain ⟨x3, h3⟩ : ∃ x, zB7 L k (qb : Int) (qa : Int) = x := ⟨_, rfl⟩
 obtain ⟨x4, h4⟩ : ∃ x, zKw L ⟨k, (qa : Int), (qb : Int), nc, nn, nm, ⟨si, sw⟩, nt⟩ = x := ⟨_, rfl⟩
 have hpk : zJr L ⟨k, (qa : Int), (qb : Int), nc, nn, nm, ⟨si, sw⟩, nt⟩ = (if (qa : Int) = (qb : Int) then x1 else .no).or (x2.or (x3.or x4)) := by rw [← h1, ← h2, ← h3, ← h4]; rfl
 rw [hpk]; clear hpk; have c2 : ∀ wd v, x2 ≠ .con wd v := fun wd v => h2 ▸ zB8
 have c3 : ∀ wd v, x3 ≠ .con wd v := fun wd v => h3 ▸ zB8
 rw [h1] at TA; rw [h2] at T2; rw [h3] at T3; have H4 : Hid (x4 = if (k = 10 ∨ (16 ≤ k ∧ k ≤ 20)) ∧ isC L (qb : Int) 0 then .at (qa : Int) else .no) := Kh (by rw [← h4]; rfl)
 have E23 : Hid (qa = qb → x2 = x3) := Kh (fun e => by rw [← h2, ← h3, e])
 clear h1 h2 h3 h4 sa sb hqa' hqb'
 by_cases hab : qa = qb
 case pos =>
  obtain rfl : x2 = x3 := E23.out hab; subst hab; rw [if_pos rfl]; have dab : ((qa : Int) == (qa : Int)) = true := by simp
  cases x1 with
  | «at» p =>
   show Calls _ _ _ _ fun e w' => zA6 w B gf A c L (.at p) e w'
   go_enter Tryz.func149, Tryz.ntmps149
   go_wp2_with (go_at_call 182; refine TA.out.mono ?_; rintro e w2 hk2; obtain ⟨rfl, hb2⟩ := hk2; have B2 := Kh (B1.out.trans (hb2.mono B1.out.size)); clear hb2)
   exact bodyPost_ret (v := .tuple #[.int .i64 p, .bool true]) (by simp [results, Tryz.results149, go_sem]) rfl ⟨rfl, B2.out⟩
  | con wd v =>
   show Calls _ _ _ _ fun e w' => zA6 w B gf A c L (.con wd v) e w'
   go_enter Tryz.func149, Tryz.ntmps149
   go_wp2_with (go_at_call 182; refine TA.out.mono ?_; rintro e w2 hk2; obtain ⟨A', c', rfl, hfo, hbb, hho⟩ := hk2; have F2 := Kh hfo; have BB := Kh ((B1.out.mono hB).trans hbb); have HH := Kh (fun k hk a b => (hho k (Nat.lt_of_lt_of_le hk B1.out.size) a b).trans (B1.out.block k hk)); clear hfo hbb hho)
   exact bodyPost_ret (v := .tuple #[.int .i64 (zKm L (zD0 wd v)).2, .bool true]) (by simp [results, Tryz.results149, go_sem]) rfl ⟨A', c', rfl, F2.out, BB.out, HH.out⟩
  | no =>
   show Calls _ _ _ _ fun e w' => zA6 w B gf A c L (x2.or (x2.or x4)) e w'
   cases x2 with
   | con wd v => exact absurd rfl (c2 wd v)
   | «at» p =>
    show Calls _ _ _ _ fun e w' => zA6 w B gf A c L (.at p) e w'
    go_enter Tryz.func149, Tryz.ntmps149
    go_wp2_with (first | (go_at_call 183; (with_reducible show Calls _ _ _ w2 _); refine (T2.out _ B2.out).mono ?_; rintro e w3 hk3; obtain ⟨rfl, hb3⟩ := hk3; have B3 := Kh (B2.out.trans (hb3.mono B2.out.size)); clear hb3) | (go_at_call 182; refine TA.out.mono ?_; rintro e w2 hk2; obtain ⟨⟨u2, rfl⟩, hb2⟩ := hk2; have B2 := Kh (B1.out.trans (hb2.mono B1.out.size)); have N2 := Kh (N1.out.below hb2 N1.out.lt); obtain ⟨p02, p12, p22, p32, p42, p52, p62, p72, p82⟩ := N2.out.nine; clear hb2))
    exact bodyPost_ret (v := .tuple #[.int .i64 p, .bool true]) (by simp [results, Tryz.results149, go_sem]) rfl ⟨rfl, B3.out⟩
   | no =>
    show Calls _ _ _ _ fun e w' => zA6 w B gf A c L x4 e w'
    by_cases h34 : (noAt L (qa : Int)).k = 34
    case neg =>
     obtain rfl : x4 = .no := by rw [H4.out, zFb h34]; simp
     rw [decide_eq_false h34] at T4; clear h34
     go_enter Tryz.func149, Tryz.ntmps149
     go_wp2_with (first | (go_at_call 143; (first | refine (zEx _ _ _ true (decide_eq_true (by omega)) _).mono ?_ | refine (zEx _ _ _ false (decide_eq_false (by omega)) _).mono ?_); rintro e wI ⟨rfl, rfl⟩) | (go_at_call 148; refine (T4.out _ B4.out).mono ?_; rintro e w9 ⟨rfl, hb9⟩; have B9 := Kh (B4.out.trans (hb9.mono B4.out.size)); have N9 := Kh (N4.out.below hb9 N4.out.lt); obtain ⟨p09, p19, p29, p39, p49, p59, p69, p79, p89⟩ := N9.out.nine; clear hb9) | (go_at_call 183; (with_reducible show Calls _ _ _ w3 _); refine (T3.out _ B3.out).mono ?_; rintro e w4 hk4; obtain ⟨⟨u4, rfl⟩, hb4⟩ := hk4; have B4 := Kh (B3.out.trans (hb4.mono B3.out.size)); have N4 := Kh (N3.out.below hb4 N3.out.lt); obtain ⟨p04, p14, p24, p34, p44, p54, p64, p74, p84⟩ := N4.out.nine; clear hb4) | (go_at_call 183; (with_reducible show Calls _ _ _ w2 _); refine (T2.out _ B2.out).mono ?_; rintro e w3 hk3; obtain ⟨⟨u3, rfl⟩, hb3⟩ := hk3; have B3 := Kh (B2.out.trans (hb3.mono B2.out.size)); have N3 := Kh (N2.out.below hb3 N2.out.lt); obtain ⟨p03, p13, p23, p33, p43, p53, p63, p73, p83⟩ := N3.out.nine; clear hb3) | (go_at_call 182; refine TA.out.mono ?_; rintro e w2 hk2; obtain ⟨⟨u2, rfl⟩, hb2⟩ := hk2; have B2 := Kh (B1.out.trans (hb2.mono B1.out.size)); have N2 := Kh (N1.out.below hb2 N1.out.lt); obtain ⟨p02, p12, p22, p32, p42, p52, p62, p72, p82⟩ := N2.out.nine; clear hb2))
     exact bodyPost_ret (v := .tuple #[.int .i64 0, .bool false]) (by simp [results, Tryz.results149, go_sem]) rfl ⟨⟨0, rfl⟩, B9.out⟩
    rw [decide_eq_true h34] at T4; rw [zFa h34] at H4; clear h34; generalize (noAt L (qa : Int)).n = v at *
    by_cases v0 : v = 0
    case neg =>
     obtain rfl : x4 = .no := by rw [H4.out]; simp [v0]
     have d0 : (v == 0) = false := by simpa using v0
     go_enter Tryz.func149, Tryz.ntmps149
     go_wp2_with (first | (go_at_call 143; (first | refine (zEx _ _ _ true (decide_eq_true (by omega)) _).mono ?_ | refine (zEx _ _ _ false (decide_eq_false (by omega)) _).mono ?_); rintro e wI ⟨rfl, rfl⟩) | (go_at_call 148; refine (T4.out _ B4.out).mono ?_; rintro e w9 ⟨rfl, hb9⟩; have B9 := Kh (B4.out.trans (hb9.mono B4.out.size)); have N9 := Kh (N4.out.below hb9 N4.out.lt); obtain ⟨p09, p19, p29, p39, p49, p59, p69, p79, p89⟩ := N9.out.nine; clear hb9) | (go_at_call 183; (with_reducible show Calls _ _ _ w3 _); refine (T3.out _ B3.out).mono ?_; rintro e w4 hk4; obtain ⟨⟨u4, rfl⟩, hb4⟩ := hk4; have B4 := Kh (B3.out.trans (hb4.mono B3.out.size)); have N4 := Kh (N3.out.below hb4 N3.out.lt); obtain ⟨p04, p14, p24, p34, p44, p54, p64, p74, p84⟩ := N4.out.nine; clear hb4) | (go_at_call 183; (with_reducible show Calls _ _ _ w2 _); refine (T2.out _ B2.out).mono ?_; rintro e w3 hk3; obtain ⟨⟨u3, rfl⟩, hb3⟩ := hk3; have B3 := Kh (B2.out.trans (hb3.mono B2.out.size)); have N3 := Kh (N2.out.below hb3 N2.out.lt); obtain ⟨p03, p13, p23, p33, p43, p53, p63, p73, p83⟩ := N3.out.nine; clear hb3) | (go_at_call 182; refine TA.out.mono ?_; rintro e w2 hk2; obtain ⟨⟨u2, rfl⟩, hb2⟩ := hk2; have B2 := Kh (B1.out.trans (hb2.mono B1.out.size)); have N2 := Kh (N1.out.below hb2 N1.out.lt); obtain ⟨p02, p12, p22, p32, p42, p52, p62, p72, p82⟩ := N2.out.nine; clear hb2))
     exact bodyPost_ret (v := .tuple #[.int .i64 0, .bool false]) (by simp [results, Tryz.results149, go_sem]) rfl ⟨⟨0, rfl⟩, B9.out⟩
    subst v0
    by_cases k10 : k = 10
    case pos =>
     subst k10; obtain rfl : x4 = .at (qa : Int) := by rw [H4.out]; simp
     go_enter Tryz.func149, Tryz.ntmps149
     go_wp2_with (first | (go_at_call 143; (first | refine (zEx _ _ _ true (decide_eq_true (by omega)) _).mono ?_ | refine (zEx _ _ _ false (decide_eq_false (by omega)) _).mono ?_); rintro e wI ⟨rfl, rfl⟩) | (go_at_call 148; refine (T4.out _ B4.out).mono ?_; rintro e w9 ⟨rfl, hb9⟩; have B9 := Kh (B4.out.trans (hb9.mono B4.out.size)); have N9 := Kh (N4.out.below hb9 N4.out.lt); obtain ⟨p09, p19, p29, p39, p49, p59, p69, p79, p89⟩ := N9.out.nine; clear hb9) | (go_at_call 183; (with_reducible show Calls _ _ _ w3 _); refine (T3.out _ B3.out).mono ?_; rintro e w4 hk4; obtain ⟨⟨u4, rfl⟩, hb4⟩ := hk4; have B4 := Kh (B3.out.trans (hb4.mono B3.out.size)); have N4 := Kh (N3.out.below hb4 N3.out.lt); obtain ⟨p04, p14, p24, p34, p44, p54, p64, p74, p84⟩ := N4.out.nine; clear hb4) | (go_at_call 183; (with_reducible show Calls _ _ _ w2 _); refine (T2.out _ B2.out).mono ?_; rintro e w3 hk3; obtain ⟨⟨u3, rfl⟩, hb3⟩ := hk3; have B3 := Kh (B2.out.trans (hb3.mono B2.out.size)); have N3 := Kh (N2.out.below hb3 N2.out.lt); obtain ⟨p03, p13, p23, p33, p43, p53, p63, p73, p83⟩ := N3.out.nine; clear hb3) | (go_at_call 182; refine TA.out.mono ?_; rintro e w2 hk2; obtain ⟨⟨u2, rfl⟩, hb2⟩ := hk2; have B2 := Kh (B1.out.trans (hb2.mono B1.out.size)); have N2 := Kh (N1.out.below hb2 N1.out.lt); obtain ⟨p02, p12, p22, p32, p42, p52, p62, p72, p82⟩ := N2.out.nine; clear hb2))
     exact bodyPost_ret (v := .tuple #[.int .i64 (qa : Int), .bool true]) (by simp [results, Tryz.results149, go_sem]) rfl ⟨rfl, B9.out⟩
    have d10 : (k == 10) = false := by simpa using k10
    by_cases kr : 16 ≤ k ∧ k ≤ 20
    case pos =>
     obtain rfl : x4 = .at (qa : Int) := by rw [H4.out]; simp [kr]
     go_enter Tryz.func149, Tryz.ntmps149
     go_wp2_with (first | (go_at_call 143; (first | refine (zEx _ _ _ true (decide_eq_true (by omega)) _).mono ?_ | refine (zEx _ _ _ false (decide_eq_false (by omega)) _).mono ?_); rintro e wI ⟨rfl, rfl⟩) | (go_at_call 148; refine (T4.out _ B4.out).mono ?_; rintro e w9 ⟨rfl, hb9⟩; have B9 := Kh (B4.out.trans (hb9.mono B4.out.size)); have N9 := Kh (N4.out.below hb9 N4.out.lt); obtain ⟨p09, p19, p29, p39, p49, p59, p69, p79, p89⟩ := N9.out.nine; clear hb9) | (go_at_call 183; (with_reducible show Calls _ _ _ w3 _); refine (T3.out _ B3.out).mono ?_; rintro e w4 hk4; obtain ⟨⟨u4, rfl⟩, hb4⟩ := hk4; have B4 := Kh (B3.out.trans (hb4.mono B3.out.size)); have N4 := Kh (N3.out.below hb4 N3.out.lt); obtain ⟨p04, p14, p24, p34, p44, p54, p64, p74, p84⟩ := N4.out.nine; clear hb4) | (go_at_call 183; (with_reducible show Calls _ _ _ w2 _); refine (T2.out _ B2.out).mono ?_; rintro e w3 hk3; obtain ⟨⟨u3, rfl⟩, hb3⟩ := hk3; have B3 := Kh (B2.out.trans (hb3.mono B2.out.size)); have N3 := Kh (N2.out.below hb3 N2.out.lt); obtain ⟨p03, p13, p23, p33, p43, p53, p63, p73, p83⟩ := N3.out.nine; clear hb3) | (go_at_call 182; refine TA.out.mono ?_; rintro e w2 hk2; obtain ⟨⟨u2, rfl⟩, hb2⟩ := hk2; have B2 := Kh (B1.out.trans (hb2.mono B1.out.size)); have N2 := Kh (N1.out.below hb2 N1.out.lt); obtain ⟨p02, p12, p22, p32, p42, p52, p62, p72, p82⟩ := N2.out.nine; clear hb2))
     exact bodyPost_ret (v := .tuple #[.int .i64 (qa : Int), .bool true]) (by simp [results, Tryz.results149, go_sem]) rfl ⟨rfl, B9.out⟩
    obtain rfl : x4 = .no := by rw [H4.out, if_neg]; omega
    go_enter Tryz.func149, Tryz.ntmps149
    go_wp2_with (first | (go_at_call 143; (first | refine (zEx _ _ _ true (decide_eq_true (by omega)) _).mono ?_ | refine (zEx _ _ _ false (decide_eq_false (by omega)) _).mono ?_); rintro e wI ⟨rfl, rfl⟩) | (go_at_call 148; refine (T4.out _ B4.out).mono ?_; rintro e w9 ⟨rfl, hb9⟩; have B9 := Kh (B4.out.trans (hb9.mono B4.out.size)); have N9 := Kh (N4.out.below hb9 N4.out.lt); obtain ⟨p09, p19, p29, p39, p49, p59, p69, p79, p89⟩ := N9.out.nine; clear hb9) | (go_at_call 183; (with_reducible show Calls _ _ _ w3 _); refine (T3.out _ B3.out).mono ?_; rintro e w4 hk4; obtain ⟨⟨u4, rfl⟩, hb4⟩ := hk4; have B4 := Kh (B3.out.trans (hb4.mono B3.out.size)); have N4 := Kh (N3.out.below hb4 N3.out.lt); obtain ⟨p04, p14, p24, p34, p44, p54, p64, p74, p84⟩ := N4.out.nine; clear hb4) | (go_at_call 183; (with_reducible show Calls _ _ _ w2 _); refine (T2.out _ B2.out).mono ?_; rintro e w3 hk3; obtain ⟨⟨u3, rfl⟩, hb3⟩ := hk3; have B3 := Kh (B2.out.trans (hb3.mono B2.out.size)); have N3 := Kh (N2.out.below hb3 N2.out.lt); obtain ⟨p03, p13, p23, p33, p43, p53, p63, p73, p83⟩ := N3.out.nine; clear hb3) | (go_at_call 182; refine TA.out.mono ?_; rintro e w2 hk2; obtain ⟨⟨u2, rfl⟩, hb2⟩ := hk2; have B2 := Kh (B1.out.trans (hb2.mono B1.out.size)); have N2 := Kh (N1.out.below hb2 N1.out.lt); obtain ⟨p02, p12, p22, p32, p42, p52, p62, p72, p82⟩ := N2.out.nine; clear hb2))
    exact bodyPost_ret (v := .tuple #[.int .i64 0, .bool false]) (by simp [results, Tryz.results149, go_sem]) rfl ⟨⟨0, rfl⟩, B9.out⟩
 rw [if_neg (by omega)]
 show Calls _ _ _ _ fun e w' => zA6 w B gf A c L (x2.or (x3.or x4)) e w'
 have dab : ((qa : Int) == (qb : Int)) = false := by simp only [beq_eq_false_iff_ne]; omega
 cases x2 with
 | con wd v => exact absurd rfl (c2 wd v)
 | «at» p =>
  show Calls _ _ _ _ fun e w' => zA6 w B gf A c L (.at p) e w'
  go_enter Tryz.func149, Tryz.ntmps149
  go_wp2_with (first | (go_at_call 183; refine (T2.out _ B1.out).mono ?_; rintro e w2 hk2; obtain ⟨rfl, hb2⟩ := hk2; have B2 := Kh (B1.out.trans (hb2.mono B1.out.size)); clear hb2))
  exact bodyPost_ret (v := .tuple #[.int .i64 p, .bool true]) (by simp [results, Tryz.results149, go_sem]) rfl ⟨rfl, B2.out⟩
 | no =>
  cases x3 with
  | con wd v => exact absurd rfl (c3 wd v)
  | «at» p =>
   show Calls _ _ _ _ fun e w' => zA6 w B gf A c L (.at p) e w'
   go_enter Tryz.func149, Tryz.ntmps149
   go_wp2_with (first | (go_at_call 183; (with_reducible show Calls _ _ _ w2 _); refine (T3.out _ B2.out).mono ?_; rintro e w3 hk3; obtain ⟨rfl, hb3⟩ := hk3; have B3 := Kh (B2.out.trans (hb3.mono B2.out.size)); clear hb3) | (go_at_call 183; refine (T2.out _ B1.out).mono ?_; rintro e w2 hk2; obtain ⟨⟨u2, rfl⟩, hb2⟩ := hk2; have B2 := Kh (B1.out.trans (hb2.mono B1.out.size)); have N2 := Kh (N1.out.below hb2 N1.out.lt); obtain ⟨p02, p12, p22, p32, p42, p52, p62, p72, p82⟩ := N2.out.nine; clear hb2))
   exact bodyPost_ret (v := .tuple #[.int .i64 p, .bool true]) (by simp [results, Tryz.results149, go_sem]) rfl ⟨rfl, B3.out⟩
  | no =>
   show Calls _ _ _ _ fun e w' => zA6 w B gf A c L x4 e w'
   by_cases h34 : (noAt L (qb : Int)).k = 34
   case neg =>
    obtain rfl : x4 = .no := by rw [H4.out, zFb h34]; simp
    rw [decide_eq_false h34] at T4; clear h34
    go_enter Tryz.func149, Tryz.ntmps149
    go_wp2_with (first | (go_at_call 143; (first | refine (zEx _ _ _ true (decide_eq_true (by omega)) _).mono ?_ | refine (zEx _ _ _ false (decide_eq_false (by omega)) _).mono ?_); rintro e wI ⟨rfl, rfl⟩) | (go_at_call 148; refine (T4.out _ B3.out).mono ?_; rintro e w9 ⟨rfl, hb9⟩; have B9 := Kh (B3.out.trans (hb9.mono B3.out.size)); have N9 := Kh (N3.out.below hb9 N3.out.lt); obtain ⟨p09, p19, p29, p39, p49, p59, p69, p79, p89⟩ := N9.out.nine; clear hb9) | (go_at_call 183; (with_reducible show Calls _ _ _ w2 _); refine (T3.out _ B2.out).mono ?_; rintro e w3 hk3; obtain ⟨⟨u3, rfl⟩, hb3⟩ := hk3; have B3 := Kh (B2.out.trans (hb3.mono B2.out.size)); have N3 := Kh (N2.out.below hb3 N2.out.lt); obtain ⟨p03, p13, p23, p33, p43, p53, p63, p73, p83⟩ := N3.out.nine; clear hb3) | (go_at_call 183; refine (T2.out _ B1.out).mono ?_; rintro e w2 hk2; obtain ⟨⟨u2, rfl⟩, hb2⟩ := hk2; have B2 := Kh (B1.out.trans (hb2.mono B1.out.size)); have N2 := Kh (N1.out.below hb2 N1.out.lt); obtain ⟨p02, p12, p22, p32, p42, p52, p62, p72, p82⟩ := N2.out.nine; clear hb2))
    exact bodyPost_ret (v := .tuple #[.int .i64 0, .bool false]) (by simp [results, Tryz.results149, go_sem]) rfl ⟨⟨0, rfl⟩, B9.out⟩
   rw [decide_eq_true h34] at T4; rw [zFa h34] at H4; clear h34; generalize (noAt L (qb : Int)).n = v at *
   by_cases v0 : v = 0
   case neg =>
    obtain rfl : x4 = .no := by rw [H4.out]; simp [v0]
    have d0 : (v == 0) = false := by simpa using v0
    go_enter Tryz.func149, Tryz.ntmps149
    go_wp2_with (first | (go_at_call 143; (first | refine (zEx _ _ _ true (decide_eq_true (by omega)) _).mono ?_ | refine (zEx _ _ _ false (decide_eq_false (by omega)) _).mono ?_); rintro e wI ⟨rfl, rfl⟩) | (go_at_call 148; refine (T4.out _ B3.out).mono ?_; rintro e w9 ⟨rfl, hb9⟩; have B9 := Kh (B3.out.trans (hb9.mono B3.out.size)); have N9 := Kh (N3.out.below hb9 N3.out.lt); obtain ⟨p09, p19, p29, p39, p49, p59, p69, p79, p89⟩ := N9.out.nine; clear hb9) | (go_at_call 183; (with_reducible show Calls _ _ _ w2 _); refine (T3.out _ B2.out).mono ?_; rintro e w3 hk3; obtain ⟨⟨u3, rfl⟩, hb3⟩ := hk3; have B3 := Kh (B2.out.trans (hb3.mono B2.out.size)); have N3 := Kh (N2.out.below hb3 N2.out.lt); obtain ⟨p03, p13, p23, p33, p43, p53, p63, p73, p83⟩ := N3.out.nine; clear hb3) | (go_at_call 183; refine (T2.out _ B1.out).mono ?_; rintro e w2 hk2; obtain ⟨⟨u2, rfl⟩, hb2⟩ := hk2; have B2 := Kh (B1.out.trans (hb2.mono B1.out.size)); have N2 := Kh (N1.out.below hb2 N1.out.lt); obtain ⟨p02, p12, p22, p32, p42, p52, p62, p72, p82⟩ := N2.out.nine; clear hb2))
    exact bodyPost_ret (v := .tuple #[.int .i64 0, .bool false]) (by simp [results, Tryz.results149, go_sem]) rfl ⟨⟨0, rfl⟩, B9.out⟩
   subst v0
   by_cases k10 : k = 10
   case pos =>
    subst k10; obtain rfl : x4 = .at (qa : Int) := by rw [H4.out]; simp
    go_enter Tryz.func149, Tryz.ntmps149
    go_wp2_with (first | (go_at_call 143; (first | refine (zEx _ _ _ true (decide_eq_true (by omega)) _).mono ?_ | refine (zEx _ _ _ false (decide_eq_false (by omega)) _).mono ?_); rintro e wI ⟨rfl, rfl⟩) | (go_at_call 148; refine (T4.out _ B3.out).mono ?_; rintro e w9 ⟨rfl, hb9⟩; have B9 := Kh (B3.out.trans (hb9.mono B3.out.size)); have N9 := Kh (N3.out.below hb9 N3.out.lt); obtain ⟨p09, p19, p29, p39, p49, p59, p69, p79, p89⟩ := N9.out.nine; clear hb9) | (go_at_call 183; (with_reducible show Calls _ _ _ w2 _); refine (T3.out _ B2.out).mono ?_; rintro e w3 hk3; obtain ⟨⟨u3, rfl⟩, hb3⟩ := hk3; have B3 := Kh (B2.out.trans (hb3.mono B2.out.size)); have N3 := Kh (N2.out.below hb3 N2.out.lt); obtain ⟨p03, p13, p23, p33, p43, p53, p63, p73, p83⟩ := N3.out.nine; clear hb3) | (go_at_call 183; refine (T2.out _ B1.out).mono ?_; rintro e w2 hk2; obtain ⟨⟨u2, rfl⟩, hb2⟩ := hk2; have B2 := Kh (B1.out.trans (hb2.mono B1.out.size)); have N2 := Kh (N1.out.below hb2 N1.out.lt); obtain ⟨p02, p12, p22, p32, p42, p52, p62, p72, p82⟩ := N2.out.nine; clear hb2))
    exact bodyPost_ret (v := .tuple #[.int .i64 (qa : Int), .bool true]) (by simp [results, Tryz.results149, go_sem]) rfl ⟨rfl, B9.out⟩
   have d10 : (k == 10) = false := by simpa using k10
   by_cases kr : 16 ≤ k ∧ k ≤ 20
   case pos =>
    obtain rfl : x4 = .at (qa : Int) := by rw [H4.out]; simp [kr]
    go_enter Tryz.func149, Tryz.ntmps149
    go_wp2_with (first | (go_at_call 143; (first | refine (zEx _ _ _ true (decide_eq_true (by omega)) _).mono ?_ | refine (zEx _ _ _ false (decide_eq_false (by omega)) _).mono ?_); rintro e wI ⟨rfl, rfl⟩) | (go_at_call 148; refine (T4.out _ B3.out).mono ?_; rintro e w9 ⟨rfl, hb9⟩; have B9 := Kh (B3.out.trans (hb9.mono B3.out.size)); have N9 := Kh (N3.out.below hb9 N3.out.lt); obtain ⟨p09, p19, p29, p39, p49, p59, p69, p79, p89⟩ := N9.out.nine; clear hb9) | (go_at_call 183; (with_reducible show Calls _ _ _ w2 _); refine (T3.out _ B2.out).mono ?_; rintro e w3 hk3; obtain ⟨⟨u3, rfl⟩, hb3⟩ := hk3; have B3 := Kh (B2.out.trans (hb3.mono B2.out.size)); have N3 := Kh (N2.out.below hb3 N2.out.lt); obtain ⟨p03, p13, p23, p33, p43, p53, p63, p73, p83⟩ := N3.out.nine; clear hb3) | (go_at_call 183; refine (T2.out _ B1.out).mono ?_; rintro e w2 hk2; obtain ⟨⟨u2, rfl⟩, hb2⟩ := hk2; have B2 := Kh (B1.out.trans (hb2.mono B1.out.size)); have N2 := Kh (N1.out.below hb2 N1.out.lt); obtain ⟨p02, p12, p22, p32, p42, p52, p62, p72, p82⟩ := N2.out.nine; clear hb2))
    exact bodyPost_ret (v := .tuple #[.int .i64 (qa : Int), .bool true]) (by simp [results, Tryz.results149, go_sem]) rfl ⟨rfl, B9.out⟩
   obtain rfl : x4 = .no := by rw [H4.out, if_neg]; omega
   go_enter Tryz.func149, Tryz.ntmps149
   go_wp2_with (first | (go_at_call 143; (first | refine (zEx _ _ _ true (decide_eq_true (by omega)) _).mono ?_ | refine (zEx _ _ _ false (decide_eq_false (by omega)) _).mono ?_); rintro e wI ⟨rfl, rfl⟩) | (go_at_call 148; refine (T4.out _ B3.out).mono ?_; rintro e w9 ⟨rfl, hb9⟩; have B9 := Kh (B3.out.trans (hb9.mono B3.out.size)); have N9 := Kh (N3.out.below hb9 N3.out.lt); obtain ⟨p09, p19, p29, p39, p49, p59, p69, p79, p89⟩ := N9.out.nine; clear hb9) | (go_at_call 183; (with_reducible show Calls _ _ _ w2 _); refine (T3.out _ B2.out).mono ?_; rintro e w3 hk3; obtain ⟨⟨u3, rfl⟩, hb3⟩ := hk3; have B3 := Kh (B2.out.trans (hb3.mono B2.out.size)); have N3 := Kh (N2.out.below hb3 N2.out.lt); obtain ⟨p03, p13, p23, p33, p43, p53, p63, p73, p83⟩ := N3.out.nine; clear hb3) | (go_at_call 183; refine (T2.out _ B1.out).mono ?_; rintro e w2 hk2; obtain ⟨⟨u2, rfl⟩, hb2⟩ := hk2; have B2 := Kh (B1.out.trans (hb2.mono B1.out.size)); have N2 := Kh (N1.out.below hb2 N1.out.lt); obtain ⟨p02, p12, p22, p32, p42, p52, p62, p72, p82⟩ := N2.out.nine; clear hb2))
   exact bodyPost_ret (v := .tuple #[.int .i64 0, .bool false]) (by simp [results, Tryz.results149, go_sem]) rfl ⟨⟨0, rfl⟩, B9.out⟩
end Go.Proofs.YtmolbnghobfmoaaGreat
