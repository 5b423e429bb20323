/- Part 27 of what the row Row28 rests on: F29 F30 F31 F32. -/
import Derived.Deep.RegionHeld3
import Derived.Test.YtmolbnghobfmoaaGreatP26
set_option maxRecDepth 100000
set_option maxHeartbeats 16000000
set_option linter.unusedSimpArgs false
set_option linter.unusedVariables false
namespace Go.Proofs.YtmolbnghobfmoaaGreat
open Go.RowKit
def zEq (l : List Int) (x : Int) : Int := if x ∈ l then (l.findIdx (fun y => decide (y = x)) : Int) else -1
theorem idxI_at {l : List Int} {x : Int} {k : Nat} (hk : k < l.length) (hb : ∀ j (h : j < l.length), j < k → l[j] ≠ x) (he : l[k] = x) : zEq l x = (k : Int) := by
 unfold zEq; rw [if_pos (he ▸ List.getElem_mem hk)]; congr 1
 exact (List.findIdx_eq hk).2 ⟨by simpa using he, fun j hj => by simpa using hb j (by omega) hj⟩
theorem zEr {l : List Int} {x : Int} (hb : ∀ j (h : j < l.length), l[j] ≠ x) : zEq l x = -1 := by
 unfold zEq; rw [if_neg]; intro h; obtain ⟨j, hj, e⟩ := List.getElem_of_mem h
 exact hb j hj e
theorem idxI_ge (l : List Int) (x : Int) : (0 : Int) ≤ zEq l x ↔ x ∈ l := by
 unfold zEq
 by_cases h : x ∈ l
 · rw [if_pos h]; exact ⟨fun _ => h, fun _ => by omega⟩
 · rw [if_neg h]; exact ⟨fun h' => by omega, fun h' => absurd h' h⟩
theorem zEz (A : Option Addr) (cap : Nat) (l : List Int) (x : Int) (w : World) (hA : IAt w A l) (hn : l.length ≤ 1048576) :
 Calls Tryz.prog 184 #[.slice A l.length cap, .int .i64 x] w fun e w' => e = .returned (.int .i64 (zEq l x)) ∧ w = w' := by
 have HA := Kh hA; clear hA; obtain ⟨I, hI⟩ : ∃ I, zEq l x = I := ⟨_, rfl⟩
 rw [hI]; have HI := Kh hI; clear hI
 go_enter Tryz.func184, Tryz.ntmps184
 go_wp2_with fail
 go_loop [8] (fun j => ∃ r : Nat, r ≤ l.length ∧ Hid (∀ j (h : j < l.length), j < r → l[j] ≠ x) ∧ j = .int .i64 (r : Int)) (fun j => l.length - (intOf j).toNat)
 case atStart => exact ⟨0, Nat.zero_le _, fun j _ h => by omega, rfl⟩
 case round =>
  obtain ⟨r, hr, HNo, rfl⟩ := hrel
  by_cases hlt : r < l.length
  case neg =>
   obtain rfl : r = l.length := by omega
   obtain rfl : -1 = I := by rw [← HI.out]; exact (zEr (fun j h => HNo.out j h h)).symm
   go_wp2_with fail
   go_ret
   exact ⟨rfl, rfl⟩
  obtain ⟨g, rfl, hg, hc⟩ := HA.out (by omega)
  have y0 := hc r hlt; clear hc; have e1 := wr1 (r := r) (by omega)
  have hj0 : (0 : Int) ≤ (r : Int) := by omega
  have hj1 : (r : Int) < (l.length : Int) := by omega
  by_cases hx : l[r] = x
  · have HE : Hid ((r : Int) = I) := by rw [← HI.out]; exact Kh (idxI_at hlt HNo.out hx).symm
    generalize l[r] = z at *; subst hx
    go_wp2_with fail
    go_ret
    exact ⟨zKv HE.out, rfl⟩
  · have HS : Hid (∀ j (h : j < l.length), j < r + 1 → l[j] ≠ x) := Kh (fun j hj hjr => by
      by_cases e : j = r
      · subst e; exact hx
      · exact HNo.out j hj (by omega))
    have dx : (x == l[r]) = false := by simp only [beq_eq_false_iff_ne]; exact fun e => hx e.symm
    generalize l[r] = z at *; clear hx
    go_wp2_with fail
    go_round
    case rel => exact ⟨r + 1, by omega, HS, by go_num⟩
    case measure => simp [intOf]; omega
theorem zD5 (A : Option Addr) (cap : Nat) (l : List Int) (x : Int) (w : World) (hA : IAt w A l) (hn : l.length ≤ 1048576) :
 Calls Tryz.prog 150 #[.slice A l.length cap, .int .i64 x] w fun e w' => e = .returned (.bool (decide (x ∈ l))) ∧ w = w' := by
 have T := Kh (zEz A cap l x w hA hn); have e : decide (x ∈ l) = decide ((0 : Int) ≤ zEq l x) := decide_eq_decide.2 (idxI_ge l x).symm; rw [e]; clear e; generalize zEq l x = I at *
 by_cases hI : 0 ≤ I
 · go_enter Tryz.func150, Tryz.ntmps150
   go_wp2_with (go_at_call 184; refine T.out.mono ?_; rintro e w' ⟨rfl, rfl⟩)
   go_ret
   exact ⟨by simp [hI], rfl⟩
 · go_enter Tryz.func150, Tryz.ntmps150
   go_wp2_with (go_at_call 184; refine T.out.mono ?_; rintro e w' ⟨rfl, rfl⟩)
   go_ret
   exact ⟨by simp [hI], rfl⟩
theorem iat_blk {w : World} {g : Nat} {l : List Int} (h : Blk w g 3 (l.map (Value.int .i64)).toArray) : IAt w (some ⟨g, 0, none⟩) l := fun _ => ⟨g, rfl, h.lt, fun k hk => by
 rw [h.cell]; simp [hk]⟩
theorem zPr (k : Int) (b : Bool) (hb : decide (zPq k) = b) (w : World) : Calls Tryz.prog 96 #[.int .i64 k] w fun e w' => e = .returned (.bool b) ∧ Below w.heap.size w w' := by
 have e : decide (zPq k) = decide (k ∈ ([6, 7, 8, 9, 11, 21, 26, 27, 28] : List Int)) := decide_eq_decide.2 (by unfold zPq; simp)
 have B1 := bx w #[.int .i64 6, .int .i64 7, .int .i64 8, .int .i64 9, .int .i64 11, .int .i64 21, .int .i64 26, .int .i64 27, .int .i64 28] 3; have T := Kh (zD5 (some ⟨w.heap.size, 0, none⟩) 9 [6, 7, 8, 9, 11, 21, 26, 27, 28] k (w.alloc (.cells #[.int .i64 6, .int .i64 7, .int .i64 8, .int .i64 9, .int .i64 11, .int .i64 21, .int .i64 26, .int .i64 27, .int .i64 28] 3)) (iat_blk (Blk.new _ _ _)) (by decide))
 rw [← e, hb] at T; clear e hb
 go_enter Tryz.func96, Tryz.ntmps96
 go_wp2_with (go_at_call 150; refine T.out.mono ?_; rintro e w' ⟨rfl, rfl⟩)
 go_ret
 exact ⟨rfl, B1.out⟩
theorem zGu {L : List No} {n : No} {p : Int} (h : zFu L n = .at p) : zGt L n = (L, p) := by unfold zGt; rw [h]
theorem zGv {L : List No} {n : No} {wd v : Int} (h : zFu L n = .con wd v) : zGt L n = zKm L (zD0 wd v) := by unfold zGt; rw [h]
theorem zGw {L : List No} {n : No} (h : zFu L n = .no) : zGt L n = zKm L (zOm n) := by unfold zGt; rw [h]
theorem lay_any (B gf : Nat) (A : Option Addr) (c : Nat) (L : List No) (n : No) (w : World) (h : RIn w B gf A c L n) :
 Calls Tryz.prog 36 #[.pointer (some ⟨gf, 0, none⟩), .agg #[.int .i64 n.k, .int .i64 n.a, .int .i64 n.b, .int .i64 n.c, .int .i64 n.n, .int .i64 n.m, .int .i64 n.s.i, .int .i64 n.s.w, .string n.t]] w fun e w' => zA3 w B gf A c L (zGt L n).1 (zGt L n).2 e w' := by
 have H := Kh h; have hB : B ≤ w.heap.size := Nat.le_trans H.out.fold.base (Nat.le_of_lt H.out.fold.blk.lt); clear h; have B1 := bx w (nC n) 42; have N1 := nx w (nC n) 42; have TR := Kh (zL7 B gf A c L n _ ⟨H.out.fold.below B1.out, H.out.few, H.out.ok, H.out.inn⟩); have TP := Kh (fun (W : World) (hW : Below w.heap.size w W) => zKp B gf A c L (zOm n) W (H.out.fold.below hW) (by have := H.out.few; omega))
 obtain ⟨kn, hkn⟩ : ∃ kn, zFu L n = kn := ⟨_, rfl⟩
 rw [hkn] at TR; have HK := Kh hkn; clear hkn
 cases kn with
 | «at» p =>
  rw [zGu HK.out]; clear TP HK; obtain ⟨k, na, nb, nc, nn, nm, ⟨si, sw⟩, nt⟩ := n; simp only [nC] at B1 N1 TR ⊢
  go_enter Tryz.func36, Tryz.ntmps36
  go_wp2_with (go_at_call 95; refine TR.out.mono ?_; rintro e w2 hk2; obtain ⟨rfl, hb2⟩ := hk2; have B2 := Kh (B1.out.trans (hb2.mono B1.out.size)); clear hb2)
  go_ret
  exact ⟨A, c, rfl, H.out.fold.below B2.out, B2.out.mono hB, zA5.of_below B2.out _ _⟩
 | con wd v =>
  rw [zGv HK.out]; clear TP HK; obtain ⟨k, na, nb, nc, nn, nm, ⟨si, sw⟩, nt⟩ := n; simp only [nC] at B1 N1 TR ⊢
  go_enter Tryz.func36, Tryz.ntmps36
  go_wp2_with (go_at_call 95; refine TR.out.mono ?_; rintro e w2 hk2; obtain ⟨A', c', rfl, h1, h2, h3⟩ := zA6.from hk2 B1.out hB; have F4 := Kh h1; have B4 := Kh h2; have H4 := Kh h3; clear h1 h2 h3 hk2)
  go_ret
  exact ⟨A', c', rfl, F4.out, B4.out, H4.out⟩
 | no =>
  rw [zGw HK.out]; clear HK; obtain ⟨k, na, nb, nc, nn, nm, ⟨si, sw⟩, nt⟩ := n; simp only [nC] at B1 N1 TR ⊢
  by_cases hs : zPq k ∧ nb < na
  · have es : zOm ⟨k, na, nb, nc, nn, nm, ⟨si, sw⟩, nt⟩ = ⟨k, nb, na, nc, nn, nm, ⟨si, sw⟩, nt⟩ := by unfold zOm; rw [if_pos hs]
    rw [es] at TP ⊢; generalize (zKm L ⟨k, nb, na, nc, nn, nm, ⟨si, sw⟩, nt⟩).1 = L' at *; generalize (zKm L ⟨k, nb, na, nc, nn, nm, ⟨si, sw⟩, nt⟩).2 = p' at *; simp only [cN] at TP; have S := Kh (fun W => zPr k true (decide_eq_true hs.1) W)
    have hlt := hs.2; clear es hs
    go_enter Tryz.func36, Tryz.ntmps36
    go_wp2_with (first | (go_at_call 95; refine TR.out.mono ?_; rintro e w2 hk2; obtain ⟨⟨v2, rfl⟩, hb2⟩ := hk2; have B2 := Kh (B1.out.trans (hb2.mono B1.out.size)); have N2 := Kh (N1.out.below hb2 N1.out.lt); obtain ⟨y0, y1, y2, y3, y4, y5, y6, y7, y8⟩ := N2.out.nine; clear hb2) | (go_at_call 96; refine (S.out _).mono ?_; rintro e w3 ⟨rfl, hb3⟩; have B3 := Kh (B2.out.trans (hb3.mono B2.out.size)); have N3 := Kh (N2.out.below hb3 N2.out.lt); obtain ⟨z0, z1, z2, z3, z4, z5, z6, z7, z8⟩ := N3.out.nine; have f1 := N3.out.frozen 1; have f2 := N3.out.frozen 2; clear hb3) |
     (go_at_call 97; refine (TP.out _ ((B3.out.setCell (p := ⟨w.heap.size, 1, none⟩) (Nat.le_refl _) _).setCell (p := ⟨w.heap.size, 2, none⟩) (Nat.le_refl _) _)).mono ?_; rintro e w4 ⟨A', c', rfl, h1, h2, h3⟩))
    go_ret; have B4 := Kh ((B3.out.setCell (p := ⟨w.heap.size, 1, none⟩) (Nat.le_refl _) (.int .i64 nb)).setCell (p := ⟨w.heap.size, 2, none⟩) (Nat.le_refl _) (.int .i64 na))
    exact ⟨A', c', rfl, h1, (B4.out.mono hB).trans h2, fun k hk a b => (h3 k (Nat.lt_of_lt_of_le hk B4.out.size) a b).trans (B4.out.block k hk)⟩
  · have es : zOm ⟨k, na, nb, nc, nn, nm, ⟨si, sw⟩, nt⟩ = ⟨k, na, nb, nc, nn, nm, ⟨si, sw⟩, nt⟩ := by unfold zOm; rw [if_neg hs]
    rw [es] at TP ⊢; generalize (zKm L ⟨k, na, nb, nc, nn, nm, ⟨si, sw⟩, nt⟩).1 = L' at *; generalize (zKm L ⟨k, na, nb, nc, nn, nm, ⟨si, sw⟩, nt⟩).2 = p' at *; simp only [cN] at TP; obtain ⟨b, hb⟩ : ∃ b, decide (zPq k) = b := ⟨_, rfl⟩
    have S := Kh (fun W => zPr k b hb W)
    have hd : b = false ∨ (b = true ∧ decide (nb < na) = false) := by
     cases b with
     | false => exact .inl rfl
     | true => exact .inr ⟨rfl, decide_eq_false (fun h => hs ⟨of_decide_eq_true hb, h⟩)⟩
    clear es hs hb
    rcases hd with rfl | ⟨rfl, hd⟩
    all_goals
     go_enter Tryz.func36, Tryz.ntmps36
     go_wp2_with (first | (go_at_call 95; refine TR.out.mono ?_; rintro e w2 hk2; obtain ⟨⟨v2, rfl⟩, hb2⟩ := hk2; have B2 := Kh (B1.out.trans (hb2.mono B1.out.size)); have N2 := Kh (N1.out.below hb2 N1.out.lt); obtain ⟨y0, y1, y2, y3, y4, y5, y6, y7, y8⟩ := N2.out.nine; clear hb2) | (go_at_call 96; refine (S.out _).mono ?_; rintro e w3 ⟨rfl, hb3⟩; have B3 := Kh (B2.out.trans (hb3.mono B2.out.size)); have N3 := Kh (N2.out.below hb3 N2.out.lt); obtain ⟨z0, z1, z2, z3, z4, z5, z6, z7, z8⟩ := N3.out.nine; clear hb3) |
      (go_at_call 97; refine (TP.out _ B3.out).mono ?_; rintro e w4 ⟨A', c', rfl, h1, h2, h3⟩))
     go_ret
     exact ⟨A', c', rfl, h1, (B3.out.mono hB).trans h2, fun k hk a b => (h3 k (Nat.lt_of_lt_of_le hk B3.out.size) a b).trans (B3.out.block k hk)⟩
theorem zB4 {B : Nat} {w w' : World} (h : Below B w w') {g : Nat} (hg : B ≤ g) (v0 v1 v2 v3 v4 v5 v6 v7 v8 : Value) :
 Below B w (((((((((w'.setCell ⟨g, 0, none⟩ v0).setCell ⟨g, 1, none⟩ v1).setCell ⟨g, 2, none⟩ v2).setCell ⟨g, 3, none⟩ v3).setCell ⟨g, 4, none⟩ v4).setCell ⟨g, 5, none⟩ v5).setCell ⟨g, 6, none⟩ v6).setCell ⟨g, 7, none⟩ v7).setCell ⟨g, 8, none⟩ v8) :=
 ((((((((h.setCell (p := ⟨g, 0, none⟩) hg _).setCell (p := ⟨g, 1, none⟩) hg _).setCell (p := ⟨g, 2, none⟩) hg _).setCell (p := ⟨g, 3, none⟩) hg _).setCell (p := ⟨g, 4, none⟩) hg _).setCell (p := ⟨g, 5, none⟩) hg _).setCell (p := ⟨g, 6, none⟩) hg _).setCell (p := ⟨g, 7, none⟩) hg _).setCell (p := ⟨g, 8, none⟩) hg _
def pst (T : List Int) (n : No) (r : Nat) : No :=
 { n with a := if 0 < r ∧ 0 < zK1 n.k then toP T n.a else n.a, b := if 1 < r ∧ 1 < zK1 n.k then toP T n.b else n.b, c := if 2 < r ∧ 2 < zK1 n.k then toP T n.c else n.c }
theorem pst_0 (T : List Int) (n : No) : pst T n 0 = n := by simp [pst]
theorem pst_3 (T : List Int) (n : No) : pst T n 3 = zJv T n := by simp [pst, zJv]
theorem zPf {T : List Int} {q : Nat} (h : q < T.length) : toP T (q : Int) = T[q] := by simp [toP, List.getD_eq_getElem?_getD, h]
def zAd (n : No) (len : Nat) : Prop := (0 < zK1 n.k → 0 ≤ n.a ∧ n.a < (len : Int)) ∧ (1 < zK1 n.k → 0 ≤ n.b ∧ n.b < (len : Int)) ∧ (2 < zK1 n.k → 0 ≤ n.c ∧ n.c < (len : Int))
theorem zJw (A : Option Addr) (cap : Nat) (T : List Int) (n : No) (w : World) (hA : IAt w A T) (hT : T.length ≤ 1048576) (hp : zAd n T.length) :
 Calls Tryz.prog 37 #[.agg #[.int .i64 n.k, .int .i64 n.a, .int .i64 n.b, .int .i64 n.c, .int .i64 n.n, .int .i64 n.m, .int .i64 n.s.i, .int .i64 n.s.w, .string n.t], .slice A T.length cap] w fun e w' => e = .returned (.agg (cN (zJv T n))) ∧ Below w.heap.size w w' := by
 have HA := Kh hA; have HP := Kh hp; clear hA hp; have B1 : Hid (Below w.heap.size w (((w.alloc (.cells #[.int .i64 n.k, .int .i64 n.a, .int .i64 n.b, .int .i64 n.c, .int .i64 n.n, .int .i64 n.m, .int .i64 n.s.i, .int .i64 n.s.w, .string n.t] 42)).alloc (.cells (cN default) 42)).alloc (.cells #[.pointer (some ⟨w.heap.size, 1, none⟩), .pointer (some ⟨w.heap.size, 2, none⟩), .pointer (some ⟨w.heap.size, 3, none⟩)] 114))) := (((Below.refl _ _).alloc (Nat.le_refl _) _).alloc (by simp) _).alloc (by simp; omega) _
 have N1 : Hid (Blk (((w.alloc (.cells #[.int .i64 n.k, .int .i64 n.a, .int .i64 n.b, .int .i64 n.c, .int .i64 n.n, .int .i64 n.m, .int .i64 n.s.i, .int .i64 n.s.w, .string n.t] 42)).alloc (.cells (cN default) 42)).alloc (.cells #[.pointer (some ⟨w.heap.size, 1, none⟩), .pointer (some ⟨w.heap.size, 2, none⟩), .pointer (some ⟨w.heap.size, 3, none⟩)] 114)) w.heap.size 42 (cN (pst T n 0))) := by rw [pst_0]; exact ((Blk.new _ _ _).alloc _).alloc _
 have Z1 : Hid (Blk (((w.alloc (.cells #[.int .i64 n.k, .int .i64 n.a, .int .i64 n.b, .int .i64 n.c, .int .i64 n.n, .int .i64 n.m, .int .i64 n.s.i, .int .i64 n.s.w, .string n.t] 42)).alloc (.cells (cN default) 42)).alloc (.cells #[.pointer (some ⟨w.heap.size, 1, none⟩), .pointer (some ⟨w.heap.size, 2, none⟩), .pointer (some ⟨w.heap.size, 3, none⟩)] 114)) (w.heap.size + 1) 42 (cN default)) := (Blk.new_at _ _ _ (by simp)).alloc _
 have P1 : Hid (Blk (((w.alloc (.cells #[.int .i64 n.k, .int .i64 n.a, .int .i64 n.b, .int .i64 n.c, .int .i64 n.n, .int .i64 n.m, .int .i64 n.s.i, .int .i64 n.s.w, .string n.t] 42)).alloc (.cells (cN default) 42)).alloc (.cells #[.pointer (some ⟨w.heap.size, 1, none⟩), .pointer (some ⟨w.heap.size, 2, none⟩), .pointer (some ⟨w.heap.size, 3, none⟩)] 114)) (w.heap.size + 1 + 1) 114 #[.pointer (some ⟨w.heap.size, 1, none⟩), .pointer (some ⟨w.heap.size, 2, none⟩), .pointer (some ⟨w.heap.size, 3, none⟩)]) := Blk.new_at _ _ _ (by simp)
 go_enter Tryz.func37, Tryz.ntmps37
 go_wp2_with fail
 go_loopw [12] (fun j wr => ∃ r : Nat, r ≤ 3 ∧ Hid (Below w.heap.size w wr) ∧ Hid (Blk wr w.heap.size 42 (cN (pst T n r))) ∧ Hid (Blk wr (w.heap.size + 1) 42 (cN default)) ∧
  Hid (Blk wr (w.heap.size + 1 + 1) 114 #[.pointer (some ⟨w.heap.size, 1, none⟩), .pointer (some ⟨w.heap.size, 2, none⟩), .pointer (some ⟨w.heap.size, 3, none⟩)]) ∧ j = .int .i64 (r : Int)) (fun j _ => 3 - (intOf j).toNat)
 case atStart => exact ⟨0, by decide, B1, N1, Z1, P1, rfl⟩
 case round =>
  obtain ⟨wz, rfl⟩ : ∃ x : World, x = wr := ⟨_, rfl⟩
  clear B1 N1 Z1 P1; obtain ⟨r, hr, Br, Nr, Zr, Pr, rfl⟩ := hrel; have p0 := Pr.out.cell 0; have p1 := Pr.out.cell 1; have p2 := Pr.out.cell 2; simp only [List.getElem?_toArray, List.getElem?_cons_zero, List.getElem?_cons_succ] at p0 p1 p2
  rcases (show r = 0 ∨ r = 1 ∨ r = 2 ∨ r = 3 by omega) with rfl | rfl | rfl | rfl
  · obtain ⟨y0, y1, y2, y3, y4, y5, y6, y7, y8⟩ := Nr.out.nine
    dsimp only [pst] at y0 y1 y2 y3 y4 y5 y6 y7 y8
    by_cases hlt : (0 : Int) < zK1 n.k
    · obtain ⟨q, hq, hql⟩ : ∃ q : Nat, n.a = (q : Int) ∧ q < T.length := by have := HP.out.1 hlt; exact ⟨n.a.toNat, by omega, by omega⟩
      obtain ⟨g, rfl, hg, hc⟩ := (HA.out.below Br.out) (by omega)
      have t0 := hc q hql; clear hc; have hj0 : (0 : Int) ≤ (q : Int) := by omega
      have hj1 : (q : Int) < (T.length : Int) := by omega
      have f1 := Nr.out.frozen 1; have z0 : wz.cell? ⟨w.heap.size, 1, none⟩ = some (.int .i64 (q : Int)) := by rw [y1]; simp [hq]
      have HS : Hid (Blk (wz.setCell ⟨w.heap.size, 1, none⟩ (.int .i64 T[q])) w.heap.size 42 (cN (pst T n 1))) := by
       have := Nr.out.set_ 1 (.int .i64 T[q])
       rw [show (cN (pst T n 0)).setIfInBounds 1 (.int .i64 T[q]) = cN (pst T n 1) by
        simp [cN, pst, hq, zPf hql]; try omega] at this
       exact this
      clear y1 hq
      go_wp2_with (go_at_call 98; refine (zK6 _ _).mono ?_; rintro e w1 ⟨rfl, rfl⟩)
      go_roundw
      case rel => exact ⟨1, by decide, Br.out.setCell (p := ⟨w.heap.size, 1, none⟩) (Nat.le_refl _) _, HS, Zr.out.far (p := ⟨w.heap.size, 1, none⟩) (by show w.heap.size + 1 ≠ w.heap.size; omega) _, Pr.out.far (p := ⟨w.heap.size, 1, none⟩) (by show w.heap.size + 1 + 1 ≠ w.heap.size; omega) _, rfl⟩
      case measure => simp [intOf]
    · have e : pst T n 1 = pst T n 0 := by unfold pst; simp; try omega
      have HN : Hid (Blk wz w.heap.size 42 (cN (pst T n 1))) := by rw [e]; exact Nr
      clear e; have hlt' : decide ((0 : Int) < zK1 n.k) = false := by simpa using hlt
      go_wp2_with (go_at_call 98; refine (zK6 _ _).mono ?_; rintro e w1 ⟨rfl, rfl⟩)
      go_roundw
      case rel => exact ⟨1, by decide, Br, HN, Zr, Pr, rfl⟩
      case measure => simp [intOf]
  · obtain ⟨y0, y1, y2, y3, y4, y5, y6, y7, y8⟩ := Nr.out.nine
    dsimp only [pst] at y0 y1 y2 y3 y4 y5 y6 y7 y8
    by_cases hlt : (1 : Int) < zK1 n.k
    · obtain ⟨q, hq, hql⟩ : ∃ q : Nat, n.b = (q : Int) ∧ q < T.length := by have := HP.out.2.1 hlt; exact ⟨n.b.toNat, by omega, by omega⟩
      obtain ⟨g, rfl, hg, hc⟩ := (HA.out.below Br.out) (by omega)
      have t0 := hc q hql; clear hc; have hj0 : (0 : Int) ≤ (q : Int) := by omega
      have hj1 : (q : Int) < (T.length : Int) := by omega
      have f1 := Nr.out.frozen 2; have z1 : wz.cell? ⟨w.heap.size, 2, none⟩ = some (.int .i64 (q : Int)) := by rw [y2]; simp [hq]
      have HS : Hid (Blk (wz.setCell ⟨w.heap.size, 2, none⟩ (.int .i64 T[q])) w.heap.size 42 (cN (pst T n 2))) := by
       have := Nr.out.set_ 2 (.int .i64 T[q])
       rw [show (cN (pst T n 1)).setIfInBounds 2 (.int .i64 T[q]) = cN (pst T n 2) by
        simp [cN, pst, hq, zPf hql]; try omega] at this
       exact this
      clear y2 hq
      go_wp2_with (go_at_call 98; refine (zK6 _ _).mono ?_; rintro e w1 ⟨rfl, rfl⟩)
      go_roundw
      case rel => exact ⟨2, by decide, Br.out.setCell (p := ⟨w.heap.size, 2, none⟩) (Nat.le_refl _) _, HS, Zr.out.far (p := ⟨w.heap.size, 2, none⟩) (by show w.heap.size + 1 ≠ w.heap.size; omega) _, Pr.out.far (p := ⟨w.heap.size, 2, none⟩) (by show w.heap.size + 1 + 1 ≠ w.heap.size; omega) _, rfl⟩
      case measure => simp [intOf]
    · have e : pst T n 2 = pst T n 1 := by unfold pst; simp; try omega
      have HN : Hid (Blk wz w.heap.size 42 (cN (pst T n 2))) := by rw [e]; exact Nr
      clear e; have hlt' : decide ((1 : Int) < zK1 n.k) = false := by simpa using hlt
      go_wp2_with (go_at_call 98; refine (zK6 _ _).mono ?_; rintro e w1 ⟨rfl, rfl⟩)
      go_roundw
      case rel => exact ⟨2, by decide, Br, HN, Zr, Pr, rfl⟩
      case measure => simp [intOf]
  · obtain ⟨y0, y1, y2, y3, y4, y5, y6, y7, y8⟩ := Nr.out.nine
    dsimp only [pst] at y0 y1 y2 y3 y4 y5 y6 y7 y8
    by_cases hlt : (2 : Int) < zK1 n.k
    · obtain ⟨q, hq, hql⟩ : ∃ q : Nat, n.c = (q : Int) ∧ q < T.length := by have := HP.out.2.2 hlt; exact ⟨n.c.toNat, by omega, by omega⟩
      obtain ⟨g, rfl, hg, hc⟩ := (HA.out.below Br.out) (by omega)
      have t0 := hc q hql; clear hc; have hj0 : (0 : Int) ≤ (q : Int) := by omega
      have hj1 : (q : Int) < (T.length : Int) := by omega
      have f1 := Nr.out.frozen 3; have z2 : wz.cell? ⟨w.heap.size, 3, none⟩ = some (.int .i64 (q : Int)) := by rw [y3]; simp [hq]
      have HS : Hid (Blk (wz.setCell ⟨w.heap.size, 3, none⟩ (.int .i64 T[q])) w.heap.size 42 (cN (pst T n 3))) := by
       have := Nr.out.set_ 3 (.int .i64 T[q])
       rw [show (cN (pst T n 2)).setIfInBounds 3 (.int .i64 T[q]) = cN (pst T n 3) by
        simp [cN, pst, hq, zPf hql]; try omega] at this
       exact this
      clear y3 hq
      go_wp2_with (go_at_call 98; refine (zK6 _ _).mono ?_; rintro e w1 ⟨rfl, rfl⟩)
      go_roundw
      case rel => exact ⟨3, by decide, Br.out.setCell (p := ⟨w.heap.size, 3, none⟩) (Nat.le_refl _) _, HS, Zr.out.far (p := ⟨w.heap.size, 3, none⟩) (by show w.heap.size + 1 ≠ w.heap.size; omega) _, Pr.out.far (p := ⟨w.heap.size, 3, none⟩) (by show w.heap.size + 1 + 1 ≠ w.heap.size; omega) _, rfl⟩
      case measure => simp [intOf]
    · have e : pst T n 3 = pst T n 2 := by unfold pst; simp; try omega
      have HN : Hid (Blk wz w.heap.size 42 (cN (pst T n 3))) := by rw [e]; exact Nr
      clear e; have hlt' : decide ((2 : Int) < zK1 n.k) = false := by simpa using hlt
      go_wp2_with (go_at_call 98; refine (zK6 _ _).mono ?_; rintro e w1 ⟨rfl, rfl⟩)
      go_roundw
      case rel => exact ⟨3, by decide, Br, HN, Zr, Pr, rfl⟩
      case measure => simp [intOf]
  · obtain ⟨y0, y1, y2, y3, y4, y5, y6, y7, y8⟩ := Nr.out.nine
    rw [pst_3] at y0 y1 y2 y3 y4 y5 y6 y7 y8; have f0 := Zr.out.frozen 0; have f1 := Zr.out.frozen 1; have f2 := Zr.out.frozen 2; have f3 := Zr.out.frozen 3; have f4 := Zr.out.frozen 4; have f5 := Zr.out.frozen 5; have f6 := Zr.out.frozen 6; have f7 := Zr.out.frozen 7; have f8 := Zr.out.frozen 8; obtain ⟨x0, x1, x2, x3, x4, x5, x6, x7, x8⟩ := Zr.out.nine
    go_wp2_with fail
    exact bodyPost_ret (v := .agg (cN (zJv T n))) (by simp [results, Tryz.results37, go_sem, cN, x0, x1, x2, x3, x4, x5, x6, x7, x8]) rfl ⟨rfl, zB4 Br.out (by omega) _ _ _ _ _ _ _ _ _⟩
def cB (b : Bi) : Array Value := #[.int .i64 b.st, .int .i64 b.nd]
def zC0 (l : List Bi) : List Value := l.flatMap fun b => (cB b).toList
theorem zC2 (l : List Bi) : (zC0 l).length = l.length * 2 := by
 induction l with
 | nil => rfl
 | cons x t ih => rw [zC0, List.flatMap_cons, List.length_append]; rw [zC0] at ih; rw [ih]; simp [cB]; omega
theorem zC1 {l : List Bi} {k : Nat} (h : k < l.length) {j : Nat} (hj : j < 2) : (zC0 l)[k * 2 + j]? = (cB l[k])[j]? := by
 induction l generalizing k with
 | nil => cases h
 | cons x t ih =>
  rw [zC0, List.flatMap_cons]; have hl : (cB x).toList.length = 2 := rfl
  cases k with
  | zero => rw [Nat.zero_mul, Nat.zero_add, List.getElem?_append_left (by omega)]; simp
  | succ k =>
   rw [List.getElem?_append_right (by omega), hl, show (k + 1) * 2 + j - 2 = k * 2 + j by omega]
   exact ih (by simpa using h)
theorem zC3 (l : List Bi) : ∀ u ∈ zC0 l, u.oneCell' = true := by
 intro u hu; obtain ⟨b, _, hb⟩ := List.mem_flatMap.1 hu; simp [cB] at hb
 rcases hb with rfl | rfl <;> rfl
theorem zCb (l : List No) : ∀ u ∈ zC6 l, u.oneCell' = true := by
 intro u hu; obtain ⟨n, _, hn⟩ := List.mem_flatMap.1 hu
 exact zCa n u hn
theorem zAl (g j : Nat) : (⟨g, 0, none⟩ : Addr).add j = ⟨g, j, none⟩ := by unfold Addr.add; split <;> simp_all
theorem zOc {w : World} {A : Option Addr} {c : Nat} {l : List Bi} (h : zA1 w A l) (hc : A = none → c = 0) : Src w A l.length c (zC0 l) := by
 cases A with
 | none =>
  have : l = [] := by
   cases l with
   | nil => rfl
   | cons x t => obtain ⟨g, e, _⟩ := h (by simp); cases e
  subst this
  exact .inl ⟨rfl, rfl, hc rfl, rfl⟩
 | some ad =>
  refine .inr ⟨ad, rfl, fun j u hu => ?_⟩
  have hj : j < l.length * 2 := by have := (List.getElem?_eq_some_iff.1 hu).1; rwa [zC2] at this
  have hk : j / 2 < l.length := by omega
  have hm : j % 2 < 2 := Nat.mod_lt _ (by decide)
  rw [show j = j / 2 * 2 + j % 2 by omega, zC1 hk hm] at hu
  obtain ⟨g, e, _, hcl⟩ := h (by omega)
  injection e with e
  subst e; rw [zAl, show j = j / 2 * 2 + j % 2 by omega]
  obtain ⟨h0, h1⟩ := hcl _ hk
  rcases (show j % 2 = 0 ∨ j % 2 = 1 by omega) with e | e <;> rw [e] at hu ⊢
  · exact h0.trans hu
  · exact h1.trans hu
theorem zOe {w : World} {A : Option Addr} {c : Nat} {l : List No} (h : zA9 w A l) (hc : A = none → c = 0) : Src w A l.length c (zC6 l) := by
 cases A with
 | none =>
  have : l = [] := by
   cases l with
   | nil => rfl
   | cons x t => obtain ⟨g, e, _⟩ := h (by simp); cases e
  subst this
  exact .inl ⟨rfl, rfl, hc rfl, rfl⟩
 | some ad =>
  refine .inr ⟨ad, rfl, fun j u hu => ?_⟩
  have hj : j < l.length * 9 := by have := (List.getElem?_eq_some_iff.1 hu).1; rwa [zC9] at this
  have hk : j / 9 < l.length := by omega
  have hm : j % 9 < 9 := Nat.mod_lt _ (by decide)
  rw [show j = j / 9 * 9 + j % 9 by omega, zC8 hk hm] at hu
  obtain ⟨g, e, _, hcl⟩ := h (by omega)
  injection e with e
  subst e; rw [zAl, show j = j / 9 * 9 + j % 9 by omega]
  obtain ⟨h0, h1, h2, h3, h4, h5, h6, h7, h8⟩ := hcl _ hk
  rcases (show j % 9 = 0 ∨ j % 9 = 1 ∨ j % 9 = 2 ∨ j % 9 = 3 ∨ j % 9 = 4 ∨ j % 9 = 5 ∨ j % 9 = 6 ∨ j % 9 = 7 ∨ j % 9 = 8 by omega) with e | e | e | e | e | e | e | e | e <;> rw [e] at hu ⊢
  · exact h0.trans hu
  · exact h1.trans hu
  · exact h2.trans hu
  · exact h3.trans hu
  · exact h4.trans hu
  · exact h5.trans hu
  · exact h6.trans hu
  · exact h7.trans hu
  · exact h8.trans hu
theorem zF3 : (Tryz.prog.info? 55).map (fun i => (i.zero, i.size, i.bytes)) = some (some (.agg #[.int .i64 0, .int .i64 0]), 2, 16) := by kernel_rfl
theorem zCn (A : Option Addr) (c : Nat) (l : List Bi) (w : World) (h : zA1 w A l) (hc : A = none → c = 0) (hn : l.length ≤ 1048576) :
 Calls Tryz.prog 99 #[.slice A l.length c] w fun e w' => ∃ A' c', e = .returned (.slice A' l.length c') ∧ w'.ownsRow w.heap.size 55 2 (.slice A' l.length c') l.length (zC0 l) ∧ Below w.heap.size w w' := by
 have HS := Kh (zOc h hc); clear h hc; obtain ⟨i3, hi, hz0, hz1, hz2⟩ := info_parts zF3
 go_enter Tryz.func99, Tryz.ntmps99
 go_wp2_with (at_builtin; refine zR2 rfl _ _ 29 rfl w.heap.size 55 i3 (.agg #[.int .i64 0, .int .i64 0]) 2 16 Tryz.underlying29 hi hz0 hz1 hz2 rfl (by decide) _ 0 [] rfl (World.ownsRow_nil _ _ _ _) A l.length c (zC0 l) rfl (by exact HS.out) (zC2 l) (zC3 l) (by unfold maxLen; omega) (by omega) (Nat.le_refl _) ?_; intro A' c' w3 ho3 hg3 hor3)
 go_ret; replace hg3 : World.grownBy _ w3 none := hg3
 simp only [Nat.zero_add, List.nil_append] at ho3 ⊢
 exact ⟨A', c', rfl, ho3, (Below.refl _ _).grown hg3 (Nat.le_refl _) (by simp)⟩
structure MoNew (w : World) (B : Nat) (A0 A1 A2 A3 A4 : Option Addr) (c0 c1 c2 c3 c4 : Nat) (m : Mo) : Prop where
 ns : w.ownsRow B 42 9 (.slice A0 m.ns.length c0) m.ns.length (zC6 m.ns)
 ins : w.ownsRow B 55 2 (.slice A1 m.ins.length c1) m.ins.length (zC0 m.ins)
 nxs : w.ownsRow B 55 2 (.slice A2 m.nxs.length c2) m.nxs.length (zC0 m.nxs)
 bads : w.ownsRow B 3 1 (.slice A3 m.bads.length c3) m.bads.length (m.bads.map (.int .i64))
 hols : w.ownsRow B 3 1 (.slice A4 m.hols.length c4) m.hols.length (m.hols.map (.int .i64))
 apB : A1 = none ∨ A1 ≠ A2
 apI : A3 = none ∨ A3 ≠ A4
theorem MoNew.below {w w' : World} {B : Nat} {A0 A1 A2 A3 A4 : Option Addr} {c0 c1 c2 c3 c4 : Nat} {m : Mo} (h : MoNew w B A0 A1 A2 A3 A4 c0 c1 c2 c3 c4 m) (hb : Below w.heap.size w w') : MoNew w' B A0 A1 A2 A3 A4 c0 c1 c2 c3 c4 m :=
 ⟨zJ9 h.ns hb, zJ9 h.ins hb, zJ9 h.nxs hb, zJ9 h.bads hb, zJ9 h.hols hb, h.apB, h.apI⟩
theorem zJ8 {w w2 : World} {b B : Nat} {e e2 : TypeId} {s s2 n n2 c c2 : Nat} {A A2 : Option Addr} {xs xs2 : List Value} (h : w.ownsRow b e s (.slice A n c) n xs) (h2 : w2.ownsRow B e2 s2 (.slice A2 n2 c2) n2 xs2) (hB : w.heap.size ≤ B) : A = none ∨ A ≠ A2 := by
 rcases h.2 with ⟨hv, _⟩ | ⟨g, cap, cur, hv, hg, hh, _⟩
 · injection hv with hv; exact .inl hv
 · refine .inr ?_
   injection hv with hv
   subst hv; have hlt : g < w.heap.size := (Array.getElem?_eq_some_iff.1 hh).1
   rintro rfl
   rcases h2.2 with ⟨hv2, _⟩ | ⟨g2, cap2, cur2, hv2, hg2, _⟩
   · injection hv2 with hv2; cases hv2
   · injection hv2 with hv2
     injection hv2 with hv2
     injection hv2 with hv2
     omega
structure MoNil (A0 A1 A2 A3 A4 : Option Addr) (c0 c1 c2 c3 c4 : Nat) : Prop where
 n0 : A0 = none → c0 = 0
 n1 : A1 = none → c1 = 0
 n2 : A2 = none → c2 = 0
 n3 : A3 = none → c3 = 0
 n4 : A4 = none → c4 = 0
structure MoR (w : World) (A0 A1 A2 A3 A4 : Option Addr) (m : Mo) : Prop where
 ns : zA9 w A0 m.ns
 ins : zA1 w A1 m.ins
 nxs : zA1 w A2 m.nxs
 bads : IAt w A3 m.bads
 hols : IAt w A4 m.hols
 len : m.ns.length ≤ 1048576 ∧ m.ins.length ≤ 1048576 ∧ m.nxs.length ≤ 1048576 ∧ m.bads.length ≤ 1048576 ∧ m.hols.length ≤ 1048576
theorem MoR.below {w w' : World} {A0 A1 A2 A3 A4 : Option Addr} {m : Mo} (h : MoR w A0 A1 A2 A3 A4 m) (hb : Below w.heap.size w w') : MoR w' A0 A1 A2 A3 A4 m :=
 ⟨h.ns.below hb, h.ins.below hb, h.nxs.below hb, h.bads.below hb, h.hols.below hb, h.len⟩
theorem zB3 {B : Nat} {w w' : World} (h : Below B w w') {g : Nat} (hg : B ≤ g) (v0 v1 v2 v3 v4 : Value) :
 Below B w (((((w'.setCell ⟨g, 0, none⟩ v0).setCell ⟨g, 1, none⟩ v1).setCell ⟨g, 2, none⟩ v2).setCell ⟨g, 3, none⟩ v3).setCell ⟨g, 4, none⟩ v4) :=
 ((((h.setCell (p := ⟨g, 0, none⟩) hg _).setCell (p := ⟨g, 1, none⟩) hg _).setCell (p := ⟨g, 2, none⟩) hg _).setCell (p := ⟨g, 3, none⟩) hg _).setCell (p := ⟨g, 4, none⟩) hg _
theorem zJn {w : World} {base : Nat} {e : TypeId} {size : Nat} {v : Value} {n : Nat} {xs : List Value} (h : w.ownsRow base e size v n xs) {g : Nat} (hne : v.ownBlock ≠ some g) (v0 v1 v2 v3 v4 : Value) :
 (((((w.setCell ⟨g, 0, none⟩ v0).setCell ⟨g, 1, none⟩ v1).setCell ⟨g, 2, none⟩ v2).setCell ⟨g, 3, none⟩ v3).setCell ⟨g, 4, none⟩ v4).ownsRow base e size v n xs :=
 zJb (zJb (zJb (zJb (zJb h (p := ⟨g, 0, none⟩) hne _) (p := ⟨g, 1, none⟩) hne _) (p := ⟨g, 2, none⟩) hne _) (p := ⟨g, 3, none⟩) hne _) (p := ⟨g, 4, none⟩) hne _
theorem MoNew.put5 {w : World} {B : Nat} {A0 A1 A2 A3 A4 : Option Addr} {c0 c1 c2 c3 c4 : Nat} {m : Mo} (h : MoNew w B A0 A1 A2 A3 A4 c0 c1 c2 c3 c4 m) {g : Nat} {cs : Array Value} (hg : Blk w g 31 cs) (v0 v1 v2 v3 v4 : Value) :
 MoNew (((((w.setCell ⟨g, 0, none⟩ v0).setCell ⟨g, 1, none⟩ v1).setCell ⟨g, 2, none⟩ v2).setCell ⟨g, 3, none⟩ v3).setCell ⟨g, 4, none⟩ v4) B A0 A1 A2 A3 A4 c0 c1 c2 c3 c4 m :=
 ⟨zJn h.ns (zJg h.ns hg (by decide)) _ _ _ _ _, zJn h.ins (zJg h.ins hg (by decide)) _ _ _ _ _, zJn h.nxs (zJg h.nxs hg (by decide)) _ _ _ _ _, zJn h.bads (zJg h.bads hg (by decide)) _ _ _ _ _,
  zJn h.hols (zJg h.hols hg (by decide)) _ _ _ _ _, h.apB, h.apI⟩
theorem Blk.far5 {w : World} {g q : Nat} {t : TypeId} {cs : Array Value} (h : Blk w g t cs) (hne : g ≠ q) (v0 v1 v2 v3 v4 : Value) : Blk (((((w.setCell ⟨q, 0, none⟩ v0).setCell ⟨q, 1, none⟩ v1).setCell ⟨q, 2, none⟩ v2).setCell ⟨q, 3, none⟩ v3).setCell ⟨q, 4, none⟩ v4) g t cs :=
 ((((h.far (p := ⟨q, 0, none⟩) hne _).far (p := ⟨q, 1, none⟩) hne _).far (p := ⟨q, 2, none⟩) hne _).far (p := ⟨q, 3, none⟩) hne _).far (p := ⟨q, 4, none⟩) hne _
def MoTo (w : World) (m : Mo) (e : Ending) (w' : World) : Prop :=
 ∃ A0 A1 A2 A3 A4 c0 c1 c2 c3 c4, e = .returned (.agg #[.slice A0 m.ns.length c0, .slice A1 m.ins.length c1, .slice A2 m.nxs.length c2, .slice A3 m.bads.length c3, .slice A4 m.hols.length c4]) ∧ MoNew w' w.heap.size A0 A1 A2 A3 A4 c0 c1 c2 c3 c4 m ∧ Below w.heap.size w w'
theorem zCp (A0 A1 A2 A3 A4 : Option Addr) (c0 c1 c2 c3 c4 : Nat) (m : Mo) (w : World) (hM : MoR w A0 A1 A2 A3 A4 m) (hN : MoNil A0 A1 A2 A3 A4 c0 c1 c2 c3 c4) :
 Calls Tryz.prog 39 #[.agg #[.slice A0 m.ns.length c0, .slice A1 m.ins.length c1, .slice A2 m.nxs.length c2, .slice A3 m.bads.length c3, .slice A4 m.hols.length c4]] w fun e w' => MoTo w m e w' := by
 have HM := Kh hM; have HN := Kh hN; obtain ⟨l0, l1, l2, l3, l4⟩ := hM.len; clear hM hN; obtain ⟨i42, hi, hz0, hz1, hz2⟩ := info_parts zF5; have Hi := Kh hi; have Hz0 := Kh hz0; have Hz1 := Kh hz1; have Hz2 := Kh hz2; clear hi hz0 hz1 hz2; have HW : Hid (Below w.heap.size w ((w.alloc (.cells #[.slice A0 m.ns.length c0, .slice A1 m.ins.length c1, .slice A2 m.nxs.length c2, .slice A3 m.bads.length c3, .slice A4 m.hols.length c4] 31)).alloc (.cells #[.slice none 0 0, .slice none 0 0, .slice none 0 0, .slice none 0 0, .slice none 0 0] 31))) := ((Below.refl _ _).alloc (Nat.le_refl _) _).alloc (by simp) _
 have HX : Hid (Blk ((w.alloc (.cells #[.slice A0 m.ns.length c0, .slice A1 m.ins.length c1, .slice A2 m.nxs.length c2, .slice A3 m.bads.length c3, .slice A4 m.hols.length c4] 31)).alloc (.cells #[.slice none 0 0, .slice none 0 0, .slice none 0 0, .slice none 0 0, .slice none 0 0] 31)) w.heap.size 31 #[.slice A0 m.ns.length c0, .slice A1 m.ins.length c1, .slice A2 m.nxs.length c2, .slice A3 m.bads.length c3, .slice A4 m.hols.length c4]) := (Blk.new _ _ _).alloc _; have HZ : Hid (Blk ((w.alloc (.cells #[.slice A0 m.ns.length c0, .slice A1 m.ins.length c1, .slice A2 m.nxs.length c2, .slice A3 m.bads.length c3, .slice A4 m.hols.length c4] 31)).alloc (.cells #[.slice none 0 0, .slice none 0 0, .slice none 0 0, .slice none 0 0, .slice none 0 0] 31)) (w.heap.size + 1) 31 #[.slice none 0 0, .slice none 0 0, .slice none 0 0, .slice none 0 0, .slice none 0 0]) := Blk.new_at _ _ _ (by simp)
 go_enter Tryz.func39, Tryz.ntmps39
 go_wp2_with fail
 generalize ((w.alloc (.cells #[.slice A0 m.ns.length c0, .slice A1 m.ins.length c1, .slice A2 m.nxs.length c2, .slice A3 m.bads.length c3, .slice A4 m.hols.length c4] 31)).alloc (.cells #[.slice none 0 0, .slice none 0 0, .slice none 0 0, .slice none 0 0, .slice none 0 0] 31)) = wz at *; have HNE : Hid (w.heap.size ≠ w.heap.size + 1) := Kh (by omega)
 have HW := Kh HW.out.drew; have HX := Kh HX.out.drew; have HZ := Kh HZ.out.drew; have f0 := HZ.out.frozen 0; have f1 := HZ.out.frozen 1; have f2 := HZ.out.frozen 2; have f3 := HZ.out.frozen 3; have f4 := HZ.out.frozen 4; obtain ⟨x0, x1, x2, x3, x4⟩ := HZ.out.five
 go_region_held3 (fun W => W.cell? ⟨w.heap.size, 0, none⟩ = some (.slice A0 m.ns.length c0) ∧ W.cell? ⟨w.heap.size, 1, none⟩ = some (.slice A1 m.ins.length c1) ∧ W.cell? ⟨w.heap.size, 2, none⟩ = some (.slice A2 m.nxs.length c2) ∧ W.cell? ⟨w.heap.size, 3, none⟩ = some (.slice A3 m.bads.length c3) ∧ W.cell? ⟨w.heap.size, 4, none⟩ = some (.slice A4 m.hols.length c4)) (first | with_reducible exact HX.out.five | with_reducible exact (HX.out.far5 HNE.out _ _ _ _ _).five) (first
  | ((with_reducible show Calls _ _ #[.slice A1 _ _] _ _); go_at_call 99; refine (zCn A1 c1 m.ins _ (by exact (HM.out.below HW.out).ins) HN.out.n1 l1).mono ?_; rintro e w1 ⟨B1, d1, rfl, ho, hb⟩; have HS := Kh HW.out.size; have HW := Kh (HW.out.trans (hb.mono HW.out.size)); have HX := Kh (HX.out.below hb HX.out.lt); have HZ := Kh (HZ.out.below hb HZ.out.lt); (try have O0 := Kh (zJ9 O0.out hb)); (try have O1 := Kh (zJ9 O1.out hb)); (try have O2 := Kh (zJ9 O2.out hb)); (try have O3 := Kh (zJ9 O3.out hb)); (try have O4 := Kh (zJ9 O4.out hb));  have O1 := Kh (zJf ho HS.out); clear f0 f1 f2 f3 f4 x0 x1 x2 x3 x4; have f0 := HZ.out.frozen 0; have f1 := HZ.out.frozen 1; have f2 := HZ.out.frozen 2; have f3 := HZ.out.frozen 3; have f4 := HZ.out.frozen 4; obtain ⟨x0, x1, x2, x3, x4⟩ := HZ.out.five; clear ho hb)
  | ((with_reducible show Calls _ _ #[.slice A2 _ _] _ _); go_at_call 99; refine (zCn A2 c2 m.nxs _ (by exact (HM.out.below HW.out).nxs) HN.out.n2 l2).mono ?_; rintro e w1 ⟨B2, d2, rfl, ho, hb⟩; have AP1 := Kh (zJ8 O1.out ho (Nat.le_refl _)); have HS := Kh HW.out.size; have HW := Kh (HW.out.trans (hb.mono HW.out.size)); have HX := Kh (HX.out.below hb HX.out.lt); have HZ := Kh (HZ.out.below hb HZ.out.lt); (try have O0 := Kh (zJ9 O0.out hb)); (try have O1 := Kh (zJ9 O1.out hb)); (try have O2 := Kh (zJ9 O2.out hb)); (try have O3 := Kh (zJ9 O3.out hb)); (try have O4 := Kh (zJ9 O4.out hb));  have O2 := Kh (zJf ho HS.out); clear f0 f1 f2 f3 f4 x0 x1 x2 x3 x4; have f0 := HZ.out.frozen 0; have f1 := HZ.out.frozen 1; have f2 := HZ.out.frozen 2; have f3 := HZ.out.frozen 3; have f4 := HZ.out.frozen 4; obtain ⟨x0, x1, x2, x3, x4⟩ := HZ.out.five; clear ho hb)
  | ((with_reducible show Calls _ _ #[.slice A3 _ _] _ _); go_at_call 100; refine (zCo A3 c3 m.bads _ (by exact (HM.out.below HW.out).bads) HN.out.n3 l3).mono ?_; rintro e w1 ⟨B3, d3, rfl, ho, hb⟩; have HS := Kh HW.out.size; have HW := Kh (HW.out.trans (hb.mono HW.out.size)); have HX := Kh (HX.out.below hb HX.out.lt); have HZ := Kh (HZ.out.below hb HZ.out.lt); (try have O0 := Kh (zJ9 O0.out hb)); (try have O1 := Kh (zJ9 O1.out hb)); (try have O2 := Kh (zJ9 O2.out hb)); (try have O3 := Kh (zJ9 O3.out hb)); (try have O4 := Kh (zJ9 O4.out hb));  have O3 := Kh (zJf ho HS.out); clear f0 f1 f2 f3 f4 x0 x1 x2 x3 x4; have f0 := HZ.out.frozen 0; have f1 := HZ.out.frozen 1; have f2 := HZ.out.frozen 2; have f3 := HZ.out.frozen 3; have f4 := HZ.out.frozen 4; obtain ⟨x0, x1, x2, x3, x4⟩ := HZ.out.five; clear ho hb)
  | ((with_reducible show Calls _ _ #[.slice A4 _ _] _ _); go_at_call 100; refine (zCo A4 c4 m.hols _ (by exact (HM.out.below HW.out).hols) HN.out.n4 l4).mono ?_; rintro e w1 ⟨B4, d4, rfl, ho, hb⟩; have AP3 := Kh (zJ8 O3.out ho (Nat.le_refl _)); have HS := Kh HW.out.size; have HW := Kh (HW.out.trans (hb.mono HW.out.size)); have HX := Kh (HX.out.below hb HX.out.lt); have HZ := Kh (HZ.out.below hb HZ.out.lt); (try have O0 := Kh (zJ9 O0.out hb)); (try have O1 := Kh (zJ9 O1.out hb)); (try have O2 := Kh (zJ9 O2.out hb)); (try have O3 := Kh (zJ9 O3.out hb)); (try have O4 := Kh (zJ9 O4.out hb));  have O4 := Kh (zJf ho HS.out); clear f0 f1 f2 f3 f4 x0 x1 x2 x3 x4; have f0 := HZ.out.frozen 0; have f1 := HZ.out.frozen 1; have f2 := HZ.out.frozen 2; have f3 := HZ.out.frozen 3; have f4 := HZ.out.frozen 4; obtain ⟨x0, x1, x2, x3, x4⟩ := HZ.out.five; clear ho hb)
  | (refine zOl rfl (.const (.slice none 0 0)) (.tmp 4) 28 rfl w.heap.size 42 i42 _ 9 80 Tryz.underlying28 Hi.out Hz0.out Hz1.out Hz2.out rfl (by decide) _ 0 [] rfl (World.ownsRow_nil _ _ _ _) A0 m.ns.length c0 (zC6 m.ns) rfl (by exact zOe (HM.out.below HW.out).ns HN.out.n0) (zC9 m.ns) (zCb m.ns) (by unfold maxLen; omega) (by omega) (by exact HW.out.size) ?_; intro B0 d0 w1 ho hg3 hor3; replace hg3 : World.grownBy _ w1 none := hg3; have hb := (Below.refl _ _).grown hg3 (Nat.le_refl _) (by simp); simp only [Nat.zero_add, List.nil_append] at ho ⊢; have HS := Kh HW.out.size; have HW := Kh (HW.out.trans (hb.mono HW.out.size)); have HX := Kh (HX.out.below hb HX.out.lt); have HZ := Kh (HZ.out.below hb HZ.out.lt); (try have O0 := Kh (zJ9 O0.out hb)); (try have O1 := Kh (zJ9 O1.out hb)); (try have O2 := Kh (zJ9 O2.out hb)); (try have O3 := Kh (zJ9 O3.out hb)); (try have O4 := Kh (zJ9 O4.out hb));  have O0 := Kh ho; clear hg3 hor3; clear f0 f1 f2 f3 f4 x0 x1 x2 x3 x4; have f0 := HZ.out.frozen 0; have f1 := HZ.out.frozen 1; have f2 := HZ.out.frozen 2; have f3 := HZ.out.frozen 3; have f4 := HZ.out.frozen 4; obtain ⟨x0, x1, x2, x3, x4⟩ := HZ.out.five; clear ho hb))
 all_goals
  go_wp2_with fail
  exact bodyPost_ret (v := .agg #[.slice B0 m.ns.length d0, .slice B1 m.ins.length d1, .slice B2 m.nxs.length d2, .slice B3 m.bads.length d3, .slice B4 m.hols.length d4]) (by simp [results, Tryz.results39, go_sem, x0, x1, x2, x3, x4]) rfl
   ⟨B0, B1, B2, B3, B4, d0, d1, d2, d3, d4, rfl, MoNew.put5 ⟨O0.out, O1.out, O2.out, O3.out, O4.out, AP1.out, AP3.out⟩ HZ.out _ _ _ _ _, zB3 HW.out (by omega) _ _ _ _ _⟩
end Go.Proofs.YtmolbnghobfmoaaGreat
