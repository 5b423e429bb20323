/- Part 26 of what the row Row28 rests on: F28. -/
import Derived.StillTailTactics
import Derived.Test.YtmolbnghobfmoaaGreatP25
set_option maxRecDepth 100000
set_option maxHeartbeats 16000000
set_option linter.unusedSimpArgs false
set_option linter.unusedVariables false
namespace Go.Proofs.YtmolbnghobfmoaaGreat
open Go.RowKit
theorem zA6.from {w w1 w' : World} {B gf : Nat} {A : Option Addr} {c : Nat} {L : List No} {kn : Kn} {e : Ending} (h : zA6 w1 B gf A c L kn e w') (hb : Below w.heap.size w w1) (hB : B ≤ w.heap.size) : zA6 w B gf A c L kn e w' := by
 cases kn with
 | no => exact ⟨h.1, hb.trans (h.2.mono hb.size)⟩
 | «at» p => exact ⟨h.1, hb.trans (h.2.mono hb.size)⟩
 | con wd v =>
  obtain ⟨A', c', h1, h2, h3, h4⟩ := h
  exact ⟨A', c', h1, h2, (hb.mono hB).trans h3, fun k hk a b => (h4 k (Nat.lt_of_lt_of_le hk hb.size) a b).trans (hb.block k hk)⟩
structure RIn (w : World) (B gf : Nat) (A : Option Addr) (c : Nat) (L : List No) (n : No) : Prop where
 fold : FoldAt w B gf A c L
 few : L.length ≤ 60
 ok : zAb L
 inn : zAa L n
def nC (n : No) : Array Value := #[.int .i64 n.k, .int .i64 n.a, .int .i64 n.b, .int .i64 n.c, .int .i64 n.n, .int .i64 n.m, .int .i64 n.s.i, .int .i64 n.s.w, .string n.t]
theorem RIn.all {w : World} {B gf : Nat} {A : Option Addr} {c : Nat} {L : List No} {n : No} (h : RIn w B gf A c L n) (V : Bool) (hV : zAr L n = V) (W : World) (hW : Below w.heap.size w W) :
 Calls Tryz.prog 145 #[.pointer (some ⟨gf, 0, none⟩), .agg #[.int .i64 n.k, .int .i64 n.a, .int .i64 n.b, .int .i64 n.c, .int .i64 n.n, .int .i64 n.m, .int .i64 n.s.i, .int .i64 n.s.w, .string n.t]] W fun e w' => e = .returned (.bool V) ∧ Below W.heap.size W w' := by
 rw [← hV]; exact all_any B gf A c L n W (h.fold.below hW) h.few h.inn
theorem RIn.see {w : World} {B gf : Nat} {A : Option Addr} {c : Nat} {L : List No} {n : No} (h : RIn w B gf A c L n) {q : Nat} (hq : q < L.length) : ∃ g, A = some ⟨g, 0, none⟩ ∧ ∀ W, Below w.heap.size w W → W.cell? ⟨gf, 0, none⟩ = some (.slice (some ⟨g, 0, none⟩) L.length c) ∧
 W.cell? ⟨g, q * 9, none⟩ = some (.int .i64 (noAt L (q : Int)).k) ∧ W.cell? ⟨g, q * 9 + 1, none⟩ = some (.int .i64 (noAt L (q : Int)).a) ∧ W.cell? ⟨g, q * 9 + 2, none⟩ = some (.int .i64 (noAt L (q : Int)).b) ∧ W.cell? ⟨g, q * 9 + 3, none⟩ = some (.int .i64 (noAt L (q : Int)).c) ∧
    W.cell? ⟨g, q * 9 + 4, none⟩ = some (.int .i64 (noAt L (q : Int)).n) ∧ W.cell? ⟨g, q * 9 + 5, none⟩ = some (.int .i64 (noAt L (q : Int)).m) ∧ W.cell? ⟨g, q * 9 + 6, none⟩ = some (.int .i64 (noAt L (q : Int)).s.i) ∧ W.cell? ⟨g, q * 9 + 7, none⟩ = some (.int .i64 (noAt L (q : Int)).s.w) ∧
    W.cell? ⟨g, q * 9 + 8, none⟩ = some (.string (noAt L (q : Int)).t) := by
 obtain ⟨g, hA, hg, hc⟩ := h.fold.noAt (by omega)
 subst hA; obtain ⟨y0, y1, y2, y3, y4, y5, y6, y7, y8⟩ := hc q hq; rw [← zIb hq] at y0 y1 y2 y3 y4 y5 y6 y7 y8; have b0 := h.fold.blk.cell 0; simp only [List.getElem?_toArray, List.getElem?_cons_zero] at b0
 refine ⟨g, rfl, fun W hW => ?_⟩
 have f : ∀ j, W.cell? ⟨g, j, none⟩ = w.cell? ⟨g, j, none⟩ := fun j => hW.cell (p := ⟨g, j, none⟩) hg
 exact ⟨(hW.cell (p := ⟨gf, 0, none⟩) h.fold.blk.lt).trans b0, (f _).trans y0, (f _).trans y1, (f _).trans y2, (f _).trans y3, (f _).trans y4, (f _).trans y5, (f _).trans y6, (f _).trans y7, (f _).trans y8⟩
theorem zL6 (B gf : Nat) (A : Option Addr) (c : Nat) (L : List No) (k na nb nc nn nm : Int) (si sw : Int) (nt : ByteArray) (w : World) (h : RIn w B gf A c L ⟨k, na, nb, nc, nn, nm, ⟨si, sw⟩, nt⟩) (hall : zAr L ⟨k, na, nb, nc, nn, nm, ⟨si, sw⟩, nt⟩ = true) :
 Calls Tryz.prog 95 #[.pointer (some ⟨gf, 0, none⟩), .agg #[.int .i64 k, .int .i64 na, .int .i64 nb, .int .i64 nc, .int .i64 nn, .int .i64 nm, .int .i64 si, .int .i64 sw, .string nt]] w fun e w' => zA6 w B gf A c L (.con sw (zD7 L ⟨k, na, nb, nc, nn, nm, ⟨si, sw⟩, nt⟩)) e w' := by
 have H := Kh h; clear h; have hB : B ≤ w.heap.size := Nat.le_trans H.out.fold.base (Nat.le_of_lt H.out.fold.blk.lt); have B1 := bx w #[.int .i64 k, .int .i64 na, .int .i64 nb, .int .i64 nc, .int .i64 nn, .int .i64 nm, .int .i64 si, .int .i64 sw, .string nt] 42; have N1 := nx w #[.int .i64 k, .int .i64 na, .int .i64 nb, .int .i64 nc, .int .i64 nn, .int .i64 nm, .int .i64 si, .int .i64 sw, .string nt] 42; have TA := Kh (H.out.all true hall _ B1.out); have HA := Kh hall; clear hall; have hx : ¬ (k = 35 ∨ k = 36) := by have := zAs H.out.ok H.out.inn HA.out; simp only at this; omega
 have TV := Kh (fun (W : World) (hW : Below w.heap.size w W) => zPx B gf A c L ⟨k, na, nb, nc, nn, nm, ⟨si, sw⟩, nt⟩ W (H.out.fold.below hW) H.out.few H.out.ok H.out.inn HA.out hx)
 have TC := Kh (fun (v : Int) (W : World) (hW : Below w.heap.size w W) => zD3 B gf A c L sw v W (H.out.fold.below hW) (by have := H.out.few; omega))
 obtain ⟨V, hV⟩ : ∃ V, zD7 L ⟨k, na, nb, nc, nn, nm, ⟨si, sw⟩, nt⟩ = V := ⟨_, rfl⟩
 rw [hV] at TV ⊢; clear hx hV
 go_enter Tryz.func95, Tryz.ntmps95
 go_wp2_with (go_at_call 145; refine TA.out.mono ?_; rintro e w2 ⟨rfl, hb2⟩; have B2 := Kh (B1.out.trans (hb2.mono B1.out.size)); have N2 := Kh (N1.out.below hb2 N1.out.lt); clear hb2)
 have kk := fun x : Ext w2 => (N2.out.below x.2 N2.out.lt).nine
 have k0 := fun x : Ext w2 => (kk x).1
 have k1 := fun x : Ext w2 => (kk x).2.1
 have k2 := fun x : Ext w2 => (kk x).2.2.1
 have k3 := fun x : Ext w2 => (kk x).2.2.2.1
 have k4 := fun x : Ext w2 => (kk x).2.2.2.2.1
 have k5 := fun x : Ext w2 => (kk x).2.2.2.2.2.1
 have k6 := fun x : Ext w2 => (kk x).2.2.2.2.2.2.1
 have k7 := fun x : Ext w2 => (kk x).2.2.2.2.2.2.2.1
 have k8 := fun x : Ext w2 => (kk x).2.2.2.2.2.2.2.2
 clear kk; have T := Kh (fun x : Ext w2 => TV.out x.1 (B2.out.trans (x.2.mono B2.out.size)))
 refine zR5 7 (by kernel_rfl) (by kernel_rfl) ?_
 simp only [List.take_succ_cons, List.take_zero, List.drop_succ_cons, List.drop_zero]
 repeat go_big_quiet_step ((go_at_call 147; exact zDs _ (T.out _)))
 refine wpQuiet_nil ?_
 intro wt hwt; obtain ⟨x, hwx⟩ := hwt; subst hwx; have B5 := Kh (B2.out.trans (x.2.mono B2.out.size)); clear k0 k1 k2 k3 k4 k5 k6 k7 k8 T
 go_wp2_with (go_at_call 146; refine (TC.out _ _ B5.out).mono ?_; rintro e w4 ⟨A', c', rfl, h1, h2, h3⟩; have F4 := Kh h1; have B4 := Kh ((B5.out.mono hB).trans h2); have H4 := Kh (fun k hk a b => (h3 k (Nat.lt_of_lt_of_le hk B5.out.size) a b).trans (B5.out.block k hk)); clear h1 h2 h3)
 exact bodyPost_ret (v := .tuple #[.int .i64 (zKm L (zD0 sw V)).2, .bool true]) (by simp [results, Tryz.results95, go_sem]) rfl ⟨A', c', rfl, F4.out, B4.out, H4.out⟩
theorem rule_if (B gf : Nat) (A : Option Addr) (c : Nat) (L : List No) (na nb nc nn nm : Int) (si sw : Int) (nt : ByteArray) (w : World) (h : RIn w B gf A c L ⟨33, na, nb, nc, nn, nm, ⟨si, sw⟩, nt⟩) (hall : zAr L ⟨33, na, nb, nc, nn, nm, ⟨si, sw⟩, nt⟩ = false) :
 Calls Tryz.prog 95 #[.pointer (some ⟨gf, 0, none⟩), .agg #[.int .i64 33, .int .i64 na, .int .i64 nb, .int .i64 nc, .int .i64 nn, .int .i64 nm, .int .i64 si, .int .i64 sw, .string nt]] w fun e w' => zA6 w B gf A c L (zFu L ⟨33, na, nb, nc, nn, nm, ⟨si, sw⟩, nt⟩) e w' := by
 have H := Kh h; clear h; have hB : B ≤ w.heap.size := Nat.le_trans H.out.fold.base (Nat.le_of_lt H.out.fold.blk.lt); have B1 := bx w #[.int .i64 33, .int .i64 na, .int .i64 nb, .int .i64 nc, .int .i64 nn, .int .i64 nm, .int .i64 si, .int .i64 sw, .string nt] 42; have N1 := nx w #[.int .i64 33, .int .i64 na, .int .i64 nb, .int .i64 nc, .int .i64 nn, .int .i64 nm, .int .i64 si, .int .i64 sw, .string nt] 42; have TA := Kh (H.out.all false hall _ B1.out); have HA := Kh hall; clear hall; obtain ⟨qa, hqa, hqa'⟩ : ∃ q : Nat, na = (q : Int) ∧ q < L.length := by have := (H.out.inn.a (by show (0 : Int) < zK1 33; decide)).1; simp only at this; exact ⟨na.toNat, by omega, by omega⟩
 subst hqa; obtain ⟨s1, s2, s3⟩ := H.out.inn.sort33 rfl; simp only at s1; have T4 := Kh (fun (W : World) (hW : Below w.heap.size w W) => zFe B gf A c L qa W (H.out.fold.below hW) (by have := H.out.few; omega) hqa')
 have ek : zFu L ⟨33, (qa : Int), nb, nc, nn, nm, ⟨si, sw⟩, nt⟩ = if isC L (qa : Int) 1 then .at nb else if isC L (qa : Int) 0 then .at nc else if nb = nc then .at nb else .no := by
  unfold zFu; rw [if_neg (by rw [HA.out]; decide)]; simp
 rw [ek]; clear ek
 by_cases h34 : (noAt L (qa : Int)).k = 34
 case neg =>
  rw [zFb h34, zFb h34, if_neg (by decide), if_neg (by decide)]
  rw [decide_eq_false h34] at T4; clear h34
  by_cases hbc : nb = nc
  · subst hbc
    rw [if_pos rfl]
    go_enter Tryz.func95, Tryz.ntmps95
    go_wp2_with (first | (go_at_call 145; refine TA.out.mono ?_; rintro e w2 ⟨rfl, hb2⟩; have B2 := Kh (B1.out.trans (hb2.mono B1.out.size)); have N2 := Kh (N1.out.below hb2 N1.out.lt); obtain ⟨y0, y1, y2, y3, y4, y5, y6, y7, y8⟩ := N2.out.nine; clear hb2) | (go_at_call 148; refine (T4.out _ B2.out).mono ?_; rintro e w3 ⟨rfl, hb3⟩; have B3 := Kh (B2.out.trans (hb3.mono B2.out.size)); have N3 := Kh (N2.out.below hb3 N2.out.lt); obtain ⟨z0, z1, z2, z3, z4, z5, z6, z7, z8⟩ := N3.out.nine; clear hb3))
    go_still (by kernel_rfl)
    go_wp2_with fail
    exact bodyPost_ret (v := .tuple #[.int .i64 nb, .bool true]) (by simp [results, Tryz.results95, go_sem]) rfl ⟨rfl, B3.out.drew⟩
  · rw [if_neg hbc]
    have dbc : (nb == nc) = false := by simpa using hbc
    clear hbc
    go_enter Tryz.func95, Tryz.ntmps95
    go_wp2_with (first | (go_at_call 145; refine TA.out.mono ?_; rintro e w2 ⟨rfl, hb2⟩; have B2 := Kh (B1.out.trans (hb2.mono B1.out.size)); have N2 := Kh (N1.out.below hb2 N1.out.lt); obtain ⟨y0, y1, y2, y3, y4, y5, y6, y7, y8⟩ := N2.out.nine; clear hb2) | (go_at_call 148; refine (T4.out _ B2.out).mono ?_; rintro e w3 ⟨rfl, hb3⟩; have B3 := Kh (B2.out.trans (hb3.mono B2.out.size)); have N3 := Kh (N2.out.below hb3 N2.out.lt); obtain ⟨z0, z1, z2, z3, z4, z5, z6, z7, z8⟩ := N3.out.nine; clear hb3))
    go_still (by kernel_rfl)
    go_wp2_with fail
    exact bodyPost_ret (v := .tuple #[.int .i64 nb, .bool false]) (by simp [results, Tryz.results95, go_sem]) rfl ⟨⟨nb, rfl⟩, B3.out.drew⟩
 obtain ⟨f1, f2⟩ := zD1 H.out.ok (p := (qa : Int)) (by omega) (by omega) h34
 have wo := zDx f2 (by rw [s1]; exact ⟨⟨(by decide : (0 : Int) ≤ 0), (by decide : (0 : Int) ≤ 2)⟩, (by decide : (1 : Int) ≤ 1), (by decide : (1 : Int) ≤ 16)⟩)
 rw [s1] at wo; obtain ⟨-, w1, w2⟩ := wo; rw [zFa h34, zFa h34]; rw [decide_eq_true h34] at T4
 have w3 : (noAt L (qa : Int)).n = 0 ∨ (noAt L (qa : Int)).n = 1 := by
  have e : hd0 [(noAt L (qa : Int)).n] = (noAt L (qa : Int)).n := rfl; rw [e] at w1 w2; have e2 : (((2 ^ (wS 1).w.toNat : Nat) : Int)) = 2 := rfl; rw [e2] at w2; omega
 clear w1 w2 f1 f2 s1 s2 s3 h34; generalize (noAt L (qa : Int)).n = v at *
 rcases w3 with rfl | rfl
 · rw [if_neg (by decide), if_pos (by decide)]
   go_enter Tryz.func95, Tryz.ntmps95
   go_wp2_with (first | (go_at_call 145; refine TA.out.mono ?_; rintro e w2 ⟨rfl, hb2⟩; have B2 := Kh (B1.out.trans (hb2.mono B1.out.size)); have N2 := Kh (N1.out.below hb2 N1.out.lt); obtain ⟨y0, y1, y2, y3, y4, y5, y6, y7, y8⟩ := N2.out.nine; clear hb2) | (go_at_call 148; refine (T4.out _ B2.out).mono ?_; rintro e w3 ⟨rfl, hb3⟩; have B3 := Kh (B2.out.trans (hb3.mono B2.out.size)); have N3 := Kh (N2.out.below hb3 N2.out.lt); obtain ⟨z0, z1, z2, z3, z4, z5, z6, z7, z8⟩ := N3.out.nine; clear hb3))
   exact bodyPost_ret (v := .tuple #[.int .i64 nc, .bool true]) (by simp [results, Tryz.results95, go_sem]) rfl ⟨rfl, B3.out⟩
 · rw [if_pos (by decide)]
   go_enter Tryz.func95, Tryz.ntmps95
   go_wp2_with (first | (go_at_call 145; refine TA.out.mono ?_; rintro e w2 ⟨rfl, hb2⟩; have B2 := Kh (B1.out.trans (hb2.mono B1.out.size)); have N2 := Kh (N1.out.below hb2 N1.out.lt); obtain ⟨y0, y1, y2, y3, y4, y5, y6, y7, y8⟩ := N2.out.nine; clear hb2) | (go_at_call 148; refine (T4.out _ B2.out).mono ?_; rintro e w3 ⟨rfl, hb3⟩; have B3 := Kh (B2.out.trans (hb3.mono B2.out.size)); have N3 := Kh (N2.out.below hb3 N2.out.lt); obtain ⟨z0, z1, z2, z3, z4, z5, z6, z7, z8⟩ := N3.out.nine; clear hb3))
   exact bodyPost_ret (v := .tuple #[.int .i64 nb, .bool true]) (by simp [results, Tryz.results95, go_sem]) rfl ⟨rfl, B3.out⟩
theorem rule_k1 (B gf : Nat) (A : Option Addr) (c : Nat) (L : List No) (na nb nc nn nm : Int) (si sw : Int) (nt : ByteArray) (w : World) (h : RIn w B gf A c L ⟨1, na, nb, nc, nn, nm, ⟨si, sw⟩, nt⟩) (hall : zAr L ⟨1, na, nb, nc, nn, nm, ⟨si, sw⟩, nt⟩ = false) :
 Calls Tryz.prog 95 #[.pointer (some ⟨gf, 0, none⟩), .agg #[.int .i64 1, .int .i64 na, .int .i64 nb, .int .i64 nc, .int .i64 nn, .int .i64 nm, .int .i64 si, .int .i64 sw, .string nt]] w fun e w' => zA6 w B gf A c L (zFu L ⟨1, na, nb, nc, nn, nm, ⟨si, sw⟩, nt⟩) e w' := by
 have H := Kh h; clear h; have hB : B ≤ w.heap.size := Nat.le_trans H.out.fold.base (Nat.le_of_lt H.out.fold.blk.lt); have B1 := bx w #[.int .i64 1, .int .i64 na, .int .i64 nb, .int .i64 nc, .int .i64 nn, .int .i64 nm, .int .i64 si, .int .i64 sw, .string nt] 42; have N1 := nx w #[.int .i64 1, .int .i64 na, .int .i64 nb, .int .i64 nc, .int .i64 nn, .int .i64 nm, .int .i64 si, .int .i64 sw, .string nt] 42; have TA := Kh (H.out.all false hall _ B1.out); have HA := Kh hall; clear hall; obtain ⟨qa, hqa, hqa'⟩ : ∃ q : Nat, na = (q : Int) ∧ q < L.length := by have := (H.out.inn.a (by show (0 : Int) < zK1 1; decide)).1; simp only at this; exact ⟨na.toNat, by omega, by omega⟩
 subst hqa; have hl := H.out.few; obtain ⟨g, rfl, hs⟩ := H.out.see hqa'; have HS := Kh hs; clear hs; have hq0 : (0 : Int) ≤ (qa : Int) := by omega
 have hq1 : (qa : Int) < (L.length : Int) := by omega
 have ek : zFu L ⟨1, (qa : Int), nb, nc, nn, nm, ⟨si, sw⟩, nt⟩ = if (noAt L (qa : Int)).k = 1 then .at (noAt L (qa : Int)).a else .no := by
  unfold zFu; rw [if_neg (by rw [HA.out]; decide)]; rfl
 rw [ek]; clear ek; generalize noAt L (qa : Int) = x at *; obtain ⟨xk, xa, xb, xc, xn, xm, ⟨xi, xw⟩, xt⟩ := x; dsimp only at HS ⊢
 by_cases hk : xk = 1
 · subst hk
   rw [if_pos rfl]
   go_enter Tryz.func95, Tryz.ntmps95
   go_wp2_with (first | (go_at_call 145; refine TA.out.mono ?_; rintro e w2 ⟨rfl, hb2⟩; have B2 := Kh (B1.out.trans (hb2.mono B1.out.size)); have N2 := Kh (N1.out.below hb2 N1.out.lt); obtain ⟨y0, y1, y2, y3, y4, y5, y6, y7, y8⟩ := N2.out.nine; clear hb2; obtain ⟨b0, z0, z1, z2, z3, z4, z5, z6, z7, z8⟩ := HS.out _ B2.out; have q1 := N2.out.lt; have q2 := zBx b0; have q3 := zBx z0))
   go_quiet (fail)
   go_wp2_with fail
   exact bodyPost_ret (v := .tuple #[.int .i64 xa, .bool true]) (by simp [results, Tryz.results95, go_sem]) rfl ⟨rfl, zB1 B2.out _⟩
 · have dk : (xk == 1) = false := by simpa using hk
   rw [if_neg hk]; clear hk
   go_enter Tryz.func95, Tryz.ntmps95
   go_wp2_with (first | (go_at_call 145; refine TA.out.mono ?_; rintro e w2 ⟨rfl, hb2⟩; have B2 := Kh (B1.out.trans (hb2.mono B1.out.size)); have N2 := Kh (N1.out.below hb2 N1.out.lt); obtain ⟨y0, y1, y2, y3, y4, y5, y6, y7, y8⟩ := N2.out.nine; clear hb2; obtain ⟨b0, z0, z1, z2, z3, z4, z5, z6, z7, z8⟩ := HS.out _ B2.out; have q1 := N2.out.lt; have q2 := zBx b0; have q3 := zBx z0))
   go_quiet (fail)
   go_wp2_with fail
   exact bodyPost_ret (v := .tuple #[.int .i64 xa, .bool false]) (by simp [results, Tryz.results95, go_sem]) rfl ⟨⟨_, rfl⟩, zB1 B2.out _⟩
theorem rule_k2 (B gf : Nat) (A : Option Addr) (c : Nat) (L : List No) (na nb nc nn nm : Int) (si sw : Int) (nt : ByteArray) (w : World) (h : RIn w B gf A c L ⟨2, na, nb, nc, nn, nm, ⟨si, sw⟩, nt⟩) (hall : zAr L ⟨2, na, nb, nc, nn, nm, ⟨si, sw⟩, nt⟩ = false) :
 Calls Tryz.prog 95 #[.pointer (some ⟨gf, 0, none⟩), .agg #[.int .i64 2, .int .i64 na, .int .i64 nb, .int .i64 nc, .int .i64 nn, .int .i64 nm, .int .i64 si, .int .i64 sw, .string nt]] w fun e w' => zA6 w B gf A c L (zFu L ⟨2, na, nb, nc, nn, nm, ⟨si, sw⟩, nt⟩) e w' := by
 have H := Kh h; clear h; have hB : B ≤ w.heap.size := Nat.le_trans H.out.fold.base (Nat.le_of_lt H.out.fold.blk.lt); have B1 := bx w #[.int .i64 2, .int .i64 na, .int .i64 nb, .int .i64 nc, .int .i64 nn, .int .i64 nm, .int .i64 si, .int .i64 sw, .string nt] 42; have N1 := nx w #[.int .i64 2, .int .i64 na, .int .i64 nb, .int .i64 nc, .int .i64 nn, .int .i64 nm, .int .i64 si, .int .i64 sw, .string nt] 42; have TA := Kh (H.out.all false hall _ B1.out); have HA := Kh hall; clear hall; obtain ⟨qa, hqa, hqa'⟩ : ∃ q : Nat, na = (q : Int) ∧ q < L.length := by have := (H.out.inn.a (by show (0 : Int) < zK1 2; decide)).1; simp only at this; exact ⟨na.toNat, by omega, by omega⟩
 subst hqa; have hl := H.out.few; obtain ⟨g, rfl, hs⟩ := H.out.see hqa'; have HS := Kh hs; clear hs; have hq0 : (0 : Int) ≤ (qa : Int) := by omega
 have hq1 : (qa : Int) < (L.length : Int) := by omega
 have ek : zFu L ⟨2, (qa : Int), nb, nc, nn, nm, ⟨si, sw⟩, nt⟩ = if (noAt L (qa : Int)).k = 2 then .at (noAt L (qa : Int)).a else .no := by
  unfold zFu; rw [if_neg (by rw [HA.out]; decide)]; rfl
 rw [ek]; clear ek; generalize noAt L (qa : Int) = x at *; obtain ⟨xk, xa, xb, xc, xn, xm, ⟨xi, xw⟩, xt⟩ := x; dsimp only at HS ⊢
 by_cases hk : xk = 2
 · subst hk
   rw [if_pos rfl]
   go_enter Tryz.func95, Tryz.ntmps95
   go_wp2_with (first | (go_at_call 145; refine TA.out.mono ?_; rintro e w2 ⟨rfl, hb2⟩; have B2 := Kh (B1.out.trans (hb2.mono B1.out.size)); have N2 := Kh (N1.out.below hb2 N1.out.lt); obtain ⟨y0, y1, y2, y3, y4, y5, y6, y7, y8⟩ := N2.out.nine; clear hb2; obtain ⟨b0, z0, z1, z2, z3, z4, z5, z6, z7, z8⟩ := HS.out _ B2.out; have q1 := N2.out.lt; have q2 := zBx b0; have q3 := zBx z0))
   go_quiet (fail)
   go_wp2_with fail
   exact bodyPost_ret (v := .tuple #[.int .i64 xa, .bool true]) (by simp [results, Tryz.results95, go_sem]) rfl ⟨rfl, zB1 B2.out _⟩
 · have dk : (xk == 2) = false := by simpa using hk
   rw [if_neg hk]; clear hk
   go_enter Tryz.func95, Tryz.ntmps95
   go_wp2_with (first | (go_at_call 145; refine TA.out.mono ?_; rintro e w2 ⟨rfl, hb2⟩; have B2 := Kh (B1.out.trans (hb2.mono B1.out.size)); have N2 := Kh (N1.out.below hb2 N1.out.lt); obtain ⟨y0, y1, y2, y3, y4, y5, y6, y7, y8⟩ := N2.out.nine; clear hb2; obtain ⟨b0, z0, z1, z2, z3, z4, z5, z6, z7, z8⟩ := HS.out _ B2.out; have q1 := N2.out.lt; have q2 := zBx b0; have q3 := zBx z0))
   go_quiet (fail)
   go_wp2_with fail
   exact bodyPost_ret (v := .tuple #[.int .i64 xa, .bool false]) (by simp [results, Tryz.results95, go_sem]) rfl ⟨⟨_, rfl⟩, zB1 B2.out _⟩
theorem zLd (B gf : Nat) (A : Option Addr) (c : Nat) (L : List No) (na nb nc nn nm : Int) (si sw : Int) (nt : ByteArray) (w : World) (h : RIn w B gf A c L ⟨30, na, nb, nc, nn, nm, ⟨si, sw⟩, nt⟩) (hall : zAr L ⟨30, na, nb, nc, nn, nm, ⟨si, sw⟩, nt⟩ = false) :
 Calls Tryz.prog 95 #[.pointer (some ⟨gf, 0, none⟩), .agg #[.int .i64 30, .int .i64 na, .int .i64 nb, .int .i64 nc, .int .i64 nn, .int .i64 nm, .int .i64 si, .int .i64 sw, .string nt]] w fun e w' => zA6 w B gf A c L (zFu L ⟨30, na, nb, nc, nn, nm, ⟨si, sw⟩, nt⟩) e w' := by
 have H := Kh h; clear h; have hB : B ≤ w.heap.size := Nat.le_trans H.out.fold.base (Nat.le_of_lt H.out.fold.blk.lt); have B1 := bx w #[.int .i64 30, .int .i64 na, .int .i64 nb, .int .i64 nc, .int .i64 nn, .int .i64 nm, .int .i64 si, .int .i64 sw, .string nt] 42; have N1 := nx w #[.int .i64 30, .int .i64 na, .int .i64 nb, .int .i64 nc, .int .i64 nn, .int .i64 nm, .int .i64 si, .int .i64 sw, .string nt] 42; have TA := Kh (H.out.all false hall _ B1.out); have HA := Kh hall; clear hall; obtain ⟨qa, hqa, hqa'⟩ : ∃ q : Nat, na = (q : Int) ∧ q < L.length := by have := (H.out.inn.a (by show (0 : Int) < zK1 30; decide)).1; simp only at this; exact ⟨na.toNat, by omega, by omega⟩
 subst hqa; have hl := H.out.few; obtain ⟨g, rfl, hs⟩ := H.out.see hqa'; have HS := Kh hs; clear hs; have hq0 : (0 : Int) ≤ (qa : Int) := by omega
 have hq1 : (qa : Int) < (L.length : Int) := by omega
 have ek : zFu L ⟨30, (qa : Int), nb, nc, nn, nm, ⟨si, sw⟩, nt⟩ = if nm = 0 ∧ nn = (noAt L (qa : Int)).s.w - 1 then .at (qa : Int) else .no := by
  unfold zFu; rw [if_neg (by rw [HA.out]; decide)]; rfl
 rw [ek]; clear ek; have sw' := (H.out.ok.sortOk (p := (qa : Int)) (by omega) (by omega)).2
 generalize noAt L (qa : Int) = x at *; obtain ⟨xk, xa, xb, xc, xn, xm, ⟨xi, xw⟩, xt⟩ := x; dsimp only at HS sw' ⊢; obtain ⟨z, hz⟩ : ∃ z, xw - 1 = z := ⟨_, rfl⟩
 have e1 : IntKind.i64.wrap (xw - 1) = z := by rw [← hz]; exact zRa (by omega) (by omega)
 rw [hz]; clear hz sw'
 by_cases hm : nm = 0
 · subst hm
   by_cases hn : nn = z
   · subst hn
     rw [if_pos ⟨rfl, rfl⟩]
     go_enter Tryz.func95, Tryz.ntmps95
     go_wp2_with (first | (go_at_call 145; refine TA.out.mono ?_; rintro e w2 ⟨rfl, hb2⟩; have B2 := Kh (B1.out.trans (hb2.mono B1.out.size)); have N2 := Kh (N1.out.below hb2 N1.out.lt); obtain ⟨y0, y1, y2, y3, y4, y5, y6, y7, y8⟩ := N2.out.nine; clear hb2; obtain ⟨b0, z0, z1, z2, z3, z4, z5, z6, z7, z8⟩ := HS.out _ B2.out; have q1 := N2.out.lt; have q2 := zBx b0; have q3 := zBx z0))
     go_quiet (fail)
     go_wp2_with fail
     exact bodyPost_ret (v := .tuple #[.int .i64 (qa : Int), .bool true]) (by simp [results, Tryz.results95, go_sem]) rfl ⟨rfl, zB1 B2.out _⟩
   · have dn : (nn == z) = false := by simpa using hn
     rw [if_neg (fun h => hn h.2)]
     clear hn
     go_enter Tryz.func95, Tryz.ntmps95
     go_wp2_with (first | (go_at_call 145; refine TA.out.mono ?_; rintro e w2 ⟨rfl, hb2⟩; have B2 := Kh (B1.out.trans (hb2.mono B1.out.size)); have N2 := Kh (N1.out.below hb2 N1.out.lt); obtain ⟨y0, y1, y2, y3, y4, y5, y6, y7, y8⟩ := N2.out.nine; clear hb2; obtain ⟨b0, z0, z1, z2, z3, z4, z5, z6, z7, z8⟩ := HS.out _ B2.out; have q1 := N2.out.lt; have q2 := zBx b0; have q3 := zBx z0))
     go_quiet (fail)
     go_wp2_with fail
     exact bodyPost_ret (v := .tuple #[.int .i64 (qa : Int), .bool false]) (by simp [results, Tryz.results95, go_sem]) rfl ⟨⟨_, rfl⟩, zB1 B2.out _⟩
 · have dm : (nm == 0) = false := by simpa using hm
   rw [if_neg (fun h => hm h.1)]
   clear hm
   go_enter Tryz.func95, Tryz.ntmps95
   go_wp2_with (first | (go_at_call 145; refine TA.out.mono ?_; rintro e w2 ⟨rfl, hb2⟩; have B2 := Kh (B1.out.trans (hb2.mono B1.out.size)); have N2 := Kh (N1.out.below hb2 N1.out.lt); obtain ⟨y0, y1, y2, y3, y4, y5, y6, y7, y8⟩ := N2.out.nine; clear hb2; obtain ⟨b0, z0, z1, z2, z3, z4, z5, z6, z7, z8⟩ := HS.out _ B2.out; have q1 := N2.out.lt; have q2 := zBx b0; have q3 := zBx z0))
   go_quiet (fail)
   go_wp2_with fail
   exact bodyPost_ret (v := .tuple #[.int .i64 (qa : Int), .bool false]) (by simp [results, Tryz.results95, go_sem]) rfl ⟨⟨_, rfl⟩, zB1 B2.out _⟩
theorem zL8 (B gf : Nat) (A : Option Addr) (c : Nat) (L : List No) (na nb nc nn nm : Int) (si sw : Int) (nt : ByteArray) (w : World) (h : RIn w B gf A c L ⟨31, na, nb, nc, nn, nm, ⟨si, sw⟩, nt⟩) (hall : zAr L ⟨31, na, nb, nc, nn, nm, ⟨si, sw⟩, nt⟩ = false) :
 Calls Tryz.prog 95 #[.pointer (some ⟨gf, 0, none⟩), .agg #[.int .i64 31, .int .i64 na, .int .i64 nb, .int .i64 nc, .int .i64 nn, .int .i64 nm, .int .i64 si, .int .i64 sw, .string nt]] w fun e w' => zA6 w B gf A c L (zFu L ⟨31, na, nb, nc, nn, nm, ⟨si, sw⟩, nt⟩) e w' := by
 have H := Kh h; clear h; have hB : B ≤ w.heap.size := Nat.le_trans H.out.fold.base (Nat.le_of_lt H.out.fold.blk.lt); have B1 := bx w #[.int .i64 31, .int .i64 na, .int .i64 nb, .int .i64 nc, .int .i64 nn, .int .i64 nm, .int .i64 si, .int .i64 sw, .string nt] 42; have N1 := nx w #[.int .i64 31, .int .i64 na, .int .i64 nb, .int .i64 nc, .int .i64 nn, .int .i64 nm, .int .i64 si, .int .i64 sw, .string nt] 42; have TA := Kh (H.out.all false hall _ B1.out); have HA := Kh hall; clear hall
 have ek : zFu L ⟨31, na, nb, nc, nn, nm, ⟨si, sw⟩, nt⟩ = if nn = 0 then .at na else .no := by
  unfold zFu; rw [if_neg (by rw [HA.out]; decide)]; rfl
 rw [ek]; clear ek
 by_cases hn : nn = 0
 · subst hn
   rw [if_pos rfl]
   go_enter Tryz.func95, Tryz.ntmps95
   go_wp2_with (first | (go_at_call 145; refine TA.out.mono ?_; rintro e w2 ⟨rfl, hb2⟩; have B2 := Kh (B1.out.trans (hb2.mono B1.out.size)); have N2 := Kh (N1.out.below hb2 N1.out.lt); obtain ⟨y0, y1, y2, y3, y4, y5, y6, y7, y8⟩ := N2.out.nine; clear hb2))
   go_quiet (fail)
   go_wp2_with fail
   exact bodyPost_ret (v := .tuple #[.int .i64 na, .bool true]) (by simp [results, Tryz.results95, go_sem]) rfl ⟨rfl, zB1 B2.out _⟩
 · have dn : (nn == 0) = false := by simpa using hn
   rw [if_neg hn]; clear hn
   go_enter Tryz.func95, Tryz.ntmps95
   go_wp2_with (first | (go_at_call 145; refine TA.out.mono ?_; rintro e w2 ⟨rfl, hb2⟩; have B2 := Kh (B1.out.trans (hb2.mono B1.out.size)); have N2 := Kh (N1.out.below hb2 N1.out.lt); obtain ⟨y0, y1, y2, y3, y4, y5, y6, y7, y8⟩ := N2.out.nine; clear hb2))
   go_quiet (fail)
   go_wp2_with fail
   exact bodyPost_ret (v := .tuple #[.int .i64 na, .bool false]) (by simp [results, Tryz.results95, go_sem]) rfl ⟨⟨_, rfl⟩, zB1 B2.out _⟩
theorem zL9 (B gf : Nat) (A : Option Addr) (c : Nat) (L : List No) (na nb nc nn nm : Int) (si sw : Int) (nt : ByteArray) (w : World) (h : RIn w B gf A c L ⟨32, na, nb, nc, nn, nm, ⟨si, sw⟩, nt⟩) (hall : zAr L ⟨32, na, nb, nc, nn, nm, ⟨si, sw⟩, nt⟩ = false) :
 Calls Tryz.prog 95 #[.pointer (some ⟨gf, 0, none⟩), .agg #[.int .i64 32, .int .i64 na, .int .i64 nb, .int .i64 nc, .int .i64 nn, .int .i64 nm, .int .i64 si, .int .i64 sw, .string nt]] w fun e w' => zA6 w B gf A c L (zFu L ⟨32, na, nb, nc, nn, nm, ⟨si, sw⟩, nt⟩) e w' := by
 have H := Kh h; clear h; have hB : B ≤ w.heap.size := Nat.le_trans H.out.fold.base (Nat.le_of_lt H.out.fold.blk.lt); have B1 := bx w #[.int .i64 32, .int .i64 na, .int .i64 nb, .int .i64 nc, .int .i64 nn, .int .i64 nm, .int .i64 si, .int .i64 sw, .string nt] 42; have N1 := nx w #[.int .i64 32, .int .i64 na, .int .i64 nb, .int .i64 nc, .int .i64 nn, .int .i64 nm, .int .i64 si, .int .i64 sw, .string nt] 42; have TA := Kh (H.out.all false hall _ B1.out); have HA := Kh hall; clear hall
 have ek : zFu L ⟨32, na, nb, nc, nn, nm, ⟨si, sw⟩, nt⟩ = if nn = 0 then .at na else .no := by
  unfold zFu; rw [if_neg (by rw [HA.out]; decide)]; rfl
 rw [ek]; clear ek
 by_cases hn : nn = 0
 · subst hn
   rw [if_pos rfl]
   go_enter Tryz.func95, Tryz.ntmps95
   go_wp2_with (first | (go_at_call 145; refine TA.out.mono ?_; rintro e w2 ⟨rfl, hb2⟩; have B2 := Kh (B1.out.trans (hb2.mono B1.out.size)); have N2 := Kh (N1.out.below hb2 N1.out.lt); obtain ⟨y0, y1, y2, y3, y4, y5, y6, y7, y8⟩ := N2.out.nine; clear hb2))
   go_quiet (fail)
   go_wp2_with fail
   exact bodyPost_ret (v := .tuple #[.int .i64 na, .bool true]) (by simp [results, Tryz.results95, go_sem]) rfl ⟨rfl, zB1 B2.out _⟩
 · have dn : (nn == 0) = false := by simpa using hn
   rw [if_neg hn]; clear hn
   go_enter Tryz.func95, Tryz.ntmps95
   go_wp2_with (first | (go_at_call 145; refine TA.out.mono ?_; rintro e w2 ⟨rfl, hb2⟩; have B2 := Kh (B1.out.trans (hb2.mono B1.out.size)); have N2 := Kh (N1.out.below hb2 N1.out.lt); obtain ⟨y0, y1, y2, y3, y4, y5, y6, y7, y8⟩ := N2.out.nine; clear hb2))
   go_quiet (fail)
   go_wp2_with fail
   exact bodyPost_ret (v := .tuple #[.int .i64 na, .bool false]) (by simp [results, Tryz.results95, go_sem]) rfl ⟨⟨_, rfl⟩, zB1 B2.out _⟩
theorem zLb (B gf : Nat) (A : Option Addr) (c : Nat) (L : List No) (na nb nc nn nm : Int) (si sw : Int) (nt : ByteArray) (w : World) (h : RIn w B gf A c L ⟨37, na, nb, nc, nn, nm, ⟨si, sw⟩, nt⟩) (hall : zAr L ⟨37, na, nb, nc, nn, nm, ⟨si, sw⟩, nt⟩ = false) :
 Calls Tryz.prog 95 #[.pointer (some ⟨gf, 0, none⟩), .agg #[.int .i64 37, .int .i64 na, .int .i64 nb, .int .i64 nc, .int .i64 nn, .int .i64 nm, .int .i64 si, .int .i64 sw, .string nt]] w fun e w' => zA6 w B gf A c L (zFu L ⟨37, na, nb, nc, nn, nm, ⟨si, sw⟩, nt⟩) e w' := by
 have H := Kh h; clear h; have hB : B ≤ w.heap.size := Nat.le_trans H.out.fold.base (Nat.le_of_lt H.out.fold.blk.lt); have B1 := bx w #[.int .i64 37, .int .i64 na, .int .i64 nb, .int .i64 nc, .int .i64 nn, .int .i64 nm, .int .i64 si, .int .i64 sw, .string nt] 42; have N1 := nx w #[.int .i64 37, .int .i64 na, .int .i64 nb, .int .i64 nc, .int .i64 nn, .int .i64 nm, .int .i64 si, .int .i64 sw, .string nt] 42; have TA := Kh (H.out.all false hall _ B1.out); have HA := Kh hall; clear hall; obtain ⟨qa, hqa, hqa'⟩ : ∃ q : Nat, na = (q : Int) ∧ q < L.length := by have := (H.out.inn.a (by show (0 : Int) < zK1 37; decide)).1; simp only at this; exact ⟨na.toNat, by omega, by omega⟩
 subst hqa; have hl := H.out.few; obtain ⟨g, rfl, hs⟩ := H.out.see hqa'; have HS := Kh hs; clear hs; have hq0 : (0 : Int) ≤ (qa : Int) := by omega
 have hq1 : (qa : Int) < (L.length : Int) := by omega
 have ek : zFu L ⟨37, (qa : Int), nb, nc, nn, nm, ⟨si, sw⟩, nt⟩ = if (noAt L (qa : Int)).k = 38 ∧ (noAt L (qa : Int)).b = nb then .at (noAt L (qa : Int)).c else .no := by
  unfold zFu; rw [if_neg (by rw [HA.out]; decide)]; rfl
 rw [ek]; clear ek; generalize noAt L (qa : Int) = x at *; obtain ⟨xk, xa, xb, xc, xn, xm, ⟨xi, xw⟩, xt⟩ := x; dsimp only at HS ⊢
 by_cases hk : xk = 38
 · subst hk
   by_cases hb : xb = nb
   · subst hb
     rw [if_pos ⟨rfl, rfl⟩]
     go_enter Tryz.func95, Tryz.ntmps95
     go_wp2_with (first | (go_at_call 145; refine TA.out.mono ?_; rintro e w2 ⟨rfl, hb2⟩; have B2 := Kh (B1.out.trans (hb2.mono B1.out.size)); have N2 := Kh (N1.out.below hb2 N1.out.lt); obtain ⟨y0, y1, y2, y3, y4, y5, y6, y7, y8⟩ := N2.out.nine; clear hb2; obtain ⟨b0, z0, z1, z2, z3, z4, z5, z6, z7, z8⟩ := HS.out _ B2.out; have q1 := N2.out.lt; have q2 := zBx b0; have q3 := zBx z0))
     go_region
     all_goals
      go_wp2_with fail
      go_quiet (fail)
      go_wp2_with fail
      exact bodyPost_ret (v := .tuple #[.int .i64 xc, .bool true]) (by simp [results, Tryz.results95, go_sem]) rfl ⟨rfl, by first | exact zB1 ((B2.out.alloc B2.out.size _).drew) _⟩
   · have db : (xb == nb) = false := by simpa using hb
     rw [if_neg (fun h => hb h.2)]
     clear hb
     go_enter Tryz.func95, Tryz.ntmps95
     go_wp2_with (first | (go_at_call 145; refine TA.out.mono ?_; rintro e w2 ⟨rfl, hb2⟩; have B2 := Kh (B1.out.trans (hb2.mono B1.out.size)); have N2 := Kh (N1.out.below hb2 N1.out.lt); obtain ⟨y0, y1, y2, y3, y4, y5, y6, y7, y8⟩ := N2.out.nine; clear hb2; obtain ⟨b0, z0, z1, z2, z3, z4, z5, z6, z7, z8⟩ := HS.out _ B2.out; have q1 := N2.out.lt; have q2 := zBx b0; have q3 := zBx z0))
     go_region
     all_goals
      go_wp2_with fail
      go_quiet (fail)
      go_wp2_with fail
      exact bodyPost_ret (v := .tuple #[.int .i64 xc, .bool false]) (by simp [results, Tryz.results95, go_sem]) rfl ⟨⟨_, rfl⟩, by first | exact zB1 ((B2.out.alloc B2.out.size _).drew) _⟩
 · have dk : (xk == 38) = false := by simpa using hk
   rw [if_neg (fun h => hk h.1)]
   clear hk
   go_enter Tryz.func95, Tryz.ntmps95
   go_wp2_with (first | (go_at_call 145; refine TA.out.mono ?_; rintro e w2 ⟨rfl, hb2⟩; have B2 := Kh (B1.out.trans (hb2.mono B1.out.size)); have N2 := Kh (N1.out.below hb2 N1.out.lt); obtain ⟨y0, y1, y2, y3, y4, y5, y6, y7, y8⟩ := N2.out.nine; clear hb2; obtain ⟨b0, z0, z1, z2, z3, z4, z5, z6, z7, z8⟩ := HS.out _ B2.out; have q1 := N2.out.lt; have q2 := zBx b0; have q3 := zBx z0))
   go_region
   all_goals
    go_wp2_with fail
    go_quiet (fail)
    go_wp2_with fail
    exact bodyPost_ret (v := .tuple #[.int .i64 xc, .bool false]) (by simp [results, Tryz.results95, go_sem]) rfl ⟨⟨_, rfl⟩, by first | exact zB1 ((B2.out.alloc B2.out.size _).drew) _⟩
theorem zLc (B gf : Nat) (A : Option Addr) (c : Nat) (L : List No) (k na nb nc nn nm : Int) (si sw : Int) (nt : ByteArray) (w : World) (h : RIn w B gf A c L ⟨k, na, nb, nc, nn, nm, ⟨si, sw⟩, nt⟩) (hall : zAr L ⟨k, na, nb, nc, nn, nm, ⟨si, sw⟩, nt⟩ = false) (hk : k = 3 ∨ k = 4 ∨ k = 5 ∨ k = 34 ∨ k = 35 ∨ k = 36 ∨ k = 38) :
 Calls Tryz.prog 95 #[.pointer (some ⟨gf, 0, none⟩), .agg #[.int .i64 k, .int .i64 na, .int .i64 nb, .int .i64 nc, .int .i64 nn, .int .i64 nm, .int .i64 si, .int .i64 sw, .string nt]] w fun e w' => zA6 w B gf A c L (.no) e w' := by
 have H := Kh h; clear h; have hB : B ≤ w.heap.size := Nat.le_trans H.out.fold.base (Nat.le_of_lt H.out.fold.blk.lt); have B1 := bx w #[.int .i64 k, .int .i64 na, .int .i64 nb, .int .i64 nc, .int .i64 nn, .int .i64 nm, .int .i64 si, .int .i64 sw, .string nt] 42; have N1 := nx w #[.int .i64 k, .int .i64 na, .int .i64 nb, .int .i64 nc, .int .i64 nn, .int .i64 nm, .int .i64 si, .int .i64 sw, .string nt] 42; have TA := Kh (H.out.all false hall _ B1.out); have HA := Kh hall; clear hall; have d33 : (k == 33) = false := by simp only [beq_eq_false_iff_ne]; omega
 have d37 : (k == 37) = false := by simp only [beq_eq_false_iff_ne]; omega
 have d1 : (k == 1) = false := by simp only [beq_eq_false_iff_ne]; omega
 have d2 : (k == 2) = false := by simp only [beq_eq_false_iff_ne]; omega
 have d30 : (k == 30) = false := by simp only [beq_eq_false_iff_ne]; omega
 have d31 : (k == 31) = false := by simp only [beq_eq_false_iff_ne]; omega
 have d32 : (k == 32) = false := by simp only [beq_eq_false_iff_ne]; omega
 go_enter Tryz.func95, Tryz.ntmps95
 go_wp2_with (first | (go_at_call 145; refine TA.out.mono ?_; rintro e w2 ⟨rfl, hb2⟩; have B2 := Kh (B1.out.trans (hb2.mono B1.out.size)); have N2 := Kh (N1.out.below hb2 N1.out.lt); obtain ⟨y0, y1, y2, y3, y4, y5, y6, y7, y8⟩ := N2.out.nine; clear hb2) | (go_at_call 143; (first | refine (zEx _ _ _ true (decide_eq_true (by omega)) _).mono ?_ | refine (zEx _ _ _ false (decide_eq_false (by omega)) _).mono ?_); rintro e wI ⟨rfl, rfl⟩))
 exact bodyPost_ret (v := .tuple #[.int .i64 0, .bool false]) (by simp [results, Tryz.results95, go_sem]) rfl ⟨⟨_, rfl⟩, B2.out⟩
theorem zLa (B gf : Nat) (A : Option Addr) (c : Nat) (L : List No) (k na nb nc nn nm : Int) (si sw : Int) (nt : ByteArray) (w : World) (h : RIn w B gf A c L ⟨k, na, nb, nc, nn, nm, ⟨si, sw⟩, nt⟩) (hall : zAr L ⟨k, na, nb, nc, nn, nm, ⟨si, sw⟩, nt⟩ = false) (hk : 6 ≤ k ∧ k ≤ 29) :
 Calls Tryz.prog 95 #[.pointer (some ⟨gf, 0, none⟩), .agg #[.int .i64 k, .int .i64 na, .int .i64 nb, .int .i64 nc, .int .i64 nn, .int .i64 nm, .int .i64 si, .int .i64 sw, .string nt]] w fun e w' => zA6 w B gf A c L (zJr L ⟨k, na, nb, nc, nn, nm, ⟨si, sw⟩, nt⟩) e w' := by
 have H := Kh h; clear h; have hB : B ≤ w.heap.size := Nat.le_trans H.out.fold.base (Nat.le_of_lt H.out.fold.blk.lt); have B1 := bx w #[.int .i64 k, .int .i64 na, .int .i64 nb, .int .i64 nc, .int .i64 nn, .int .i64 nm, .int .i64 si, .int .i64 sw, .string nt] 42; have N1 := nx w #[.int .i64 k, .int .i64 na, .int .i64 nb, .int .i64 nc, .int .i64 nn, .int .i64 nm, .int .i64 si, .int .i64 sw, .string nt] 42; have TA := Kh (H.out.all false hall _ B1.out); have HA := Kh hall; clear hall; have d33 : (k == 33) = false := by simp only [beq_eq_false_iff_ne]; omega
 have d37 : (k == 37) = false := by simp only [beq_eq_false_iff_ne]; omega
 have d1 : (k == 1) = false := by simp only [beq_eq_false_iff_ne]; omega
 have d2 : (k == 2) = false := by simp only [beq_eq_false_iff_ne]; omega
 have d30 : (k == 30) = false := by simp only [beq_eq_false_iff_ne]; omega
 have d31 : (k == 31) = false := by simp only [beq_eq_false_iff_ne]; omega
 have d32 : (k == 32) = false := by simp only [beq_eq_false_iff_ne]; omega
 have TP := Kh (fun (W : World) (hW : Below w.heap.size w W) => zJs B gf A c L ⟨k, na, nb, nc, nn, nm, ⟨si, sw⟩, nt⟩ W (H.out.fold.below hW) H.out.few H.out.ok H.out.inn hk)
 generalize zJr L ⟨k, na, nb, nc, nn, nm, ⟨si, sw⟩, nt⟩ = kn at *
 cases kn with
 | no =>
  go_enter Tryz.func95, Tryz.ntmps95
  go_wp2_with (first | (go_at_call 145; refine TA.out.mono ?_; rintro e w2 ⟨rfl, hb2⟩; have B2 := Kh (B1.out.trans (hb2.mono B1.out.size)); have N2 := Kh (N1.out.below hb2 N1.out.lt); obtain ⟨y0, y1, y2, y3, y4, y5, y6, y7, y8⟩ := N2.out.nine; clear hb2) | (go_at_call 143; (first | refine (zEx _ _ _ true (decide_eq_true (by omega)) _).mono ?_ | refine (zEx _ _ _ false (decide_eq_false (by omega)) _).mono ?_); rintro e wI ⟨rfl, rfl⟩) | (go_at_call 149; refine (TP.out _ B2.out).mono ?_; rintro e w3 hk3; obtain ⟨⟨u3, rfl⟩, hb3⟩ := zA6.from hk3 B2.out hB; clear hk3))
  exact bodyPost_ret (v := .tuple #[.int .i64 u3, .bool false]) (by simp [results, Tryz.results95, go_sem]) rfl ⟨⟨u3, rfl⟩, hb3⟩
 | «at» p =>
  go_enter Tryz.func95, Tryz.ntmps95
  go_wp2_with (first | (go_at_call 145; refine TA.out.mono ?_; rintro e w2 ⟨rfl, hb2⟩; have B2 := Kh (B1.out.trans (hb2.mono B1.out.size)); have N2 := Kh (N1.out.below hb2 N1.out.lt); obtain ⟨y0, y1, y2, y3, y4, y5, y6, y7, y8⟩ := N2.out.nine; clear hb2) | (go_at_call 143; (first | refine (zEx _ _ _ true (decide_eq_true (by omega)) _).mono ?_ | refine (zEx _ _ _ false (decide_eq_false (by omega)) _).mono ?_); rintro e wI ⟨rfl, rfl⟩) | (go_at_call 149; refine (TP.out _ B2.out).mono ?_; rintro e w3 hk3; obtain ⟨rfl, hb3⟩ := zA6.from hk3 B2.out hB; clear hk3))
  exact bodyPost_ret (v := .tuple #[.int .i64 p, .bool true]) (by simp [results, Tryz.results95, go_sem]) rfl ⟨rfl, hb3⟩
 | con wd v =>
  go_enter Tryz.func95, Tryz.ntmps95
  go_wp2_with (first | (go_at_call 145; refine TA.out.mono ?_; rintro e w2 ⟨rfl, hb2⟩; have B2 := Kh (B1.out.trans (hb2.mono B1.out.size)); have N2 := Kh (N1.out.below hb2 N1.out.lt); obtain ⟨y0, y1, y2, y3, y4, y5, y6, y7, y8⟩ := N2.out.nine; clear hb2) | (go_at_call 143; (first | refine (zEx _ _ _ true (decide_eq_true (by omega)) _).mono ?_ | refine (zEx _ _ _ false (decide_eq_false (by omega)) _).mono ?_); rintro e wI ⟨rfl, rfl⟩) | (go_at_call 149; refine (TP.out _ B2.out).mono ?_; rintro e w3 hk3; obtain ⟨A', c', rfl, h1, h2, h3⟩ := zA6.from hk3 B2.out hB; have F4 := Kh h1; have B4 := Kh h2; have H4 := Kh h3; clear h1 h2 h3; clear hk3))
  exact bodyPost_ret (v := .tuple #[.int .i64 (zKm L (zD0 wd v)).2, .bool true]) (by simp [results, Tryz.results95, go_sem]) rfl ⟨A', c', rfl, F4.out, B4.out, H4.out⟩
theorem zL7 (B gf : Nat) (A : Option Addr) (c : Nat) (L : List No) (n : No) (w : World) (h : RIn w B gf A c L n) :
 Calls Tryz.prog 95 #[.pointer (some ⟨gf, 0, none⟩), .agg #[.int .i64 n.k, .int .i64 n.a, .int .i64 n.b, .int .i64 n.c, .int .i64 n.n, .int .i64 n.m, .int .i64 n.s.i, .int .i64 n.s.w, .string n.t]] w fun e w' => zA6 w B gf A c L (zFu L n) e w' := by
 have hk := h.inn.kind; obtain ⟨k, na, nb, nc, nn, nm, ⟨si, sw⟩, nt⟩ := n; dsimp only at hk ⊢
 by_cases hall : zAr L ⟨k, na, nb, nc, nn, nm, ⟨si, sw⟩, nt⟩ = true
 · have ek : zFu L ⟨k, na, nb, nc, nn, nm, ⟨si, sw⟩, nt⟩ = .con sw (zD7 L ⟨k, na, nb, nc, nn, nm, ⟨si, sw⟩, nt⟩) := by unfold zFu; rw [if_pos hall]
   rw [ek]
   exact zL6 B gf A c L k na nb nc nn nm si sw nt w h hall
 have hall : zAr L ⟨k, na, nb, nc, nn, nm, ⟨si, sw⟩, nt⟩ = false := by simpa using hall
 by_cases h33 : k = 33
 · subst h33; exact rule_if B gf A c L na nb nc nn nm si sw nt w h hall
 by_cases h37 : k = 37
 · subst h37; exact zLb B gf A c L na nb nc nn nm si sw nt w h hall
 by_cases h1 : k = 1
 · subst h1; exact rule_k1 B gf A c L na nb nc nn nm si sw nt w h hall
 by_cases h2 : k = 2
 · subst h2; exact rule_k2 B gf A c L na nb nc nn nm si sw nt w h hall
 by_cases h30 : k = 30
 · subst h30; exact zLd B gf A c L na nb nc nn nm si sw nt w h hall
 by_cases h31 : k = 31
 · subst h31; exact zL8 B gf A c L na nb nc nn nm si sw nt w h hall
 by_cases h32 : k = 32
 · subst h32; exact zL9 B gf A c L na nb nc nn nm si sw nt w h hall
 by_cases hp : 6 ≤ k ∧ k ≤ 29
 · have ek : zFu L ⟨k, na, nb, nc, nn, nm, ⟨si, sw⟩, nt⟩ = zJr L ⟨k, na, nb, nc, nn, nm, ⟨si, sw⟩, nt⟩ := by
     unfold zFu; rw [if_neg (by rw [hall]; decide), if_neg h33, if_neg h37, if_neg (by rw [zJz (.inl hp)]; decide), if_pos hp]
   rw [ek]
   exact zLa B gf A c L k na nb nc nn nm si sw nt w h hall hp
 · have hr : k = 3 ∨ k = 4 ∨ k = 5 ∨ k = 34 ∨ k = 35 ∨ k = 36 ∨ k = 38 := by omega
   have ek : zFu L ⟨k, na, nb, nc, nn, nm, ⟨si, sw⟩, nt⟩ = .no := by
    unfold zFu; rw [if_neg (by rw [hall]; decide), if_neg h33, if_neg h37]
    by_cases h5 : k ≤ 5
    · rw [if_pos (zJy (k := k) (by omega))]
      unfold zIv; rw [if_neg (show ¬ (k = 1 ∨ k = 2) by omega), if_neg h30, if_neg (show ¬ (k = 31 ∨ k = 32) by omega)]
    · have hpp : ¬ zK1 k = 1 := by
        by_cases h38 : k = 38
        · rw [zK0 (.inr h38)]; decide
        · rw [zJx (by omega)]; decide
      rw [if_neg hpp, if_neg hp]
   rw [ek]
   exact zLc B gf A c L k na nb nc nn nm si sw nt w h hall hr
end Go.Proofs.YtmolbnghobfmoaaGreat
