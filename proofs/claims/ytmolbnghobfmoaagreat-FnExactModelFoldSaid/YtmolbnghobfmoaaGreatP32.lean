/- Part 32 of what the row Row28 rests on: G28 G29. -/
import Derived.Test.YtmolbnghobfmoaaGreatP26
import Derived.Test.YtmolbnghobfmoaaGreatP31
set_option maxRecDepth 100000
set_option maxHeartbeats 16000000
set_option linter.unusedSimpArgs false
set_option linter.unusedVariables false
namespace Go.Proofs.YtmolbnghobfmoaaGreat
open Go.RowKit
def zAf (w : World) (B gf : Nat) (A : Option Addr) (c : Nat) (L : List No) (kn : Kn) (e : Ending) (w' : World) : Prop := match kn with
 | .no => e = .returned (.int .i64 (-1)) ∧ Below w.heap.size w w'
 | .at p => e = .returned (.int .i64 p) ∧ Below w.heap.size w w'
 | .con wd v => zAe w B gf A c L (zKm L (zD0 wd v)).1 (zKm L (zD0 wd v)).2 e w'
theorem zAe.from {w w1 w' : World} {B gf : Nat} {A : Option Addr} {c : Nat} {L L' : List No} {p : Int} {e : Ending} (h : zAe w1 B gf A c L L' p e w') (hb : Below w.heap.size w w1) (hB : B ≤ w.heap.size) : zAe w B gf A c L L' p e w' := by
 obtain ⟨A', c', h1, h2, h3, h4⟩ := h
 exact ⟨A', c', h1, h2, (hb.mono hB).trans h3, fun k hk a b => (h4 k (Nat.lt_of_lt_of_le hk hb.size) a b).trans (hb.block k hk)⟩
theorem zAf.from {w w1 w' : World} {B gf : Nat} {A : Option Addr} {c : Nat} {L : List No} {kn : Kn} {e : Ending} (h : zAf w1 B gf A c L kn e w') (hb : Below w.heap.size w w1) (hB : B ≤ w.heap.size) : zAf w B gf A c L kn e w' := by
 cases kn with
 | no => exact ⟨h.1, hb.trans (h.2.mono hb.size)⟩
 | «at» p => exact ⟨h.1, hb.trans (h.2.mono hb.size)⟩
 | con wd v => exact zAe.from h hb hB
structure SRIn (w : World) (B gf : Nat) (A : Option Addr) (c : Nat) (L : List No) (n : No) : Prop where
 fold : SFoldAt w B gf A c L
 few : L.length ≤ 60
 ok : zAb L
 inn : zAa L n
theorem SRIn.below {w w' : World} {B gf : Nat} {A : Option Addr} {c : Nat} {L : List No} {n : No} (h : SRIn w B gf A c L n) (hb : Below w.heap.size w w') : SRIn w' B gf A c L n := ⟨h.fold.below hb, h.few, h.ok, h.inn⟩
theorem SRIn.base {w : World} {B gf : Nat} {A : Option Addr} {c : Nat} {L : List No} {n : No} (h : SRIn w B gf A c L n) : B ≤ w.heap.size := Nat.le_trans h.fold.base (Nat.le_of_lt h.fold.blk.lt)
theorem SFoldAt.see {w : World} {B gf : Nat} {A : Option Addr} {c : Nat} {L : List No} (h : SFoldAt w B gf A c L) {q : Nat} (hq : q < L.length) : ∃ g, A = some ⟨g, 0, none⟩ ∧ ∀ W, Below w.heap.size w W → W.cell? ⟨gf, 0, none⟩ = some (.slice (some ⟨g, 0, none⟩) L.length c) ∧
 W.cell? ⟨g, q * 9, none⟩ = some (.int .i64 (Go.Proofs.YtmolbnghobfmoaaGreat.noAt L (q : Int)).k) ∧ W.cell? ⟨g, q * 9 + 1, none⟩ = some (.int .i64 (Go.Proofs.YtmolbnghobfmoaaGreat.noAt L (q : Int)).a) ∧ W.cell? ⟨g, q * 9 + 2, none⟩ = some (.int .i64 (Go.Proofs.YtmolbnghobfmoaaGreat.noAt L (q : Int)).b) ∧ W.cell? ⟨g, q * 9 + 3, none⟩ = some (.int .i64 (Go.Proofs.YtmolbnghobfmoaaGreat.noAt L (q : Int)).c) ∧
    W.cell? ⟨g, q * 9 + 4, none⟩ = some (.int .i64 (Go.Proofs.YtmolbnghobfmoaaGreat.noAt L (q : Int)).n) ∧ W.cell? ⟨g, q * 9 + 5, none⟩ = some (.int .i64 (Go.Proofs.YtmolbnghobfmoaaGreat.noAt L (q : Int)).m) ∧ W.cell? ⟨g, q * 9 + 6, none⟩ = some (.int .i64 (Go.Proofs.YtmolbnghobfmoaaGreat.noAt L (q : Int)).s.i) ∧ W.cell? ⟨g, q * 9 + 7, none⟩ = some (.int .i64 (Go.Proofs.YtmolbnghobfmoaaGreat.noAt L (q : Int)).s.w) ∧
    W.cell? ⟨g, q * 9 + 8, none⟩ = some (.string (Go.Proofs.YtmolbnghobfmoaaGreat.noAt L (q : Int)).t) := by
 obtain ⟨g, hA, hg, hc⟩ := h.noAt (by omega)
 subst hA; obtain ⟨y0, y1, y2, y3, y4, y5, y6, y7, y8⟩ := hc q hq; rw [← zIb hq] at y0 y1 y2 y3 y4 y5 y6 y7 y8; have b0 := h.blk.cell 0; simp only [List.getElem?_toArray, List.getElem?_cons_zero] at b0
 refine ⟨g, rfl, fun W hW => ?_⟩
 have f : ∀ j, W.cell? ⟨g, j, none⟩ = w.cell? ⟨g, j, none⟩ := fun j => hW.cell (p := ⟨g, j, none⟩) hg
 exact ⟨(hW.cell (p := ⟨gf, 0, none⟩) h.blk.lt).trans b0, (f _).trans y0, (f _).trans y1, (f _).trans y2, (f _).trans y3, (f _).trans y4, (f _).trans y5, (f _).trans y6, (f _).trans y7, (f _).trans y8⟩
theorem zLq (k : Int) (b : Bool) (hb : decide (zPq k) = b) (w : World) : Calls Tryz.prog 77 #[.int .i64 k] w fun e w' => e = .returned (.bool b) ∧ w = w' := by
 by_cases h : zPq k
 · obtain rfl : b = true := by rw [← hb]; exact decide_eq_true h
   clear hb
   rcases h with rfl | rfl | rfl | rfl | rfl | rfl | rfl | rfl | rfl
   all_goals
    go_enter Tryz.func77, Tryz.ntmps77
    go_wp2_with fail
    go_ret
    exact ⟨rfl, rfl⟩
 · obtain rfl : b = false := by rw [← hb]; exact decide_eq_false h
   unfold zPq at h; have d6 : (k == 6) = false := by simp only [beq_eq_false_iff_ne]; omega
   have d7 : (k == 7) = false := by simp only [beq_eq_false_iff_ne]; omega
   have d8 : (k == 8) = false := by simp only [beq_eq_false_iff_ne]; omega
   have d9 : (k == 9) = false := by simp only [beq_eq_false_iff_ne]; omega
   have d11 : (k == 11) = false := by simp only [beq_eq_false_iff_ne]; omega
   have d21 : (k == 21) = false := by simp only [beq_eq_false_iff_ne]; omega
   have d26 : (k == 26) = false := by simp only [beq_eq_false_iff_ne]; omega
   have d27 : (k == 27) = false := by simp only [beq_eq_false_iff_ne]; omega
   have d28 : (k == 28) = false := by simp only [beq_eq_false_iff_ne]; omega
   clear hb h
   go_enter Tryz.func77, Tryz.ntmps77
   go_wp2_with fail
   go_ret
   exact ⟨rfl, rfl⟩
theorem zLr (B gf : Nat) (A : Option Addr) (c : Nat) (L : List No) (n : No) (w : World) (h : SFoldAt w B gf A c L) (hl : L.length ≤ 60) (hn : zAa L n) :
 Calls Tryz.prog 130 #[.pointer (some ⟨gf, 0, none⟩), .agg #[.int .i64 n.k, .int .i64 n.a, .int .i64 n.b, .int .i64 n.c, .int .i64 n.n, .int .i64 n.m, .int .i64 n.s.i, .int .i64 n.s.w, .string n.t]] w fun e w' => e = .returned (.bool (zAr L n)) ∧ Below w.heap.size w w' := by
 have H := Kh h; have HN := Kh hn; clear h hn; obtain ⟨M, hM⟩ : ∃ M : Nat, zK1 n.k = (M : Int) := ⟨(zK1 n.k).toNat, by have := HN.out.out.2.1.1; omega⟩
 have hM3 : M ≤ 3 := by have := (zK2 n.k).2; omega
 have HM := Kh hM; obtain ⟨V, hV⟩ : ∃ V, zAr L n = V := ⟨_, rfl⟩
 rw [hV]; have HV := Kh hV; clear hM hV; have B1 := bx w #[.int .i64 n.k, .int .i64 n.a, .int .i64 n.b, .int .i64 n.c, .int .i64 n.n, .int .i64 n.m, .int .i64 n.s.i, .int .i64 n.s.w, .string n.t] 42; have B2 := Kh (B1.out.alloc B1.out.size (.cells #[.int .i64 n.a, .int .i64 n.b, .int .i64 n.c] 3)); have N2 : Hid (Blk ((w.alloc (.cells #[.int .i64 n.k, .int .i64 n.a, .int .i64 n.b, .int .i64 n.c, .int .i64 n.n, .int .i64 n.m, .int .i64 n.s.i, .int .i64 n.s.w, .string n.t] 42)).alloc (.cells #[.int .i64 n.a, .int .i64 n.b, .int .i64 n.c] 3)) w.heap.size 42 #[.int .i64 n.k, .int .i64 n.a, .int .i64 n.b, .int .i64 n.c, .int .i64 n.n, .int .i64 n.m, .int .i64 n.s.i, .int .i64 n.s.w, .string n.t]) := (Blk.new _ _ _).alloc _; have S2 : Hid (Blk ((w.alloc (.cells #[.int .i64 n.k, .int .i64 n.a, .int .i64 n.b, .int .i64 n.c, .int .i64 n.n, .int .i64 n.m, .int .i64 n.s.i, .int .i64 n.s.w, .string n.t] 42)).alloc (.cells #[.int .i64 n.a, .int .i64 n.b, .int .i64 n.c] 3)) (w.heap.size + 1) 3 #[.int .i64 n.a, .int .i64 n.b, .int .i64 n.c]) := Blk.new_at _ _ _ (by simp)
 go_enter Tryz.func130, Tryz.ntmps130
 go_wp2_with fail
 obtain ⟨wa, hwa⟩ : ∃ z, ((w.alloc (.cells #[.int .i64 n.k, .int .i64 n.a, .int .i64 n.b, .int .i64 n.c, .int .i64 n.n, .int .i64 n.m, .int .i64 n.s.i, .int .i64 n.s.w, .string n.t] 42)).alloc (.cells #[.int .i64 n.a, .int .i64 n.b, .int .i64 n.c] 3)) = z := ⟨_, rfl⟩
 rw [hwa] at B2 N2 S2 ⊢; clear hwa B1
 go_loopw [6] (fun j wr => ∃ r : Nat, r ≤ M ∧ Hid (∀ j : Nat, j < r → (noAt L (prt n j)).k = 34) ∧ Hid (Below w.heap.size w wr) ∧ Hid (Blk wr w.heap.size 42 #[.int .i64 n.k, .int .i64 n.a, .int .i64 n.b, .int .i64 n.c, .int .i64 n.n, .int .i64 n.m, .int .i64 n.s.i, .int .i64 n.s.w, .string n.t]) ∧ Hid (Blk wr (w.heap.size + 1) 3 #[.int .i64 n.a, .int .i64 n.b, .int .i64 n.c]) ∧ j = .int .i64 (r : Int)) (fun j _ => M - (intOf j).toNat)
 case atStart => exact ⟨0, Nat.zero_le _, fun j h => by omega, B2, N2, S2, rfl⟩
 case round =>
  obtain ⟨wz, rfl⟩ : ∃ x : World, x = wr := ⟨_, rfl⟩
  clear B2 N2 S2; obtain ⟨r, hr, HI, Br, Nr, Sr, rfl⟩ := hrel; have x0 := Nr.out.nine.1
  by_cases hlt : r < M
  case neg =>
   obtain rfl : r = M := by omega
   have e : decide (0 < r) = V := by
    rw [← HV.out]
    by_cases h0 : 0 < r
    · rw [decide_eq_true h0]
      exact ((zAv (by rw [HM.out]; omega) (by rw [HM.out]; omega)).2 (fun j hj => HI.out j (by rw [HM.out] at hj; omega))).symm
    · rw [decide_eq_false h0]
      symm
      rw [Bool.eq_false_iff]; intro hc; have := (zAt.1 hc).1; rw [HM.out] at this; omega
   have e' : decide ((0 : Int) < (r : Int)) = V := by rw [← e]; exact decide_eq_decide.2 (by omega)
   go_wp2_with (go_at_call 79; refine (zG8 _ _).mono ?_; rintro e w1 ⟨rfl, rfl⟩; rw [HM.out])
   go_ret
   exact ⟨by first | simp [e'] | simp [e], Br.out⟩
  have hq : ∃ q : Nat, prt n r = (q : Int) ∧ q < L.length := by
   unfold prt
   rcases (show r = 0 ∨ r = 1 ∨ r = 2 by omega) with rfl | rfl | rfl
   · have := (HN.out.a (by rw [HM.out]; omega)).1; exact ⟨n.a.toNat, by simp; omega, by omega⟩
   · have := (HN.out.b (by rw [HM.out]; omega)).1; exact ⟨n.b.toNat, by simp; omega, by omega⟩
   · have := (HN.out.c (by rw [HM.out]; omega)).1; exact ⟨n.c.toNat, by simp; omega, by omega⟩
  obtain ⟨q, hq, hql⟩ := hq
  have y0 : wz.cell? ⟨w.heap.size + 1, r, none⟩ = some (.int .i64 (q : Int)) := by
   rw [Sr.out.cell, ← hq]; unfold prt
   rcases (show r = 0 ∨ r = 1 ∨ r = 2 by omega) with rfl | rfl | rfl <;> rfl
  have HQ := Kh hq; clear hq; have e1 := wr1 (r := r) (by omega)
  have hj0 : (0 : Int) ≤ (r : Int) := by omega
  have hj1 : (r : Int) < (M : Int) := by omega
  have hj2 : (r : Int) < 3 := by omega
  have hq0 : (0 : Int) ≤ (q : Int) := by omega
  have hq1 : (q : Int) < (L.length : Int) := by omega
  obtain ⟨g, rfl, hs⟩ := H.out.see hql; obtain ⟨b0, z0, -⟩ := hs wz Br.out; clear hs; have HD := Kh (fun k => zB1 Br.out k)
  have HDn := Kh (fun k => Nr.out.below (zB1 (Below.refl _ wz) k) Nr.out.lt)
  have HDs := Kh (fun k => Sr.out.below (zB1 (Below.refl _ wz) k) Sr.out.lt)
  by_cases hk : (noAt L (q : Int)).k = 34
  · have HI' : Hid (∀ j : Nat, j < r + 1 → (noAt L (prt n j)).k = 34) := fun j hj => by
      by_cases e : j = r
      · subst e; rw [HQ.out]; exact hk
      · exact HI.out j (by omega)
    rw [hk] at z0; clear hk
    go_wp2_with (go_at_call 79; refine (zG8 _ _).mono ?_; rintro e w1 ⟨rfl, rfl⟩; rw [HM.out])
    go_quiet (fail)
    go_wp2_with fail
    go_roundw
    case rel => exact ⟨r + 1, by omega, HI', Kh (HD.out _), Kh (HDn.out _), Kh (HDs.out _), by go_num⟩
    case measure => simp [intOf]; omega
  · obtain rfl : false = V := by
      rw [← HV.out]; symm
      rw [Bool.eq_false_iff]; intro hc; have h1 := (zAv (by rw [HM.out]; omega) (by rw [HM.out]; omega)).1 hc r (by rw [HM.out]; omega)
      rw [HQ.out] at h1
      exact hk h1
    have dk : ((noAt L (q : Int)).k == 34) = false := by simpa using hk
    clear hk
    go_wp2_with (go_at_call 79; refine (zG8 _ _).mono ?_; rintro e w1 ⟨rfl, rfl⟩; rw [HM.out])
    go_quiet (fail)
    go_wp2_with fail
    go_ret
    exact ⟨rfl, HD.out _⟩
theorem zMb (B gf : Nat) (A : Option Addr) (c : Nat) (L : List No) (n : No) (w : World) (h : SFoldAt w B gf A c L) (hl : L.length ≤ 61) :
 Calls Tryz.prog 135 #[.pointer (some ⟨gf, 0, none⟩), .agg #[.int .i64 n.k, .int .i64 n.a, .int .i64 n.b, .int .i64 n.c, .int .i64 n.n, .int .i64 n.m, .int .i64 n.s.i, .int .i64 n.s.w, .string n.t]] w fun e w' => zAf w B gf A c L (zAn n) e w' := by
 have H := Kh h; have hB : B ≤ w.heap.size := Nat.le_trans h.base (Nat.le_of_lt h.blk.lt); clear h; have T := Kh (fun (wd v : Int) (W : World) (hW : Below w.heap.size w W) => zLp B gf A c L wd v W (H.out.below hW) hl)
 obtain ⟨nk, na, nb, nc, nn, nm, ⟨si, sw⟩, nt⟩ := n; dsimp only
 by_cases k6 : nk = 6
 · subst k6
   have ek : zAn ⟨6, na, nb, nc, nn, nm, ⟨si, sw⟩, nt⟩ = .at na := rfl; rw [ek]; clear ek; have B1 := bx w #[.int .i64 6, .int .i64 na, .int .i64 nb, .int .i64 nc, .int .i64 nn, .int .i64 nm, .int .i64 si, .int .i64 sw, .string nt] 42
   go_enter Tryz.func135, Tryz.ntmps135
   go_wp2_with fail
   go_ret
   exact ⟨rfl, B1.out⟩
 by_cases k7 : nk = 7
 · subst k7
   have ek : zAn ⟨7, na, nb, nc, nn, nm, ⟨si, sw⟩, nt⟩ = .at na := rfl; rw [ek]; clear ek; have B1 := bx w #[.int .i64 7, .int .i64 na, .int .i64 nb, .int .i64 nc, .int .i64 nn, .int .i64 nm, .int .i64 si, .int .i64 sw, .string nt] 42
   go_enter Tryz.func135, Tryz.ntmps135
   go_wp2_with fail
   go_ret
   exact ⟨rfl, B1.out⟩
 by_cases k8 : nk = 8
 · subst k8
   have ek : zAn ⟨8, na, nb, nc, nn, nm, ⟨si, sw⟩, nt⟩ = .con sw 0 := rfl; rw [ek]; clear ek; have B1 := bx w #[.int .i64 8, .int .i64 na, .int .i64 nb, .int .i64 nc, .int .i64 nn, .int .i64 nm, .int .i64 si, .int .i64 sw, .string nt] 42
   go_enter Tryz.func135, Tryz.ntmps135
   go_wp2_with (go_at_call 131; refine (T.out _ _ _ B1.out).mono ?_; rintro e w2 hft; obtain ⟨A', c', rfl, h1, h2, h3⟩ := hft.from B1.out hB; have F2 := Kh h1; have BB := Kh h2; have HH := Kh h3; clear h1 h2 h3)
   go_ret
   exact ⟨A', c', rfl, F2.out, BB.out, HH.out⟩
 by_cases k10 : nk = 10
 · subst k10
   have ek : zAn ⟨10, na, nb, nc, nn, nm, ⟨si, sw⟩, nt⟩ = .con sw 0 := rfl; rw [ek]; clear ek; have B1 := bx w #[.int .i64 10, .int .i64 na, .int .i64 nb, .int .i64 nc, .int .i64 nn, .int .i64 nm, .int .i64 si, .int .i64 sw, .string nt] 42
   go_enter Tryz.func135, Tryz.ntmps135
   go_wp2_with (go_at_call 131; refine (T.out _ _ _ B1.out).mono ?_; rintro e w2 hft; obtain ⟨A', c', rfl, h1, h2, h3⟩ := hft.from B1.out hB; have F2 := Kh h1; have BB := Kh h2; have HH := Kh h3; clear h1 h2 h3)
   go_ret
   exact ⟨A', c', rfl, F2.out, BB.out, HH.out⟩
 by_cases k21 : nk = 21
 · subst k21
   have ek : zAn ⟨21, na, nb, nc, nn, nm, ⟨si, sw⟩, nt⟩ = .con 1 1 := rfl; rw [ek]; clear ek; have B1 := bx w #[.int .i64 21, .int .i64 na, .int .i64 nb, .int .i64 nc, .int .i64 nn, .int .i64 nm, .int .i64 si, .int .i64 sw, .string nt] 42
   go_enter Tryz.func135, Tryz.ntmps135
   go_wp2_with (go_at_call 131; refine (T.out _ _ _ B1.out).mono ?_; rintro e w2 hft; obtain ⟨A', c', rfl, h1, h2, h3⟩ := hft.from B1.out hB; have F2 := Kh h1; have BB := Kh h2; have HH := Kh h3; clear h1 h2 h3)
   go_ret
   exact ⟨A', c', rfl, F2.out, BB.out, HH.out⟩
 by_cases k24 : nk = 24
 · subst k24
   have ek : zAn ⟨24, na, nb, nc, nn, nm, ⟨si, sw⟩, nt⟩ = .con 1 1 := rfl; rw [ek]; clear ek; have B1 := bx w #[.int .i64 24, .int .i64 na, .int .i64 nb, .int .i64 nc, .int .i64 nn, .int .i64 nm, .int .i64 si, .int .i64 sw, .string nt] 42
   go_enter Tryz.func135, Tryz.ntmps135
   go_wp2_with (go_at_call 131; refine (T.out _ _ _ B1.out).mono ?_; rintro e w2 hft; obtain ⟨A', c', rfl, h1, h2, h3⟩ := hft.from B1.out hB; have F2 := Kh h1; have BB := Kh h2; have HH := Kh h3; clear h1 h2 h3)
   go_ret
   exact ⟨A', c', rfl, F2.out, BB.out, HH.out⟩
 by_cases k25 : nk = 25
 · subst k25
   have ek : zAn ⟨25, na, nb, nc, nn, nm, ⟨si, sw⟩, nt⟩ = .con 1 1 := rfl; rw [ek]; clear ek; have B1 := bx w #[.int .i64 25, .int .i64 na, .int .i64 nb, .int .i64 nc, .int .i64 nn, .int .i64 nm, .int .i64 si, .int .i64 sw, .string nt] 42
   go_enter Tryz.func135, Tryz.ntmps135
   go_wp2_with (go_at_call 131; refine (T.out _ _ _ B1.out).mono ?_; rintro e w2 hft; obtain ⟨A', c', rfl, h1, h2, h3⟩ := hft.from B1.out hB; have F2 := Kh h1; have BB := Kh h2; have HH := Kh h3; clear h1 h2 h3)
   go_ret
   exact ⟨A', c', rfl, F2.out, BB.out, HH.out⟩
 by_cases k22 : nk = 22
 · subst k22
   have ek : zAn ⟨22, na, nb, nc, nn, nm, ⟨si, sw⟩, nt⟩ = .con 1 0 := rfl; rw [ek]; clear ek; have B1 := bx w #[.int .i64 22, .int .i64 na, .int .i64 nb, .int .i64 nc, .int .i64 nn, .int .i64 nm, .int .i64 si, .int .i64 sw, .string nt] 42
   go_enter Tryz.func135, Tryz.ntmps135
   go_wp2_with (go_at_call 131; refine (T.out _ _ _ B1.out).mono ?_; rintro e w2 hft; obtain ⟨A', c', rfl, h1, h2, h3⟩ := hft.from B1.out hB; have F2 := Kh h1; have BB := Kh h2; have HH := Kh h3; clear h1 h2 h3)
   go_ret
   exact ⟨A', c', rfl, F2.out, BB.out, HH.out⟩
 by_cases k23 : nk = 23
 · subst k23
   have ek : zAn ⟨23, na, nb, nc, nn, nm, ⟨si, sw⟩, nt⟩ = .con 1 0 := rfl; rw [ek]; clear ek; have B1 := bx w #[.int .i64 23, .int .i64 na, .int .i64 nb, .int .i64 nc, .int .i64 nn, .int .i64 nm, .int .i64 si, .int .i64 sw, .string nt] 42
   go_enter Tryz.func135, Tryz.ntmps135
   go_wp2_with (go_at_call 131; refine (T.out _ _ _ B1.out).mono ?_; rintro e w2 hft; obtain ⟨A', c', rfl, h1, h2, h3⟩ := hft.from B1.out hB; have F2 := Kh h1; have BB := Kh h2; have HH := Kh h3; clear h1 h2 h3)
   go_ret
   exact ⟨A', c', rfl, F2.out, BB.out, HH.out⟩
 have ek : zAn ⟨nk, na, nb, nc, nn, nm, ⟨si, sw⟩, nt⟩ = .no := by unfold zAn; dsimp only; rw [if_neg (by omega), if_neg (by omega), if_neg (by omega), if_neg (by omega)]
 rw [ek]; clear ek; have d6 : (nk == 6) = false := by simpa using k6
 have d7 : (nk == 7) = false := by simpa using k7
 have d8 : (nk == 8) = false := by simpa using k8
 have d10 : (nk == 10) = false := by simpa using k10
 have d21 : (nk == 21) = false := by simpa using k21
 have d24 : (nk == 24) = false := by simpa using k24
 have d25 : (nk == 25) = false := by simpa using k25
 have d22 : (nk == 22) = false := by simpa using k22
 have d23 : (nk == 23) = false := by simpa using k23
 have B1 := bx w #[.int .i64 nk, .int .i64 na, .int .i64 nb, .int .i64 nc, .int .i64 nn, .int .i64 nm, .int .i64 si, .int .i64 sw, .string nt] 42
 go_enter Tryz.func135, Tryz.ntmps135
 go_wp2_with fail
 go_ret
 exact ⟨rfl, B1.out⟩
theorem zMa (B gf : Nat) (A : Option Addr) (c : Nat) (L : List No) (n : No) (w : World) (h : SFoldAt w B gf A c L) (hl : L.length ≤ 60) (hn : zAa L n) (hp : zK1 n.k = 2) :
 Calls Tryz.prog 137 #[.pointer (some ⟨gf, 0, none⟩), .agg #[.int .i64 n.k, .int .i64 n.a, .int .i64 n.b, .int .i64 n.c, .int .i64 n.n, .int .i64 n.m, .int .i64 n.s.i, .int .i64 n.s.w, .string n.t]] w fun e w' => zAf w B gf A c L (zKw L n) e w' := by
 have H := Kh h; clear h; obtain ⟨q, hq, hql⟩ : ∃ q : Nat, n.b = (q : Int) ∧ q < L.length := by have := (hn.b (by omega)).1; exact ⟨n.b.toNat, by omega, by omega⟩
 obtain ⟨b, hb⟩ : ∃ b, isC L (q : Int) 0 = b := ⟨_, rfl⟩
 obtain ⟨nk, na, nb, nc, nn, nm, ⟨si, sw⟩, nt⟩ := n; dsimp only at *; subst hq; have B1 := bx w #[.int .i64 nk, .int .i64 na, .int .i64 (q : Int), .int .i64 nc, .int .i64 nn, .int .i64 nm, .int .i64 si, .int .i64 sw, .string nt] 42; have T := Kh (zLs gf A c L q 0 b _ (H.out.below B1.out).blk (H.out.below B1.out).noAt (by omega) hql hb)
 by_cases hs : nk = 10 ∨ nk = 16 ∨ nk = 17 ∨ nk = 18 ∨ nk = 19 ∨ nk = 20
 · have ek : zKw L ⟨nk, na, (q : Int), nc, nn, nm, ⟨si, sw⟩, nt⟩ = if b = true then .at na else .no := by unfold zKw; dsimp only; rw [hb]; by_cases h : b = true <;> simp [h] <;> omega
   rw [ek]; clear ek hb hn hp
   rcases hs with rfl | rfl | rfl | rfl | rfl | rfl
   all_goals
    cases b
    all_goals
     go_enter Tryz.func137, Tryz.ntmps137
     go_wp2_with (go_at_call 133; refine T.out.mono ?_; rintro e w1 ⟨rfl, rfl⟩)
     go_ret
     exact ⟨rfl, B1.out⟩
 · have ek : zKw L ⟨nk, na, (q : Int), nc, nn, nm, ⟨si, sw⟩, nt⟩ = .no := by unfold zKw; dsimp only; rw [if_neg (by omega)]
   rw [ek]; clear ek hb hn hp T; have d10 : (nk == 10) = false := by simp only [beq_eq_false_iff_ne]; omega
   have d16 : (nk == 16) = false := by simp only [beq_eq_false_iff_ne]; omega
   have d17 : (nk == 17) = false := by simp only [beq_eq_false_iff_ne]; omega
   have d18 : (nk == 18) = false := by simp only [beq_eq_false_iff_ne]; omega
   have d19 : (nk == 19) = false := by simp only [beq_eq_false_iff_ne]; omega
   have d20 : (nk == 20) = false := by simp only [beq_eq_false_iff_ne]; omega
   clear hs
   go_enter Tryz.func137, Tryz.ntmps137
   go_wp2_with fail
   go_ret
   exact ⟨rfl, B1.out⟩
theorem zLj (B gf : Nat) (A : Option Addr) (c : Nat) (L : List No) (n : No) (p : Nat) (o : Int) (w : World) (h : SFoldAt w B gf A c L) (hl : L.length ≤ 61) (hp : p < L.length) (hw : 1 ≤ (noAt L (p : Int)).s.w ∧ (noAt L (p : Int)).s.w ≤ 16) :
 Calls Tryz.prog 136 #[.pointer (some ⟨gf, 0, none⟩), .agg #[.int .i64 n.k, .int .i64 n.a, .int .i64 n.b, .int .i64 n.c, .int .i64 n.n, .int .i64 n.m, .int .i64 n.s.i, .int .i64 n.s.w, .string n.t], .int .i64 (p : Int), .int .i64 o] w fun e w' => zAf w B gf A c L (zB7 L n.k (p : Int) o) e w' := by
 have H := Kh h; clear h; obtain ⟨g, rfl, hs⟩ := H.out.see hp; have HS := Kh hs; clear hs; have hgf := H.out.blk.lt; obtain ⟨wd, hwd⟩ : ∃ wd : Nat, (noAt L (p : Int)).s.w = (wd : Int) := ⟨(noAt L (p : Int)).s.w.toNat, by omega⟩
 obtain ⟨P, hP, hP1, hP2, hP3⟩ := zKb (x := wd) (by omega)
 obtain ⟨M, hM⟩ : ∃ M : Int, P - 1 = M := ⟨_, rfl⟩
 have hO : zIz L (p : Int) = M := by unfold zIz; rw [hwd, ← hM, hP1]; rfl
 have eM : IntKind.i64.wrap M = M := zRa (by omega) (by omega)
 have HO := Kh hO; rw [hwd] at hw HS; have t1 : (0 : Int) ≤ (wd : Int) := by omega
 have t2 : (wd : Int) ≤ 16 := by omega
 have hp0 : (0 : Int) ≤ (p : Int) := by omega
 have hp1 : (p : Int) < (L.length : Int) := by omega
 clear hO hwd hw hP1; obtain ⟨nk, na, nb, nc, nn, nm, ⟨si, sw⟩, nt⟩ := n; dsimp only; obtain ⟨x0, hx0⟩ : ∃ b, isC L (p : Int) 0 = b := ⟨_, rfl⟩
 obtain ⟨x1, hx1⟩ : ∃ b, isC L (p : Int) 1 = b := ⟨_, rfl⟩
 obtain ⟨xM, hxM⟩ : ∃ b, isC L (p : Int) M = b := ⟨_, rfl⟩
 have T := Kh (fun (v : Int) (b : Bool) (W : World) (hW : Below w.heap.size w W) (hb : isC L (p : Int) v = b) => zLs gf (some ⟨g, 0, none⟩) c L p v b W (H.out.below hW).blk (H.out.below hW).noAt (by omega) hp hb)
 have X0 := Kh hx0; have X1 := Kh hx1; have XM := Kh hxM; clear hx0 hx1 hxM
 by_cases k6 : nk = 6
 · subst k6
   have ek : zB7 L 6 (p : Int) o = if x0 = true then .at (p : Int) else if xM = true then .at o else .no := by unfold zB7; simp only [HO.out, X0.out, XM.out]; rfl
   rw [ek]; clear ek; have B1 := bx w #[.int .i64 6, .int .i64 na, .int .i64 nb, .int .i64 nc, .int .i64 nn, .int .i64 nm, .int .i64 si, .int .i64 sw, .string nt] 42; have N1 := nx w #[.int .i64 6, .int .i64 na, .int .i64 nb, .int .i64 nc, .int .i64 nn, .int .i64 nm, .int .i64 si, .int .i64 sw, .string nt] 42; obtain ⟨b0, -, -, -, -, -, -, -, z7, -⟩ := HS.out _ B1.out
   cases x0 <;> cases xM
   all_goals
    go_enter Tryz.func136, Tryz.ntmps136
    go_wp2_with (first | (go_at_call 133; with_reducible show Calls _ _ #[_, _, .int .i64 0] _ _; refine (T.out _ _ _ B1.out X0.out).mono ?_; rintro e w1 ⟨rfl, rfl⟩) | (go_at_call 133; with_reducible show Calls _ _ #[_, _, .int .i64 M] _ _; refine (T.out _ _ _ B1.out XM.out).mono ?_; rintro e w1 ⟨rfl, rfl⟩))
    go_ret
    exact ⟨rfl, B1.out⟩
 by_cases k7 : nk = 7
 · subst k7
   have ek : zB7 L 7 (p : Int) o = if x0 = true then .at o else if xM = true then .at (p : Int) else .no := by unfold zB7; simp only [HO.out, X0.out, XM.out]; rfl
   rw [ek]; clear ek; have B1 := bx w #[.int .i64 7, .int .i64 na, .int .i64 nb, .int .i64 nc, .int .i64 nn, .int .i64 nm, .int .i64 si, .int .i64 sw, .string nt] 42; have N1 := nx w #[.int .i64 7, .int .i64 na, .int .i64 nb, .int .i64 nc, .int .i64 nn, .int .i64 nm, .int .i64 si, .int .i64 sw, .string nt] 42; obtain ⟨b0, -, -, -, -, -, -, -, z7, -⟩ := HS.out _ B1.out
   cases x0 <;> cases xM
   all_goals
    go_enter Tryz.func136, Tryz.ntmps136
    go_wp2_with (first | (go_at_call 133; with_reducible show Calls _ _ #[_, _, .int .i64 0] _ _; refine (T.out _ _ _ B1.out X0.out).mono ?_; rintro e w1 ⟨rfl, rfl⟩) | (go_at_call 133; with_reducible show Calls _ _ #[_, _, .int .i64 M] _ _; refine (T.out _ _ _ B1.out XM.out).mono ?_; rintro e w1 ⟨rfl, rfl⟩))
    go_ret
    exact ⟨rfl, B1.out⟩
 by_cases k8 : nk = 8
 · subst k8
   have ek : zB7 L 8 (p : Int) o = if x0 = true then .at o else .no := by unfold zB7; simp only [HO.out, X0.out, XM.out]; rfl
   rw [ek]; clear ek; have B1 := bx w #[.int .i64 8, .int .i64 na, .int .i64 nb, .int .i64 nc, .int .i64 nn, .int .i64 nm, .int .i64 si, .int .i64 sw, .string nt] 42; have N1 := nx w #[.int .i64 8, .int .i64 na, .int .i64 nb, .int .i64 nc, .int .i64 nn, .int .i64 nm, .int .i64 si, .int .i64 sw, .string nt] 42; obtain ⟨b0, -, -, -, -, -, -, -, z7, -⟩ := HS.out _ B1.out
   cases x0
   all_goals
    go_enter Tryz.func136, Tryz.ntmps136
    go_wp2_with (first | (go_at_call 133; with_reducible show Calls _ _ #[_, _, .int .i64 0] _ _; refine (T.out _ _ _ B1.out X0.out).mono ?_; rintro e w1 ⟨rfl, rfl⟩))
    go_ret
    exact ⟨rfl, B1.out⟩
 by_cases k9 : nk = 9
 · subst k9
   have ek : zB7 L 9 (p : Int) o = if x0 = true then .at o else .no := by unfold zB7; simp only [HO.out, X0.out, XM.out]; rfl
   rw [ek]; clear ek; have B1 := bx w #[.int .i64 9, .int .i64 na, .int .i64 nb, .int .i64 nc, .int .i64 nn, .int .i64 nm, .int .i64 si, .int .i64 sw, .string nt] 42; have N1 := nx w #[.int .i64 9, .int .i64 na, .int .i64 nb, .int .i64 nc, .int .i64 nn, .int .i64 nm, .int .i64 si, .int .i64 sw, .string nt] 42; obtain ⟨b0, -, -, -, -, -, -, -, z7, -⟩ := HS.out _ B1.out
   cases x0
   all_goals
    go_enter Tryz.func136, Tryz.ntmps136
    go_wp2_with (first | (go_at_call 133; with_reducible show Calls _ _ #[_, _, .int .i64 0] _ _; refine (T.out _ _ _ B1.out X0.out).mono ?_; rintro e w1 ⟨rfl, rfl⟩))
    go_ret
    exact ⟨rfl, B1.out⟩
 by_cases k11 : nk = 11
 · subst k11
   have ek : zB7 L 11 (p : Int) o = if x0 = true then .at (p : Int) else if x1 = true then .at o else .no := by unfold zB7; rw [HO.out, X0.out, XM.out, X1.out]; rfl
   rw [ek]; clear ek; have B1 := bx w #[.int .i64 11, .int .i64 na, .int .i64 nb, .int .i64 nc, .int .i64 nn, .int .i64 nm, .int .i64 si, .int .i64 sw, .string nt] 42; have N1 := nx w #[.int .i64 11, .int .i64 na, .int .i64 nb, .int .i64 nc, .int .i64 nn, .int .i64 nm, .int .i64 si, .int .i64 sw, .string nt] 42; obtain ⟨b0, -, -, -, -, -, -, -, z7, -⟩ := HS.out _ B1.out
   cases x0 <;> cases x1
   all_goals
    go_enter Tryz.func136, Tryz.ntmps136
    go_wp2_with (first | (go_at_call 133; with_reducible show Calls _ _ #[_, _, .int .i64 0] _ _; refine (T.out _ _ _ B1.out X0.out).mono ?_; rintro e w1 ⟨rfl, rfl⟩) | (go_at_call 133; with_reducible show Calls _ _ #[_, _, .int .i64 1] _ _; refine (T.out _ _ _ B1.out X1.out).mono ?_; rintro e w1 ⟨rfl, rfl⟩))
    go_ret
    exact ⟨rfl, B1.out⟩
 have ek : zB7 L nk (p : Int) o = .no := zB9 (by omega)
 rw [ek]; clear ek; have d6 : (nk == 6) = false := by simpa using k6
 have d7 : (nk == 7) = false := by simpa using k7
 have d8 : (nk == 8) = false := by simpa using k8
 have d9 : (nk == 9) = false := by simpa using k9
 have d11 : (nk == 11) = false := by simpa using k11
 have B1 := bx w #[.int .i64 nk, .int .i64 na, .int .i64 nb, .int .i64 nc, .int .i64 nn, .int .i64 nm, .int .i64 si, .int .i64 sw, .string nt] 42; have N1 := nx w #[.int .i64 nk, .int .i64 na, .int .i64 nb, .int .i64 nc, .int .i64 nn, .int .i64 nm, .int .i64 si, .int .i64 sw, .string nt] 42; obtain ⟨b0, -, -, -, -, -, -, -, z7, -⟩ := HS.out _ B1.out
 go_enter Tryz.func136, Tryz.ntmps136
 go_wp2_with fail
 go_ret
 exact ⟨rfl, B1.out⟩
theorem zM6 (B gf : Nat) (A : Option Addr) (c : Nat) (L : List No) (n : No) (w : World) (h : SFoldAt w B gf A c L) (hl : L.length ≤ 60) (hL : zAb L) (hn : zAa L n) (hp : zK1 n.k = 1) :
 Calls Tryz.prog 134 #[.pointer (some ⟨gf, 0, none⟩), .agg #[.int .i64 n.k, .int .i64 n.a, .int .i64 n.b, .int .i64 n.c, .int .i64 n.n, .int .i64 n.m, .int .i64 n.s.i, .int .i64 n.s.w, .string n.t]] w fun e w' => zAf w B gf A c L (zIv L n) e w' := by
 have H := Kh h; clear h; obtain ⟨q, hq, hql⟩ : ∃ q : Nat, n.a = (q : Int) ∧ q < L.length := by have := (hn.a (by omega)).1; exact ⟨n.a.toNat, by omega, by omega⟩
 have hsw := (hL.at (p := (q : Int)) (by omega) (by omega)).sortOk.2
 obtain ⟨nk, na, nb, nc, nn, nm, ⟨si, sw⟩, nt⟩ := n; dsimp only at *; subst hq; obtain ⟨g, rfl, hs⟩ := H.out.see hql; have HS := Kh hs; clear hs; have hgf := H.out.blk.lt; have hp0 : (0 : Int) ≤ (q : Int) := by omega
 have hp1 : (q : Int) < (L.length : Int) := by omega
 obtain ⟨K, hK⟩ : ∃ K, zIv L ⟨nk, (q : Int), nb, nc, nn, nm, ⟨si, sw⟩, nt⟩ = K := ⟨_, rfl⟩
 rw [hK]; unfold zIv at hK; dsimp only at hK; have HK := Kh hK; clear hK hn; generalize noAt L (q : Int) = x at *; obtain ⟨xk, xa, xb, xc, xn, xm, ⟨xi, xw⟩, xt⟩ := x; dsimp only at HS HK hsw; have eW : IntKind.i64.wrap (xw - 1) = xw - 1 := zRa (by omega) (by omega)
 by_cases k1 : nk = 1
 · subst k1
   by_cases hx : xk = 1
   · subst hx
     obtain rfl : .at xa = K := by rw [← HK.out]; rfl
     have B1 := bx w #[.int .i64 1, .int .i64 (q : Int), .int .i64 nb, .int .i64 nc, .int .i64 nn, .int .i64 nm, .int .i64 si, .int .i64 sw, .string nt] 42; have N1 := nx w #[.int .i64 1, .int .i64 (q : Int), .int .i64 nb, .int .i64 nc, .int .i64 nn, .int .i64 nm, .int .i64 si, .int .i64 sw, .string nt] 42
     go_enter Tryz.func134, Tryz.ntmps134
     go_wp2_with fail
     obtain ⟨w2, hw2⟩ : ∃ z, (w.alloc (.cells #[.int .i64 1, .int .i64 (q : Int), .int .i64 nb, .int .i64 nc, .int .i64 nn, .int .i64 nm, .int .i64 si, .int .i64 sw, .string nt] 42)) = z := ⟨_, rfl⟩
     rw [hw2] at B1 N1 ⊢; clear hw2; obtain ⟨y0, y1, y2, y3, y4, y5, y6, y7, y8⟩ := N1.out.nine; obtain ⟨b0, z0, z1, z2, z3, z4, z5, z6, z7, z8⟩ := HS.out _ B1.out; have q1 := N1.out.lt; have q2 := zBx b0; have q3 := zBx z0
     go_region
     all_goals
      go_wp2_with fail
      go_ret
      exact ⟨rfl, by first | exact (B1.out.alloc B1.out.size _).drew | exact zB1 ((B1.out.alloc B1.out.size _).drew) _⟩
   · have dx : (xk == 1) = false := by simpa using hx
     obtain rfl : .no = K := by rw [← HK.out, if_pos (by omega), if_neg hx]
     clear hx; have B1 := bx w #[.int .i64 1, .int .i64 (q : Int), .int .i64 nb, .int .i64 nc, .int .i64 nn, .int .i64 nm, .int .i64 si, .int .i64 sw, .string nt] 42; have N1 := nx w #[.int .i64 1, .int .i64 (q : Int), .int .i64 nb, .int .i64 nc, .int .i64 nn, .int .i64 nm, .int .i64 si, .int .i64 sw, .string nt] 42
     go_enter Tryz.func134, Tryz.ntmps134
     go_wp2_with fail
     obtain ⟨w2, hw2⟩ : ∃ z, (w.alloc (.cells #[.int .i64 1, .int .i64 (q : Int), .int .i64 nb, .int .i64 nc, .int .i64 nn, .int .i64 nm, .int .i64 si, .int .i64 sw, .string nt] 42)) = z := ⟨_, rfl⟩
     rw [hw2] at B1 N1 ⊢; clear hw2; obtain ⟨y0, y1, y2, y3, y4, y5, y6, y7, y8⟩ := N1.out.nine; obtain ⟨b0, z0, z1, z2, z3, z4, z5, z6, z7, z8⟩ := HS.out _ B1.out; have q1 := N1.out.lt; have q2 := zBx b0; have q3 := zBx z0
     go_region
     all_goals
      go_wp2_with fail
      go_ret
      exact ⟨rfl, by first | exact (B1.out.alloc B1.out.size _).drew | exact zB1 ((B1.out.alloc B1.out.size _).drew) _⟩
 by_cases k2 : nk = 2
 · subst k2
   by_cases hx : xk = 2
   · subst hx
     obtain rfl : .at xa = K := by rw [← HK.out]; rfl
     have B1 := bx w #[.int .i64 2, .int .i64 (q : Int), .int .i64 nb, .int .i64 nc, .int .i64 nn, .int .i64 nm, .int .i64 si, .int .i64 sw, .string nt] 42; have N1 := nx w #[.int .i64 2, .int .i64 (q : Int), .int .i64 nb, .int .i64 nc, .int .i64 nn, .int .i64 nm, .int .i64 si, .int .i64 sw, .string nt] 42
     go_enter Tryz.func134, Tryz.ntmps134
     go_wp2_with fail
     obtain ⟨w2, hw2⟩ : ∃ z, (w.alloc (.cells #[.int .i64 2, .int .i64 (q : Int), .int .i64 nb, .int .i64 nc, .int .i64 nn, .int .i64 nm, .int .i64 si, .int .i64 sw, .string nt] 42)) = z := ⟨_, rfl⟩
     rw [hw2] at B1 N1 ⊢; clear hw2; obtain ⟨y0, y1, y2, y3, y4, y5, y6, y7, y8⟩ := N1.out.nine; obtain ⟨b0, z0, z1, z2, z3, z4, z5, z6, z7, z8⟩ := HS.out _ B1.out; have q1 := N1.out.lt; have q2 := zBx b0; have q3 := zBx z0
     go_region
     all_goals
      go_wp2_with fail
      go_ret
      exact ⟨rfl, by first | exact (B1.out.alloc B1.out.size _).drew | exact zB1 ((B1.out.alloc B1.out.size _).drew) _⟩
   · have dx : (xk == 2) = false := by simpa using hx
     obtain rfl : .no = K := by rw [← HK.out, if_pos (by omega), if_neg hx]
     clear hx; have B1 := bx w #[.int .i64 2, .int .i64 (q : Int), .int .i64 nb, .int .i64 nc, .int .i64 nn, .int .i64 nm, .int .i64 si, .int .i64 sw, .string nt] 42; have N1 := nx w #[.int .i64 2, .int .i64 (q : Int), .int .i64 nb, .int .i64 nc, .int .i64 nn, .int .i64 nm, .int .i64 si, .int .i64 sw, .string nt] 42
     go_enter Tryz.func134, Tryz.ntmps134
     go_wp2_with fail
     obtain ⟨w2, hw2⟩ : ∃ z, (w.alloc (.cells #[.int .i64 2, .int .i64 (q : Int), .int .i64 nb, .int .i64 nc, .int .i64 nn, .int .i64 nm, .int .i64 si, .int .i64 sw, .string nt] 42)) = z := ⟨_, rfl⟩
     rw [hw2] at B1 N1 ⊢; clear hw2; obtain ⟨y0, y1, y2, y3, y4, y5, y6, y7, y8⟩ := N1.out.nine; obtain ⟨b0, z0, z1, z2, z3, z4, z5, z6, z7, z8⟩ := HS.out _ B1.out; have q1 := N1.out.lt; have q2 := zBx b0; have q3 := zBx z0
     go_region
     all_goals
      go_wp2_with fail
      go_ret
      exact ⟨rfl, by first | exact (B1.out.alloc B1.out.size _).drew | exact zB1 ((B1.out.alloc B1.out.size _).drew) _⟩
 by_cases k30 : nk = 30
 · subst k30
   by_cases hm : nm = 0
   · subst hm
     by_cases hx : nn = xw - 1
     · have dx : (nn == xw - 1) = true := by simpa using hx
       obtain rfl : .at (q : Int) = K := by rw [← HK.out, if_neg (by omega), if_pos rfl, if_pos ⟨rfl, hx⟩]
       clear hx; have B1 := bx w #[.int .i64 30, .int .i64 (q : Int), .int .i64 nb, .int .i64 nc, .int .i64 nn, .int .i64 0, .int .i64 si, .int .i64 sw, .string nt] 42; have N1 := nx w #[.int .i64 30, .int .i64 (q : Int), .int .i64 nb, .int .i64 nc, .int .i64 nn, .int .i64 0, .int .i64 si, .int .i64 sw, .string nt] 42
       go_enter Tryz.func134, Tryz.ntmps134
       go_wp2_with fail
       obtain ⟨w2, hw2⟩ : ∃ z, (w.alloc (.cells #[.int .i64 30, .int .i64 (q : Int), .int .i64 nb, .int .i64 nc, .int .i64 nn, .int .i64 0, .int .i64 si, .int .i64 sw, .string nt] 42)) = z := ⟨_, rfl⟩
       rw [hw2] at B1 N1 ⊢; clear hw2; obtain ⟨y0, y1, y2, y3, y4, y5, y6, y7, y8⟩ := N1.out.nine; obtain ⟨b0, z0, z1, z2, z3, z4, z5, z6, z7, z8⟩ := HS.out _ B1.out; have q1 := N1.out.lt; have q2 := zBx b0; have q3 := zBx z0
       go_region
       all_goals
        go_wp2_with fail
        try go_quiet (fail)
        try go_wp2_with fail
        go_ret
        exact ⟨rfl, by first | exact (B1.out.alloc B1.out.size _).drew | exact zB1 ((B1.out.alloc B1.out.size _).drew) _⟩
     · have dx : (nn == xw - 1) = false := by simpa using hx
       obtain rfl : .no = K := by rw [← HK.out, if_neg (by omega), if_pos rfl, if_neg (fun h => hx h.2)]
       clear hx; have B1 := bx w #[.int .i64 30, .int .i64 (q : Int), .int .i64 nb, .int .i64 nc, .int .i64 nn, .int .i64 0, .int .i64 si, .int .i64 sw, .string nt] 42; have N1 := nx w #[.int .i64 30, .int .i64 (q : Int), .int .i64 nb, .int .i64 nc, .int .i64 nn, .int .i64 0, .int .i64 si, .int .i64 sw, .string nt] 42
       go_enter Tryz.func134, Tryz.ntmps134
       go_wp2_with fail
       obtain ⟨w2, hw2⟩ : ∃ z, (w.alloc (.cells #[.int .i64 30, .int .i64 (q : Int), .int .i64 nb, .int .i64 nc, .int .i64 nn, .int .i64 0, .int .i64 si, .int .i64 sw, .string nt] 42)) = z := ⟨_, rfl⟩
       rw [hw2] at B1 N1 ⊢; clear hw2; obtain ⟨y0, y1, y2, y3, y4, y5, y6, y7, y8⟩ := N1.out.nine; obtain ⟨b0, z0, z1, z2, z3, z4, z5, z6, z7, z8⟩ := HS.out _ B1.out; have q1 := N1.out.lt; have q2 := zBx b0; have q3 := zBx z0
       go_region
       all_goals
        go_wp2_with fail
        try go_quiet (fail)
        try go_wp2_with fail
        go_ret
        exact ⟨rfl, by first | exact (B1.out.alloc B1.out.size _).drew | exact zB1 ((B1.out.alloc B1.out.size _).drew) _⟩
   · have dx : (nm == 0) = false := by simpa using hm
     obtain rfl : .no = K := by rw [← HK.out, if_neg (by omega), if_pos rfl, if_neg (fun h => hm h.1)]
     clear hm; have B1 := bx w #[.int .i64 30, .int .i64 (q : Int), .int .i64 nb, .int .i64 nc, .int .i64 nn, .int .i64 nm, .int .i64 si, .int .i64 sw, .string nt] 42; have N1 := nx w #[.int .i64 30, .int .i64 (q : Int), .int .i64 nb, .int .i64 nc, .int .i64 nn, .int .i64 nm, .int .i64 si, .int .i64 sw, .string nt] 42
     go_enter Tryz.func134, Tryz.ntmps134
     go_wp2_with fail
     obtain ⟨w2, hw2⟩ : ∃ z, (w.alloc (.cells #[.int .i64 30, .int .i64 (q : Int), .int .i64 nb, .int .i64 nc, .int .i64 nn, .int .i64 nm, .int .i64 si, .int .i64 sw, .string nt] 42)) = z := ⟨_, rfl⟩
     rw [hw2] at B1 N1 ⊢; clear hw2; obtain ⟨y0, y1, y2, y3, y4, y5, y6, y7, y8⟩ := N1.out.nine; obtain ⟨b0, z0, z1, z2, z3, z4, z5, z6, z7, z8⟩ := HS.out _ B1.out; have q1 := N1.out.lt; have q2 := zBx b0; have q3 := zBx z0
     go_region
     all_goals
      go_wp2_with fail
      try go_quiet (fail)
      try go_wp2_with fail
      go_ret
      exact ⟨rfl, by first | exact (B1.out.alloc B1.out.size _).drew | exact zB1 ((B1.out.alloc B1.out.size _).drew) _⟩
 by_cases k31 : nk = 31
 · subst k31
   by_cases hx : nn = 0
   · subst hx
     obtain rfl : .at (q : Int) = K := by rw [← HK.out, if_neg (by omega), if_neg (by omega), if_pos (by omega), if_pos rfl]
     have B1 := bx w #[.int .i64 31, .int .i64 (q : Int), .int .i64 nb, .int .i64 nc, .int .i64 0, .int .i64 nm, .int .i64 si, .int .i64 sw, .string nt] 42; have N1 := nx w #[.int .i64 31, .int .i64 (q : Int), .int .i64 nb, .int .i64 nc, .int .i64 0, .int .i64 nm, .int .i64 si, .int .i64 sw, .string nt] 42
     go_enter Tryz.func134, Tryz.ntmps134
     go_wp2_with fail
     obtain ⟨w2, hw2⟩ : ∃ z, (w.alloc (.cells #[.int .i64 31, .int .i64 (q : Int), .int .i64 nb, .int .i64 nc, .int .i64 0, .int .i64 nm, .int .i64 si, .int .i64 sw, .string nt] 42)) = z := ⟨_, rfl⟩
     rw [hw2] at B1 N1 ⊢; clear hw2; obtain ⟨y0, y1, y2, y3, y4, y5, y6, y7, y8⟩ := N1.out.nine; obtain ⟨b0, z0, z1, z2, z3, z4, z5, z6, z7, z8⟩ := HS.out _ B1.out; have q1 := N1.out.lt; have q2 := zBx b0; have q3 := zBx z0
     go_region
     all_goals
      go_wp2_with fail
      go_ret
      exact ⟨rfl, by first | exact (B1.out.alloc B1.out.size _).drew | exact zB1 ((B1.out.alloc B1.out.size _).drew) _⟩
   · have dx : (nn == 0) = false := by simpa using hx
     obtain rfl : .no = K := by rw [← HK.out, if_neg (by omega), if_neg (by omega), if_pos (by omega), if_neg hx]
     clear hx; have B1 := bx w #[.int .i64 31, .int .i64 (q : Int), .int .i64 nb, .int .i64 nc, .int .i64 nn, .int .i64 nm, .int .i64 si, .int .i64 sw, .string nt] 42; have N1 := nx w #[.int .i64 31, .int .i64 (q : Int), .int .i64 nb, .int .i64 nc, .int .i64 nn, .int .i64 nm, .int .i64 si, .int .i64 sw, .string nt] 42
     go_enter Tryz.func134, Tryz.ntmps134
     go_wp2_with fail
     obtain ⟨w2, hw2⟩ : ∃ z, (w.alloc (.cells #[.int .i64 31, .int .i64 (q : Int), .int .i64 nb, .int .i64 nc, .int .i64 nn, .int .i64 nm, .int .i64 si, .int .i64 sw, .string nt] 42)) = z := ⟨_, rfl⟩
     rw [hw2] at B1 N1 ⊢; clear hw2; obtain ⟨y0, y1, y2, y3, y4, y5, y6, y7, y8⟩ := N1.out.nine; obtain ⟨b0, z0, z1, z2, z3, z4, z5, z6, z7, z8⟩ := HS.out _ B1.out; have q1 := N1.out.lt; have q2 := zBx b0; have q3 := zBx z0
     go_region
     all_goals
      go_wp2_with fail
      go_ret
      exact ⟨rfl, by first | exact (B1.out.alloc B1.out.size _).drew | exact zB1 ((B1.out.alloc B1.out.size _).drew) _⟩
 by_cases k32 : nk = 32
 · subst k32
   by_cases hx : nn = 0
   · subst hx
     obtain rfl : .at (q : Int) = K := by rw [← HK.out, if_neg (by omega), if_neg (by omega), if_pos (by omega), if_pos rfl]
     have B1 := bx w #[.int .i64 32, .int .i64 (q : Int), .int .i64 nb, .int .i64 nc, .int .i64 0, .int .i64 nm, .int .i64 si, .int .i64 sw, .string nt] 42; have N1 := nx w #[.int .i64 32, .int .i64 (q : Int), .int .i64 nb, .int .i64 nc, .int .i64 0, .int .i64 nm, .int .i64 si, .int .i64 sw, .string nt] 42
     go_enter Tryz.func134, Tryz.ntmps134
     go_wp2_with fail
     obtain ⟨w2, hw2⟩ : ∃ z, (w.alloc (.cells #[.int .i64 32, .int .i64 (q : Int), .int .i64 nb, .int .i64 nc, .int .i64 0, .int .i64 nm, .int .i64 si, .int .i64 sw, .string nt] 42)) = z := ⟨_, rfl⟩
     rw [hw2] at B1 N1 ⊢; clear hw2; obtain ⟨y0, y1, y2, y3, y4, y5, y6, y7, y8⟩ := N1.out.nine; obtain ⟨b0, z0, z1, z2, z3, z4, z5, z6, z7, z8⟩ := HS.out _ B1.out; have q1 := N1.out.lt; have q2 := zBx b0; have q3 := zBx z0
     go_region
     all_goals
      go_wp2_with fail
      go_ret
      exact ⟨rfl, by first | exact (B1.out.alloc B1.out.size _).drew | exact zB1 ((B1.out.alloc B1.out.size _).drew) _⟩
   · have dx : (nn == 0) = false := by simpa using hx
     obtain rfl : .no = K := by rw [← HK.out, if_neg (by omega), if_neg (by omega), if_pos (by omega), if_neg hx]
     clear hx; have B1 := bx w #[.int .i64 32, .int .i64 (q : Int), .int .i64 nb, .int .i64 nc, .int .i64 nn, .int .i64 nm, .int .i64 si, .int .i64 sw, .string nt] 42; have N1 := nx w #[.int .i64 32, .int .i64 (q : Int), .int .i64 nb, .int .i64 nc, .int .i64 nn, .int .i64 nm, .int .i64 si, .int .i64 sw, .string nt] 42
     go_enter Tryz.func134, Tryz.ntmps134
     go_wp2_with fail
     obtain ⟨w2, hw2⟩ : ∃ z, (w.alloc (.cells #[.int .i64 32, .int .i64 (q : Int), .int .i64 nb, .int .i64 nc, .int .i64 nn, .int .i64 nm, .int .i64 si, .int .i64 sw, .string nt] 42)) = z := ⟨_, rfl⟩
     rw [hw2] at B1 N1 ⊢; clear hw2; obtain ⟨y0, y1, y2, y3, y4, y5, y6, y7, y8⟩ := N1.out.nine; obtain ⟨b0, z0, z1, z2, z3, z4, z5, z6, z7, z8⟩ := HS.out _ B1.out; have q1 := N1.out.lt; have q2 := zBx b0; have q3 := zBx z0
     go_region
     all_goals
      go_wp2_with fail
      go_ret
      exact ⟨rfl, by first | exact (B1.out.alloc B1.out.size _).drew | exact zB1 ((B1.out.alloc B1.out.size _).drew) _⟩
 obtain rfl : .no = K := by rw [← HK.out, if_neg (by omega), if_neg (by omega), if_neg (by omega)]
 have d1 : (nk == 1) = false := by simpa using k1
 have d2 : (nk == 2) = false := by simpa using k2
 have d30 : (nk == 30) = false := by simpa using k30
 have d31 : (nk == 31) = false := by simpa using k31
 have d32 : (nk == 32) = false := by simpa using k32
 have B1 := bx w #[.int .i64 nk, .int .i64 (q : Int), .int .i64 nb, .int .i64 nc, .int .i64 nn, .int .i64 nm, .int .i64 si, .int .i64 sw, .string nt] 42; have N1 := nx w #[.int .i64 nk, .int .i64 (q : Int), .int .i64 nb, .int .i64 nc, .int .i64 nn, .int .i64 nm, .int .i64 si, .int .i64 sw, .string nt] 42
 go_enter Tryz.func134, Tryz.ntmps134
 go_wp2_with fail
 obtain ⟨w2, hw2⟩ : ∃ z, (w.alloc (.cells #[.int .i64 nk, .int .i64 (q : Int), .int .i64 nb, .int .i64 nc, .int .i64 nn, .int .i64 nm, .int .i64 si, .int .i64 sw, .string nt] 42)) = z := ⟨_, rfl⟩
 rw [hw2] at B1 N1 ⊢; clear hw2; obtain ⟨y0, y1, y2, y3, y4, y5, y6, y7, y8⟩ := N1.out.nine; obtain ⟨b0, z0, z1, z2, z3, z4, z5, z6, z7, z8⟩ := HS.out _ B1.out; have q1 := N1.out.lt; have q2 := zBx b0; have q3 := zBx z0
 go_region
 all_goals
  go_wp2_with fail
  go_ret
  exact ⟨rfl, by first | exact (B1.out.alloc B1.out.size _).drew | exact zB1 ((B1.out.alloc B1.out.size _).drew) _⟩
end Go.Proofs.YtmolbnghobfmoaaGreat
