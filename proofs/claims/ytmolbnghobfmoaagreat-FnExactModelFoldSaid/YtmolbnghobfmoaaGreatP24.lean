/- Part 24 of what the row Row28 rests on: F24 F25 F26. -/
import Derived.Test.YtmolbnghobfmoaaGreatP23
set_option maxRecDepth 100000
set_option maxHeartbeats 16000000
set_option linter.unusedSimpArgs false
set_option linter.unusedVariables false
namespace Go.Proofs.YtmolbnghobfmoaaGreat
open Go.RowKit
theorem zF7 : (Tryz.prog.info? 53).map (fun i => (i.zero, i.size, i.bytes)) = some (some (.agg #[.slice none 0 0]), 1, 24) := by kernel_rfl
theorem zHt (n : Nat) (hn : n ≤ 1048576) (w : World) :
 (Instr.makeSlice 47 (.int .i64 (n : Int)) (.int .i64 (n : Int))).run Tryz.prog w = .ok (.slice (some ⟨w.heap.size, 0, none⟩) n n) (w.alloc (.cells (zL2 (fun _ => .slice none 0 0) n) 53)) := by
 obtain ⟨i, hi, hz0, hz1, hz2⟩ := info_parts zF7; have := zLg (P := Tryz.prog) 47 53 i _ Tryz.underlying47 hi hz0 .i64 .i64 n n (Nat.le_refl _) (by rw [hz2]; omega) (by omega) w
 rw [hz1, Nat.mul_one] at this; rw [← zH9]
 exact this
theorem zIn {so : Int → So} {va va' : Int → List Int} {n : No} (hk : 1 ≤ n.k ∧ n.k ≤ 38) (hx : ¬ (n.k = 35 ∨ n.k = 36)) (ha : 0 < zK1 n.k → va n.a = va' n.a) (hb : 1 < zK1 n.k → va n.b = va' n.b) (hc : 2 < zK1 n.k → va n.c = va' n.c) :
 zIm so va n = zIm so va' n := by
 unfold zIm
 by_cases h34 : n.k = 34
 · rw [if_pos h34, if_pos h34]
 rw [if_neg h34, if_neg h34]
 by_cases h33 : n.k = 33
 · have hp := zK0 (.inl h33)
   rw [if_pos h33, if_pos h33, ha (by omega), hb (by omega), hc (by omega)]
 rw [if_neg h33, if_neg h33]
 by_cases h38 : n.k = 38
 · have hp := zK0 (.inr h38)
   rw [ha (by omega), hb (by omega), hc (by omega)]
 by_cases h1 : n.k ≤ 5 ∨ (30 ≤ n.k ∧ n.k ≤ 32)
 · have hp : zK1 n.k = 1 := zJy (by omega)
   rw [ha (by omega)]
   by_cases h5 : n.k ≤ 5
   · iterate 2 rw [if_neg (show ¬ n.k = 21 by omega), if_neg (show ¬ n.k = 37 by omega), if_neg (show ¬ n.k = 38 by omega), if_neg (show ¬ n.k = 29 by omega), if_neg (show ¬ n.k = 30 by omega), if_neg (show ¬ (n.k = 31 ∨ n.k = 32) by omega), if_pos h5]
   · by_cases h30 : n.k = 30
     · iterate 2 rw [if_neg (show ¬ n.k = 21 by omega), if_neg (show ¬ n.k = 37 by omega), if_neg (show ¬ n.k = 38 by omega), if_neg (show ¬ n.k = 29 by omega), if_pos h30]
     · iterate 2 rw [if_neg (show ¬ n.k = 21 by omega), if_neg (show ¬ n.k = 37 by omega), if_neg (show ¬ n.k = 38 by omega), if_neg (show ¬ n.k = 29 by omega), if_neg h30, if_pos (show n.k = 31 ∨ n.k = 32 by omega)]
 · have hp : zK1 n.k = 2 := zJz (by omega)
   rw [ha (by omega), hb (by omega)]
   iterate 2 rw [if_neg (show ¬ n.k = 38 by omega)]
def cvs (L : List No) : List (List Int) := L.map fun m => [m.n]
theorem zD9 {L : List No} {p : Int} (h0 : 0 ≤ p) (h1 : p < (L.length : Int)) : (cvs L).getD p.toNat [] = [(noAt L p).n] := by
 obtain ⟨q, rfl⟩ : ∃ q : Nat, p = (q : Int) := ⟨p.toNat, by omega⟩
 have hq : q < L.length := by omega
 rw [Int.toNat_natCast, zIb hq]; simp [cvs, List.getD_eq_getElem?_getD, hq]
theorem zAu {L : List No} {n : No} (hn : zAa L n) (hc : zAr L n = true) (hx : ¬ (n.k = 35 ∨ n.k = 36)) : zIm (fun p => (noAt L p).s) (fun p => (cvs L).getD p.toNat []) n = zIm (fun p => (noAt L p).s) (fun p => [(noAt L p).n]) n :=
 zIn hn.kind hx (fun h => zD9 (hn.a h).1.1 (hn.a h).1.2) (fun h => zD9 (hn.b h).1.1 (hn.b h).1.2) (fun h => zD9 (hn.c h).1.1 (hn.c h).1.2)
theorem zBx {w : World} {g i : Nat} {v : Value} (h : w.cell? ⟨g, i, none⟩ = some v) : g < w.heap.size := by
 rcases Nat.lt_or_ge g w.heap.size with h1 | h1
 · exact h1
 · simp [World.cell?, Array.getElem?_eq_none h1] at h
theorem zE9 : Enters Tryz.prog 181 := enters_of Tryz.func181 (by kernel_rfl) rfl
theorem zE8 (B gf g1 : Nat) (A : Option Addr) (c : Nat) (L : List No) (p : Nat) (w : World) (h : FoldAt w B gf A c L) (h1 : w.cell? ⟨g1, 0, none⟩ = some (.pointer (some ⟨gf, 0, none⟩))) (hl : L.length ≤ 1048576) (hp : p < L.length) :
 Calls Tryz.prog 181 #[.int .i64 (p : Int), .pointer (some ⟨g1, 0, none⟩)] w fun e w' => e = .returned (.agg #[.int .i64 (noAt L (p : Int)).s.i, .int .i64 (noAt L (p : Int)).s.w]) ∧ Below w.heap.size w w' := by
 have B1 := bx w #[.int .i64 0, .int .i64 0] 40; have h1lt : g1 < w.heap.size := zBx h1; have c1 := (B1.out.cell (p := ⟨g1, 0, none⟩) h1lt).trans h1; have h' := h.below B1.out; have b0 := h'.blk.cell 0; simp only [List.getElem?_toArray, List.getElem?_cons_zero] at b0
 obtain ⟨g, rfl, hg, hc⟩ := h'.noAt (by omega)
 obtain ⟨-, -, -, -, -, -, y6, y7, -⟩ := hc p hp; rw [← zIb hp] at y6 y7; have hp0 : (0 : Int) ≤ (p : Int) := by omega
 have hp1 : (p : Int) < (L.length : Int) := by omega
 clear hc h h' h1; generalize (noAt L (p : Int)).s = s at *; obtain ⟨si, sw⟩ := s; dsimp only at y6 y7 ⊢
 go_enter Tryz.func181, Tryz.ntmps181
 go_wp2_with fail
 exact bodyPost_ret (v := .agg #[.int .i64 si, .int .i64 sw]) (by simp [results, Tryz.results181, go_sem]) rfl ⟨rfl, (Below.refl _ _).alloc (Nat.le_refl _) _⟩
theorem zPx (B gf : Nat) (A : Option Addr) (c : Nat) (L : List No) (n : No) (w : World) (h : FoldAt w B gf A c L) (hl : L.length ≤ 60) (hL : zAb L) (hn : zAa L n) (hc : zAr L n = true) (hx : ¬ (n.k = 35 ∨ n.k = 36)) :
 Calls Tryz.prog 147 #[.pointer (some ⟨gf, 0, none⟩), .agg #[.int .i64 n.k, .int .i64 n.a, .int .i64 n.b, .int .i64 n.c, .int .i64 n.n, .int .i64 n.m, .int .i64 n.s.i, .int .i64 n.s.w, .string n.t]] w fun e w' => e = .returned (.int .i64 (zD7 L n)) ∧ Below w.heap.size w w' := by
 have H := Kh h; have HL := Kh hL; have HN := Kh hn; have HC := Kh hc; clear h hL hn hc; have hmk := zHt L.length (by omega)
 have hmf := mkf; have B1 := bx w #[.pointer (some ⟨gf, 0, none⟩)] 69; have B2 := Kh (B1.out.alloc B1.out.size (.cells #[.int .i64 n.k, .int .i64 n.a, .int .i64 n.b, .int .i64 n.c, .int .i64 n.n, .int .i64 n.m, .int .i64 n.s.i, .int .i64 n.s.w, .string n.t] 42)); have B3 := Kh (B2.out.alloc B2.out.size (.cells (zL2 (fun _ => .slice none 0 0) L.length) 53))
 have P3 : Hid (Blk (((w.alloc (.cells #[.pointer (some ⟨gf, 0, none⟩)] 69)).alloc (.cells #[.int .i64 n.k, .int .i64 n.a, .int .i64 n.b, .int .i64 n.c, .int .i64 n.n, .int .i64 n.m, .int .i64 n.s.i, .int .i64 n.s.w, .string n.t] 42)).alloc (.cells (zL2 (fun _ => .slice none 0 0) L.length) 53)) w.heap.size 69 #[.pointer (some ⟨gf, 0, none⟩)]) := ((Blk.new _ _ _).alloc _).alloc _
 have N3 : Hid (Blk (((w.alloc (.cells #[.pointer (some ⟨gf, 0, none⟩)] 69)).alloc (.cells #[.int .i64 n.k, .int .i64 n.a, .int .i64 n.b, .int .i64 n.c, .int .i64 n.n, .int .i64 n.m, .int .i64 n.s.i, .int .i64 n.s.w, .string n.t] 42)).alloc (.cells (zL2 (fun _ => .slice none 0 0) L.length) 53)) (w.heap.size + 1) 42 #[.int .i64 n.k, .int .i64 n.a, .int .i64 n.b, .int .i64 n.c, .int .i64 n.n, .int .i64 n.m, .int .i64 n.s.i, .int .i64 n.s.w, .string n.t]) := (Blk.new_at _ _ _ (by simp)).alloc _
 have V3 : Hid (Blk (((w.alloc (.cells #[.pointer (some ⟨gf, 0, none⟩)] 69)).alloc (.cells #[.int .i64 n.k, .int .i64 n.a, .int .i64 n.b, .int .i64 n.c, .int .i64 n.n, .int .i64 n.m, .int .i64 n.s.i, .int .i64 n.s.w, .string n.t] 42)).alloc (.cells (zL2 (fun _ => .slice none 0 0) L.length) 53)) (w.heap.size + 1 + 1) 53 (zL2 (fun _ => .slice none 0 0) L.length)) := Blk.new_at _ _ _ (by simp)
 have b0 := H.out.blk.cell 0; have b2 := (H.out.below B2.out).blk.cell 0; have b3 := (H.out.below B3.out).blk.cell 0; have p3 := P3.out.cell 0; simp only [List.getElem?_toArray, List.getElem?_cons_zero] at b0 b2 b3 p3
 go_enter Tryz.func147, Tryz.ntmps147
 go_wp2_with fail
 clear b0 b2 b3 p3 B1 B2; obtain ⟨wz, hwz⟩ : ∃ z, (((w.alloc (.cells #[.pointer (some ⟨gf, 0, none⟩)] 69)).alloc (.cells #[.int .i64 n.k, .int .i64 n.a, .int .i64 n.b, .int .i64 n.c, .int .i64 n.n, .int .i64 n.m, .int .i64 n.s.i, .int .i64 n.s.w, .string n.t] 42)).alloc (.cells (zL2 (fun _ => .slice none 0 0) L.length) 53)) = z := ⟨_, rfl⟩
 rw [hwz] at B3 P3 N3 V3 ⊢; clear hwz
 go_loopw [19] (fun j wr => ∃ (r : Nat) (f : Nat → Value), r ≤ L.length ∧ Hid (Below w.heap.size w wr) ∧ Hid (Blk wr w.heap.size 69 #[.pointer (some ⟨gf, 0, none⟩)]) ∧ Hid (Blk wr (w.heap.size + 1) 42 #[.int .i64 n.k, .int .i64 n.a, .int .i64 n.b, .int .i64 n.c, .int .i64 n.n, .int .i64 n.m, .int .i64 n.s.i, .int .i64 n.s.w, .string n.t]) ∧
     Hid (Blk wr (w.heap.size + 1 + 1) 53 (zL2 f L.length)) ∧ Hid (∀ k, k < r → ∃ g, f k = .slice (some ⟨g, 0, none⟩) 1 1 ∧ Blk wr g 3 #[.int .i64 (noAt L (k : Int)).n]) ∧ j = .int .i64 (r : Int)) (fun j _ => L.length - (intOf j).toNat)
 case atStart => exact ⟨0, _, Nat.zero_le _, B3, P3, N3, V3, fun k h => by omega, rfl⟩
 case round =>
  clear B3 P3 N3 V3; obtain ⟨r, f, hr, Br, Pr, Nr, Vr, HF, rfl⟩ := hrel; have hFo := H.out.below Br.out
  by_cases hlt : r < L.length
  case neg =>
   obtain rfl : r = L.length := by omega
   have hvl : (cvs L).length = L.length := by simp [cvs]
   have hV : VAt wr (some ⟨w.heap.size + 1 + 1, 0, none⟩) (cvs L) := fun _ => ⟨w.heap.size + 1 + 1, rfl, Vr.out.lt, fun k hk => by
    have hk' : k < L.length := by omega
    obtain ⟨g, e1, hg⟩ := HF.out k hk'; have e2 : (cvs L)[k] = [(noAt L (k : Int)).n] := by rw [zIb hk']; simp [cvs]
    rw [e2]
    exact ⟨some ⟨g, 0, none⟩, 1, by rw [Vr.out.cell, zL4 _ _ _ hk', e1]; rfl, zEp hg, fun h => by cases h⟩⟩
   have hfit : ∀ p, 0 ≤ p → p < (L.length : Int) → (noAt L p).k = 34 → zDw (noAt L p).s ((cvs L).getD p.toNat []) := fun p h0 h1 hk => by
    rw [zD9 h0 h1]; exact (zD1 HL.out h0 h1 hk).2
   obtain ⟨-, ca, cb, cc⟩ := zAt.1 HC.out
   have hin : VIn wr (some ⟨w.heap.size + 1 + 1, 0, none⟩) (cvs L) L n 181 #[] #[.pointer (some ⟨w.heap.size, 0, none⟩)] :=
    ⟨hV, by omega, by omega, HN.out, fun h => hfit _ (HN.out.a h).1.1 (HN.out.a h).1.2 (ca h), fun h => hfit _ (HN.out.b h).1.1 (HN.out.b h).1.2 (cb h), fun h => hfit _ (HN.out.c h).1.1 (HN.out.c h).1.2 (cc h), zE9,
     fun W p hW hp => cap1' (zE8 B gf w.heap.size A c L p W (hFo.below hW) (by rw [hW.cell (p := ⟨w.heap.size, 0, none⟩) Pr.out.lt, Pr.out.cell]; rfl) (by omega) hp)⟩
   have T := Kh (zQ7 (some ⟨w.heap.size + 1 + 1, 0, none⟩) L.length (cvs L) L n 181 #[] #[.pointer (some ⟨w.heap.size, 0, none⟩)] wr hin hx); have hfs := zIo (va := fun p => (cvs L).getD p.toNat []) HN.out hx hin.fa hin.fb hin.fc
   have e3 : zD7 L n = hd0 (zIm (fun p => (noAt L p).s) (fun p => (cvs L).getD p.toNat []) n) := by
    rw [zAu HN.out HC.out hx]; rfl
   rw [hvl] at T; generalize zIm (fun p => (noAt L p).s) (fun p => (cvs L).getD p.toNat []) n = X at *
   have hXl : 0 < X.length := by
    rw [hfs.1]; unfold cellsOf; rw [if_pos HN.out.sortOk]; exact Nat.two_pow_pos _
   obtain ⟨C, hC⟩ : ∃ C, zD7 L n = C := ⟨_, rfl⟩
   rw [hC] at e3; have HC2 := Kh hC; have e4 : X[0] = C := by rw [e3]; unfold hd0; rw [List.getD_eq_getElem?_getD, List.getElem?_eq_getElem hXl]; rfl
   have E4 := Kh e4; clear e3 e4 hfs hin hV hfit ca cb cc hvl hFo hC; have hfv : ∀ (a : Value) (w : World), (Instr.field 53 (.agg #[a]) 0).run Tryz.prog w = .ok a w := fun a w => by simp [Instr.field, go_sem]; rfl
   obtain ⟨y0, y1, y2, y3, y4, y5, y6, y7, y8⟩ := Nr.out.nine; have hX1 : (0 : Int) < (X.length : Int) := by omega
   go_wp2_with (go_at_call 129; refine T.out.mono ?_; rintro e w4 ⟨BB, cc, rfl, ib, hn0, hb4⟩; obtain ⟨gb, rfl, hgb, hcb⟩ := ib hXl; have z0 := hcb 0 hXl; rw [E4.out] at z0; have HB4 := Kh hb4; clear hcb ib hn0 hb4)
   go_ret
   exact ⟨zKv HC2.out.symm, Br.out.trans (HB4.out.mono Br.out.size)⟩
  obtain ⟨g, rfl, hg, hc⟩ := hFo.noAt (by omega)
  obtain ⟨y0, y1, y2, y3, y4, y5, y6, y7, y8⟩ := hc r hlt; rw [← zIb hlt] at y0 y1 y2 y3 y4 y5 y6 y7 y8; have v0 := Vr.out.cell r; have v1 := Vr.out.frozen r; rw [zL4 _ _ _ hlt] at v0; have e1 := wr1 (r := r) (by omega)
  have hj0 : (0 : Int) ≤ (r : Int) := by omega
  have hj1 : (r : Int) < (L.length : Int) := by omega
  clear hc hFo; have hm := Kh (rfl : noAt L (r : Int) = noAt L (r : Int)); generalize hmm : noAt L (r : Int) = m at y0 y1 y2 y3 y4 y5 y6 y7 y8; have HM := Kh hmm; clear hmm hm; have v2 := ((Vr.out.alloc (.cells #[.int .i64 m.k, .int .i64 m.a, .int .i64 m.b, .int .i64 m.c, .int .i64 m.n, .int .i64 m.m, .int .i64 m.s.i, .int .i64 m.s.w, .string m.t] 42)).alloc (.cells #[.int .i64 m.n] 3)).cell r; have v3 := ((Vr.out.alloc (.cells #[.int .i64 m.k, .int .i64 m.a, .int .i64 m.b, .int .i64 m.c, .int .i64 m.n, .int .i64 m.m, .int .i64 m.s.i, .int .i64 m.s.w, .string m.t] 42)).alloc (.cells #[.int .i64 m.n] 3)).frozen r; rw [zL4 _ _ _ hlt] at v2; have BN := Kh ((Br.out.alloc Br.out.size (.cells #[.int .i64 m.k, .int .i64 m.a, .int .i64 m.b, .int .i64 m.c, .int .i64 m.n, .int .i64 m.m, .int .i64 m.s.i, .int .i64 m.s.w, .string m.t] 42)).alloc (Br.out.alloc Br.out.size (.cells #[.int .i64 m.k, .int .i64 m.a, .int .i64 m.b, .int .i64 m.c, .int .i64 m.n, .int .i64 m.m, .int .i64 m.s.i, .int .i64 m.s.w, .string m.t] 42)).size (.cells #[.int .i64 m.n] 3)); have hwr := Kh Br.out.size
  go_wp2_with fail
  go_roundw
  case rel =>
   refine ⟨r + 1, fun c => if c = r then .slice (some ⟨wr.heap.size + 1, 0, none⟩) 1 1 else f c, by omega, BN.out.setCell (p := ⟨w.heap.size + 1 + 1, r, none⟩) (by show w.heap.size ≤ w.heap.size + 1 + 1; omega) _, ((Pr.out.alloc _).alloc _).far (p := ⟨w.heap.size + 1 + 1, r, none⟩) (by show w.heap.size ≠ w.heap.size + 1 + 1; omega) _,
    ((Nr.out.alloc _).alloc _).far (p := ⟨w.heap.size + 1 + 1, r, none⟩) (by show w.heap.size + 1 ≠ w.heap.size + 1 + 1; omega) _, ?_, ?_, by go_num⟩
   · rw [← zL5]
     exact ((Vr.out.alloc _).alloc _).set_ r _
   · intro k hk
     by_cases hkr : k = r
     · subst hkr
       refine ⟨wr.heap.size + 1, by simp, ?_⟩
       rw [HM.out]
       exact (Blk.new_at _ _ _ (by simp)).far (p := ⟨w.heap.size + 1 + 1, k, none⟩) (by show wr.heap.size + 1 ≠ w.heap.size + 1 + 1; have := Vr.out.lt; omega) _
     · obtain ⟨g', e', hb'⟩ := HF.out k (by omega)
       refine ⟨g', by simp [hkr, e'], ((hb'.alloc _).alloc _).far (p := ⟨w.heap.size + 1 + 1, r, none⟩) (Blk.ne hb' Vr.out (by decide)) _⟩
  case measure => simp [intOf]; omega
def zA6 (w : World) (B gf : Nat) (A : Option Addr) (c : Nat) (L : List No) (kn : Kn) (e : Ending) (w' : World) : Prop := match kn with
 | .no => (∃ v, e = .returned (.tuple #[.int .i64 v, .bool false])) ∧ Below w.heap.size w w'
 | .at p => e = .returned (.tuple #[.int .i64 p, .bool true]) ∧ Below w.heap.size w w'
 | .con wd v => ∃ A' c', e = .returned (.tuple #[.int .i64 (zKm L (zD0 wd v)).2, .bool true]) ∧ FoldAt w' B gf A' c' (zKm L (zD0 wd v)).1 ∧ Below B w w' ∧ zA5 w w' gf (Value.slice A L.length c).ownBlock
def prt (n : No) (r : Nat) : Int := if r = 0 then n.a else if r = 1 then n.b else n.c
theorem zAv {L : List No} {n : No} (hp : 0 < zK1 n.k) (h3 : zK1 n.k ≤ 3) : zAr L n = true ↔ ∀ r : Nat, (r : Int) < zK1 n.k → (noAt L (prt n r)).k = 34 := by
 rw [zAt]; constructor
 · rintro ⟨-, ha, hb, hc⟩ r hr
   unfold prt
   rcases (show r = 0 ∨ r = 1 ∨ r = 2 by omega) with rfl | rfl | rfl
   · exact ha (by omega)
   · exact hb (by omega)
   · exact hc (by omega)
 · intro h
   exact ⟨hp, fun h0 => h 0 (by omega), fun h1 => h 1 (by omega), fun h2 => h 2 (by omega)⟩
theorem all_any (B gf : Nat) (A : Option Addr) (c : Nat) (L : List No) (n : No) (w : World) (h : FoldAt w B gf A c L) (hl : L.length ≤ 60) (hn : zAa L n) :
 Calls Tryz.prog 145 #[.pointer (some ⟨gf, 0, none⟩), .agg #[.int .i64 n.k, .int .i64 n.a, .int .i64 n.b, .int .i64 n.c, .int .i64 n.n, .int .i64 n.m, .int .i64 n.s.i, .int .i64 n.s.w, .string n.t]] w fun e w' => e = .returned (.bool (zAr L n)) ∧ Below w.heap.size w w' := by
 have H := Kh h; have HN := Kh hn; clear h hn; obtain ⟨M, hM⟩ : ∃ M : Nat, zK1 n.k = (M : Int) := ⟨(zK1 n.k).toNat, by have := HN.out.out.2.1.1; omega⟩
 have hM3 : M ≤ 3 := by have := (zK2 n.k).2; omega
 have HM := Kh hM; obtain ⟨V, hV⟩ : ∃ V, zAr L n = V := ⟨_, rfl⟩
 rw [hV]; have HV := Kh hV; clear hM hV; have B1 := bx w #[.int .i64 n.k, .int .i64 n.a, .int .i64 n.b, .int .i64 n.c, .int .i64 n.n, .int .i64 n.m, .int .i64 n.s.i, .int .i64 n.s.w, .string n.t] 42; have B2 := Kh (B1.out.alloc B1.out.size (.cells #[.int .i64 n.a, .int .i64 n.b, .int .i64 n.c] 3)); have S2 : Hid (Blk ((w.alloc (.cells #[.int .i64 n.k, .int .i64 n.a, .int .i64 n.b, .int .i64 n.c, .int .i64 n.n, .int .i64 n.m, .int .i64 n.s.i, .int .i64 n.s.w, .string n.t] 42)).alloc (.cells #[.int .i64 n.a, .int .i64 n.b, .int .i64 n.c] 3)) (w.heap.size + 1) 3 #[.int .i64 n.a, .int .i64 n.b, .int .i64 n.c]) := Blk.new_at _ _ _ (by simp)
 have t0 : (0 : Int) ≤ (M : Int) := by omega
 have t1 : (M : Int) ≤ 3 := by omega
 have t2 : (M : Int) ≤ ((3 : Nat) : Int) := by omega
 go_enter Tryz.func145, Tryz.ntmps145
 go_wp2_with (go_at_call 98; refine (zK6 _ _).mono ?_; rintro e w1 ⟨rfl, rfl⟩; rw [HM.out])
 go_loopw [23] (fun j wr => ∃ r : Nat, r ≤ M ∧ Hid (∀ j : Nat, j < r → (noAt L (prt n j)).k = 34) ∧ Hid (Below w.heap.size w wr) ∧ Hid (Blk wr (w.heap.size + 1) 3 #[.int .i64 n.a, .int .i64 n.b, .int .i64 n.c]) ∧ j = .int .i64 (r : Int)) (fun j _ => M - (intOf j).toNat)
 case atStart => exact ⟨0, Nat.zero_le _, fun j h => by omega, B2, S2, rfl⟩
 case round =>
  obtain ⟨wz, rfl⟩ : ∃ x : World, x = wr := ⟨_, rfl⟩
  clear B1 B2 S2; obtain ⟨r, hr, HI, Br, Sr, rfl⟩ := hrel
  by_cases hlt : r < M
  case neg =>
   obtain rfl : r = M := by omega
   have e : decide (0 < r) = V := by
    rw [← HV.out]
    by_cases h0 : 0 < r
    · rw [decide_eq_true h0]
      exact ((zAv (by rw [HM.out]; omega) (by rw [HM.out]; omega)).2 (fun j hj => HI.out j (by rw [HM.out] at hj; omega))).symm
    · rw [decide_eq_false h0]
      symm
      rw [Bool.eq_false_iff]; intro hc; have := (zAt.1 hc).1; rw [HM.out] at this; omega
   have e' : decide ((0 : Int) < (r : Int)) = V := by rw [← e]; exact decide_eq_decide.2 (by omega)
   go_wp2_with fail
   go_ret
   exact ⟨by first | simp [e'] | simp [e], Br.out⟩
  have hq : ∃ q : Nat, prt n r = (q : Int) ∧ q < L.length := by
   unfold prt
   rcases (show r = 0 ∨ r = 1 ∨ r = 2 by omega) with rfl | rfl | rfl
   · have := (HN.out.a (by rw [HM.out]; omega)).1; exact ⟨n.a.toNat, by simp; omega, by omega⟩
   · have := (HN.out.b (by rw [HM.out]; omega)).1; exact ⟨n.b.toNat, by simp; omega, by omega⟩
   · have := (HN.out.c (by rw [HM.out]; omega)).1; exact ⟨n.c.toNat, by simp; omega, by omega⟩
  obtain ⟨q, hq, hql⟩ := hq
  have y0 : wz.cell? ⟨w.heap.size + 1, r, none⟩ = some (.int .i64 (q : Int)) := by
   rw [Sr.out.cell, ← hq]; unfold prt
   rcases (show r = 0 ∨ r = 1 ∨ r = 2 by omega) with rfl | rfl | rfl <;> rfl
  have HQ := Kh hq; clear hq; have e1 := wr1 (r := r) (by omega)
  have hj0 : (0 : Int) ≤ (r : Int) := by omega
  have hj1 : (r : Int) < (M : Int) := by omega
  have T := Kh (zFe B gf A c L q wz (H.out.below Br.out) (by omega) hql)
  by_cases hk : (noAt L (q : Int)).k = 34
  · have HI' : Hid (∀ j : Nat, j < r + 1 → (noAt L (prt n j)).k = 34) := fun j hj => by
      by_cases e : j = r
      · subst e; rw [HQ.out]; exact hk
      · exact HI.out j (by omega)
    rw [decide_eq_true hk] at T; clear hk
    go_wp2_with (go_at_call 148; refine T.out.mono ?_; rintro e w1 ⟨rfl, hb1⟩; have Bs := Kh (Br.out.trans (hb1.mono Br.out.size)); have Ss := Kh (Sr.out.below hb1 Sr.out.lt); clear hb1)
    go_roundw
    case rel => exact ⟨r + 1, by omega, HI', Bs, Ss, by go_num⟩
    case measure => simp [intOf]; omega
  · rw [decide_eq_false hk] at T
    obtain rfl : false = V := by
     rw [← HV.out]; symm
     rw [Bool.eq_false_iff]; intro hc; have h1 := (zAv (by rw [HM.out]; omega) (by rw [HM.out]; omega)).1 hc r (by rw [HM.out]; omega)
     rw [HQ.out] at h1
     exact hk h1
    clear hk
    go_wp2_with (go_at_call 148; refine T.out.mono ?_; rintro e w1 ⟨rfl, hb1⟩; have Bs := Kh (Br.out.trans (hb1.mono Br.out.size)); clear hb1)
    go_ret
    exact ⟨rfl, Bs.out⟩
theorem zAo (B gf : Nat) (A : Option Addr) (c : Nat) (L : List No) (n : No) (w : World) (h : FoldAt w B gf A c L) (hl : L.length ≤ 60) :
 Calls Tryz.prog 182 #[.pointer (some ⟨gf, 0, none⟩), .agg #[.int .i64 n.k, .int .i64 n.a, .int .i64 n.b, .int .i64 n.c, .int .i64 n.n, .int .i64 n.m, .int .i64 n.s.i, .int .i64 n.s.w, .string n.t]] w fun e w' => zA6 w B gf A c L (zAn n) e w' := by
 obtain ⟨nk, na, nb, nc, nn, nm, ⟨si, sw⟩, nt⟩ := n; dsimp only; have H := Kh h; clear h; have hB : B ≤ w.heap.size := Nat.le_trans H.out.base (Nat.le_of_lt H.out.blk.lt); have B1 := bx w #[.int .i64 nk, .int .i64 na, .int .i64 nb, .int .i64 nc, .int .i64 nn, .int .i64 nm, .int .i64 si, .int .i64 sw, .string nt] 42; have T := Kh (fun (wd v : Int) => zD3 B gf A c L wd v _ (H.out.below B1.out) (by omega))
 have TT : Hid (∀ (wd v : Int) e w', zA3 (w.alloc (.cells #[.int .i64 nk, .int .i64 na, .int .i64 nb, .int .i64 nc, .int .i64 nn, .int .i64 nm, .int .i64 si, .int .i64 sw, .string nt] 42)) B gf A c L (zKm L (zD0 wd v)).1 (zKm L (zD0 wd v)).2 e w' → ∃ A' c', e = .returned (.int .i64 (zKm L (zD0 wd v)).2) ∧ FoldAt w' B gf A' c' (zKm L (zD0 wd v)).1 ∧ Below B w w' ∧ zA5 w w' gf (Value.slice A L.length c).ownBlock) := Kh (fun wd v e w' ⟨A', c', h1, h2, h3, h4⟩ =>
  ⟨A', c', h1, h2, (B1.out.mono hB).trans h3, fun k hk a b => (h4 k (Nat.lt_of_lt_of_le hk B1.out.size) a b).trans (B1.out.block k hk)⟩)
 by_cases k6 : nk = 6
 · subst k6
   have ek : zAn ⟨6, na, nb, nc, nn, nm, ⟨si, sw⟩, nt⟩ = .at na := rfl; rw [ek]; clear ek
   go_enter Tryz.func182, Tryz.ntmps182
   go_wp2_with fail
   exact bodyPost_ret (v := .tuple #[.int .i64 na, .bool true]) (by simp [results, Tryz.results182, go_sem]) rfl ⟨rfl, B1.out⟩
 by_cases k7 : nk = 7
 · subst k7
   have ek : zAn ⟨7, na, nb, nc, nn, nm, ⟨si, sw⟩, nt⟩ = .at na := rfl; rw [ek]; clear ek
   go_enter Tryz.func182, Tryz.ntmps182
   go_wp2_with fail
   exact bodyPost_ret (v := .tuple #[.int .i64 na, .bool true]) (by simp [results, Tryz.results182, go_sem]) rfl ⟨rfl, B1.out⟩
 by_cases k8 : nk = 8
 · subst k8
   have ek : zAn ⟨8, na, nb, nc, nn, nm, ⟨si, sw⟩, nt⟩ = .con sw 0 := rfl; rw [ek]; clear ek
   go_enter Tryz.func182, Tryz.ntmps182
   go_wp2_with (go_at_call 146; refine (T.out _ _).mono ?_; rintro e w2 hft; obtain ⟨A', c', rfl, hfo, hbb, hho⟩ := TT.out _ _ _ _ hft; have F2 := Kh hfo; have BB := Kh hbb; have HH := Kh hho; clear hft hfo hbb hho)
   exact bodyPost_ret (v := .tuple #[.int .i64 (zKm L (zD0 sw 0)).2, .bool true]) (by simp [results, Tryz.results182, go_sem]) rfl ⟨A', c', rfl, F2.out, BB.out, HH.out⟩
 by_cases k10 : nk = 10
 · subst k10
   have ek : zAn ⟨10, na, nb, nc, nn, nm, ⟨si, sw⟩, nt⟩ = .con sw 0 := rfl; rw [ek]; clear ek
   go_enter Tryz.func182, Tryz.ntmps182
   go_wp2_with (go_at_call 146; refine (T.out _ _).mono ?_; rintro e w2 hft; obtain ⟨A', c', rfl, hfo, hbb, hho⟩ := TT.out _ _ _ _ hft; have F2 := Kh hfo; have BB := Kh hbb; have HH := Kh hho; clear hft hfo hbb hho)
   exact bodyPost_ret (v := .tuple #[.int .i64 (zKm L (zD0 sw 0)).2, .bool true]) (by simp [results, Tryz.results182, go_sem]) rfl ⟨A', c', rfl, F2.out, BB.out, HH.out⟩
 by_cases k21 : nk = 21
 · subst k21
   have ek : zAn ⟨21, na, nb, nc, nn, nm, ⟨si, sw⟩, nt⟩ = .con 1 1 := rfl; rw [ek]; clear ek
   go_enter Tryz.func182, Tryz.ntmps182
   go_wp2_with (go_at_call 146; refine (T.out _ _).mono ?_; rintro e w2 hft; obtain ⟨A', c', rfl, hfo, hbb, hho⟩ := TT.out _ _ _ _ hft; have F2 := Kh hfo; have BB := Kh hbb; have HH := Kh hho; clear hft hfo hbb hho)
   exact bodyPost_ret (v := .tuple #[.int .i64 (zKm L (zD0 1 1)).2, .bool true]) (by simp [results, Tryz.results182, go_sem]) rfl ⟨A', c', rfl, F2.out, BB.out, HH.out⟩
 by_cases k24 : nk = 24
 · subst k24
   have ek : zAn ⟨24, na, nb, nc, nn, nm, ⟨si, sw⟩, nt⟩ = .con 1 1 := rfl; rw [ek]; clear ek
   go_enter Tryz.func182, Tryz.ntmps182
   go_wp2_with (go_at_call 146; refine (T.out _ _).mono ?_; rintro e w2 hft; obtain ⟨A', c', rfl, hfo, hbb, hho⟩ := TT.out _ _ _ _ hft; have F2 := Kh hfo; have BB := Kh hbb; have HH := Kh hho; clear hft hfo hbb hho)
   exact bodyPost_ret (v := .tuple #[.int .i64 (zKm L (zD0 1 1)).2, .bool true]) (by simp [results, Tryz.results182, go_sem]) rfl ⟨A', c', rfl, F2.out, BB.out, HH.out⟩
 by_cases k25 : nk = 25
 · subst k25
   have ek : zAn ⟨25, na, nb, nc, nn, nm, ⟨si, sw⟩, nt⟩ = .con 1 1 := rfl; rw [ek]; clear ek
   go_enter Tryz.func182, Tryz.ntmps182
   go_wp2_with (go_at_call 146; refine (T.out _ _).mono ?_; rintro e w2 hft; obtain ⟨A', c', rfl, hfo, hbb, hho⟩ := TT.out _ _ _ _ hft; have F2 := Kh hfo; have BB := Kh hbb; have HH := Kh hho; clear hft hfo hbb hho)
   exact bodyPost_ret (v := .tuple #[.int .i64 (zKm L (zD0 1 1)).2, .bool true]) (by simp [results, Tryz.results182, go_sem]) rfl ⟨A', c', rfl, F2.out, BB.out, HH.out⟩
 by_cases k22 : nk = 22
 · subst k22
   have ek : zAn ⟨22, na, nb, nc, nn, nm, ⟨si, sw⟩, nt⟩ = .con 1 0 := rfl; rw [ek]; clear ek
   go_enter Tryz.func182, Tryz.ntmps182
   go_wp2_with (go_at_call 146; refine (T.out _ _).mono ?_; rintro e w2 hft; obtain ⟨A', c', rfl, hfo, hbb, hho⟩ := TT.out _ _ _ _ hft; have F2 := Kh hfo; have BB := Kh hbb; have HH := Kh hho; clear hft hfo hbb hho)
   exact bodyPost_ret (v := .tuple #[.int .i64 (zKm L (zD0 1 0)).2, .bool true]) (by simp [results, Tryz.results182, go_sem]) rfl ⟨A', c', rfl, F2.out, BB.out, HH.out⟩
 by_cases k23 : nk = 23
 · subst k23
   have ek : zAn ⟨23, na, nb, nc, nn, nm, ⟨si, sw⟩, nt⟩ = .con 1 0 := rfl; rw [ek]; clear ek
   go_enter Tryz.func182, Tryz.ntmps182
   go_wp2_with (go_at_call 146; refine (T.out _ _).mono ?_; rintro e w2 hft; obtain ⟨A', c', rfl, hfo, hbb, hho⟩ := TT.out _ _ _ _ hft; have F2 := Kh hfo; have BB := Kh hbb; have HH := Kh hho; clear hft hfo hbb hho)
   exact bodyPost_ret (v := .tuple #[.int .i64 (zKm L (zD0 1 0)).2, .bool true]) (by simp [results, Tryz.results182, go_sem]) rfl ⟨A', c', rfl, F2.out, BB.out, HH.out⟩
 have ek : zAn ⟨nk, na, nb, nc, nn, nm, ⟨si, sw⟩, nt⟩ = .no := by unfold zAn; dsimp only; rw [if_neg (by omega), if_neg (by omega), if_neg (by omega), if_neg (by omega)]
 rw [ek]; clear ek; have d6 : (nk == 6) = false := by simpa using k6
 have d7 : (nk == 7) = false := by simpa using k7
 have d8 : (nk == 8) = false := by simpa using k8
 have d10 : (nk == 10) = false := by simpa using k10
 have d21 : (nk == 21) = false := by simpa using k21
 have d24 : (nk == 24) = false := by simpa using k24
 have d25 : (nk == 25) = false := by simpa using k25
 have d22 : (nk == 22) = false := by simpa using k22
 have d23 : (nk == 23) = false := by simpa using k23
 go_enter Tryz.func182, Tryz.ntmps182
 go_wp2_with fail
 exact bodyPost_ret (v := .tuple #[.int .i64 0, .bool false]) (by simp [results, Tryz.results182, go_sem]) rfl ⟨⟨0, rfl⟩, B1.out⟩
theorem zFa {L : List No} {p x : Int} (h : (noAt L p).k = 34) : isC L p x = decide ((noAt L p).n = x) := by simp [isC, h]
theorem zFb {L : List No} {p x : Int} (h : ¬ (noAt L p).k = 34) : isC L p x = false := by simp [isC, h]
theorem zB9 {L : List No} {k c o : Int} (h : ¬ (k = 6 ∨ k = 7 ∨ k = 8 ∨ k = 9 ∨ k = 11)) : zB7 L k c o = .no := by
 unfold zB7; rw [if_neg (by omega), if_neg (by omega), if_neg (by omega), if_neg (by omega)]
theorem zBa {L : List No} {k c o : Int} (h : ¬ (noAt L c).k = 34) : zB7 L k c o = .no := by
 unfold zB7; simp [zFb h]
theorem zBw (B gf : Nat) (A : Option Addr) (c : Nat) (L : List No) (k : Int) (p : Nat) (o : Int) (w : World) (h : FoldAt w B gf A c L) (hl : L.length ≤ 61) (hp : p < L.length) (hw : 1 ≤ (noAt L (p : Int)).s.w ∧ (noAt L (p : Int)).s.w ≤ 16) :
 Calls Tryz.prog 183 #[.pointer (some ⟨gf, 0, none⟩), .int .i64 k, .int .i64 (p : Int), .int .i64 o] w fun e w' => zA6 w B gf A c L (zB7 L k (p : Int) o) e w' := by
 have T := Kh (zFe B gf A c L p w h (by omega) hp)
 have b0 := h.blk.cell 0; simp only [List.getElem?_toArray, List.getElem?_cons_zero] at b0
 have hgf := h.blk.lt; obtain ⟨g, rfl, hg, hc⟩ := h.noAt (by omega)
 obtain ⟨-, -, -, -, -, -, -, y7, -⟩ := hc p hp; rw [← zIb hp] at y7; clear hc h; obtain ⟨wd, hwd⟩ : ∃ wd : Nat, (noAt L (p : Int)).s.w = (wd : Int) := ⟨(noAt L (p : Int)).s.w.toNat, by omega⟩
 obtain ⟨M, hM⟩ : ∃ M : Int, ((2 ^ wd : Nat) : Int) - 1 = M := ⟨_, rfl⟩
 have S := Kh (zHp (by omega : wd ≤ 62) hM)
 have hO : zIz L (p : Int) = M := by unfold zIz; rw [hwd, ← hM]; rfl
 have hM1 : 1 ≤ M := by
  have : 2 ^ 1 ≤ 2 ^ wd := Nat.pow_le_pow_right (by decide) (by omega)
  omega
 have HO := Kh hO; rw [hwd] at y7 hw; have hp0 : (0 : Int) ≤ (p : Int) := by omega
 have hp1 : (p : Int) < (L.length : Int) := by omega
 clear hO hM hwd
 by_cases h34 : (noAt L (p : Int)).k = 34
 case neg =>
  rw [decide_eq_false h34] at T; rw [zBa h34]; clear h34
  go_enter Tryz.func183, Tryz.ntmps183
  go_wp2_with (first | (go_at_call 148; refine T.out.mono ?_; rintro e w1 ⟨rfl, hb1⟩; obtain ⟨hc1, hf1⟩ := zB0 hb1; have HB1 := Kh hb1; clear hb1) | (go_at_call 173; refine (S.out _).mono ?_; rintro e w2 ⟨rfl, rfl⟩))
  exact bodyPost_ret (v := .tuple #[.int .i64 0, .bool false]) (by simp [results, Tryz.results183, go_sem]) rfl ⟨⟨0, rfl⟩, HB1.out⟩
 rw [decide_eq_true h34] at T; have HC := Kh (fun x => zFa (x := x) h34)
 clear h34; have HV : Hid (∃ v, (noAt L (p : Int)).n = v) := ⟨_, rfl⟩
 obtain ⟨v, hv⟩ := HV.out; rw [hv] at T; have HV := Kh hv; clear hv
 by_cases kk : ¬ (k = 6 ∨ k = 7 ∨ k = 8 ∨ k = 9 ∨ k = 11)
 case pos =>
  rw [zB9 kk]; have d6 : (k == 6) = false := by simp only [beq_eq_false_iff_ne]; omega
  have d7 : (k == 7) = false := by simp only [beq_eq_false_iff_ne]; omega
  have d8 : (k == 8) = false := by simp only [beq_eq_false_iff_ne]; omega
  have d9 : (k == 9) = false := by simp only [beq_eq_false_iff_ne]; omega
  have d11 : (k == 11) = false := by simp only [beq_eq_false_iff_ne]; omega
  clear kk
  go_enter Tryz.func183, Tryz.ntmps183
  go_wp2_with (first | (go_at_call 148; refine T.out.mono ?_; rintro e w1 ⟨rfl, hb1⟩; obtain ⟨hc1, hf1⟩ := zB0 hb1; have HB1 := Kh hb1; clear hb1) | (go_at_call 173; refine (S.out _).mono ?_; rintro e w2 ⟨rfl, rfl⟩))
  exact bodyPost_ret (v := .tuple #[.int .i64 0, .bool false]) (by simp [results, Tryz.results183, go_sem]) rfl ⟨⟨0, rfl⟩, HB1.out⟩
 rcases (show k = 6 ∨ k = 7 ∨ k = 8 ∨ k = 9 ∨ k = 11 by omega) with rfl | rfl | rfl | rfl | rfl
 · by_cases v0 : v = 0
   · subst v0
     have ek : zB7 L 6 (p : Int) o = .at (p : Int) := by unfold zB7; simp only [HC.out, HO.out, HV.out]; simp
     rw [ek]; clear ek; have dM : ((0 : Int) == M) = false := by simp only [beq_eq_false_iff_ne]; omega
     go_enter Tryz.func183, Tryz.ntmps183
     go_wp2_with (first | (go_at_call 148; refine T.out.mono ?_; rintro e w1 ⟨rfl, hb1⟩; obtain ⟨hc1, hf1⟩ := zB0 hb1; have HB1 := Kh hb1; clear hb1) | (go_at_call 173; refine (S.out _).mono ?_; rintro e w2 ⟨rfl, rfl⟩))
     exact bodyPost_ret (v := .tuple #[.int .i64 (p : Int), .bool true]) (by simp [results, Tryz.results183, go_sem]) rfl ⟨rfl, HB1.out⟩
   by_cases v1 : v = M
   · subst v1
     have ek : zB7 L 6 (p : Int) o = .at o := by unfold zB7; simp only [HC.out, HO.out, HV.out]; simp; try omega
     rw [ek]; clear ek; have d0 : (v == 0) = false := by simpa using v0
     go_enter Tryz.func183, Tryz.ntmps183
     go_wp2_with (first | (go_at_call 148; refine T.out.mono ?_; rintro e w1 ⟨rfl, hb1⟩; obtain ⟨hc1, hf1⟩ := zB0 hb1; have HB1 := Kh hb1; clear hb1) | (go_at_call 173; refine (S.out _).mono ?_; rintro e w2 ⟨rfl, rfl⟩))
     exact bodyPost_ret (v := .tuple #[.int .i64 o, .bool true]) (by simp [results, Tryz.results183, go_sem]) rfl ⟨rfl, HB1.out⟩
   · have d0 : (v == 0) = false := by simpa using v0
     have d1 : (v == M) = false := by simpa using v1
     have ek : zB7 L 6 (p : Int) o = .no := by unfold zB7; simp only [HC.out, HO.out, HV.out]; simp [v0, v1]
     rw [ek]; clear ek
     go_enter Tryz.func183, Tryz.ntmps183
     go_wp2_with (first | (go_at_call 148; refine T.out.mono ?_; rintro e w1 ⟨rfl, hb1⟩; obtain ⟨hc1, hf1⟩ := zB0 hb1; have HB1 := Kh hb1; clear hb1) | (go_at_call 173; refine (S.out _).mono ?_; rintro e w2 ⟨rfl, rfl⟩))
     exact bodyPost_ret (v := .tuple #[.int .i64 0, .bool false]) (by simp [results, Tryz.results183, go_sem]) rfl ⟨⟨0, rfl⟩, HB1.out⟩
 · by_cases v0 : v = 0
   · subst v0
     have ek : zB7 L 7 (p : Int) o = .at o := by unfold zB7; simp only [HC.out, HO.out, HV.out]; simp
     rw [ek]; clear ek; have dM : ((0 : Int) == M) = false := by simp only [beq_eq_false_iff_ne]; omega
     go_enter Tryz.func183, Tryz.ntmps183
     go_wp2_with (first | (go_at_call 148; refine T.out.mono ?_; rintro e w1 ⟨rfl, hb1⟩; obtain ⟨hc1, hf1⟩ := zB0 hb1; have HB1 := Kh hb1; clear hb1) | (go_at_call 173; refine (S.out _).mono ?_; rintro e w2 ⟨rfl, rfl⟩))
     exact bodyPost_ret (v := .tuple #[.int .i64 o, .bool true]) (by simp [results, Tryz.results183, go_sem]) rfl ⟨rfl, HB1.out⟩
   by_cases v1 : v = M
   · subst v1
     have ek : zB7 L 7 (p : Int) o = .at (p : Int) := by unfold zB7; simp only [HC.out, HO.out, HV.out]; simp; try omega
     rw [ek]; clear ek; have d0 : (v == 0) = false := by simpa using v0
     go_enter Tryz.func183, Tryz.ntmps183
     go_wp2_with (first | (go_at_call 148; refine T.out.mono ?_; rintro e w1 ⟨rfl, hb1⟩; obtain ⟨hc1, hf1⟩ := zB0 hb1; have HB1 := Kh hb1; clear hb1) | (go_at_call 173; refine (S.out _).mono ?_; rintro e w2 ⟨rfl, rfl⟩))
     exact bodyPost_ret (v := .tuple #[.int .i64 (p : Int), .bool true]) (by simp [results, Tryz.results183, go_sem]) rfl ⟨rfl, HB1.out⟩
   · have d0 : (v == 0) = false := by simpa using v0
     have d1 : (v == M) = false := by simpa using v1
     have ek : zB7 L 7 (p : Int) o = .no := by unfold zB7; simp only [HC.out, HO.out, HV.out]; simp [v0, v1]
     rw [ek]; clear ek
     go_enter Tryz.func183, Tryz.ntmps183
     go_wp2_with (first | (go_at_call 148; refine T.out.mono ?_; rintro e w1 ⟨rfl, hb1⟩; obtain ⟨hc1, hf1⟩ := zB0 hb1; have HB1 := Kh hb1; clear hb1) | (go_at_call 173; refine (S.out _).mono ?_; rintro e w2 ⟨rfl, rfl⟩))
     exact bodyPost_ret (v := .tuple #[.int .i64 0, .bool false]) (by simp [results, Tryz.results183, go_sem]) rfl ⟨⟨0, rfl⟩, HB1.out⟩
 · by_cases v0 : v = 0
   · subst v0
     have ek : zB7 L 8 (p : Int) o = .at o := by unfold zB7; simp only [HC.out, HO.out, HV.out]; simp
     rw [ek]; clear ek; have dM : ((0 : Int) == M) = false := by simp only [beq_eq_false_iff_ne]; omega
     go_enter Tryz.func183, Tryz.ntmps183
     go_wp2_with (first | (go_at_call 148; refine T.out.mono ?_; rintro e w1 ⟨rfl, hb1⟩; obtain ⟨hc1, hf1⟩ := zB0 hb1; have HB1 := Kh hb1; clear hb1) | (go_at_call 173; refine (S.out _).mono ?_; rintro e w2 ⟨rfl, rfl⟩))
     exact bodyPost_ret (v := .tuple #[.int .i64 o, .bool true]) (by simp [results, Tryz.results183, go_sem]) rfl ⟨rfl, HB1.out⟩
   · have d0 : (v == 0) = false := by simpa using v0
     have ek : zB7 L 8 (p : Int) o = .no := by unfold zB7; simp only [HC.out, HO.out, HV.out]; simp [v0]
     rw [ek]; clear ek
     go_enter Tryz.func183, Tryz.ntmps183
     go_wp2_with (first | (go_at_call 148; refine T.out.mono ?_; rintro e w1 ⟨rfl, hb1⟩; obtain ⟨hc1, hf1⟩ := zB0 hb1; have HB1 := Kh hb1; clear hb1) | (go_at_call 173; refine (S.out _).mono ?_; rintro e w2 ⟨rfl, rfl⟩))
     exact bodyPost_ret (v := .tuple #[.int .i64 0, .bool false]) (by simp [results, Tryz.results183, go_sem]) rfl ⟨⟨0, rfl⟩, HB1.out⟩
 · by_cases v0 : v = 0
   · subst v0
     have ek : zB7 L 9 (p : Int) o = .at o := by unfold zB7; simp only [HC.out, HO.out, HV.out]; simp
     rw [ek]; clear ek; have dM : ((0 : Int) == M) = false := by simp only [beq_eq_false_iff_ne]; omega
     go_enter Tryz.func183, Tryz.ntmps183
     go_wp2_with (first | (go_at_call 148; refine T.out.mono ?_; rintro e w1 ⟨rfl, hb1⟩; obtain ⟨hc1, hf1⟩ := zB0 hb1; have HB1 := Kh hb1; clear hb1) | (go_at_call 173; refine (S.out _).mono ?_; rintro e w2 ⟨rfl, rfl⟩))
     exact bodyPost_ret (v := .tuple #[.int .i64 o, .bool true]) (by simp [results, Tryz.results183, go_sem]) rfl ⟨rfl, HB1.out⟩
   · have d0 : (v == 0) = false := by simpa using v0
     have ek : zB7 L 9 (p : Int) o = .no := by unfold zB7; simp only [HC.out, HO.out, HV.out]; simp [v0]
     rw [ek]; clear ek
     go_enter Tryz.func183, Tryz.ntmps183
     go_wp2_with (first | (go_at_call 148; refine T.out.mono ?_; rintro e w1 ⟨rfl, hb1⟩; obtain ⟨hc1, hf1⟩ := zB0 hb1; have HB1 := Kh hb1; clear hb1) | (go_at_call 173; refine (S.out _).mono ?_; rintro e w2 ⟨rfl, rfl⟩))
     exact bodyPost_ret (v := .tuple #[.int .i64 0, .bool false]) (by simp [results, Tryz.results183, go_sem]) rfl ⟨⟨0, rfl⟩, HB1.out⟩
 · by_cases v0 : v = 0
   · subst v0
     have ek : zB7 L 11 (p : Int) o = .at (p : Int) := by unfold zB7; simp only [HC.out, HO.out, HV.out]; simp
     rw [ek]; clear ek; have dM : ((0 : Int) == M) = false := by simp only [beq_eq_false_iff_ne]; omega
     go_enter Tryz.func183, Tryz.ntmps183
     go_wp2_with (first | (go_at_call 148; refine T.out.mono ?_; rintro e w1 ⟨rfl, hb1⟩; obtain ⟨hc1, hf1⟩ := zB0 hb1; have HB1 := Kh hb1; clear hb1) | (go_at_call 173; refine (S.out _).mono ?_; rintro e w2 ⟨rfl, rfl⟩))
     exact bodyPost_ret (v := .tuple #[.int .i64 (p : Int), .bool true]) (by simp [results, Tryz.results183, go_sem]) rfl ⟨rfl, HB1.out⟩
   by_cases v1 : v = 1
   · subst v1
     have ek : zB7 L 11 (p : Int) o = .at o := by unfold zB7; simp only [HC.out, HO.out, HV.out]; simp; try omega
     rw [ek]; clear ek
     go_enter Tryz.func183, Tryz.ntmps183
     go_wp2_with (first | (go_at_call 148; refine T.out.mono ?_; rintro e w1 ⟨rfl, hb1⟩; obtain ⟨hc1, hf1⟩ := zB0 hb1; have HB1 := Kh hb1; clear hb1) | (go_at_call 173; refine (S.out _).mono ?_; rintro e w2 ⟨rfl, rfl⟩))
     exact bodyPost_ret (v := .tuple #[.int .i64 o, .bool true]) (by simp [results, Tryz.results183, go_sem]) rfl ⟨rfl, HB1.out⟩
   · have d0 : (v == 0) = false := by simpa using v0
     have d1 : (v == 1) = false := by simpa using v1
     have ek : zB7 L 11 (p : Int) o = .no := by unfold zB7; simp only [HC.out, HO.out, HV.out]; simp [v0, v1]
     rw [ek]; clear ek
     go_enter Tryz.func183, Tryz.ntmps183
     go_wp2_with (first | (go_at_call 148; refine T.out.mono ?_; rintro e w1 ⟨rfl, hb1⟩; obtain ⟨hc1, hf1⟩ := zB0 hb1; have HB1 := Kh hb1; clear hb1) | (go_at_call 173; refine (S.out _).mono ?_; rintro e w2 ⟨rfl, rfl⟩))
     exact bodyPost_ret (v := .tuple #[.int .i64 0, .bool false]) (by simp [results, Tryz.results183, go_sem]) rfl ⟨⟨0, rfl⟩, HB1.out⟩
end Go.Proofs.YtmolbnghobfmoaaGreat
