/- Part 33 of what the row Row28 rests on: G30 G31. -/
import Derived.Deep.RegionHeld3
import Derived.Test.YtmolbnghobfmoaaGreatP32
set_option maxRecDepth 100000
set_option maxHeartbeats 16000000
set_option linter.unusedSimpArgs false
set_option linter.unusedVariables false
namespace Go.Proofs.YtmolbnghobfmoaaGreat
open Go.RowKit
structure VlAt (w : World) (L : List No) (n : No) (AV : Option Addr) (cV : Nat) (us : List Value) (W : World) : Prop where
 bel : Below w.heap.size w W
 box : Blk W w.heap.size 42 (nC n)
 row : W.ownsRow w.heap.size 53 1 (.slice AV us.length cV) us.length us
 vals : ∀ k (h : k < us.length), ∃ g, us[k] = .slice (some ⟨g, 0, none⟩) 1 1 ∧ Blk W g 3 #[.int .i64 (noAt L (k : Int)).n]
theorem VlAt.below {w W W' : World} {L : List No} {n : No} {AV : Option Addr} {cV : Nat} {us : List Value} (h : VlAt w L n AV cV us W) (hb : Below W.heap.size W W') : VlAt w L n AV cV us W' :=
 ⟨h.bel.trans (hb.mono h.bel.size), h.box.below hb h.box.lt, zJ9 h.row hb, fun k hk => by obtain ⟨g, e, hg⟩ := h.vals k hk; exact ⟨g, e, hg.below hb hg.lt⟩⟩
theorem VlAt.app {w W W' : World} {L : List No} {n : No} {AV AV' : Option Addr} {cV cV' g : Nat} {us : List Value} (h : VlAt w L n AV cV us W) (hg0 : Blk W g 3 #[.int .i64 (noAt L (us.length : Int)).n])
 (ho : W'.ownsRow w.heap.size 53 1 (.slice AV' (us.length + 1) cV') (us.length + 1) (us ++ [.slice (some ⟨g, 0, none⟩) 1 1])) (hg : W.grownBy W' (Value.slice AV us.length cV).ownBlock) : VlAt w L n AV' cV' (us ++ [.slice (some ⟨g, 0, none⟩) 1 1]) W' := by
 have key : ∀ {g : Nat} {t : TypeId} {cs : Array Value}, t ≠ 53 → Blk W g t cs → Blk W' g t cs := fun {g t cs} h1 h2 => h2.grown hg (fun e => zJg h.row h2 (fun e => h1 e.symm) e.symm)
 refine ⟨h.bel.grown hg h.bel.size (fun k e => (h.row.lt k e).1), key (by decide) h.box, by simpa using ho, fun k hk => ?_⟩
 by_cases e : k < us.length
 · obtain ⟨g', e', hg'⟩ := h.vals k e
   exact ⟨g', by rw [List.getElem_append_left e, e'], key (by decide) hg'⟩
 · obtain rfl : k = us.length := by simp at hk; omega
   exact ⟨g, by simp, key (by decide) hg0⟩
theorem VlAt.vat {w W : World} {L : List No} {n : No} {AV : Option Addr} {cV : Nat} {us : List Value} (h : VlAt w L n AV cV us W) (hl : us.length = L.length) : VAt W AV (cvs L) := fun hp => by
 have hvl : (cvs L).length = L.length := by simp [cvs]
 obtain ⟨g, cap, e1, hge, hlt⟩ := h.row.form (by omega)
 injection e1 with e1 _ e2
 subst e1
 refine ⟨g, rfl, hlt, fun k hk => ?_⟩
 have hk' : k < us.length := by omega
 obtain ⟨g', e', hg'⟩ := h.vals k hk'; have e3 : (cvs L)[k] = [(noAt L (k : Int)).n] := by rw [zIb (show k < L.length by omega)]; simp [cvs]
 rw [e3]
 refine ⟨some ⟨g', 0, none⟩, 1, ?_, zEp hg', fun h => by cases h⟩
 have := h.row.cellAt k (by omega)
 rw [this, List.getElem?_eq_getElem hk', e']; rfl
abbrev Ten (gf : Nat) (A : Option Addr) (c l b : Nat) (n : No) (W : World) : Prop := W.cell? ⟨gf, 0, none⟩ = some (.slice A l c) ∧ W.cell? ⟨b, 0, none⟩ = some (.int .i64 n.k) ∧ W.cell? ⟨b, 1, none⟩ = some (.int .i64 n.a) ∧ W.cell? ⟨b, 2, none⟩ = some (.int .i64 n.b) ∧ W.cell? ⟨b, 3, none⟩ = some (.int .i64 n.c) ∧
 W.cell? ⟨b, 4, none⟩ = some (.int .i64 n.n) ∧ W.cell? ⟨b, 5, none⟩ = some (.int .i64 n.m) ∧ W.cell? ⟨b, 6, none⟩ = some (.int .i64 n.s.i) ∧ W.cell? ⟨b, 7, none⟩ = some (.int .i64 n.s.w) ∧ W.cell? ⟨b, 8, none⟩ = some (.string n.t)
theorem VlAt.ten {w W : World} {B gf : Nat} {A : Option Addr} {c : Nat} {L : List No} {n : No} {AV : Option Addr} {cV : Nat} {us : List Value} (h : VlAt w L n AV cV us W) (hF : SFoldAt w B gf A c L) : Ten gf A c L.length w.heap.size n W :=
 ⟨by rw [(hF.below h.bel).blk.cell]; rfl, h.box.nine⟩
theorem infoV : (Tryz.prog.info? 53).map (fun i => (i.zero, i.size, i.bytes)) = some (some (.agg #[.slice none 0 0]), 1, 24) := by kernel_rfl
theorem zMo (B gf : Nat) (A : Option Addr) (c : Nat) (L : List No) (n : No) (w : World) (h : SRIn w B gf A c L n) (hc : zAr L n = true) :
 Calls Tryz.prog 132 #[.pointer (some ⟨gf, 0, none⟩), .agg #[.int .i64 n.k, .int .i64 n.a, .int .i64 n.b, .int .i64 n.c, .int .i64 n.n, .int .i64 n.m, .int .i64 n.s.i, .int .i64 n.s.w, .string n.t]] w fun e w' => e = .returned (.int .i64 (zD7 L n)) ∧ Below w.heap.size w w' := by
 have H := Kh h; have HC := Kh hc; have hl := h.few; have hx : ¬ (n.k = 35 ∨ n.k = 36) := by have := zAs h.ok h.inn hc; omega
 have hx2 : ¬ (n.k = 34 ∨ n.k = 35 ∨ n.k = 36) := by have := zAs h.ok h.inn hc; omega
 clear h hc; obtain ⟨C, hC⟩ : ∃ C, zD7 L n = C := ⟨_, rfl⟩
 rw [hC]; have HC2 := Kh hC; clear hC; have V0 : Hid (VlAt w L n none 0 [] (w.alloc (.cells #[.int .i64 n.k, .int .i64 n.a, .int .i64 n.b, .int .i64 n.c, .int .i64 n.n, .int .i64 n.m, .int .i64 n.s.i, .int .i64 n.s.w, .string n.t] 42))) := ⟨(Below.refl _ _).alloc (Nat.le_refl _) _, Blk.new _ _ _, World.ownsRow_nil _ _ _ _, fun k h => absurd h (by simp)⟩
 obtain ⟨iv, hi, hz0, hz1, hz2⟩ := info_parts infoV
 go_enter Tryz.func132, Tryz.ntmps132
 go_wp2_with fail
 obtain ⟨wz, hwz⟩ : ∃ z, w.alloc (.cells #[.int .i64 n.k, .int .i64 n.a, .int .i64 n.b, .int .i64 n.c, .int .i64 n.n, .int .i64 n.m, .int .i64 n.s.i, .int .i64 n.s.w, .string n.t] 42) = z := ⟨_, rfl⟩
 rw [hwz] at V0 ⊢; clear hwz
 go_loopw [5, 6] (fun t j wr => ∃ (AV : Option Addr) (cV : Nat) (us : List Value), us.length ≤ L.length ∧ Hid (VlAt w L n AV cV us wr) ∧ t = .slice AV us.length cV ∧ j = .int .i64 (us.length : Int)) (fun _ j _ => L.length - (intOf j).toNat)
 case atStart => exact ⟨none, 0, [], Nat.zero_le _, V0, rfl, rfl⟩
 case round =>
  obtain ⟨wx, rfl⟩ : ∃ x : World, x = wr := ⟨_, rfl⟩
  clear V0; obtain ⟨AV, cV, us, hr, V1, rfl, rfl⟩ := hrel
  by_cases hlt : us.length < L.length
  case neg =>
   have hul : us.length = L.length := by omega
   have hvl : (cvs L).length = L.length := by simp [cvs]
   have hfit : ∀ p, 0 ≤ p → p < (L.length : Int) → (noAt L p).k = 34 → zDw (noAt L p).s ((cvs L).getD p.toNat []) := fun p h0 h1 hk => by
    rw [zD9 h0 h1]; exact (zD1 H.out.ok h0 h1 hk).2
   obtain ⟨-, ca, cb, cc⟩ := zAt.1 HC.out; have V2 := Kh (V1.out.below (Below.refl _ wx).drew)
   have T : Hid (∀ W, Below wx.drew.heap.size wx.drew W → Calls Tryz.prog 125 #[.slice A L.length c, .agg #[.int .i64 n.k, .int .i64 n.a, .int .i64 n.b, .int .i64 n.c, .int .i64 n.n, .int .i64 n.m, .int .i64 n.s.i, .int .i64 n.s.w, .string n.t], .slice AV (cvs L).length cV] W fun e w' => zAi W (zIm (fun p => (noAt L p).s) (fun p => (cvs L).getD p.toNat []) n) e w') := Kh (fun W hW =>
    zGq A AV c cV (cvs L) L n W ⟨(H.out.fold.below (V2.out.below hW).bel).noAt, (V2.out.below hW).vat hul, by omega, by omega, H.out.inn, fun h => hfit _ (H.out.inn.a h).1.1 (H.out.inn.a h).1.2 (ca h), fun h => hfit _ (H.out.inn.b h).1.1 (H.out.inn.b h).1.2 (cb h), fun h => hfit _ (H.out.inn.c h).1.1 (H.out.inn.c h).1.2 (cc h)⟩ hx2)
   have hfs := zIo (va := fun p => (cvs L).getD p.toNat []) H.out.inn hx (fun h => hfit _ (H.out.inn.a h).1.1 (H.out.inn.a h).1.2 (ca h)) (fun h => hfit _ (H.out.inn.b h).1.1 (H.out.inn.b h).1.2 (cb h)) (fun h => hfit _ (H.out.inn.c h).1.1 (H.out.inn.c h).1.2 (cc h))
   have e3 : C = hd0 (zIm (fun p => (noAt L p).s) (fun p => (cvs L).getD p.toNat []) n) := by
    rw [← HC2.out, zAu H.out.inn HC.out hx]; rfl
   rw [hvl] at T; generalize zIm (fun p => (noAt L p).s) (fun p => (cvs L).getD p.toNat []) n = X at *
   have hXl : 0 < X.length := by
    rw [hfs.1]; unfold cellsOf; rw [if_pos H.out.inn.sortOk]; exact Nat.two_pow_pos _
   have e4 : X[0] = C := by rw [e3]; unfold hd0; rw [List.getD_eq_getElem?_getD, List.getElem?_eq_getElem hXl]; rfl
   have E4 := Kh e4; clear e3 e4 hfs hfit ca cb cc hvl; have hfv : ∀ (a : Value) (w : World), (Instr.field 53 (.agg #[a]) 0).run Tryz.prog w = .ok a w := fun a w => by simp [Instr.field, go_sem]; rfl
   have hX1 : (0 : Int) < (X.length : Int) := by omega
   obtain ⟨b0, y0, y1, y2, y3, y4, y5, y6, y7, y8⟩ := V1.out.ten H.out.fold; have F := Kh (V2.out.ten H.out.fold); have V := V2; rw [hul] at *
   go_wp2_with fail
   go_region_with (first
    | (go_at_call 125; refine (T.out _ (Below.refl _ _)).mono ?_; rintro e w4 ⟨BB, cc, rfl, ib, hn0, hb4⟩; obtain ⟨gb, rfl, hgb, hcb⟩ := ib hXl; have z0 := hcb 0 hXl; rw [E4.out] at z0; have V := Kh (V.out.below hb4); have F := Kh (V.out.ten H.out.fold); clear hcb ib hn0 hb4))
   all_goals
    go_wp2_with fail
    go_ret
    exact ⟨rfl, V.out.bel⟩
  obtain ⟨g, rfl, hs⟩ := H.out.fold.see hlt; obtain ⟨b0, -, -, -, -, z4, -, -, -, -⟩ := hs wx V1.out.bel; clear hs; have e1 : IntKind.i64.wrap ((us.length : Int) + 1) = (us.length : Int) + 1 := zRa (by omega) (by omega)
  have hj0 : (0 : Int) ≤ (us.length : Int) := by omega
  have hj1 : (us.length : Int) < (L.length : Int) := by omega
  obtain ⟨m, hm⟩ : ∃ m, (noAt L (us.length : Int)).n = m := ⟨_, rfl⟩
  rw [hm] at z4; have HM := Kh hm; clear hm
  go_wp2_with (first
   | (go_at_call 123; refine (zGr m _).mono ?_; rintro e w3 ⟨g3, rfl, hg3, hbl, hb3⟩; have V3 := Kh ((V1.out.below hb3).below ((Below.refl _ w3).alloc (Nat.le_refl _) (.cells #[.slice (some ⟨g3, 0, none⟩) 1 1] 53))); have G3 := Kh (hbl.alloc (.cells #[.slice (some ⟨g3, 0, none⟩) 1 1] 53)); clear hb3 hbl)
   | (at_builtin; refine zR2 rfl _ _ 47 rfl w.heap.size 53 iv _ 1 24 Tryz.underlying47 hi hz0 hz1 hz2 rfl (by decide) _ us.length us rfl (by exact V3.out.row) (some ⟨w3.heap.size, 0, none⟩) 1 1 [.slice (some ⟨g3, 0, none⟩) 1 1] rfl (by exact .inr ⟨_, rfl, Blk.news (Blk.new_at _ 53 #[.slice (some ⟨g3, 0, none⟩) 1 1] rfl)⟩) rfl (by simp [Value.oneCell']) (by unfold maxLen; omega) (by omega) (by exact V3.out.bel.size) ?_; intro A5 c5 w5 ho5 hg5 hor5; have V6 := Kh (V3.out.app (by rw [HM.out]; exact G3.out) ho5 ⟨hg5.os, hg5.tape, hg5.output, hg5.size, hg5.block⟩); clear ho5 hg5 hor5))
  go_roundw
  case rel => exact ⟨A5, c5, us ++ [.slice (some ⟨g3, 0, none⟩) 1 1], by simp; omega, V6, by simp, by simp⟩
  case measure => simp [intOf]; omega
theorem SRIn.fixed {w : World} {B gf : Nat} {A : Option Addr} {c : Nat} {L : List No} {n : No} (h : SRIn w B gf A c L n) (V : Bool) (hV : zAr L n = V) (W : World) (hW : Below w.heap.size w W) :
 Calls Tryz.prog 130 #[.pointer (some ⟨gf, 0, none⟩), .agg #[.int .i64 n.k, .int .i64 n.a, .int .i64 n.b, .int .i64 n.c, .int .i64 n.n, .int .i64 n.m, .int .i64 n.s.i, .int .i64 n.s.w, .string n.t]] W fun e w' => e = .returned (.bool V) ∧ Below W.heap.size W w' := by
 rw [← hV]; exact zLr B gf A c L n W (h.fold.below hW) h.few h.inn
theorem zLu (B gf : Nat) (A : Option Addr) (c : Nat) (L : List No) (nk na nb nc nn nm : Int) (si sw : Int) (nt : ByteArray) (w : World) (h : SRIn w B gf A c L ⟨nk, na, nb, nc, nn, nm, ⟨si, sw⟩, nt⟩) (hall : zAr L ⟨nk, na, nb, nc, nn, nm, ⟨si, sw⟩, nt⟩ = true) :
 Calls Tryz.prog 76 #[.pointer (some ⟨gf, 0, none⟩), .agg #[.int .i64 nk, .int .i64 na, .int .i64 nb, .int .i64 nc, .int .i64 nn, .int .i64 nm, .int .i64 si, .int .i64 sw, .string nt]] w fun e w' => zAf w B gf A c L (.con sw (zD7 L ⟨nk, na, nb, nc, nn, nm, ⟨si, sw⟩, nt⟩)) e w' := by
 have H := Kh h; have hB := h.base; have hl := h.few; clear h; have B1 := bx w #[.int .i64 nk, .int .i64 na, .int .i64 nb, .int .i64 nc, .int .i64 nn, .int .i64 nm, .int .i64 si, .int .i64 sw, .string nt] 42; have N1 := nx w #[.int .i64 nk, .int .i64 na, .int .i64 nb, .int .i64 nc, .int .i64 nn, .int .i64 nm, .int .i64 si, .int .i64 sw, .string nt] 42; have TA := Kh (H.out.fixed true hall _ B1.out); have HA := Kh hall; clear hall; have TV := Kh (fun (W : World) (hW : Below w.heap.size w W) => zMo B gf A c L ⟨nk, na, nb, nc, nn, nm, ⟨si, sw⟩, nt⟩ W (H.out.below hW) HA.out)
 have TC := Kh (fun (v : Int) (W : World) (hW : Below w.heap.size w W) => zLp B gf A c L sw v W (H.out.fold.below hW) (by omega))
 obtain ⟨V, hV⟩ : ∃ V, zD7 L ⟨nk, na, nb, nc, nn, nm, ⟨si, sw⟩, nt⟩ = V := ⟨_, rfl⟩
 rw [hV] at TV ⊢; clear hV
 show Calls _ _ _ _ fun e w' => zAe w B gf A c L (zKm L (zD0 sw V)).1 (zKm L (zD0 sw V)).2 e w'
 go_enter Tryz.func76, Tryz.ntmps76
 go_wp2_with (go_at_call 130; refine TA.out.mono ?_; rintro e w2 ⟨rfl, hb2⟩; have B2 := Kh (B1.out.trans (hb2.mono B1.out.size)); have N2 := Kh (N1.out.below hb2 N1.out.lt); obtain ⟨y0, y1, y2, y3, y4, y5, y6, y7, y8⟩ := N2.out.nine; clear hb2)
 have kk := fun x : Ext w2 => (N2.out.below x.2 N2.out.lt).nine
 have k0 := fun x : Ext w2 => (kk x).1
 have k1 := fun x : Ext w2 => (kk x).2.1
 have k2 := fun x : Ext w2 => (kk x).2.2.1
 have k3 := fun x : Ext w2 => (kk x).2.2.2.1
 have k4 := fun x : Ext w2 => (kk x).2.2.2.2.1
 have k5 := fun x : Ext w2 => (kk x).2.2.2.2.2.1
 have k6 := fun x : Ext w2 => (kk x).2.2.2.2.2.2.1
 have k7 := fun x : Ext w2 => (kk x).2.2.2.2.2.2.2.1
 have k8 := fun x : Ext w2 => (kk x).2.2.2.2.2.2.2.2
 clear kk; have T := Kh (fun x : Ext w2 => TV.out x.1 (B2.out.trans (x.2.mono B2.out.size)))
 refine zR5 7 (by kernel_rfl) (by kernel_rfl) ?_
 simp only [List.take_succ_cons, List.take_zero, List.drop_succ_cons, List.drop_zero]
 repeat go_big_quiet_step ((go_at_call 132; exact zDs _ (T.out _)))
 refine wpQuiet_nil ?_
 intro wt hwt; obtain ⟨x, hwx⟩ := hwt; subst hwx; have B5 := Kh (B2.out.trans (x.2.mono B2.out.size)); clear k0 k1 k2 k3 k4 k5 k6 k7 k8 T
 go_wp2_with (go_at_call 131; refine (TC.out _ _ B5.out).mono ?_; rintro e w4 ⟨A', c', rfl, h1, h2, h3⟩; have F4 := Kh h1; have B4 := Kh ((B5.out.mono hB).trans h2); have H4 := Kh (fun k hk a b => (h3 k (Nat.lt_of_lt_of_le hk B5.out.size) a b).trans (B5.out.block k hk)); clear h1 h2 h3)
 go_ret
 exact ⟨A', c', rfl, F4.out, B4.out, H4.out⟩
theorem zLv (B gf : Nat) (A : Option Addr) (c : Nat) (L : List No) (na nb nc nn nm : Int) (si sw : Int) (nt : ByteArray) (w : World) (h : SRIn w B gf A c L ⟨33, na, nb, nc, nn, nm, ⟨si, sw⟩, nt⟩) (hall : zAr L ⟨33, na, nb, nc, nn, nm, ⟨si, sw⟩, nt⟩ = false) :
 Calls Tryz.prog 76 #[.pointer (some ⟨gf, 0, none⟩), .agg #[.int .i64 33, .int .i64 na, .int .i64 nb, .int .i64 nc, .int .i64 nn, .int .i64 nm, .int .i64 si, .int .i64 sw, .string nt]] w fun e w' => zAf w B gf A c L (zFu L ⟨33, na, nb, nc, nn, nm, ⟨si, sw⟩, nt⟩) e w' := by
 have H := Kh h; have hB := h.base; have hl := h.few; clear h; have B1 := bx w #[.int .i64 33, .int .i64 na, .int .i64 nb, .int .i64 nc, .int .i64 nn, .int .i64 nm, .int .i64 si, .int .i64 sw, .string nt] 42; have N1 := nx w #[.int .i64 33, .int .i64 na, .int .i64 nb, .int .i64 nc, .int .i64 nn, .int .i64 nm, .int .i64 si, .int .i64 sw, .string nt] 42; have TA := Kh (H.out.fixed false hall _ B1.out); have HA := Kh hall; clear hall; obtain ⟨qa, hqa, hqa'⟩ : ∃ q : Nat, na = (q : Int) ∧ q < L.length := by have := (H.out.inn.a (by show (0 : Int) < zK1 33; decide)).1; simp only at this; exact ⟨na.toNat, by omega, by omega⟩
 subst hqa; obtain ⟨x0, h0⟩ : ∃ b, isC L (qa : Int) 0 = b := ⟨_, rfl⟩
 obtain ⟨x1, h1⟩ : ∃ b, isC L (qa : Int) 1 = b := ⟨_, rfl⟩
 have ek : zFu L ⟨33, (qa : Int), nb, nc, nn, nm, ⟨si, sw⟩, nt⟩ = if x1 = true then .at nb else if x0 = true then .at nc else if nb = nc then .at nb else .no := by
  unfold zFu; rw [if_neg (by rw [HA.out]; decide)]; dsimp only; rw [if_pos rfl, h0, h1]
 rw [ek]; have T0 := Kh (fun (W : World) (hW : Below w.heap.size w W) => zLs gf A c L qa 0 x0 W (H.out.fold.below hW).blk (H.out.fold.below hW).noAt (by omega) hqa' h0)
 have T1 := Kh (fun (W : World) (hW : Below w.heap.size w W) => zLs gf A c L qa 1 x1 W (H.out.fold.below hW).blk (H.out.fold.below hW).noAt (by omega) hqa' h1)
 have HP : Hid (zK1 33 = 3) := Kh (by decide)
 clear ek h0 h1 hqa'
 cases x1 with
 | true =>
  go_enter Tryz.func76, Tryz.ntmps76
  go_wp2_with (first | (go_at_call 130; refine TA.out.mono ?_; rintro e w2 ⟨rfl, hb2⟩; have B2 := Kh (B1.out.trans (hb2.mono B1.out.size)); have N2 := Kh (N1.out.below hb2 N1.out.lt); obtain ⟨y0, y1, y2, y3, y4, y5, y6, y7, y8⟩ := N2.out.nine; clear hb2) | (go_at_call 133; with_reducible show Calls _ _ #[_, _, .int .i64 1] _ _; refine (T1.out _ B2.out).mono ?_; rintro e w3 ⟨rfl, rfl⟩) | (go_at_call 133; with_reducible show Calls _ _ #[_, _, .int .i64 0] _ _; refine (T0.out _ B2.out).mono ?_; rintro e w3 ⟨rfl, rfl⟩) | (go_at_call 79; refine (zG8 _ _).mono ?_; rintro e wp ⟨rfl, rfl⟩; rw [HP.out]))
  go_ret
  exact ⟨rfl, B2.out⟩
 | false =>
  cases x0 with
  | true =>
   go_enter Tryz.func76, Tryz.ntmps76
   go_wp2_with (first | (go_at_call 130; refine TA.out.mono ?_; rintro e w2 ⟨rfl, hb2⟩; have B2 := Kh (B1.out.trans (hb2.mono B1.out.size)); have N2 := Kh (N1.out.below hb2 N1.out.lt); obtain ⟨y0, y1, y2, y3, y4, y5, y6, y7, y8⟩ := N2.out.nine; clear hb2) | (go_at_call 133; with_reducible show Calls _ _ #[_, _, .int .i64 1] _ _; refine (T1.out _ B2.out).mono ?_; rintro e w3 ⟨rfl, rfl⟩) | (go_at_call 133; with_reducible show Calls _ _ #[_, _, .int .i64 0] _ _; refine (T0.out _ B2.out).mono ?_; rintro e w3 ⟨rfl, rfl⟩) | (go_at_call 79; refine (zG8 _ _).mono ?_; rintro e wp ⟨rfl, rfl⟩; rw [HP.out]))
   go_ret
   exact ⟨rfl, B2.out⟩
  | false =>
   by_cases hbc : nb = nc
   · subst hbc
     rw [if_pos rfl]
     go_enter Tryz.func76, Tryz.ntmps76
     go_wp2_with (first | (go_at_call 130; refine TA.out.mono ?_; rintro e w2 ⟨rfl, hb2⟩; have B2 := Kh (B1.out.trans (hb2.mono B1.out.size)); have N2 := Kh (N1.out.below hb2 N1.out.lt); obtain ⟨y0, y1, y2, y3, y4, y5, y6, y7, y8⟩ := N2.out.nine; clear hb2) | (go_at_call 133; with_reducible show Calls _ _ #[_, _, .int .i64 1] _ _; refine (T1.out _ B2.out).mono ?_; rintro e w3 ⟨rfl, rfl⟩) | (go_at_call 133; with_reducible show Calls _ _ #[_, _, .int .i64 0] _ _; refine (T0.out _ B2.out).mono ?_; rintro e w3 ⟨rfl, rfl⟩) | (go_at_call 79; refine (zG8 _ _).mono ?_; rintro e wp ⟨rfl, rfl⟩; rw [HP.out]))
     go_ret
     exact ⟨rfl, B2.out⟩
   · have dbc : (nb == nc) = false := by simpa using hbc
     rw [if_neg hbc]; clear hbc
     go_enter Tryz.func76, Tryz.ntmps76
     go_wp2_with (first | (go_at_call 130; refine TA.out.mono ?_; rintro e w2 ⟨rfl, hb2⟩; have B2 := Kh (B1.out.trans (hb2.mono B1.out.size)); have N2 := Kh (N1.out.below hb2 N1.out.lt); obtain ⟨y0, y1, y2, y3, y4, y5, y6, y7, y8⟩ := N2.out.nine; clear hb2) | (go_at_call 133; with_reducible show Calls _ _ #[_, _, .int .i64 1] _ _; refine (T1.out _ B2.out).mono ?_; rintro e w3 ⟨rfl, rfl⟩) | (go_at_call 133; with_reducible show Calls _ _ #[_, _, .int .i64 0] _ _; refine (T0.out _ B2.out).mono ?_; rintro e w3 ⟨rfl, rfl⟩) | (go_at_call 79; refine (zG8 _ _).mono ?_; rintro e wp ⟨rfl, rfl⟩; rw [HP.out]))
     go_quiet (fail)
     go_wp2_with (first | (go_at_call 130; refine TA.out.mono ?_; rintro e w2 ⟨rfl, hb2⟩; have B2 := Kh (B1.out.trans (hb2.mono B1.out.size)); have N2 := Kh (N1.out.below hb2 N1.out.lt); obtain ⟨y0, y1, y2, y3, y4, y5, y6, y7, y8⟩ := N2.out.nine; clear hb2) | (go_at_call 133; with_reducible show Calls _ _ #[_, _, .int .i64 1] _ _; refine (T1.out _ B2.out).mono ?_; rintro e w3 ⟨rfl, rfl⟩) | (go_at_call 133; with_reducible show Calls _ _ #[_, _, .int .i64 0] _ _; refine (T0.out _ B2.out).mono ?_; rintro e w3 ⟨rfl, rfl⟩) | (go_at_call 79; refine (zG8 _ _).mono ?_; rintro e wp ⟨rfl, rfl⟩; rw [HP.out]))
     go_ret
     exact ⟨rfl, by first | exact B2.out | exact zB1 B2.out _⟩
theorem zLx (B gf : Nat) (A : Option Addr) (c : Nat) (L : List No) (nk na nb nc nn nm : Int) (si sw : Int) (nt : ByteArray) (w : World) (h : SRIn w B gf A c L ⟨nk, na, nb, nc, nn, nm, ⟨si, sw⟩, nt⟩) (hall : zAr L ⟨nk, na, nb, nc, nn, nm, ⟨si, sw⟩, nt⟩ = false) (hp : zK1 nk = 1) :
 Calls Tryz.prog 76 #[.pointer (some ⟨gf, 0, none⟩), .agg #[.int .i64 nk, .int .i64 na, .int .i64 nb, .int .i64 nc, .int .i64 nn, .int .i64 nm, .int .i64 si, .int .i64 sw, .string nt]] w fun e w' => zAf w B gf A c L (zIv L ⟨nk, na, nb, nc, nn, nm, ⟨si, sw⟩, nt⟩) e w' := by
 have H := Kh h; have hB := h.base; have hl := h.few; clear h; have B1 := bx w #[.int .i64 nk, .int .i64 na, .int .i64 nb, .int .i64 nc, .int .i64 nn, .int .i64 nm, .int .i64 si, .int .i64 sw, .string nt] 42; have N1 := nx w #[.int .i64 nk, .int .i64 na, .int .i64 nb, .int .i64 nc, .int .i64 nn, .int .i64 nm, .int .i64 si, .int .i64 sw, .string nt] 42; have TA := Kh (H.out.fixed false hall _ B1.out); have HA := Kh hall; clear hall; have HP := Kh hp; have T1 := Kh (fun (W : World) (hW : Below w.heap.size w W) => zM6 B gf A c L ⟨nk, na, nb, nc, nn, nm, ⟨si, sw⟩, nt⟩ W (H.out.fold.below hW) hl H.out.ok H.out.inn hp)
 have d33 : (nk == 33) = false := by simp only [beq_eq_false_iff_ne]; rintro rfl; revert hp; decide
 have d37 : (nk == 37) = false := by simp only [beq_eq_false_iff_ne]; rintro rfl; revert hp; decide
 clear hp; generalize zIv L ⟨nk, na, nb, nc, nn, nm, ⟨si, sw⟩, nt⟩ = K at *
 go_enter Tryz.func76, Tryz.ntmps76
 go_wp2_with (first | (go_at_call 130; refine TA.out.mono ?_; rintro e w2 ⟨rfl, hb2⟩; have B2 := Kh (B1.out.trans (hb2.mono B1.out.size)); have N2 := Kh (N1.out.below hb2 N1.out.lt); obtain ⟨y0, y1, y2, y3, y4, y5, y6, y7, y8⟩ := N2.out.nine; clear hb2) | (go_at_call 79; refine (zG8 _ _).mono ?_; rintro e wp ⟨rfl, rfl⟩; rw [HP.out]))
 go_quiet (fail); have B3 := Kh (fun k => zB1 B2.out k)
 cases K with
 | no =>
  go_wp2_with (first | (go_at_call 79; refine (zG8 _ _).mono ?_; rintro e wp ⟨rfl, rfl⟩; rw [HP.out]) | (go_at_call 134; refine (T1.out _ (B3.out _)).mono ?_; rintro e w4 hk4; obtain ⟨rfl, hb⟩ := hk4.from (B3.out _) hB))
  go_ret
  exact ⟨rfl, hb⟩
 | «at» q =>
  go_wp2_with (first | (go_at_call 79; refine (zG8 _ _).mono ?_; rintro e wp ⟨rfl, rfl⟩; rw [HP.out]) | (go_at_call 134; refine (T1.out _ (B3.out _)).mono ?_; rintro e w4 hk4; obtain ⟨rfl, hb⟩ := hk4.from (B3.out _) hB))
  go_ret
  exact ⟨rfl, hb⟩
 | con wd v =>
  go_wp2_with (first | (go_at_call 79; refine (zG8 _ _).mono ?_; rintro e wp ⟨rfl, rfl⟩; rw [HP.out]) | (go_at_call 134; refine (T1.out _ (B3.out _)).mono ?_; rintro e w4 hk4; obtain ⟨A', c', rfl, h1, h2, h3⟩ := zAf.from hk4 (B3.out _) hB))
  go_ret
  exact ⟨A', c', rfl, h1, h2, h3⟩
theorem zLw (B gf : Nat) (A : Option Addr) (c : Nat) (L : List No) (nk na nb nc nn nm : Int) (si sw : Int) (nt : ByteArray) (w : World) (h : SRIn w B gf A c L ⟨nk, na, nb, nc, nn, nm, ⟨si, sw⟩, nt⟩) (hall : zAr L ⟨nk, na, nb, nc, nn, nm, ⟨si, sw⟩, nt⟩ = false) (hk : nk = 34 ∨ nk = 35 ∨ nk = 36 ∨ nk = 38) :
 Calls Tryz.prog 76 #[.pointer (some ⟨gf, 0, none⟩), .agg #[.int .i64 nk, .int .i64 na, .int .i64 nb, .int .i64 nc, .int .i64 nn, .int .i64 nm, .int .i64 si, .int .i64 sw, .string nt]] w fun e w' => zAf w B gf A c L (.no) e w' := by
 have H := Kh h; have hB := h.base; have hl := h.few; clear h; have B1 := bx w #[.int .i64 nk, .int .i64 na, .int .i64 nb, .int .i64 nc, .int .i64 nn, .int .i64 nm, .int .i64 si, .int .i64 sw, .string nt] 42; have N1 := nx w #[.int .i64 nk, .int .i64 na, .int .i64 nb, .int .i64 nc, .int .i64 nn, .int .i64 nm, .int .i64 si, .int .i64 sw, .string nt] 42; have TA := Kh (H.out.fixed false hall _ B1.out); have HA := Kh hall; clear hall; obtain ⟨P, hP⟩ : ∃ P, zK1 nk = P := ⟨_, rfl⟩
 have hP0 : P = 0 ∨ P = 3 := by rw [← hP]; rcases hk with rfl | rfl | rfl | rfl <;> decide
 have HP := Kh hP; have d33 : (nk == 33) = false := by simp only [beq_eq_false_iff_ne]; omega
 have d37 : (nk == 37) = false := by simp only [beq_eq_false_iff_ne]; omega
 clear hk hP
 rcases hP0 with rfl | rfl
 all_goals
  go_enter Tryz.func76, Tryz.ntmps76
  go_wp2_with (first | (go_at_call 130; refine TA.out.mono ?_; rintro e w2 ⟨rfl, hb2⟩; have B2 := Kh (B1.out.trans (hb2.mono B1.out.size)); have N2 := Kh (N1.out.below hb2 N1.out.lt); obtain ⟨y0, y1, y2, y3, y4, y5, y6, y7, y8⟩ := N2.out.nine; clear hb2) | (go_at_call 79; refine (zG8 _ _).mono ?_; rintro e wp ⟨rfl, rfl⟩; rw [HP.out]))
  go_quiet (fail)
  go_wp2_with (go_at_call 79; refine (zG8 _ _).mono ?_; rintro e wp ⟨rfl, rfl⟩; rw [HP.out])
  go_ret
  exact ⟨rfl, by first | exact B2.out | exact zB1 B2.out _⟩
end Go.Proofs.YtmolbnghobfmoaaGreat
