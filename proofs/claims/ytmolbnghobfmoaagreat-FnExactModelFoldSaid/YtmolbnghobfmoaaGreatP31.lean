/- Part 31 of what the row Row28 rests on: G22 G23 G24 G25 G26 G27. -/
import Derived.Test.YtmolbnghobfmoaaGreatP30
set_option maxRecDepth 100000
set_option maxHeartbeats 16000000
set_option linter.unusedSimpArgs false
set_option linter.unusedVariables false
namespace Go.Proofs.YtmolbnghobfmoaaGreat
open Go.RowKit
theorem zNb (AL A : Option Addr) (cL cap : Nat) (vs : List (List Int)) (L : List No) (n : No) (w : World) (h : SIn w AL A vs L n) (hk : n.k = 21) :
 Calls Tryz.prog 125 #[.slice AL L.length cL, .agg #[.int .i64 n.k, .int .i64 n.a, .int .i64 n.b, .int .i64 n.c, .int .i64 n.n, .int .i64 n.m, .int .i64 n.s.i, .int .i64 n.s.w, .string n.t], .slice A vs.length cap] w fun e w' => zAi w (zIm (fun p => (noAt L p).s) (fun p => vs.getD p.toNat []) n) e w' := by
 have H := Kh h; clear h; obtain ⟨nk, na, nb, nc, nn, nm, ⟨si, sw⟩, nt⟩ := n; obtain rfl : nk = 21 := hk; have HP : Hid (zK1 21 = 2) := Kh (by decide)
 obtain ⟨⟨ha0, ha1⟩, hsa⟩ : (0 ≤ na ∧ na < (L.length : Int)) ∧ sortOk (noAt L na).s := H.out.inn.a (by show 0 < zK1 _; rw [HP.out]; decide)
 have hfa : zDw (noAt L na).s (vs.getD (na).toNat []) := H.out.fa (by show 0 < zK1 _; rw [HP.out]; decide)
 obtain ⟨pa, hpa⟩ : ∃ p : Nat, na = (p : Int) := ⟨na.toNat, by omega⟩
 subst hpa; have hla : pa < vs.length := by have := H.out.len; omega
 have hLa : pa < L.length := by omega
 replace hfa : zDw (noAt L (pa : Int)).s (vs.getD pa []) := hfa
 obtain ⟨va, hva⟩ : ∃ v, vs.getD pa [] = v := ⟨_, rfl⟩
 rw [hva] at hfa; obtain ⟨⟨hb0, hb1⟩, hsb⟩ : (0 ≤ nb ∧ nb < (L.length : Int)) ∧ sortOk (noAt L nb).s := H.out.inn.b (by show 1 < zK1 _; rw [HP.out]; decide)
 have hfb : zDw (noAt L nb).s (vs.getD (nb).toNat []) := H.out.fb (by show 1 < zK1 _; rw [HP.out]; decide)
 obtain ⟨pb, hpb⟩ : ∃ p : Nat, nb = (p : Int) := ⟨nb.toNat, by omega⟩
 subst hpb; have hlb : pb < vs.length := by have := H.out.len; omega
 have hLb : pb < L.length := by omega
 replace hfb : zDw (noAt L (pb : Int)).s (vs.getD pb []) := hfb
 obtain ⟨vb, hvb⟩ : ∃ v, vs.getD pb [] = v := ⟨_, rfl⟩
 rw [hvb] at hfb; have hab : va.length = vb.length := by rw [hfa.1, hfb.1, H.out.inn.sort21 rfl |>.1]
 have E : zIm (fun p => (noAt L p).s) (fun p => vs.getD p.toNat []) ⟨21, (pa : Int), (pb : Int), nc, nn, nm, ⟨si, sw⟩, nt⟩ = [if vs.getD pa [] = vs.getD pb [] then 1 else 0] := rfl
 rw [E, hva, hvb]; clear E
 have e1 : (if va = vb then 1 else 0 : Int) = (((decide (va = vb)).toNat : Nat) : Int) := by
  by_cases h : va = vb
  · rw [if_pos h, decide_eq_true h]; rfl
  · rw [if_neg h, decide_eq_false h]; rfl
 rw [e1]; clear e1; obtain ⟨g, rfl, hg, BA, ca, za, ia, na0⟩ := zQc H.out.vals hla; obtain ⟨g', hgg, hg', BB, cb, zb, ib, nb0⟩ := zQc H.out.vals hlb
 cases hgg
 rw [hva] at za ia; rw [hvb] at zb ib; obtain ⟨gl, rfl, hgl, hcl⟩ := H.out.row (by omega)
 have ya := (hcl pa hLa).2.2.2.2.2.2.2.1; obtain ⟨w3, hw3⟩ : ∃ x, ((w.alloc (.cells #[.int .i64 21, .int .i64 (pa : Int), .int .i64 (pb : Int), .int .i64 nc, .int .i64 nn, .int .i64 nm, .int .i64 si, .int .i64 sw, .string nt] 42)).alloc (.cells #[.slice none 0 0] 53)).alloc (.cells #[.slice BA va.length ca] 53) = x := ⟨_, rfl⟩
 have B3 : Hid (Below w.heap.size w w3) := Kh (by rw [← hw3]; exact (((Below.refl _ _).alloc (Nat.le_refl _) _).alloc (by simp) _).alloc (by simp; omega) _)
 have N3 : Hid (Blk w3 w.heap.size 42 #[.int .i64 21, .int .i64 (pa : Int), .int .i64 (pb : Int), .int .i64 nc, .int .i64 nn, .int .i64 nm, .int .i64 si, .int .i64 sw, .string nt]) := Kh (by rw [← hw3]; exact ((Blk.new _ _ _).alloc _).alloc _)
 have R3 : Hid (Blk w3 (w.heap.size + 1) 53 #[.slice none 0 0]) := Kh (by rw [← hw3]; exact (Blk.new_at _ _ _ (by simp)).alloc _)
 have A3 : Hid (Blk w3 (w.heap.size + 1 + 1) 53 #[.slice BA va.length ca]) := Kh (by rw [← hw3]; exact Blk.new_at _ _ _ (by simp))
 have HW3 := Kh hw3; have old : ∀ (b j : Nat) (v : Value), b < w.heap.size → w.cell? ⟨b, j, none⟩ = some v → w3.cell? ⟨b, j, none⟩ = some v := fun b j v hb hc => (B3.out.cell (p := ⟨b, j, none⟩) hb).trans hc
 have za3 := old _ _ _ hg za; have zb3 := old _ _ _ hg zb; have ya3 := old _ _ _ hgl ya; have IA := Kh (ia.below B3.out); have IB := Kh (ib.below B3.out); obtain ⟨x0, x1, x2, x3, x4, x5, x6, x7, x8⟩ := N3.out.nine; have a0 : w3.cell? ⟨w.heap.size + 1 + 1, 0, none⟩ = some (.slice BA va.length ca) := by rw [A3.out.cell]; rfl
 have qa0 : (0 : Int) ≤ (pa : Int) := by omega
 have qa1 : (pa : Int) < (vs.length : Int) := by omega
 have qa2 : (pa : Int) < (L.length : Int) := by omega
 have qb0 : (0 : Int) ≤ (pb : Int) := by omega
 have qb1 : (pb : Int) < (vs.length : Int) := by omega
 have la : va.length ≤ 1048576 := by rw [hfa.1]; have := zCj (noAt L (pa : Int)).s; omega
 have lb : vb.length ≤ 1048576 := by rw [hfb.1]; have := zCj (noAt L (pb : Int)).s; omega
 have T := Kh (zGs BA BB ca cb va vb w3.drew (IA.out.below (Below.refl _ _).drew) (IB.out.below (Below.refl _ _).drew) la lb (by omega))
 generalize decide (va = vb) = V at *; clear old ia ib na0 nb0 hcl hfa hfb hsa hsb hva hvb hab
 go_enter Tryz.func125, Tryz.ntmps125
 go_wp2_with fail
 try rw [HW3.out]
 go_still_tail 6, (by kernel_rfl)
 have B4 := Kh B3.out.drew; have R4 : Hid (Blk w3.drew (w.heap.size + 1) 53 #[.slice none 0 0]) := Kh R3.out.drew
 go_wp2_with (first
  | (go_at_call 162; refine T.out.mono ?_; rintro e w4 ⟨rfl, hb4⟩; have B5 := Kh (B4.out.trans (hb4.mono B4.out.size)); have R5 := Kh (R4.out.below hb4 R4.out.lt); clear hb4)
  | (go_at_call 161; refine (zN1 _ _).mono ?_; rintro e w1 ⟨rfl, rfl⟩)
  | (go_at_call 123; refine (zGr _ _).mono ?_; rintro e w5 ⟨gr, rfl, hgr, hbg, hb4⟩; have B6 := Kh (B5.out.trans (hb4.mono B5.out.size)); have R6 := Kh (R5.out.below hb4 R5.out.lt); have G6 := Kh hbg; clear hbg hb4 hgr; have f0 := R6.out.frozen 0; have r0 : w5.cell? ⟨w.heap.size + 1, 0, none⟩ = some (.slice none 0 0) := (by rw [R6.out.cell]; rfl)))
 obtain ⟨c5, V5⟩ := zO9 (w := w) R6.out G6.out B6.out (Nat.le_succ _)
 exact bodyPost_ret (v := .agg #[.slice (some ⟨gr, 0, none⟩) 1 1]) (by simp [results, Tryz.results125, go_sem, c5]) rfl V5
theorem zNh (AL A : Option Addr) (cL cap : Nat) (vs : List (List Int)) (L : List No) (n : No) (w : World) (h : SIn w AL A vs L n) (hk : n.k = 37) :
 Calls Tryz.prog 125 #[.slice AL L.length cL, .agg #[.int .i64 n.k, .int .i64 n.a, .int .i64 n.b, .int .i64 n.c, .int .i64 n.n, .int .i64 n.m, .int .i64 n.s.i, .int .i64 n.s.w, .string n.t], .slice A vs.length cap] w fun e w' => zAi w (zIm (fun p => (noAt L p).s) (fun p => vs.getD p.toNat []) n) e w' := by
 have H := Kh h; clear h; obtain ⟨nk, na, nb, nc, nn, nm, ⟨si, sw⟩, nt⟩ := n; obtain rfl : nk = 37 := hk; have HP : Hid (zK1 37 = 2) := Kh (by decide)
 obtain ⟨⟨ha0, ha1⟩, hsa⟩ : (0 ≤ na ∧ na < (L.length : Int)) ∧ sortOk (noAt L na).s := H.out.inn.a (by show 0 < zK1 _; rw [HP.out]; decide)
 have hfa : zDw (noAt L na).s (vs.getD (na).toNat []) := H.out.fa (by show 0 < zK1 _; rw [HP.out]; decide)
 obtain ⟨pa, hpa⟩ : ∃ p : Nat, na = (p : Int) := ⟨na.toNat, by omega⟩
 subst hpa; have hla : pa < vs.length := by have := H.out.len; omega
 have hLa : pa < L.length := by omega
 replace hfa : zDw (noAt L (pa : Int)).s (vs.getD pa []) := hfa
 obtain ⟨va, hva⟩ : ∃ v, vs.getD pa [] = v := ⟨_, rfl⟩
 rw [hva] at hfa; obtain ⟨⟨hb0, hb1⟩, hsb⟩ : (0 ≤ nb ∧ nb < (L.length : Int)) ∧ sortOk (noAt L nb).s := H.out.inn.b (by show 1 < zK1 _; rw [HP.out]; decide)
 have hfb : zDw (noAt L nb).s (vs.getD (nb).toNat []) := H.out.fb (by show 1 < zK1 _; rw [HP.out]; decide)
 obtain ⟨pb, hpb⟩ : ∃ p : Nat, nb = (p : Int) := ⟨nb.toNat, by omega⟩
 subst hpb; have hlb : pb < vs.length := by have := H.out.len; omega
 have hLb : pb < L.length := by omega
 replace hfb : zDw (noAt L (pb : Int)).s (vs.getD pb []) := hfb
 obtain ⟨vb, hvb⟩ : ∃ v, vs.getD pb [] = v := ⟨_, rfl⟩
 rw [hvb] at hfb; have hab := H.out.inn.sort37 rfl; have hia0 : 0 < (noAt L (pa : Int)).s.i := hab.1; have hib : (noAt L (pb : Int)).s.i = 0 := by rw [hab.2.1]; rfl
 have hib2 : (noAt L (pb : Int)).s.w = (noAt L (pa : Int)).s.i := by rw [hab.2.1]; rfl
 clear hab; obtain ⟨wb, xb, hswb, hxb, hwbb, hxbb, hposb⟩ := zQq hfb hsb hib
 have hxlen : xb < va.length := by
  rw [hfa.1]; unfold cellsOf; rw [if_pos hsa, ← hib2, hswb]
  exact hxbb
 have E : zIm (fun p => (noAt L p).s) (fun p => vs.getD p.toNat []) ⟨37, (pa : Int), (pb : Int), nc, nn, nm, ⟨si, sw⟩, nt⟩ = [(vs.getD pa []).getD (hd0 (vs.getD pb [])).toNat 0] := rfl
 rw [E, hva, hvb, hxb, show va.getD ((xb : Nat) : Int).toNat 0 = va[xb] by rw [Int.toNat_natCast, List.getD_eq_getElem?_getD, List.getElem?_eq_getElem hxlen]; rfl]
 clear E; obtain ⟨g, rfl, hg, BA, ca, za, ia, na0⟩ := zQc H.out.vals hla; obtain ⟨g', hgg, hg', BB, cb, zb, ib, nb0⟩ := zQc H.out.vals hlb
 cases hgg
 rw [hva] at za ia; rw [hvb] at zb ib; obtain ⟨gl, rfl, hgl, hcl⟩ := H.out.row (by omega)
 have ya := (hcl pa hLa).2.2.2.2.2.2.2.1; obtain ⟨w3, hw3⟩ : ∃ x, ((w.alloc (.cells #[.int .i64 37, .int .i64 (pa : Int), .int .i64 (pb : Int), .int .i64 nc, .int .i64 nn, .int .i64 nm, .int .i64 si, .int .i64 sw, .string nt] 42)).alloc (.cells #[.slice none 0 0] 53)).alloc (.cells #[.slice BA va.length ca] 53) = x := ⟨_, rfl⟩
 have B3 : Hid (Below w.heap.size w w3) := Kh (by rw [← hw3]; exact (((Below.refl _ _).alloc (Nat.le_refl _) _).alloc (by simp) _).alloc (by simp; omega) _)
 have N3 : Hid (Blk w3 w.heap.size 42 #[.int .i64 37, .int .i64 (pa : Int), .int .i64 (pb : Int), .int .i64 nc, .int .i64 nn, .int .i64 nm, .int .i64 si, .int .i64 sw, .string nt]) := Kh (by rw [← hw3]; exact ((Blk.new _ _ _).alloc _).alloc _)
 have R3 : Hid (Blk w3 (w.heap.size + 1) 53 #[.slice none 0 0]) := Kh (by rw [← hw3]; exact (Blk.new_at _ _ _ (by simp)).alloc _)
 have A3 : Hid (Blk w3 (w.heap.size + 1 + 1) 53 #[.slice BA va.length ca]) := Kh (by rw [← hw3]; exact Blk.new_at _ _ _ (by simp))
 have HW3 := Kh hw3; have old : ∀ (b j : Nat) (v : Value), b < w.heap.size → w.cell? ⟨b, j, none⟩ = some v → w3.cell? ⟨b, j, none⟩ = some v := fun b j v hb hc => (B3.out.cell (p := ⟨b, j, none⟩) hb).trans hc
 have za3 := old _ _ _ hg za; have zb3 := old _ _ _ hg zb; have ya3 := old _ _ _ hgl ya; have IA := Kh (ia.below B3.out); have IB := Kh (ib.below B3.out); obtain ⟨x0, x1, x2, x3, x4, x5, x6, x7, x8⟩ := N3.out.nine; have a0 : w3.cell? ⟨w.heap.size + 1 + 1, 0, none⟩ = some (.slice BA va.length ca) := by rw [A3.out.cell]; rfl
 have qa0 : (0 : Int) ≤ (pa : Int) := by omega
 have qa1 : (pa : Int) < (vs.length : Int) := by omega
 have qa2 : (pa : Int) < (L.length : Int) := by omega
 have qb0 : (0 : Int) ≤ (pb : Int) := by omega
 have qb1 : (pb : Int) < (vs.length : Int) := by omega
 have la : va.length ≤ 1048576 := by rw [hfa.1]; have := zCj (noAt L (pa : Int)).s; omega
 have lb : vb.length ≤ 1048576 := by rw [hfb.1]; have := zCj (noAt L (pb : Int)).s; omega
 obtain ⟨ga, rfl, hga, hca⟩ := ia (by omega)
 have zx := hca xb hxlen; obtain ⟨gb, rfl, hgb, hcb⟩ := ib hposb; have zy := hcb 0 hposb; have eb : vb[0] = (xb : Int) := by rw [← hxb]; unfold hd0; rw [List.getD_eq_getElem?_getD, List.getElem?_eq_getElem hposb]; rfl
 rw [eb] at zy; have zx3 := old _ _ _ hga zx; have zy3 := old _ _ _ hgb zy; generalize va[xb] = V at *; have qx0 : (0 : Int) ≤ (xb : Int) := by omega
 have qx1 : (xb : Int) < (va.length : Int) := by omega
 have qb3 : (0 : Int) < (vb.length : Int) := by omega
 clear old ia ib na0 nb0 hcl hfa hfb hsa hsb hva hvb hca hcb hib hib2 hia0 hxbb IA IB
 go_enter Tryz.func125, Tryz.ntmps125
 go_wp2_with fail
 try rw [HW3.out]
 go_still_tail 12, (by kernel_rfl)
 have B4 := Kh B3.out.drew; have R4 : Hid (Blk w3.drew (w.heap.size + 1) 53 #[.slice none 0 0]) := Kh R3.out.drew
 go_wp2_with (go_at_call 123; refine (zGr _ _).mono ?_; rintro e w5 ⟨gr, rfl, hgr, hbg, hb4⟩; have B6 := Kh (B4.out.trans (hb4.mono B4.out.size)); have R6 := Kh (R4.out.below hb4 R4.out.lt); have G6 := Kh hbg; clear hbg hb4 hgr; have f0 := R6.out.frozen 0; have r0 : w5.cell? ⟨w.heap.size + 1, 0, none⟩ = some (.slice none 0 0) := (by rw [R6.out.cell]; rfl))
 obtain ⟨c5, V5⟩ := zO9 (w := w) R6.out G6.out B6.out (Nat.le_succ _)
 exact bodyPost_ret (v := .agg #[.slice (some ⟨gr, 0, none⟩) 1 1]) (by simp [results, Tryz.results125, go_sem, c5]) rfl V5
theorem zNi (AL A : Option Addr) (cL cap : Nat) (vs : List (List Int)) (L : List No) (n : No) (w : World) (h : SIn w AL A vs L n) (hk : n.k = 38) :
 Calls Tryz.prog 125 #[.slice AL L.length cL, .agg #[.int .i64 n.k, .int .i64 n.a, .int .i64 n.b, .int .i64 n.c, .int .i64 n.n, .int .i64 n.m, .int .i64 n.s.i, .int .i64 n.s.w, .string n.t], .slice A vs.length cap] w fun e w' => zAi w (zIm (fun p => (noAt L p).s) (fun p => vs.getD p.toNat []) n) e w' := by
 have H := Kh h; clear h; obtain ⟨nk, na, nb, nc, nn, nm, ⟨si, sw⟩, nt⟩ := n; obtain rfl : nk = 38 := hk; have HP : Hid (zK1 38 = 3) := Kh (by decide)
 obtain ⟨⟨ha0, ha1⟩, hsa⟩ : (0 ≤ na ∧ na < (L.length : Int)) ∧ sortOk (noAt L na).s := H.out.inn.a (by show 0 < zK1 _; rw [HP.out]; decide)
 have hfa : zDw (noAt L na).s (vs.getD (na).toNat []) := H.out.fa (by show 0 < zK1 _; rw [HP.out]; decide)
 obtain ⟨pa, hpa⟩ : ∃ p : Nat, na = (p : Int) := ⟨na.toNat, by omega⟩
 subst hpa; have hla : pa < vs.length := by have := H.out.len; omega
 have hLa : pa < L.length := by omega
 replace hfa : zDw (noAt L (pa : Int)).s (vs.getD pa []) := hfa
 obtain ⟨va, hva⟩ : ∃ v, vs.getD pa [] = v := ⟨_, rfl⟩
 rw [hva] at hfa; obtain ⟨⟨hb0, hb1⟩, hsb⟩ : (0 ≤ nb ∧ nb < (L.length : Int)) ∧ sortOk (noAt L nb).s := H.out.inn.b (by show 1 < zK1 _; rw [HP.out]; decide)
 have hfb : zDw (noAt L nb).s (vs.getD (nb).toNat []) := H.out.fb (by show 1 < zK1 _; rw [HP.out]; decide)
 obtain ⟨pb, hpb⟩ : ∃ p : Nat, nb = (p : Int) := ⟨nb.toNat, by omega⟩
 subst hpb; have hlb : pb < vs.length := by have := H.out.len; omega
 have hLb : pb < L.length := by omega
 replace hfb : zDw (noAt L (pb : Int)).s (vs.getD pb []) := hfb
 obtain ⟨vb, hvb⟩ : ∃ v, vs.getD pb [] = v := ⟨_, rfl⟩
 rw [hvb] at hfb; obtain ⟨⟨hc0, hc1⟩, hsc⟩ : (0 ≤ nc ∧ nc < (L.length : Int)) ∧ sortOk (noAt L nc).s := H.out.inn.c (by show 2 < zK1 _; rw [HP.out]; decide)
 have hfc : zDw (noAt L nc).s (vs.getD (nc).toNat []) := H.out.fc (by show 2 < zK1 _; rw [HP.out]; decide)
 obtain ⟨pc, hpc⟩ : ∃ p : Nat, nc = (p : Int) := ⟨nc.toNat, by omega⟩
 subst hpc; have hlc : pc < vs.length := by have := H.out.len; omega
 have hLc : pc < L.length := by omega
 replace hfc : zDw (noAt L (pc : Int)).s (vs.getD pc []) := hfc
 obtain ⟨vc, hvc⟩ : ∃ v, vs.getD pc [] = v := ⟨_, rfl⟩
 rw [hvc] at hfc; have hab := H.out.inn.sort38 rfl; have hia0 : 0 < (noAt L (pa : Int)).s.i := hab.1; have hib : (noAt L (pb : Int)).s.i = 0 := by rw [hab.2.1]; rfl
 have hib2 : (noAt L (pb : Int)).s.w = (noAt L (pa : Int)).s.i := by rw [hab.2.1]; rfl
 have hic : (noAt L (pc : Int)).s.i = 0 := by rw [hab.2.2.1]; rfl
 clear hab; obtain ⟨wb, xb, hswb, hxb, hwbb, hxbb, hposb⟩ := zQq hfb hsb hib; obtain ⟨wc, xc, hswc, hxc, hwbc, hxbc, hposc⟩ := zQq hfc hsc hic
 have hxlen : xb < va.length := by
  rw [hfa.1]; unfold cellsOf; rw [if_pos hsa, ← hib2, hswb]
  exact hxbb
 have E : zIm (fun p => (noAt L p).s) (fun p => vs.getD p.toNat []) ⟨38, (pa : Int), (pb : Int), (pc : Int), nn, nm, ⟨si, sw⟩, nt⟩ = (vs.getD pa []).set (hd0 (vs.getD pb [])).toNat (hd0 (vs.getD pc [])) := rfl
 rw [E, hva, hvb, hvc, hxb, hxc, Int.toNat_natCast]; clear E; obtain ⟨g, rfl, hg, BA, ca, za, ia, na0⟩ := zQc H.out.vals hla; obtain ⟨g', hgg, hg', BB, cb, zb, ib, nb0⟩ := zQc H.out.vals hlb
 cases hgg
 rw [hva] at za ia; rw [hvb] at zb ib; obtain ⟨gl, rfl, hgl, hcl⟩ := H.out.row (by omega)
 have ya := (hcl pa hLa).2.2.2.2.2.2.2.1; obtain ⟨w3, hw3⟩ : ∃ x, ((w.alloc (.cells #[.int .i64 38, .int .i64 (pa : Int), .int .i64 (pb : Int), .int .i64 (pc : Int), .int .i64 nn, .int .i64 nm, .int .i64 si, .int .i64 sw, .string nt] 42)).alloc (.cells #[.slice none 0 0] 53)).alloc (.cells #[.slice BA va.length ca] 53) = x := ⟨_, rfl⟩
 have B3 : Hid (Below w.heap.size w w3) := Kh (by rw [← hw3]; exact (((Below.refl _ _).alloc (Nat.le_refl _) _).alloc (by simp) _).alloc (by simp; omega) _)
 have N3 : Hid (Blk w3 w.heap.size 42 #[.int .i64 38, .int .i64 (pa : Int), .int .i64 (pb : Int), .int .i64 (pc : Int), .int .i64 nn, .int .i64 nm, .int .i64 si, .int .i64 sw, .string nt]) := Kh (by rw [← hw3]; exact ((Blk.new _ _ _).alloc _).alloc _)
 have R3 : Hid (Blk w3 (w.heap.size + 1) 53 #[.slice none 0 0]) := Kh (by rw [← hw3]; exact (Blk.new_at _ _ _ (by simp)).alloc _)
 have A3 : Hid (Blk w3 (w.heap.size + 1 + 1) 53 #[.slice BA va.length ca]) := Kh (by rw [← hw3]; exact Blk.new_at _ _ _ (by simp))
 have HW3 := Kh hw3; have old : ∀ (b j : Nat) (v : Value), b < w.heap.size → w.cell? ⟨b, j, none⟩ = some v → w3.cell? ⟨b, j, none⟩ = some v := fun b j v hb hc => (B3.out.cell (p := ⟨b, j, none⟩) hb).trans hc
 have za3 := old _ _ _ hg za; have zb3 := old _ _ _ hg zb; have ya3 := old _ _ _ hgl ya; have IA := Kh (ia.below B3.out); have IB := Kh (ib.below B3.out); obtain ⟨x0, x1, x2, x3, x4, x5, x6, x7, x8⟩ := N3.out.nine; have a0 : w3.cell? ⟨w.heap.size + 1 + 1, 0, none⟩ = some (.slice BA va.length ca) := by rw [A3.out.cell]; rfl
 have qa0 : (0 : Int) ≤ (pa : Int) := by omega
 have qa1 : (pa : Int) < (vs.length : Int) := by omega
 have qa2 : (pa : Int) < (L.length : Int) := by omega
 have qb0 : (0 : Int) ≤ (pb : Int) := by omega
 have qb1 : (pb : Int) < (vs.length : Int) := by omega
 have la : va.length ≤ 1048576 := by rw [hfa.1]; have := zCj (noAt L (pa : Int)).s; omega
 have lb : vb.length ≤ 1048576 := by rw [hfb.1]; have := zCj (noAt L (pb : Int)).s; omega
 obtain ⟨g', hgg, hg'', BC, cc, zc, ic, nc0⟩ := zQc H.out.vals hlc
 cases hgg
 rw [hvc] at zc ic; have zc3 := old _ _ _ hg zc; obtain ⟨gb, rfl, hgb, hcb⟩ := ib hposb; have zy := hcb 0 hposb; have eb : vb[0] = (xb : Int) := by rw [← hxb]; unfold hd0; rw [List.getD_eq_getElem?_getD, List.getElem?_eq_getElem hposb]; rfl
 rw [eb] at zy; obtain ⟨gc, rfl, hgc, hcc⟩ := ic hposc; have zw := hcc 0 hposc; have ec : vc[0] = (xc : Int) := by rw [← hxc]; unfold hd0; rw [List.getD_eq_getElem?_getD, List.getElem?_eq_getElem hposc]; rfl
 rw [ec] at zw; have qx0 : (0 : Int) ≤ (xb : Int) := by omega
 have qx1 : (xb : Int) < (va.length : Int) := by omega
 have qb3 : (0 : Int) < (vb.length : Int) := by omega
 have qc0 : (0 : Int) ≤ (pc : Int) := by omega
 have qc1 : (pc : Int) < (vs.length : Int) := by omega
 have qc3 : (0 : Int) < (vc.length : Int) := by omega
 have TA := Kh (zGp BA ca va w3 IA.out la); clear old na0 nb0 nc0 hcl hfa hfb hfc hsa hsb hsc hva hvb hvc hcb hcc hib hib2 hia0 hic hxbb hxbc IA IB
 go_enter Tryz.func125, Tryz.ntmps125
 go_wp2_with (go_at_call 124; refine TA.out.mono ?_; rintro e w4 ⟨A4, c4, rfl, ho, hb4⟩; have HO := Kh ho; have B4 := Kh (B3.out.trans (hb4.mono B3.out.size)); have R4 := Kh (R3.out.below hb4 R3.out.lt); have N4 := Kh (N3.out.below hb4 N3.out.lt); clear ho hb4)
 have BZ := Kh (B4.out.alloc B4.out.size (.cells #[.slice A4 va.length c4] 53)); have RZ := Kh (R4.out.alloc (.cells #[.slice A4 va.length c4] 53)); have NZ := Kh (N4.out.alloc (.cells #[.slice A4 va.length c4] 53)); have CZ : Hid (Blk (w4.alloc (.cells #[.slice A4 va.length c4] 53)) w4.heap.size 53 #[.slice A4 va.length c4]) := Blk.new _ _ _; have OZ := Kh (HO.out.alloc (.cells #[.slice A4 va.length c4] 53)); obtain ⟨wz, hwz⟩ : ∃ z, w4.alloc (.cells #[.slice A4 va.length c4] 53) = z := ⟨_, rfl⟩
 rw [hwz] at BZ RZ NZ CZ OZ ⊢; clear hwz HO R4 N4; obtain ⟨c9, hc9⟩ : ∃ z, w4.heap.size = z := ⟨_, rfl⟩
 rw [hc9] at CZ ⊢; obtain ⟨gq, cq, e1, hge, hlt⟩ := OZ.out.form (by omega)
 injection e1 with e1 _ e2
 subst e1; subst e2; have hgew : w.heap.size ≤ gq := Nat.le_trans B3.out.size hge; have zb9 : wz.cell? ⟨g, pb, none⟩ = some (.slice (some ⟨gb, 0, none⟩) vb.length cb) := (BZ.out.cell (p := ⟨g, pb, none⟩) hg).trans zb; have zc9 : wz.cell? ⟨g, pc, none⟩ = some (.slice (some ⟨gc, 0, none⟩) vc.length cc) := (BZ.out.cell (p := ⟨g, pc, none⟩) hg).trans zc; have zy9 : wz.cell? ⟨gb, 0, none⟩ = some (.int .i64 (xb : Int)) := (BZ.out.cell (p := ⟨gb, 0, none⟩) hgb).trans zy; have zw9 : wz.cell? ⟨gc, 0, none⟩ = some (.int .i64 (xc : Int)) := (BZ.out.cell (p := ⟨gc, 0, none⟩) hgc).trans zw; have c90 : wz.cell? ⟨c9, 0, none⟩ = some (.slice (some ⟨gq, 0, none⟩) va.length c4) := by rw [CZ.out.cell]; rfl
 clear x0 x1 x2 x3 x4 x5 x6 x7 x8; obtain ⟨x0, x1, x2, x3, x4, x5, x6, x7, x8⟩ := NZ.out.nine; have n1 : c9 ≠ gq := fun e => zJg OZ.out CZ.out (by decide) (by rw [e]; rfl)
 have n2 : w.heap.size + 1 ≠ gq := fun e => zJg OZ.out RZ.out (by decide) (by rw [e]; rfl)
 have f0 := OZ.out.frozenAt xb; have f1 := OZ.out.cellAt xb (by omega)
 rw [List.getElem?_map, List.getElem?_eq_getElem hxlen, Option.map_some] at f1
 have O6 := Kh ((OZ.out.stored xb (.int .i64 (xc : Int))).1.drew); have C6 := Kh ((CZ.out.far (p := ⟨gq, xb, none⟩) n1 (.int .i64 (xc : Int))).drew); have R6 := Kh ((RZ.out.far (p := ⟨gq, xb, none⟩) n2 (.int .i64 (xc : Int))).drew); have B6 := Kh ((BZ.out.setCell (p := ⟨gq, xb, none⟩) hgew (.int .i64 (xc : Int))).drew); have rz := RZ.out.cell 0; have r0 := R6.out.cell 0; have r1 := R6.out.frozen 0; have r2 := C6.out.cell 0; simp only [List.getElem?_toArray, List.getElem?_cons_zero] at r0 r2 rz
 go_still_tail 19, (by kernel_rfl)
 go_wp2_with fail
 have u0 := ((RZ.out.far (p := ⟨gq, xb, none⟩) n2 (.int .i64 (xc : Int))).set_ 0 (.slice (some ⟨gq, 0, none⟩) va.length c4)).cell 0; simp at u0
 refine bodyPost_ret (v := .agg #[.slice (some ⟨gq, 0, none⟩) va.length c4]) (by simp [results, Tryz.results125, go_sem, u0]) rfl ⟨some ⟨gq, 0, none⟩, c4, ?_, ?_, (fun h => by cases h), B6.out.setCell (p := ⟨w.heap.size + 1, 0, none⟩) (by show w.heap.size ≤ w.heap.size + 1; omega) _⟩
 · rw [List.length_set]
 · have O7 := zJb O6.out (p := ⟨w.heap.size + 1, 0, none⟩) (fun e => n2 (by injection e with e; exact e.symm)) (.slice (some ⟨gq, 0, none⟩) va.length c4)
   rw [← List.map_set] at O7; have key : ∀ (W : World) (B : Nat), W.ownsRow B 3 1 (.slice (some ⟨gq, 0, none⟩) va.length c4) va.length ((va.set xb (xc : Int)).map (.int .i64)) → IAt W (some ⟨gq, 0, none⟩) (va.set xb (xc : Int)) := fun W B h => IAt.of_own (base := B) (c := c4) (by rw [List.length_set]; exact h)
   exact key _ _ O7
theorem zGq (AL A : Option Addr) (cL cap : Nat) (vs : List (List Int)) (L : List No) (n : No) (w : World) (h : SIn w AL A vs L n) (hk : ¬ (n.k = 34 ∨ n.k = 35 ∨ n.k = 36)) :
 Calls Tryz.prog 125 #[.slice AL L.length cL, .agg #[.int .i64 n.k, .int .i64 n.a, .int .i64 n.b, .int .i64 n.c, .int .i64 n.n, .int .i64 n.m, .int .i64 n.s.i, .int .i64 n.s.w, .string n.t], .slice A vs.length cap] w fun e w' => zAi w (zIm (fun p => (noAt L p).s) (fun p => vs.getD p.toNat []) n) e w' := by
 have hb := h.inn.kind
 by_cases c1 : n.k ≤ 5
 · exact zNj AL A cL cap vs L n w h (by omega)
 by_cases c2 : n.k = 21
 · exact zNb AL A cL cap vs L n w h c2
 by_cases c3 : n.k ≤ 28
 · exact zNk AL A cL cap vs L n w h (by omega)
 by_cases c4 : n.k = 29
 · exact zNc AL A cL cap vs L n w h c4
 by_cases c5 : n.k = 30
 · exact zNd AL A cL cap vs L n w h c5
 by_cases c6 : n.k = 31
 · exact zNe AL A cL cap vs L n w h c6
 by_cases c7 : n.k = 32
 · exact zNf AL A cL cap vs L n w h c7
 by_cases c8 : n.k = 33
 · exact zNg AL A cL cap vs L n w h c8
 by_cases c9 : n.k = 37
 · exact zNh AL A cL cap vs L n w h c9
 exact zNi AL A cL cap vs L n w h (by omega)
structure SFoldAt (w : World) (B gf : Nat) (A : Option Addr) (c : Nat) (L : List No) : Prop where
 blk : Blk w gf 61 #[.slice A L.length c]
 own : w.ownsRow B 42 9 (.slice A L.length c) L.length (zC6 L)
 base : B ≤ gf
theorem SFoldAt.below {w w' : World} {B gf : Nat} {A : Option Addr} {c : Nat} {L : List No} (h : SFoldAt w B gf A c L) (hb : Below w.heap.size w w') : SFoldAt w' B gf A c L :=
 ⟨h.blk.below hb h.blk.lt, zJ9 h.own hb, h.base⟩
theorem zLs (gf : Nat) (A : Option Addr) (c : Nat) (L : List No) (p : Nat) (v : Int) (b : Bool) (w : World) (hb : Blk w gf 61 #[.slice A L.length c]) (hA : zA9 w A L) (hl : L.length ≤ 1048576) (hp : p < L.length) (h : isC L (p : Int) v = b) :
 Calls Tryz.prog 133 #[.pointer (some ⟨gf, 0, none⟩), .int .i64 (p : Int), .int .i64 v] w fun e w' => e = .returned (.bool b) ∧ w = w' := by
 have b0 := hb.cell 0; simp only [List.getElem?_toArray, List.getElem?_cons_zero] at b0
 obtain ⟨g, rfl, hg, hc⟩ := hA (by omega)
 obtain ⟨y0, -, -, -, y4, -, -, -, -⟩ := hc p hp; rw [← zIb hp] at y0 y4; unfold isC at h; have q0 : (0 : Int) ≤ (p : Int) := by omega
 have q1 : (p : Int) < (L.length : Int) := by omega
 generalize noAt L (p : Int) = n at *; have H := Kh h; clear h hc
 by_cases h1 : n.k = 34
 · have d1 : (n.k == 34) = true := by rw [beq_iff_eq]; exact h1
   have HV : Hid ((n.n == v) = b) := Kh (by rw [← H.out, Bool.eq_iff_iff]; simp [h1])
   clear h1
   go_enter Tryz.func133, Tryz.ntmps133
   go_wp2_with fail
   go_ret
   exact ⟨zKu HV.out, rfl⟩
 · have d1 : (n.k == 34) = false := by rw [beq_eq_false_iff_ne]; exact h1
   have HV : Hid (b = false) := Kh (by rw [← H.out]; simp [h1])
   clear h1
   go_enter Tryz.func133, Tryz.ntmps133
   go_wp2_with fail
   go_ret
   exact ⟨zKu HV.out.symm, rfl⟩
def zAe (w : World) (B gf : Nat) (A : Option Addr) (c : Nat) (L L' : List No) (p : Int) (e : Ending) (w' : World) : Prop :=
 ∃ A' c', e = .returned (.int .i64 p) ∧ SFoldAt w' B gf A' c' L' ∧ Below B w w' ∧ zA5 w w' gf (Value.slice A L.length c).ownBlock
theorem SFoldAt.noAt {w : World} {B gf : Nat} {A : Option Addr} {c : Nat} {L : List No} (h : SFoldAt w B gf A c L) : zA9 w A L := fun hp => by
 obtain ⟨g, cap, e1, hge, hlt⟩ := h.own.form hp; injection e1 with e1 _ e2
 subst e1; subst e2
 refine ⟨g, rfl, hlt, fun k hk => ?_⟩
 have key : ∀ j, j < 9 → w.cell? ⟨g, k * 9 + j, none⟩ = (cN L[k])[j]? := fun j hj => by rw [h.own.cellAt (k * 9 + j) (by omega), zC8 hk hj]
 exact ⟨key 0 (by omega), key 1 (by omega), key 2 (by omega), key 3 (by omega), key 4 (by omega), key 5 (by omega), key 6 (by omega), key 7 (by omega), key 8 (by omega)⟩
theorem zOa {w wy w3 : World} {B gf : Nat} {A A' : Option Addr} {c c' : Nat} {L : List No} {n : No} {Y : Obj} (hF : SFoldAt wy B gf A c L) (hgf : gf < w.heap.size) (hX : Below w.heap.size w wy) (hB : B ≤ w.heap.size)
 (ho : w3.ownsRow B 42 9 (.slice A' (L.length + 1) c') (L.length + 1) (zC6 L ++ (cN n).toList)) (hg : (wy.drew.alloc Y).grownBy w3 (Value.slice A L.length c).ownBlock) (hb : Blk w3 gf 61 #[.slice A L.length c]) :
    zAe w B gf A c L (L ++ [n]) (L.length : Int) (.returned (.int .i64 (L.length : Int))) (w3.setCell ⟨gf, 0, none⟩ (.slice A' (L.length + 1) c')) := by
 have hBy : B ≤ wy.heap.size := Nat.le_trans hB hX.size; have hs : (wy.drew.alloc Y).heap.size = wy.heap.size + 1 := by simp
 refine ⟨A', c', rfl, ⟨?_, ?_, hF.base⟩, ?_, ?_⟩
 · have := hb.set_ 0 (.slice A' (L.length + 1) c')
   rw [show (L ++ [n]).length = L.length + 1 by simp]
   simpa using this
 · rw [show (L ++ [n]).length = L.length + 1 by simp, zC7]
   exact zJb ho (p := ⟨gf, 0, none⟩) (zJg ho hb (by decide)) _
 · exact ((((hX.mono hB).drew.alloc hBy Y).grown hg (by rw [hs]; omega) (fun k e => (hF.own.lt k e).1)).setCell (p := ⟨gf, 0, none⟩) hF.base _)
 · intro k hk hne hrow
   have h1 : (w3.setCell ⟨gf, 0, none⟩ (.slice A' (L.length + 1) c')).heap[k]? = w3.heap[k]? := Below.heap_setCell _ _ _ _ hne; have h2 := hg.block k (by rw [hs]; have := hX.size; omega) hrow
   have h3 : (wy.drew.alloc Y).heap[k]? = wy.heap[k]? := Below.heap_alloc wy Y k (by have := hX.size; omega)
   rw [h1, h2, h3, hX.block k hk]
theorem putN_at {L : List No} {n : No} {k : Nat} (hk : k < L.length) (hb : ∀ j (h : j < L.length), j < k → L[j] ≠ n) (he : L[k] = n) : zKm L n = (L, (k : Int)) := by
 have h := zEt hk hb he; unfold zEs at h; have hm : n ∈ L := he ▸ List.getElem_mem hk; rw [if_pos hm] at h; unfold zKm; rw [if_pos hm, h]
theorem zKo {L : List No} {n : No} (hb : ∀ j (h : j < L.length), L[j] ≠ n) : zKm L n = (L ++ [n], (L.length : Int)) := by
 unfold zKm; rw [if_neg (fun h => by obtain ⟨j, hj, e⟩ := List.getElem_of_mem h; exact hb j hj e)]
theorem zM9 (B gf : Nat) (A : Option Addr) (c : Nat) (L : List No) (n : No) (w : World) (h : SFoldAt w B gf A c L) (hl : L.length ≤ 61) :
 Calls Tryz.prog 78 #[.pointer (some ⟨gf, 0, none⟩), .agg (cN n)] w fun e w' => zAe w B gf A c L (zKm L n).1 (zKm L n).2 e w' := by
 have H := Kh h; clear h; obtain ⟨⟨L', p'⟩, hX⟩ : ∃ X, zKm L n = X := ⟨_, rfl⟩
 rw [hX]; have HX := Kh hX; clear hX; dsimp only; have hB : B ≤ w.heap.size := Nat.le_trans H.out.base (Nat.le_of_lt H.out.blk.lt); have B1 := bx w (cN n) 42; have N1 := nx w (cN n) 42; have F1 := Kh (H.out.below B1.out)
 go_enter Tryz.func78, Tryz.ntmps78
 go_wp2_with fail
 obtain ⟨wa, hwa⟩ : ∃ z, w.alloc (.cells (cN n) 42) = z := ⟨_, rfl⟩
 rw [hwa] at B1 N1 F1 ⊢; clear hwa
 go_loopw [5] (fun i wr => ∃ r : Nat, r ≤ L.length ∧ Hid (∀ j (h : j < L.length), j < r → L[j] ≠ n) ∧ Hid (Below w.heap.size w wr) ∧ Hid (SFoldAt wr B gf A c L) ∧ Hid (Blk wr w.heap.size 42 (cN n)) ∧ i = .int .i64 (r : Int)) (fun i _ => L.length - (intOf i).toNat)
 case atStart => exact ⟨0, Nat.zero_le _, fun j h hj => absurd hj (by omega), B1, F1, N1, rfl⟩
 case round =>
  obtain ⟨wy, rfl⟩ : ∃ x : World, x = wr := ⟨_, rfl⟩
  clear B1 F1 N1; obtain ⟨r, hr, HN, BX, FX, NX, rfl⟩ := hrel; have b0 := FX.out.blk.cell 0; have b1 := FX.out.blk.frozen 0; simp only [List.getElem?_toArray, List.getElem?_cons_zero] at b0
  obtain ⟨x0, x1, x2, x3, x4, x5, x6, x7, x8⟩ := NX.out.nine
  by_cases hlt : r < L.length
  case neg =>
   obtain rfl : r = L.length := by omega
   have HP : Hid (L' = L ++ [n] ∧ p' = (L.length : Int)) := Kh (by
    have h1 := HX.out; rw [zKo (fun j h => HN.out j h h)] at h1
    injection h1 with h1 h2
    exact ⟨h1.symm, h2.symm⟩)
   obtain ⟨rfl, rfl⟩ := HP.out; clear HP HX; have eL : IntKind.i64.wrap (((L.length + 1 : Nat) : Int) - 1) = (L.length : Int) := by rw [zRa (by omega) (by omega)]; omega
   have eL2 : IntKind.i64.wrap ((L.length : Int) + 1 - 1) = (L.length : Int) := by rw [zRa (by omega) (by omega)]; omega
   go_wp2_with fail
   obtain ⟨i42, hi, hz0, hz1, hz2⟩ := info_parts zF5
   have HF : Hid (∀ Y w3, (wy.drew.alloc Y).grownBy w3 (Value.slice A L.length c).ownBlock → w3.cell? ⟨gf, 0, none⟩ = some (.slice A L.length c) ∧ w3.frozen? ⟨gf, 0, none⟩ = false ∧ Blk w3 gf 61 #[.slice A L.length c]) := fun Y w3 hg => by
    have hb3 := (FX.out.blk.drew.alloc Y).grown hg (fun e => zJg FX.out.own FX.out.blk (by decide) e.symm)
    exact ⟨by rw [hb3.cell]; rfl, hb3.frozen 0, hb3⟩
   have hBy : B ≤ wy.heap.size := Nat.le_trans hB BX.out.size; have kY : ∀ Y, (wy.alloc Y).cell? ⟨gf, 0, none⟩ = some (.slice A L.length c) := fun Y => by rw [(FX.out.blk.alloc Y).cell]; rfl
   have kZ : ∀ k Y, ((wy.drewN k).alloc Y).cell? ⟨gf, 0, none⟩ = some (.slice A L.length c) := fun k Y => kY Y
   go_region_law (refine zOl rfl (.tmp 29) (.tmp 31) 28 rfl B 42 i42 _ 9 80 Tryz.underlying28 hi hz0 hz1 hz2 rfl (by decide) _ L.length (zC6 L) rfl (by exact FX.out.own.drew.alloc _) (some ⟨wy.heap.size, 0, none⟩) 1 1 (cN n).toList rfl (by exact .inr ⟨_, rfl, Blk.news (Blk.new_at _ 42 (cN n) (by simp))⟩) rfl (zCa n) (by unfold maxLen; omega) (by omega) (by simp; omega) ?_; intro A' c' w3 ho3 hg3 hor3; obtain ⟨c5, f5, b5⟩ := HF.out _ w3 ⟨hg3.os, hg3.tape, hg3.output, hg3.size, hg3.block⟩)
   all_goals
    go_wp2_with fail
    go_ret
    refine zOa (Y := .cells (cN n) 42) FX.out H.out.blk.lt BX.out hB ho3 ⟨hg3.os, hg3.tape, hg3.output, hg3.size, hg3.block⟩ b5
  have hj0 : (0 : Int) ≤ (r : Int) := by omega
  have hj1 : (r : Int) < (L.length : Int) := by omega
  have e1 := wr1 (r := r) (by omega)
  obtain ⟨g, rfl, hg, hc⟩ := FX.out.noAt (by omega)
  obtain ⟨y0, y1, y2, y3, y4, y5, y6, y7, y8⟩ := hc r hlt; clear hc; have HD := Kh (fun k => zB1 BX.out k)
  have HF := Kh (fun k => FX.out.below (zB1 (Below.refl _ wy) k))
  have HNX := Kh (fun k => NX.out.below (zB1 (Below.refl _ wy) k) NX.out.lt)
  obtain ⟨z, hz⟩ : ∃ z, decide (L[r] = n) = z := ⟨_, rfl⟩
  have q : ∀ w, (binOp .eql 42 (.agg (cN L[r])) (.agg (cN n))).run Tryz.prog w = .ok (.bool z) w := fun w => zDn hz w
  simp only [cN] at q; have HZ := Kh hz; clear hz
  cases z with
  | true =>
   have HP : Hid (L' = L ∧ p' = (r : Int)) := Kh (by
    have h1 := HX.out; rw [putN_at hlt HN.out (of_decide_eq_true HZ.out)] at h1; injection h1 with h1 h2
    exact ⟨h1.symm, h2.symm⟩)
   obtain ⟨rfl, rfl⟩ := HP.out; clear HP HX
   go_wp2_with fail
   go_quiet (fail)
   go_wp2_with fail
   go_ret
   exact ⟨_, c, rfl, HF.out _, (HD.out _).mono hB, zA5.of_below (HD.out _) _ _⟩
  | false =>
   have HN2 : Hid (∀ j (h : j < L.length), j < r + 1 → L[j] ≠ n) := Kh (fun j h hj => by
    by_cases e : j = r
    · subst e; exact of_decide_eq_false HZ.out
    · exact HN.out j h (by omega))
   go_wp2_with fail
   go_quiet (fail)
   go_wp2_with fail
   go_roundw
   case rel => exact ⟨r + 1, by omega, HN2, Kh (HD.out _), Kh (HF.out _), Kh (HNX.out _), by go_num⟩
   case measure => simp [intOf]; omega
theorem zLp (B gf : Nat) (A : Option Addr) (c : Nat) (L : List No) (wd v : Int) (w : World) (h : SFoldAt w B gf A c L) (hl : L.length ≤ 61) :
 Calls Tryz.prog 131 #[.pointer (some ⟨gf, 0, none⟩), .int .i64 wd, .int .i64 v] w fun e w' => zAe w B gf A c L (zKm L (zD0 wd v)).1 (zKm L (zD0 wd v)).2 e w' := by
 have H := Kh h; clear h; have hB : B ≤ w.heap.size := Nat.le_trans H.out.base (Nat.le_of_lt H.out.blk.lt); have T := Kh (fun (W : World) (hW : Below w.heap.size w W) => zM9 B gf A c L (zD0 wd v) W (H.out.below hW) hl)
 generalize (zKm L (zD0 wd v)).1 = L' at *; generalize (zKm L (zD0 wd v)).2 = p' at *; simp only [cN, zD0] at T
 go_enter Tryz.func131, Tryz.ntmps131
 go_wp2_with (first | (go_at_call 104; refine (zGo _ _).mono ?_; rintro e w1 ⟨rfl, hb1⟩; have HB1 := Kh hb1; clear hb1) | (go_at_call 78; refine (T.out _ HB1.out).mono ?_; rintro e w2 ⟨A', c', rfl, hf, hb, hh⟩))
 go_ret
 exact ⟨A', c', rfl, hf, (HB1.out.mono hB).trans hb, fun k hk h1 h2 => (hh k (Nat.lt_of_lt_of_le hk HB1.out.size) h1 h2).trans (HB1.out.block k hk)⟩
end Go.Proofs.YtmolbnghobfmoaaGreat
