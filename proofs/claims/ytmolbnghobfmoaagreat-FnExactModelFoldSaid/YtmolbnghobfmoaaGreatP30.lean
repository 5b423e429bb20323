/- Part 30 of what the row Row28 rests on: G20 G21. -/
import Derived.Test.YtmolbnghobfmoaaGreatP22
import Derived.Test.YtmolbnghobfmoaaGreatP29
set_option maxRecDepth 100000
set_option maxHeartbeats 16000000
set_option linter.unusedSimpArgs false
set_option linter.unusedVariables false
namespace Go.Proofs.YtmolbnghobfmoaaGreat
open Go.RowKit
structure SIn (w : World) (AL A : Option Addr) (vs : List (List Int)) (L : List No) (n : No) : Prop where
 row : zA9 w AL L
 vals : VAt w A vs
 few : vs.length ≤ 1048576
 len : L.length ≤ vs.length
 inn : zAa L n
 fa : 0 < zK1 n.k → zDw (noAt L n.a).s (vs.getD n.a.toNat [])
 fb : 1 < zK1 n.k → zDw (noAt L n.b).s (vs.getD n.b.toNat [])
 fc : 2 < zK1 n.k → zDw (noAt L n.c).s (vs.getD n.c.toNat [])
theorem zO9 {w w4 : World} {g r : Nat} {v : Int} {old : Value} (hr : Blk w4 r 53 #[old]) (hg : Blk w4 g 3 #[.int .i64 v]) (hb : Below w.heap.size w w4) (hwr : w.heap.size ≤ r) :
 (w4.setCell ⟨r, 0, none⟩ (.slice (some ⟨g, 0, none⟩) 1 1)).cell? ⟨r, 0, none⟩ = some (.slice (some ⟨g, 0, none⟩) 1 1) ∧
    zAi w [v] (.returned (.agg #[.slice (some ⟨g, 0, none⟩) 1 1])) (w4.setCell ⟨r, 0, none⟩ (.slice (some ⟨g, 0, none⟩) 1 1)) := zQd hr hg hb hwr
theorem zNc (AL A : Option Addr) (cL cap : Nat) (vs : List (List Int)) (L : List No) (n : No) (w : World) (h : SIn w AL A vs L n) (hk : n.k = 29) :
 Calls Tryz.prog 125 #[.slice AL L.length cL, .agg #[.int .i64 n.k, .int .i64 n.a, .int .i64 n.b, .int .i64 n.c, .int .i64 n.n, .int .i64 n.m, .int .i64 n.s.i, .int .i64 n.s.w, .string n.t], .slice A vs.length cap] w fun e w' => zAi w (zIm (fun p => (noAt L p).s) (fun p => vs.getD p.toNat []) n) e w' := by
 have H := Kh h; clear h; obtain ⟨nk, na, nb, nc, nn, nm, ⟨si, sw⟩, nt⟩ := n; obtain rfl : nk = 29 := hk; have HP : Hid (zK1 29 = 2) := Kh (by decide)
 obtain ⟨⟨ha0, ha1⟩, hsa⟩ : (0 ≤ na ∧ na < (L.length : Int)) ∧ sortOk (noAt L na).s := H.out.inn.a (by show 0 < zK1 _; rw [HP.out]; decide)
 have hfa : zDw (noAt L na).s (vs.getD (na).toNat []) := H.out.fa (by show 0 < zK1 _; rw [HP.out]; decide)
 obtain ⟨pa, hpa⟩ : ∃ p : Nat, na = (p : Int) := ⟨na.toNat, by omega⟩
 subst hpa; have hla : pa < vs.length := by have := H.out.len; omega
 have hLa : pa < L.length := by omega
 replace hfa : zDw (noAt L (pa : Int)).s (vs.getD pa []) := hfa
 obtain ⟨va, hva⟩ : ∃ v, vs.getD pa [] = v := ⟨_, rfl⟩
 rw [hva] at hfa; obtain ⟨⟨hb0, hb1⟩, hsb⟩ : (0 ≤ nb ∧ nb < (L.length : Int)) ∧ sortOk (noAt L nb).s := H.out.inn.b (by show 1 < zK1 _; rw [HP.out]; decide)
 have hfb : zDw (noAt L nb).s (vs.getD (nb).toNat []) := H.out.fb (by show 1 < zK1 _; rw [HP.out]; decide)
 obtain ⟨pb, hpb⟩ : ∃ p : Nat, nb = (p : Int) := ⟨nb.toNat, by omega⟩
 subst hpb; have hlb : pb < vs.length := by have := H.out.len; omega
 have hLb : pb < L.length := by omega
 replace hfb : zDw (noAt L (pb : Int)).s (vs.getD pb []) := hfb
 obtain ⟨vb, hvb⟩ : ∃ v, vs.getD pb [] = v := ⟨_, rfl⟩
 rw [hvb] at hfb; obtain ⟨hia, hib, -, -, hab⟩ : (noAt L (pa : Int)).s.i = 0 ∧ (noAt L (pb : Int)).s.i = 0 ∧ si = 0 ∧ sw = (noAt L (pa : Int)).s.w + (noAt L (pb : Int)).s.w ∧ (noAt L (pa : Int)).s.w + (noAt L (pb : Int)).s.w ≤ 16 := H.out.inn.sort29 rfl; obtain ⟨wa, xa, hswa, hxa, hwba, hxba, hposa⟩ := zQq hfa hsa hia; obtain ⟨wb, xb, hswb, hxb, hwbb, hxbb, hposb⟩ := zQq hfb hsb hib
 have E : zIm (fun p => (noAt L p).s) (fun p => vs.getD p.toNat []) ⟨29, (pa : Int), (pb : Int), nc, nn, nm, ⟨si, sw⟩, nt⟩ = [((xa * 2 ^ wb + xb : Nat) : Int)] := by
  have E : zIm (fun p => (noAt L p).s) (fun p => vs.getD p.toNat []) ⟨29, (pa : Int), (pb : Int), nc, nn, nm, ⟨si, sw⟩, nt⟩ = [hd0 (vs.getD pa []) * ((2 ^ (noAt L (pb : Int)).s.w.toNat : Nat) : Int) + hd0 (vs.getD pb [])] := rfl
  rw [E, hva, hvb, hxa, hxb, hswb]; simp
 rw [E]; clear E; rw [hswa, hswb] at hab; have hab' : wa + wb ≤ 16 := by have : (wa : Int) + (wb : Int) ≤ 16 := hab; omega
 have T := Kh (fun W => zMt wa xa wb xb hwba hwbb hxba hxbb hab' W)
 generalize xa * 2 ^ wb + xb = V at *; obtain ⟨g, rfl, hg, BA, ca, za, ia, na0⟩ := zQc H.out.vals hla; rw [hva] at za ia; obtain ⟨ga, rfl, hga, hca⟩ := ia hposa; have xa0 := hca 0 hposa; obtain ⟨g', hgg, hg', BB, cb, zb, ib, nb0⟩ := zQc H.out.vals hlb
 cases hgg
 rw [hvb] at zb ib; obtain ⟨gb, rfl, hgb, hcb⟩ := ib hposb; have xb0 := hcb 0 hposb; obtain ⟨gl, rfl, hgl, hcl⟩ := H.out.row (by omega)
 have ya := (hcl pa hLa).2.2.2.2.2.2.2.1; rw [← zIb hLa, hswa] at ya; have yb := (hcl pb hLb).2.2.2.2.2.2.2.1; rw [← zIb hLb, hswb] at yb; have ea : va[0] = (xa : Int) := by rw [← hxa]; unfold hd0; rw [List.getD_eq_getElem?_getD, List.getElem?_eq_getElem hposa]; rfl
 rw [ea] at xa0; have eb : vb[0] = (xb : Int) := by rw [← hxb]; unfold hd0; rw [List.getD_eq_getElem?_getD, List.getElem?_eq_getElem hposb]; rfl
 rw [eb] at xb0; obtain ⟨w3, hw3⟩ : ∃ x, ((w.alloc (.cells #[.int .i64 29, .int .i64 (pa : Int), .int .i64 (pb : Int), .int .i64 nc, .int .i64 nn, .int .i64 nm, .int .i64 si, .int .i64 sw, .string nt] 42)).alloc (.cells #[.slice none 0 0] 53)).alloc (.cells #[.slice (some ⟨ga, 0, none⟩) va.length ca] 53) = x := ⟨_, rfl⟩
 have B3 : Hid (Below w.heap.size w w3) := Kh (by rw [← hw3]; exact (((Below.refl _ _).alloc (Nat.le_refl _) _).alloc (by simp) _).alloc (by simp; omega) _)
 have N3 : Hid (Blk w3 w.heap.size 42 #[.int .i64 29, .int .i64 (pa : Int), .int .i64 (pb : Int), .int .i64 nc, .int .i64 nn, .int .i64 nm, .int .i64 si, .int .i64 sw, .string nt]) := Kh (by rw [← hw3]; exact ((Blk.new _ _ _).alloc _).alloc _)
 have R3 : Hid (Blk w3 (w.heap.size + 1) 53 #[.slice none 0 0]) := Kh (by rw [← hw3]; exact (Blk.new_at _ _ _ (by simp)).alloc _)
 have A3 : Hid (Blk w3 (w.heap.size + 1 + 1) 53 #[.slice (some ⟨ga, 0, none⟩) va.length ca]) := Kh (by rw [← hw3]; exact Blk.new_at _ _ _ (by simp))
 have HW3 := Kh hw3; have old : ∀ (b j : Nat) (v : Value), b < w.heap.size → w.cell? ⟨b, j, none⟩ = some v → w3.cell? ⟨b, j, none⟩ = some v := fun b j v hb hc => (B3.out.cell (p := ⟨b, j, none⟩) hb).trans hc
 have za3 := old _ _ _ hg za; have xa3 := old _ _ _ hga xa0; have ya3 := old _ _ _ hgl ya; have zb3 := old _ _ _ hg zb; have xb3 := old _ _ _ hgb xb0; have yb3 := old _ _ _ hgl yb; obtain ⟨x0, x1, x2, x3, x4, x5, x6, x7, x8⟩ := N3.out.nine; have a0 : w3.cell? ⟨w.heap.size + 1 + 1, 0, none⟩ = some (.slice (some ⟨ga, 0, none⟩) va.length ca) := by rw [A3.out.cell]; rfl
 have qa0 : (0 : Int) ≤ (pa : Int) := by omega
 have qa1 : (pa : Int) < (vs.length : Int) := by omega
 have qa2 : (pa : Int) < (L.length : Int) := by omega
 have qa3 : (0 : Int) < (va.length : Int) := by omega
 have qb0 : (0 : Int) ≤ (pb : Int) := by omega
 have qb1 : (pb : Int) < (vs.length : Int) := by omega
 have qb2 : (pb : Int) < (L.length : Int) := by omega
 have qb3 : (0 : Int) < (vb.length : Int) := by omega
 clear old; clear hab hab' hxba hxbb
 go_enter Tryz.func125, Tryz.ntmps125
 go_wp2_with fail
 try rw [HW3.out]
 go_quiet ((go_at_call 163; exact zKt (T.out _)))
 have BD := Kh (fun m => zB1 B3.out m)
 have RD := Kh (fun m => R3.out.below (zB1 (Below.refl _ w3) m) R3.out.lt)
 go_wp2_with (go_at_call 123; refine (zGr _ _).mono ?_; rintro e w4 ⟨gr, rfl, hgr, hbg, hb4⟩; have B4 := Kh ((BD.out _).trans (hb4.mono (BD.out _).size)); have R4 := Kh ((RD.out _).below hb4 (RD.out _).lt); have G4 := Kh hbg; clear hbg hb4 hgr; have f0 := R4.out.frozen 0; have r0 : w4.cell? ⟨w.heap.size + 1, 0, none⟩ = some (.slice none 0 0) := (by rw [R4.out.cell]; rfl))
 obtain ⟨c5, V5⟩ := zO9 (w := w) R4.out G4.out B4.out (Nat.le_succ _)
 exact bodyPost_ret (v := .agg #[.slice (some ⟨gr, 0, none⟩) 1 1]) (by simp [results, Tryz.results125, go_sem, c5]) rfl V5
theorem zNd (AL A : Option Addr) (cL cap : Nat) (vs : List (List Int)) (L : List No) (n : No) (w : World) (h : SIn w AL A vs L n) (hk : n.k = 30) :
 Calls Tryz.prog 125 #[.slice AL L.length cL, .agg #[.int .i64 n.k, .int .i64 n.a, .int .i64 n.b, .int .i64 n.c, .int .i64 n.n, .int .i64 n.m, .int .i64 n.s.i, .int .i64 n.s.w, .string n.t], .slice A vs.length cap] w fun e w' => zAi w (zIm (fun p => (noAt L p).s) (fun p => vs.getD p.toNat []) n) e w' := by
 have H := Kh h; clear h; obtain ⟨nk, na, nb, nc, nn, nm, ⟨si, sw⟩, nt⟩ := n; obtain rfl : nk = 30 := hk; have HP : Hid (zK1 30 = 1) := Kh (by decide)
 obtain ⟨⟨ha0, ha1⟩, hsa⟩ : (0 ≤ na ∧ na < (L.length : Int)) ∧ sortOk (noAt L na).s := H.out.inn.a (by show 0 < zK1 _; rw [HP.out]; decide)
 have hfa : zDw (noAt L na).s (vs.getD (na).toNat []) := H.out.fa (by show 0 < zK1 _; rw [HP.out]; decide)
 obtain ⟨pa, hpa⟩ : ∃ p : Nat, na = (p : Int) := ⟨na.toNat, by omega⟩
 subst hpa; have hla : pa < vs.length := by have := H.out.len; omega
 have hLa : pa < L.length := by omega
 replace hfa : zDw (noAt L (pa : Int)).s (vs.getD pa []) := hfa
 obtain ⟨va, hva⟩ : ∃ v, vs.getD pa [] = v := ⟨_, rfl⟩
 rw [hva] at hfa
 obtain ⟨hia, -, -, h30, -⟩ : (noAt L (pa : Int)).s.i = 0 ∧ si = 0 ∧ sw = (if (30 : Int) ≤ 2 then (noAt L (pa : Int)).s.w else if (30 : Int) ≤ 5 then 1 else if (30 : Int) = 30 then nn - nm + 1 else (noAt L (pa : Int)).s.w + nn) ∧
     ((30 : Int) = 30 → (0 ≤ nn ∧ nn ≤ (noAt L (pa : Int)).s.w - 1) ∧ 0 ≤ nm ∧ nm ≤ nn) ∧ ((30 : Int) = 31 ∨ (30 : Int) = 32 → 0 ≤ nn ∧ nn ≤ 16 - (noAt L (pa : Int)).s.w) := H.out.inn.sort1 (.inr (by show (30 : Int) ≤ 30 ∧ (30 : Int) ≤ 32; decide))
 obtain ⟨wa, xa, hswa, hxa, hwba, hxba, hposa⟩ := zQq hfa hsa hia; replace h30 := h30 rfl
 rw [hswa] at h30; dsimp only at h30; obtain ⟨m, rfl⟩ : ∃ m : Nat, nm = (m : Int) := ⟨nm.toNat, by omega⟩
 obtain ⟨q, rfl⟩ : ∃ q : Nat, nn = (q : Int) := ⟨nn.toNat, by omega⟩
 have T := Kh (fun W => zMz wa xa q m hwba hxba (by omega) (by omega) W)
 have E : zIm (fun p => (noAt L p).s) (fun p => vs.getD p.toNat []) ⟨30, (pa : Int), nb, nc, (q : Int), (m : Int), ⟨si, sw⟩, nt⟩ = [hd0 (vs.getD pa []) / ((2 ^ m : Nat) : Int) % ((2 ^ ((q : Int) - (m : Int) + 1).toNat : Nat) : Int)] := rfl
 rw [E, hva, hxa, show ((q : Int) - (m : Int) + 1).toNat = q - m + 1 by omega, show (xa : Int) / ((2 ^ m : Nat) : Int) % ((2 ^ (q - m + 1) : Nat) : Int) = ((xa / 2 ^ m % 2 ^ (q - m + 1) : Nat) : Int) from rfl]
 clear E; generalize xa / 2 ^ m % 2 ^ (q - m + 1) = V at *; obtain ⟨g, rfl, hg, BA, ca, za, ia, na0⟩ := zQc H.out.vals hla; rw [hva] at za ia; obtain ⟨ga, rfl, hga, hca⟩ := ia hposa; have xa0 := hca 0 hposa; obtain ⟨gl, rfl, hgl, hcl⟩ := H.out.row (by omega)
 have ya := (hcl pa hLa).2.2.2.2.2.2.2.1; rw [← zIb hLa, hswa] at ya; have ea : va[0] = (xa : Int) := by rw [← hxa]; unfold hd0; rw [List.getD_eq_getElem?_getD, List.getElem?_eq_getElem hposa]; rfl
 rw [ea] at xa0; obtain ⟨w3, hw3⟩ : ∃ x, ((w.alloc (.cells #[.int .i64 30, .int .i64 (pa : Int), .int .i64 nb, .int .i64 nc, .int .i64 (q : Int), .int .i64 (m : Int), .int .i64 si, .int .i64 sw, .string nt] 42)).alloc (.cells #[.slice none 0 0] 53)).alloc (.cells #[.slice (some ⟨ga, 0, none⟩) va.length ca] 53) = x := ⟨_, rfl⟩
 have B3 : Hid (Below w.heap.size w w3) := Kh (by rw [← hw3]; exact (((Below.refl _ _).alloc (Nat.le_refl _) _).alloc (by simp) _).alloc (by simp; omega) _)
 have N3 : Hid (Blk w3 w.heap.size 42 #[.int .i64 30, .int .i64 (pa : Int), .int .i64 nb, .int .i64 nc, .int .i64 (q : Int), .int .i64 (m : Int), .int .i64 si, .int .i64 sw, .string nt]) := Kh (by rw [← hw3]; exact ((Blk.new _ _ _).alloc _).alloc _)
 have R3 : Hid (Blk w3 (w.heap.size + 1) 53 #[.slice none 0 0]) := Kh (by rw [← hw3]; exact (Blk.new_at _ _ _ (by simp)).alloc _)
 have A3 : Hid (Blk w3 (w.heap.size + 1 + 1) 53 #[.slice (some ⟨ga, 0, none⟩) va.length ca]) := Kh (by rw [← hw3]; exact Blk.new_at _ _ _ (by simp))
 have HW3 := Kh hw3; have old : ∀ (b j : Nat) (v : Value), b < w.heap.size → w.cell? ⟨b, j, none⟩ = some v → w3.cell? ⟨b, j, none⟩ = some v := fun b j v hb hc => (B3.out.cell (p := ⟨b, j, none⟩) hb).trans hc
 have za3 := old _ _ _ hg za; have xa3 := old _ _ _ hga xa0; have ya3 := old _ _ _ hgl ya; obtain ⟨x0, x1, x2, x3, x4, x5, x6, x7, x8⟩ := N3.out.nine; have a0 : w3.cell? ⟨w.heap.size + 1 + 1, 0, none⟩ = some (.slice (some ⟨ga, 0, none⟩) va.length ca) := by rw [A3.out.cell]; rfl
 have qa0 : (0 : Int) ≤ (pa : Int) := by omega
 have qa1 : (pa : Int) < (vs.length : Int) := by omega
 have qa2 : (pa : Int) < (L.length : Int) := by omega
 have qa3 : (0 : Int) < (va.length : Int) := by omega
 clear old; clear hxba
 go_enter Tryz.func125, Tryz.ntmps125
 go_wp2_with fail
 try rw [HW3.out]
 go_quiet ((go_at_call 164; exact zKt (T.out _)))
 have BD := Kh (fun m => zB1 B3.out m)
 have RD := Kh (fun m => R3.out.below (zB1 (Below.refl _ w3) m) R3.out.lt)
 go_wp2_with (go_at_call 123; refine (zGr _ _).mono ?_; rintro e w4 ⟨gr, rfl, hgr, hbg, hb4⟩; have B4 := Kh ((BD.out _).trans (hb4.mono (BD.out _).size)); have R4 := Kh ((RD.out _).below hb4 (RD.out _).lt); have G4 := Kh hbg; clear hbg hb4 hgr; have f0 := R4.out.frozen 0; have r0 : w4.cell? ⟨w.heap.size + 1, 0, none⟩ = some (.slice none 0 0) := (by rw [R4.out.cell]; rfl))
 obtain ⟨c5, V5⟩ := zO9 (w := w) R4.out G4.out B4.out (Nat.le_succ _)
 exact bodyPost_ret (v := .agg #[.slice (some ⟨gr, 0, none⟩) 1 1]) (by simp [results, Tryz.results125, go_sem, c5]) rfl V5
theorem zNe (AL A : Option Addr) (cL cap : Nat) (vs : List (List Int)) (L : List No) (n : No) (w : World) (h : SIn w AL A vs L n) (hk : n.k = 31) :
 Calls Tryz.prog 125 #[.slice AL L.length cL, .agg #[.int .i64 n.k, .int .i64 n.a, .int .i64 n.b, .int .i64 n.c, .int .i64 n.n, .int .i64 n.m, .int .i64 n.s.i, .int .i64 n.s.w, .string n.t], .slice A vs.length cap] w fun e w' => zAi w (zIm (fun p => (noAt L p).s) (fun p => vs.getD p.toNat []) n) e w' := by
 have H := Kh h; clear h; obtain ⟨nk, na, nb, nc, nn, nm, ⟨si, sw⟩, nt⟩ := n; obtain rfl : nk = 31 := hk; have HP : Hid (zK1 31 = 1) := Kh (by decide)
 obtain ⟨⟨ha0, ha1⟩, hsa⟩ : (0 ≤ na ∧ na < (L.length : Int)) ∧ sortOk (noAt L na).s := H.out.inn.a (by show 0 < zK1 _; rw [HP.out]; decide)
 have hfa : zDw (noAt L na).s (vs.getD (na).toNat []) := H.out.fa (by show 0 < zK1 _; rw [HP.out]; decide)
 obtain ⟨pa, hpa⟩ : ∃ p : Nat, na = (p : Int) := ⟨na.toNat, by omega⟩
 subst hpa; have hla : pa < vs.length := by have := H.out.len; omega
 have hLa : pa < L.length := by omega
 replace hfa : zDw (noAt L (pa : Int)).s (vs.getD pa []) := hfa
 obtain ⟨va, hva⟩ : ∃ v, vs.getD pa [] = v := ⟨_, rfl⟩
 rw [hva] at hfa
 obtain ⟨hia, -, -, -, h31⟩ : (noAt L (pa : Int)).s.i = 0 ∧ si = 0 ∧ sw = (if (31 : Int) ≤ 2 then (noAt L (pa : Int)).s.w else if (31 : Int) ≤ 5 then 1 else if (31 : Int) = 30 then nn - nm + 1 else (noAt L (pa : Int)).s.w + nn) ∧
     ((31 : Int) = 30 → (0 ≤ nn ∧ nn ≤ (noAt L (pa : Int)).s.w - 1) ∧ 0 ≤ nm ∧ nm ≤ nn) ∧ ((31 : Int) = 31 ∨ (31 : Int) = 32 → 0 ≤ nn ∧ nn ≤ 16 - (noAt L (pa : Int)).s.w) := H.out.inn.sort1 (.inr (by show (30 : Int) ≤ 31 ∧ (31 : Int) ≤ 32; decide))
 obtain ⟨wa, xa, hswa, hxa, hwba, hxba, hposa⟩ := zQq hfa hsa hia; replace h31 := h31 (by decide)
 rw [hswa] at h31; dsimp only at h31; obtain ⟨q, rfl⟩ : ∃ q : Nat, nn = (q : Int) := ⟨nn.toNat, by omega⟩
 have T := Kh (fun W => zMr wa xa q false hwba hxba (by omega) W)
 have E : zIm (fun p => (noAt L p).s) (fun p => vs.getD p.toNat []) ⟨31, (pa : Int), nb, nc, (q : Int), nm, ⟨si, sw⟩, nt⟩ = [((zEe (noAt L (pa : Int)).s.w.toNat (hd0 (vs.getD pa [])).toNat q false : Nat) : Int)] := rfl
 rw [E, hva, hxa, hswa]; clear E; rw [show zEe ((wa : Nat) : Int).toNat ((xa : Nat) : Int).toNat q false = zEe wa xa q false from rfl]
 generalize zEe wa xa q false = V at *; obtain ⟨g, rfl, hg, BA, ca, za, ia, na0⟩ := zQc H.out.vals hla; rw [hva] at za ia; obtain ⟨ga, rfl, hga, hca⟩ := ia hposa; have xa0 := hca 0 hposa; obtain ⟨gl, rfl, hgl, hcl⟩ := H.out.row (by omega)
 have ya := (hcl pa hLa).2.2.2.2.2.2.2.1; rw [← zIb hLa, hswa] at ya; have ea : va[0] = (xa : Int) := by rw [← hxa]; unfold hd0; rw [List.getD_eq_getElem?_getD, List.getElem?_eq_getElem hposa]; rfl
 rw [ea] at xa0; obtain ⟨w3, hw3⟩ : ∃ x, ((w.alloc (.cells #[.int .i64 31, .int .i64 (pa : Int), .int .i64 nb, .int .i64 nc, .int .i64 (q : Int), .int .i64 nm, .int .i64 si, .int .i64 sw, .string nt] 42)).alloc (.cells #[.slice none 0 0] 53)).alloc (.cells #[.slice (some ⟨ga, 0, none⟩) va.length ca] 53) = x := ⟨_, rfl⟩
 have B3 : Hid (Below w.heap.size w w3) := Kh (by rw [← hw3]; exact (((Below.refl _ _).alloc (Nat.le_refl _) _).alloc (by simp) _).alloc (by simp; omega) _)
 have N3 : Hid (Blk w3 w.heap.size 42 #[.int .i64 31, .int .i64 (pa : Int), .int .i64 nb, .int .i64 nc, .int .i64 (q : Int), .int .i64 nm, .int .i64 si, .int .i64 sw, .string nt]) := Kh (by rw [← hw3]; exact ((Blk.new _ _ _).alloc _).alloc _)
 have R3 : Hid (Blk w3 (w.heap.size + 1) 53 #[.slice none 0 0]) := Kh (by rw [← hw3]; exact (Blk.new_at _ _ _ (by simp)).alloc _)
 have A3 : Hid (Blk w3 (w.heap.size + 1 + 1) 53 #[.slice (some ⟨ga, 0, none⟩) va.length ca]) := Kh (by rw [← hw3]; exact Blk.new_at _ _ _ (by simp))
 have HW3 := Kh hw3; have old : ∀ (b j : Nat) (v : Value), b < w.heap.size → w.cell? ⟨b, j, none⟩ = some v → w3.cell? ⟨b, j, none⟩ = some v := fun b j v hb hc => (B3.out.cell (p := ⟨b, j, none⟩) hb).trans hc
 have za3 := old _ _ _ hg za; have xa3 := old _ _ _ hga xa0; have ya3 := old _ _ _ hgl ya; obtain ⟨x0, x1, x2, x3, x4, x5, x6, x7, x8⟩ := N3.out.nine; have a0 : w3.cell? ⟨w.heap.size + 1 + 1, 0, none⟩ = some (.slice (some ⟨ga, 0, none⟩) va.length ca) := by rw [A3.out.cell]; rfl
 have qa0 : (0 : Int) ≤ (pa : Int) := by omega
 have qa1 : (pa : Int) < (vs.length : Int) := by omega
 have qa2 : (pa : Int) < (L.length : Int) := by omega
 have qa3 : (0 : Int) < (va.length : Int) := by omega
 clear old; clear hxba
 go_enter Tryz.func125, Tryz.ntmps125
 go_wp2_with fail
 try rw [HW3.out]
 go_quiet ((go_at_call 165; exact zKt (T.out _)))
 have BD := Kh (fun m => zB1 B3.out m)
 have RD := Kh (fun m => R3.out.below (zB1 (Below.refl _ w3) m) R3.out.lt)
 go_wp2_with (go_at_call 123; refine (zGr _ _).mono ?_; rintro e w4 ⟨gr, rfl, hgr, hbg, hb4⟩; have B4 := Kh ((BD.out _).trans (hb4.mono (BD.out _).size)); have R4 := Kh ((RD.out _).below hb4 (RD.out _).lt); have G4 := Kh hbg; clear hbg hb4 hgr; have f0 := R4.out.frozen 0; have r0 : w4.cell? ⟨w.heap.size + 1, 0, none⟩ = some (.slice none 0 0) := (by rw [R4.out.cell]; rfl))
 obtain ⟨c5, V5⟩ := zO9 (w := w) R4.out G4.out B4.out (Nat.le_succ _)
 exact bodyPost_ret (v := .agg #[.slice (some ⟨gr, 0, none⟩) 1 1]) (by simp [results, Tryz.results125, go_sem, c5]) rfl V5
theorem zNf (AL A : Option Addr) (cL cap : Nat) (vs : List (List Int)) (L : List No) (n : No) (w : World) (h : SIn w AL A vs L n) (hk : n.k = 32) :
 Calls Tryz.prog 125 #[.slice AL L.length cL, .agg #[.int .i64 n.k, .int .i64 n.a, .int .i64 n.b, .int .i64 n.c, .int .i64 n.n, .int .i64 n.m, .int .i64 n.s.i, .int .i64 n.s.w, .string n.t], .slice A vs.length cap] w fun e w' => zAi w (zIm (fun p => (noAt L p).s) (fun p => vs.getD p.toNat []) n) e w' := by
 have H := Kh h; clear h; obtain ⟨nk, na, nb, nc, nn, nm, ⟨si, sw⟩, nt⟩ := n; obtain rfl : nk = 32 := hk; have HP : Hid (zK1 32 = 1) := Kh (by decide)
 obtain ⟨⟨ha0, ha1⟩, hsa⟩ : (0 ≤ na ∧ na < (L.length : Int)) ∧ sortOk (noAt L na).s := H.out.inn.a (by show 0 < zK1 _; rw [HP.out]; decide)
 have hfa : zDw (noAt L na).s (vs.getD (na).toNat []) := H.out.fa (by show 0 < zK1 _; rw [HP.out]; decide)
 obtain ⟨pa, hpa⟩ : ∃ p : Nat, na = (p : Int) := ⟨na.toNat, by omega⟩
 subst hpa; have hla : pa < vs.length := by have := H.out.len; omega
 have hLa : pa < L.length := by omega
 replace hfa : zDw (noAt L (pa : Int)).s (vs.getD pa []) := hfa
 obtain ⟨va, hva⟩ : ∃ v, vs.getD pa [] = v := ⟨_, rfl⟩
 rw [hva] at hfa
 obtain ⟨hia, -, -, -, h31⟩ : (noAt L (pa : Int)).s.i = 0 ∧ si = 0 ∧ sw = (if (32 : Int) ≤ 2 then (noAt L (pa : Int)).s.w else if (32 : Int) ≤ 5 then 1 else if (32 : Int) = 30 then nn - nm + 1 else (noAt L (pa : Int)).s.w + nn) ∧
     ((32 : Int) = 30 → (0 ≤ nn ∧ nn ≤ (noAt L (pa : Int)).s.w - 1) ∧ 0 ≤ nm ∧ nm ≤ nn) ∧ ((32 : Int) = 31 ∨ (32 : Int) = 32 → 0 ≤ nn ∧ nn ≤ 16 - (noAt L (pa : Int)).s.w) := H.out.inn.sort1 (.inr (by show (30 : Int) ≤ 32 ∧ (32 : Int) ≤ 32; decide))
 obtain ⟨wa, xa, hswa, hxa, hwba, hxba, hposa⟩ := zQq hfa hsa hia; replace h31 := h31 (by decide)
 rw [hswa] at h31; dsimp only at h31; obtain ⟨q, rfl⟩ : ∃ q : Nat, nn = (q : Int) := ⟨nn.toNat, by omega⟩
 have T := Kh (fun W => zMr wa xa q true hwba hxba (by omega) W)
 have E : zIm (fun p => (noAt L p).s) (fun p => vs.getD p.toNat []) ⟨32, (pa : Int), nb, nc, (q : Int), nm, ⟨si, sw⟩, nt⟩ = [((zEe (noAt L (pa : Int)).s.w.toNat (hd0 (vs.getD pa [])).toNat q true : Nat) : Int)] := rfl
 rw [E, hva, hxa, hswa]; clear E; rw [show zEe ((wa : Nat) : Int).toNat ((xa : Nat) : Int).toNat q true = zEe wa xa q true from rfl]
 generalize zEe wa xa q true = V at *; obtain ⟨g, rfl, hg, BA, ca, za, ia, na0⟩ := zQc H.out.vals hla; rw [hva] at za ia; obtain ⟨ga, rfl, hga, hca⟩ := ia hposa; have xa0 := hca 0 hposa; obtain ⟨gl, rfl, hgl, hcl⟩ := H.out.row (by omega)
 have ya := (hcl pa hLa).2.2.2.2.2.2.2.1; rw [← zIb hLa, hswa] at ya; have ea : va[0] = (xa : Int) := by rw [← hxa]; unfold hd0; rw [List.getD_eq_getElem?_getD, List.getElem?_eq_getElem hposa]; rfl
 rw [ea] at xa0; obtain ⟨w3, hw3⟩ : ∃ x, ((w.alloc (.cells #[.int .i64 32, .int .i64 (pa : Int), .int .i64 nb, .int .i64 nc, .int .i64 (q : Int), .int .i64 nm, .int .i64 si, .int .i64 sw, .string nt] 42)).alloc (.cells #[.slice none 0 0] 53)).alloc (.cells #[.slice (some ⟨ga, 0, none⟩) va.length ca] 53) = x := ⟨_, rfl⟩
 have B3 : Hid (Below w.heap.size w w3) := Kh (by rw [← hw3]; exact (((Below.refl _ _).alloc (Nat.le_refl _) _).alloc (by simp) _).alloc (by simp; omega) _)
 have N3 : Hid (Blk w3 w.heap.size 42 #[.int .i64 32, .int .i64 (pa : Int), .int .i64 nb, .int .i64 nc, .int .i64 (q : Int), .int .i64 nm, .int .i64 si, .int .i64 sw, .string nt]) := Kh (by rw [← hw3]; exact ((Blk.new _ _ _).alloc _).alloc _)
 have R3 : Hid (Blk w3 (w.heap.size + 1) 53 #[.slice none 0 0]) := Kh (by rw [← hw3]; exact (Blk.new_at _ _ _ (by simp)).alloc _)
 have A3 : Hid (Blk w3 (w.heap.size + 1 + 1) 53 #[.slice (some ⟨ga, 0, none⟩) va.length ca]) := Kh (by rw [← hw3]; exact Blk.new_at _ _ _ (by simp))
 have HW3 := Kh hw3; have old : ∀ (b j : Nat) (v : Value), b < w.heap.size → w.cell? ⟨b, j, none⟩ = some v → w3.cell? ⟨b, j, none⟩ = some v := fun b j v hb hc => (B3.out.cell (p := ⟨b, j, none⟩) hb).trans hc
 have za3 := old _ _ _ hg za; have xa3 := old _ _ _ hga xa0; have ya3 := old _ _ _ hgl ya; obtain ⟨x0, x1, x2, x3, x4, x5, x6, x7, x8⟩ := N3.out.nine; have a0 : w3.cell? ⟨w.heap.size + 1 + 1, 0, none⟩ = some (.slice (some ⟨ga, 0, none⟩) va.length ca) := by rw [A3.out.cell]; rfl
 have qa0 : (0 : Int) ≤ (pa : Int) := by omega
 have qa1 : (pa : Int) < (vs.length : Int) := by omega
 have qa2 : (pa : Int) < (L.length : Int) := by omega
 have qa3 : (0 : Int) < (va.length : Int) := by omega
 clear old; clear hxba
 go_enter Tryz.func125, Tryz.ntmps125
 go_wp2_with fail
 try rw [HW3.out]
 go_quiet ((go_at_call 165; exact zKt (T.out _)))
 have BD := Kh (fun m => zB1 B3.out m)
 have RD := Kh (fun m => R3.out.below (zB1 (Below.refl _ w3) m) R3.out.lt)
 go_wp2_with (go_at_call 123; refine (zGr _ _).mono ?_; rintro e w4 ⟨gr, rfl, hgr, hbg, hb4⟩; have B4 := Kh ((BD.out _).trans (hb4.mono (BD.out _).size)); have R4 := Kh ((RD.out _).below hb4 (RD.out _).lt); have G4 := Kh hbg; clear hbg hb4 hgr; have f0 := R4.out.frozen 0; have r0 : w4.cell? ⟨w.heap.size + 1, 0, none⟩ = some (.slice none 0 0) := (by rw [R4.out.cell]; rfl))
 obtain ⟨c5, V5⟩ := zO9 (w := w) R4.out G4.out B4.out (Nat.le_succ _)
 exact bodyPost_ret (v := .agg #[.slice (some ⟨gr, 0, none⟩) 1 1]) (by simp [results, Tryz.results125, go_sem, c5]) rfl V5
theorem zNj (AL A : Option Addr) (cL cap : Nat) (vs : List (List Int)) (L : List No) (n : No) (w : World) (h : SIn w AL A vs L n) (hk : 1 ≤ n.k ∧ n.k ≤ 5) :
 Calls Tryz.prog 125 #[.slice AL L.length cL, .agg #[.int .i64 n.k, .int .i64 n.a, .int .i64 n.b, .int .i64 n.c, .int .i64 n.n, .int .i64 n.m, .int .i64 n.s.i, .int .i64 n.s.w, .string n.t], .slice A vs.length cap] w fun e w' => zAi w (zIm (fun p => (noAt L p).s) (fun p => vs.getD p.toNat []) n) e w' := by
 have H := Kh h; clear h; obtain ⟨nk, na, nb, nc, nn, nm, ⟨si, sw⟩, nt⟩ := n; have hk : 1 ≤ nk ∧ nk ≤ 5 := hk; obtain ⟨k, rfl⟩ : ∃ k : Nat, nk = (k : Int) := ⟨nk.toNat, by omega⟩
 have hk' : 1 ≤ k ∧ k ≤ 5 := by omega
 have HP : Hid (zK1 (k : Int) = 1) := Kh (zJy (.inl (by omega)))
 obtain ⟨⟨ha0, ha1⟩, hsa⟩ : (0 ≤ na ∧ na < (L.length : Int)) ∧ sortOk (noAt L na).s := H.out.inn.a (by show 0 < zK1 _; rw [HP.out]; decide)
 have hfa : zDw (noAt L na).s (vs.getD (na).toNat []) := H.out.fa (by show 0 < zK1 _; rw [HP.out]; decide)
 obtain ⟨pa, hpa⟩ : ∃ p : Nat, na = (p : Int) := ⟨na.toNat, by omega⟩
 subst hpa; have hla : pa < vs.length := by have := H.out.len; omega
 have hLa : pa < L.length := by omega
 replace hfa : zDw (noAt L (pa : Int)).s (vs.getD pa []) := hfa
 obtain ⟨va, hva⟩ : ∃ v, vs.getD pa [] = v := ⟨_, rfl⟩
 rw [hva] at hfa; have hia : (noAt L (pa : Int)).s.i = 0 := (H.out.inn.sort1 (.inl (by exact hk))).1
 obtain ⟨wa, xa, hswa, hxa, hwba, hxba, hposa⟩ := zQq hfa hsa hia; have T := Kh (fun W => zMw k wa xa hk' hwba hxba W)
 have PT := Kh (fun W => zG8 (k : Int) W)
 rw [HP.out] at PT
 have E : zIm (fun p => (noAt L p).s) (fun p => vs.getD p.toNat []) ⟨(k : Int), (pa : Int), nb, nc, nn, nm, ⟨si, sw⟩, nt⟩ = [((zIx k (noAt L (pa : Int)).s.w.toNat (hd0 (vs.getD pa [])).toNat : Nat) : Int)] := by
  unfold zIm; dsimp only; rw [if_neg (by omega), if_neg (by omega), if_neg (by omega), if_neg (by omega), if_neg (by omega), if_neg (by omega), if_neg (by omega), if_neg (by omega), if_pos (by omega)]
  rfl
 rw [E, hva, hxa, hswa]; clear E; rw [show zIx k ((wa : Nat) : Int).toNat ((xa : Nat) : Int).toNat = zIx k wa xa from rfl]
 generalize zIx k wa xa = V at *; have d33 : ((k : Int) == 33) = false := by simp only [beq_eq_false_iff_ne]; omega
 have d37 : ((k : Int) == 37) = false := by simp only [beq_eq_false_iff_ne]; omega
 have d38 : ((k : Int) == 38) = false := by simp only [beq_eq_false_iff_ne]; omega
 have d21 : ((k : Int) == 21) = false := by simp only [beq_eq_false_iff_ne]; omega
 have d29 : ((k : Int) == 29) = false := by simp only [beq_eq_false_iff_ne]; omega
 have d30 : ((k : Int) == 30) = false := by simp only [beq_eq_false_iff_ne]; omega
 have d31 : ((k : Int) == 31) = false := by simp only [beq_eq_false_iff_ne]; omega
 have d32 : ((k : Int) == 32) = false := by simp only [beq_eq_false_iff_ne]; omega
 clear hk hk'; obtain ⟨g, rfl, hg, BA, ca, za, ia, na0⟩ := zQc H.out.vals hla; rw [hva] at za ia; obtain ⟨ga, rfl, hga, hca⟩ := ia hposa; have xa0 := hca 0 hposa; obtain ⟨gl, rfl, hgl, hcl⟩ := H.out.row (by omega)
 have ya := (hcl pa hLa).2.2.2.2.2.2.2.1; rw [← zIb hLa, hswa] at ya; have ea : va[0] = (xa : Int) := by rw [← hxa]; unfold hd0; rw [List.getD_eq_getElem?_getD, List.getElem?_eq_getElem hposa]; rfl
 rw [ea] at xa0; obtain ⟨w3, hw3⟩ : ∃ x, ((w.alloc (.cells #[.int .i64 (k : Int), .int .i64 (pa : Int), .int .i64 nb, .int .i64 nc, .int .i64 nn, .int .i64 nm, .int .i64 si, .int .i64 sw, .string nt] 42)).alloc (.cells #[.slice none 0 0] 53)).alloc (.cells #[.slice (some ⟨ga, 0, none⟩) va.length ca] 53) = x := ⟨_, rfl⟩
 have B3 : Hid (Below w.heap.size w w3) := Kh (by rw [← hw3]; exact (((Below.refl _ _).alloc (Nat.le_refl _) _).alloc (by simp) _).alloc (by simp; omega) _)
 have N3 : Hid (Blk w3 w.heap.size 42 #[.int .i64 (k : Int), .int .i64 (pa : Int), .int .i64 nb, .int .i64 nc, .int .i64 nn, .int .i64 nm, .int .i64 si, .int .i64 sw, .string nt]) := Kh (by rw [← hw3]; exact ((Blk.new _ _ _).alloc _).alloc _)
 have R3 : Hid (Blk w3 (w.heap.size + 1) 53 #[.slice none 0 0]) := Kh (by rw [← hw3]; exact (Blk.new_at _ _ _ (by simp)).alloc _)
 have A3 : Hid (Blk w3 (w.heap.size + 1 + 1) 53 #[.slice (some ⟨ga, 0, none⟩) va.length ca]) := Kh (by rw [← hw3]; exact Blk.new_at _ _ _ (by simp))
 have HW3 := Kh hw3; have old : ∀ (b j : Nat) (v : Value), b < w.heap.size → w.cell? ⟨b, j, none⟩ = some v → w3.cell? ⟨b, j, none⟩ = some v := fun b j v hb hc => (B3.out.cell (p := ⟨b, j, none⟩) hb).trans hc
 have za3 := old _ _ _ hg za; have xa3 := old _ _ _ hga xa0; have ya3 := old _ _ _ hgl ya; obtain ⟨x0, x1, x2, x3, x4, x5, x6, x7, x8⟩ := N3.out.nine; have a0 : w3.cell? ⟨w.heap.size + 1 + 1, 0, none⟩ = some (.slice (some ⟨ga, 0, none⟩) va.length ca) := by rw [A3.out.cell]; rfl
 have qa0 : (0 : Int) ≤ (pa : Int) := by omega
 have qa1 : (pa : Int) < (vs.length : Int) := by omega
 have qa2 : (pa : Int) < (L.length : Int) := by omega
 have qa3 : (0 : Int) < (va.length : Int) := by omega
 clear old; clear hxba
 go_enter Tryz.func125, Tryz.ntmps125
 go_wp2_with (go_at_call 79; refine (PT.out _).mono ?_; rintro e w1 ⟨rfl, rfl⟩)
 try rw [HW3.out]
 go_quiet ((go_at_call 166; exact zKt (T.out _)))
 have BD := Kh (fun m => zB1 B3.out m)
 have RD := Kh (fun m => R3.out.below (zB1 (Below.refl _ w3) m) R3.out.lt)
 go_wp2_with (go_at_call 123; refine (zGr _ _).mono ?_; rintro e w4 ⟨gr, rfl, hgr, hbg, hb4⟩; have B4 := Kh ((BD.out _).trans (hb4.mono (BD.out _).size)); have R4 := Kh ((RD.out _).below hb4 (RD.out _).lt); have G4 := Kh hbg; clear hbg hb4 hgr; have f0 := R4.out.frozen 0; have r0 : w4.cell? ⟨w.heap.size + 1, 0, none⟩ = some (.slice none 0 0) := (by rw [R4.out.cell]; rfl))
 obtain ⟨c5, V5⟩ := zO9 (w := w) R4.out G4.out B4.out (Nat.le_succ _)
 exact bodyPost_ret (v := .agg #[.slice (some ⟨gr, 0, none⟩) 1 1]) (by simp [results, Tryz.results125, go_sem, c5]) rfl V5
theorem scopy {w w3 w4 : World} {r c : Nat} {A : Option Addr} {l : List Int} {old : Value} (hr : Blk w4 r 53 #[old]) (ho : w4.ownsRow w3.heap.size 3 1 (.slice A l.length c) l.length (l.map (.int .i64))) (hb : Below w.heap.size w w4) (hr3 : r < w3.heap.size) (hwr : w.heap.size ≤ r) :
 (w4.setCell ⟨r, 0, none⟩ (.slice A l.length c)).cell? ⟨r, 0, none⟩ = some (.slice A l.length c) ∧
    zAi w l (.returned (.agg #[.slice A l.length c])) (w4.setCell ⟨r, 0, none⟩ (.slice A l.length c)) := by
 have ho2 := zJb (p := ⟨r, 0, none⟩) ho (fun e => by have := (ho.lt _ e).1; simp only at this; omega) (.slice A l.length c)
 refine ⟨?_, A, c, rfl, IAt.of_own ho2, zJh ho, hb.setCell (p := ⟨r, 0, none⟩) hwr _⟩
 have := (hr.set_ 0 (.slice A l.length c)).cell 0; simpa using this
theorem zNk (AL A : Option Addr) (cL cap : Nat) (vs : List (List Int)) (L : List No) (n : No) (w : World) (h : SIn w AL A vs L n) (hk : (6 ≤ n.k ∧ n.k ≤ 28) ∧ n.k ≠ 21) :
 Calls Tryz.prog 125 #[.slice AL L.length cL, .agg #[.int .i64 n.k, .int .i64 n.a, .int .i64 n.b, .int .i64 n.c, .int .i64 n.n, .int .i64 n.m, .int .i64 n.s.i, .int .i64 n.s.w, .string n.t], .slice A vs.length cap] w fun e w' => zAi w (zIm (fun p => (noAt L p).s) (fun p => vs.getD p.toNat []) n) e w' := by
 have H := Kh h; clear h; obtain ⟨nk, na, nb, nc, nn, nm, ⟨si, sw⟩, nt⟩ := n; have hk : (6 ≤ nk ∧ nk ≤ 28) ∧ nk ≠ 21 := hk; obtain ⟨k, rfl⟩ : ∃ k : Nat, nk = (k : Int) := ⟨nk.toNat, by omega⟩
 have hk' : 6 ≤ k ∧ k ≤ 28 := by omega
 have HP : Hid (zK1 (k : Int) = 2) := Kh (zJz (.inl (by omega)))
 obtain ⟨⟨ha0, ha1⟩, hsa⟩ : (0 ≤ na ∧ na < (L.length : Int)) ∧ sortOk (noAt L na).s := H.out.inn.a (by show 0 < zK1 _; rw [HP.out]; decide)
 have hfa : zDw (noAt L na).s (vs.getD (na).toNat []) := H.out.fa (by show 0 < zK1 _; rw [HP.out]; decide)
 obtain ⟨pa, hpa⟩ : ∃ p : Nat, na = (p : Int) := ⟨na.toNat, by omega⟩
 subst hpa; have hla : pa < vs.length := by have := H.out.len; omega
 have hLa : pa < L.length := by omega
 replace hfa : zDw (noAt L (pa : Int)).s (vs.getD pa []) := hfa
 obtain ⟨va, hva⟩ : ∃ v, vs.getD pa [] = v := ⟨_, rfl⟩
 rw [hva] at hfa; obtain ⟨⟨hb0, hb1⟩, hsb⟩ : (0 ≤ nb ∧ nb < (L.length : Int)) ∧ sortOk (noAt L nb).s := H.out.inn.b (by show 1 < zK1 _; rw [HP.out]; decide)
 have hfb : zDw (noAt L nb).s (vs.getD (nb).toNat []) := H.out.fb (by show 1 < zK1 _; rw [HP.out]; decide)
 obtain ⟨pb, hpb⟩ : ∃ p : Nat, nb = (p : Int) := ⟨nb.toNat, by omega⟩
 subst hpb; have hlb : pb < vs.length := by have := H.out.len; omega
 have hLb : pb < L.length := by omega
 replace hfb : zDw (noAt L (pb : Int)).s (vs.getD pb []) := hfb
 obtain ⟨vb, hvb⟩ : ∃ v, vs.getD pb [] = v := ⟨_, rfl⟩
 rw [hvb] at hfb; have hab := H.out.inn.sort2 (by exact hk.1) (by exact hk.2)
 have hia : (noAt L (pa : Int)).s.i = 0 := hab.1; have hib : (noAt L (pb : Int)).s = (noAt L (pa : Int)).s := hab.2.1; clear hab; rw [hib] at hfb hsb
 obtain ⟨xb, hxb⟩ : ∃ x : Nat, hd0 vb = (x : Int) ∧ zQi (noAt L (pa : Int)).s.w (x : Int) := by
  obtain ⟨_, vn, _, h2, _⟩ := zQm (zDx hfb hsb)
  exact ⟨vn, h2, h2 ▸ zDx hfb hsb⟩
 have hposb : 0 < vb.length := by rw [hfb.1, zCi hia hsb]; omega
 obtain ⟨wa, xa, hswa, hxa, hwba, hxba, hposa⟩ := zQq hfa hsa hia
 have hxbb : xb < 2 ^ wa := by
  have h1 := hxb.2.2.2; rw [hswa] at h1; have h2 : (xb : Int) ≤ ((2 ^ wa : Nat) : Int) - 1 := h1; omega
 replace hxb := hxb.1
 have T := Kh (fun W => zN0 k wa xa xb hk' hwba hxba hxbb W)
 have PT := Kh (fun W => zG8 (k : Int) W)
 rw [HP.out] at PT
 have E : zIm (fun p => (noAt L p).s) (fun p => vs.getD p.toNat []) ⟨(k : Int), (pa : Int), (pb : Int), nc, nn, nm, ⟨si, sw⟩, nt⟩ = [((zPu k (noAt L (pa : Int)).s.w.toNat (hd0 (vs.getD pa [])).toNat (hd0 (vs.getD pb [])).toNat : Nat) : Int)] := by
  unfold zIm; dsimp only; rw [if_neg (by omega), if_neg (by omega), if_neg (by omega), if_neg (by omega), if_neg (by omega), if_neg (by omega), if_neg (by omega), if_neg (by omega), if_neg (by omega)]
  rfl
 rw [E, hva, hvb, hxa, hxb, hswa]; clear E; rw [show zPu k ((wa : Nat) : Int).toNat ((xa : Nat) : Int).toNat ((xb : Nat) : Int).toNat = zPu k wa xa xb from rfl]
 generalize zPu k wa xa xb = V at *; have d33 : ((k : Int) == 33) = false := by simp only [beq_eq_false_iff_ne]; omega
 have d37 : ((k : Int) == 37) = false := by simp only [beq_eq_false_iff_ne]; omega
 have d38 : ((k : Int) == 38) = false := by simp only [beq_eq_false_iff_ne]; omega
 have d21 : ((k : Int) == 21) = false := by simp only [beq_eq_false_iff_ne]; omega
 have d29 : ((k : Int) == 29) = false := by simp only [beq_eq_false_iff_ne]; omega
 have d30 : ((k : Int) == 30) = false := by simp only [beq_eq_false_iff_ne]; omega
 have d31 : ((k : Int) == 31) = false := by simp only [beq_eq_false_iff_ne]; omega
 have d32 : ((k : Int) == 32) = false := by simp only [beq_eq_false_iff_ne]; omega
 clear hk hk'; obtain ⟨g, rfl, hg, BA, ca, za, ia, na0⟩ := zQc H.out.vals hla; rw [hva] at za ia; obtain ⟨ga, rfl, hga, hca⟩ := ia hposa; have xa0 := hca 0 hposa; obtain ⟨g', hgg, hg', BB, cb, zb, ib, nb0⟩ := zQc H.out.vals hlb
 cases hgg
 rw [hvb] at zb ib; obtain ⟨gb, rfl, hgb, hcb⟩ := ib hposb; have xb0 := hcb 0 hposb; obtain ⟨gl, rfl, hgl, hcl⟩ := H.out.row (by omega)
 have ya := (hcl pa hLa).2.2.2.2.2.2.2.1; rw [← zIb hLa, hswa] at ya; have ea : va[0] = (xa : Int) := by rw [← hxa]; unfold hd0; rw [List.getD_eq_getElem?_getD, List.getElem?_eq_getElem hposa]; rfl
 rw [ea] at xa0; have eb : vb[0] = (xb : Int) := by rw [← hxb]; unfold hd0; rw [List.getD_eq_getElem?_getD, List.getElem?_eq_getElem hposb]; rfl
 rw [eb] at xb0; obtain ⟨w3, hw3⟩ : ∃ x, ((w.alloc (.cells #[.int .i64 (k : Int), .int .i64 (pa : Int), .int .i64 (pb : Int), .int .i64 nc, .int .i64 nn, .int .i64 nm, .int .i64 si, .int .i64 sw, .string nt] 42)).alloc (.cells #[.slice none 0 0] 53)).alloc (.cells #[.slice (some ⟨ga, 0, none⟩) va.length ca] 53) = x := ⟨_, rfl⟩
 have B3 : Hid (Below w.heap.size w w3) := Kh (by rw [← hw3]; exact (((Below.refl _ _).alloc (Nat.le_refl _) _).alloc (by simp) _).alloc (by simp; omega) _)
 have N3 : Hid (Blk w3 w.heap.size 42 #[.int .i64 (k : Int), .int .i64 (pa : Int), .int .i64 (pb : Int), .int .i64 nc, .int .i64 nn, .int .i64 nm, .int .i64 si, .int .i64 sw, .string nt]) := Kh (by rw [← hw3]; exact ((Blk.new _ _ _).alloc _).alloc _)
 have R3 : Hid (Blk w3 (w.heap.size + 1) 53 #[.slice none 0 0]) := Kh (by rw [← hw3]; exact (Blk.new_at _ _ _ (by simp)).alloc _)
 have A3 : Hid (Blk w3 (w.heap.size + 1 + 1) 53 #[.slice (some ⟨ga, 0, none⟩) va.length ca]) := Kh (by rw [← hw3]; exact Blk.new_at _ _ _ (by simp))
 have HW3 := Kh hw3; have old : ∀ (b j : Nat) (v : Value), b < w.heap.size → w.cell? ⟨b, j, none⟩ = some v → w3.cell? ⟨b, j, none⟩ = some v := fun b j v hb hc => (B3.out.cell (p := ⟨b, j, none⟩) hb).trans hc
 have za3 := old _ _ _ hg za; have xa3 := old _ _ _ hga xa0; have ya3 := old _ _ _ hgl ya; have zb3 := old _ _ _ hg zb; have xb3 := old _ _ _ hgb xb0; obtain ⟨x0, x1, x2, x3, x4, x5, x6, x7, x8⟩ := N3.out.nine; have a0 : w3.cell? ⟨w.heap.size + 1 + 1, 0, none⟩ = some (.slice (some ⟨ga, 0, none⟩) va.length ca) := by rw [A3.out.cell]; rfl
 have qa0 : (0 : Int) ≤ (pa : Int) := by omega
 have qa1 : (pa : Int) < (vs.length : Int) := by omega
 have qa2 : (pa : Int) < (L.length : Int) := by omega
 have qa3 : (0 : Int) < (va.length : Int) := by omega
 have qb0 : (0 : Int) ≤ (pb : Int) := by omega
 have qb1 : (pb : Int) < (vs.length : Int) := by omega
 have qb2 : (pb : Int) < (L.length : Int) := by omega
 have qb3 : (0 : Int) < (vb.length : Int) := by omega
 clear old; clear hxba hxbb
 go_enter Tryz.func125, Tryz.ntmps125
 go_wp2_with (go_at_call 79; refine (PT.out _).mono ?_; rintro e w1 ⟨rfl, rfl⟩)
 try rw [HW3.out]
 have hgw := B3.out.size; have k0 := fun x : Ext w3 => zDt x0 N3.out.lt x
 have k2 := fun x : Ext w3 => zDt x2 N3.out.lt x
 have ka := fun x : Ext w3 => zDt a0 A3.out.lt x
 have kxa := fun x : Ext w3 => zDt xa3 (Nat.lt_of_lt_of_le hga hgw) x
 have kzb := fun x : Ext w3 => zDt zb3 (Nat.lt_of_lt_of_le hg hgw) x
 have kxb := fun x : Ext w3 => zDt xb3 (Nat.lt_of_lt_of_le hgb hgw) x
 refine zR4 (by kernel_rfl) (by kernel_rfl) ?_
 repeat go_big_quiet_step ((go_at_call 167; exact zDs _ (T.out _)))
 refine wpQuiet_nil ?_
 intro wt hwt; obtain ⟨xt, hwx⟩ := hwt; subst hwx; have BD := Kh (B3.out.trans (xt.2.mono B3.out.size)); have RD := Kh (R3.out.below xt.2 R3.out.lt); clear k0 k2 ka kxa kzb kxb
 go_wp2_with (go_at_call 123; refine (zGr _ _).mono ?_; rintro e w4 ⟨gr, rfl, hgr, hbg, hb4⟩; have B4 := Kh (BD.out.trans (hb4.mono BD.out.size)); have R4 := Kh (RD.out.below hb4 RD.out.lt); have G4 := Kh hbg; clear hbg hb4 hgr; have f0 := R4.out.frozen 0; have r0 : w4.cell? ⟨w.heap.size + 1, 0, none⟩ = some (.slice none 0 0) := (by rw [R4.out.cell]; rfl))
 obtain ⟨c5, V5⟩ := zO9 (w := w) R4.out G4.out B4.out (Nat.le_succ _)
 exact bodyPost_ret (v := .agg #[.slice (some ⟨gr, 0, none⟩) 1 1]) (by simp [results, Tryz.results125, go_sem, c5]) rfl V5
theorem zNg (AL A : Option Addr) (cL cap : Nat) (vs : List (List Int)) (L : List No) (n : No) (w : World) (h : SIn w AL A vs L n) (hk : n.k = 33) :
 Calls Tryz.prog 125 #[.slice AL L.length cL, .agg #[.int .i64 n.k, .int .i64 n.a, .int .i64 n.b, .int .i64 n.c, .int .i64 n.n, .int .i64 n.m, .int .i64 n.s.i, .int .i64 n.s.w, .string n.t], .slice A vs.length cap] w fun e w' => zAi w (zIm (fun p => (noAt L p).s) (fun p => vs.getD p.toNat []) n) e w' := by
 have H := Kh h; clear h; obtain ⟨nk, na, nb, nc, nn, nm, ⟨si, sw⟩, nt⟩ := n; obtain rfl : nk = 33 := hk; have HP : Hid (zK1 33 = 3) := Kh (by decide)
 obtain ⟨⟨ha0, ha1⟩, hsa⟩ : (0 ≤ na ∧ na < (L.length : Int)) ∧ sortOk (noAt L na).s := H.out.inn.a (by show 0 < zK1 _; rw [HP.out]; decide)
 have hfa : zDw (noAt L na).s (vs.getD (na).toNat []) := H.out.fa (by show 0 < zK1 _; rw [HP.out]; decide)
 obtain ⟨pa, hpa⟩ : ∃ p : Nat, na = (p : Int) := ⟨na.toNat, by omega⟩
 subst hpa; have hla : pa < vs.length := by have := H.out.len; omega
 have hLa : pa < L.length := by omega
 replace hfa : zDw (noAt L (pa : Int)).s (vs.getD pa []) := hfa
 obtain ⟨va, hva⟩ : ∃ v, vs.getD pa [] = v := ⟨_, rfl⟩
 rw [hva] at hfa; obtain ⟨⟨hb0, hb1⟩, hsb⟩ : (0 ≤ nb ∧ nb < (L.length : Int)) ∧ sortOk (noAt L nb).s := H.out.inn.b (by show 1 < zK1 _; rw [HP.out]; decide)
 have hfb : zDw (noAt L nb).s (vs.getD (nb).toNat []) := H.out.fb (by show 1 < zK1 _; rw [HP.out]; decide)
 obtain ⟨pb, hpb⟩ : ∃ p : Nat, nb = (p : Int) := ⟨nb.toNat, by omega⟩
 subst hpb; have hlb : pb < vs.length := by have := H.out.len; omega
 have hLb : pb < L.length := by omega
 replace hfb : zDw (noAt L (pb : Int)).s (vs.getD pb []) := hfb
 obtain ⟨vb, hvb⟩ : ∃ v, vs.getD pb [] = v := ⟨_, rfl⟩
 rw [hvb] at hfb; obtain ⟨⟨hc0, hc1⟩, hsc⟩ : (0 ≤ nc ∧ nc < (L.length : Int)) ∧ sortOk (noAt L nc).s := H.out.inn.c (by show 2 < zK1 _; rw [HP.out]; decide)
 have hfc : zDw (noAt L nc).s (vs.getD (nc).toNat []) := H.out.fc (by show 2 < zK1 _; rw [HP.out]; decide)
 obtain ⟨pc, hpc⟩ : ∃ p : Nat, nc = (p : Int) := ⟨nc.toNat, by omega⟩
 subst hpc; have hlc : pc < vs.length := by have := H.out.len; omega
 have hLc : pc < L.length := by omega
 replace hfc : zDw (noAt L (pc : Int)).s (vs.getD pc []) := hfc
 obtain ⟨vc, hvc⟩ : ∃ v, vs.getD pc [] = v := ⟨_, rfl⟩
 rw [hvc] at hfc; have hia : (noAt L (pa : Int)).s.i = 0 := by rw [(H.out.inn.sort33 rfl).1]; rfl
 obtain ⟨wa, xa, hswa, hxa, hwba, hxba, hposa⟩ := zQq hfa hsa hia; have hposb := hposa; have E : zIm (fun p => (noAt L p).s) (fun p => vs.getD p.toNat []) ⟨33, (pa : Int), (pb : Int), (pc : Int), nn, nm, ⟨si, sw⟩, nt⟩ = (if hd0 (vs.getD pa []) = 1 then vs.getD pb [] else vs.getD pc []) := rfl
 rw [E, hva, hvb, hvc, hxa]; clear E; have lb : vb.length ≤ 1048576 := by rw [hfb.1]; have := zCj (noAt L (pb : Int)).s; omega
 have lc : vc.length ≤ 1048576 := by rw [hfc.1]; have := zCj (noAt L (pc : Int)).s; omega
 clear hposb; obtain ⟨g, rfl, hg, BA, ca, za, ia, na0⟩ := zQc H.out.vals hla; rw [hva] at za ia; obtain ⟨ga, rfl, hga, hca⟩ := ia hposa; have xa0 := hca 0 hposa; obtain ⟨gl, rfl, hgl, hcl⟩ := H.out.row (by omega)
 have ya := (hcl pa hLa).2.2.2.2.2.2.2.1; rw [← zIb hLa, hswa] at ya; have ea : va[0] = (xa : Int) := by rw [← hxa]; unfold hd0; rw [List.getD_eq_getElem?_getD, List.getElem?_eq_getElem hposa]; rfl
 rw [ea] at xa0; obtain ⟨w3, hw3⟩ : ∃ x, ((w.alloc (.cells #[.int .i64 33, .int .i64 (pa : Int), .int .i64 (pb : Int), .int .i64 (pc : Int), .int .i64 nn, .int .i64 nm, .int .i64 si, .int .i64 sw, .string nt] 42)).alloc (.cells #[.slice none 0 0] 53)).alloc (.cells #[.slice (some ⟨ga, 0, none⟩) va.length ca] 53) = x := ⟨_, rfl⟩
 have B3 : Hid (Below w.heap.size w w3) := Kh (by rw [← hw3]; exact (((Below.refl _ _).alloc (Nat.le_refl _) _).alloc (by simp) _).alloc (by simp; omega) _)
 have N3 : Hid (Blk w3 w.heap.size 42 #[.int .i64 33, .int .i64 (pa : Int), .int .i64 (pb : Int), .int .i64 (pc : Int), .int .i64 nn, .int .i64 nm, .int .i64 si, .int .i64 sw, .string nt]) := Kh (by rw [← hw3]; exact ((Blk.new _ _ _).alloc _).alloc _)
 have R3 : Hid (Blk w3 (w.heap.size + 1) 53 #[.slice none 0 0]) := Kh (by rw [← hw3]; exact (Blk.new_at _ _ _ (by simp)).alloc _)
 have A3 : Hid (Blk w3 (w.heap.size + 1 + 1) 53 #[.slice (some ⟨ga, 0, none⟩) va.length ca]) := Kh (by rw [← hw3]; exact Blk.new_at _ _ _ (by simp))
 have HW3 := Kh hw3; have old : ∀ (b j : Nat) (v : Value), b < w.heap.size → w.cell? ⟨b, j, none⟩ = some v → w3.cell? ⟨b, j, none⟩ = some v := fun b j v hb hc => (B3.out.cell (p := ⟨b, j, none⟩) hb).trans hc
 have za3 := old _ _ _ hg za; have xa3 := old _ _ _ hga xa0; have ya3 := old _ _ _ hgl ya; obtain ⟨x0, x1, x2, x3, x4, x5, x6, x7, x8⟩ := N3.out.nine; have a0 : w3.cell? ⟨w.heap.size + 1 + 1, 0, none⟩ = some (.slice (some ⟨ga, 0, none⟩) va.length ca) := by rw [A3.out.cell]; rfl
 have qa0 : (0 : Int) ≤ (pa : Int) := by omega
 have qa1 : (pa : Int) < (vs.length : Int) := by omega
 have qa2 : (pa : Int) < (L.length : Int) := by omega
 have qa3 : (0 : Int) < (va.length : Int) := by omega
 clear old; obtain ⟨g', hgg, hg', BB, cb, zb, ib, nb0⟩ := zQc H.out.vals hlb
 cases hgg
 obtain ⟨g', hgg, hg'', BC, cc, zc, ic, nc0⟩ := zQc H.out.vals hlc
 cases hgg
 rw [hvb] at zb ib; rw [hvc] at zc ic; have zb3 := (B3.out.cell (p := ⟨g, pb, none⟩) hg).trans zb; have zc3 := (B3.out.cell (p := ⟨g, pc, none⟩) hg).trans zc; have TB := Kh (zGp BB cb vb w3 (ib.below B3.out) lb); have TC := Kh (zGp BC cc vc w3 (ic.below B3.out) lc); have qb0 : (0 : Int) ≤ (pb : Int) := by omega
 have qb1 : (pb : Int) < (vs.length : Int) := by omega
 have qc0 : (0 : Int) ≤ (pc : Int) := by omega
 have qc1 : (pc : Int) < (vs.length : Int) := by omega
 clear zb zc ib ic nb0 nc0 hg' hg'' hfa hfb hfc hsa hsb hsc hva hvb hvc hxa hia hcl hca
 by_cases hx : xa = 1
 · have dx : ((xa : Int) == 1) = true := by rw [beq_iff_eq]; omega
   rw [if_pos (by omega)]
   clear hx hxba
   go_enter Tryz.func125, Tryz.ntmps125
   go_wp2_with (go_at_call 124; refine TB.out.mono ?_; rintro e w4 ⟨A4, c4, rfl, ho, hb4⟩; have B4 := Kh (B3.out.trans (hb4.mono B3.out.size)); have R4 := Kh (R3.out.below hb4 R3.out.lt); have HO := Kh ho; clear ho hb4; have f0 := R4.out.frozen 0; have r0 : w4.cell? ⟨w.heap.size + 1, 0, none⟩ = some (.slice none 0 0) := (by rw [R4.out.cell]; rfl))
   obtain ⟨c5, V5⟩ := scopy (w := w) R4.out HO.out B4.out R3.out.lt (Nat.le_succ _)
   exact bodyPost_ret (v := .agg #[.slice A4 vb.length c4]) (by simp [results, Tryz.results125, go_sem, c5]) rfl V5
 · have dx : ((xa : Int) == 1) = false := by rw [beq_eq_false_iff_ne]; omega
   rw [if_neg (by omega)]
   clear hx hxba
   go_enter Tryz.func125, Tryz.ntmps125
   go_wp2_with (go_at_call 124; refine TC.out.mono ?_; rintro e w4 ⟨A4, c4, rfl, ho, hb4⟩; have B4 := Kh (B3.out.trans (hb4.mono B3.out.size)); have R4 := Kh (R3.out.below hb4 R3.out.lt); have HO := Kh ho; clear ho hb4; have f0 := R4.out.frozen 0; have r0 : w4.cell? ⟨w.heap.size + 1, 0, none⟩ = some (.slice none 0 0) := (by rw [R4.out.cell]; rfl))
   obtain ⟨c5, V5⟩ := scopy (w := w) R4.out HO.out B4.out R3.out.lt (Nat.le_succ _)
   exact bodyPost_ret (v := .agg #[.slice A4 vc.length c4]) (by simp [results, Tryz.results125, go_sem, c5]) rfl V5
end Go.Proofs.YtmolbnghobfmoaaGreat
