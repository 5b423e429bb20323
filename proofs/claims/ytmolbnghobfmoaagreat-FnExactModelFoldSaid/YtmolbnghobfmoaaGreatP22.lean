/- Part 22 of what the row Row28 rests on: F21. -/
import Derived.Test.YtmolbnghobfmoaaGreatP21
set_option maxRecDepth 100000
set_option maxHeartbeats 16000000
set_option linter.unusedSimpArgs false
set_option linter.unusedVariables false
namespace Go.Proofs.YtmolbnghobfmoaaGreat
open Go.RowKit
theorem zPz (A : Option Addr) (cap : Nat) (vs : List (List Int)) (L : List No) (n : No) (sf : Nat) (first capS : Array Value) (w : World) (h : VIn w A vs L n sf first capS) (hk : n.k = 29) :
 Calls Tryz.prog 129 #[.agg #[.int .i64 n.k, .int .i64 n.a, .int .i64 n.b, .int .i64 n.c, .int .i64 n.n, .int .i64 n.m, .int .i64 n.s.i, .int .i64 n.s.w, .string n.t], .slice A vs.length cap, .func (.func sf) first capS] w fun e w' => zAi w (zIm (fun p => (noAt L p).s) (fun p => vs.getD p.toNat []) n) e w' := by
 have H := Kh h; clear h; obtain ⟨nk, na, nb, nc, nn, nm, ⟨si, sw⟩, nt⟩ := n; obtain rfl : nk = 29 := hk; have B1 := bx w #[.int .i64 29, .int .i64 na, .int .i64 nb, .int .i64 nc, .int .i64 nn, .int .i64 nm, .int .i64 si, .int .i64 sw, .string nt] 42; have B2 := Kh (B1.out.alloc B1.out.size (.cells #[.slice A vs.length cap] 47)); have B3 := Kh (B2.out.alloc B2.out.size (.cells #[.slice none 0 0] 53)); have N1 := nx w #[.int .i64 29, .int .i64 na, .int .i64 nb, .int .i64 nc, .int .i64 nn, .int .i64 nm, .int .i64 si, .int .i64 sw, .string nt] 42; have N2 := Kh (N1.out.alloc (.cells #[.slice A vs.length cap] 47)); have N3 := Kh (N2.out.alloc (.cells #[.slice none 0 0] 53)); have V2 : Hid (Blk ((w.alloc (.cells #[.int .i64 29, .int .i64 na, .int .i64 nb, .int .i64 nc, .int .i64 nn, .int .i64 nm, .int .i64 si, .int .i64 sw, .string nt] 42)).alloc (.cells #[.slice A vs.length cap] 47)) (w.heap.size + 1) 47 #[.slice A vs.length cap]) := Blk.new_at _ _ _ (by simp)
 have V3 : Hid (Blk (((w.alloc (.cells #[.int .i64 29, .int .i64 na, .int .i64 nb, .int .i64 nc, .int .i64 nn, .int .i64 nm, .int .i64 si, .int .i64 sw, .string nt] 42)).alloc (.cells #[.slice A vs.length cap] 47)).alloc (.cells #[.slice none 0 0] 53)) (w.heap.size + 1) 47 #[.slice A vs.length cap]) := V2.out.alloc _; have R3 : Hid (Blk (((w.alloc (.cells #[.int .i64 29, .int .i64 na, .int .i64 nb, .int .i64 nc, .int .i64 nn, .int .i64 nm, .int .i64 si, .int .i64 sw, .string nt] 42)).alloc (.cells #[.slice A vs.length cap] 47)).alloc (.cells #[.slice none 0 0] 53)) (w.heap.size + 1 + 1) 53 #[.slice none 0 0]) := Blk.new_at _ _ _ (by simp)
 have hmf := mkf; have vw := zQf; have vc := zQb; have HP : Hid (zK1 29 = 2) := Kh (by decide)
 obtain ⟨⟨ha0, ha1⟩, hsa⟩ : (0 ≤ na ∧ na < (L.length : Int)) ∧ sortOk (noAt L na).s := H.out.inn.a (by show 0 < zK1 _; rw [HP.out]; decide)
 have hfa : zDw (noAt L na).s (vs.getD (na).toNat []) := H.out.fa (by show 0 < zK1 _; rw [HP.out]; decide)
 obtain ⟨pa, hpa⟩ : ∃ p : Nat, na = (p : Int) := ⟨na.toNat, by omega⟩
 subst hpa; have hla : pa < vs.length := by have := H.out.len; omega
 have hLa : pa < L.length := by omega
 replace hfa : zDw (noAt L (pa : Int)).s (vs.getD pa []) := hfa
 obtain ⟨va, hva⟩ : ∃ v, vs.getD pa [] = v := ⟨_, rfl⟩
 rw [hva] at hfa; obtain ⟨⟨hb0, hb1⟩, hsb⟩ : (0 ≤ nb ∧ nb < (L.length : Int)) ∧ sortOk (noAt L nb).s := H.out.inn.b (by show 1 < zK1 _; rw [HP.out]; decide)
 have hfb : zDw (noAt L nb).s (vs.getD (nb).toNat []) := H.out.fb (by show 1 < zK1 _; rw [HP.out]; decide)
 obtain ⟨pb, hpb⟩ : ∃ p : Nat, nb = (p : Int) := ⟨nb.toNat, by omega⟩
 subst hpb; have hlb : pb < vs.length := by have := H.out.len; omega
 have hLb : pb < L.length := by omega
 replace hfb : zDw (noAt L (pb : Int)).s (vs.getD pb []) := hfb
 obtain ⟨vb, hvb⟩ : ∃ v, vs.getD pb [] = v := ⟨_, rfl⟩
 rw [hvb] at hfb; obtain ⟨hia, hib, -, -, hab⟩ : (noAt L (pa : Int)).s.i = 0 ∧ (noAt L (pb : Int)).s.i = 0 ∧ si = 0 ∧ sw = (noAt L (pa : Int)).s.w + (noAt L (pb : Int)).s.w ∧ (noAt L (pa : Int)).s.w + (noAt L (pb : Int)).s.w ≤ 16 := H.out.inn.sort29 rfl; obtain ⟨wa, xa, hswa, hxa, hwba, hxba, hposa⟩ := zQq hfa hsa hia; obtain ⟨wb, xb, hswb, hxb, hwbb, hxbb, hposb⟩ := zQq hfb hsb hib; have E : zIm (fun p => (noAt L p).s) (fun p => vs.getD p.toNat []) ⟨29, (pa : Int), (pb : Int), nc, nn, nm, ⟨si, sw⟩, nt⟩ = [hd0 (vs.getD pa []) * ((2 ^ (noAt L (pb : Int)).s.w.toNat : Nat) : Int) + hd0 (vs.getD pb [])] := rfl
 rw [E, hva, hvb, hxa, hxb, hswb]; clear E; rw [hswa, hswb] at hab; have hab' : wa + wb ≤ 16 := by have : (wa : Int) + (wb : Int) ≤ 16 := hab; omega
 obtain ⟨P, hP⟩ : ∃ P : Nat, xa * 2 ^ wb = P := ⟨_, rfl⟩
 have hPb : P < 4294967296 := by
  have h1 := zKc (show wa ≤ 16 by omega)
  have h2 := zKc (show wb ≤ 16 by omega)
  rw [← hP]
  calc xa * 2 ^ wb ≤ 65535 * 65536 := Nat.mul_le_mul (by omega) h2
   _ < 4294967296 := by decide
 have hxb16 : xb < 65536 := by have h2 := zKc (show wb ≤ 16 by omega); omega
 have e0 : IntKind.i64.wrap ((xa : Int) * (2 : Int) ^ wb) = (P : Int) := by
  have : (xa : Int) * (2 : Int) ^ wb = (P : Int) := by rw [← hP]; simp
  rw [this]; exact zRa (by omega) (by omega)
 have e1 : IntKind.i64.wrap ((P : Int) + (xb : Int)) = ((P + xb : Nat) : Int) := by rw [zRa (by omega) (by omega)]; rfl
 have t1 : (0 : Int) ≤ (wb : Int) := by omega
 have t2 : (wb : Int) ≤ 64 := by omega
 rw [show (xa : Int) * ((2 ^ ((wb : Nat) : Int).toNat : Nat) : Int) + (xb : Int) = ((P + xb : Nat) : Int) by rw [← hP]; simp]
 generalize P + xb = Q at *
 go_enter Tryz.func129, Tryz.ntmps129
 go_wp2_with fail
 clear B1 B2 N1 N2 V2; obtain ⟨wz, hwz⟩ : ∃ z, (((w.alloc (.cells #[.int .i64 29, .int .i64 (pa : Int), .int .i64 (pb : Int), .int .i64 nc, .int .i64 nn, .int .i64 nm, .int .i64 si, .int .i64 sw, .string nt] 42)).alloc (.cells #[.slice A vs.length cap] 47)).alloc (.cells #[.slice none 0 0] 53)) = z := ⟨_, rfl⟩
 rw [hwz] at B3 N3 V3 R3 ⊢; clear hwz; obtain ⟨y0, y1, y2, y3, y4, y5, y6, y7, y8⟩ := N3.out.nine; have k0 := fun x : Ext wz => zDt y0 N3.out.lt x
 have k1 := fun x : Ext wz => zDt y1 N3.out.lt x
 have k2 := fun x : Ext wz => zDt y2 N3.out.lt x
 have k3 := fun x : Ext wz => zDt y3 N3.out.lt x
 have k4 := fun x : Ext wz => zDt y4 N3.out.lt x
 have k5 := fun x : Ext wz => zDt y5 N3.out.lt x
 have yv := V3.out.cell 0; simp only [List.getElem?_toArray, List.getElem?_cons_zero] at yv
 have kv := fun x : Ext wz => zDt yv V3.out.lt x
 have Ta := Kh (fun x : Ext wz => zQa _ cap vs pa (w.heap.size + 1) x.1 ((H.out.vals.below B3.out).below x.2) (kv x) hla H.out.few (v := (xa : Int)) (by rw [hva]; exact hxa) (by rw [hva]; exact hposa))
 have Tb := Kh (fun x : Ext wz => zQa _ cap vs pb (w.heap.size + 1) x.1 ((H.out.vals.below B3.out).below x.2) (kv x) hlb H.out.few (v := (xb : Int)) (by rw [hvb]; exact hxb) (by rw [hvb]; exact hposb))
 have Sb := Kh (fun x : Ext wz => H.out.srt x.1 pb (B3.out.trans (x.2.mono B3.out.size)) hLb)
 rw [hswb] at Sb; dsimp only at Sb; clear hposa hva hsa hfa hposb hvb hsb hfb; clear hP hPb hab hab' hxb16; have hfd := zLh; have hse : ∀ (args : Array Value) (w : World), (callFunc sf args).run Tryz.prog w = .ok (.enter sf args) w := H.out.ent
 refine zR5 16 (by kernel_rfl) (by kernel_rfl) ?_
 simp only [List.take_succ_cons, List.take_zero, List.drop_succ_cons, List.drop_zero]
 repeat go_big_quiet_step ((first | ((with_reducible show Calls _ _ #[.int .i64 (pa : Int), _] _ _); go_at_call 169; exact zDv _ (Ta.out _)) | ((with_reducible show Calls _ _ #[.int .i64 (pb : Int), _] _ _); go_at_call 169; exact zDv _ (Tb.out _)) | ((with_reducible show Calls _ sf _ _ _); exact zDs _ (Sb.out _))))
 refine wpQuiet_nil ?_
 intro wt hwt; obtain ⟨x, hwx⟩ := hwt; subst hwx; have B5 := Kh (B3.out.trans (x.2.mono B3.out.size)); have R5 := Kh (R3.out.below x.2 R3.out.lt)
 go_wp2_with (go_at_call 170; refine (zQe _ _).mono ?_; rintro e w4 ⟨g, rfl, hg, hbk, hb4⟩; have HG := Kh hbk; have HB4 := Kh (B5.out.trans (hb4.mono B5.out.size)); have R4 := Kh (R5.out.below hb4 R5.out.lt); clear hg hbk hb4; have q0 := R4.out.cell 0; have q1 := R4.out.frozen 0; simp only [List.getElem?_toArray, List.getElem?_cons_zero] at q0)
 obtain ⟨u0, hout⟩ := zQd R4.out HG.out HB4.out (by omega)
 exact bodyPost_ret (v := .agg #[.slice (some ⟨g, 0, none⟩) 1 1]) (by simp [results, Tryz.results129, go_sem, u0]) rfl hout
theorem zQ0 (A : Option Addr) (cap : Nat) (vs : List (List Int)) (L : List No) (n : No) (sf : Nat) (first capS : Array Value) (w : World) (h : VIn w A vs L n sf first capS) (hk : n.k = 30) :
 Calls Tryz.prog 129 #[.agg #[.int .i64 n.k, .int .i64 n.a, .int .i64 n.b, .int .i64 n.c, .int .i64 n.n, .int .i64 n.m, .int .i64 n.s.i, .int .i64 n.s.w, .string n.t], .slice A vs.length cap, .func (.func sf) first capS] w fun e w' => zAi w (zIm (fun p => (noAt L p).s) (fun p => vs.getD p.toNat []) n) e w' := by
 have H := Kh h; clear h; obtain ⟨nk, na, nb, nc, nn, nm, ⟨si, sw⟩, nt⟩ := n; obtain rfl : nk = 30 := hk; have B1 := bx w #[.int .i64 30, .int .i64 na, .int .i64 nb, .int .i64 nc, .int .i64 nn, .int .i64 nm, .int .i64 si, .int .i64 sw, .string nt] 42; have B2 := Kh (B1.out.alloc B1.out.size (.cells #[.slice A vs.length cap] 47)); have B3 := Kh (B2.out.alloc B2.out.size (.cells #[.slice none 0 0] 53)); have N1 := nx w #[.int .i64 30, .int .i64 na, .int .i64 nb, .int .i64 nc, .int .i64 nn, .int .i64 nm, .int .i64 si, .int .i64 sw, .string nt] 42; have N2 := Kh (N1.out.alloc (.cells #[.slice A vs.length cap] 47)); have N3 := Kh (N2.out.alloc (.cells #[.slice none 0 0] 53)); have V2 : Hid (Blk ((w.alloc (.cells #[.int .i64 30, .int .i64 na, .int .i64 nb, .int .i64 nc, .int .i64 nn, .int .i64 nm, .int .i64 si, .int .i64 sw, .string nt] 42)).alloc (.cells #[.slice A vs.length cap] 47)) (w.heap.size + 1) 47 #[.slice A vs.length cap]) := Blk.new_at _ _ _ (by simp)
 have V3 : Hid (Blk (((w.alloc (.cells #[.int .i64 30, .int .i64 na, .int .i64 nb, .int .i64 nc, .int .i64 nn, .int .i64 nm, .int .i64 si, .int .i64 sw, .string nt] 42)).alloc (.cells #[.slice A vs.length cap] 47)).alloc (.cells #[.slice none 0 0] 53)) (w.heap.size + 1) 47 #[.slice A vs.length cap]) := V2.out.alloc _; have R3 : Hid (Blk (((w.alloc (.cells #[.int .i64 30, .int .i64 na, .int .i64 nb, .int .i64 nc, .int .i64 nn, .int .i64 nm, .int .i64 si, .int .i64 sw, .string nt] 42)).alloc (.cells #[.slice A vs.length cap] 47)).alloc (.cells #[.slice none 0 0] 53)) (w.heap.size + 1 + 1) 53 #[.slice none 0 0]) := Blk.new_at _ _ _ (by simp)
 have hmf := mkf; have vw := zQf; have vc := zQb; have HP : Hid (zK1 30 = 1) := Kh (by decide)
 obtain ⟨⟨ha0, ha1⟩, hsa⟩ : (0 ≤ na ∧ na < (L.length : Int)) ∧ sortOk (noAt L na).s := H.out.inn.a (by show 0 < zK1 _; rw [HP.out]; decide)
 have hfa : zDw (noAt L na).s (vs.getD (na).toNat []) := H.out.fa (by show 0 < zK1 _; rw [HP.out]; decide)
 obtain ⟨pa, hpa⟩ : ∃ p : Nat, na = (p : Int) := ⟨na.toNat, by omega⟩
 subst hpa; have hla : pa < vs.length := by have := H.out.len; omega
 have hLa : pa < L.length := by omega
 replace hfa : zDw (noAt L (pa : Int)).s (vs.getD pa []) := hfa
 obtain ⟨va, hva⟩ : ∃ v, vs.getD pa [] = v := ⟨_, rfl⟩
 rw [hva] at hfa
 obtain ⟨hia, -, -, h30, -⟩ : (noAt L (pa : Int)).s.i = 0 ∧ si = 0 ∧ sw = (if (30 : Int) ≤ 2 then (noAt L (pa : Int)).s.w else if (30 : Int) ≤ 5 then 1 else if (30 : Int) = 30 then nn - nm + 1 else (noAt L (pa : Int)).s.w + nn) ∧
     ((30 : Int) = 30 → (0 ≤ nn ∧ nn ≤ (noAt L (pa : Int)).s.w - 1) ∧ 0 ≤ nm ∧ nm ≤ nn) ∧ ((30 : Int) = 31 ∨ (30 : Int) = 32 → 0 ≤ nn ∧ nn ≤ 16 - (noAt L (pa : Int)).s.w) := H.out.inn.sort1 (.inr (by show (30 : Int) ≤ 30 ∧ (30 : Int) ≤ 32; decide))
 obtain ⟨wa, xa, hswa, hxa, hwba, hxba, hposa⟩ := zQq hfa hsa hia; replace h30 := h30 rfl
 rw [hswa] at h30; dsimp only at h30; obtain ⟨m, rfl⟩ : ∃ m : Nat, nm = (m : Int) := ⟨nm.toNat, by omega⟩
 obtain ⟨q, rfl⟩ : ∃ q : Nat, nn = (q : Int) := ⟨nn.toNat, by omega⟩
 obtain ⟨r, hr⟩ : ∃ r : Nat, q - m + 1 = r := ⟨_, rfl⟩
 have hr16 : r ≤ 16 := by omega
 obtain ⟨M, hM⟩ : ∃ M : Int, ((2 ^ r : Nat) : Int) - 1 = M := ⟨_, rfl⟩
 have TM := Kh (zHp (by omega : r ≤ 62) hM)
 have e0 : IntKind.i64.wrap ((q : Int) - (m : Int)) = (q : Int) - (m : Int) := zRa (by omega) (by omega)
 have e1 : IntKind.i64.wrap ((q : Int) - (m : Int) + 1) = (r : Int) := by rw [zRa (by omega) (by omega)]; omega
 have t1 : (0 : Int) ≤ (m : Int) := by omega
 have t2 : (m : Int) ≤ 64 := by omega
 obtain ⟨Q, hQ⟩ : ∃ Q : Nat, xa / 2 ^ m % 2 ^ r = Q := ⟨_, rfl⟩
 have E : zIm (fun p => (noAt L p).s) (fun p => vs.getD p.toNat []) ⟨30, (pa : Int), nb, nc, (q : Int), (m : Int), ⟨si, sw⟩, nt⟩ = [hd0 (vs.getD pa []) / ((2 ^ m : Nat) : Int) % ((2 ^ ((q : Int) - (m : Int) + 1).toNat : Nat) : Int)] := rfl
 rw [E, hva, hxa, show ((q : Int) - (m : Int) + 1).toNat = r by omega, show (xa : Int) / ((2 ^ m : Nat) : Int) % ((2 ^ r : Nat) : Int) = (Q : Int) by rw [← hQ]; rfl]
 clear E
 have e2 : bits .and .i64 ((xa : Int) / (2 : Int) ^ m) M = (Q : Int) := by
  rw [← hM, zBr _ (by omega), show (xa : Int) / (2 : Int) ^ m = ((xa / 2 ^ m : Nat) : Int) by simp, zPj, hQ]
 go_enter Tryz.func129, Tryz.ntmps129
 go_wp2_with fail
 clear B1 B2 N1 N2 V2; obtain ⟨wz, hwz⟩ : ∃ z, (((w.alloc (.cells #[.int .i64 30, .int .i64 (pa : Int), .int .i64 nb, .int .i64 nc, .int .i64 (q : Int), .int .i64 (m : Int), .int .i64 si, .int .i64 sw, .string nt] 42)).alloc (.cells #[.slice A vs.length cap] 47)).alloc (.cells #[.slice none 0 0] 53)) = z := ⟨_, rfl⟩
 rw [hwz] at B3 N3 V3 R3 ⊢; clear hwz; obtain ⟨y0, y1, y2, y3, y4, y5, y6, y7, y8⟩ := N3.out.nine; have k0 := fun x : Ext wz => zDt y0 N3.out.lt x
 have k1 := fun x : Ext wz => zDt y1 N3.out.lt x
 have k2 := fun x : Ext wz => zDt y2 N3.out.lt x
 have k3 := fun x : Ext wz => zDt y3 N3.out.lt x
 have k4 := fun x : Ext wz => zDt y4 N3.out.lt x
 have k5 := fun x : Ext wz => zDt y5 N3.out.lt x
 have yv := V3.out.cell 0; simp only [List.getElem?_toArray, List.getElem?_cons_zero] at yv
 have kv := fun x : Ext wz => zDt yv V3.out.lt x
 have Ta := Kh (fun x : Ext wz => zQa _ cap vs pa (w.heap.size + 1) x.1 ((H.out.vals.below B3.out).below x.2) (kv x) hla H.out.few (v := (xa : Int)) (by rw [hva]; exact hxa) (by rw [hva]; exact hposa))
 clear hposa hva hsa hfa; clear hQ hM hr16 hr h30
 refine zR5 16 (by kernel_rfl) (by kernel_rfl) ?_
 simp only [List.take_succ_cons, List.take_zero, List.drop_succ_cons, List.drop_zero]
 repeat go_big_quiet_step ((first | ((with_reducible show Calls _ _ #[.int .i64 (pa : Int), _] _ _); go_at_call 169; exact zDv _ (Ta.out _)) | (go_at_call 173; exact zDv _ (TM.out _))))
 refine wpQuiet_nil ?_
 intro wt hwt; obtain ⟨x, hwx⟩ := hwt; subst hwx; have B5 := Kh (B3.out.trans (x.2.mono B3.out.size)); have R5 := Kh (R3.out.below x.2 R3.out.lt)
 go_wp2_with (go_at_call 170; refine (zQe _ _).mono ?_; rintro e w4 ⟨g, rfl, hg, hbk, hb4⟩; have HG := Kh hbk; have HB4 := Kh (B5.out.trans (hb4.mono B5.out.size)); have R4 := Kh (R5.out.below hb4 R5.out.lt); clear hg hbk hb4; have q0 := R4.out.cell 0; have q1 := R4.out.frozen 0; simp only [List.getElem?_toArray, List.getElem?_cons_zero] at q0)
 obtain ⟨u0, hout⟩ := zQd R4.out HG.out HB4.out (by omega)
 exact bodyPost_ret (v := .agg #[.slice (some ⟨g, 0, none⟩) 1 1]) (by simp [results, Tryz.results129, go_sem, u0]) rfl hout
theorem zQ1 (A : Option Addr) (cap : Nat) (vs : List (List Int)) (L : List No) (n : No) (sf : Nat) (first capS : Array Value) (w : World) (h : VIn w A vs L n sf first capS) (hk : n.k = 31) :
 Calls Tryz.prog 129 #[.agg #[.int .i64 n.k, .int .i64 n.a, .int .i64 n.b, .int .i64 n.c, .int .i64 n.n, .int .i64 n.m, .int .i64 n.s.i, .int .i64 n.s.w, .string n.t], .slice A vs.length cap, .func (.func sf) first capS] w fun e w' => zAi w (zIm (fun p => (noAt L p).s) (fun p => vs.getD p.toNat []) n) e w' := by
 have H := Kh h; clear h; obtain ⟨nk, na, nb, nc, nn, nm, ⟨si, sw⟩, nt⟩ := n; obtain rfl : nk = 31 := hk; have B1 := bx w #[.int .i64 31, .int .i64 na, .int .i64 nb, .int .i64 nc, .int .i64 nn, .int .i64 nm, .int .i64 si, .int .i64 sw, .string nt] 42; have B2 := Kh (B1.out.alloc B1.out.size (.cells #[.slice A vs.length cap] 47)); have B3 := Kh (B2.out.alloc B2.out.size (.cells #[.slice none 0 0] 53)); have N1 := nx w #[.int .i64 31, .int .i64 na, .int .i64 nb, .int .i64 nc, .int .i64 nn, .int .i64 nm, .int .i64 si, .int .i64 sw, .string nt] 42; have N2 := Kh (N1.out.alloc (.cells #[.slice A vs.length cap] 47)); have N3 := Kh (N2.out.alloc (.cells #[.slice none 0 0] 53)); have V2 : Hid (Blk ((w.alloc (.cells #[.int .i64 31, .int .i64 na, .int .i64 nb, .int .i64 nc, .int .i64 nn, .int .i64 nm, .int .i64 si, .int .i64 sw, .string nt] 42)).alloc (.cells #[.slice A vs.length cap] 47)) (w.heap.size + 1) 47 #[.slice A vs.length cap]) := Blk.new_at _ _ _ (by simp)
 have V3 : Hid (Blk (((w.alloc (.cells #[.int .i64 31, .int .i64 na, .int .i64 nb, .int .i64 nc, .int .i64 nn, .int .i64 nm, .int .i64 si, .int .i64 sw, .string nt] 42)).alloc (.cells #[.slice A vs.length cap] 47)).alloc (.cells #[.slice none 0 0] 53)) (w.heap.size + 1) 47 #[.slice A vs.length cap]) := V2.out.alloc _; have R3 : Hid (Blk (((w.alloc (.cells #[.int .i64 31, .int .i64 na, .int .i64 nb, .int .i64 nc, .int .i64 nn, .int .i64 nm, .int .i64 si, .int .i64 sw, .string nt] 42)).alloc (.cells #[.slice A vs.length cap] 47)).alloc (.cells #[.slice none 0 0] 53)) (w.heap.size + 1 + 1) 53 #[.slice none 0 0]) := Blk.new_at _ _ _ (by simp)
 have hmf := mkf; have vw := zQf; have vc := zQb; have HP : Hid (zK1 31 = 1) := Kh (by decide)
 obtain ⟨⟨ha0, ha1⟩, hsa⟩ : (0 ≤ na ∧ na < (L.length : Int)) ∧ sortOk (noAt L na).s := H.out.inn.a (by show 0 < zK1 _; rw [HP.out]; decide)
 have hfa : zDw (noAt L na).s (vs.getD (na).toNat []) := H.out.fa (by show 0 < zK1 _; rw [HP.out]; decide)
 obtain ⟨pa, hpa⟩ : ∃ p : Nat, na = (p : Int) := ⟨na.toNat, by omega⟩
 subst hpa; have hla : pa < vs.length := by have := H.out.len; omega
 have hLa : pa < L.length := by omega
 replace hfa : zDw (noAt L (pa : Int)).s (vs.getD pa []) := hfa
 obtain ⟨va, hva⟩ : ∃ v, vs.getD pa [] = v := ⟨_, rfl⟩
 rw [hva] at hfa
 obtain ⟨hia, -, -, -, h31⟩ : (noAt L (pa : Int)).s.i = 0 ∧ si = 0 ∧ sw = (if (31 : Int) ≤ 2 then (noAt L (pa : Int)).s.w else if (31 : Int) ≤ 5 then 1 else if (31 : Int) = 30 then nn - nm + 1 else (noAt L (pa : Int)).s.w + nn) ∧
     ((31 : Int) = 30 → (0 ≤ nn ∧ nn ≤ (noAt L (pa : Int)).s.w - 1) ∧ 0 ≤ nm ∧ nm ≤ nn) ∧ ((31 : Int) = 31 ∨ (31 : Int) = 32 → 0 ≤ nn ∧ nn ≤ 16 - (noAt L (pa : Int)).s.w) := H.out.inn.sort1 (.inr (by show (30 : Int) ≤ 31 ∧ (31 : Int) ≤ 32; decide))
 obtain ⟨wa, xa, hswa, hxa, hwba, hxba, hposa⟩ := zQq hfa hsa hia; replace h31 := h31 (by decide)
 rw [hswa] at h31; dsimp only at h31; obtain ⟨q, rfl⟩ : ∃ q : Nat, nn = (q : Int) := ⟨nn.toNat, by omega⟩
 have TG := Kh (zEg wa xa q false hwba (by omega) hxba)
 have E : zIm (fun p => (noAt L p).s) (fun p => vs.getD p.toNat []) ⟨31, (pa : Int), nb, nc, (q : Int), nm, ⟨si, sw⟩, nt⟩ = [((zEe (noAt L (pa : Int)).s.w.toNat (hd0 (vs.getD pa [])).toNat q false : Nat) : Int)] := rfl
 rw [E, hva, hxa, hswa]; clear E; rw [show zEe ((wa : Nat) : Int).toNat ((xa : Nat) : Int).toNat q false = zEe wa xa q false from rfl]
 generalize zEe wa xa q false = V at *
 go_enter Tryz.func129, Tryz.ntmps129
 go_wp2_with fail
 clear B1 B2 N1 N2 V2; obtain ⟨wz, hwz⟩ : ∃ z, (((w.alloc (.cells #[.int .i64 31, .int .i64 (pa : Int), .int .i64 nb, .int .i64 nc, .int .i64 (q : Int), .int .i64 nm, .int .i64 si, .int .i64 sw, .string nt] 42)).alloc (.cells #[.slice A vs.length cap] 47)).alloc (.cells #[.slice none 0 0] 53)) = z := ⟨_, rfl⟩
 rw [hwz] at B3 N3 V3 R3 ⊢; clear hwz; obtain ⟨y0, y1, y2, y3, y4, y5, y6, y7, y8⟩ := N3.out.nine; have k0 := fun x : Ext wz => zDt y0 N3.out.lt x
 have k1 := fun x : Ext wz => zDt y1 N3.out.lt x
 have k2 := fun x : Ext wz => zDt y2 N3.out.lt x
 have k3 := fun x : Ext wz => zDt y3 N3.out.lt x
 have k4 := fun x : Ext wz => zDt y4 N3.out.lt x
 have k5 := fun x : Ext wz => zDt y5 N3.out.lt x
 have yv := V3.out.cell 0; simp only [List.getElem?_toArray, List.getElem?_cons_zero] at yv
 have kv := fun x : Ext wz => zDt yv V3.out.lt x
 have Ta := Kh (fun x : Ext wz => zQa _ cap vs pa (w.heap.size + 1) x.1 ((H.out.vals.below B3.out).below x.2) (kv x) hla H.out.few (v := (xa : Int)) (by rw [hva]; exact hxa) (by rw [hva]; exact hposa))
 have Sa := Kh (fun x : Ext wz => H.out.srt x.1 pa (B3.out.trans (x.2.mono B3.out.size)) hLa)
 rw [hswa] at Sa; dsimp only at Sa; clear hposa hva hsa hfa; clear h31; have hfd := zLh; have hse : ∀ (args : Array Value) (w : World), (callFunc sf args).run Tryz.prog w = .ok (.enter sf args) w := H.out.ent
 refine zR5 16 (by kernel_rfl) (by kernel_rfl) ?_
 simp only [List.take_succ_cons, List.take_zero, List.drop_succ_cons, List.drop_zero]
 repeat go_big_quiet_step ((first | ((with_reducible show Calls _ _ #[.int .i64 (pa : Int), _] _ _); go_at_call 169; exact zDv _ (Ta.out _)) | ((with_reducible show Calls _ sf _ _ _); exact zDs _ (Sa.out _)) | (go_at_call 174; exact zDv _ (TG.out _))))
 refine wpQuiet_nil ?_
 intro wt hwt; obtain ⟨x, hwx⟩ := hwt; subst hwx; have B5 := Kh (B3.out.trans (x.2.mono B3.out.size)); have R5 := Kh (R3.out.below x.2 R3.out.lt)
 go_wp2_with (go_at_call 170; refine (zQe _ _).mono ?_; rintro e w4 ⟨g, rfl, hg, hbk, hb4⟩; have HG := Kh hbk; have HB4 := Kh (B5.out.trans (hb4.mono B5.out.size)); have R4 := Kh (R5.out.below hb4 R5.out.lt); clear hg hbk hb4; have q0 := R4.out.cell 0; have q1 := R4.out.frozen 0; simp only [List.getElem?_toArray, List.getElem?_cons_zero] at q0)
 obtain ⟨u0, hout⟩ := zQd R4.out HG.out HB4.out (by omega)
 exact bodyPost_ret (v := .agg #[.slice (some ⟨g, 0, none⟩) 1 1]) (by simp [results, Tryz.results129, go_sem, u0]) rfl hout
theorem zQ2 (A : Option Addr) (cap : Nat) (vs : List (List Int)) (L : List No) (n : No) (sf : Nat) (first capS : Array Value) (w : World) (h : VIn w A vs L n sf first capS) (hk : n.k = 32) :
 Calls Tryz.prog 129 #[.agg #[.int .i64 n.k, .int .i64 n.a, .int .i64 n.b, .int .i64 n.c, .int .i64 n.n, .int .i64 n.m, .int .i64 n.s.i, .int .i64 n.s.w, .string n.t], .slice A vs.length cap, .func (.func sf) first capS] w fun e w' => zAi w (zIm (fun p => (noAt L p).s) (fun p => vs.getD p.toNat []) n) e w' := by
 have H := Kh h; clear h; obtain ⟨nk, na, nb, nc, nn, nm, ⟨si, sw⟩, nt⟩ := n; obtain rfl : nk = 32 := hk; have B1 := bx w #[.int .i64 32, .int .i64 na, .int .i64 nb, .int .i64 nc, .int .i64 nn, .int .i64 nm, .int .i64 si, .int .i64 sw, .string nt] 42; have B2 := Kh (B1.out.alloc B1.out.size (.cells #[.slice A vs.length cap] 47)); have B3 := Kh (B2.out.alloc B2.out.size (.cells #[.slice none 0 0] 53)); have N1 := nx w #[.int .i64 32, .int .i64 na, .int .i64 nb, .int .i64 nc, .int .i64 nn, .int .i64 nm, .int .i64 si, .int .i64 sw, .string nt] 42; have N2 := Kh (N1.out.alloc (.cells #[.slice A vs.length cap] 47)); have N3 := Kh (N2.out.alloc (.cells #[.slice none 0 0] 53)); have V2 : Hid (Blk ((w.alloc (.cells #[.int .i64 32, .int .i64 na, .int .i64 nb, .int .i64 nc, .int .i64 nn, .int .i64 nm, .int .i64 si, .int .i64 sw, .string nt] 42)).alloc (.cells #[.slice A vs.length cap] 47)) (w.heap.size + 1) 47 #[.slice A vs.length cap]) := Blk.new_at _ _ _ (by simp)
 have V3 : Hid (Blk (((w.alloc (.cells #[.int .i64 32, .int .i64 na, .int .i64 nb, .int .i64 nc, .int .i64 nn, .int .i64 nm, .int .i64 si, .int .i64 sw, .string nt] 42)).alloc (.cells #[.slice A vs.length cap] 47)).alloc (.cells #[.slice none 0 0] 53)) (w.heap.size + 1) 47 #[.slice A vs.length cap]) := V2.out.alloc _; have R3 : Hid (Blk (((w.alloc (.cells #[.int .i64 32, .int .i64 na, .int .i64 nb, .int .i64 nc, .int .i64 nn, .int .i64 nm, .int .i64 si, .int .i64 sw, .string nt] 42)).alloc (.cells #[.slice A vs.length cap] 47)).alloc (.cells #[.slice none 0 0] 53)) (w.heap.size + 1 + 1) 53 #[.slice none 0 0]) := Blk.new_at _ _ _ (by simp)
 have hmf := mkf; have vw := zQf; have vc := zQb; have HP : Hid (zK1 32 = 1) := Kh (by decide)
 obtain ⟨⟨ha0, ha1⟩, hsa⟩ : (0 ≤ na ∧ na < (L.length : Int)) ∧ sortOk (noAt L na).s := H.out.inn.a (by show 0 < zK1 _; rw [HP.out]; decide)
 have hfa : zDw (noAt L na).s (vs.getD (na).toNat []) := H.out.fa (by show 0 < zK1 _; rw [HP.out]; decide)
 obtain ⟨pa, hpa⟩ : ∃ p : Nat, na = (p : Int) := ⟨na.toNat, by omega⟩
 subst hpa; have hla : pa < vs.length := by have := H.out.len; omega
 have hLa : pa < L.length := by omega
 replace hfa : zDw (noAt L (pa : Int)).s (vs.getD pa []) := hfa
 obtain ⟨va, hva⟩ : ∃ v, vs.getD pa [] = v := ⟨_, rfl⟩
 rw [hva] at hfa
 obtain ⟨hia, -, -, -, h31⟩ : (noAt L (pa : Int)).s.i = 0 ∧ si = 0 ∧ sw = (if (32 : Int) ≤ 2 then (noAt L (pa : Int)).s.w else if (32 : Int) ≤ 5 then 1 else if (32 : Int) = 30 then nn - nm + 1 else (noAt L (pa : Int)).s.w + nn) ∧
     ((32 : Int) = 30 → (0 ≤ nn ∧ nn ≤ (noAt L (pa : Int)).s.w - 1) ∧ 0 ≤ nm ∧ nm ≤ nn) ∧ ((32 : Int) = 31 ∨ (32 : Int) = 32 → 0 ≤ nn ∧ nn ≤ 16 - (noAt L (pa : Int)).s.w) := H.out.inn.sort1 (.inr (by show (30 : Int) ≤ 32 ∧ (32 : Int) ≤ 32; decide))
 obtain ⟨wa, xa, hswa, hxa, hwba, hxba, hposa⟩ := zQq hfa hsa hia; replace h31 := h31 (by decide)
 rw [hswa] at h31; dsimp only at h31; obtain ⟨q, rfl⟩ : ∃ q : Nat, nn = (q : Int) := ⟨nn.toNat, by omega⟩
 have TG := Kh (zEg wa xa q true hwba (by omega) hxba)
 have E : zIm (fun p => (noAt L p).s) (fun p => vs.getD p.toNat []) ⟨32, (pa : Int), nb, nc, (q : Int), nm, ⟨si, sw⟩, nt⟩ = [((zEe (noAt L (pa : Int)).s.w.toNat (hd0 (vs.getD pa [])).toNat q true : Nat) : Int)] := rfl
 rw [E, hva, hxa, hswa]; clear E; rw [show zEe ((wa : Nat) : Int).toNat ((xa : Nat) : Int).toNat q true = zEe wa xa q true from rfl]
 generalize zEe wa xa q true = V at *
 go_enter Tryz.func129, Tryz.ntmps129
 go_wp2_with fail
 clear B1 B2 N1 N2 V2; obtain ⟨wz, hwz⟩ : ∃ z, (((w.alloc (.cells #[.int .i64 32, .int .i64 (pa : Int), .int .i64 nb, .int .i64 nc, .int .i64 (q : Int), .int .i64 nm, .int .i64 si, .int .i64 sw, .string nt] 42)).alloc (.cells #[.slice A vs.length cap] 47)).alloc (.cells #[.slice none 0 0] 53)) = z := ⟨_, rfl⟩
 rw [hwz] at B3 N3 V3 R3 ⊢; clear hwz; obtain ⟨y0, y1, y2, y3, y4, y5, y6, y7, y8⟩ := N3.out.nine; have k0 := fun x : Ext wz => zDt y0 N3.out.lt x
 have k1 := fun x : Ext wz => zDt y1 N3.out.lt x
 have k2 := fun x : Ext wz => zDt y2 N3.out.lt x
 have k3 := fun x : Ext wz => zDt y3 N3.out.lt x
 have k4 := fun x : Ext wz => zDt y4 N3.out.lt x
 have k5 := fun x : Ext wz => zDt y5 N3.out.lt x
 have yv := V3.out.cell 0; simp only [List.getElem?_toArray, List.getElem?_cons_zero] at yv
 have kv := fun x : Ext wz => zDt yv V3.out.lt x
 have Ta := Kh (fun x : Ext wz => zQa _ cap vs pa (w.heap.size + 1) x.1 ((H.out.vals.below B3.out).below x.2) (kv x) hla H.out.few (v := (xa : Int)) (by rw [hva]; exact hxa) (by rw [hva]; exact hposa))
 have Sa := Kh (fun x : Ext wz => H.out.srt x.1 pa (B3.out.trans (x.2.mono B3.out.size)) hLa)
 rw [hswa] at Sa; dsimp only at Sa; clear hposa hva hsa hfa; clear h31; have hfd := zLh; have hse : ∀ (args : Array Value) (w : World), (callFunc sf args).run Tryz.prog w = .ok (.enter sf args) w := H.out.ent
 refine zR5 16 (by kernel_rfl) (by kernel_rfl) ?_
 simp only [List.take_succ_cons, List.take_zero, List.drop_succ_cons, List.drop_zero]
 repeat go_big_quiet_step ((first | ((with_reducible show Calls _ _ #[.int .i64 (pa : Int), _] _ _); go_at_call 169; exact zDv _ (Ta.out _)) | ((with_reducible show Calls _ sf _ _ _); exact zDs _ (Sa.out _)) | (go_at_call 174; exact zDv _ (TG.out _))))
 refine wpQuiet_nil ?_
 intro wt hwt; obtain ⟨x, hwx⟩ := hwt; subst hwx; have B5 := Kh (B3.out.trans (x.2.mono B3.out.size)); have R5 := Kh (R3.out.below x.2 R3.out.lt)
 go_wp2_with (go_at_call 170; refine (zQe _ _).mono ?_; rintro e w4 ⟨g, rfl, hg, hbk, hb4⟩; have HG := Kh hbk; have HB4 := Kh (B5.out.trans (hb4.mono B5.out.size)); have R4 := Kh (R5.out.below hb4 R5.out.lt); clear hg hbk hb4; have q0 := R4.out.cell 0; have q1 := R4.out.frozen 0; simp only [List.getElem?_toArray, List.getElem?_cons_zero] at q0)
 obtain ⟨u0, hout⟩ := zQd R4.out HG.out HB4.out (by omega)
 exact bodyPost_ret (v := .agg #[.slice (some ⟨g, 0, none⟩) 1 1]) (by simp [results, Tryz.results129, go_sem, u0]) rfl hout
theorem zQ8 (A : Option Addr) (cap : Nat) (vs : List (List Int)) (L : List No) (n : No) (sf : Nat) (first capS : Array Value) (w : World) (h : VIn w A vs L n sf first capS) (hk : 1 ≤ n.k ∧ n.k ≤ 5) :
 Calls Tryz.prog 129 #[.agg #[.int .i64 n.k, .int .i64 n.a, .int .i64 n.b, .int .i64 n.c, .int .i64 n.n, .int .i64 n.m, .int .i64 n.s.i, .int .i64 n.s.w, .string n.t], .slice A vs.length cap, .func (.func sf) first capS] w fun e w' => zAi w (zIm (fun p => (noAt L p).s) (fun p => vs.getD p.toNat []) n) e w' := by
 have H := Kh h; clear h; obtain ⟨nk, na, nb, nc, nn, nm, ⟨si, sw⟩, nt⟩ := n; have hk : 1 ≤ nk ∧ nk ≤ 5 := hk; have B1 := bx w #[.int .i64 nk, .int .i64 na, .int .i64 nb, .int .i64 nc, .int .i64 nn, .int .i64 nm, .int .i64 si, .int .i64 sw, .string nt] 42; have B2 := Kh (B1.out.alloc B1.out.size (.cells #[.slice A vs.length cap] 47)); have B3 := Kh (B2.out.alloc B2.out.size (.cells #[.slice none 0 0] 53)); have N1 := nx w #[.int .i64 nk, .int .i64 na, .int .i64 nb, .int .i64 nc, .int .i64 nn, .int .i64 nm, .int .i64 si, .int .i64 sw, .string nt] 42; have N2 := Kh (N1.out.alloc (.cells #[.slice A vs.length cap] 47)); have N3 := Kh (N2.out.alloc (.cells #[.slice none 0 0] 53)); have V2 : Hid (Blk ((w.alloc (.cells #[.int .i64 nk, .int .i64 na, .int .i64 nb, .int .i64 nc, .int .i64 nn, .int .i64 nm, .int .i64 si, .int .i64 sw, .string nt] 42)).alloc (.cells #[.slice A vs.length cap] 47)) (w.heap.size + 1) 47 #[.slice A vs.length cap]) := Blk.new_at _ _ _ (by simp)
 have V3 : Hid (Blk (((w.alloc (.cells #[.int .i64 nk, .int .i64 na, .int .i64 nb, .int .i64 nc, .int .i64 nn, .int .i64 nm, .int .i64 si, .int .i64 sw, .string nt] 42)).alloc (.cells #[.slice A vs.length cap] 47)).alloc (.cells #[.slice none 0 0] 53)) (w.heap.size + 1) 47 #[.slice A vs.length cap]) := V2.out.alloc _; have R3 : Hid (Blk (((w.alloc (.cells #[.int .i64 nk, .int .i64 na, .int .i64 nb, .int .i64 nc, .int .i64 nn, .int .i64 nm, .int .i64 si, .int .i64 sw, .string nt] 42)).alloc (.cells #[.slice A vs.length cap] 47)).alloc (.cells #[.slice none 0 0] 53)) (w.heap.size + 1 + 1) 53 #[.slice none 0 0]) := Blk.new_at _ _ _ (by simp)
 have hmf := mkf; have vw := zQf; have vc := zQb; obtain ⟨k, rfl⟩ : ∃ k : Nat, nk = (k : Int) := ⟨nk.toNat, by omega⟩
 have hk' : 1 ≤ k ∧ k ≤ 5 := by omega
 have HP : Hid (zK1 (k : Int) = 1) := Kh (zJy (.inl (by omega)))
 obtain ⟨⟨ha0, ha1⟩, hsa⟩ : (0 ≤ na ∧ na < (L.length : Int)) ∧ sortOk (noAt L na).s := H.out.inn.a (by show 0 < zK1 _; rw [HP.out]; decide)
 have hfa : zDw (noAt L na).s (vs.getD (na).toNat []) := H.out.fa (by show 0 < zK1 _; rw [HP.out]; decide)
 obtain ⟨pa, hpa⟩ : ∃ p : Nat, na = (p : Int) := ⟨na.toNat, by omega⟩
 subst hpa; have hla : pa < vs.length := by have := H.out.len; omega
 have hLa : pa < L.length := by omega
 replace hfa : zDw (noAt L (pa : Int)).s (vs.getD pa []) := hfa
 obtain ⟨va, hva⟩ : ∃ v, vs.getD pa [] = v := ⟨_, rfl⟩
 rw [hva] at hfa; have hia : (noAt L (pa : Int)).s.i = 0 := (H.out.inn.sort1 (.inl (by exact hk))).1
 obtain ⟨wa, xa, hswa, hxa, hwba, hxba, hposa⟩ := zQq hfa hsa hia; have T1 := Kh (one_is k wa xa hk' hwba hxba)
 have E : zIm (fun p => (noAt L p).s) (fun p => vs.getD p.toNat []) ⟨(k : Int), (pa : Int), nb, nc, nn, nm, ⟨si, sw⟩, nt⟩ = [((zIx k (noAt L (pa : Int)).s.w.toNat (hd0 (vs.getD pa [])).toNat : Nat) : Int)] := by
  unfold zIm; dsimp only; rw [if_neg (by omega), if_neg (by omega), if_neg (by omega), if_neg (by omega), if_neg (by omega), if_neg (by omega), if_neg (by omega), if_neg (by omega), if_pos (by omega)]
  rfl
 rw [E, hva, hxa, hswa]; clear E; rw [show zIx k ((wa : Nat) : Int).toNat ((xa : Nat) : Int).toNat = zIx k wa xa from rfl]
 generalize zIx k wa xa = V at *; have d34 : ((k : Int) == 34) = false := by simp only [beq_eq_false_iff_ne]; omega
 have d33 : ((k : Int) == 33) = false := by simp only [beq_eq_false_iff_ne]; omega
 have d21 : ((k : Int) == 21) = false := by simp only [beq_eq_false_iff_ne]; omega
 have d37 : ((k : Int) == 37) = false := by simp only [beq_eq_false_iff_ne]; omega
 have d38 : ((k : Int) == 38) = false := by simp only [beq_eq_false_iff_ne]; omega
 have d29 : ((k : Int) == 29) = false := by simp only [beq_eq_false_iff_ne]; omega
 have d30 : ((k : Int) == 30) = false := by simp only [beq_eq_false_iff_ne]; omega
 have d31 : ((k : Int) == 31) = false := by simp only [beq_eq_false_iff_ne]; omega
 have d32 : ((k : Int) == 32) = false := by simp only [beq_eq_false_iff_ne]; omega
 clear hk hk'
 go_enter Tryz.func129, Tryz.ntmps129
 go_wp2_with (go_at_call 98; refine (zK6 _ _).mono ?_; rintro e w4 ⟨rfl, rfl⟩; rw [HP.out])
 clear B1 B2 N1 N2 V2; obtain ⟨wz, hwz⟩ : ∃ z, (((w.alloc (.cells #[.int .i64 (k : Int), .int .i64 (pa : Int), .int .i64 nb, .int .i64 nc, .int .i64 nn, .int .i64 nm, .int .i64 si, .int .i64 sw, .string nt] 42)).alloc (.cells #[.slice A vs.length cap] 47)).alloc (.cells #[.slice none 0 0] 53)) = z := ⟨_, rfl⟩
 rw [hwz] at B3 N3 V3 R3 ⊢; clear hwz; obtain ⟨y0, y1, y2, y3, y4, y5, y6, y7, y8⟩ := N3.out.nine; have k0 := fun x : Ext wz => zDt y0 N3.out.lt x
 have k1 := fun x : Ext wz => zDt y1 N3.out.lt x
 have k2 := fun x : Ext wz => zDt y2 N3.out.lt x
 have k3 := fun x : Ext wz => zDt y3 N3.out.lt x
 have k4 := fun x : Ext wz => zDt y4 N3.out.lt x
 have k5 := fun x : Ext wz => zDt y5 N3.out.lt x
 have yv := V3.out.cell 0; simp only [List.getElem?_toArray, List.getElem?_cons_zero] at yv
 have kv := fun x : Ext wz => zDt yv V3.out.lt x
 have Ta := Kh (fun x : Ext wz => zQa _ cap vs pa (w.heap.size + 1) x.1 ((H.out.vals.below B3.out).below x.2) (kv x) hla H.out.few (v := (xa : Int)) (by rw [hva]; exact hxa) (by rw [hva]; exact hposa))
 have Sa := Kh (fun x : Ext wz => H.out.srt x.1 pa (B3.out.trans (x.2.mono B3.out.size)) hLa)
 rw [hswa] at Sa; dsimp only at Sa; clear hposa hva hsa hfa; have hfd := zLh; have hse : ∀ (args : Array Value) (w : World), (callFunc sf args).run Tryz.prog w = .ok (.enter sf args) w := H.out.ent
 refine zR4 (by kernel_rfl) (by kernel_rfl) ?_
 repeat go_big_quiet_step ((first | ((with_reducible show Calls _ _ #[.int .i64 (pa : Int), _] _ _); go_at_call 169; exact zDv _ (Ta.out _)) | ((with_reducible show Calls _ sf _ _ _); exact zDs _ (Sa.out _)) | (go_at_call 175; exact zDv _ (T1.out _))))
 refine wpQuiet_nil ?_
 intro wt hwt; obtain ⟨x, hwx⟩ := hwt; subst hwx; have B5 := Kh (B3.out.trans (x.2.mono B3.out.size)); have R5 := Kh (R3.out.below x.2 R3.out.lt)
 go_wp2_with (go_at_call 170; refine (zQe _ _).mono ?_; rintro e w4 ⟨g, rfl, hg, hbk, hb4⟩; have HG := Kh hbk; have HB4 := Kh (B5.out.trans (hb4.mono B5.out.size)); have R4 := Kh (R5.out.below hb4 R5.out.lt); clear hg hbk hb4; have q0 := R4.out.cell 0; have q1 := R4.out.frozen 0; simp only [List.getElem?_toArray, List.getElem?_cons_zero] at q0)
 obtain ⟨u0, hout⟩ := zQd R4.out HG.out HB4.out (by omega)
 exact bodyPost_ret (v := .agg #[.slice (some ⟨g, 0, none⟩) 1 1]) (by simp [results, Tryz.results129, go_sem, u0]) rfl hout
theorem zQ9 (A : Option Addr) (cap : Nat) (vs : List (List Int)) (L : List No) (n : No) (sf : Nat) (first capS : Array Value) (w : World) (h : VIn w A vs L n sf first capS) (hk : (6 ≤ n.k ∧ n.k ≤ 28) ∧ n.k ≠ 21) :
 Calls Tryz.prog 129 #[.agg #[.int .i64 n.k, .int .i64 n.a, .int .i64 n.b, .int .i64 n.c, .int .i64 n.n, .int .i64 n.m, .int .i64 n.s.i, .int .i64 n.s.w, .string n.t], .slice A vs.length cap, .func (.func sf) first capS] w fun e w' => zAi w (zIm (fun p => (noAt L p).s) (fun p => vs.getD p.toNat []) n) e w' := by
 have H := Kh h; clear h; obtain ⟨nk, na, nb, nc, nn, nm, ⟨si, sw⟩, nt⟩ := n; have hk : (6 ≤ nk ∧ nk ≤ 28) ∧ nk ≠ 21 := hk; have B1 := bx w #[.int .i64 nk, .int .i64 na, .int .i64 nb, .int .i64 nc, .int .i64 nn, .int .i64 nm, .int .i64 si, .int .i64 sw, .string nt] 42; have B2 := Kh (B1.out.alloc B1.out.size (.cells #[.slice A vs.length cap] 47)); have B3 := Kh (B2.out.alloc B2.out.size (.cells #[.slice none 0 0] 53)); have N1 := nx w #[.int .i64 nk, .int .i64 na, .int .i64 nb, .int .i64 nc, .int .i64 nn, .int .i64 nm, .int .i64 si, .int .i64 sw, .string nt] 42; have N2 := Kh (N1.out.alloc (.cells #[.slice A vs.length cap] 47)); have N3 := Kh (N2.out.alloc (.cells #[.slice none 0 0] 53)); have V2 : Hid (Blk ((w.alloc (.cells #[.int .i64 nk, .int .i64 na, .int .i64 nb, .int .i64 nc, .int .i64 nn, .int .i64 nm, .int .i64 si, .int .i64 sw, .string nt] 42)).alloc (.cells #[.slice A vs.length cap] 47)) (w.heap.size + 1) 47 #[.slice A vs.length cap]) := Blk.new_at _ _ _ (by simp)
 have V3 : Hid (Blk (((w.alloc (.cells #[.int .i64 nk, .int .i64 na, .int .i64 nb, .int .i64 nc, .int .i64 nn, .int .i64 nm, .int .i64 si, .int .i64 sw, .string nt] 42)).alloc (.cells #[.slice A vs.length cap] 47)).alloc (.cells #[.slice none 0 0] 53)) (w.heap.size + 1) 47 #[.slice A vs.length cap]) := V2.out.alloc _; have R3 : Hid (Blk (((w.alloc (.cells #[.int .i64 nk, .int .i64 na, .int .i64 nb, .int .i64 nc, .int .i64 nn, .int .i64 nm, .int .i64 si, .int .i64 sw, .string nt] 42)).alloc (.cells #[.slice A vs.length cap] 47)).alloc (.cells #[.slice none 0 0] 53)) (w.heap.size + 1 + 1) 53 #[.slice none 0 0]) := Blk.new_at _ _ _ (by simp)
 have hmf := mkf; have vw := zQf; have vc := zQb; obtain ⟨k, rfl⟩ : ∃ k : Nat, nk = (k : Int) := ⟨nk.toNat, by omega⟩
 have hk' : 6 ≤ k ∧ k ≤ 28 := by omega
 have HP : Hid (zK1 (k : Int) = 2) := Kh (zJz (.inl (by omega)))
 obtain ⟨⟨ha0, ha1⟩, hsa⟩ : (0 ≤ na ∧ na < (L.length : Int)) ∧ sortOk (noAt L na).s := H.out.inn.a (by show 0 < zK1 _; rw [HP.out]; decide)
 have hfa : zDw (noAt L na).s (vs.getD (na).toNat []) := H.out.fa (by show 0 < zK1 _; rw [HP.out]; decide)
 obtain ⟨pa, hpa⟩ : ∃ p : Nat, na = (p : Int) := ⟨na.toNat, by omega⟩
 subst hpa; have hla : pa < vs.length := by have := H.out.len; omega
 have hLa : pa < L.length := by omega
 replace hfa : zDw (noAt L (pa : Int)).s (vs.getD pa []) := hfa
 obtain ⟨va, hva⟩ : ∃ v, vs.getD pa [] = v := ⟨_, rfl⟩
 rw [hva] at hfa; obtain ⟨⟨hb0, hb1⟩, hsb⟩ : (0 ≤ nb ∧ nb < (L.length : Int)) ∧ sortOk (noAt L nb).s := H.out.inn.b (by show 1 < zK1 _; rw [HP.out]; decide)
 have hfb : zDw (noAt L nb).s (vs.getD (nb).toNat []) := H.out.fb (by show 1 < zK1 _; rw [HP.out]; decide)
 obtain ⟨pb, hpb⟩ : ∃ p : Nat, nb = (p : Int) := ⟨nb.toNat, by omega⟩
 subst hpb; have hlb : pb < vs.length := by have := H.out.len; omega
 have hLb : pb < L.length := by omega
 replace hfb : zDw (noAt L (pb : Int)).s (vs.getD pb []) := hfb
 obtain ⟨vb, hvb⟩ : ∃ v, vs.getD pb [] = v := ⟨_, rfl⟩
 rw [hvb] at hfb; have hab := H.out.inn.sort2 (by exact hk.1) (by exact hk.2)
 have hia : (noAt L (pa : Int)).s.i = 0 := hab.1; have hib : (noAt L (pb : Int)).s = (noAt L (pa : Int)).s := hab.2.1; clear hab; rw [hib] at hfb hsb
 obtain ⟨xb, hxb⟩ : ∃ x : Nat, hd0 vb = (x : Int) ∧ zQi (noAt L (pa : Int)).s.w (x : Int) := by
  obtain ⟨_, vn, _, h2, _⟩ := zQm (zDx hfb hsb)
  exact ⟨vn, h2, h2 ▸ zDx hfb hsb⟩
 have hposb : 0 < vb.length := by rw [hfb.1, zCi hia hsb]; omega
 obtain ⟨wa, xa, hswa, hxa, hwba, hxba, hposa⟩ := zQq hfa hsa hia
 have hxbb : xb < 2 ^ wa := by
  have h1 := hxb.2.2.2; rw [hswa] at h1; have h2 : (xb : Int) ≤ ((2 ^ wa : Nat) : Int) - 1 := h1; omega
 replace hxb := hxb.1
 have T2 := Kh (two_is k wa xa xb hk' hwba hxba hxbb)
 have E : zIm (fun p => (noAt L p).s) (fun p => vs.getD p.toNat []) ⟨(k : Int), (pa : Int), (pb : Int), nc, nn, nm, ⟨si, sw⟩, nt⟩ = [((zPu k (noAt L (pa : Int)).s.w.toNat (hd0 (vs.getD pa [])).toNat (hd0 (vs.getD pb [])).toNat : Nat) : Int)] := by
  unfold zIm; dsimp only; rw [if_neg (by omega), if_neg (by omega), if_neg (by omega), if_neg (by omega), if_neg (by omega), if_neg (by omega), if_neg (by omega), if_neg (by omega), if_neg (by omega)]
  rfl
 rw [E, hva, hvb, hxa, hxb, hswa]; clear E; rw [show zPu k ((wa : Nat) : Int).toNat ((xa : Nat) : Int).toNat ((xb : Nat) : Int).toNat = zPu k wa xa xb from rfl]
 generalize zPu k wa xa xb = V at *; have d34 : ((k : Int) == 34) = false := by simp only [beq_eq_false_iff_ne]; omega
 have d33 : ((k : Int) == 33) = false := by simp only [beq_eq_false_iff_ne]; omega
 have d21 : ((k : Int) == 21) = false := by simp only [beq_eq_false_iff_ne]; omega
 have d37 : ((k : Int) == 37) = false := by simp only [beq_eq_false_iff_ne]; omega
 have d38 : ((k : Int) == 38) = false := by simp only [beq_eq_false_iff_ne]; omega
 have d29 : ((k : Int) == 29) = false := by simp only [beq_eq_false_iff_ne]; omega
 have d30 : ((k : Int) == 30) = false := by simp only [beq_eq_false_iff_ne]; omega
 have d31 : ((k : Int) == 31) = false := by simp only [beq_eq_false_iff_ne]; omega
 have d32 : ((k : Int) == 32) = false := by simp only [beq_eq_false_iff_ne]; omega
 clear hk hk'
 go_enter Tryz.func129, Tryz.ntmps129
 go_wp2_with (go_at_call 98; refine (zK6 _ _).mono ?_; rintro e w4 ⟨rfl, rfl⟩; rw [HP.out])
 clear B1 B2 N1 N2 V2; obtain ⟨wz, hwz⟩ : ∃ z, (((w.alloc (.cells #[.int .i64 (k : Int), .int .i64 (pa : Int), .int .i64 (pb : Int), .int .i64 nc, .int .i64 nn, .int .i64 nm, .int .i64 si, .int .i64 sw, .string nt] 42)).alloc (.cells #[.slice A vs.length cap] 47)).alloc (.cells #[.slice none 0 0] 53)) = z := ⟨_, rfl⟩
 rw [hwz] at B3 N3 V3 R3 ⊢; clear hwz; obtain ⟨y0, y1, y2, y3, y4, y5, y6, y7, y8⟩ := N3.out.nine; have k0 := fun x : Ext wz => zDt y0 N3.out.lt x
 have k1 := fun x : Ext wz => zDt y1 N3.out.lt x
 have k2 := fun x : Ext wz => zDt y2 N3.out.lt x
 have k3 := fun x : Ext wz => zDt y3 N3.out.lt x
 have k4 := fun x : Ext wz => zDt y4 N3.out.lt x
 have k5 := fun x : Ext wz => zDt y5 N3.out.lt x
 have yv := V3.out.cell 0; simp only [List.getElem?_toArray, List.getElem?_cons_zero] at yv
 have kv := fun x : Ext wz => zDt yv V3.out.lt x
 have Ta := Kh (fun x : Ext wz => zQa _ cap vs pa (w.heap.size + 1) x.1 ((H.out.vals.below B3.out).below x.2) (kv x) hla H.out.few (v := (xa : Int)) (by rw [hva]; exact hxa) (by rw [hva]; exact hposa))
 have Tb := Kh (fun x : Ext wz => zQa _ cap vs pb (w.heap.size + 1) x.1 ((H.out.vals.below B3.out).below x.2) (kv x) hlb H.out.few (v := (xb : Int)) (by rw [hvb]; exact hxb) (by rw [hvb]; exact hposb))
 have Sa := Kh (fun x : Ext wz => H.out.srt x.1 pa (B3.out.trans (x.2.mono B3.out.size)) hLa)
 rw [hswa] at Sa; dsimp only at Sa; clear hposa hva hsa hfa hposb hvb hsb hfb; have hfd := zLh; have hse : ∀ (args : Array Value) (w : World), (callFunc sf args).run Tryz.prog w = .ok (.enter sf args) w := H.out.ent
 refine zR4 (by kernel_rfl) (by kernel_rfl) ?_
 repeat go_big_quiet_step ((first | ((with_reducible show Calls _ _ #[.int .i64 (pa : Int), _] _ _); go_at_call 169; exact zDv _ (Ta.out _)) | ((with_reducible show Calls _ _ #[.int .i64 (pb : Int), _] _ _); go_at_call 169; exact zDv _ (Tb.out _)) | ((with_reducible show Calls _ sf _ _ _); exact zDs _ (Sa.out _)) | (go_at_call 176; exact zDs _ (T2.out _))))
 refine wpQuiet_nil ?_
 intro wt hwt; obtain ⟨x, hwx⟩ := hwt; subst hwx; have B5 := Kh (B3.out.trans (x.2.mono B3.out.size)); have R5 := Kh (R3.out.below x.2 R3.out.lt)
 go_wp2_with (go_at_call 170; refine (zQe _ _).mono ?_; rintro e w4 ⟨g, rfl, hg, hbk, hb4⟩; have HG := Kh hbk; have HB4 := Kh (B5.out.trans (hb4.mono B5.out.size)); have R4 := Kh (R5.out.below hb4 R5.out.lt); clear hg hbk hb4; have q0 := R4.out.cell 0; have q1 := R4.out.frozen 0; simp only [List.getElem?_toArray, List.getElem?_cons_zero] at q0)
 obtain ⟨u0, hout⟩ := zQd R4.out HG.out HB4.out (by omega)
 exact bodyPost_ret (v := .agg #[.slice (some ⟨g, 0, none⟩) 1 1]) (by simp [results, Tryz.results129, go_sem, u0]) rfl hout
theorem zQ7 (A : Option Addr) (cap : Nat) (vs : List (List Int)) (L : List No) (n : No) (sf : Nat) (first capS : Array Value) (w : World) (h : VIn w A vs L n sf first capS) (hk : ¬ (n.k = 35 ∨ n.k = 36)) :
 Calls Tryz.prog 129 #[.agg #[.int .i64 n.k, .int .i64 n.a, .int .i64 n.b, .int .i64 n.c, .int .i64 n.n, .int .i64 n.m, .int .i64 n.s.i, .int .i64 n.s.w, .string n.t], .slice A vs.length cap, .func (.func sf) first capS] w fun e w' => zAi w (zIm (fun p => (noAt L p).s) (fun p => vs.getD p.toNat []) n) e w' := by
 have hb := h.inn.kind
 by_cases c1 : n.k ≤ 5
 · exact zQ8 A cap vs L n sf first capS w h (by omega)
 by_cases c2 : n.k = 21
 · exact zPy A cap vs L n sf first capS w h c2
 by_cases c3 : n.k ≤ 28
 · exact zQ9 A cap vs L n sf first capS w h (by omega)
 by_cases c4 : n.k = 29
 · exact zPz A cap vs L n sf first capS w h c4
 by_cases c5 : n.k = 30
 · exact zQ0 A cap vs L n sf first capS w h c5
 by_cases c6 : n.k = 31
 · exact zQ1 A cap vs L n sf first capS w h c6
 by_cases c7 : n.k = 32
 · exact zQ2 A cap vs L n sf first capS w h c7
 by_cases c8 : n.k = 33
 · exact zQ3 A cap vs L n sf first capS w h c8
 by_cases c9 : n.k = 34
 · exact zQ4 A cap vs L n sf first capS w h c9
 by_cases c10 : n.k = 37
 · exact zQ5 A cap vs L n sf first capS w h c10
 · exact zQ6 A cap vs L n sf first capS w h (by omega)
end Go.Proofs.YtmolbnghobfmoaaGreat
