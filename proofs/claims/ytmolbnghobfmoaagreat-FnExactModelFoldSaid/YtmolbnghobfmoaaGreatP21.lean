/- Part 21 of what the row Row28 rests on: F20. -/
import Derived.Test.YtmolbnghobfmoaaGreatP20
set_option maxRecDepth 100000
set_option maxHeartbeats 16000000
set_option linter.unusedSimpArgs false
set_option linter.unusedVariables false
namespace Go.Proofs.YtmolbnghobfmoaaGreat
open Go.RowKit
structure VIn (w : World) (A : Option Addr) (vs : List (List Int)) (L : List No) (n : No) (sf : Nat) (first capS : Array Value) : Prop where
 vals : VAt w A vs
 few : vs.length ≤ 1048576
 len : L.length ≤ vs.length
 inn : zAa L n
 fa : 0 < zK1 n.k → zDw (noAt L n.a).s (vs.getD n.a.toNat [])
 fb : 1 < zK1 n.k → zDw (noAt L n.b).s (vs.getD n.b.toNat [])
 fc : 2 < zK1 n.k → zDw (noAt L n.c).s (vs.getD n.c.toNat [])
 ent : Enters Tryz.prog sf
 srt : ∀ W p, Below w.heap.size w W → p < L.length → Calls Tryz.prog sf (first.push (.int .i64 (p : Int)) ++ capS) W fun e w' => e = .returned (.agg #[.int .i64 (noAt L p).s.i, .int .i64 (noAt L p).s.w]) ∧ Below W.heap.size W w'
def zAi (w : World) (X : List Int) (e : Ending) (w' : World) : Prop := ∃ B c, e = .returned (.agg #[.slice B X.length c]) ∧ IAt w' B X ∧ (B = none → c = 0) ∧ Below w.heap.size w w'
theorem zEp {w : World} {g : Nat} {v : Int} (h : Blk w g 3 #[.int .i64 v]) : IAt w (some ⟨g, 0, none⟩) [v] := fun _ => ⟨g, rfl, h.lt, fun k hk => by
 obtain rfl : k = 0 := by simp at hk; omega
 rw [h.cell]; rfl⟩
theorem zQc {w : World} {A : Option Addr} {vs : List (List Int)} (h : VAt w A vs) {p : Nat} (hp : p < vs.length) : ∃ g, A = some ⟨g, 0, none⟩ ∧ g < w.heap.size ∧ ∃ B c, w.cell? ⟨g, p, none⟩ = some (.slice B (vs.getD p []).length c) ∧ IAt w B (vs.getD p []) ∧ (B = none → c = 0) := by
 obtain ⟨g, rfl, hg, hc⟩ := h (by omega)
 obtain ⟨B, c, h1⟩ := hc p hp; have e : vs.getD p [] = vs[p] := by rw [List.getD_eq_getElem?_getD, List.getElem?_eq_getElem hp]; rfl
 rw [e]
 exact ⟨g, rfl, hg, B, c, h1⟩
theorem zLh (a b : Int) (w : World) : (Instr.field 40 (.agg #[.int .i64 a, .int .i64 b]) 1).run Tryz.prog w = .ok (.int .i64 b) w := by
 simp [Instr.field, go_sem]
 rfl
theorem zQd {w w4 : World} {g r : Nat} {v : Int} {old : Value} (hr : Blk w4 r 53 #[old]) (hg : Blk w4 g 3 #[.int .i64 v]) (hb : Below w.heap.size w w4) (hwr : w.heap.size ≤ r) :
 (w4.setCell ⟨r, 0, none⟩ (.slice (some ⟨g, 0, none⟩) 1 1)).cell? ⟨r, 0, none⟩ = some (.slice (some ⟨g, 0, none⟩) 1 1) ∧
    zAi w [v] (.returned (.agg #[.slice (some ⟨g, 0, none⟩) 1 1])) (w4.setCell ⟨r, 0, none⟩ (.slice (some ⟨g, 0, none⟩) 1 1)) := by
 have hne : g ≠ r := hg.ne hr (by decide)
 refine ⟨?_, some ⟨g, 0, none⟩, 1, rfl, zEp (hg.far (p := ⟨r, 0, none⟩) hne _), (fun h => by cases h), hb.setCell (p := ⟨r, 0, none⟩) hwr _⟩
 have := (hr.set_ 0 (.slice (some ⟨g, 0, none⟩) 1 1)).cell 0; simpa using this
theorem zQq {s : So} {v : List Int} (hf : zDw s v) (hs : sortOk s) (hi : s.i = 0) : ∃ wn vn : Nat, s = ⟨0, (wn : Int)⟩ ∧ hd0 v = (vn : Int) ∧ (1 ≤ wn ∧ wn ≤ 16) ∧ vn < 2 ^ wn ∧ 0 < v.length := by
 obtain ⟨wn, vn, h1, h2, -, -, h3, h4⟩ := zQm (zDx hf hs)
 refine ⟨wn, vn, ?_, h2, h3, h4, ?_⟩
 · rw [So.ext_iff]; exact ⟨hi, h1⟩
 · rw [hf.1, zCi hi hs]; omega
theorem zQ4 (A : Option Addr) (cap : Nat) (vs : List (List Int)) (L : List No) (n : No) (sf : Nat) (first capS : Array Value) (w : World) (h : VIn w A vs L n sf first capS) (hk : n.k = 34) :
 Calls Tryz.prog 129 #[.agg #[.int .i64 n.k, .int .i64 n.a, .int .i64 n.b, .int .i64 n.c, .int .i64 n.n, .int .i64 n.m, .int .i64 n.s.i, .int .i64 n.s.w, .string n.t], .slice A vs.length cap, .func (.func sf) first capS] w fun e w' => zAi w (zIm (fun p => (noAt L p).s) (fun p => vs.getD p.toNat []) n) e w' := by
 have H := Kh h; clear h; obtain ⟨nk, na, nb, nc, nn, nm, ⟨si, sw⟩, nt⟩ := n; obtain rfl : nk = 34 := hk; have B1 := bx w #[.int .i64 34, .int .i64 na, .int .i64 nb, .int .i64 nc, .int .i64 nn, .int .i64 nm, .int .i64 si, .int .i64 sw, .string nt] 42; have B2 := Kh (B1.out.alloc B1.out.size (.cells #[.slice A vs.length cap] 47)); have B3 := Kh (B2.out.alloc B2.out.size (.cells #[.slice none 0 0] 53)); have N1 := nx w #[.int .i64 34, .int .i64 na, .int .i64 nb, .int .i64 nc, .int .i64 nn, .int .i64 nm, .int .i64 si, .int .i64 sw, .string nt] 42; have N2 := Kh (N1.out.alloc (.cells #[.slice A vs.length cap] 47)); have N3 := Kh (N2.out.alloc (.cells #[.slice none 0 0] 53)); have V2 : Hid (Blk ((w.alloc (.cells #[.int .i64 34, .int .i64 na, .int .i64 nb, .int .i64 nc, .int .i64 nn, .int .i64 nm, .int .i64 si, .int .i64 sw, .string nt] 42)).alloc (.cells #[.slice A vs.length cap] 47)) (w.heap.size + 1) 47 #[.slice A vs.length cap]) := Blk.new_at _ _ _ (by simp)
 have V3 : Hid (Blk (((w.alloc (.cells #[.int .i64 34, .int .i64 na, .int .i64 nb, .int .i64 nc, .int .i64 nn, .int .i64 nm, .int .i64 si, .int .i64 sw, .string nt] 42)).alloc (.cells #[.slice A vs.length cap] 47)).alloc (.cells #[.slice none 0 0] 53)) (w.heap.size + 1) 47 #[.slice A vs.length cap]) := V2.out.alloc _; have R3 : Hid (Blk (((w.alloc (.cells #[.int .i64 34, .int .i64 na, .int .i64 nb, .int .i64 nc, .int .i64 nn, .int .i64 nm, .int .i64 si, .int .i64 sw, .string nt] 42)).alloc (.cells #[.slice A vs.length cap] 47)).alloc (.cells #[.slice none 0 0] 53)) (w.heap.size + 1 + 1) 53 #[.slice none 0 0]) := Blk.new_at _ _ _ (by simp)
 have hmf := mkf; have vw := zQf; have vc := zQb; have E : zIm (fun p => (noAt L p).s) (fun p => vs.getD p.toNat []) ⟨34, na, nb, nc, nn, nm, ⟨si, sw⟩, nt⟩ = [nn] := rfl
 rw [E]; clear E
 go_enter Tryz.func129, Tryz.ntmps129
 go_wp2_with (go_at_call 170; refine (zQe _ _).mono ?_; rintro e w4 ⟨g, rfl, hg, hbk, hb4⟩; have HG := Kh hbk; have HB4 := Kh (B3.out.trans (hb4.mono B3.out.size)); have R4 := Kh (R3.out.below hb4 R3.out.lt); clear hg hbk hb4; have q0 := R4.out.cell 0; have q1 := R4.out.frozen 0; simp only [List.getElem?_toArray, List.getElem?_cons_zero] at q0)
 obtain ⟨u0, hout⟩ := zQd R4.out HG.out HB4.out (by omega)
 exact bodyPost_ret (v := .agg #[.slice (some ⟨g, 0, none⟩) 1 1]) (by simp [results, Tryz.results129, go_sem, u0]) rfl hout
theorem zPy (A : Option Addr) (cap : Nat) (vs : List (List Int)) (L : List No) (n : No) (sf : Nat) (first capS : Array Value) (w : World) (h : VIn w A vs L n sf first capS) (hk : n.k = 21) :
 Calls Tryz.prog 129 #[.agg #[.int .i64 n.k, .int .i64 n.a, .int .i64 n.b, .int .i64 n.c, .int .i64 n.n, .int .i64 n.m, .int .i64 n.s.i, .int .i64 n.s.w, .string n.t], .slice A vs.length cap, .func (.func sf) first capS] w fun e w' => zAi w (zIm (fun p => (noAt L p).s) (fun p => vs.getD p.toNat []) n) e w' := by
 have H := Kh h; clear h; obtain ⟨nk, na, nb, nc, nn, nm, ⟨si, sw⟩, nt⟩ := n; obtain rfl : nk = 21 := hk; have B1 := bx w #[.int .i64 21, .int .i64 na, .int .i64 nb, .int .i64 nc, .int .i64 nn, .int .i64 nm, .int .i64 si, .int .i64 sw, .string nt] 42; have B2 := Kh (B1.out.alloc B1.out.size (.cells #[.slice A vs.length cap] 47)); have B3 := Kh (B2.out.alloc B2.out.size (.cells #[.slice none 0 0] 53)); have N1 := nx w #[.int .i64 21, .int .i64 na, .int .i64 nb, .int .i64 nc, .int .i64 nn, .int .i64 nm, .int .i64 si, .int .i64 sw, .string nt] 42; have N2 := Kh (N1.out.alloc (.cells #[.slice A vs.length cap] 47)); have N3 := Kh (N2.out.alloc (.cells #[.slice none 0 0] 53)); have V2 : Hid (Blk ((w.alloc (.cells #[.int .i64 21, .int .i64 na, .int .i64 nb, .int .i64 nc, .int .i64 nn, .int .i64 nm, .int .i64 si, .int .i64 sw, .string nt] 42)).alloc (.cells #[.slice A vs.length cap] 47)) (w.heap.size + 1) 47 #[.slice A vs.length cap]) := Blk.new_at _ _ _ (by simp)
 have V3 : Hid (Blk (((w.alloc (.cells #[.int .i64 21, .int .i64 na, .int .i64 nb, .int .i64 nc, .int .i64 nn, .int .i64 nm, .int .i64 si, .int .i64 sw, .string nt] 42)).alloc (.cells #[.slice A vs.length cap] 47)).alloc (.cells #[.slice none 0 0] 53)) (w.heap.size + 1) 47 #[.slice A vs.length cap]) := V2.out.alloc _; have R3 : Hid (Blk (((w.alloc (.cells #[.int .i64 21, .int .i64 na, .int .i64 nb, .int .i64 nc, .int .i64 nn, .int .i64 nm, .int .i64 si, .int .i64 sw, .string nt] 42)).alloc (.cells #[.slice A vs.length cap] 47)).alloc (.cells #[.slice none 0 0] 53)) (w.heap.size + 1 + 1) 53 #[.slice none 0 0]) := Blk.new_at _ _ _ (by simp)
 have hmf := mkf; have vw := zQf; have vc := zQb; have HP : Hid (zK1 21 = 2) := Kh (by decide)
 obtain ⟨⟨ha0, ha1⟩, hsa⟩ : (0 ≤ na ∧ na < (L.length : Int)) ∧ sortOk (noAt L na).s := H.out.inn.a (by show 0 < zK1 _; rw [HP.out]; decide)
 have hfa : zDw (noAt L na).s (vs.getD (na).toNat []) := H.out.fa (by show 0 < zK1 _; rw [HP.out]; decide)
 obtain ⟨pa, hpa⟩ : ∃ p : Nat, na = (p : Int) := ⟨na.toNat, by omega⟩
 subst hpa; have hla : pa < vs.length := by have := H.out.len; omega
 have hLa : pa < L.length := by omega
 replace hfa : zDw (noAt L (pa : Int)).s (vs.getD pa []) := hfa
 obtain ⟨va, hva⟩ : ∃ v, vs.getD pa [] = v := ⟨_, rfl⟩
 rw [hva] at hfa; obtain ⟨⟨hb0, hb1⟩, hsb⟩ : (0 ≤ nb ∧ nb < (L.length : Int)) ∧ sortOk (noAt L nb).s := H.out.inn.b (by show 1 < zK1 _; rw [HP.out]; decide)
 have hfb : zDw (noAt L nb).s (vs.getD (nb).toNat []) := H.out.fb (by show 1 < zK1 _; rw [HP.out]; decide)
 obtain ⟨pb, hpb⟩ : ∃ p : Nat, nb = (p : Int) := ⟨nb.toNat, by omega⟩
 subst hpb; have hlb : pb < vs.length := by have := H.out.len; omega
 have hLb : pb < L.length := by omega
 replace hfb : zDw (noAt L (pb : Int)).s (vs.getD pb []) := hfb
 obtain ⟨vb, hvb⟩ : ∃ v, vs.getD pb [] = v := ⟨_, rfl⟩
 rw [hvb] at hfb; have E : zIm (fun p => (noAt L p).s) (fun p => vs.getD p.toNat []) ⟨21, (pa : Int), (pb : Int), nc, nn, nm, ⟨si, sw⟩, nt⟩ = [if vs.getD pa [] = vs.getD pb [] then 1 else 0] := rfl
 rw [E]; clear E; have la : va.length ≤ 1048576 := by rw [hfa.1]; have := zCj (noAt L (pa : Int)).s; omega
 have lb : vb.length ≤ 1048576 := by rw [hfb.1]; have := zCj (noAt L (pb : Int)).s; omega
 rw [hva, hvb]
 have e1 : (if va = vb then 1 else 0 : Int) = (((decide (va = vb)).toNat : Nat) : Int) := by
  by_cases h : va = vb
  · rw [if_pos h, decide_eq_true h]; rfl
  · rw [if_neg h, decide_eq_false h]; rfl
 rw [e1]; clear e1; obtain ⟨g, rfl, hg, AA, ca, za, ia, na0⟩ := zQc H.out.vals hla; obtain ⟨g', e', hg', AB, cb, zb, ib, nb0⟩ := zQc H.out.vals hlb; rw [hva] at za ia; rw [hvb] at zb ib; injection e' with e'
 injection e' with e' _ _
 subst e'; have ZA := Kh (And.intro za ia); have ZB := Kh (And.intro zb ib); have few := H.out.few; obtain ⟨V, hV⟩ : ∃ V, decide (va = vb) = V := ⟨_, rfl⟩
 rw [hV]; have HV := Kh hV; clear za ia zb ib hg' hfa hfb hsa hsb hva hvb hV na0 nb0
 go_enter Tryz.func129, Tryz.ntmps129
 go_wp2_with fail
 clear B1 B2 N1 N2 V2; obtain ⟨wz, hwz⟩ : ∃ z, (((w.alloc (.cells #[.int .i64 21, .int .i64 (pa : Int), .int .i64 (pb : Int), .int .i64 nc, .int .i64 nn, .int .i64 nm, .int .i64 si, .int .i64 sw, .string nt] 42)).alloc (.cells #[.slice (some ⟨g, 0, none⟩) vs.length cap] 47)).alloc (.cells #[.slice none 0 0] 53)) = z := ⟨_, rfl⟩
 rw [hwz] at B3 N3 V3 R3 ⊢; clear hwz; obtain ⟨y0, y1, y2, y3, y4, y5, y6, y7, y8⟩ := N3.out.nine; have k0 := fun x : Ext wz => zDt y0 N3.out.lt x
 have k1 := fun x : Ext wz => zDt y1 N3.out.lt x
 have k2 := fun x : Ext wz => zDt y2 N3.out.lt x
 have k3 := fun x : Ext wz => zDt y3 N3.out.lt x
 have k4 := fun x : Ext wz => zDt y4 N3.out.lt x
 have k5 := fun x : Ext wz => zDt y5 N3.out.lt x
 have yv := V3.out.cell 0; simp only [List.getElem?_toArray, List.getElem?_cons_zero] at yv
 have kv := fun x : Ext wz => zDt yv V3.out.lt x
 have hgz : g < wz.heap.size := Nat.lt_of_lt_of_le hg B3.out.size; have ka := fun x : Ext wz => zDt ((B3.out.cell (p := ⟨g, pa, none⟩) hg).trans ZA.out.1) hgz x
 have kb := fun x : Ext wz => zDt ((B3.out.cell (p := ⟨g, pb, none⟩) hg).trans ZB.out.1) hgz x
 have T := Kh (fun x : Ext wz => zDr AA AB ca cb va vb x.1 ((ZA.out.2.below B3.out).below x.2) ((ZB.out.2.below B3.out).below x.2) la lb)
 rw [HV.out] at T; clear la lb
 refine zR5 15 (by kernel_rfl) (by kernel_rfl) ?_
 simp only [List.take_succ_cons, List.take_zero, List.drop_succ_cons, List.drop_zero]
 repeat go_big_quiet_step ((first | (go_at_call 172; exact zDs _ (T.out _)) | (go_at_call 171; exact zDv _ (zBj _ _))))
 refine wpQuiet_nil ?_
 intro wt hwt; obtain ⟨x, hwx⟩ := hwt; subst hwx; have B5 := Kh (B3.out.trans (x.2.mono B3.out.size)); have R5 := Kh (R3.out.below x.2 R3.out.lt)
 go_wp2_with (go_at_call 170; refine (zQe _ _).mono ?_; rintro e w4 ⟨g, rfl, hg, hbk, hb4⟩; have HG := Kh hbk; have HB4 := Kh (B5.out.trans (hb4.mono B5.out.size)); have R4 := Kh (R5.out.below hb4 R5.out.lt); clear hg hbk hb4; have q0 := R4.out.cell 0; have q1 := R4.out.frozen 0; simp only [List.getElem?_toArray, List.getElem?_cons_zero] at q0)
 obtain ⟨u0, hout⟩ := zQd R4.out HG.out HB4.out (by omega)
 exact bodyPost_ret (v := .agg #[.slice (some ⟨g, 0, none⟩) 1 1]) (by simp [results, Tryz.results129, go_sem, u0]) rfl hout
theorem zQ3 (A : Option Addr) (cap : Nat) (vs : List (List Int)) (L : List No) (n : No) (sf : Nat) (first capS : Array Value) (w : World) (h : VIn w A vs L n sf first capS) (hk : n.k = 33) :
 Calls Tryz.prog 129 #[.agg #[.int .i64 n.k, .int .i64 n.a, .int .i64 n.b, .int .i64 n.c, .int .i64 n.n, .int .i64 n.m, .int .i64 n.s.i, .int .i64 n.s.w, .string n.t], .slice A vs.length cap, .func (.func sf) first capS] w fun e w' => zAi w (zIm (fun p => (noAt L p).s) (fun p => vs.getD p.toNat []) n) e w' := by
 have H := Kh h; clear h; obtain ⟨nk, na, nb, nc, nn, nm, ⟨si, sw⟩, nt⟩ := n; obtain rfl : nk = 33 := hk; have B1 := bx w #[.int .i64 33, .int .i64 na, .int .i64 nb, .int .i64 nc, .int .i64 nn, .int .i64 nm, .int .i64 si, .int .i64 sw, .string nt] 42; have B2 := Kh (B1.out.alloc B1.out.size (.cells #[.slice A vs.length cap] 47)); have B3 := Kh (B2.out.alloc B2.out.size (.cells #[.slice none 0 0] 53)); have N1 := nx w #[.int .i64 33, .int .i64 na, .int .i64 nb, .int .i64 nc, .int .i64 nn, .int .i64 nm, .int .i64 si, .int .i64 sw, .string nt] 42; have N2 := Kh (N1.out.alloc (.cells #[.slice A vs.length cap] 47)); have N3 := Kh (N2.out.alloc (.cells #[.slice none 0 0] 53)); have V2 : Hid (Blk ((w.alloc (.cells #[.int .i64 33, .int .i64 na, .int .i64 nb, .int .i64 nc, .int .i64 nn, .int .i64 nm, .int .i64 si, .int .i64 sw, .string nt] 42)).alloc (.cells #[.slice A vs.length cap] 47)) (w.heap.size + 1) 47 #[.slice A vs.length cap]) := Blk.new_at _ _ _ (by simp)
 have V3 : Hid (Blk (((w.alloc (.cells #[.int .i64 33, .int .i64 na, .int .i64 nb, .int .i64 nc, .int .i64 nn, .int .i64 nm, .int .i64 si, .int .i64 sw, .string nt] 42)).alloc (.cells #[.slice A vs.length cap] 47)).alloc (.cells #[.slice none 0 0] 53)) (w.heap.size + 1) 47 #[.slice A vs.length cap]) := V2.out.alloc _; have R3 : Hid (Blk (((w.alloc (.cells #[.int .i64 33, .int .i64 na, .int .i64 nb, .int .i64 nc, .int .i64 nn, .int .i64 nm, .int .i64 si, .int .i64 sw, .string nt] 42)).alloc (.cells #[.slice A vs.length cap] 47)).alloc (.cells #[.slice none 0 0] 53)) (w.heap.size + 1 + 1) 53 #[.slice none 0 0]) := Blk.new_at _ _ _ (by simp)
 have hmf := mkf; have vw := zQf; have vc := zQb; have HP : Hid (zK1 33 = 3) := Kh (by decide)
 obtain ⟨⟨ha0, ha1⟩, hsa⟩ : (0 ≤ na ∧ na < (L.length : Int)) ∧ sortOk (noAt L na).s := H.out.inn.a (by show 0 < zK1 _; rw [HP.out]; decide)
 have hfa : zDw (noAt L na).s (vs.getD (na).toNat []) := H.out.fa (by show 0 < zK1 _; rw [HP.out]; decide)
 obtain ⟨pa, hpa⟩ : ∃ p : Nat, na = (p : Int) := ⟨na.toNat, by omega⟩
 subst hpa; have hla : pa < vs.length := by have := H.out.len; omega
 have hLa : pa < L.length := by omega
 replace hfa : zDw (noAt L (pa : Int)).s (vs.getD pa []) := hfa
 obtain ⟨va, hva⟩ : ∃ v, vs.getD pa [] = v := ⟨_, rfl⟩
 rw [hva] at hfa; obtain ⟨⟨hb0, hb1⟩, hsb⟩ : (0 ≤ nb ∧ nb < (L.length : Int)) ∧ sortOk (noAt L nb).s := H.out.inn.b (by show 1 < zK1 _; rw [HP.out]; decide)
 have hfb : zDw (noAt L nb).s (vs.getD (nb).toNat []) := H.out.fb (by show 1 < zK1 _; rw [HP.out]; decide)
 obtain ⟨pb, hpb⟩ : ∃ p : Nat, nb = (p : Int) := ⟨nb.toNat, by omega⟩
 subst hpb; have hlb : pb < vs.length := by have := H.out.len; omega
 have hLb : pb < L.length := by omega
 replace hfb : zDw (noAt L (pb : Int)).s (vs.getD pb []) := hfb
 obtain ⟨vb, hvb⟩ : ∃ v, vs.getD pb [] = v := ⟨_, rfl⟩
 rw [hvb] at hfb; obtain ⟨⟨hc0, hc1⟩, hsc⟩ : (0 ≤ nc ∧ nc < (L.length : Int)) ∧ sortOk (noAt L nc).s := H.out.inn.c (by show 2 < zK1 _; rw [HP.out]; decide)
 have hfc : zDw (noAt L nc).s (vs.getD (nc).toNat []) := H.out.fc (by show 2 < zK1 _; rw [HP.out]; decide)
 obtain ⟨pc, hpc⟩ : ∃ p : Nat, nc = (p : Int) := ⟨nc.toNat, by omega⟩
 subst hpc; have hlc : pc < vs.length := by have := H.out.len; omega
 have hLc : pc < L.length := by omega
 replace hfc : zDw (noAt L (pc : Int)).s (vs.getD pc []) := hfc
 obtain ⟨vc, hvc⟩ : ∃ v, vs.getD pc [] = v := ⟨_, rfl⟩
 rw [hvc] at hfc; have hia : (noAt L (pa : Int)).s.i = 0 := by rw [(H.out.inn.sort33 rfl).1]; rfl
 obtain ⟨wa, xa, hswa, hxa, hwba, hxba, hposa⟩ := zQq hfa hsa hia
 have hwa1 : wa = 1 := by
  have h1 : (noAt L (pa : Int)).s = wS 1 := (H.out.inn.sort33 rfl).1; rw [hswa] at h1; have h2 : (wa : Int) = 1 := congrArg So.w h1; omega
 subst hwa1; have hx01 : xa < 2 := hxba; obtain ⟨g, rfl, hg, AB, cb, zb, ib, nb0⟩ := zQc H.out.vals hlb; obtain ⟨g', e', hg', AC, cc, zc, ic, nc0⟩ := zQc H.out.vals hlc; injection e' with e'
 injection e' with e' _ _
 subst e'; rw [hvb] at zb ib; rw [hvc] at zc ic; have yv := V3.out.cell 0; simp only [List.getElem?_toArray, List.getElem?_cons_zero] at yv
 have yb := (B3.out.cell (p := ⟨g, pb, none⟩) hg).trans zb; have yc := (B3.out.cell (p := ⟨g, pc, none⟩) hg).trans zc; have T := Kh (zQa _ cap vs pa (w.heap.size + 1) _ (H.out.vals.below B3.out) yv hla H.out.few (v := (xa : Int)) (by rw [hva]; exact hxa) (by rw [hva]; exact hposa))
 have IB := Kh ib; have IC := Kh ic; have M0 := Kh nb0; have M1 := Kh nc0; have hpb0 : (0 : Int) ≤ (pb : Int) := by omega
 have hpb1 : (pb : Int) < (vs.length : Int) := by omega
 have hpc0 : (0 : Int) ≤ (pc : Int) := by omega
 have hpc1 : (pc : Int) < (vs.length : Int) := by omega
 have E : zIm (fun p => (noAt L p).s) (fun p => vs.getD p.toNat []) ⟨33, (pa : Int), (pb : Int), (pc : Int), nn, nm, ⟨si, sw⟩, nt⟩ = (if hd0 (vs.getD pa []) = 1 then vs.getD pb [] else vs.getD pc []) := rfl
 rw [E, hva, hvb, hvc, hxa]; clear E zb zc ib ic nb0 nc0 hg' hfa hfb hfc hsa hsb hsc hva hvb hvc hswa hxa hia
 by_cases hx : xa = 1
 · subst hx
   rw [if_pos (by rfl)]
   go_enter Tryz.func129, Tryz.ntmps129
   go_wp2_with (go_at_call 169; refine T.out.mono ?_; rintro e w4 ⟨rfl, rfl⟩)
   exact bodyPost_ret (v := .agg #[.slice AB vb.length cb]) (by simp [results, Tryz.results129, go_sem]) rfl ⟨AB, cb, rfl, IB.out.below (B2.out.alloc B2.out.size _), M0.out, B2.out.alloc B2.out.size _⟩
 · obtain rfl : xa = 0 := by omega
   rw [if_neg (by omega)]
   go_enter Tryz.func129, Tryz.ntmps129
   go_wp2_with (go_at_call 169; refine T.out.mono ?_; rintro e w4 ⟨rfl, rfl⟩)
   exact bodyPost_ret (v := .agg #[.slice AC vc.length cc]) (by simp [results, Tryz.results129, go_sem]) rfl ⟨AC, cc, rfl, IC.out.below (B2.out.alloc B2.out.size _), M1.out, B2.out.alloc B2.out.size _⟩
theorem zQ5 (A : Option Addr) (cap : Nat) (vs : List (List Int)) (L : List No) (n : No) (sf : Nat) (first capS : Array Value) (w : World) (h : VIn w A vs L n sf first capS) (hk : n.k = 37) :
 Calls Tryz.prog 129 #[.agg #[.int .i64 n.k, .int .i64 n.a, .int .i64 n.b, .int .i64 n.c, .int .i64 n.n, .int .i64 n.m, .int .i64 n.s.i, .int .i64 n.s.w, .string n.t], .slice A vs.length cap, .func (.func sf) first capS] w fun e w' => zAi w (zIm (fun p => (noAt L p).s) (fun p => vs.getD p.toNat []) n) e w' := by
 have H := Kh h; clear h; obtain ⟨nk, na, nb, nc, nn, nm, ⟨si, sw⟩, nt⟩ := n; obtain rfl : nk = 37 := hk; have B1 := bx w #[.int .i64 37, .int .i64 na, .int .i64 nb, .int .i64 nc, .int .i64 nn, .int .i64 nm, .int .i64 si, .int .i64 sw, .string nt] 42; have B2 := Kh (B1.out.alloc B1.out.size (.cells #[.slice A vs.length cap] 47)); have B3 := Kh (B2.out.alloc B2.out.size (.cells #[.slice none 0 0] 53)); have N1 := nx w #[.int .i64 37, .int .i64 na, .int .i64 nb, .int .i64 nc, .int .i64 nn, .int .i64 nm, .int .i64 si, .int .i64 sw, .string nt] 42; have N2 := Kh (N1.out.alloc (.cells #[.slice A vs.length cap] 47)); have N3 := Kh (N2.out.alloc (.cells #[.slice none 0 0] 53)); have V2 : Hid (Blk ((w.alloc (.cells #[.int .i64 37, .int .i64 na, .int .i64 nb, .int .i64 nc, .int .i64 nn, .int .i64 nm, .int .i64 si, .int .i64 sw, .string nt] 42)).alloc (.cells #[.slice A vs.length cap] 47)) (w.heap.size + 1) 47 #[.slice A vs.length cap]) := Blk.new_at _ _ _ (by simp)
 have V3 : Hid (Blk (((w.alloc (.cells #[.int .i64 37, .int .i64 na, .int .i64 nb, .int .i64 nc, .int .i64 nn, .int .i64 nm, .int .i64 si, .int .i64 sw, .string nt] 42)).alloc (.cells #[.slice A vs.length cap] 47)).alloc (.cells #[.slice none 0 0] 53)) (w.heap.size + 1) 47 #[.slice A vs.length cap]) := V2.out.alloc _; have R3 : Hid (Blk (((w.alloc (.cells #[.int .i64 37, .int .i64 na, .int .i64 nb, .int .i64 nc, .int .i64 nn, .int .i64 nm, .int .i64 si, .int .i64 sw, .string nt] 42)).alloc (.cells #[.slice A vs.length cap] 47)).alloc (.cells #[.slice none 0 0] 53)) (w.heap.size + 1 + 1) 53 #[.slice none 0 0]) := Blk.new_at _ _ _ (by simp)
 have hmf := mkf; have vw := zQf; have vc := zQb; have HP : Hid (zK1 37 = 2) := Kh (by decide)
 obtain ⟨⟨ha0, ha1⟩, hsa⟩ : (0 ≤ na ∧ na < (L.length : Int)) ∧ sortOk (noAt L na).s := H.out.inn.a (by show 0 < zK1 _; rw [HP.out]; decide)
 have hfa : zDw (noAt L na).s (vs.getD (na).toNat []) := H.out.fa (by show 0 < zK1 _; rw [HP.out]; decide)
 obtain ⟨pa, hpa⟩ : ∃ p : Nat, na = (p : Int) := ⟨na.toNat, by omega⟩
 subst hpa; have hla : pa < vs.length := by have := H.out.len; omega
 have hLa : pa < L.length := by omega
 replace hfa : zDw (noAt L (pa : Int)).s (vs.getD pa []) := hfa
 obtain ⟨va, hva⟩ : ∃ v, vs.getD pa [] = v := ⟨_, rfl⟩
 rw [hva] at hfa; obtain ⟨⟨hb0, hb1⟩, hsb⟩ : (0 ≤ nb ∧ nb < (L.length : Int)) ∧ sortOk (noAt L nb).s := H.out.inn.b (by show 1 < zK1 _; rw [HP.out]; decide)
 have hfb : zDw (noAt L nb).s (vs.getD (nb).toNat []) := H.out.fb (by show 1 < zK1 _; rw [HP.out]; decide)
 obtain ⟨pb, hpb⟩ : ∃ p : Nat, nb = (p : Int) := ⟨nb.toNat, by omega⟩
 subst hpb; have hlb : pb < vs.length := by have := H.out.len; omega
 have hLb : pb < L.length := by omega
 replace hfb : zDw (noAt L (pb : Int)).s (vs.getD pb []) := hfb
 obtain ⟨vb, hvb⟩ : ∃ v, vs.getD pb [] = v := ⟨_, rfl⟩
 rw [hvb] at hfb; have hab := H.out.inn.sort37 rfl; have hia0 : 0 < (noAt L (pa : Int)).s.i := hab.1; have hib : (noAt L (pb : Int)).s.i = 0 := by rw [hab.2.1]; rfl
 have hib2 : (noAt L (pb : Int)).s.w = (noAt L (pa : Int)).s.i := by rw [hab.2.1]; rfl
 clear hab; obtain ⟨wb, xb, hswb, hxb, hwbb, hxbb, hposb⟩ := zQq hfb hsb hib
 have hxlen : xb < va.length := by
  rw [hfa.1]; unfold cellsOf; rw [if_pos hsa, ← hib2, hswb]
  exact hxbb
 have la : va.length ≤ 1048576 := by rw [hfa.1]; have := zCj (noAt L (pa : Int)).s; omega
 obtain ⟨g, rfl, hg, AA, ca, za, ia, na0⟩ := zQc H.out.vals hla; rw [hva] at za ia; obtain ⟨ga, rfl, hga, hca⟩ := ia (by omega)
 have zx := hca xb hxlen; have E : zIm (fun p => (noAt L p).s) (fun p => vs.getD p.toNat []) ⟨37, (pa : Int), (pb : Int), nc, nn, nm, ⟨si, sw⟩, nt⟩ = [(vs.getD pa []).getD (hd0 (vs.getD pb [])).toNat 0] := rfl
 rw [E, hva, hvb, hxb, show va.getD ((xb : Nat) : Int).toNat 0 = va[xb] by rw [Int.toNat_natCast, List.getD_eq_getElem?_getD, List.getElem?_eq_getElem hxlen]; rfl]
 clear E hca; obtain ⟨V, hV⟩ : ∃ V, va[xb] = V := ⟨_, rfl⟩
 rw [hV] at zx ⊢; have ZA := Kh za; have ZX := Kh zx; clear za zx hV hsa hfa hib hib2 hia0 na0 ia; have hx0 : (0 : Int) ≤ (xb : Int) := by omega
 have hx1 : (xb : Int) < (va.length : Int) := by omega
 go_enter Tryz.func129, Tryz.ntmps129
 go_wp2_with fail
 clear B1 B2 N1 N2 V2; obtain ⟨wz, hwz⟩ : ∃ z, (((w.alloc (.cells #[.int .i64 37, .int .i64 (pa : Int), .int .i64 (pb : Int), .int .i64 nc, .int .i64 nn, .int .i64 nm, .int .i64 si, .int .i64 sw, .string nt] 42)).alloc (.cells #[.slice (some ⟨g, 0, none⟩) vs.length cap] 47)).alloc (.cells #[.slice none 0 0] 53)) = z := ⟨_, rfl⟩
 rw [hwz] at B3 N3 V3 R3 ⊢; clear hwz; obtain ⟨y0, y1, y2, y3, y4, y5, y6, y7, y8⟩ := N3.out.nine; have k0 := fun x : Ext wz => zDt y0 N3.out.lt x
 have k1 := fun x : Ext wz => zDt y1 N3.out.lt x
 have k2 := fun x : Ext wz => zDt y2 N3.out.lt x
 have k3 := fun x : Ext wz => zDt y3 N3.out.lt x
 have k4 := fun x : Ext wz => zDt y4 N3.out.lt x
 have k5 := fun x : Ext wz => zDt y5 N3.out.lt x
 have yv := V3.out.cell 0; simp only [List.getElem?_toArray, List.getElem?_cons_zero] at yv
 have kv := fun x : Ext wz => zDt yv V3.out.lt x
 have Tb := Kh (fun x : Ext wz => zQa _ cap vs pb (w.heap.size + 1) x.1 ((H.out.vals.below B3.out).below x.2) (kv x) hlb H.out.few (v := (xb : Int)) (by rw [hvb]; exact hxb) (by rw [hvb]; exact hposb))
 clear hposb hvb hsb hfb; have hgz : g < wz.heap.size := Nat.lt_of_lt_of_le hg B3.out.size; have hgaz : ga < wz.heap.size := Nat.lt_of_lt_of_le hga B3.out.size; have ka := fun x : Ext wz => zDt ((B3.out.cell (p := ⟨g, pa, none⟩) hg).trans ZA.out) hgz x
 have kx := fun x : Ext wz => zDt ((B3.out.cell (p := ⟨ga, xb, none⟩) hga).trans ZX.out) hgaz x
 clear hva la
 refine zR5 13 (by kernel_rfl) (by kernel_rfl) ?_
 simp only [List.take_succ_cons, List.take_zero, List.drop_succ_cons, List.drop_zero]
 repeat go_big_quiet_step ((first | ((with_reducible show Calls _ _ #[.int .i64 (pb : Int), _] _ _); go_at_call 169; exact zDv _ (Tb.out _))))
 refine wpQuiet_nil ?_
 intro wt hwt; obtain ⟨x, hwx⟩ := hwt; subst hwx; have B5 := Kh (B3.out.trans (x.2.mono B3.out.size)); have R5 := Kh (R3.out.below x.2 R3.out.lt)
 go_wp2_with (go_at_call 170; refine (zQe _ _).mono ?_; rintro e w4 ⟨g, rfl, hg, hbk, hb4⟩; have HG := Kh hbk; have HB4 := Kh (B5.out.trans (hb4.mono B5.out.size)); have R4 := Kh (R5.out.below hb4 R5.out.lt); clear hg hbk hb4; have q0 := R4.out.cell 0; have q1 := R4.out.frozen 0; simp only [List.getElem?_toArray, List.getElem?_cons_zero] at q0)
 obtain ⟨u0, hout⟩ := zQd R4.out HG.out HB4.out (by omega)
 exact bodyPost_ret (v := .agg #[.slice (some ⟨g, 0, none⟩) 1 1]) (by simp [results, Tryz.results129, go_sem, u0]) rfl hout
theorem zQ6 (A : Option Addr) (cap : Nat) (vs : List (List Int)) (L : List No) (n : No) (sf : Nat) (first capS : Array Value) (w : World) (h : VIn w A vs L n sf first capS) (hk : n.k = 38) :
 Calls Tryz.prog 129 #[.agg #[.int .i64 n.k, .int .i64 n.a, .int .i64 n.b, .int .i64 n.c, .int .i64 n.n, .int .i64 n.m, .int .i64 n.s.i, .int .i64 n.s.w, .string n.t], .slice A vs.length cap, .func (.func sf) first capS] w fun e w' => zAi w (zIm (fun p => (noAt L p).s) (fun p => vs.getD p.toNat []) n) e w' := by
 have H := Kh h; clear h; obtain ⟨nk, na, nb, nc, nn, nm, ⟨si, sw⟩, nt⟩ := n; obtain rfl : nk = 38 := hk; have B1 := bx w #[.int .i64 38, .int .i64 na, .int .i64 nb, .int .i64 nc, .int .i64 nn, .int .i64 nm, .int .i64 si, .int .i64 sw, .string nt] 42; have B2 := Kh (B1.out.alloc B1.out.size (.cells #[.slice A vs.length cap] 47)); have B3 := Kh (B2.out.alloc B2.out.size (.cells #[.slice none 0 0] 53)); have N1 := nx w #[.int .i64 38, .int .i64 na, .int .i64 nb, .int .i64 nc, .int .i64 nn, .int .i64 nm, .int .i64 si, .int .i64 sw, .string nt] 42; have N2 := Kh (N1.out.alloc (.cells #[.slice A vs.length cap] 47)); have N3 := Kh (N2.out.alloc (.cells #[.slice none 0 0] 53)); have V2 : Hid (Blk ((w.alloc (.cells #[.int .i64 38, .int .i64 na, .int .i64 nb, .int .i64 nc, .int .i64 nn, .int .i64 nm, .int .i64 si, .int .i64 sw, .string nt] 42)).alloc (.cells #[.slice A vs.length cap] 47)) (w.heap.size + 1) 47 #[.slice A vs.length cap]) := Blk.new_at _ _ _ (by simp)
 have V3 : Hid (Blk (((w.alloc (.cells #[.int .i64 38, .int .i64 na, .int .i64 nb, .int .i64 nc, .int .i64 nn, .int .i64 nm, .int .i64 si, .int .i64 sw, .string nt] 42)).alloc (.cells #[.slice A vs.length cap] 47)).alloc (.cells #[.slice none 0 0] 53)) (w.heap.size + 1) 47 #[.slice A vs.length cap]) := V2.out.alloc _; have R3 : Hid (Blk (((w.alloc (.cells #[.int .i64 38, .int .i64 na, .int .i64 nb, .int .i64 nc, .int .i64 nn, .int .i64 nm, .int .i64 si, .int .i64 sw, .string nt] 42)).alloc (.cells #[.slice A vs.length cap] 47)).alloc (.cells #[.slice none 0 0] 53)) (w.heap.size + 1 + 1) 53 #[.slice none 0 0]) := Blk.new_at _ _ _ (by simp)
 have hmf := mkf; have vw := zQf; have vc := zQb; have HP : Hid (zK1 38 = 3) := Kh (by decide)
 obtain ⟨⟨ha0, ha1⟩, hsa⟩ : (0 ≤ na ∧ na < (L.length : Int)) ∧ sortOk (noAt L na).s := H.out.inn.a (by show 0 < zK1 _; rw [HP.out]; decide)
 have hfa : zDw (noAt L na).s (vs.getD (na).toNat []) := H.out.fa (by show 0 < zK1 _; rw [HP.out]; decide)
 obtain ⟨pa, hpa⟩ : ∃ p : Nat, na = (p : Int) := ⟨na.toNat, by omega⟩
 subst hpa; have hla : pa < vs.length := by have := H.out.len; omega
 have hLa : pa < L.length := by omega
 replace hfa : zDw (noAt L (pa : Int)).s (vs.getD pa []) := hfa
 obtain ⟨va, hva⟩ : ∃ v, vs.getD pa [] = v := ⟨_, rfl⟩
 rw [hva] at hfa; obtain ⟨⟨hb0, hb1⟩, hsb⟩ : (0 ≤ nb ∧ nb < (L.length : Int)) ∧ sortOk (noAt L nb).s := H.out.inn.b (by show 1 < zK1 _; rw [HP.out]; decide)
 have hfb : zDw (noAt L nb).s (vs.getD (nb).toNat []) := H.out.fb (by show 1 < zK1 _; rw [HP.out]; decide)
 obtain ⟨pb, hpb⟩ : ∃ p : Nat, nb = (p : Int) := ⟨nb.toNat, by omega⟩
 subst hpb; have hlb : pb < vs.length := by have := H.out.len; omega
 have hLb : pb < L.length := by omega
 replace hfb : zDw (noAt L (pb : Int)).s (vs.getD pb []) := hfb
 obtain ⟨vb, hvb⟩ : ∃ v, vs.getD pb [] = v := ⟨_, rfl⟩
 rw [hvb] at hfb; obtain ⟨⟨hc0, hc1⟩, hsc⟩ : (0 ≤ nc ∧ nc < (L.length : Int)) ∧ sortOk (noAt L nc).s := H.out.inn.c (by show 2 < zK1 _; rw [HP.out]; decide)
 have hfc : zDw (noAt L nc).s (vs.getD (nc).toNat []) := H.out.fc (by show 2 < zK1 _; rw [HP.out]; decide)
 obtain ⟨pc, hpc⟩ : ∃ p : Nat, nc = (p : Int) := ⟨nc.toNat, by omega⟩
 subst hpc; have hlc : pc < vs.length := by have := H.out.len; omega
 have hLc : pc < L.length := by omega
 replace hfc : zDw (noAt L (pc : Int)).s (vs.getD pc []) := hfc
 obtain ⟨vc, hvc⟩ : ∃ v, vs.getD pc [] = v := ⟨_, rfl⟩
 rw [hvc] at hfc; have hab := H.out.inn.sort38 rfl; have hia0 : 0 < (noAt L (pa : Int)).s.i := hab.1; have hib : (noAt L (pb : Int)).s.i = 0 := by rw [hab.2.1]; rfl
 have hib2 : (noAt L (pb : Int)).s.w = (noAt L (pa : Int)).s.i := by rw [hab.2.1]; rfl
 have hic : (noAt L (pc : Int)).s.i = 0 := by rw [hab.2.2.1]; rfl
 clear hab; obtain ⟨wb, xb, hswb, hxb, hwbb, hxbb, hposb⟩ := zQq hfb hsb hib; obtain ⟨wc, xc, hswc, hxc, hwbc, hxbc, hposc⟩ := zQq hfc hsc hic
 have hxlen : xb < va.length := by
  rw [hfa.1]; unfold cellsOf; rw [if_pos hsa, ← hib2, hswb]
  exact hxbb
 have la : va.length ≤ 1048576 := by rw [hfa.1]; have := zCj (noAt L (pa : Int)).s; omega
 obtain ⟨g, rfl, hg, AA, ca, za, ia, na0⟩ := zQc H.out.vals hla; rw [hva] at za ia; have TC := Kh (fun (W : World) (hW : Below w.heap.size w W) => zCo AA ca va W (ia.below hW) na0 la)
 have E : zIm (fun p => (noAt L p).s) (fun p => vs.getD p.toNat []) ⟨38, (pa : Int), (pb : Int), (pc : Int), nn, nm, ⟨si, sw⟩, nt⟩ = (vs.getD pa []).set (hd0 (vs.getD pb [])).toNat (hd0 (vs.getD pc [])) := rfl
 rw [E, hva, hvb, hvc, hxb, hxc, Int.toNat_natCast]; clear E; have ya := (B3.out.cell (p := ⟨g, pa, none⟩) hg).trans za; have hpa0 : (0 : Int) ≤ (pa : Int) := by omega
 have hpa1 : (pa : Int) < (vs.length : Int) := by omega
 clear za hsa hfa hib hib2 hia0 na0 ia hic; have hx0 : (0 : Int) ≤ (xb : Int) := by omega
 have hx1 : (xb : Int) < (va.length : Int) := by omega
 go_enter Tryz.func129, Tryz.ntmps129
 have SZ := Kh B3.out.size
 go_wp2_with (go_at_call 100; refine (TC.out _ (by exact B3.out)).mono ?_; rintro e w4 ⟨A', c', rfl, ho, hb4⟩; have HO := Kh ho; have B4 := Kh (B3.out.trans (hb4.mono B3.out.size)); have N4 := Kh (N3.out.below hb4 N3.out.lt); have V4 := Kh (V3.out.below hb4 V3.out.lt); have R4 := Kh (R3.out.below hb4 R3.out.lt); clear ho hb4)
 replace B3 := Kh (B4.out.alloc B4.out.size (.cells #[.slice A' va.length c'] 53))
 replace N3 := Kh (N4.out.alloc (.cells #[.slice A' va.length c'] 53))
 replace V3 := Kh (V4.out.alloc (.cells #[.slice A' va.length c'] 53))
 replace R3 := Kh (R4.out.alloc (.cells #[.slice A' va.length c'] 53))
 have C3 : Hid (Blk (w4.alloc (.cells #[.slice A' va.length c'] 53)) w4.heap.size 53 #[.slice A' va.length c']) := Blk.new _ _ _; replace HO := Kh (HO.out.alloc (.cells #[.slice A' va.length c'] 53))
 clear B1 B2 N1 N2 V2 B4 N4 V4 R4 TC ya; obtain ⟨wz, hwz⟩ : ∃ z, w4.alloc (.cells #[.slice A' va.length c'] 53) = z := ⟨_, rfl⟩
 obtain ⟨c9, hc9⟩ : ∃ z, w4.heap.size = z := ⟨_, rfl⟩
 rw [hc9] at C3 ⊢; rw [hwz] at B3 N3 V3 R3 C3 HO ⊢; clear hwz hc9; obtain ⟨gq, cq, e1, hge, hlt⟩ := HO.out.form (by omega)
 injection e1 with e1 _ e2
 subst e1; subst e2; have hgew : w.heap.size ≤ gq := Nat.le_trans SZ.out hge; obtain ⟨y0, y1, y2, y3, y4, y5, y6, y7, y8⟩ := N3.out.nine; have k2 := fun x : Ext wz => zDt y2 N3.out.lt x
 have k3 := fun x : Ext wz => zDt y3 N3.out.lt x
 have yv := V3.out.cell 0; have y9 := C3.out.cell 0; simp only [List.getElem?_toArray, List.getElem?_cons_zero] at yv y9
 have kv := fun x : Ext wz => zDt yv V3.out.lt x
 have k9 := fun x : Ext wz => zDt y9 C3.out.lt x
 have Tb := Kh (fun x : Ext wz => zQa _ cap vs pb (w.heap.size + 1) x.1 ((H.out.vals.below B3.out).below x.2) (kv x) hlb H.out.few (v := (xb : Int)) (by rw [hvb]; exact hxb) (by rw [hvb]; exact hposb))
 have Tc := Kh (fun x : Ext wz => zQa _ cap vs pc (w.heap.size + 1) x.1 ((H.out.vals.below B3.out).below x.2) (kv x) hlc H.out.few (v := (xc : Int)) (by rw [hvc]; exact hxc) (by rw [hvc]; exact hposc))
 clear hposb hvb hsb hfb hposc hvc hsc hfc; clear hva la
 refine zR5 11 (by kernel_rfl) (by kernel_rfl) ?_
 simp only [List.take_succ_cons, List.take_zero, List.drop_succ_cons, List.drop_zero]
 repeat go_big_quiet_step ((first | ((with_reducible show Calls _ _ #[.int .i64 (pb : Int), _] _ _); go_at_call 169; exact zDv _ (Tb.out _)) | ((with_reducible show Calls _ _ #[.int .i64 (pc : Int), _] _ _); go_at_call 169; exact zDv _ (Tc.out _))))
 refine wpQuiet_nil ?_
 intro wt hwt; obtain ⟨x, hwx⟩ := hwt; subst hwx; have OX := Kh (zJ9 HO.out x.2); have CX := Kh (C3.out.below x.2 C3.out.lt); have RX := Kh (R3.out.below x.2 R3.out.lt); have BX := Kh (B3.out.trans (x.2.mono B3.out.size)); have n1 : c9 ≠ gq := fun e => zJg OX.out CX.out (by decide) (by rw [e]; rfl)
 have n2 : w.heap.size + 1 + 1 ≠ gq := fun e => zJg OX.out RX.out (by decide) (by rw [e]; rfl)
 have f0 := OX.out.frozenAt xb; have f1 := OX.out.cellAt xb (by omega)
 rw [List.getElem?_map, List.getElem?_eq_getElem hxlen, Option.map_some] at f1
 have O6 := Kh (OX.out.stored xb (.int .i64 (xc : Int))).1; have C6 := Kh (CX.out.far (p := ⟨gq, xb, none⟩) n1 (.int .i64 (xc : Int))); have R6 := Kh (RX.out.far (p := ⟨gq, xb, none⟩) n2 (.int .i64 (xc : Int))); have B6 := Kh (BX.out.setCell (p := ⟨gq, xb, none⟩) hgew (.int .i64 (xc : Int))); have q0 := R6.out.cell 0; have q1 := R6.out.frozen 0; have q2 := C6.out.cell 0; simp only [List.getElem?_toArray, List.getElem?_cons_zero] at q0 q2
 clear n1 RX CX y0 y1 y2 y3 y4 y5 y6 y7 y8 yv y9 k2 k3 kv k9
 go_wp2_with fail
 have u0 := (R6.out.set_ 0 (.slice (some ⟨gq, 0, none⟩) va.length c')).cell 0; simp at u0
 refine bodyPost_ret (v := .agg #[.slice (some ⟨gq, 0, none⟩) va.length c']) (by simp [results, Tryz.results129, go_sem, u0]) rfl ⟨some ⟨gq, 0, none⟩, c', ?_, ?_, (fun h => by cases h), B6.out.setCell (p := ⟨w.heap.size + 1 + 1, 0, none⟩) (by show w.heap.size ≤ w.heap.size + 1 + 1; omega) _⟩
 · rw [List.length_set]
 · have O7 := zJb O6.out (p := ⟨w.heap.size + 1 + 1, 0, none⟩) (fun e => n2 (by injection e with e; exact e.symm)) (.slice (some ⟨gq, 0, none⟩) va.length c')
   rw [← List.map_set] at O7; have key : ∀ (W : World) (B : Nat), W.ownsRow B 3 1 (.slice (some ⟨gq, 0, none⟩) va.length c') va.length ((va.set xb (xc : Int)).map (.int .i64)) → IAt W (some ⟨gq, 0, none⟩) (va.set xb (xc : Int)) := fun W B h => IAt.of_own (base := B) (c := c') (by rw [List.length_set]; exact h)
   exact key _ _ O7
end Go.Proofs.YtmolbnghobfmoaaGreat
