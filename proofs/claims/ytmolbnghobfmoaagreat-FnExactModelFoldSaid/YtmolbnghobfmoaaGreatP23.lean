/- Part 23 of what the row Row28 rests on: F22 F23 Eg. -/
import Derived.Test.YtmolbnghobfmoaaGreatP2
import Derived.Test.YtmolbnghobfmoaaGreatP22
set_option maxRecDepth 100000
set_option maxHeartbeats 16000000
set_option linter.unusedSimpArgs false
set_option linter.unusedVariables false
namespace Go.Proofs.YtmolbnghobfmoaaGreat
open Go.RowKit
def cN (n : No) : Array Value := #[.int .i64 n.k, .int .i64 n.a, .int .i64 n.b, .int .i64 n.c, .int .i64 n.n, .int .i64 n.m, .int .i64 n.s.i, .int .i64 n.s.w, .string n.t]
theorem zP7 (t t' : ByteArray) : t.toList = t'.toList ↔ t = t' := by
 rw [ByteArray.toList_eq, ByteArray.toList_eq]; constructor
 · intro h; cases t; cases t'; simp only at h; rw [Array.toList_inj.1 h]
 · rintro rfl; rfl
theorem zDn {a b c d e f g h a' b' c' d' e' f' g' h' : Int} {t t' : ByteArray} {x : Bool} (hx : decide ((⟨a, b, c, d, e, f, ⟨g, h⟩, t⟩ : No) = ⟨a', b', c', d', e', f', ⟨g', h'⟩, t'⟩) = x) (w : World) :
 (binOp .eql 42 (.agg #[.int .i64 a, .int .i64 b, .int .i64 c, .int .i64 d, .int .i64 e, .int .i64 f, .int .i64 g, .int .i64 h, .string t]) (.agg #[.int .i64 a', .int .i64 b', .int .i64 c', .int .i64 d', .int .i64 e', .int .i64 f', .int .i64 g', .int .i64 h', .string t'])).run Tryz.prog w =
     .ok (.bool x) w := by
 subst hx; simp [go_sem, zP7]
 by_cases h1 : a = a'
 case neg => simp [h1]
 by_cases h2 : b = b'
 case neg => simp [h2]
 by_cases h3 : c = c'
 case neg => simp [h3]
 by_cases h4 : d = d'
 case neg => simp [h4]
 by_cases h5 : e = e'
 case neg => simp [h5]
 by_cases h6 : f = f'
 case neg => simp [h6]
 by_cases h7 : g = g'
 case neg => simp [h7]
 by_cases h8 : h = h'
 case neg => simp [h8]
 by_cases h9 : t = t' <;> simp [h1, h2, h3, h4, h5, h6, h7, h8, h9]
def zC6 (L : List No) : List Value := L.flatMap fun n => (cN n).toList
theorem zC9 (L : List No) : (zC6 L).length = L.length * 9 := by
 induction L with
 | nil => rfl
 | cons x t ih => rw [zC6, List.flatMap_cons, List.length_append]; rw [zC6] at ih; rw [ih]; simp [cN]; omega
theorem zC8 {L : List No} {k : Nat} (h : k < L.length) {j : Nat} (hj : j < 9) : (zC6 L)[k * 9 + j]? = (cN L[k])[j]? := by
 induction L generalizing k with
 | nil => cases h
 | cons x t ih =>
  rw [zC6, List.flatMap_cons]; have hl : (cN x).toList.length = 9 := rfl
  cases k with
  | zero =>
   rw [Nat.zero_mul, Nat.zero_add, List.getElem?_append_left (by omega)]
   simp
  | succ k =>
   rw [List.getElem?_append_right (by omega), hl, show (k + 1) * 9 + j - 9 = k * 9 + j by omega]
   exact ih (by simpa using h)
theorem zC7 (L : List No) (n : No) : zC6 (L ++ [n]) = zC6 L ++ (cN n).toList := by simp [zC6]
theorem zCa (n : No) : ∀ u ∈ (cN n).toList, u.oneCell' = true := by simp [cN, Value.oneCell']
structure FoldAt (w : World) (B gf : Nat) (A : Option Addr) (c : Nat) (L : List No) : Prop where
 blk : Blk w gf 71 #[.slice A L.length c]
 own : w.ownsRow B 42 9 (.slice A L.length c) L.length (zC6 L)
 base : B ≤ gf
theorem FoldAt.below {w w' : World} {B gf : Nat} {A : Option Addr} {c : Nat} {L : List No} (h : FoldAt w B gf A c L) (hb : Below w.heap.size w w') : FoldAt w' B gf A c L :=
 ⟨h.blk.below hb h.blk.lt, zJ9 h.own hb, h.base⟩
theorem FoldAt.noAt {w : World} {B gf : Nat} {A : Option Addr} {c : Nat} {L : List No} (h : FoldAt w B gf A c L) : zA9 w A L := fun hp => by
 obtain ⟨g, cap, e1, hge, hlt⟩ := h.own.form hp; injection e1 with e1 _ e2
 subst e1; subst e2
 refine ⟨g, rfl, hlt, fun k hk => ?_⟩
 have key : ∀ j, j < 9 → w.cell? ⟨g, k * 9 + j, none⟩ = (cN L[k])[j]? := fun j hj => by rw [h.own.cellAt (k * 9 + j) (by omega), zC8 hk hj]
 exact ⟨key 0 (by omega), key 1 (by omega), key 2 (by omega), key 3 (by omega), key 4 (by omega), key 5 (by omega), key 6 (by omega), key 7 (by omega), key 8 (by omega)⟩
def zEs (L : List No) (n : No) : Int := if n ∈ L then (zKj L n : Int) else -1
theorem zEt {L : List No} {n : No} {k : Nat} (hk : k < L.length) (hb : ∀ j (h : j < L.length), j < k → L[j] ≠ n) (he : L[k] = n) : zEs L n = (k : Int) := by
 unfold zEs; rw [if_pos (he ▸ List.getElem_mem hk)]; congr 1
 unfold zKj
 exact (List.findIdx_eq hk).2 ⟨by simpa using he, fun j hj => by simpa using hb j (by omega) hj⟩
theorem zEu {L : List No} {n : No} (hb : ∀ j (h : j < L.length), L[j] ≠ n) : zEs L n = -1 := by
 unfold zEs; rw [if_neg]; intro h; obtain ⟨j, hj, e⟩ := List.getElem_of_mem h
 exact hb j hj e
theorem zF1 (A : Option Addr) (cap : Nat) (L : List No) (n : No) (w : World) (hA : zA9 w A L) (hn : L.length ≤ 1048576) :
 Calls Tryz.prog 151 #[.slice A L.length cap, .agg (cN n)] w fun e w' => e = .returned (.int .i64 (zEs L n)) ∧ Below w.heap.size w w' := by
 have HA := Kh hA; clear hA; obtain ⟨nk, na, nb, nc, nn, nm, ⟨si, sw⟩, nt⟩ := n; obtain ⟨I, hI⟩ : ∃ I, zEs L ⟨nk, na, nb, nc, nn, nm, ⟨si, sw⟩, nt⟩ = I := ⟨_, rfl⟩
 rw [hI]; have HI := Kh hI; clear hI; simp only [cN]; have B1 := bx w #[.int .i64 nk, .int .i64 na, .int .i64 nb, .int .i64 nc, .int .i64 nn, .int .i64 nm, .int .i64 si, .int .i64 sw, .string nt] 42; have N1 := nx w #[.int .i64 nk, .int .i64 na, .int .i64 nb, .int .i64 nc, .int .i64 nn, .int .i64 nm, .int .i64 si, .int .i64 sw, .string nt] 42
 go_enter Tryz.func151, Tryz.ntmps151
 go_wp2_with fail
 go_loopw [8] (fun j wr => ∃ r : Nat, r ≤ L.length ∧ Hid (∀ j (h : j < L.length), j < r → L[j] ≠ ⟨nk, na, nb, nc, nn, nm, ⟨si, sw⟩, nt⟩) ∧ Hid (Below w.heap.size w wr) ∧ Hid (Blk wr w.heap.size 42 #[.int .i64 nk, .int .i64 na, .int .i64 nb, .int .i64 nc, .int .i64 nn, .int .i64 nm, .int .i64 si, .int .i64 sw, .string nt]) ∧ j = .int .i64 (r : Int)) (fun j _ => L.length - (intOf j).toNat)
 case atStart => exact ⟨0, Nat.zero_le _, fun j _ h => by omega, B1, N1, rfl⟩
 case round =>
  obtain ⟨r, hr, HNo, HBr, HNr, rfl⟩ := hrel
  by_cases hlt : r < L.length
  case neg =>
   obtain rfl : r = L.length := by omega
   obtain rfl : -1 = I := by rw [← HI.out]; exact (zEu (fun j h => HNo.out j h h)).symm
   go_wp2_with fail
   go_ret
   exact ⟨rfl, HBr.out⟩
  obtain ⟨g, rfl, hg, hc⟩ := (HA.out.below HBr.out) (by omega)
  obtain ⟨y0, y1, y2, y3, y4, y5, y6, y7, y8⟩ := hc r hlt; obtain ⟨x0, x1, x2, x3, x4, x5, x6, x7, x8⟩ := HNr.out.nine; clear hc; have e1 := wr1 (r := r) (by omega)
  have hj0 : (0 : Int) ≤ (r : Int) := by omega
  have hj1 : (r : Int) < (L.length : Int) := by omega
  have HS : Hid (L[r] ≠ ⟨nk, na, nb, nc, nn, nm, ⟨si, sw⟩, nt⟩ → ∀ j (h : j < L.length), j < r + 1 → L[j] ≠ ⟨nk, na, nb, nc, nn, nm, ⟨si, sw⟩, nt⟩) := Kh (fun h j hj hjr => by
   by_cases e : j = r
   · subst e; exact h
   · exact HNo.out j hj (by omega))
  have HE : Hid (⟨nk, na, nb, nc, nn, nm, ⟨si, sw⟩, nt⟩ = L[r] → (r : Int) = I) := Kh (fun h => by rw [← HI.out]; exact (zEt hlt HNo.out h.symm).symm)
  generalize L[r] = x at *; obtain ⟨xk, xa, xb, xc, xn, xm, ⟨xi, xw⟩, xt⟩ := x; dsimp only at y0 y1 y2 y3 y4 y5 y6 y7 y8; obtain ⟨z, hz⟩ : ∃ z, decide ((⟨nk, na, nb, nc, nn, nm, ⟨si, sw⟩, nt⟩ : No) = ⟨xk, xa, xb, xc, xn, xm, ⟨xi, xw⟩, xt⟩) = z := ⟨_, rfl⟩
  have q := fun w => zDn hz w
  have HZ := Kh hz; clear hz
  cases z with
  | true =>
   obtain rfl := HE.out (of_decide_eq_true HZ.out)
   go_wp2_with fail
   go_still (by kernel_rfl)
   go_wp2_with fail
   go_ret
   exact ⟨rfl, HBr.out.drew⟩
  | false =>
   have HS' := Kh (HS.out (fun h => of_decide_eq_false HZ.out h.symm))
   go_wp2_with fail
   go_still (by kernel_rfl)
   go_wp2_with fail
   go_roundw
   case rel => exact ⟨r + 1, by omega, HS', HBr.out.drew, HNr.out.drew, by go_num⟩
   case measure => simp [intOf]; omega
theorem zFe (B gf : Nat) (A : Option Addr) (c : Nat) (L : List No) (p : Nat) (w : World) (h : FoldAt w B gf A c L) (hl : L.length ≤ 1048576) (hp : p < L.length) :
 Calls Tryz.prog 148 #[.pointer (some ⟨gf, 0, none⟩), .int .i64 (p : Int)] w fun e w' => e = .returned (.tuple #[.int .i64 (noAt L (p : Int)).n, .bool (decide ((noAt L (p : Int)).k = 34))]) ∧ Below w.heap.size w w' := by
 have b0 := h.blk.cell 0; simp only [List.getElem?_toArray, List.getElem?_cons_zero] at b0
 obtain ⟨g, rfl, hg, hc⟩ := h.noAt (by omega)
 obtain ⟨y0, -, -, -, y4, -⟩ := hc p hp; rw [← zIb hp] at y0 y4; have hp0 : (0 : Int) ≤ (p : Int) := by omega
 have hp1 : (p : Int) < (L.length : Int) := by omega
 clear hc h; have e1 : ((noAt L (p : Int)).k == 34) = decide ((noAt L (p : Int)).k = 34) := by rfl
 rw [← e1]; generalize (noAt L (p : Int)).k = k at *; generalize (noAt L (p : Int)).n = v at *; clear e1
 go_enter Tryz.func148, Tryz.ntmps148
 go_wp2_with fail
 go_still (by kernel_rfl)
 go_wp2_with fail
 exact bodyPost_ret (v := .tuple #[.int .i64 v, .bool (k == 34)]) (by simp [results, Tryz.results148, go_sem]) rfl ⟨rfl, (Below.refl _ _).drew⟩
def zA5 (w w' : World) (gf : Nat) (row : Option Nat) : Prop := ∀ k, k < w.heap.size → k ≠ gf → some k ≠ row → w'.heap[k]? = w.heap[k]?
theorem zA5.of_below {w w' : World} (h : Below w.heap.size w w') (gf : Nat) (row : Option Nat) : zA5 w w' gf row := fun k hk _ _ => h.block k hk
def zA3 (w : World) (B gf : Nat) (A : Option Addr) (c : Nat) (L L' : List No) (p : Int) (e : Ending) (w' : World) : Prop :=
 ∃ A' c', e = .returned (.int .i64 p) ∧ FoldAt w' B gf A' c' L' ∧ Below B w w' ∧ zA5 w w' gf (Value.slice A L.length c).ownBlock
theorem zF5 : (Tryz.prog.info? 42).map (fun i => (i.zero, i.size, i.bytes)) = some (some (.agg #[.int .i64 0, .int .i64 0, .int .i64 0, .int .i64 0, .int .i64 0, .int .i64 0, .int .i64 0, .int .i64 0, .string ByteArray.empty]), 9, 80) := by kernel_rfl
theorem put_end {w wy w3 : World} {B gf : Nat} {A A' : Option Addr} {c c' : Nat} {L : List No} {n : No} {Y : Obj} (hF : FoldAt wy B gf A c L) (hgf : gf < w.heap.size) (hX : Below w.heap.size w wy) (hB : B ≤ w.heap.size)
 (ho : w3.ownsRow B 42 9 (.slice A' (L.length + 1) c') (L.length + 1) (zC6 L ++ (cN n).toList)) (hg : (wy.drew.alloc Y).grownBy w3 (Value.slice A L.length c).ownBlock) (hb : Blk w3 gf 71 #[.slice A L.length c]) :
    zA3 w B gf A c L (L ++ [n]) (L.length : Int) (.returned (.int .i64 (L.length : Int))) (w3.setCell ⟨gf, 0, none⟩ (.slice A' (L.length + 1) c')) := by
 have hBy : B ≤ wy.heap.size := Nat.le_trans hB hX.size; have hs : (wy.drew.alloc Y).heap.size = wy.heap.size + 1 := by simp
 refine ⟨A', c', rfl, ⟨?_, ?_, hF.base⟩, ?_, ?_⟩
 · have := hb.set_ 0 (.slice A' (L.length + 1) c')
   rw [show (L ++ [n]).length = L.length + 1 by simp]
   simpa using this
 · rw [show (L ++ [n]).length = L.length + 1 by simp, zC7]
   exact zJb ho (p := ⟨gf, 0, none⟩) (zJg ho hb (by decide)) _
 · exact ((((hX.mono hB).drew.alloc hBy Y).grown hg (by rw [hs]; omega) (fun k e => (hF.own.lt k e).1)).setCell (p := ⟨gf, 0, none⟩) hF.base _)
 · intro k hk hne hrow
   have h1 : (w3.setCell ⟨gf, 0, none⟩ (.slice A' (L.length + 1) c')).heap[k]? = w3.heap[k]? := Below.heap_setCell _ _ _ _ hne; have h2 := hg.block k (by rw [hs]; have := hX.size; omega) hrow
   have h3 : (wy.drew.alloc Y).heap[k]? = wy.heap[k]? := Below.heap_alloc wy Y k (by have := hX.size; omega)
   rw [h1, h2, h3, hX.block k hk]
theorem zKp (B gf : Nat) (A : Option Addr) (c : Nat) (L : List No) (n : No) (w : World) (h : FoldAt w B gf A c L) (hl : L.length ≤ 61) :
 Calls Tryz.prog 97 #[.pointer (some ⟨gf, 0, none⟩), .agg (cN n)] w fun e w' => zA3 w B gf A c L (zKm L n).1 (zKm L n).2 e w' := by
 have H := Kh h; clear h; obtain ⟨⟨L', p'⟩, hX⟩ : ∃ X, zKm L n = X := ⟨_, rfl⟩
 rw [hX]; have HX := Kh hX; clear hX; dsimp only; have hB : B ≤ w.heap.size := Nat.le_trans H.out.base (Nat.le_of_lt H.out.blk.lt); have B1 := bx w (cN n) 42; have N1 := nx w (cN n) 42; have F1 := Kh (H.out.below B1.out)
 go_enter Tryz.func97, Tryz.ntmps97
 go_wp2_with fail
 obtain ⟨wz, hwz⟩ : ∃ z, w.alloc (.cells (cN n) 42) = z := ⟨_, rfl⟩
 rw [hwz] at B1 N1 F1 ⊢; clear hwz; have b0 := F1.out.blk.cell 0; simp only [List.getElem?_toArray, List.getElem?_cons_zero] at b0
 have kf := fun x : Ext wz => zDt b0 F1.out.blk.lt x
 obtain ⟨x0, x1, x2, x3, x4, x5, x6, x7, x8⟩ := N1.out.nine; have k0 := fun x : Ext wz => zDt x0 N1.out.lt x
 have k1 := fun x : Ext wz => zDt x1 N1.out.lt x
 have k2 := fun x : Ext wz => zDt x2 N1.out.lt x
 have k3 := fun x : Ext wz => zDt x3 N1.out.lt x
 have k4 := fun x : Ext wz => zDt x4 N1.out.lt x
 have k5 := fun x : Ext wz => zDt x5 N1.out.lt x
 have k6 := fun x : Ext wz => zDt x6 N1.out.lt x
 have k7 := fun x : Ext wz => zDt x7 N1.out.lt x
 have k8 := fun x : Ext wz => zDt x8 N1.out.lt x
 have T := Kh (fun x : Ext wz => zF1 A c L n x.1 (F1.out.noAt.below x.2) (by omega))
 by_cases hmem : n ∈ L
 · obtain ⟨q, hq⟩ : ∃ q, zKj L n = q := ⟨_, rfl⟩
   have eI : zEs L n = (q : Int) := by unfold zEs; rw [if_pos hmem, hq]
   have eP : zKm L n = (L, (q : Int)) := by unfold zKm; rw [if_pos hmem, hq]
   rw [eI] at T
   obtain ⟨rfl, rfl⟩ : L = L' ∧ (q : Int) = p' := by
    have e := eP.symm.trans HX.out; injection e with e1 e2
    exact ⟨e1, e2⟩
   have d1 : ¬ (q : Int) < 0 := by omega
   clear eI eP hq hmem; simp only [cN] at T
   refine zR4 (by kernel_rfl) (by kernel_rfl) ?_
   repeat go_big_quiet_step ((go_at_call 151; exact zDs _ (T.out _)))
   refine wpQuiet_nil ?_
   intro wt hwt; obtain ⟨x, hwx⟩ := hwt; subst hwx; have BX := Kh (B1.out.trans (x.2.mono B1.out.size))
   go_wp2_with fail
   go_ret
   exact ⟨A, c, rfl, H.out.below BX.out, BX.out.mono hB, zA5.of_below BX.out _ _⟩
 · have eI : zEs L n = -1 := by unfold zEs; rw [if_neg hmem]
   have eP : zKm L n = (L ++ [n], (L.length : Int)) := by unfold zKm; rw [if_neg hmem]
   rw [eI] at T
   obtain ⟨rfl, rfl⟩ : L ++ [n] = L' ∧ (L.length : Int) = p' := by
    have e := eP.symm.trans HX.out; injection e with e1 e2
    exact ⟨e1, e2⟩
   clear eI eP hmem; have TT := T; simp only [cN] at T
   refine zR4 (by kernel_rfl) (by kernel_rfl) ?_
   repeat go_big_quiet_step ((go_at_call 151; exact zDs _ (T.out _)))
   refine wpQuiet_nil ?_
   intro wt hwt; obtain ⟨x, hwx⟩ := hwt; subst hwx; have BX := Kh (B1.out.trans (x.2.mono B1.out.size)); have FX := Kh (F1.out.below x.2); have NX := Kh (N1.out.below x.2 N1.out.lt); clear kf k0 k1 k2 k3 k4 k5 k6 k7 k8 x0 x1 x2 x3 x4 x5 x6 x7 x8 b0 T TT; obtain ⟨wy, hwy⟩ : ∃ y, x.1 = y := ⟨_, rfl⟩
   rw [hwy] at BX FX NX ⊢; clear hwy; have b0 := FX.out.blk.cell 0; have b1 := FX.out.blk.frozen 0; simp only [List.getElem?_toArray, List.getElem?_cons_zero] at b0
   obtain ⟨x0, x1, x2, x3, x4, x5, x6, x7, x8⟩ := NX.out.nine
   go_wp2_with fail
   obtain ⟨i42, hi, hz0, hz1, hz2⟩ := info_parts zF5
   have HF : Hid (∀ Y w3, (wy.drew.alloc Y).grownBy w3 (Value.slice A L.length c).ownBlock → w3.cell? ⟨gf, 0, none⟩ = some (.slice A L.length c) ∧ w3.frozen? ⟨gf, 0, none⟩ = false ∧ Blk w3 gf 71 #[.slice A L.length c]) := fun Y w3 hg => by
    have hb3 := (FX.out.blk.drew.alloc Y).grown hg (fun e => zJg FX.out.own FX.out.blk (by decide) e.symm)
    exact ⟨by rw [hb3.cell]; rfl, hb3.frozen 0, hb3⟩
   have hBy : B ≤ wy.heap.size := Nat.le_trans hB BX.out.size; have kY : ∀ Y, (wy.alloc Y).cell? ⟨gf, 0, none⟩ = some (.slice A L.length c) := fun Y => by rw [(FX.out.blk.alloc Y).cell]; rfl
   have kZ : ∀ k Y, ((wy.drewN k).alloc Y).cell? ⟨gf, 0, none⟩ = some (.slice A L.length c) := fun k Y => kY Y
   go_region_law (refine zOl rfl (.tmp 23) (.tmp 25) 28 rfl B 42 i42 _ 9 80 Tryz.underlying28 hi hz0 hz1 hz2 rfl (by decide) _ L.length (zC6 L) rfl (by exact FX.out.own.drew.alloc _) (some ⟨wy.heap.size, 0, none⟩) 1 1 (cN n).toList rfl (by exact .inr ⟨_, rfl, Blk.news (Blk.new_at _ 42 (cN n) (by simp))⟩) rfl (zCa n) (by unfold maxLen; omega) (by omega) (by simp; omega) ?_; intro A' c' w3 ho3 hg3 hor3; obtain ⟨c5, f5, b5⟩ := HF.out _ w3 ⟨hg3.os, hg3.tape, hg3.output, hg3.size, hg3.block⟩)
   all_goals
    go_wp2_with fail
    go_ret
    refine put_end (Y := .cells (cN n) 42) FX.out H.out.blk.lt BX.out hB ho3 ⟨hg3.os, hg3.tape, hg3.output, hg3.size, hg3.block⟩ b5
theorem zD3 (B gf : Nat) (A : Option Addr) (c : Nat) (L : List No) (wd v : Int) (w : World) (h : FoldAt w B gf A c L) (hl : L.length ≤ 61) :
 Calls Tryz.prog 146 #[.pointer (some ⟨gf, 0, none⟩), .int .i64 wd, .int .i64 v] w fun e w' => zA3 w B gf A c L (zKm L (zD0 wd v)).1 (zKm L (zD0 wd v)).2 e w' := by
 have H := Kh h; clear h; have hB : B ≤ w.heap.size := Nat.le_trans H.out.base (Nat.le_of_lt H.out.blk.lt); have T := Kh (fun (W : World) (hW : Below w.heap.size w W) => zKp B gf A c L (zD0 wd v) W (H.out.below hW) hl)
 generalize (zKm L (zD0 wd v)).1 = L' at *; generalize (zKm L (zD0 wd v)).2 = p' at *; simp only [cN, zD0] at T
 go_enter Tryz.func146, Tryz.ntmps146
 go_wp2_with (first | (go_at_call 93; refine (zQs _ _).mono ?_; rintro e w1 ⟨rfl, hb1⟩; have HB1 := Kh hb1; clear hb1) | (go_at_call 97; refine (T.out _ HB1.out).mono ?_; rintro e w2 ⟨A', c', rfl, hf, hb, hh⟩))
 go_ret
 exact ⟨A', c', rfl, hf, (HB1.out.mono hB).trans hb, fun k hk h1 h2 => (hh k (Nat.lt_of_lt_of_le hk HB1.out.size) h1 h2).trans (HB1.out.block k hk)⟩
theorem Kn.or_at {x y : Kn} {p : Int} (h : x.or y = .at p) : x = .at p ∨ y = .at p := by cases x <;> first | exact .inl h | exact .inr h
theorem Kn.or_con {x y : Kn} {w v : Int} (h : x.or y = .con w v) : x = .con w v ∨ y = .con w v := by cases x <;> first | exact .inl h | exact .inr h
theorem zAp {n : No} {p : Int} (h : zAn n = .at p) : (n.k = 6 ∨ n.k = 7) ∧ p = n.a := by
 unfold zAn at h
 by_cases h1 : n.k = 6 ∨ n.k = 7
 · rw [if_pos h1] at h; injection h with h; exact ⟨h1, h.symm⟩
 rw [if_neg h1] at h
 by_cases h2 : n.k = 8 ∨ n.k = 10
 · rw [if_pos h2] at h; cases h
 rw [if_neg h2] at h
 by_cases h3 : n.k = 21 ∨ n.k = 24 ∨ n.k = 25
 · rw [if_pos h3] at h; cases h
 rw [if_neg h3] at h
 by_cases h4 : n.k = 22 ∨ n.k = 23
 · rw [if_pos h4] at h; cases h
 rw [if_neg h4] at h; cases h
theorem zAq {n : No} {w v : Int} (h : zAn n = .con w v) : ((n.k = 8 ∨ n.k = 10) ∧ w = n.s.w ∧ v = 0) ∨ ((21 ≤ n.k ∧ n.k ≤ 25) ∧ w = 1 ∧ (v = 0 ∨ v = 1)) := by
 unfold zAn at h
 by_cases h1 : n.k = 6 ∨ n.k = 7
 · rw [if_pos h1] at h; cases h
 rw [if_neg h1] at h
 by_cases h2 : n.k = 8 ∨ n.k = 10
 · rw [if_pos h2] at h; injection h with h h'; exact .inl ⟨h2, h.symm, h'.symm⟩
 rw [if_neg h2] at h
 by_cases h3 : n.k = 21 ∨ n.k = 24 ∨ n.k = 25
 · rw [if_pos h3] at h; injection h with h h'; exact .inr ⟨by omega, h.symm, .inr h'.symm⟩
 rw [if_neg h3] at h
 by_cases h4 : n.k = 22 ∨ n.k = 23
 · rw [if_pos h4] at h; injection h with h h'; exact .inr ⟨by omega, h.symm, .inl h'.symm⟩
 rw [if_neg h4] at h; cases h
theorem zFn {p : Prop} [Decidable p] {x y z : Kn} (h : (if p then x else y) = z) : x = z ∨ y = z := by
 split at h
 · exact .inl h
 · exact .inr h
theorem zBb {L : List No} {k c o p : Int} (h : zB7 L k c o = .at p) : (k = 6 ∨ k = 7 ∨ k = 8 ∨ k = 9 ∨ k = 11) ∧ (p = c ∨ p = o) := by
 unfold zB7 at h
 by_cases h1 : k = 6
 · rw [if_pos h1] at h
   refine ⟨.inl h1, ?_⟩
   rcases zFn h with h | h
   · injection h with h; exact .inl h.symm
   · rcases zFn h with h | h
     · injection h with h; exact .inr h.symm
     · cases h
 rw [if_neg h1] at h
 by_cases h2 : k = 7
 · rw [if_pos h2] at h
   refine ⟨.inr (.inl h2), ?_⟩
   rcases zFn h with h | h
   · injection h with h; exact .inr h.symm
   · rcases zFn h with h | h
     · injection h with h; exact .inl h.symm
     · cases h
 rw [if_neg h2] at h
 by_cases h3 : k = 8 ∨ k = 9
 · rw [if_pos h3] at h
   refine ⟨by omega, ?_⟩
   rcases zFn h with h | h
   · injection h with h; exact .inr h.symm
   · cases h
 rw [if_neg h3] at h
 by_cases h4 : k = 11
 · rw [if_pos h4] at h
   refine ⟨by omega, ?_⟩
   rcases zFn h with h | h
   · injection h with h; exact .inl h.symm
   · rcases zFn h with h | h
     · injection h with h; exact .inr h.symm
     · cases h
 rw [if_neg h4] at h; cases h
theorem zBc {L : List No} {k c o w v : Int} (h : zB7 L k c o = .con w v) : False := by
 unfold zB7 at h
 rcases zFn h with h | h
 · rcases zFn h with h | h
   · cases h
   · rcases zFn h with h | h <;> cases h
 rcases zFn h with h | h
 · rcases zFn h with h | h
   · cases h
   · rcases zFn h with h | h <;> cases h
 rcases zFn h with h | h
 · rcases zFn h with h | h <;> cases h
 rcases zFn h with h | h
 · rcases zFn h with h | h
   · cases h
   · rcases zFn h with h | h <;> cases h
 · cases h
theorem zKx {L : List No} {n : No} {p : Int} (h : zKw L n = .at p) : (n.k = 10 ∨ (16 ≤ n.k ∧ n.k ≤ 20)) ∧ p = n.a := by
 unfold zKw at h; split at h
 · rename_i h1; injection h with h; exact ⟨h1.1, h.symm⟩
 · cases h
theorem zKy {L : List No} {n : No} {w v : Int} (h : zKw L n = .con w v) : False := by
 unfold zKw at h; split at h <;> cases h
theorem zFv {L : List No} {n : No} {p : Int} (hL : zAb L) (hl : L.length ≤ 60) (h : zAa L n) (hk : zFu L n = .at p) : (0 ≤ p ∧ p < (L.length : Int)) ∧ (noAt L p).s = n.s := by
 have hkk := h.kind; unfold zFu at hk
 rcases Bool.eq_false_or_eq_true (zAr L n) with hc | hc
 · rw [if_pos hc] at hk; cases hk
 rw [if_neg (by simp [hc])] at hk
 clear hc
 by_cases h33 : n.k = 33
 · rw [if_pos h33] at hk
   obtain ⟨s1, s2, s3⟩ := h.sort33 h33; have hp := zK0 (k := n.k) (by omega)
   have hb := (h.b (by omega)).1
   have hc := (h.c (by omega)).1
   rcases zFn hk with hk | hk
   · injection hk with hk; subst hk; exact ⟨hb, s2⟩
   rcases zFn hk with hk | hk
   · injection hk with hk; subst hk; exact ⟨hc, s3⟩
   rcases zFn hk with hk | hk
   · injection hk with hk; subst hk; exact ⟨hb, s2⟩
   · cases hk
 rw [if_neg h33] at hk
 by_cases h37 : n.k = 37
 · rw [if_pos h37] at hk
   split at hk
   · rename_i hc
     injection hk with hk
     subst hk; have hp := zJz (k := n.k) (by omega)
     have ha := (h.a (by omega)).1
     obtain ⟨s1, s2, s3⟩ := h.sort37 h37; have hx := hL.in hl ha.1 ha.2; obtain ⟨u1, u2, u3, u4⟩ := hx.sort38 hc.1; have hx3 := (hL.part ha.1 ha.2).2.2 (by rw [zK0 (.inr hc.1)]; omega)
     exact ⟨by omega, by rw [u3, s3, u4]⟩
   · cases hk
 rw [if_neg h37] at hk
 by_cases h1 : zK1 n.k = 1
 · rw [if_pos h1] at hk
   have hr : (1 ≤ n.k ∧ n.k ≤ 5) ∨ (30 ≤ n.k ∧ n.k ≤ 32) := by
    unfold zK1 at h1
    repeat' split at h1
    all_goals omega
   obtain ⟨s1, s2, s3, s4, s5⟩ := h.sort1 hr; have ha := (h.a (by omega)).1
   unfold zIv at hk
   by_cases h12 : n.k = 1 ∨ n.k = 2
   · rw [if_pos h12] at hk
     split at hk
     · rename_i he
       injection hk with hk
       subst hk; have hx := hL.in hl ha.1 ha.2; obtain ⟨u1, u2, u3, -, -⟩ := hx.sort1 (by omega)
       have hx3 := (hL.part ha.1 ha.2).1 (by rw [zJy (by omega)]; omega)
       rw [if_pos (by omega)] at s3 u3
       refine ⟨by omega, ?_⟩
       rw [zQg u1, zQg s2, s3, u3]
     · cases hk
   rw [if_neg h12] at hk
   by_cases h30 : n.k = 30
   · rw [if_pos h30] at hk
     split at hk
     · rename_i he
       injection hk with hk
       subst hk; rw [if_neg (by omega), if_neg (by omega), if_pos h30] at s3
       refine ⟨ha, ?_⟩
       rw [zQg s1, zQg s2, s3]; congr 1
       omega
     · cases hk
   rw [if_neg h30] at hk; split at hk
   · split at hk
     · rename_i h31 he
       injection hk with hk
       subst hk; rw [if_neg (by omega), if_neg (by omega), if_neg h30] at s3
       refine ⟨ha, ?_⟩
       rw [zQg s1, zQg s2, s3, he, Int.add_zero]
     · cases hk
   · cases hk
 rw [if_neg h1] at hk; split at hk
 · rename_i h6
   have hp := zJz (k := n.k) (by omega)
   have ha := (h.a (by omega)).1
   have hb := (h.b (by omega)).1
   have key : (n.k = 6 ∨ n.k = 7 ∨ n.k = 8 ∨ n.k = 9 ∨ n.k = 11 ∨ n.k = 10 ∨ (16 ≤ n.k ∧ n.k ≤ 20)) → (noAt L n.a).s = n.s ∧ (noAt L n.b).s = n.s := by
    intro hkk; obtain ⟨s1, s2, s3, s4⟩ := h.sort2 (by omega) (by omega)
    rw [if_pos (by omega)] at s4
    rw [s2]; have : (noAt L n.a).s = n.s := by rw [zQg s1, zQg s3, s4]
    exact ⟨this, this⟩
   unfold zJr at hk
   rcases Kn.or_at hk with hk | hk
   · split at hk
     · obtain ⟨k1, rfl⟩ := zAp hk
       exact ⟨ha, (key (by omega)).1⟩
     · cases hk
   rcases Kn.or_at hk with hk | hk
   · obtain ⟨k1, rfl | rfl⟩ := zBb hk
     · exact ⟨ha, (key (by omega)).1⟩
     · exact ⟨hb, (key (by omega)).2⟩
   rcases Kn.or_at hk with hk | hk
   · obtain ⟨k1, rfl | rfl⟩ := zBb hk
     · exact ⟨hb, (key (by omega)).2⟩
     · exact ⟨ha, (key (by omega)).1⟩
   · obtain ⟨k1, rfl⟩ := zKx hk
     exact ⟨ha, (key (by omega)).1⟩
 · cases hk
theorem zFd {L : List No} {p : Int} : zFc L p = true ↔ (noAt L p).k = 34 := by unfold zFc; simp
theorem zAt {L : List No} {n : No} : zAr L n = true ↔ 0 < zK1 n.k ∧ (0 < zK1 n.k → (noAt L n.a).k = 34) ∧ (1 < zK1 n.k → (noAt L n.b).k = 34) ∧ (2 < zK1 n.k → (noAt L n.c).k = 34) := by
 unfold zAr; simp only [Bool.and_eq_true, Bool.or_eq_true, decide_eq_true_eq, zFd]; constructor
 · rintro ⟨h0, h1, h2, h3⟩
   exact ⟨h0, fun _ => h1, fun h => by rcases h2 with h2 | h2; omega; exact h2, fun h => by rcases h3 with h3 | h3; omega; exact h3⟩
 · rintro ⟨h0, h1, h2, h3⟩
   refine ⟨h0, h1 h0, ?_, ?_⟩
   · by_cases h : zK1 n.k ≤ 1
     · exact .inl h
     · exact .inr (h2 (by omega))
   · by_cases h : zK1 n.k ≤ 2
     · exact .inl h
     · exact .inr (h3 (by omega))
theorem zD1 {L : List No} (hL : zAb L) {p : Int} (h0 : 0 ≤ p) (h1 : p < (L.length : Int)) (hk : (noAt L p).k = 34) : (noAt L p).s.i = 0 ∧ zDw (noAt L p).s [(noAt L p).n] := by
 have h := hL.at h0 h1; obtain ⟨s1, s2⟩ := h.sort34 hk
 exact ⟨s1, zDy s1 h.sortOk s2⟩
theorem zAs {L : List No} {n : No} (hL : zAb L) (h : zAa L n) (hc : zAr L n = true) : n.s.i = 0 ∧ n.k ≠ 35 ∧ n.k ≠ 36 ∧ n.k ≠ 37 ∧ n.k ≠ 38 ∧ n.k ≠ 34 := by
 obtain ⟨c0, c1, c2, c3⟩ := zAt.1 hc; have hkk := h.kind; have ha := (h.a c0).1; have fa := (zD1 hL ha.1 ha.2 (c1 c0)).1
 by_cases h1 : (1 ≤ n.k ∧ n.k ≤ 5) ∨ (30 ≤ n.k ∧ n.k ≤ 32)
 · exact ⟨(h.sort1 h1).2.1, by omega⟩
 by_cases h21 : n.k = 21
 · rw [(h.sort21 h21).2]; exact ⟨rfl, by omega⟩
 by_cases h2 : 6 ≤ n.k ∧ n.k ≤ 28
 · exact ⟨(h.sort2 h2 h21).2.2.1, by omega⟩
 by_cases h29 : n.k = 29
 · exact ⟨(h.sort29 h29).2.2.1, by omega⟩
 by_cases h33 : n.k = 33
 · have hp := zK0 (k := n.k) (by omega)
   have hb := (h.b (by omega)).1
   rw [← (h.sort33 h33).2.1]
   exact ⟨(zD1 hL hb.1 hb.2 (c2 (by omega))).1, by omega⟩
 by_cases h34 : 34 ≤ n.k ∧ n.k ≤ 36
 · rw [zJx h34] at c0; omega
 by_cases h37 : n.k = 37
 · have := (h.sort37 h37).1; omega
 · have := (h.sort38 (by omega)).1; omega
theorem zD8 {L : List No} {n : No} (hL : zAb L) (h : zAa L n) (hc : zAr L n = true) : zQi n.s.w (zD7 L n) := by
 obtain ⟨c0, c1, c2, c3⟩ := zAt.1 hc; have hf := zAs hL h hc; have := zIo (va := fun p => [(noAt L p).n]) h (by omega) (fun hp => (zD1 hL (h.a hp).1.1 (h.a hp).1.2 (c1 hp)).2) (fun hp => (zD1 hL (h.b hp).1.1 (h.b hp).1.2 (c2 hp)).2) (fun hp => (zD1 hL (h.c hp).1.1 (h.c hp).1.2 (c3 hp)).2)
 exact zDx this h.sortOk
theorem zFw {L : List No} {n : No} {w v : Int} (hL : zAb L) (h : zAa L n) (hk : zFu L n = .con w v) : zQi w v ∧ n.s = wS w := by
 have one : ∀ x : Int, (x = 0 ∨ x = 1) → zQi 1 x := fun x hx => ⟨⟨by decide, by decide⟩, by omega, by have : ((2 ^ (1 : Int).toNat : Nat) : Int) = 2 := rfl; omega⟩
 have hso := h.sortOk; unfold zFu at hk
 rcases Bool.eq_false_or_eq_true (zAr L n) with hc | hc
 · rw [if_pos hc] at hk
   injection hk with h1 h2
   subst h1 h2
   exact ⟨zD8 hL h hc, zQg (zAs hL h hc).1⟩
 rw [if_neg (by simp [hc])] at hk
 clear hc
 rcases zFn hk with hk | hk
 · rcases zFn hk with hk | hk
   · cases hk
   rcases zFn hk with hk | hk
   · cases hk
   rcases zFn hk with hk | hk <;> cases hk
 rcases zFn hk with hk | hk
 · rcases zFn hk with hk | hk <;> cases hk
 rcases zFn hk with hk | hk
 · unfold zIv at hk
   rcases zFn hk with hk | hk
   · rcases zFn hk with hk | hk <;> cases hk
   rcases zFn hk with hk | hk
   · rcases zFn hk with hk | hk <;> cases hk
   rcases zFn hk with hk | hk
   · rcases zFn hk with hk | hk <;> cases hk
   · cases hk
 split at hk
 · unfold zJr at hk
   rcases Kn.or_con hk with hk | hk
   · split at hk
     · rcases zAq hk with ⟨k1, rfl, rfl⟩ | ⟨k1, rfl, hv⟩
       · obtain ⟨s1, s2, s3, s4⟩ := h.sort2 (by omega) (by omega)
         refine ⟨⟨hso.2, by decide, ?_⟩, zQg s3⟩
         have := Nat.two_pow_pos n.s.w.toNat; omega
       · refine ⟨one _ hv, ?_⟩
         by_cases h21 : n.k = 21
         · exact (h.sort21 h21).2
         · obtain ⟨s1, s2, s3, s4⟩ := h.sort2 (by omega) h21
           rw [if_neg (by omega)] at s4
           rw [zQg s3, s4]
     · cases hk
   rcases Kn.or_con hk with hk | hk
   · exact (zBc hk).elim
   rcases Kn.or_con hk with hk | hk
   · exact (zBc hk).elim
   · exact (zKy hk).elim
 · cases hk
theorem con_in {L : List No} {w v : Int} (hl : L.length ≤ 60) (h : zQi w v) : zAa L (zD0 w v) := by
 refine zAa.of hl ?_ ?_ ?_
 · have e : zK1 (zD0 w v).k = 0 := zJx (show (34 : Int) ≤ 34 ∧ (34 : Int) ≤ 36 by decide)
   refine ⟨by omega, ⟨?_, ?_, ?_⟩, .inl (.inl rfl), .inr rfl, ?_⟩
   · unfold zJt; rw [e, if_neg (by decide)]; rfl
   · unfold zJt; rw [e, if_neg (by decide)]; rfl
   · unfold zJt; rw [e, if_neg (by decide)]; rfl
   · rw [if_neg (show ¬ zI6 (zD0 w v).k from (by decide : ¬ ((34 : Int) = 35 ∨ (34 : Int) = 36)))]; rfl
 · have e : zK1 (zD0 w v).k = 0 := zJx (show (34 : Int) ≤ 34 ∧ (34 : Int) ≤ 36 by decide)
   exact ⟨fun h => by omega, fun h => by omega, fun h => by omega⟩
 · unfold zNp
   rw [if_neg (show ¬ ((zD0 w v).k = 35 ∨ (zD0 w v).k = 36) from (by decide : ¬ ((34 : Int) = 35 ∨ (34 : Int) = 36))), if_pos (show (zD0 w v).k = 34 from rfl), if_pos ⟨rfl, h⟩]
theorem swap_s (n : No) : (zOm n).s = n.s := by unfold zOm; split <;> rfl
theorem swap_in {L : List No} {n : No} (h : zAa L n) : zAa L (zOm n) := by
 by_cases hc : zPq n.k ∧ n.b < n.a
 case neg => unfold zOm; rw [if_neg hc]; exact h
 have e : zOm n = { n with a := n.b, b := n.a } := by unfold zOm; rw [if_pos hc]
 rw [e]; have hkk : 6 ≤ n.k ∧ n.k ≤ 28 := by have := hc.1; unfold zPq at this; omega
 have hs : (noAt L n.b).s = (noAt L n.a).s := by
  by_cases h21 : n.k = 21
  · exact (h.sort21 h21).1
  · exact (h.sort2 hkk h21).2.1
 have hp := zJz (k := n.k) (by omega)
 obtain ⟨h1, h2, h3, h4⟩ := h.out
 refine zAa.of h1 ⟨h2.1, ⟨?_, ?_, ?_⟩, h2.2.2⟩ ⟨fun _ => h3.2.1 (by omega), fun _ => h3.1 (by omega), h3.2.2⟩ ?_
 · have := h2.2.1.2.1
   unfold zJt at this ⊢; simp only [hp] at this ⊢; simpa using this
 · have := h2.2.1.1
   unfold zJt at this ⊢; simp only [hp] at this ⊢; simpa using this
 · exact h2.2.1.2.2
 · have e0 : zJu L n 0 n.a = (noAt L n.a).s := by unfold zJu; rw [if_pos (by omega)]
   have e1 : zJu L n 1 n.b = (noAt L n.b).s := by unfold zJu; rw [if_pos (by omega)]
   have f0 : zJu L { n with a := n.b, b := n.a } 0 n.b = (noAt L n.b).s := by unfold zJu; rw [if_pos (by show (0 : Int) < zK1 n.k; omega)]
   have f1 : zJu L { n with a := n.b, b := n.a } 1 n.a = (noAt L n.a).s := by unfold zJu; rw [if_pos (by show (1 : Int) < zK1 n.k; omega)]
   show zNp { n with a := n.b, b := n.a } (zJu L { n with a := n.b, b := n.a } 0 n.b) (zJu L { n with a := n.b, b := n.a } 1 n.a) (zJu L n 2 n.c) = some n.s
   rw [f0, f1, hs]; rw [e0, e1, hs] at h4
   exact h4
theorem zKl {L : List No} {n : No} (h : n ∈ L) : zKj L n < L.length := by
 unfold zKj
 exact List.findIdx_lt_length_of_exists ⟨n, h, by simp⟩
theorem zKk {L : List No} {n : No} (h : n ∈ L) : noAt L (zKj L n : Int) = n := by
 have hl := zKl h; rw [zIb hl]; have := List.findIdx_getElem (p := fun x => decide (x = n)) (xs := L) (w := hl)
 exact of_decide_eq_true this
def zA4 (L L' : List No) : Prop := ∃ M, L' = L ++ M
theorem zA4.refl (L : List No) : zA4 L L := ⟨[], by simp⟩
theorem zA4.trans {A B C : List No} (h : zA4 A B) (k : zA4 B C) : zA4 A C := by
 obtain ⟨M, rfl⟩ := h; obtain ⟨N, rfl⟩ := k; exact ⟨M ++ N, by simp⟩
theorem zA4.len {A B : List No} (h : zA4 A B) : A.length ≤ B.length := by obtain ⟨M, rfl⟩ := h; simp
theorem zA4.at {A B : List No} (h : zA4 A B) {p : Int} (h0 : 0 ≤ p) (h1 : p < (A.length : Int)) : noAt B p = noAt A p := by obtain ⟨M, rfl⟩ := h; exact zIa M h0 h1
structure Laid (L : List No) (r : List No × Int) (s : So) : Prop where
 grows : zA4 L r.1
 one : r.1.length ≤ L.length + 1
 ok : zAb r.1
 p0 : 0 ≤ r.2
 p1 : r.2 < (r.1.length : Int)
 sort : (noAt r.1 r.2).s = s
theorem zKr {L : List No} {n : No} (hL : zAb L) (h : zAa L n) : Laid L (zKm L n) n.s := by
 unfold zKm; split
 · rename_i hm
   have := zKl hm
   exact ⟨zA4.refl _, by simp, hL, by simp, by simp; omega, by rw [zKk hm]⟩
 · exact ⟨⟨[n], rfl⟩, by simp, zIi.2 ⟨hL, h⟩, by simp, by simp; omega, by rw [zIc]⟩
theorem zGx {L : List No} {n : No} (hL : zAb L) (hl : L.length ≤ 60) (h : zAa L n) : Laid L (zGt L n) n.s := by
 unfold zGt
 cases hk : zFu L n with
 | «at» p =>
  have := zFv hL hl h hk
  exact ⟨zA4.refl _, by simp, hL, this.1.1, this.1.2, this.2⟩
 | con w v =>
  obtain ⟨h1, h2⟩ := zFw hL h hk; rw [h2]
  exact zKr hL (con_in hl h1)
 | no =>
  have := zKr hL (swap_in h); rw [swap_s] at this
  exact this
structure Fold (l : List No) (i : Nat) (L : List No) (T : List Int) : Prop where
 is : (l.take i).foldl zE4 ([], []) = (L, T)
 len : T.length = i
 few : L.length ≤ i
 ok : zAb L
 place : ∀ (p : Int), 0 ≤ p → p < (i : Int) → 0 ≤ toP T p ∧ toP T p < (L.length : Int) ∧ (noAt L (toP T p)).s = (noAt l p).s
theorem Fold.zero (l : List No) : Fold l 0 [] [] := ⟨rfl, rfl, by simp, fun i h => absurd h (by simp), fun p h0 h1 => by omega⟩
theorem toP_app {T : List Int} (x : Int) {p : Int} (h0 : 0 ≤ p) (h1 : p < (T.length : Int)) : toP (T ++ [x]) p = toP T p := by
 unfold toP; rw [List.getD_eq_getElem?_getD, List.getD_eq_getElem?_getD, List.getElem?_append_left (by omega)]
theorem toP_new (T : List Int) (x : Int) : toP (T ++ [x]) (T.length : Int) = x := by
 unfold toP; rw [List.getD_eq_getElem?_getD, List.getElem?_append_right (by omega)]
 simp
theorem Fold.parted {l : List No} {i : Nat} {L : List No} {T : List Int} (h : Fold l i L T) (hi : i < l.length) (h60 : l.length ≤ 60) (hl : zAb l) : zAa L (zJv T l[i]) := by
 have hn := hl i hi; generalize hx : l[i] = n at *; obtain ⟨h1, h2, h3, h4⟩ := hn.out; have hlen : (l.take i).length = i := by simp; omega
 have hA : 0 < zK1 n.k → (0 ≤ toP T n.a ∧ toP T n.a < (L.length : Int)) ∧ (noAt L (toP T n.a)).s = (noAt (l.take i) n.a).s := fun hp => by
  have := (hn.a hp).1; rw [hlen] at this; obtain ⟨p1, p2, p3⟩ := h.place n.a this.1 this.2
  exact ⟨⟨p1, p2⟩, by rw [p3, zId this.1 this.2]⟩
 have hB : 1 < zK1 n.k → (0 ≤ toP T n.b ∧ toP T n.b < (L.length : Int)) ∧ (noAt L (toP T n.b)).s = (noAt (l.take i) n.b).s := fun hp => by
  have := (hn.b hp).1; rw [hlen] at this; obtain ⟨p1, p2, p3⟩ := h.place n.b this.1 this.2
  exact ⟨⟨p1, p2⟩, by rw [p3, zId this.1 this.2]⟩
 have hC : 2 < zK1 n.k → (0 ≤ toP T n.c ∧ toP T n.c < (L.length : Int)) ∧ (noAt L (toP T n.c)).s = (noAt (l.take i) n.c).s := fun hp => by
  have := (hn.c hp).1; rw [hlen] at this; obtain ⟨p1, p2, p3⟩ := h.place n.c this.1 this.2
  exact ⟨⟨p1, p2⟩, by rw [p3, zId this.1 this.2]⟩
 have ok : ∀ (j p : Int), zJt (zK1 n.k) j (l.take i).length p → (j < zK1 n.k → 0 ≤ toP T p ∧ toP T p < (L.length : Int)) → zJt (zK1 n.k) j L.length (if j < zK1 n.k then toP T p else p) := by
  intro j p hpo hh; unfold zJt at hpo ⊢
  by_cases hj : j < zK1 n.k
  · rw [if_pos hj, if_pos hj]; have := hh hj; omega
  · rw [if_neg hj] at hpo ⊢; rw [if_neg hj]; exact hpo
 have ps : ∀ (j p : Int), (j < zK1 n.k → (noAt L (toP T p)).s = (noAt (l.take i) p).s) → zJu L (zJv T n) j (if j < zK1 n.k then toP T p else p) = zJu (l.take i) n j p := by
  intro j p hh; unfold zJu
  show (if j < zK1 n.k then _ else _) = _
  by_cases hj : j < zK1 n.k
  · rw [if_pos hj, if_pos hj, if_pos hj]; exact hh hj
  · rw [if_neg hj, if_neg hj]
 refine zAa.of (by have := h.few; omega) ⟨h2.1, ⟨ok 0 n.a h2.2.1.1 (fun hp => (hA hp).1), ok 1 n.b h2.2.1.2.1 (fun hp => (hB hp).1), ok 2 n.c h2.2.1.2.2 (fun hp => (hC hp).1)⟩, h2.2.2⟩ ⟨?_, ?_, ?_⟩ ?_
 · intro hp
   have hp : 0 < zK1 n.k := hp
   show sortOk (noAt L (if 0 < zK1 n.k then toP T n.a else n.a)).s
   rw [if_pos hp, (hA hp).2]; exact h3.1 hp
 · intro hp
   have hp : 1 < zK1 n.k := hp
   show sortOk (noAt L (if 1 < zK1 n.k then toP T n.b else n.b)).s
   rw [if_pos hp, (hB hp).2]; exact h3.2.1 hp
 · intro hp
   have hp : 2 < zK1 n.k := hp
   show sortOk (noAt L (if 2 < zK1 n.k then toP T n.c else n.c)).s
   rw [if_pos hp, (hC hp).2]; exact h3.2.2 hp
 · show zNp (zJv T n) (zJu L (zJv T n) 0 (if 0 < zK1 n.k then toP T n.a else n.a)) (zJu L (zJv T n) 1 (if 1 < zK1 n.k then toP T n.b else n.b)) (zJu L (zJv T n) 2 (if 2 < zK1 n.k then toP T n.c else n.c)) = some n.s
   rw [ps 0 n.a (fun hp => (hA hp).2), ps 1 n.b (fun hp => (hB hp).2), ps 2 n.c (fun hp => (hC hp).2)]
   exact h4
theorem Fold.succ {l : List No} {i : Nat} {L : List No} {T : List Int} (h : Fold l i L T) (hi : i < l.length) (h60 : l.length ≤ 60) (hl : zAb l) :
 Fold l (i + 1) (zGt L (zJv T l[i])).1 (T ++ [(zGt L (zJv T l[i])).2]) := by
 have hp := h.parted hi h60 hl; have hld := zGx h.ok (by have := h.few; omega) hp
 refine ⟨?_, by simp [h.len], by have := hld.one; have := h.few; omega, hld.ok, fun p h0 h1 => ?_⟩
 · rw [List.take_succ_eq_append_getElem hi, List.foldl_append, h.is]; rfl
 · by_cases hlt : p < (i : Int)
   · rw [toP_app _ h0 (by rw [h.len]; exact hlt)]
     obtain ⟨q0, q1, q2⟩ := h.place p h0 hlt
     exact ⟨q0, by have := hld.grows.len; omega, by rw [hld.grows.at q0 q1]; exact q2⟩
   · have e : p = (T.length : Int) := by rw [h.len]; omega
     rw [e, toP_new]
     refine ⟨hld.p0, hld.p1, ?_⟩
     rw [hld.sort, h.len, zIb hi]; rfl
theorem Fold.all {l : List No} {L : List No} {T : List Int} (h : Fold l l.length L T) : zE0 l = (L, T) := by
 have := h.is; rwa [List.take_length] at this
end Go.Proofs.YtmolbnghobfmoaaGreat
