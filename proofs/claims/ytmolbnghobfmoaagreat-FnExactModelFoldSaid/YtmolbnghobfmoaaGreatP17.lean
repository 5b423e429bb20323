/- Part 17 of what the row Row28 rests on: G15 G16 Xg F11 F12. -/
import Derived.Lib.AppendZerosOnto
import Derived.Test.YtmolbnghobfmoaaGreatP1
import Derived.Test.YtmolbnghobfmoaaGreatP16
set_option maxRecDepth 100000
set_option maxHeartbeats 16000000
set_option linter.unusedSimpArgs false
set_option linter.unusedVariables false
namespace Go.Proofs.YtmolbnghobfmoaaGreat
open Go.RowKit
open Classical in
theorem zG2 (A : Option Addr) (ci : Nat) (l : List No) (x1 x2 x3 x4 : Value) (b : Bi) (F : Bool) (hF : decide (zBe l false b) = F) (w : World) (hA : zA9 w A l) (hl : l.length ≤ 60) :
    Calls Tryz.prog 112 #[.agg #[.slice A l.length ci, x1, x2, x3, x4], .agg #[.int .i64 b.st, .int .i64 b.nd]] w fun e w' => e = .returned (.bool F) ∧ Below w.heap.size w w' := by
 have HF := Kh hF; have HA := Kh hA; clear hA hF; have HBad : Hid (¬ zBe l false b → Hid (F = false)) := Kh (fun h => Kh (by rw [← HF.out]; exact decide_eq_false h))
 obtain ⟨w0, hw0⟩ : ∃ x, (w.alloc (.cells #[.slice A l.length ci, x1, x2, x3, x4] 31)).alloc (.cells #[.int .i64 b.st, .int .i64 b.nd] 55) = x := ⟨_, rfl⟩
 have HB0 : Hid (Below w.heap.size w w0) := by rw [← hw0]; exact ((Below.refl _ _).alloc (Nat.le_refl _) _).alloc (by simp) _
 have HX0 : Hid (Blk w0 w.heap.size 31 #[.slice A l.length ci, x1, x2, x3, x4]) := by rw [← hw0]; exact (Blk.new _ _ _).alloc _
 have HY0 : Hid (Blk w0 (w.heap.size + 1) 55 #[.int .i64 b.st, .int .i64 b.nd]) := by rw [← hw0]; exact Blk.new_at _ _ _ (by simp)
 have HE := Kh (zB1 HB0.out); have e0 : IntKind.i64.wrap ((l.length : Int) - 1) = (l.length : Int) - 1 := zRa (by omega) (by omega)
 obtain ⟨m0, -, -, -, -⟩ := HX0.out.five; obtain ⟨y0, y1⟩ := HY0.out.two
 by_cases h1 : 0 ≤ b.st ∧ b.st ≤ (l.length : Int) - 1
 case neg =>
  have HN := HBad.out (fun h => h1 h.1)
  have T1 := Kh (fun W => zFx b.st 0 ((l.length : Int) - 1) false (decide_eq_false h1) W)
  clear h1
  go_enter Tryz.func112, Tryz.ntmps112
  go_wp2_with fail
  try rw [hw0]
  go_quiet ((go_at_call 111; exact zKt (T1.out _)))
  go_wp2_with fail
  go_ret; rw [HN.out]
  exact ⟨rfl, HE.out _⟩
 have T1 := Kh (fun W => zFx b.st 0 ((l.length : Int) - 1) true (decide_eq_true h1) W)
 by_cases h2 : 0 ≤ b.nd ∧ b.nd ≤ (l.length : Int) - 1
 case neg =>
  have HN := HBad.out (fun h => h2 h.2.1)
  have T2 := Kh (fun W => zFx b.nd 0 ((l.length : Int) - 1) false (decide_eq_false h2) W)
  clear h1 h2
  go_enter Tryz.func112, Tryz.ntmps112
  go_wp2_with fail
  try rw [hw0]
  go_quiet ((first | ((with_reducible show Calls _ _ #[.int .i64 b.st, _, _] _ _); go_at_call 111; exact zKt (T1.out _)) | ((with_reducible show Calls _ _ #[.int .i64 b.nd, _, _] _ _); go_at_call 111; exact zKt (T2.out _))))
  go_wp2_with fail
  go_ret; rw [HN.out]
  exact ⟨rfl, HE.out _⟩
 have T2 := Kh (fun W => zFx b.nd 0 ((l.length : Int) - 1) true (decide_eq_true h2) W)
 obtain ⟨st, nd⟩ := b; obtain ⟨p, hp⟩ : ∃ p : Nat, st = (p : Int) := ⟨st.toNat, by simp only at h1; omega⟩
 obtain ⟨q, hq⟩ : ∃ q : Nat, nd = (q : Int) := ⟨nd.toNat, by simp only at h2; omega⟩
 subst hp hq; simp only at h1 h2 HX0 HY0 HB0 HF HBad T1 T2 hw0 y0 y1 ⊢; have hpl : p < l.length := by omega
 have hql : q < l.length := by omega
 have hp0 : (0 : Int) ≤ (p : Int) := by omega
 have hp1 : (p : Int) < (l.length : Int) := by omega
 have hq0 : (0 : Int) ≤ (q : Int) := by omega
 have hq1 : (q : Int) < (l.length : Int) := by omega
 obtain ⟨g, rfl, hg, hc⟩ := (HA.out.below HB0.out) (by omega)
 have hcp := hc p hpl; have hcq := hc q hql; have H12 := Kh (And.intro h1 h2); clear h1 h2 hc; rw [← zIb hpl] at hcp; rw [← zIb hql] at hcq; obtain ⟨u0, -, -, -, -, -, u6, u7, -⟩ := hcp; obtain ⟨-, -, -, -, -, -, v6, v7, -⟩ := hcq; generalize hnp : noAt l (p : Int) = np at *; generalize hnq : noAt l (q : Int) = nq at *; have HNP := Kh hnp; have HNQ := Kh hnq; clear hnp hnq
 by_cases h3 : np.k = 36
 case neg =>
  have HN := HBad.out (fun h => h3 (by have := h.2.2.1; rw [HNP.out] at this; exact this))
  have z3 : (np.k == 36) = false := by simpa using h3
  clear h3
  go_enter Tryz.func112, Tryz.ntmps112
  go_wp2_with fail
  try rw [hw0]
  go_quiet ((first | ((with_reducible show Calls _ _ #[.int .i64 (p : Int), _, _] _ _); go_at_call 111; exact zKt (T1.out _)) | ((with_reducible show Calls _ _ #[.int .i64 (q : Int), _, _] _ _); go_at_call 111; exact zKt (T2.out _))))
  go_wp2_with fail
  go_ret; rw [HN.out]
  exact ⟨rfl, HE.out _⟩
 have H3 := Kh h3; rw [h3] at u0; clear h3; obtain ⟨z, hz⟩ : ∃ z, decide (np.s.i = nq.s.i ∧ np.s.w = nq.s.w) = z := ⟨_, rfl⟩
 have q0 := fun w => zDq hz w
 have HZ := Kh hz; clear hz
 have HV : Hid (z = F) := Kh (by
  rw [← HF.out, ← HZ.out]; apply decide_eq_decide.2
  unfold zBe zFk; simp only [HNP.out, HNQ.out, H12.out, H3.out, true_and, Bool.false_eq_true, if_false, So.ext_iff, and_self])
 go_enter Tryz.func112, Tryz.ntmps112
 go_wp2_with fail
 try rw [hw0]
 go_quiet ((first | ((with_reducible show Calls _ _ #[.int .i64 (p : Int), _, _] _ _); go_at_call 111; exact zKt (T1.out _)) | ((with_reducible show Calls _ _ #[.int .i64 (q : Int), _, _] _ _); go_at_call 111; exact zKt (T2.out _))))
 go_wp2_with fail
 go_ret
 exact ⟨zKu HV.out, HE.out _⟩
open Classical in
theorem zG9 (A A3 : Option Addr) (ci c3 : Nat) (l : List No) (ps : List Int) (x1 x2 x3 x4 : Value) (w : World) (hA : zA9 w A l) (hl : l.length ≤ 60) (hI : IAt w A3 ps) (hps : ps.length ≤ 1048576) :
    Calls Tryz.prog 58 #[.agg #[.slice A l.length ci, x1, x2, x3, x4], .slice A3 ps.length c3] w fun e w' => zAg (∀ p ∈ ps, zKi l p) e ∧ Below w.heap.size w w' := by
 have HA := Kh hA; have HI := Kh hI; clear hA hI; have HB0 := bx w #[.slice A l.length ci, x1, x2, x3, x4] 31; have HX0 := nx w #[.slice A l.length ci, x1, x2, x3, x4] 31; have e0 : IntKind.i64.wrap ((l.length : Int) - 1) = (l.length : Int) - 1 := zRa (by omega) (by omega)
 go_enter Tryz.func58, Tryz.ntmps58
 go_wp2_with fail
 go_loopw [5] (fun i wr => ∃ r : Nat, r ≤ ps.length ∧ Hid (∀ p ∈ ps.take r, zKi l p) ∧ Hid (Below w.heap.size w wr) ∧ Hid (Blk wr w.heap.size 31 #[.slice A l.length ci, x1, x2, x3, x4]) ∧ i = .int .i64 (r : Int)) (fun i _ => ps.length - (intOf i).toNat)
 case atStart => exact ⟨0, Nat.zero_le _, Kh (by simp), HB0, HX0, rfl⟩
 case round =>
  obtain ⟨wz, rfl⟩ : ∃ x : World, x = wr := ⟨_, rfl⟩
  clear HB0 HX0; obtain ⟨r, hr, HSo, HBr, HXr, rfl⟩ := hrel
  by_cases hlt : r < ps.length
  case neg =>
   obtain rfl : r = ps.length := by omega
   have HOK : Hid (∀ p ∈ ps, zKi l p) := Kh (by have := HSo.out; rwa [List.take_length] at this)
   go_wp2_with fail
   go_ret
   exact ⟨.yes HOK.out, HBr.out⟩
  have hj0 : (0 : Int) ≤ (r : Int) := by omega
  have hj1 : (r : Int) < (ps.length : Int) := by omega
  have e1 := wr1 (r := r) (by omega)
  have hiat := (HI.out.below HBr.out); obtain ⟨g3, rfl, hg3, hc3⟩ := hiat (by omega)
  have y0 := hc3 r hlt; clear hiat hc3; have HM : Hid (ps[r] ∈ ps) := Kh (List.getElem_mem hlt); have HTK : Hid (ps.take (r + 1) = ps.take r ++ [ps[r]]) := Kh (by rw [List.take_succ_eq_append_getElem hlt])
  generalize ps[r] = p at *; have HNo : Hid (¬ zKi l p → ¬ ∀ p ∈ ps, zKi l p) := Kh (fun h h1 => h (h1 _ HM.out))
  have HYes : Hid (zKi l p → ∀ p ∈ ps.take (r + 1), zKi l p) := Kh (fun h => by
   rw [HTK.out]; intro x hx
   rcases List.mem_append.1 hx with h1 | h1
   · exact HSo.out x h1
   · rw [List.mem_singleton.1 h1]; exact h)
  clear HM HTK HSo; obtain ⟨m0, -, -, -, -⟩ := HXr.out.five; have k0 := fun x : Ext wz => zDt m0 HXr.out.lt x
  have k1 := fun x : Ext wz => zDt y0 hg3 x
  by_cases h1 : 0 ≤ p ∧ p ≤ (l.length : Int) - 1
  case neg =>
   have T1 := Kh (fun W => zFx p 0 ((l.length : Int) - 1) false (decide_eq_false h1) W)
   have HN := Kh (HNo.out (fun h => h1 h.1))
   clear h1
   go_wp2_with fail
   refine zR4 (by kernel_rfl) (by kernel_rfl) ?_
   repeat go_big_quiet_step ((go_at_call 111; exact zDv _ (T1.out _)))
   refine wpQuiet_nil ?_
   intro wt hwt; obtain ⟨xt, hwx⟩ := hwt; subst hwx; have HE := Kh (HBr.out.trans (xt.2.mono HBr.out.size)); clear k0 k1
   go_wp2_with fail
   go_ret
   exact ⟨.no HN.out, HE.out⟩
  have T1 := Kh (fun W => zFx p 0 ((l.length : Int) - 1) true (decide_eq_true h1) W)
  have H1 := Kh h1; obtain ⟨t, rfl⟩ : ∃ t : Nat, p = (t : Int) := ⟨p.toNat, by omega⟩
  have htl : t < l.length := by omega
  have ht0 : (0 : Int) ≤ (t : Int) := by omega
  have ht1 : (t : Int) < (l.length : Int) := by omega
  clear h1; obtain ⟨g, rfl, hg, hc⟩ := (HA.out.below HBr.out) (by omega)
  obtain ⟨-, -, -, -, -, -, u6, u7, -⟩ := hc t htl; clear hc; rw [← zIb htl] at u6 u7; have k2 := fun x : Ext wz => zDt u6 hg x
  have k3 := fun x : Ext wz => zDt u7 hg x
  obtain ⟨s, hs⟩ : ∃ s, (noAt l (t : Int)).s = s := ⟨_, rfl⟩
  rw [hs] at u6 u7 k2 k3; have HS := Kh hs; clear hs; obtain ⟨z, hz⟩ : ∃ z, decide (s.i = 0 ∧ s.w = 1) = z := ⟨_, rfl⟩
  have q0 := fun w => zI9 hz w
  have HZ := Kh hz; clear hz
  have HV : Hid (z = true ↔ zKi l (t : Int)) := Kh (by
   rw [← HZ.out, decide_eq_true_eq]; unfold zKi zFk; simp only [H1.out, HS.out, true_and, So.ext_iff, wS, and_self])
  cases z
  case true =>
   have HY := Kh (HYes.out (HV.out.1 rfl))
   go_wp2_with fail
   refine zR4 (by kernel_rfl) (by kernel_rfl) ?_
   repeat go_big_quiet_step ((first | (go_at_call 111; exact zDv _ (T1.out _)) | (go_at_call 104; exact zDs _ (zGo _ _))))
   refine wpQuiet_nil ?_
   intro wt hwt; obtain ⟨xt, hwx⟩ := hwt; subst hwx; have HE := Kh (HBr.out.trans (xt.2.mono HBr.out.size)); have HX := Kh (HXr.out.below xt.2 HXr.out.lt); clear k0 k1 k2 k3
   go_wp2_with fail
   go_roundw
   case rel => exact ⟨r + 1, by omega, HY, HE, HX, by go_num⟩
   case measure => simp [intOf]; omega
  case false =>
   have HN := Kh (HNo.out (fun h => by have := HV.out.2 h; cases this))
   go_wp2_with fail
   refine zR4 (by kernel_rfl) (by kernel_rfl) ?_
   repeat go_big_quiet_step ((first | (go_at_call 111; exact zDv _ (T1.out _)) | (go_at_call 104; exact zDs _ (zGo _ _))))
   refine wpQuiet_nil ?_
   intro wt hwt; obtain ⟨xt, hwx⟩ := hwt; subst hwx; have HE := Kh (HBr.out.trans (xt.2.mono HBr.out.size)); clear k0 k1 k2 k3
   go_wp2_with fail
   go_ret
   exact ⟨.no HN.out, HE.out⟩
def zAj (l : List No) (b : Bi) : Prop := zFk l b.st ∧ zFk l b.nd ∧ (noAt l b.st).k = 36 ∧ (noAt l b.nd).s = wS (noAt l b.st).s.w
theorem zQp {l : List No} {b : Bi} (h : zAj l b) : zBe l false ⟨b.st, b.st⟩ := ⟨h.1, h.1, h.2.2.1, by simp⟩
theorem zBh {l : List No} {b : Bi} (h : zAj l b) : zBe l true b ↔ ¬ Made l b.nd.toNat := by
 unfold zBe; obtain ⟨h1, h2, h3, h4⟩ := h; simp [h1, h2, h3, h4]
theorem zBg {l : List No} {b : Bi} (h : ¬ zAj l b) : zBe l true b ↔ zBe l false b ∧ ¬ Made l b.nd.toNat := by
 unfold zBe; unfold zAj at h; constructor
 · rintro ⟨h1, h2, h3, h4⟩
   simp only [if_true] at h4
   rcases h4 with ⟨h4 | h4, h5⟩
   · exact ⟨⟨h1, h2, h3, by simpa using h4⟩, h5⟩
   · exact absurd ⟨h1, h2, h3, h4⟩ h
 · rintro ⟨⟨h1, h2, h3, h4⟩, h5⟩
   exact ⟨h1, h2, h3, by simp only [if_true]; exact ⟨.inl (by simpa using h4), h5⟩⟩
theorem zOz {α : Type} {p : α → Prop} {l : List α} {r : Nat} (hlt : r < l.length) (h : ∀ b ∈ l.take r, p b) (h1 : p l[r]) : ∀ b ∈ l.take (r + 1), p b := by
 rw [List.take_succ_eq_append_getElem hlt]; intro x hx
 rcases List.mem_append.1 hx with h2 | h2
 · exact h x h2
 · rw [List.mem_singleton.1 h2]; exact h1
open Classical in
theorem zG1 (A A1 A2 : Option Addr) (ci c1 c2 : Nat) (l : List No) (ins nxs : List Bi) (x3 x4 : Value) (w : World) (hA : zA9 w A l) (hl : l.length ≤ 60) (hok : zAb l) (hI : zA1 w A1 ins) (hN : zA1 w A2 nxs) (hil : ins.length ≤ 1048576) (hnl : nxs.length ≤ 1048576) :
    Calls Tryz.prog 57 #[.agg #[.slice A l.length ci, .slice A1 ins.length c1, .slice A2 nxs.length c2, x3, x4]] w fun e w' => zAg ((∀ b ∈ ins, zBe l true b) ∧ ∀ b ∈ nxs, zBe l false b) e ∧ Below w.heap.size w w' := by
 have HA := Kh hA; have HOK := Kh hok; have HI := Kh hI; have HN := Kh hN; clear hA hok hI hN; have HB0 := bx w #[.slice A l.length ci, .slice A1 ins.length c1, .slice A2 nxs.length c2, x3, x4] 31; have HX0 := nx w #[.slice A l.length ci, .slice A1 ins.length c1, .slice A2 nxs.length c2, x3, x4] 31; have e0 : IntKind.i64.wrap ((l.length : Int) - 1) = (l.length : Int) - 1 := zRa (by omega) (by omega)
 go_enter Tryz.func57, Tryz.ntmps57
 go_wp2_with fail
 go_loopw [3] (fun i wr => ∃ r : Nat, r ≤ ins.length ∧ Hid (∀ b ∈ ins.take r, zBe l true b) ∧ Hid (Below w.heap.size w wr) ∧ Hid (Blk wr w.heap.size 31 #[.slice A l.length ci, .slice A1 ins.length c1, .slice A2 nxs.length c2, x3, x4]) ∧ i = .int .i64 (r : Int)) (fun i _ => ins.length - (intOf i).toNat)
 case atStart => exact ⟨0, Nat.zero_le _, Kh (by simp), HB0, HX0, rfl⟩
 case round =>
  obtain ⟨wz, rfl⟩ : ∃ x : World, x = wr := ⟨_, rfl⟩
  clear HB0 HX0; obtain ⟨r, hr, HSo, HBr, HXr, rfl⟩ := hrel; obtain ⟨m0, m1, m2, m3, m4⟩ := HXr.out.five
  by_cases hlt : r < ins.length
  case neg =>
   obtain rfl : r = ins.length := by omega
   have HInits : Hid (∀ b ∈ ins, zBe l true b) := Kh (by have := HSo.out; rwa [List.take_length] at this)
   clear HSo
   go_wp2_with fail
   clear m0 m1 m2 m3 m4
   go_loopw [6] (fun i wr => ∃ r : Nat, r ≤ nxs.length ∧ Hid (∀ b ∈ nxs.take r, zBe l false b) ∧ Hid (Below w.heap.size w wr) ∧ Hid (Blk wr w.heap.size 31 #[.slice A l.length ci, .slice A1 ins.length c1, .slice A2 nxs.length c2, x3, x4]) ∧ i = .int .i64 (r : Int)) (fun i _ => nxs.length - (intOf i).toNat)
   case atStart => exact ⟨0, Nat.zero_le _, Kh (by simp), HBr, HXr, rfl⟩
   case round =>
    obtain ⟨wy, rfl⟩ : ∃ x : World, x = wr := ⟨_, rfl⟩
    clear HBr HXr; obtain ⟨q, hq, HSq, HBq, HXq, rfl⟩ := hrel; obtain ⟨m0, m1, m2, m3, m4⟩ := HXq.out.five
    by_cases hqt : q < nxs.length
    case neg =>
     obtain rfl : q = nxs.length := by omega
     have HNx : Hid (∀ b ∈ nxs, zBe l false b) := Kh (by have := HSq.out; rwa [List.take_length] at this)
     go_wp2_with fail
     go_ret
     exact ⟨.yes ⟨HInits.out, HNx.out⟩, HBq.out⟩
    have hj0 : (0 : Int) ≤ (q : Int) := by omega
    have hj1 : (q : Int) < (nxs.length : Int) := by omega
    have e1 := wr1 (r := q) (by omega)
    obtain ⟨g2, rfl, hg2, hc2⟩ := (HN.out.below HBq.out) (by omega)
    have y0 := (hc2 q hqt).1; have y1 := (hc2 q hqt).2; clear hc2; have HYes := Kh (zOz (p := fun b => zBe l false b) hqt HSq.out)
    have HNo : Hid (¬ zBe l false nxs[q] → ¬ ((∀ b ∈ ins, zBe l true b) ∧ ∀ b ∈ nxs, zBe l false b)) := Kh (fun h h1 => h (h1.2 _ (List.getElem_mem hqt)))
    generalize nxs[q] = b at *; have k0 := fun x : Ext wy => zDt m0 HXq.out.lt x
    have k1 := fun x : Ext wy => zDt m1 HXq.out.lt x
    have k2 := fun x : Ext wy => zDt m2 HXq.out.lt x
    have k3 := fun x : Ext wy => zDt m3 HXq.out.lt x
    have k4 := fun x : Ext wy => zDt m4 HXq.out.lt x
    have k5 := fun x : Ext wy => zDt y0 hg2 x
    have k6 := fun x : Ext wy => zDt y1 hg2 x
    obtain ⟨z, hz⟩ : ∃ z, decide (zBe l false b) = z := ⟨_, rfl⟩
    have T := Kh (fun x : Ext wy => zG2 A ci l (.slice A1 ins.length c1) (.slice (some ⟨g2, 0, none⟩) nxs.length c2) x3 x4 b z hz x.1 ((HA.out.below HBq.out).below x.2) hl)
    have HZ := Kh hz; clear hz
    cases z
    case true =>
     have HY := Kh (HYes.out (of_decide_eq_true HZ.out))
     go_wp2_with fail
     refine zR4 (by kernel_rfl) (by kernel_rfl) ?_
     repeat go_big_quiet_step ((go_at_call 112; exact zDs _ (T.out _)))
     refine wpQuiet_nil ?_
     intro wt hwt; obtain ⟨xt, hwx⟩ := hwt; subst hwx; have HE := Kh (HBq.out.trans (xt.2.mono HBq.out.size)); have HX := Kh (HXq.out.below xt.2 HXq.out.lt); clear k0 k1 k2 k3 k4 k5 k6
     go_wp2_with fail
     go_roundw
     case rel => exact ⟨q + 1, by omega, HY, HE, HX, by go_num⟩
     case measure => simp [intOf]; omega
    case false =>
     have HNN := Kh (HNo.out (of_decide_eq_false HZ.out))
     go_wp2_with fail
     refine zR4 (by kernel_rfl) (by kernel_rfl) ?_
     repeat go_big_quiet_step ((go_at_call 112; exact zDs _ (T.out _)))
     refine wpQuiet_nil ?_
     intro wt hwt; obtain ⟨xt, hwx⟩ := hwt; subst hwx; have HE := Kh (HBq.out.trans (xt.2.mono HBq.out.size)); clear k0 k1 k2 k3 k4 k5 k6
     go_wp2_with fail
     go_ret
     exact ⟨.no HNN.out, HE.out⟩
  have hj0 : (0 : Int) ≤ (r : Int) := by omega
  have hj1 : (r : Int) < (ins.length : Int) := by omega
  have e1 := wr1 (r := r) (by omega)
  obtain ⟨g1, rfl, hg1, hc1⟩ := (HI.out.below HBr.out) (by omega)
  have y0 := (hc1 r hlt).1; have y1 := (hc1 r hlt).2; clear hc1; have HYes := Kh (zOz (p := fun b => zBe l true b) hlt HSo.out)
  have HNo : Hid (¬ zBe l true ins[r] → ¬ ((∀ b ∈ ins, zBe l true b) ∧ ∀ b ∈ nxs, zBe l false b)) := Kh (fun h h1 => h (h1.1 _ (List.getElem_mem hlt)))
  generalize ins[r] = b at *; have HB2 : Hid (Below w.heap.size w ((wz.alloc (.cells #[.int .i64 b.st, .int .i64 b.nd] 55)).alloc (.cells #[.int .i64 b.st, .int .i64 b.nd] 55))) := Kh ((HBr.out.alloc HBr.out.size _).alloc (by have := HBr.out.size; simp; omega) _)
  have HX2 : Hid (Blk ((wz.alloc (.cells #[.int .i64 b.st, .int .i64 b.nd] 55)).alloc (.cells #[.int .i64 b.st, .int .i64 b.nd] 55)) w.heap.size 31 #[.slice A l.length ci, .slice (some ⟨g1, 0, none⟩) ins.length c1, .slice A2 nxs.length c2, x3, x4]) := Kh ((HXr.out.alloc _).alloc _); have HY2 : Hid (Blk ((wz.alloc (.cells #[.int .i64 b.st, .int .i64 b.nd] 55)).alloc (.cells #[.int .i64 b.st, .int .i64 b.nd] 55)) wz.heap.size 55 #[.int .i64 b.st, .int .i64 b.nd]) := Kh ((Blk.new _ _ _).alloc _); have HZ2 : Hid (Blk ((wz.alloc (.cells #[.int .i64 b.st, .int .i64 b.nd] 55)).alloc (.cells #[.int .i64 b.st, .int .i64 b.nd] 55)) (wz.heap.size + 1) 55 #[.int .i64 b.st, .int .i64 b.nd]) := Kh (Blk.new_at _ _ _ (by simp))
  obtain ⟨C, HC⟩ : ∃ C : Bool, Hid (C = true ↔ zAj l b) := ⟨decide (zAj l b), Kh decide_eq_true_iff⟩
  go_wp2_with fail
  obtain ⟨w2, hw2⟩ : ∃ z, (wz.alloc (.cells #[.int .i64 b.st, .int .i64 b.nd] 55)).alloc (.cells #[.int .i64 b.st, .int .i64 b.nd] 55) = z := ⟨_, rfl⟩
  rw [hw2] at HB2 HX2 HY2 HZ2 ⊢; have hgb : w.heap.size ≤ wz.heap.size := HBr.out.size; clear hw2 m0 m1 m2 m3 m4 y0 y1 HBr HXr hg1; generalize wz.heap.size = gb at *; obtain ⟨m0, m1, m2, m3, m4⟩ := HX2.out.five; obtain ⟨y0, y1⟩ := HY2.out.two
  go_cut [64] (fun s64 wc => s64 = .bool C ∧ Hid (Below w2.heap.size w2 wc))
  case first =>
   have k0 := fun x : Ext w2 => zDt m0 HX2.out.lt x
   have k1 := fun x : Ext w2 => zDt y0 HY2.out.lt x
   have k2 := fun x : Ext w2 => zDt y1 HY2.out.lt x
   by_cases h1 : 0 ≤ b.st ∧ b.st ≤ (l.length : Int) - 1
   case neg =>
    have HCF : Hid (C = false) := Kh (by cases C; rfl; exact absurd (HC.out.1 rfl).1 h1)
    have T1 := Kh (fun W => zFx b.st 0 ((l.length : Int) - 1) false (decide_eq_false h1) W)
    clear h1; go_quiet ((first | ((with_reducible show Calls _ _ #[.int .i64 b.st, _, _] _ _); go_at_call 111; exact zKt (T1.out _))))
    have HE := Kh (zB1 (Below.refl w2.heap.size w2))
    go_wp2_with fail
    go_meet
    case rel => exact ⟨by rw [HCF.out], Kh (HE.out _)⟩
   have T1 := Kh (fun W => zFx b.st 0 ((l.length : Int) - 1) true (decide_eq_true h1) W)
   by_cases h2 : 0 ≤ b.nd ∧ b.nd ≤ (l.length : Int) - 1
   case neg =>
    have HCF : Hid (C = false) := Kh (by cases C; rfl; exact absurd (HC.out.1 rfl).2.1 h2)
    have T2 := Kh (fun W => zFx b.nd 0 ((l.length : Int) - 1) false (decide_eq_false h2) W)
    clear h1 h2; go_quiet ((first | ((with_reducible show Calls _ _ #[.int .i64 b.st, _, _] _ _); go_at_call 111; exact zKt (T1.out _)) | ((with_reducible show Calls _ _ #[.int .i64 b.nd, _, _] _ _); go_at_call 111; exact zKt (T2.out _))))
    have HE := Kh (zB1 (Below.refl w2.heap.size w2))
    go_wp2_with fail
    go_meet
    case rel => exact ⟨by rw [HCF.out], Kh (HE.out _)⟩
   have T2 := Kh (fun W => zFx b.nd 0 ((l.length : Int) - 1) true (decide_eq_true h2) W)
   obtain ⟨st, nd⟩ := b; obtain ⟨p, hp⟩ : ∃ p : Nat, st = (p : Int) := ⟨st.toNat, by simp only at h1; omega⟩
   obtain ⟨q, hq⟩ : ∃ q : Nat, nd = (q : Int) := ⟨nd.toNat, by simp only at h2; omega⟩
   subst hp hq; simp only at h1 h2 T1 T2 y0 y1 k1 k2 ⊢; have H12 : Hid (zFk l (p : Int) ∧ zFk l (q : Int)) := Kh ⟨h1, h2⟩; have hpl : p < l.length := by omega
   have hql : q < l.length := by omega
   have hp0 : (0 : Int) ≤ (p : Int) := by omega
   have hp1 : (p : Int) < (l.length : Int) := by omega
   have hq0 : (0 : Int) ≤ (q : Int) := by omega
   have hq1 : (q : Int) < (l.length : Int) := by omega
   obtain ⟨g, rfl, hg, hc⟩ := (HA.out.below HB2.out) (by omega)
   have hcp := hc p hpl; have hcq := hc q hql; clear h1 h2 hc; rw [← zIb hpl] at hcp; rw [← zIb hql] at hcq; obtain ⟨u0, -, -, -, -, -, -, u7, -⟩ := hcp; obtain ⟨-, -, -, -, -, -, v6, v7, -⟩ := hcq
   have HCW : Hid (C = true ↔ (noAt l (p : Int)).k = 36 ∧ (noAt l (q : Int)).s = wS (noAt l (p : Int)).s.w) := Kh (by
    rw [HC.out]; unfold zAj; exact ⟨fun h => h.2.2, fun h => ⟨H12.out.1, H12.out.2, h⟩⟩)
   obtain ⟨np, hnp⟩ : ∃ n, noAt l (p : Int) = n := ⟨_, rfl⟩
   obtain ⟨nq, hnq⟩ : ∃ n, noAt l (q : Int) = n := ⟨_, rfl⟩
   rw [hnp] at u0 u7 HCW; rw [hnq] at v6 v7 HCW; clear hnp hnq; have k4 := fun x : Ext w2 => zDt u7 hg x
   have k5 := fun x : Ext w2 => zDt v6 hg x
   have k6 := fun x : Ext w2 => zDt v7 hg x
   by_cases h3 : np.k = 36
   case neg =>
    have k3 := fun x : Ext w2 => zDt u0 hg x
    have HCF : Hid (C = false) := Kh (by cases C; rfl; exact absurd (HCW.out.1 rfl).1 h3)
    have z3 : (np.k == 36) = false := by simpa using h3
    clear h3; go_quiet ((first | ((with_reducible show Calls _ _ #[.int .i64 (p : Int), _, _] _ _); go_at_call 111; exact zKt (T1.out _)) | ((with_reducible show Calls _ _ #[.int .i64 (q : Int), _, _] _ _); go_at_call 111; exact zKt (T2.out _))))
    have HE := Kh (zB1 (Below.refl w2.heap.size w2))
    go_wp2_with fail
    go_meet
    case rel => exact ⟨by rw [HCF.out], Kh (HE.out _)⟩
   have H3 := Kh h3; rw [h3] at u0; have k3 := fun x : Ext w2 => zDt u0 hg x
   clear h3; obtain ⟨z, hz⟩ : ∃ z, decide (nq.s.i = 0 ∧ nq.s.w = np.s.w) = z := ⟨_, rfl⟩
   have q0 := fun w => zDq hz w
   have HCF : Hid (C = z) := Kh (by
    rw [Bool.eq_iff_iff, HCW.out, ← hz, decide_eq_true_eq]; simp only [H3.out, true_and, So.ext_iff, wS])
   clear hz
   refine zR4 (by kernel_rfl) (by kernel_rfl) ?_
   repeat go_big_quiet_step ((first | ((with_reducible show Calls _ _ #[.int .i64 (p : Int), _, _] _ _); go_at_call 111; exact zDv _ (T1.out _)) | ((with_reducible show Calls _ _ #[.int .i64 (q : Int), _, _] _ _); go_at_call 111; exact zDv _ (T2.out _)) | (go_at_call 104; exact zDs _ (zGo _ _))))
   refine wpQuiet_nil ?_
   intro wt hwt; obtain ⟨xt, hwx⟩ := hwt; subst hwx
   go_wp2_with fail
   go_meet
   case rel => exact ⟨by rw [HCF.out], Kh xt.2⟩
  case rest =>
   obtain ⟨rfl, HBc⟩ := hcut; have HB3 := Kh (HB2.out.trans (HBc.out.mono HB2.out.size)); have HX3 := Kh (HX2.out.below HBc.out HX2.out.lt); have HY3 := Kh (HY2.out.below HBc.out HY2.out.lt); have HZ3 := Kh (HZ2.out.below HBc.out HZ2.out.lt); clear m0 m1 m2 m3 m4 y0 y1 HB2 HX2 HY2 HZ2 HBc; obtain ⟨m0, m1, m2, m3, m4⟩ := HX3.out.five; obtain ⟨y0, y1⟩ := HY3.out.two; obtain ⟨z0, z1⟩ := HZ3.out.two
   cases C with
   | true =>
    have hwd := HC.out.1 rfl; have HWB := Kh (zQp hwd); have HBW := Kh (zBh hwd); have h2 := hwd.2.1; clear hwd; obtain ⟨st, nd⟩ := b; obtain ⟨q, hq⟩ : ∃ q : Nat, nd = (q : Int) := ⟨nd.toNat, by unfold zFk at h2; simp only at h2; omega⟩
    subst hq; have hql : q < l.length := by unfold zFk at h2; simp only at h2; omega
    simp only at HWB HBW y0 y1 z0 z1 HY3 HZ3 HYes HNo ⊢; rw [Int.toNat_natCast] at HBW; clear h2; have f1 := HZ3.out.frozen 1; have hgb1 : w.heap.size ≤ gb + 1 := by omega
    have HB4 := Kh (HB3.out.setCell (p := ⟨gb + 1, 1, none⟩) hgb1 (.int .i64 st)); have HX4 := Kh (HX3.out.far (p := ⟨gb + 1, 1, none⟩) (by show w.heap.size ≠ gb + 1; omega) (.int .i64 st))
    have HY4 := Kh (HY3.out.far (p := ⟨gb + 1, 1, none⟩) (by show gb ≠ gb + 1; omega) (.int .i64 st))
    have HZ4 : Hid (Blk _ (gb + 1) 55 #[.int .i64 st, .int .i64 st]) := Kh (HZ3.out.set_ 1 (.int .i64 st)); obtain ⟨n0, n1, n2, n3, n4⟩ := HX4.out.five; obtain ⟨t0, t1⟩ := HY4.out.two; obtain ⟨u0, u1⟩ := HZ4.out.two; have TB := Kh (zG2 A ci l (.slice (some ⟨g1, 0, none⟩) ins.length c1) (.slice A2 nxs.length c2) x3 x4 ⟨st, st⟩ true (decide_eq_true HWB.out) _ (HA.out.below HB4.out) hl); have TF := Kh (fun W (h : Below w.heap.size w W) => zG4 A ci l (.slice (some ⟨g1, 0, none⟩) ins.length c1) (.slice A2 nxs.length c2) x3 x4 q W (HA.out.below h) hl HOK.out hql)
    by_cases hm : Made l q
    · have HNN := Kh (HNo.out (fun h => HBW.out.1 h hm))
      have HM : Hid (¬ ¬ Made l q) := Kh (fun h => h hm)
      clear hm
      go_wp2_with (first | (go_at_call 112; refine TB.out.mono ?_; rintro e w5 ⟨rfl, hb5⟩; have W5 := Kh (HB4.out.trans (hb5.mono HB4.out.size)); have X5 := Kh (HX4.out.below hb5 HX4.out.lt); have Y5 := Kh (HY4.out.below hb5 HY4.out.lt); clear hb5 m0 m1 m2 m3 m4 y0 y1 t0 t1; obtain ⟨m0, m1, m2, m3, m4⟩ := X5.out.five; obtain ⟨y0, y1⟩ := Y5.out.two) | (go_at_call 113; refine (TF.out _ W5.out).mono ?_; rintro e w6 ⟨hs, hb6⟩; obtain rfl := hs.f HM.out; have W6 := Kh (W5.out.trans (hb6.mono W5.out.size)); have X6 := Kh (X5.out.below hb6 X5.out.lt); clear hb6 hs))
      go_ret
      exact ⟨.no HNN.out, W6.out⟩
    · have HY := Kh (HYes.out (HBW.out.2 hm))
      have HM := Kh hm; clear hm
      go_wp2_with (first | (go_at_call 112; refine TB.out.mono ?_; rintro e w5 ⟨rfl, hb5⟩; have W5 := Kh (HB4.out.trans (hb5.mono HB4.out.size)); have X5 := Kh (HX4.out.below hb5 HX4.out.lt); have Y5 := Kh (HY4.out.below hb5 HY4.out.lt); clear hb5 m0 m1 m2 m3 m4 y0 y1 t0 t1; obtain ⟨m0, m1, m2, m3, m4⟩ := X5.out.five; obtain ⟨y0, y1⟩ := Y5.out.two) | (go_at_call 113; refine (TF.out _ W5.out).mono ?_; rintro e w6 ⟨hs, hb6⟩; obtain rfl := hs.t HM.out; have W6 := Kh (W5.out.trans (hb6.mono W5.out.size)); have X6 := Kh (X5.out.below hb6 X5.out.lt); clear hb6 hs))
      go_roundw
      case rel => exact ⟨r + 1, by omega, HY, W6, X6, by go_num⟩
      case measure => simp [intOf]; omega
   | false =>
    have HBW := Kh (zBg (fun h => by have := HC.out.2 h; cases this))
    by_cases hb : zBe l false b
    case neg =>
     have HNN := Kh (HNo.out (fun h => hb (HBW.out.1 h).1))
     have TB := Kh (zG2 A ci l (.slice (some ⟨g1, 0, none⟩) ins.length c1) (.slice A2 nxs.length c2) x3 x4 b false (decide_eq_false hb) _ (HA.out.below HB3.out) hl); clear hb
     go_wp2_with (go_at_call 112; refine TB.out.mono ?_; rintro e w5 ⟨rfl, hb5⟩; have W5 := Kh (HB3.out.trans (hb5.mono HB3.out.size)); clear hb5)
     go_ret
     exact ⟨.no HNN.out, W5.out⟩
    have TB := Kh (zG2 A ci l (.slice (some ⟨g1, 0, none⟩) ins.length c1) (.slice A2 nxs.length c2) x3 x4 b true (decide_eq_true hb) _ (HA.out.below HB3.out) hl); have HBB := Kh hb; have h2 := hb.2.1; clear hb; obtain ⟨st, nd⟩ := b; obtain ⟨q, hq⟩ : ∃ q : Nat, nd = (q : Int) := ⟨nd.toNat, by unfold zFk at h2; simp only at h2; omega⟩
    subst hq; have hql : q < l.length := by unfold zFk at h2; simp only at h2; omega
    simp only at HBW HBB TB y0 y1 z0 z1 HY3 HZ3 HYes HNo ⊢; rw [Int.toNat_natCast] at HBW; clear h2; have HB4 := HB3; have HX4 := HX3; have HY4 := HY3; have t0 := y0; have t1 := y1; have n0 := m0; have TF := Kh (fun W (h : Below w.heap.size w W) => zG4 A ci l (.slice (some ⟨g1, 0, none⟩) ins.length c1) (.slice A2 nxs.length c2) x3 x4 q W (HA.out.below h) hl HOK.out hql)
    by_cases hm : Made l q
    · have HNN := Kh (HNo.out (fun h => (HBW.out.1 h).2 hm))
      have HM : Hid (¬ ¬ Made l q) := Kh (fun h => h hm)
      clear hm
      go_wp2_with (first | (go_at_call 112; refine TB.out.mono ?_; rintro e w5 ⟨rfl, hb5⟩; have W5 := Kh (HB4.out.trans (hb5.mono HB4.out.size)); have X5 := Kh (HX4.out.below hb5 HX4.out.lt); have Y5 := Kh (HY4.out.below hb5 HY4.out.lt); clear hb5 m0 m1 m2 m3 m4 y0 y1 t0 t1; obtain ⟨m0, m1, m2, m3, m4⟩ := X5.out.five; obtain ⟨y0, y1⟩ := Y5.out.two) | (go_at_call 113; refine (TF.out _ W5.out).mono ?_; rintro e w6 ⟨hs, hb6⟩; obtain rfl := hs.f HM.out; have W6 := Kh (W5.out.trans (hb6.mono W5.out.size)); have X6 := Kh (X5.out.below hb6 X5.out.lt); clear hb6 hs))
      go_ret
      exact ⟨.no HNN.out, W6.out⟩
    · have HY := Kh (HYes.out (HBW.out.2 ⟨HBB.out, hm⟩))
      have HM := Kh hm; clear hm
      go_wp2_with (first | (go_at_call 112; refine TB.out.mono ?_; rintro e w5 ⟨rfl, hb5⟩; have W5 := Kh (HB4.out.trans (hb5.mono HB4.out.size)); have X5 := Kh (HX4.out.below hb5 HX4.out.lt); have Y5 := Kh (HY4.out.below hb5 HY4.out.lt); clear hb5 m0 m1 m2 m3 m4 y0 y1 t0 t1; obtain ⟨m0, m1, m2, m3, m4⟩ := X5.out.five; obtain ⟨y0, y1⟩ := Y5.out.two) | (go_at_call 113; refine (TF.out _ W5.out).mono ?_; rintro e w6 ⟨hs, hb6⟩; obtain rfl := hs.t HM.out; have W6 := Kh (W5.out.trans (hb6.mono W5.out.size)); have X6 := Kh (X5.out.below hb6 X5.out.lt); clear hb6 hs))
      go_roundw
      case rel => exact ⟨r + 1, by omega, HY, W6, X6, by go_num⟩
      case measure => simp [intOf]; omega
theorem zAw {α : Type} (l : List α) (q : α → Bool) {k : Nat} (h : k < l.length) : (l.take (k + 1)).any q = ((l.take k).any q || q l[k]) := by
 rw [List.take_add_one, List.getElem?_eq_getElem h, List.any_append]
 show (_ || (q _ || false)) = _
 rw [Bool.or_false]
theorem zF0 (A : Option Addr) (cap : Nat) (l : List Int) (fn : Nat) (first capA : Array Value) (q : Int → Bool) (w : World) (hA : IAt w A l) (hn : l.length ≤ 1048576) (he : Enters Tryz.prog fn)
 (hcall : ∀ W x, Below w.heap.size w W → x ∈ l → Calls Tryz.prog fn (first.push (.int .i64 x) ++ capA) W fun e W' => e = .returned (.bool (q x)) ∧ Below W.heap.size W W') :
    Calls Tryz.prog 141 #[.slice A l.length cap, .func (.func fn) first capA] w fun e w' => ∃ r : Int, e = .returned (.int .i64 r) ∧ (0 ≤ r ↔ l.any q = true) ∧ Below w.heap.size w w' := by
 have HA := Kh hA; have HC := Kh hcall; clear hA hcall; have he' : ∀ (args : Array Value) (w : World), (callFunc fn args).run Tryz.prog w = .ok (.enter fn args) w := he
 clear he
 go_enter Tryz.func141, Tryz.ntmps141
 go_wp2_with fail
 go_loopw [8] (fun j wr => ∃ k : Nat, k ≤ l.length ∧ Hid ((l.take k).any q = false) ∧ Hid (Below w.heap.size w wr) ∧ j = .int .i64 k) (fun j _ => l.length - (intOf j).toNat)
 case atStart => exact ⟨0, Nat.zero_le _, by simp [Hid], Below.refl _ _, rfl⟩
 case round =>
  obtain ⟨k, hk, hno, hbw, rfl⟩ := hrel
  by_cases hlt : k < l.length
  case neg =>
   obtain rfl : k = l.length := by omega
   rw [List.take_length] at hno
   go_wp2_with fail
   go_ret
   exact ⟨-1, rfl, ⟨fun h => absurd h (by omega), fun h => by rw [hno.out] at h; cases h⟩, hbw.out⟩
  obtain ⟨g, rfl, hg, hc⟩ := (HA.out.below hbw.out) (by omega)
  have c1 := hc k hlt; have HM := Kh (List.getElem_mem hlt); have Htk : Hid ((l.take (k + 1)).any q = ((l.take k).any q || q l[k])) := zAw _ q hlt
  have HY : Hid (q l[k] = true → l.any q = true) := fun h => List.any_eq_true.2 ⟨_, List.getElem_mem hlt, h⟩
  clear hc; generalize l[k] = x at *; have e1 := wr1 (r := k) (by omega)
  have hj0 : (0 : Int) ≤ k := by omega
  have hj1 : (k : Int) < (l.length : Int) := by omega
  go_wp2_with fail
  refine (HC.out _ x hbw.out HM.out).mono ?_
  rintro e w1 ⟨rfl, hb1⟩; have HB1 : Hid (Below w.heap.size w w1) := hbw.out.trans (hb1.mono hbw.out.size); clear hb1
  cases hq : q x
  · go_wp2_with fail
    go_roundw
    case rel => exact ⟨k + 1, by omega, Kh (by rw [Htk.out, hno.out, hq]; rfl), HB1, by go_num⟩
    case measure => simp [intOf]; omega
  · have HYY := Kh (HY.out hq)
    go_wp2_with fail
    go_ret
    exact ⟨k, rfl, ⟨fun _ => HYY.out, fun _ => by omega⟩, HB1.out⟩
theorem zD6 (A : Option Addr) (cap : Nat) (l : List Int) (fn : Nat) (first capA : Array Value) (q : Int → Bool) (w : World) (hA : IAt w A l) (hn : l.length ≤ 1048576) (he : Enters Tryz.prog fn)
 (hcall : ∀ W x, Below w.heap.size w W → x ∈ l → Calls Tryz.prog fn (first.push (.int .i64 x) ++ capA) W fun e W' => e = .returned (.bool (q x)) ∧ Below W.heap.size W W') :
    Calls Tryz.prog 89 #[.slice A l.length cap, .func (.func fn) first capA] w fun e w' => e = .returned (.bool (l.any q)) ∧ Below w.heap.size w w' := by
 have HX := Kh (zF0 A cap l fn first capA q w hA hn he hcall); clear hcall hA he
 go_enter Tryz.func89, Tryz.ntmps89
 go_wp2_with (go_at_call 141; refine HX.out.mono ?_; rintro e w1 ⟨r, rfl, hr, hb1⟩; have HR := Kh hr; clear hr)
 go_ret
 refine ⟨?_, hb1⟩
 have := HR.out
 cases hq : l.any q with
 | true => rw [hq] at this; simp [this.2 rfl]
 | false => rw [hq] at this; have : ¬ 0 ≤ r := fun h => absurd (this.1 h) (by decide)
            simp [this]
theorem cap2 {P : Program} {fn : Nat} {x a b : Value} {W : World} {R : Ending → World → Prop} (h : Calls P fn #[x, a, b] W R) : Calls P fn ((#[] : Array Value).push x ++ #[a, b]) W R := h
theorem cap1' {P : Program} {fn : Nat} {x a : Value} {W : World} {R : Ending → World → Prop} (h : Calls P fn #[x, a] W R) : Calls P fn ((#[] : Array Value).push x ++ #[a]) W R := h
theorem zCu : Enters Tryz.prog 86 := enters_of Tryz.func86 (by kernel_rfl) rfl
theorem zCw : Enters Tryz.prog 88 := enters_of Tryz.func88 (by kernel_rfl) rfl
theorem zCy : Enters Tryz.prog 91 := enters_of Tryz.func91 (by kernel_rfl) rfl
open Classical in
theorem zCt (A : Option Addr) (ci : Nat) (l : List No) (x1 x2 x3 x4 : Value) (b : Bi) (g1 g2 gm : Nat) (W : World) (hA : zA9 W A l) (hl : l.length ≤ 60) (hm : Blk W gm 4 (zL2 (fun j => .bool (decide (Made l j))) l.length))
    (h1 : Blk W g1 31 #[.slice A l.length ci, x1, x2, x3, x4]) (h2 : Blk W g2 85 #[.slice (some ⟨gm, 0, none⟩) l.length l.length]) :
    Calls Tryz.prog 86 #[.agg #[.int .i64 b.st, .int .i64 b.nd], .pointer (some ⟨g1, 0, none⟩), .pointer (some ⟨g2, 0, none⟩)] W fun e w' => e = .returned (.bool (!decide (zBe l true b))) ∧ Below W.heap.size W w' := by
 have HB0 : Hid (Below W.heap.size W (W.alloc (.cells #[.int .i64 b.st, .int .i64 b.nd] 55))) := (Below.refl _ _).alloc (Nat.le_refl _) _; obtain ⟨c0, c1, c2, c3, c4⟩ := (h1.alloc (.cells #[.int .i64 b.st, .int .i64 b.nd] 55)).five; have c5 := (h2.alloc (.cells #[.int .i64 b.st, .int .i64 b.nd] 55)).cell 0; have T := Kh (zBf A ci l x1 x2 x3 x4 b gm true _ (hA.below HB0.out) hl (hm.alloc _)); simp only [List.getElem?_toArray, List.getElem?_cons_zero] at c5
 clear hA hm h1 h2
 go_enter Tryz.func86, Tryz.ntmps86
 go_wp2_with (go_at_call 87; refine T.out.mono ?_; rintro e w1 ⟨rfl, hb1⟩)
 go_ret
 exact ⟨rfl, HB0.out.trans (hb1.mono HB0.out.size)⟩
open Classical in
theorem zCv (A : Option Addr) (ci : Nat) (l : List No) (x1 x2 x3 x4 : Value) (b : Bi) (g1 g2 gm : Nat) (W : World) (hA : zA9 W A l) (hl : l.length ≤ 60) (hm : Blk W gm 4 (zL2 (fun j => .bool (decide (Made l j))) l.length))
    (h1 : Blk W g1 31 #[.slice A l.length ci, x1, x2, x3, x4]) (h2 : Blk W g2 85 #[.slice (some ⟨gm, 0, none⟩) l.length l.length]) :
    Calls Tryz.prog 88 #[.agg #[.int .i64 b.st, .int .i64 b.nd], .pointer (some ⟨g1, 0, none⟩), .pointer (some ⟨g2, 0, none⟩)] W fun e w' => e = .returned (.bool (!decide (zBe l false b))) ∧ Below W.heap.size W w' := by
 have HB0 : Hid (Below W.heap.size W (W.alloc (.cells #[.int .i64 b.st, .int .i64 b.nd] 55))) := (Below.refl _ _).alloc (Nat.le_refl _) _; obtain ⟨c0, c1, c2, c3, c4⟩ := (h1.alloc (.cells #[.int .i64 b.st, .int .i64 b.nd] 55)).five; have c5 := (h2.alloc (.cells #[.int .i64 b.st, .int .i64 b.nd] 55)).cell 0; have T := Kh (zBf A ci l x1 x2 x3 x4 b gm false _ (hA.below HB0.out) hl (hm.alloc _)); simp only [List.getElem?_toArray, List.getElem?_cons_zero] at c5
 clear hA hm h1 h2
 go_enter Tryz.func88, Tryz.ntmps88
 go_wp2_with (go_at_call 87; refine T.out.mono ?_; rintro e w1 ⟨rfl, hb1⟩)
 go_ret
 exact ⟨rfl, HB0.out.trans (hb1.mono HB0.out.size)⟩
instance (l : List No) (p : Int) : Decidable (zKi l p) := by unfold zKi zFk; infer_instance
theorem zCx (A : Option Addr) (ci : Nat) (l : List No) (x1 x2 x3 x4 : Value) (p : Int) (g1 : Nat) (W : World) (hA : zA9 W A l) (hl : l.length ≤ 60)
 (h1 : Blk W g1 31 #[.slice A l.length ci, x1, x2, x3, x4]) :
    Calls Tryz.prog 91 #[.int .i64 p, .pointer (some ⟨g1, 0, none⟩)] W fun e w' => e = .returned (.bool (!decide (zKi l p))) ∧ Below W.heap.size W w' := by
 obtain ⟨c0, c1, c2, c3, c4⟩ := h1.five; have hlt := h1.lt; have K0 := fun x : Ext W => zDt c0 hlt x
 have K1 := fun x : Ext W => zDt c1 hlt x
 have K2 := fun x : Ext W => zDt c2 hlt x
 have K3 := fun x : Ext W => zDt c3 hlt x
 have K4 := fun x : Ext W => zDt c4 hlt x
 have HA := Kh hA; clear hA h1 c0 c1 c2 c3 c4
 by_cases hp : 0 ≤ p ∧ p ≤ (l.length : Int) - 1
 case neg =>
  have e : decide (zKi l p) = false := decide_eq_false (fun h => hp h.1)
  rw [e]; have H1 := Kh (decide_eq_false hp); clear hp e
  go_enter Tryz.func91, Tryz.ntmps91
  go_wp2_with fail
  refine zR4 (by kernel_rfl) (by kernel_rfl) ?_
  repeat go_big_quiet_step ((first | (go_at_call 92; exact zDs _ (zFl A ci l x1 x2 x3 x4 p false _ (by omega) H1.out))))
  refine wpQuiet_nil ?_
  intro _ hw'; obtain ⟨x, hw''⟩ := hw'; subst hw''
  go_wp2_with fail
  go_ret
  exact ⟨rfl, x.2⟩
 have H1 := Kh (decide_eq_true hp); obtain ⟨q, hq⟩ : ∃ q : Nat, p = (q : Int) := ⟨p.toNat, by omega⟩
 subst hq; have hql : q < l.length := by omega
 have hq0 : (0 : Int) ≤ (q : Int) := by omega
 have hq1 : (q : Int) < (l.length : Int) := by omega
 obtain ⟨g, rfl, hg, hc⟩ := HA.out (by omega)
 have hcq := hc q hql; rw [← zIb hql] at hcq; have K5 := fun x : Ext W => zDt hcq.2.2.2.2.2.2.1 hg x
 have K6 := fun x : Ext W => zDt hcq.2.2.2.2.2.2.2.1 hg x
 clear hc hcq; obtain ⟨z, hz⟩ : ∃ z, decide ((noAt l (q : Int)).s.i = 0 ∧ (noAt l (q : Int)).s.w = 1) = z := ⟨_, rfl⟩
 have q0 := fun w => zI9 hz w
 have e : (!decide (zKi l (q : Int))) = !z := by
  rw [← hz]; congr 1
  apply decide_eq_decide.2
  unfold zKi zFk; rw [So.ext_iff]
  exact ⟨fun h => h.2, fun h => ⟨hp, h⟩⟩
 rw [e]; clear e hz hp
 go_enter Tryz.func91, Tryz.ntmps91
 go_wp2_with fail
 refine zR4 (by kernel_rfl) (by kernel_rfl) ?_
 repeat go_big_quiet_step ((first | (go_at_call 92; exact zDs _ (zFl _ ci l x1 x2 x3 x4 (q : Int) true _ (by omega) H1.out)) | (go_at_call 93; exact zDs _ (zQs _ _))))
 refine wpQuiet_nil ?_
 intro _ hw'; obtain ⟨x, hw''⟩ := hw'; subst hw''
 go_wp2_with fail
 go_ret
 exact ⟨rfl, x.2⟩
theorem zEd (n : Nat) (hn : n ≤ 4194304) (w : World) : Calls Tryz.prog 142 #[.slice none 0 0, .int .i64 (n : Int)] w fun e w' => ∃ A c, e = .returned (.slice A 0 c) ∧ w'.ownsRow w.heap.size 3 1 (.slice A 0 c) 0 [] ∧ Below w.heap.size w w' := by
 rcases Nat.eq_zero_or_pos n with rfl | hpos
 · go_enter Tryz.func142, Tryz.ntmps142
   go_wp2_with fail
   go_ret
   exact ⟨none, 0, rfl, World.ownsRow_nil _ _ _ _, Below.refl _ _⟩
 obtain ⟨i3, hi, hz0, hz1, hz2⟩ := info_parts zF2; have hold : (Builtin.firstCells i3.size 0 (.slice none 0 0)).run Tryz.prog w.drew = .ok ([] : List Value).toArray w.drew := run_firstCells_none w.drew i3.size 0 0 0
 have hrz : ∀ ty, (Builtin.append_ #[24, 3] ty #[.slice none 0 0, .int .i64 (n : Int)]).run Tryz.prog w = .ok (.slice (some ⟨w.heap.size, 0, none⟩) n (grownCap w n 0 3))
     (w.drew.alloc (.cells (Builtin.zeroCells (#[.int .i64 0] : Array Value) n ++ Builtin.zeroCells (#[.int .i64 0] : Array Value) (grownCap w n 0 3 - n)) 3)) := fun ty => by
  have h := Lib.run_append_grow_zeros w 24 3 ty 3 i3 _ .i64 .i64 Tryz.underlying24 Tryz.underlying3 hi hz0 none 0 0 [] hold n hpos (by rw [hz1]; decide) (by omega) (by omega) (by rw [hz2]; omega) (growslice_fits (by omega) (by rw [hz2]; omega))
  simp only [Nat.zero_add] at h; rw [h]; congr 3
  simp [Value.cells]
 have hG := grownCap_ge w n 0 3; have hG2 := grownCap_le_maxLen w n 0 3 (by unfold maxLen; omega)
 obtain ⟨G, hGe⟩ : ∃ G, G = grownCap w n 0 3 := ⟨_, rfl⟩
 rw [← hGe] at hrz hG hG2; have hG63 : (0 : Int) ≤ (G : Int) := by omega
 have h1 : ¬ ((n : Int) < 0) := by omega
 have d1 : decide ((n : Int) < 0) = false := decide_eq_false h1; have d2 : decide ((0 : Int) < (n : Int)) = true := decide_eq_true (by omega)
 have e1 : IntKind.i64.wrap ((n : Int) - 0) = (n : Int) := by rw [Int.sub_zero]; exact zRa (by omega) (by omega)
 clear hold hGe
 go_enter Tryz.func142, Tryz.ntmps142
 go_wp2_with (at_builtin; refine Lib.wpList_append_run _ rfl _ _ _ _ rfl _ _ rfl rfl _ _ (hrz _) ?_)
 go_ret
 refine ⟨some ⟨w.heap.size, 0, none⟩, G, rfl, ⟨rfl, .inr ⟨w.heap.size, G, _, rfl, Nat.le_refl _, heap_alloc_new w _, by omega, hG2, ?_, rfl⟩⟩, ((Below.refl _ _).alloc (Nat.le_refl _) _).drew⟩
 simp [Builtin.zeroCells]
 omega
theorem zOd {w : World} {A : Option Addr} {c : Nat} {l : List Int} (h : IAt w A l) (hc : A = none → c = 0) : Src w A l.length c (l.map (.int .i64)) := by
 cases A with
 | none =>
  have : l = [] := by
   cases l with
   | nil => rfl
   | cons x t => obtain ⟨g, e, _⟩ := h (by simp); cases e
  subst this
  exact .inl ⟨rfl, rfl, hc rfl, rfl⟩
 | some ad =>
  refine .inr ⟨ad, rfl, fun j u hu => ?_⟩
  rw [List.getElem?_map] at hu
  rcases Nat.lt_or_ge j l.length with hj | hj
  · rw [List.getElem?_eq_getElem hj] at hu
    injection hu with hu
    subst hu; obtain ⟨g, e, _, hcl⟩ := h (by omega)
    injection e with e
    subst e; have hadd : (⟨g, 0, none⟩ : Addr).add j = ⟨g, j, none⟩ := by unfold Addr.add; split <;> simp_all
    rw [hadd]; exact hcl j hj
  · rw [List.getElem?_eq_none hj] at hu; cases hu
theorem zD2 (A1 A2 : Option Addr) (c1 c2 gl : Nat) (l1 l2 : List Int) (w : World) (h1 : IAt w A1 l1) (h2 : IAt w A2 l2) (hc1 : A1 = none → c1 = 0) (hc2 : A2 = none → c2 = 0) (hn1 : l1.length ≤ 1048576) (hn2 : l2.length ≤ 1048576)
 (hb : Blk w gl 24 #[.slice A1 l1.length c1, .slice A2 l2.length c2]) :
    Calls Tryz.prog 90 #[.slice (some ⟨gl, 0, none⟩) 2 2] w fun e w' => ∃ A c, e = .returned (.slice A (l1 ++ l2).length c) ∧ w'.ownsRow w.heap.size 3 1 (.slice A (l1 ++ l2).length c) (l1 ++ l2).length ((l1 ++ l2).map (.int .i64)) ∧ Below w.heap.size w w' := by
 obtain ⟨z0, z1⟩ := hb.two; have HBL := Kh hb; have H1 := Kh h1; have H2 := Kh h2; clear h1 h2 hb; have e1 : IntKind.i64.wrap ((0 : Int) + (l1.length : Int)) = (l1.length : Int) := by rw [Int.zero_add]; exact zRa (by omega) (by omega)
 have e2 : IntKind.i64.wrap ((l1.length : Int) + (l2.length : Int)) = ((l1.length + l2.length : Nat) : Int) := by rw [Int.natCast_add]; exact zRa (by omega) (by omega)
 have d1 : decide ((l1.length : Int) < 0) = false := decide_eq_false (by omega)
 have d2 : decide (((l1.length + l2.length : Nat) : Int) < 0) = false := decide_eq_false (by omega)
 go_enter Tryz.func90, Tryz.ntmps90
 go_wp2_with fail
 go_loop [3, 11] (fun s i => (s = .int .i64 0 ∧ i = .int .i64 0) ∨ (s = .int .i64 (l1.length : Int) ∧ i = .int .i64 1) ∨ (s = .int .i64 ((l1.length + l2.length : Nat) : Int) ∧ i = .int .i64 2)) (fun _ i => 2 - (intOf i).toNat)
 case atStart => exact .inl ⟨rfl, rfl⟩
 case round =>
  rcases hrel with ⟨rfl, rfl⟩ | ⟨rfl, rfl⟩ | ⟨rfl, rfl⟩
  · go_wp2_with fail
    go_round
    case rel => exact .inr (.inl ⟨by go_num, rfl⟩)
    case measure => simp [intOf]
  · go_wp2_with fail
    go_round
    case rel => exact .inr (.inr ⟨by go_num, rfl⟩)
    case measure => simp [intOf]
  · go_wp2_with (go_at_call 142; refine (zEd (l1.length + l2.length) (by omega) _).mono ?_; rintro e w1 ⟨A, c, rfl, ho, hb1⟩; have HO := Kh ho; have HB1 := Kh hb1; have HBL1 := Kh (HBL.out.below hb1 HBL.out.lt); clear z0 z1 ho hb1; obtain ⟨z0, z1⟩ := HBL1.out.two)
    have HGL : gl < w.heap.size := HBL.out.lt; obtain ⟨i3, hi, hz0, hz1, hz2⟩ := info_parts zF2; have Hi := Kh (And.intro hi (And.intro hz0 (And.intro hz1 hz2))); clear hi hz0 hz1 hz2
    go_loopw [6, 27] (fun s i wr => ∃ (A : Option Addr) (c : Nat), (s = .slice A 0 c ∧ i = .int .i64 0 ∧ Hid (wr.ownsRow w.heap.size 3 1 (.slice A 0 c) ([] : List Int).length (([] : List Int).map (.int .i64))) ∧ Hid (Below w.heap.size w wr) ∧ Hid (Blk wr gl 24 #[.slice A1 l1.length c1, .slice A2 l2.length c2])) ∨
     (s = .slice A l1.length c ∧ i = .int .i64 1 ∧ Hid (wr.ownsRow w.heap.size 3 1 (.slice A l1.length c) l1.length (l1.map (.int .i64))) ∧ Hid (Below w.heap.size w wr) ∧ Hid (Blk wr gl 24 #[.slice A1 l1.length c1, .slice A2 l2.length c2])) ∨
     (s = .slice A (l1 ++ l2).length c ∧ i = .int .i64 2 ∧ Hid (wr.ownsRow w.heap.size 3 1 (.slice A (l1 ++ l2).length c) (l1 ++ l2).length ((l1 ++ l2).map (.int .i64))) ∧ Hid (Below w.heap.size w wr) ∧ Hid (Blk wr gl 24 #[.slice A1 l1.length c1, .slice A2 l2.length c2]))) (fun _ i _ => 2 - (intOf i).toNat)
    case atStart => exact ⟨A, c, .inl ⟨rfl, rfl, HO, HB1, HBL1⟩⟩
    case round =>
    clear z0 z1; obtain ⟨A, c, ⟨rfl, rfl, HOr, HBr, HBLr⟩ | ⟨rfl, rfl, HOr, HBr, HBLr⟩ | ⟨rfl, rfl, HOr, HBr, HBLr⟩⟩ := hrel
    · obtain ⟨z0, z1⟩ := HBLr.out.two
      go_wp2_with (at_builtin; refine zR2 rfl _ _ 24 rfl w.heap.size 3 i3 (.int .i64 0) 1 8 Tryz.underlying24 Hi.out.1 Hi.out.2.1 Hi.out.2.2.1 Hi.out.2.2.2 rfl (by decide) _ ([] : List Int).length (([] : List Int).map (.int .i64)) rfl HOr.out A1 l1.length c1 (l1.map (.int .i64)) rfl (by exact zOd (H1.out.below HBr.out) hc1) (by simp) (zF9 _) (by unfold maxLen; first | omega | (simp; omega)) (by first | omega | (simp; omega)) (by have := HBr.out.size; omega) ?_; intro A3 c3 wz ho3 hg3 hor3; have HO3 := Kh ho3; have HB3 := Kh (HBr.out.grown hg3 HBr.out.size (fun x hx => (HOr.out.lt x hx).1)); have HL3 := Kh (HBLr.out.grown hg3 (zJe HOr.out HGL)); clear ho3 hg3 hor3)
      go_roundw
      case rel => exact ⟨A3, c3, .inr (.inl ⟨by simp, rfl, Kh (by have := HO3.out; simpa using this), HB3, HL3⟩)⟩
      case measure => simp [intOf]
    · obtain ⟨z0, z1⟩ := HBLr.out.two
      go_wp2_with (at_builtin; refine zR2 rfl _ _ 24 rfl w.heap.size 3 i3 (.int .i64 0) 1 8 Tryz.underlying24 Hi.out.1 Hi.out.2.1 Hi.out.2.2.1 Hi.out.2.2.2 rfl (by decide) _ (l1).length ((l1).map (.int .i64)) rfl HOr.out A2 l2.length c2 (l2.map (.int .i64)) rfl (by exact zOd (H2.out.below HBr.out) hc2) (by simp) (zF9 _) (by unfold maxLen; first | omega | (simp; omega)) (by first | omega | (simp; omega)) (by have := HBr.out.size; omega) ?_; intro A3 c3 wz ho3 hg3 hor3; have HO3 := Kh ho3; have HB3 := Kh (HBr.out.grown hg3 HBr.out.size (fun x hx => (HOr.out.lt x hx).1)); have HL3 := Kh (HBLr.out.grown hg3 (zJe HOr.out HGL)); clear ho3 hg3 hor3)
      go_roundw
      case rel => exact ⟨A3, c3, .inr (.inr ⟨by simp, rfl, Kh (by have := HO3.out; simpa using this), HB3, HL3⟩)⟩
      case measure => simp [intOf]
    · go_wp2_with fail
      go_ret
      exact ⟨A, c, rfl, HOr.out, HBr.out⟩
end Go.Proofs.YtmolbnghobfmoaaGreat
