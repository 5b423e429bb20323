/- Part 18 of what the row Row28 rests on: F13. -/
import Derived.Test.YtmolbnghobfmoaaGreatP17
set_option maxRecDepth 100000
set_option maxHeartbeats 16000000
set_option linter.unusedSimpArgs false
set_option linter.unusedVariables false
namespace Go.Proofs.YtmolbnghobfmoaaGreat
open Go.RowKit
structure MoAt (w : World) (A0 A1 A2 A3 A4 : Option Addr) (c0 c3 c4 : Nat) (m : Mo) : Prop where
 ns : zA9 w A0 m.ns
 ins : zA1 w A1 m.ins
 nxs : zA1 w A2 m.nxs
 bads : IAt w A3 m.bads
 hols : IAt w A4 m.hols
 cap : m.ns.length ≤ c0
 nil3 : A3 = none → c3 = 0
 nil4 : A4 = none → c4 = 0
 len : m.ns.length ≤ 1048576 ∧ m.ins.length ≤ 1048576 ∧ m.nxs.length ≤ 1048576 ∧ m.bads.length ≤ 1048576 ∧ m.hols.length ≤ 1048576
 names : ∀ n ∈ m.ns, n.t.size ≤ 1048576
 i64a : ∀ b ∈ m.ins, zEo b.st
 i64b : ∀ b ∈ m.nxs, zEo b.st
theorem MoAt.below {w w' : World} {A0 A1 A2 A3 A4 : Option Addr} {c0 c3 c4 : Nat} {m : Mo} (h : MoAt w A0 A1 A2 A3 A4 c0 c3 c4 m) (hb : Below w.heap.size w w') : MoAt w' A0 A1 A2 A3 A4 c0 c3 c4 m :=
 ⟨h.ns.below hb, h.ins.below hb, h.nxs.below hb, h.bads.below hb, h.hols.below hb, h.cap, h.nil3, h.nil4, h.len, h.names, h.i64a, h.i64b⟩
open Classical in
theorem zHw (A0 A1 A2 A3 A4 : Option Addr) (c0 c1 c2 c3 c4 : Nat) (m : Mo) (w : World) (hM : MoAt w A0 A1 A2 A3 A4 c0 c3 c4 m) :
    Calls Tryz.prog 35 #[.agg #[.slice A0 m.ns.length c0, .slice A1 m.ins.length c1, .slice A2 m.nxs.length c2, .slice A3 m.bads.length c3, .slice A4 m.hols.length c4]] w fun e w' => e = .returned (.int .i64 (zHv m)) ∧ Below w.heap.size w w' := by
 have HM := Kh hM; clear hM; have HB0 := bx w #[.slice A0 m.ns.length c0, .slice A1 m.ins.length c1, .slice A2 m.nxs.length c2, .slice A3 m.bads.length c3, .slice A4 m.hols.length c4] 31; have HX0 := nx w #[.slice A0 m.ns.length c0, .slice A1 m.ins.length c1, .slice A2 m.nxs.length c2, .slice A3 m.bads.length c3, .slice A4 m.hols.length c4] 31; have hmf := mkf
 by_cases q0 : m.ns.length ≤ 60
 case neg =>
  have HC : Hid (zHv m = 1) := Kh (by unfold zHv; rw [if_pos (by omega)])
  have d0 : decide ((60 : Int) < (m.ns.length : Int)) = true := decide_eq_true (by omega)
  have d0' : decide (60 < m.ns.length) = true := decide_eq_true (by omega)
  clear q0
  go_enter Tryz.func35, Tryz.ntmps35
  go_wp2_with fail
  go_ret
  exact ⟨zKv HC.out.symm, HB0.out⟩
 by_cases q1 : m.ins.length ≤ 60
 case neg =>
  have HC : Hid (zHv m = 1) := Kh (by unfold zHv; rw [if_pos (by omega)])
  have d0 : decide ((60 : Int) < (m.ns.length : Int)) = false := decide_eq_false (by omega)
  have d0' : decide (60 < m.ns.length) = false := decide_eq_false (by omega)
  have d1 : decide ((60 : Int) < (m.ins.length : Int)) = true := decide_eq_true (by omega)
  have d1' : decide (60 < m.ins.length) = true := decide_eq_true (by omega)
  clear q0 q1
  go_enter Tryz.func35, Tryz.ntmps35
  go_wp2_with fail
  go_ret
  exact ⟨zKv HC.out.symm, HB0.out⟩
 by_cases q2 : m.nxs.length ≤ 60
 case neg =>
  have HC : Hid (zHv m = 1) := Kh (by unfold zHv; rw [if_pos (by omega)])
  have d0 : decide ((60 : Int) < (m.ns.length : Int)) = false := decide_eq_false (by omega)
  have d0' : decide (60 < m.ns.length) = false := decide_eq_false (by omega)
  have d1 : decide ((60 : Int) < (m.ins.length : Int)) = false := decide_eq_false (by omega)
  have d1' : decide (60 < m.ins.length) = false := decide_eq_false (by omega)
  have d2 : decide ((60 : Int) < (m.nxs.length : Int)) = true := decide_eq_true (by omega)
  have d2' : decide (60 < m.nxs.length) = true := decide_eq_true (by omega)
  clear q0 q1 q2
  go_enter Tryz.func35, Tryz.ntmps35
  go_wp2_with fail
  go_ret
  exact ⟨zKv HC.out.symm, HB0.out⟩
 by_cases q3 : m.bads.length ≤ 4
 case neg =>
  have HC : Hid (zHv m = 1) := Kh (by unfold zHv; rw [if_pos (by omega)])
  have d0 : decide ((60 : Int) < (m.ns.length : Int)) = false := decide_eq_false (by omega)
  have d0' : decide (60 < m.ns.length) = false := decide_eq_false (by omega)
  have d1 : decide ((60 : Int) < (m.ins.length : Int)) = false := decide_eq_false (by omega)
  have d1' : decide (60 < m.ins.length) = false := decide_eq_false (by omega)
  have d2 : decide ((60 : Int) < (m.nxs.length : Int)) = false := decide_eq_false (by omega)
  have d2' : decide (60 < m.nxs.length) = false := decide_eq_false (by omega)
  have d3 : decide ((4 : Int) < (m.bads.length : Int)) = true := decide_eq_true (by omega)
  have d3' : decide (4 < m.bads.length) = true := decide_eq_true (by omega)
  clear q0 q1 q2 q3
  go_enter Tryz.func35, Tryz.ntmps35
  go_wp2_with fail
  go_ret
  exact ⟨zKv HC.out.symm, HB0.out⟩
 by_cases q4 : m.hols.length ≤ 4
 case neg =>
  have HC : Hid (zHv m = 1) := Kh (by unfold zHv; rw [if_pos (by omega)])
  have d0 : decide ((60 : Int) < (m.ns.length : Int)) = false := decide_eq_false (by omega)
  have d0' : decide (60 < m.ns.length) = false := decide_eq_false (by omega)
  have d1 : decide ((60 : Int) < (m.ins.length : Int)) = false := decide_eq_false (by omega)
  have d1' : decide (60 < m.ins.length) = false := decide_eq_false (by omega)
  have d2 : decide ((60 : Int) < (m.nxs.length : Int)) = false := decide_eq_false (by omega)
  have d2' : decide (60 < m.nxs.length) = false := decide_eq_false (by omega)
  have d3 : decide ((4 : Int) < (m.bads.length : Int)) = false := decide_eq_false (by omega)
  have d3' : decide (4 < m.bads.length) = false := decide_eq_false (by omega)
  have d4 : decide ((4 : Int) < (m.hols.length : Int)) = true := decide_eq_true (by omega)
  have d4' : decide (4 < m.hols.length) = true := decide_eq_true (by omega)
  clear q0 q1 q2 q3 q4
  go_enter Tryz.func35, Tryz.ntmps35
  go_wp2_with fail
  go_ret
  exact ⟨zKv HC.out.symm, HB0.out⟩
 have HQ := Kh (by omega : ¬ (m.ns.length > 60 ∨ m.ins.length > 60 ∨ m.nxs.length > 60 ∨ m.bads.length > 4 ∨ m.hols.length > 4))
 have d0 : decide ((60 : Int) < (m.ns.length : Int)) = false := decide_eq_false (by omega)
 have d0' : decide (60 < m.ns.length) = false := decide_eq_false (by omega)
 have d1 : decide ((60 : Int) < (m.ins.length : Int)) = false := decide_eq_false (by omega)
 have d1' : decide (60 < m.ins.length) = false := decide_eq_false (by omega)
 have d2 : decide ((60 : Int) < (m.nxs.length : Int)) = false := decide_eq_false (by omega)
 have d2' : decide (60 < m.nxs.length) = false := decide_eq_false (by omega)
 have d3 : decide ((4 : Int) < (m.bads.length : Int)) = false := decide_eq_false (by omega)
 have d3' : decide (4 < m.bads.length) = false := decide_eq_false (by omega)
 have d4 : decide ((4 : Int) < (m.hols.length : Int)) = false := decide_eq_false (by omega)
 have d4' : decide (4 < m.hols.length) = false := decide_eq_false (by omega)
 by_cases hn : zAb m.ns
 case neg =>
  have HC : Hid (zHv m = 2) := Kh (by unfold zHv; rw [if_neg HQ.out, if_pos hn])
  have HN := Kh hn; clear hn q0 q1 q2 q3 q4
  go_enter Tryz.func35, Tryz.ntmps35
  go_wp2_with (go_at_call 82; refine (zIh A0 c0 m.ns _ _ _ _ _ (by exact HM.out.ns.below HB0.out) HM.out.len.1 HM.out.cap HM.out.names).mono ?_; rintro e w1 ⟨hs, hb1⟩; obtain rfl := hs.f HN.out; have HB1 := Kh (HB0.out.trans (hb1.mono HB0.out.size)); have HX1 := Kh (HX0.out.below hb1 HX0.out.lt); obtain ⟨y0, y1, y2, y3, y4⟩ := HX1.out.five; clear hb1 hs)
  go_ret
  exact ⟨zKv HC.out.symm, HB1.out⟩
 have HN := Kh hn
 by_cases ht : zI5 m.ns ∨ zOk m.ins ∨ zOk m.nxs
 case pos =>
  have HC : Hid (zHv m = 3) := Kh (by unfold zHv; rw [if_neg HQ.out, if_neg (fun h => h hn), if_pos ht])
  have HT := Kh ht; clear ht hn q0 q1 q2 q3 q4
  go_enter Tryz.func35, Tryz.ntmps35
  go_wp2_with (first | (go_at_call 82; refine (zIh A0 c0 m.ns _ _ _ _ _ (by exact HM.out.ns.below HB0.out) HM.out.len.1 HM.out.cap HM.out.names).mono ?_; rintro e w1 ⟨hs, hb1⟩; obtain rfl := hs.t HN.out; have HB1 := Kh (HB0.out.trans (hb1.mono HB0.out.size)); have HX1 := Kh (HX0.out.below hb1 HX0.out.lt); obtain ⟨y0, y1, y2, y3, y4⟩ := HX1.out.five; clear hb1 hs) | (go_at_call 83; refine (zPs A0 A1 A2 c0 c1 c2 m.ns m.ins m.nxs _ _ _ (by exact HM.out.ns.below HB1.out) (by exact HM.out.ins.below HB1.out) (by exact HM.out.nxs.below HB1.out) HM.out.len.1 HM.out.len.2.1 HM.out.len.2.2.1 HM.out.names HM.out.i64a HM.out.i64b).mono ?_; rintro e w2 ⟨hs, hb1⟩; obtain rfl := hs.t HT.out; have HB2 := Kh (HB1.out.trans (hb1.mono HB1.out.size)); have HX2 := Kh (HX1.out.below hb1 HX1.out.lt); clear y0 y1 y2 y3 y4; obtain ⟨y0, y1, y2, y3, y4⟩ := HX2.out.five; clear hb1 hs))
  go_ret
  exact ⟨zKv HC.out.symm, HB2.out⟩
 have HT := Kh ht; have HL8 : Hid ((m.bads ++ m.hols).length ≤ 8) := by show _ ≤ _; rw [List.length_append]; omega
 obtain ⟨v1, hv1⟩ : ∃ v, m.ins.any (fun b => !decide (zBe m.ns true b)) = v := ⟨_, rfl⟩
 obtain ⟨v2, hv2⟩ : ∃ v, m.nxs.any (fun b => !decide (zBe m.ns false b)) = v := ⟨_, rfl⟩
 obtain ⟨v3, hv3⟩ : ∃ v, (m.bads ++ m.hols).any (fun p => !decide (zKi m.ns p)) = v := ⟨_, rfl⟩
 have hall : ∀ (l : List Bi) (i : Bool) (v : Bool), l.any (fun b => !decide (zBe m.ns i b)) = v → ((∀ b ∈ l, zBe m.ns i b) ↔ v = false) := fun l i v h => by
  subst h; rw [List.any_eq_false]
  exact ⟨fun h b hb => by simp [h b hb], fun h b hb => by simpa using h b hb⟩
 have hallp : ∀ (v : Bool), (m.bads ++ m.hols).any (fun p => !decide (zKi m.ns p)) = v → (((∀ p ∈ m.bads, zKi m.ns p) ∧ ∀ p ∈ m.hols, zKi m.ns p) ↔ v = false) := fun v h => by
  subst h; rw [List.any_eq_false]
  exact ⟨fun h b hb => by rcases List.mem_append.1 hb with hb | hb; · simp [h.1 b hb]
                          · simp [h.2 b hb], fun h => ⟨fun b hb => by simpa using h b (List.mem_append.2 (.inl hb)), fun b hb => by simpa using h b (List.mem_append.2 (.inr hb))⟩⟩
 have E : zHv m = zHv m := rfl
 conv at E =>
  rhs
  unfold zHv; rw [if_neg HQ.out, if_neg (fun h => h hn), if_neg ht]
 have HC4 : Hid (v1 = true ∨ v2 = true → zHv m = 4) := Kh (fun h => by
  rw [E, if_pos (fun h' => ?_)]
  have a := (hall _ _ _ hv1).1 h'.1; have b := (hall _ _ _ hv2).1 h'.2; subst a; subst b; simp at h)
 have HP1 : Hid (v1 = false → v2 = false → ¬ ¬ ((∀ b ∈ m.ins, zBe m.ns true b) ∧ ∀ b ∈ m.nxs, zBe m.ns false b)) := Kh (fun a b h => h ⟨(hall _ _ _ hv1).2 a, (hall _ _ _ hv2).2 b⟩)
 have HC5 : Hid (v1 = false → v2 = false → v3 = true → zHv m = 5) := Kh (fun a b c => by
  rw [E, if_neg (HP1.out a b), if_pos (fun h' => ?_)]
  rw [(hallp _ hv3).1 h'] at c
  cases c)
 have HP2 : Hid (v3 = false → ¬ ¬ ((∀ p ∈ m.bads, zKi m.ns p) ∧ ∀ p ∈ m.hols, zKi m.ns p)) := Kh (fun a h => h ((hallp _ hv3).2 a))
 have HC6 : Hid (v1 = false → v2 = false → v3 = false → zBk m.ns 36 > 8 ∨ zBk m.ns 35 > 5 → zHv m = 6) := Kh (fun a b c d => by
  rw [E, if_neg (HP1.out a b), if_neg (HP2.out c), if_pos d])
 have HC0 : Hid (v1 = false → v2 = false → v3 = false → ¬ (zBk m.ns 36 > 8 ∨ zBk m.ns 35 > 5) → zHv m = 0) := Kh (fun a b c d => by
  rw [E, if_neg (HP1.out a b), if_neg (HP2.out c), if_neg d])
 clear E hall hallp HP1 HP2; have HV1 := Kh hv1; have HV2 := Kh hv2; have HV3 := Kh hv3; obtain ⟨C, hC⟩ : ∃ C, zHv m = C := ⟨_, rfl⟩
 rw [hC] at HC4 HC5 HC6 HC0 ⊢; have hl60 : m.ns.length ≤ 60 := q0; clear hC ht hn hv1 hv2 hv3 q0 q1 q2 q3 q4
 have T1 := Kh (fun (W : World) (g p3 gm : Nat) (hW : Below w.heap.size w W) (hX : Blk W g 31 #[.slice A0 m.ns.length c0, .slice A1 m.ins.length c1, .slice A2 m.nxs.length c2, .slice A3 m.bads.length c3, .slice A4 m.hols.length c4]) (hmd : Blk W gm 4 (zL2 (fun j => .bool (decide (Made m.ns j))) m.ns.length)) (hZ : Blk W p3 85 #[.slice (some ⟨gm, 0, none⟩) m.ns.length m.ns.length]) => zD4 A1 c1 m.ins 86 #[] #[.pointer (some ⟨g, 0, none⟩), .pointer (some ⟨p3, 0, none⟩)] (fun b => !decide (zBe m.ns true b)) W (HM.out.ins.below hW) HM.out.len.2.1 zCu
  (fun V b hb _ => cap2 (zCt A0 c0 m.ns _ _ _ _ b _ _ gm V ((HM.out.ns.below hW).below hb) hl60 (hmd.below hb hmd.lt) (hX.below hb hX.lt) (hZ.below hb hZ.lt))))
 rw [HV1.out] at T1
 have T2 := Kh (fun (W : World) (g p3 gm : Nat) (hW : Below w.heap.size w W) (hX : Blk W g 31 #[.slice A0 m.ns.length c0, .slice A1 m.ins.length c1, .slice A2 m.nxs.length c2, .slice A3 m.bads.length c3, .slice A4 m.hols.length c4]) (hmd : Blk W gm 4 (zL2 (fun j => .bool (decide (Made m.ns j))) m.ns.length)) (hZ : Blk W p3 85 #[.slice (some ⟨gm, 0, none⟩) m.ns.length m.ns.length]) => zD4 A2 c2 m.nxs 88 #[] #[.pointer (some ⟨g, 0, none⟩), .pointer (some ⟨p3, 0, none⟩)] (fun b => !decide (zBe m.ns false b)) W (HM.out.nxs.below hW) HM.out.len.2.2.1 zCw
  (fun V b hb _ => cap2 (zCv A0 c0 m.ns _ _ _ _ b _ _ gm V ((HM.out.ns.below hW).below hb) hl60 (hmd.below hb hmd.lt) (hX.below hb hX.lt) (hZ.below hb hZ.lt))))
 rw [HV2.out] at T2
 have T3 := Kh (fun (W : World) (g : Nat) (A : Option Addr) (c : Nat) (hW : Below w.heap.size w W) (hX : Blk W g 31 #[.slice A0 m.ns.length c0, .slice A1 m.ins.length c1, .slice A2 m.nxs.length c2, .slice A3 m.bads.length c3, .slice A4 m.hols.length c4]) (hA : IAt W A (m.bads ++ m.hols)) => zD6 A c (m.bads ++ m.hols) 91 #[] #[.pointer (some ⟨g, 0, none⟩)] (fun p => !decide (zKi m.ns p)) W hA (Nat.le_trans HL8.out (by omega)) zCy
  (fun V b hb _ => cap1' (zCx A0 c0 m.ns _ _ _ _ b _ V ((HM.out.ns.below hW).below hb) hl60 (hX.below hb hX.lt))))
 rw [HV3.out] at T3; obtain ⟨L, hLL⟩ : ∃ L, m.bads ++ m.hols = L := ⟨_, rfl⟩
 rw [hLL] at T3 HV3 HL8; have HLL := Kh hLL; clear hLL; obtain ⟨f36, h36⟩ : ∃ f, decide ((8 : Int) < zBk m.ns 36) = f := ⟨_, rfl⟩
 obtain ⟨f35, h35⟩ : ∃ f, decide ((5 : Int) < zBk m.ns 35) = f := ⟨_, rfl⟩
 have HC6' : Hid (v1 = false → v2 = false → v3 = false → f36 = true ∨ f35 = true → C = 6) := Kh (fun a b c d => HC6.out a b c (d.elim (fun d => .inl (of_decide_eq_true (h36.trans d))) (fun d => .inr (of_decide_eq_true (h35.trans d)))))
 have HC0' : Hid (v1 = false → v2 = false → v3 = false → f36 = false → f35 = false → C = 0) := Kh (fun a b c d e => HC0.out a b c (fun h => h.elim (fun h => of_decide_eq_false (h36.trans d) h) (fun h => of_decide_eq_false (h35.trans e) h)))
 clear HC6 HC0; have B36 := Kh (fun (W : World) (hW : Below w.heap.size w W) => zBq A0 c0 m.ns (.slice A1 m.ins.length c1) (.slice A2 m.nxs.length c2) (.slice A3 m.bads.length c3) (.slice A4 m.hols.length c4) 36 W (HM.out.ns.below hW) hl60)
 have B35 := Kh (fun (W : World) (hW : Below w.heap.size w W) => zBq A0 c0 m.ns (.slice A1 m.ins.length c1) (.slice A2 m.nxs.length c2) (.slice A3 m.bads.length c3) (.slice A4 m.hols.length c4) 35 W (HM.out.ns.below hW) hl60)
 generalize zBk m.ns 36 = n36 at *; generalize zBk m.ns 35 = n35 at *
 cases v1
 case true =>
  go_enter Tryz.func35, Tryz.ntmps35
  go_wp2_with (first
   | (go_at_call 82; refine (zIh A0 c0 m.ns _ _ _ _ _ (by exact HM.out.ns.below HB0.out) HM.out.len.1 HM.out.cap HM.out.names).mono ?_; rintro e w1 ⟨hs, hb1⟩; obtain rfl := hs.t HN.out; have HB1 := Kh (HB0.out.trans (hb1.mono HB0.out.size)); have HX1 := Kh (HX0.out.below hb1 HX0.out.lt); obtain ⟨y0, y1, y2, y3, y4⟩ := HX1.out.five; clear hb1 hs)
   | (go_at_call 83; refine (zPs A0 A1 A2 c0 c1 c2 m.ns m.ins m.nxs _ _ _ (by exact HM.out.ns.below HB1.out) (by exact HM.out.ins.below HB1.out) (by exact HM.out.nxs.below HB1.out) HM.out.len.1 HM.out.len.2.1 HM.out.len.2.2.1 HM.out.names HM.out.i64a HM.out.i64b).mono ?_; rintro e w2 ⟨hs, hb1⟩; obtain rfl := hs.f HT.out; have HB2 := Kh (HB1.out.trans (hb1.mono HB1.out.size)); have HX2 := Kh (HX1.out.below hb1 HX1.out.lt); clear y0 y1 y2 y3 y4; obtain ⟨y0, y1, y2, y3, y4⟩ := HX2.out.five; clear hb1 hs)
   | (go_at_call 84; refine (zH2 A0 c0 m.ns _ _ _ _ _ (by exact HM.out.ns.below HB2.out) hl60 HN.out).mono ?_; rintro e w3 ⟨gm, rfl, hgm, hbm, hb1⟩; have HB3 := Kh (HB2.out.trans (hb1.mono HB2.out.size)); have HX3 := Kh (HX2.out.below hb1 HX2.out.lt); have HMD := Kh hbm; have HB4 := Kh (HB3.out.alloc HB3.out.size (.cells #[.slice (some ⟨gm, 0, none⟩) m.ns.length m.ns.length] 85)); have HX4 := Kh (HX3.out.alloc (.cells #[.slice (some ⟨gm, 0, none⟩) m.ns.length m.ns.length] 85)); have HMD4 := Kh (HMD.out.alloc (.cells #[.slice (some ⟨gm, 0, none⟩) m.ns.length m.ns.length] 85)); have HZ4 : Hid (Blk (w3.alloc (.cells #[.slice (some ⟨gm, 0, none⟩) m.ns.length m.ns.length] 85)) w3.heap.size 85 #[.slice (some ⟨gm, 0, none⟩) m.ns.length m.ns.length]) := Blk.new _ _ _; clear hbm hgm hb1; clear y0 y1 y2 y3 y4; obtain ⟨y0, y1, y2, y3, y4⟩ := HX4.out.five)
   | (go_at_call 85; refine (T1.out _ _ _ _ HB4.out HX4.out HMD4.out HZ4.out).mono ?_; rintro e w5 ⟨rfl, hb1⟩; have HB5 := Kh (HB4.out.trans (hb1.mono HB4.out.size)); have HX5 := Kh (HX4.out.below hb1 HX4.out.lt); have HMD5 := Kh (HMD4.out.below hb1 HMD4.out.lt); have HZ5 := Kh (HZ4.out.below hb1 HZ4.out.lt); clear hb1; clear y0 y1 y2 y3 y4; obtain ⟨y0, y1, y2, y3, y4⟩ := HX5.out.five))
  go_ret
  exact ⟨zKv (Eq.symm (HC4.out (by simp))), HB5.out⟩
 cases v2
 case true =>
  go_enter Tryz.func35, Tryz.ntmps35
  go_wp2_with (first
   | (go_at_call 82; refine (zIh A0 c0 m.ns _ _ _ _ _ (by exact HM.out.ns.below HB0.out) HM.out.len.1 HM.out.cap HM.out.names).mono ?_; rintro e w1 ⟨hs, hb1⟩; obtain rfl := hs.t HN.out; have HB1 := Kh (HB0.out.trans (hb1.mono HB0.out.size)); have HX1 := Kh (HX0.out.below hb1 HX0.out.lt); obtain ⟨y0, y1, y2, y3, y4⟩ := HX1.out.five; clear hb1 hs)
   | (go_at_call 83; refine (zPs A0 A1 A2 c0 c1 c2 m.ns m.ins m.nxs _ _ _ (by exact HM.out.ns.below HB1.out) (by exact HM.out.ins.below HB1.out) (by exact HM.out.nxs.below HB1.out) HM.out.len.1 HM.out.len.2.1 HM.out.len.2.2.1 HM.out.names HM.out.i64a HM.out.i64b).mono ?_; rintro e w2 ⟨hs, hb1⟩; obtain rfl := hs.f HT.out; have HB2 := Kh (HB1.out.trans (hb1.mono HB1.out.size)); have HX2 := Kh (HX1.out.below hb1 HX1.out.lt); clear y0 y1 y2 y3 y4; obtain ⟨y0, y1, y2, y3, y4⟩ := HX2.out.five; clear hb1 hs)
   | (go_at_call 84; refine (zH2 A0 c0 m.ns _ _ _ _ _ (by exact HM.out.ns.below HB2.out) hl60 HN.out).mono ?_; rintro e w3 ⟨gm, rfl, hgm, hbm, hb1⟩; have HB3 := Kh (HB2.out.trans (hb1.mono HB2.out.size)); have HX3 := Kh (HX2.out.below hb1 HX2.out.lt); have HMD := Kh hbm; have HB4 := Kh (HB3.out.alloc HB3.out.size (.cells #[.slice (some ⟨gm, 0, none⟩) m.ns.length m.ns.length] 85)); have HX4 := Kh (HX3.out.alloc (.cells #[.slice (some ⟨gm, 0, none⟩) m.ns.length m.ns.length] 85)); have HMD4 := Kh (HMD.out.alloc (.cells #[.slice (some ⟨gm, 0, none⟩) m.ns.length m.ns.length] 85)); have HZ4 : Hid (Blk (w3.alloc (.cells #[.slice (some ⟨gm, 0, none⟩) m.ns.length m.ns.length] 85)) w3.heap.size 85 #[.slice (some ⟨gm, 0, none⟩) m.ns.length m.ns.length]) := Blk.new _ _ _; clear hbm hgm hb1; clear y0 y1 y2 y3 y4; obtain ⟨y0, y1, y2, y3, y4⟩ := HX4.out.five)
   | (go_at_call 85; refine (T1.out _ _ _ _ HB4.out HX4.out HMD4.out HZ4.out).mono ?_; rintro e w5 ⟨rfl, hb1⟩; have HB5 := Kh (HB4.out.trans (hb1.mono HB4.out.size)); have HX5 := Kh (HX4.out.below hb1 HX4.out.lt); have HMD5 := Kh (HMD4.out.below hb1 HMD4.out.lt); have HZ5 := Kh (HZ4.out.below hb1 HZ4.out.lt); clear hb1; clear y0 y1 y2 y3 y4; obtain ⟨y0, y1, y2, y3, y4⟩ := HX5.out.five)
   | (go_at_call 85; refine (T2.out _ _ _ _ HB5.out HX5.out HMD5.out HZ5.out).mono ?_; rintro e w6 ⟨rfl, hb1⟩; have HB6 := Kh (HB5.out.trans (hb1.mono HB5.out.size)); have HX6 := Kh (HX5.out.below hb1 HX5.out.lt); have HMD6 := Kh (HMD5.out.below hb1 HMD5.out.lt); have HZ6 := Kh (HZ5.out.below hb1 HZ5.out.lt); clear hb1; clear y0 y1 y2 y3 y4; obtain ⟨y0, y1, y2, y3, y4⟩ := HX6.out.five))
  go_ret
  exact ⟨zKv (Eq.symm (HC4.out (by simp))), HB6.out⟩
 cases v3
 case true =>
  go_enter Tryz.func35, Tryz.ntmps35
  go_wp2_with (first
   | (go_at_call 82; refine (zIh A0 c0 m.ns _ _ _ _ _ (by exact HM.out.ns.below HB0.out) HM.out.len.1 HM.out.cap HM.out.names).mono ?_; rintro e w1 ⟨hs, hb1⟩; obtain rfl := hs.t HN.out; have HB1 := Kh (HB0.out.trans (hb1.mono HB0.out.size)); have HX1 := Kh (HX0.out.below hb1 HX0.out.lt); obtain ⟨y0, y1, y2, y3, y4⟩ := HX1.out.five; clear hb1 hs)
   | (go_at_call 83; refine (zPs A0 A1 A2 c0 c1 c2 m.ns m.ins m.nxs _ _ _ (by exact HM.out.ns.below HB1.out) (by exact HM.out.ins.below HB1.out) (by exact HM.out.nxs.below HB1.out) HM.out.len.1 HM.out.len.2.1 HM.out.len.2.2.1 HM.out.names HM.out.i64a HM.out.i64b).mono ?_; rintro e w2 ⟨hs, hb1⟩; obtain rfl := hs.f HT.out; have HB2 := Kh (HB1.out.trans (hb1.mono HB1.out.size)); have HX2 := Kh (HX1.out.below hb1 HX1.out.lt); clear y0 y1 y2 y3 y4; obtain ⟨y0, y1, y2, y3, y4⟩ := HX2.out.five; clear hb1 hs)
   | (go_at_call 84; refine (zH2 A0 c0 m.ns _ _ _ _ _ (by exact HM.out.ns.below HB2.out) hl60 HN.out).mono ?_; rintro e w3 ⟨gm, rfl, hgm, hbm, hb1⟩; have HB3 := Kh (HB2.out.trans (hb1.mono HB2.out.size)); have HX3 := Kh (HX2.out.below hb1 HX2.out.lt); have HMD := Kh hbm; have HB4 := Kh (HB3.out.alloc HB3.out.size (.cells #[.slice (some ⟨gm, 0, none⟩) m.ns.length m.ns.length] 85)); have HX4 := Kh (HX3.out.alloc (.cells #[.slice (some ⟨gm, 0, none⟩) m.ns.length m.ns.length] 85)); have HMD4 := Kh (HMD.out.alloc (.cells #[.slice (some ⟨gm, 0, none⟩) m.ns.length m.ns.length] 85)); have HZ4 : Hid (Blk (w3.alloc (.cells #[.slice (some ⟨gm, 0, none⟩) m.ns.length m.ns.length] 85)) w3.heap.size 85 #[.slice (some ⟨gm, 0, none⟩) m.ns.length m.ns.length]) := Blk.new _ _ _; clear hbm hgm hb1; clear y0 y1 y2 y3 y4; obtain ⟨y0, y1, y2, y3, y4⟩ := HX4.out.five)
   | (go_at_call 85; refine (T1.out _ _ _ _ HB4.out HX4.out HMD4.out HZ4.out).mono ?_; rintro e w5 ⟨rfl, hb1⟩; have HB5 := Kh (HB4.out.trans (hb1.mono HB4.out.size)); have HX5 := Kh (HX4.out.below hb1 HX4.out.lt); have HMD5 := Kh (HMD4.out.below hb1 HMD4.out.lt); have HZ5 := Kh (HZ4.out.below hb1 HZ4.out.lt); clear hb1; clear y0 y1 y2 y3 y4; obtain ⟨y0, y1, y2, y3, y4⟩ := HX5.out.five)
   | (go_at_call 85; refine (T2.out _ _ _ _ HB5.out HX5.out HMD5.out HZ5.out).mono ?_; rintro e w6 ⟨rfl, hb1⟩; have HB6 := Kh (HB5.out.trans (hb1.mono HB5.out.size)); have HX6 := Kh (HX5.out.below hb1 HX5.out.lt); have HMD6 := Kh (HMD5.out.below hb1 HMD5.out.lt); have HZ6 := Kh (HZ5.out.below hb1 HZ5.out.lt); clear hb1; clear y0 y1 y2 y3 y4; obtain ⟨y0, y1, y2, y3, y4⟩ := HX6.out.five)
   | (go_at_call 90; have KB := Kh (HB6.out.alloc HB6.out.size (.cells #[.slice A3 m.bads.length c3, .slice A4 m.hols.length c4] 24)); have KX := Kh (HX6.out.alloc (.cells #[.slice A3 m.bads.length c3, .slice A4 m.hols.length c4] 24)); have KK := zD2 A3 A4 c3 c4 w6.heap.size m.bads m.hols _ (by exact HM.out.bads.below KB.out) (by exact HM.out.hols.below KB.out) HM.out.nil3 HM.out.nil4 HM.out.len.2.2.2.1 HM.out.len.2.2.2.2 (by exact Blk.new _ _ _); refine KK.mono ?_; clear KK; rintro e w7 ⟨AC, cC, rfl, hown, hb1⟩; rw [HLL.out] at hown ⊢; have HIA := Kh (IAt.of_own hown); clear hown; have HB7 := Kh (KB.out.trans (hb1.mono KB.out.size)); have HX7 := Kh (KX.out.below hb1 KX.out.lt); clear KB KX hb1; clear y0 y1 y2 y3 y4; obtain ⟨y0, y1, y2, y3, y4⟩ := HX7.out.five)
   | (go_at_call 89; refine (T3.out _ _ _ _ HB7.out HX7.out HIA.out).mono ?_; rintro e w8 ⟨rfl, hb1⟩; have HB8 := Kh (HB7.out.trans (hb1.mono HB7.out.size)); have HX8 := Kh (HX7.out.below hb1 HX7.out.lt); clear hb1; clear y0 y1 y2 y3 y4; obtain ⟨y0, y1, y2, y3, y4⟩ := HX8.out.five))
  go_ret
  exact ⟨zKv (Eq.symm (by simpa using HC5.out)), HB8.out⟩
 cases f36
 case true =>
  go_enter Tryz.func35, Tryz.ntmps35
  go_wp2_with (first
   | (go_at_call 82; refine (zIh A0 c0 m.ns _ _ _ _ _ (by exact HM.out.ns.below HB0.out) HM.out.len.1 HM.out.cap HM.out.names).mono ?_; rintro e w1 ⟨hs, hb1⟩; obtain rfl := hs.t HN.out; have HB1 := Kh (HB0.out.trans (hb1.mono HB0.out.size)); have HX1 := Kh (HX0.out.below hb1 HX0.out.lt); obtain ⟨y0, y1, y2, y3, y4⟩ := HX1.out.five; clear hb1 hs)
   | (go_at_call 83; refine (zPs A0 A1 A2 c0 c1 c2 m.ns m.ins m.nxs _ _ _ (by exact HM.out.ns.below HB1.out) (by exact HM.out.ins.below HB1.out) (by exact HM.out.nxs.below HB1.out) HM.out.len.1 HM.out.len.2.1 HM.out.len.2.2.1 HM.out.names HM.out.i64a HM.out.i64b).mono ?_; rintro e w2 ⟨hs, hb1⟩; obtain rfl := hs.f HT.out; have HB2 := Kh (HB1.out.trans (hb1.mono HB1.out.size)); have HX2 := Kh (HX1.out.below hb1 HX1.out.lt); clear y0 y1 y2 y3 y4; obtain ⟨y0, y1, y2, y3, y4⟩ := HX2.out.five; clear hb1 hs)
   | (go_at_call 84; refine (zH2 A0 c0 m.ns _ _ _ _ _ (by exact HM.out.ns.below HB2.out) hl60 HN.out).mono ?_; rintro e w3 ⟨gm, rfl, hgm, hbm, hb1⟩; have HB3 := Kh (HB2.out.trans (hb1.mono HB2.out.size)); have HX3 := Kh (HX2.out.below hb1 HX2.out.lt); have HMD := Kh hbm; have HB4 := Kh (HB3.out.alloc HB3.out.size (.cells #[.slice (some ⟨gm, 0, none⟩) m.ns.length m.ns.length] 85)); have HX4 := Kh (HX3.out.alloc (.cells #[.slice (some ⟨gm, 0, none⟩) m.ns.length m.ns.length] 85)); have HMD4 := Kh (HMD.out.alloc (.cells #[.slice (some ⟨gm, 0, none⟩) m.ns.length m.ns.length] 85)); have HZ4 : Hid (Blk (w3.alloc (.cells #[.slice (some ⟨gm, 0, none⟩) m.ns.length m.ns.length] 85)) w3.heap.size 85 #[.slice (some ⟨gm, 0, none⟩) m.ns.length m.ns.length]) := Blk.new _ _ _; clear hbm hgm hb1; clear y0 y1 y2 y3 y4; obtain ⟨y0, y1, y2, y3, y4⟩ := HX4.out.five)
   | (go_at_call 85; refine (T1.out _ _ _ _ HB4.out HX4.out HMD4.out HZ4.out).mono ?_; rintro e w5 ⟨rfl, hb1⟩; have HB5 := Kh (HB4.out.trans (hb1.mono HB4.out.size)); have HX5 := Kh (HX4.out.below hb1 HX4.out.lt); have HMD5 := Kh (HMD4.out.below hb1 HMD4.out.lt); have HZ5 := Kh (HZ4.out.below hb1 HZ4.out.lt); clear hb1; clear y0 y1 y2 y3 y4; obtain ⟨y0, y1, y2, y3, y4⟩ := HX5.out.five)
   | (go_at_call 85; refine (T2.out _ _ _ _ HB5.out HX5.out HMD5.out HZ5.out).mono ?_; rintro e w6 ⟨rfl, hb1⟩; have HB6 := Kh (HB5.out.trans (hb1.mono HB5.out.size)); have HX6 := Kh (HX5.out.below hb1 HX5.out.lt); have HMD6 := Kh (HMD5.out.below hb1 HMD5.out.lt); have HZ6 := Kh (HZ5.out.below hb1 HZ5.out.lt); clear hb1; clear y0 y1 y2 y3 y4; obtain ⟨y0, y1, y2, y3, y4⟩ := HX6.out.five)
   | (go_at_call 90; have KB := Kh (HB6.out.alloc HB6.out.size (.cells #[.slice A3 m.bads.length c3, .slice A4 m.hols.length c4] 24)); have KX := Kh (HX6.out.alloc (.cells #[.slice A3 m.bads.length c3, .slice A4 m.hols.length c4] 24)); have KK := zD2 A3 A4 c3 c4 w6.heap.size m.bads m.hols _ (by exact HM.out.bads.below KB.out) (by exact HM.out.hols.below KB.out) HM.out.nil3 HM.out.nil4 HM.out.len.2.2.2.1 HM.out.len.2.2.2.2 (by exact Blk.new _ _ _); refine KK.mono ?_; clear KK; rintro e w7 ⟨AC, cC, rfl, hown, hb1⟩; rw [HLL.out] at hown ⊢; have HIA := Kh (IAt.of_own hown); clear hown; have HB7 := Kh (KB.out.trans (hb1.mono KB.out.size)); have HX7 := Kh (KX.out.below hb1 KX.out.lt); clear KB KX hb1; clear y0 y1 y2 y3 y4; obtain ⟨y0, y1, y2, y3, y4⟩ := HX7.out.five)
   | (go_at_call 89; refine (T3.out _ _ _ _ HB7.out HX7.out HIA.out).mono ?_; rintro e w8 ⟨rfl, hb1⟩; have HB8 := Kh (HB7.out.trans (hb1.mono HB7.out.size)); have HX8 := Kh (HX7.out.below hb1 HX7.out.lt); clear hb1; clear y0 y1 y2 y3 y4; obtain ⟨y0, y1, y2, y3, y4⟩ := HX8.out.five)
   | ((with_reducible show Calls _ _ #[_, .int .i64 36] _ _); go_at_call 94; refine (B36.out _ HB8.out).mono ?_; rintro e w9 ⟨rfl, hb1⟩; have HB9 := Kh (HB8.out.trans (hb1.mono HB8.out.size)); have HX9 := Kh (HX8.out.below hb1 HX8.out.lt); clear hb1; clear y0 y1 y2 y3 y4; obtain ⟨y0, y1, y2, y3, y4⟩ := HX9.out.five))
  go_ret
  exact ⟨zKv (Eq.symm (by simpa using HC6'.out)), HB9.out⟩
 cases f35
 case true =>
  go_enter Tryz.func35, Tryz.ntmps35
  go_wp2_with (first
   | (go_at_call 82; refine (zIh A0 c0 m.ns _ _ _ _ _ (by exact HM.out.ns.below HB0.out) HM.out.len.1 HM.out.cap HM.out.names).mono ?_; rintro e w1 ⟨hs, hb1⟩; obtain rfl := hs.t HN.out; have HB1 := Kh (HB0.out.trans (hb1.mono HB0.out.size)); have HX1 := Kh (HX0.out.below hb1 HX0.out.lt); obtain ⟨y0, y1, y2, y3, y4⟩ := HX1.out.five; clear hb1 hs)
   | (go_at_call 83; refine (zPs A0 A1 A2 c0 c1 c2 m.ns m.ins m.nxs _ _ _ (by exact HM.out.ns.below HB1.out) (by exact HM.out.ins.below HB1.out) (by exact HM.out.nxs.below HB1.out) HM.out.len.1 HM.out.len.2.1 HM.out.len.2.2.1 HM.out.names HM.out.i64a HM.out.i64b).mono ?_; rintro e w2 ⟨hs, hb1⟩; obtain rfl := hs.f HT.out; have HB2 := Kh (HB1.out.trans (hb1.mono HB1.out.size)); have HX2 := Kh (HX1.out.below hb1 HX1.out.lt); clear y0 y1 y2 y3 y4; obtain ⟨y0, y1, y2, y3, y4⟩ := HX2.out.five; clear hb1 hs)
   | (go_at_call 84; refine (zH2 A0 c0 m.ns _ _ _ _ _ (by exact HM.out.ns.below HB2.out) hl60 HN.out).mono ?_; rintro e w3 ⟨gm, rfl, hgm, hbm, hb1⟩; have HB3 := Kh (HB2.out.trans (hb1.mono HB2.out.size)); have HX3 := Kh (HX2.out.below hb1 HX2.out.lt); have HMD := Kh hbm; have HB4 := Kh (HB3.out.alloc HB3.out.size (.cells #[.slice (some ⟨gm, 0, none⟩) m.ns.length m.ns.length] 85)); have HX4 := Kh (HX3.out.alloc (.cells #[.slice (some ⟨gm, 0, none⟩) m.ns.length m.ns.length] 85)); have HMD4 := Kh (HMD.out.alloc (.cells #[.slice (some ⟨gm, 0, none⟩) m.ns.length m.ns.length] 85)); have HZ4 : Hid (Blk (w3.alloc (.cells #[.slice (some ⟨gm, 0, none⟩) m.ns.length m.ns.length] 85)) w3.heap.size 85 #[.slice (some ⟨gm, 0, none⟩) m.ns.length m.ns.length]) := Blk.new _ _ _; clear hbm hgm hb1; clear y0 y1 y2 y3 y4; obtain ⟨y0, y1, y2, y3, y4⟩ := HX4.out.five)
   | (go_at_call 85; refine (T1.out _ _ _ _ HB4.out HX4.out HMD4.out HZ4.out).mono ?_; rintro e w5 ⟨rfl, hb1⟩; have HB5 := Kh (HB4.out.trans (hb1.mono HB4.out.size)); have HX5 := Kh (HX4.out.below hb1 HX4.out.lt); have HMD5 := Kh (HMD4.out.below hb1 HMD4.out.lt); have HZ5 := Kh (HZ4.out.below hb1 HZ4.out.lt); clear hb1; clear y0 y1 y2 y3 y4; obtain ⟨y0, y1, y2, y3, y4⟩ := HX5.out.five)
   | (go_at_call 85; refine (T2.out _ _ _ _ HB5.out HX5.out HMD5.out HZ5.out).mono ?_; rintro e w6 ⟨rfl, hb1⟩; have HB6 := Kh (HB5.out.trans (hb1.mono HB5.out.size)); have HX6 := Kh (HX5.out.below hb1 HX5.out.lt); have HMD6 := Kh (HMD5.out.below hb1 HMD5.out.lt); have HZ6 := Kh (HZ5.out.below hb1 HZ5.out.lt); clear hb1; clear y0 y1 y2 y3 y4; obtain ⟨y0, y1, y2, y3, y4⟩ := HX6.out.five)
   | (go_at_call 90; have KB := Kh (HB6.out.alloc HB6.out.size (.cells #[.slice A3 m.bads.length c3, .slice A4 m.hols.length c4] 24)); have KX := Kh (HX6.out.alloc (.cells #[.slice A3 m.bads.length c3, .slice A4 m.hols.length c4] 24)); have KK := zD2 A3 A4 c3 c4 w6.heap.size m.bads m.hols _ (by exact HM.out.bads.below KB.out) (by exact HM.out.hols.below KB.out) HM.out.nil3 HM.out.nil4 HM.out.len.2.2.2.1 HM.out.len.2.2.2.2 (by exact Blk.new _ _ _); refine KK.mono ?_; clear KK; rintro e w7 ⟨AC, cC, rfl, hown, hb1⟩; rw [HLL.out] at hown ⊢; have HIA := Kh (IAt.of_own hown); clear hown; have HB7 := Kh (KB.out.trans (hb1.mono KB.out.size)); have HX7 := Kh (KX.out.below hb1 KX.out.lt); clear KB KX hb1; clear y0 y1 y2 y3 y4; obtain ⟨y0, y1, y2, y3, y4⟩ := HX7.out.five)
   | (go_at_call 89; refine (T3.out _ _ _ _ HB7.out HX7.out HIA.out).mono ?_; rintro e w8 ⟨rfl, hb1⟩; have HB8 := Kh (HB7.out.trans (hb1.mono HB7.out.size)); have HX8 := Kh (HX7.out.below hb1 HX7.out.lt); clear hb1; clear y0 y1 y2 y3 y4; obtain ⟨y0, y1, y2, y3, y4⟩ := HX8.out.five)
   | ((with_reducible show Calls _ _ #[_, .int .i64 36] _ _); go_at_call 94; refine (B36.out _ HB8.out).mono ?_; rintro e w9 ⟨rfl, hb1⟩; have HB9 := Kh (HB8.out.trans (hb1.mono HB8.out.size)); have HX9 := Kh (HX8.out.below hb1 HX8.out.lt); clear hb1; clear y0 y1 y2 y3 y4; obtain ⟨y0, y1, y2, y3, y4⟩ := HX9.out.five)
   | ((with_reducible show Calls _ _ #[_, .int .i64 35] _ _); go_at_call 94; refine (B35.out _ HB9.out).mono ?_; rintro e w10 ⟨rfl, hb1⟩; have HB10 := Kh (HB9.out.trans (hb1.mono HB9.out.size)); have HX10 := Kh (HX9.out.below hb1 HX9.out.lt); clear hb1; clear y0 y1 y2 y3 y4; obtain ⟨y0, y1, y2, y3, y4⟩ := HX10.out.five))
  go_ret
  exact ⟨zKv (Eq.symm (by simpa using HC6'.out)), HB10.out⟩
 case false =>
  go_enter Tryz.func35, Tryz.ntmps35
  go_wp2_with (first
   | (go_at_call 82; refine (zIh A0 c0 m.ns _ _ _ _ _ (by exact HM.out.ns.below HB0.out) HM.out.len.1 HM.out.cap HM.out.names).mono ?_; rintro e w1 ⟨hs, hb1⟩; obtain rfl := hs.t HN.out; have HB1 := Kh (HB0.out.trans (hb1.mono HB0.out.size)); have HX1 := Kh (HX0.out.below hb1 HX0.out.lt); obtain ⟨y0, y1, y2, y3, y4⟩ := HX1.out.five; clear hb1 hs)
   | (go_at_call 83; refine (zPs A0 A1 A2 c0 c1 c2 m.ns m.ins m.nxs _ _ _ (by exact HM.out.ns.below HB1.out) (by exact HM.out.ins.below HB1.out) (by exact HM.out.nxs.below HB1.out) HM.out.len.1 HM.out.len.2.1 HM.out.len.2.2.1 HM.out.names HM.out.i64a HM.out.i64b).mono ?_; rintro e w2 ⟨hs, hb1⟩; obtain rfl := hs.f HT.out; have HB2 := Kh (HB1.out.trans (hb1.mono HB1.out.size)); have HX2 := Kh (HX1.out.below hb1 HX1.out.lt); clear y0 y1 y2 y3 y4; obtain ⟨y0, y1, y2, y3, y4⟩ := HX2.out.five; clear hb1 hs)
   | (go_at_call 84; refine (zH2 A0 c0 m.ns _ _ _ _ _ (by exact HM.out.ns.below HB2.out) hl60 HN.out).mono ?_; rintro e w3 ⟨gm, rfl, hgm, hbm, hb1⟩; have HB3 := Kh (HB2.out.trans (hb1.mono HB2.out.size)); have HX3 := Kh (HX2.out.below hb1 HX2.out.lt); have HMD := Kh hbm; have HB4 := Kh (HB3.out.alloc HB3.out.size (.cells #[.slice (some ⟨gm, 0, none⟩) m.ns.length m.ns.length] 85)); have HX4 := Kh (HX3.out.alloc (.cells #[.slice (some ⟨gm, 0, none⟩) m.ns.length m.ns.length] 85)); have HMD4 := Kh (HMD.out.alloc (.cells #[.slice (some ⟨gm, 0, none⟩) m.ns.length m.ns.length] 85)); have HZ4 : Hid (Blk (w3.alloc (.cells #[.slice (some ⟨gm, 0, none⟩) m.ns.length m.ns.length] 85)) w3.heap.size 85 #[.slice (some ⟨gm, 0, none⟩) m.ns.length m.ns.length]) := Blk.new _ _ _; clear hbm hgm hb1; clear y0 y1 y2 y3 y4; obtain ⟨y0, y1, y2, y3, y4⟩ := HX4.out.five)
   | (go_at_call 85; refine (T1.out _ _ _ _ HB4.out HX4.out HMD4.out HZ4.out).mono ?_; rintro e w5 ⟨rfl, hb1⟩; have HB5 := Kh (HB4.out.trans (hb1.mono HB4.out.size)); have HX5 := Kh (HX4.out.below hb1 HX4.out.lt); have HMD5 := Kh (HMD4.out.below hb1 HMD4.out.lt); have HZ5 := Kh (HZ4.out.below hb1 HZ4.out.lt); clear hb1; clear y0 y1 y2 y3 y4; obtain ⟨y0, y1, y2, y3, y4⟩ := HX5.out.five)
   | (go_at_call 85; refine (T2.out _ _ _ _ HB5.out HX5.out HMD5.out HZ5.out).mono ?_; rintro e w6 ⟨rfl, hb1⟩; have HB6 := Kh (HB5.out.trans (hb1.mono HB5.out.size)); have HX6 := Kh (HX5.out.below hb1 HX5.out.lt); have HMD6 := Kh (HMD5.out.below hb1 HMD5.out.lt); have HZ6 := Kh (HZ5.out.below hb1 HZ5.out.lt); clear hb1; clear y0 y1 y2 y3 y4; obtain ⟨y0, y1, y2, y3, y4⟩ := HX6.out.five)
   | (go_at_call 90; have KB := Kh (HB6.out.alloc HB6.out.size (.cells #[.slice A3 m.bads.length c3, .slice A4 m.hols.length c4] 24)); have KX := Kh (HX6.out.alloc (.cells #[.slice A3 m.bads.length c3, .slice A4 m.hols.length c4] 24)); have KK := zD2 A3 A4 c3 c4 w6.heap.size m.bads m.hols _ (by exact HM.out.bads.below KB.out) (by exact HM.out.hols.below KB.out) HM.out.nil3 HM.out.nil4 HM.out.len.2.2.2.1 HM.out.len.2.2.2.2 (by exact Blk.new _ _ _); refine KK.mono ?_; clear KK; rintro e w7 ⟨AC, cC, rfl, hown, hb1⟩; rw [HLL.out] at hown ⊢; have HIA := Kh (IAt.of_own hown); clear hown; have HB7 := Kh (KB.out.trans (hb1.mono KB.out.size)); have HX7 := Kh (KX.out.below hb1 KX.out.lt); clear KB KX hb1; clear y0 y1 y2 y3 y4; obtain ⟨y0, y1, y2, y3, y4⟩ := HX7.out.five)
   | (go_at_call 89; refine (T3.out _ _ _ _ HB7.out HX7.out HIA.out).mono ?_; rintro e w8 ⟨rfl, hb1⟩; have HB8 := Kh (HB7.out.trans (hb1.mono HB7.out.size)); have HX8 := Kh (HX7.out.below hb1 HX7.out.lt); clear hb1; clear y0 y1 y2 y3 y4; obtain ⟨y0, y1, y2, y3, y4⟩ := HX8.out.five)
   | ((with_reducible show Calls _ _ #[_, .int .i64 36] _ _); go_at_call 94; refine (B36.out _ HB8.out).mono ?_; rintro e w9 ⟨rfl, hb1⟩; have HB9 := Kh (HB8.out.trans (hb1.mono HB8.out.size)); have HX9 := Kh (HX8.out.below hb1 HX8.out.lt); clear hb1; clear y0 y1 y2 y3 y4; obtain ⟨y0, y1, y2, y3, y4⟩ := HX9.out.five)
   | ((with_reducible show Calls _ _ #[_, .int .i64 35] _ _); go_at_call 94; refine (B35.out _ HB9.out).mono ?_; rintro e w10 ⟨rfl, hb1⟩; have HB10 := Kh (HB9.out.trans (hb1.mono HB9.out.size)); have HX10 := Kh (HX9.out.below hb1 HX9.out.lt); clear hb1; clear y0 y1 y2 y3 y4; obtain ⟨y0, y1, y2, y3, y4⟩ := HX10.out.five))
  go_ret
  exact ⟨zKv (Eq.symm (by simpa using HC0'.out)), HB10.out⟩
end Go.Proofs.YtmolbnghobfmoaaGreat
