/- Part 19 of what the row Row28 rests on: G17 F15 F16 F17. -/
import Derived.Test.YtmolbnghobfmoaaGreatP2
import Derived.Test.YtmolbnghobfmoaaGreatP17
import Derived.Test.YtmolbnghobfmoaaGreatP18
set_option maxRecDepth 100000
set_option maxHeartbeats 16000000
set_option linter.unusedSimpArgs false
set_option linter.unusedVariables false
namespace Go.Proofs.YtmolbnghobfmoaaGreat
open Go.RowKit
open Classical in
theorem zM1 (A0 A1 A2 A3 A4 : Option Addr) (c0 c1 c2 c3 c4 : Nat) (m : Mo) (w : World) (hM : MoAt w A0 A1 A2 A3 A4 c0 c3 c4 m) :
    Calls Tryz.prog 17 #[.agg #[.slice A0 m.ns.length c0, .slice A1 m.ins.length c1, .slice A2 m.nxs.length c2, .slice A3 m.bads.length c3, .slice A4 m.hols.length c4]] w fun e w' => e = .returned (.int .i64 (zHv m)) ∧ Below w.heap.size w w' := by
 have HM := Kh hM; clear hM; have HB := bx w #[.slice A0 m.ns.length c0, .slice A1 m.ins.length c1, .slice A2 m.nxs.length c2, .slice A3 m.bads.length c3, .slice A4 m.hols.length c4] 31; have HX := nx w #[.slice A0 m.ns.length c0, .slice A1 m.ins.length c1, .slice A2 m.nxs.length c2, .slice A3 m.bads.length c3, .slice A4 m.hols.length c4] 31; obtain ⟨m0, m1, m2, m3, m4⟩ := HX.out.five
 by_cases q0 : m.ns.length ≤ 60
 case neg =>
  have HC : Hid (zHv m = 1) := Kh (by unfold zHv; rw [if_pos (by omega)])
  have d0 : decide ((60 : Int) < (m.ns.length : Int)) = true := decide_eq_true (by omega)
  have d0' : decide (60 < m.ns.length) = true := decide_eq_true (by omega)
  clear q0
  go_enter Tryz.func17, Tryz.ntmps17
  go_wp2_with fail
  go_ret
  exact ⟨zKv HC.out.symm, HB.out⟩
 by_cases q1 : m.ins.length ≤ 60
 case neg =>
  have HC : Hid (zHv m = 1) := Kh (by unfold zHv; rw [if_pos (by omega)])
  have d0 : decide ((60 : Int) < (m.ns.length : Int)) = false := decide_eq_false (by omega)
  have d0' : decide (60 < m.ns.length) = false := decide_eq_false (by omega)
  have d1 : decide ((60 : Int) < (m.ins.length : Int)) = true := decide_eq_true (by omega)
  have d1' : decide (60 < m.ins.length) = true := decide_eq_true (by omega)
  clear q0 q1
  go_enter Tryz.func17, Tryz.ntmps17
  go_wp2_with fail
  go_ret
  exact ⟨zKv HC.out.symm, HB.out⟩
 by_cases q2 : m.nxs.length ≤ 60
 case neg =>
  have HC : Hid (zHv m = 1) := Kh (by unfold zHv; rw [if_pos (by omega)])
  have d0 : decide ((60 : Int) < (m.ns.length : Int)) = false := decide_eq_false (by omega)
  have d0' : decide (60 < m.ns.length) = false := decide_eq_false (by omega)
  have d1 : decide ((60 : Int) < (m.ins.length : Int)) = false := decide_eq_false (by omega)
  have d1' : decide (60 < m.ins.length) = false := decide_eq_false (by omega)
  have d2 : decide ((60 : Int) < (m.nxs.length : Int)) = true := decide_eq_true (by omega)
  have d2' : decide (60 < m.nxs.length) = true := decide_eq_true (by omega)
  clear q0 q1 q2
  go_enter Tryz.func17, Tryz.ntmps17
  go_wp2_with fail
  go_ret
  exact ⟨zKv HC.out.symm, HB.out⟩
 by_cases q3 : m.bads.length ≤ 4
 case neg =>
  have HC : Hid (zHv m = 1) := Kh (by unfold zHv; rw [if_pos (by omega)])
  have d0 : decide ((60 : Int) < (m.ns.length : Int)) = false := decide_eq_false (by omega)
  have d0' : decide (60 < m.ns.length) = false := decide_eq_false (by omega)
  have d1 : decide ((60 : Int) < (m.ins.length : Int)) = false := decide_eq_false (by omega)
  have d1' : decide (60 < m.ins.length) = false := decide_eq_false (by omega)
  have d2 : decide ((60 : Int) < (m.nxs.length : Int)) = false := decide_eq_false (by omega)
  have d2' : decide (60 < m.nxs.length) = false := decide_eq_false (by omega)
  have d3 : decide ((4 : Int) < (m.bads.length : Int)) = true := decide_eq_true (by omega)
  have d3' : decide (4 < m.bads.length) = true := decide_eq_true (by omega)
  clear q0 q1 q2 q3
  go_enter Tryz.func17, Tryz.ntmps17
  go_wp2_with fail
  go_ret
  exact ⟨zKv HC.out.symm, HB.out⟩
 by_cases q4 : m.hols.length ≤ 4
 case neg =>
  have HC : Hid (zHv m = 1) := Kh (by unfold zHv; rw [if_pos (by omega)])
  have d0 : decide ((60 : Int) < (m.ns.length : Int)) = false := decide_eq_false (by omega)
  have d0' : decide (60 < m.ns.length) = false := decide_eq_false (by omega)
  have d1 : decide ((60 : Int) < (m.ins.length : Int)) = false := decide_eq_false (by omega)
  have d1' : decide (60 < m.ins.length) = false := decide_eq_false (by omega)
  have d2 : decide ((60 : Int) < (m.nxs.length : Int)) = false := decide_eq_false (by omega)
  have d2' : decide (60 < m.nxs.length) = false := decide_eq_false (by omega)
  have d3 : decide ((4 : Int) < (m.bads.length : Int)) = false := decide_eq_false (by omega)
  have d3' : decide (4 < m.bads.length) = false := decide_eq_false (by omega)
  have d4 : decide ((4 : Int) < (m.hols.length : Int)) = true := decide_eq_true (by omega)
  have d4' : decide (4 < m.hols.length) = true := decide_eq_true (by omega)
  clear q0 q1 q2 q3 q4
  go_enter Tryz.func17, Tryz.ntmps17
  go_wp2_with fail
  go_ret
  exact ⟨zKv HC.out.symm, HB.out⟩
 have d0 : decide ((60 : Int) < (m.ns.length : Int)) = false := decide_eq_false (by omega)
 have d0' : decide (60 < m.ns.length) = false := decide_eq_false (by omega)
 have d1 : decide ((60 : Int) < (m.ins.length : Int)) = false := decide_eq_false (by omega)
 have d1' : decide (60 < m.ins.length) = false := decide_eq_false (by omega)
 have d2 : decide ((60 : Int) < (m.nxs.length : Int)) = false := decide_eq_false (by omega)
 have d2' : decide (60 < m.nxs.length) = false := decide_eq_false (by omega)
 have d3 : decide ((4 : Int) < (m.bads.length : Int)) = false := decide_eq_false (by omega)
 have d3' : decide (4 < m.bads.length) = false := decide_eq_false (by omega)
 have d4 : decide ((4 : Int) < (m.hols.length : Int)) = false := decide_eq_false (by omega)
 have d4' : decide (4 < m.hols.length) = false := decide_eq_false (by omega)
 have hl60 : m.ns.length ≤ 60 := q0; have hc : zHv m = zHv m := rfl; conv at hc => rhs; unfold zHv
 rw [if_neg (by omega)] at hc
 have HC := Kh hc; clear hc; clear q0 q1 q2 q3 q4; have TN := Kh (fun W (h : Below w.heap.size w W) => zG7 A0 c0 m.ns (.slice A1 m.ins.length c1) (.slice A2 m.nxs.length c2) (.slice A3 m.bads.length c3) (.slice A4 m.hols.length c4) W (HM.out.ns.below h) HM.out.len.1 HM.out.cap HM.out.names)
 have TT := Kh (fun W (h : Below w.heap.size w W) => zGn A0 A1 A2 c0 c1 c2 m.ns m.ins m.nxs (.slice A3 m.bads.length c3) (.slice A4 m.hols.length c4) W (HM.out.ns.below h) (HM.out.ins.below h) (HM.out.nxs.below h) HM.out.len.1 HM.out.len.2.1 HM.out.len.2.2.1)
 have TB := Kh (fun (hok : zAb m.ns) W (h : Below w.heap.size w W) => zG1 A0 A1 A2 c0 c1 c2 m.ns m.ins m.nxs (.slice A3 m.bads.length c3) (.slice A4 m.hols.length c4) W (HM.out.ns.below h) hl60 hok (HM.out.ins.below h) (HM.out.nxs.below h) HM.out.len.2.1 HM.out.len.2.2.1)
 have TP := Kh (fun W (h : Below w.heap.size w W) => zG9 A0 A3 c0 c3 m.ns m.bads (.slice A1 m.ins.length c1) (.slice A2 m.nxs.length c2) (.slice A3 m.bads.length c3) (.slice A4 m.hols.length c4) W (HM.out.ns.below h) hl60 (HM.out.bads.below h) HM.out.len.2.2.2.1)
 have TQ := Kh (fun W (h : Below w.heap.size w W) => zG9 A0 A4 c0 c4 m.ns m.hols (.slice A1 m.ins.length c1) (.slice A2 m.nxs.length c2) (.slice A3 m.bads.length c3) (.slice A4 m.hols.length c4) W (HM.out.ns.below h) hl60 (HM.out.hols.below h) HM.out.len.2.2.2.2)
 have T6 := Kh (fun W (h : Below w.heap.size w W) => zG0 A0 c0 m.ns (.slice A1 m.ins.length c1) (.slice A2 m.nxs.length c2) (.slice A3 m.bads.length c3) (.slice A4 m.hols.length c4) 36 W (HM.out.ns.below h) hl60)
 have T5 := Kh (fun W (h : Below w.heap.size w W) => zG0 A0 c0 m.ns (.slice A1 m.ins.length c1) (.slice A2 m.nxs.length c2) (.slice A3 m.bads.length c3) (.slice A4 m.hols.length c4) 35 W (HM.out.ns.below h) hl60)
 by_cases hp : zAb m.ns
 case neg =>
  have HN := Kh hp; have HC' := Kh (HC.out.trans (if_pos hp)); clear hp
  go_enter Tryz.func17, Tryz.ntmps17
  go_wp2_with (first | (go_at_call 55; refine (TN.out _ HB.out).mono ?_; rintro e wv ⟨hs, hb⟩; obtain rfl := hs.f HN.out; clear hs; have HX := Kh (HX.out.below hb HX.out.lt); have HB := Kh (HB.out.trans (hb.mono HB.out.size)); clear hb; clear m0 m1 m2 m3 m4; obtain ⟨m0, m1, m2, m3, m4⟩ := HX.out.five))
  go_ret
  exact ⟨zKv HC'.out.symm, HB.out⟩
 have HN := Kh hp; have HC := Kh (HC.out.trans (if_neg (fun h => h hp)))
 clear hp
 by_cases hp : zI5 m.ns ∨ zOk m.ins ∨ zOk m.nxs
 case pos =>
  have HT := Kh hp; have HC' := Kh (HC.out.trans (if_pos hp)); clear hp
  go_enter Tryz.func17, Tryz.ntmps17
  go_wp2_with (first | (go_at_call 55; refine (TN.out _ HB.out).mono ?_; rintro e wv ⟨hs, hb⟩; obtain rfl := hs.t HN.out; clear hs; have HX := Kh (HX.out.below hb HX.out.lt); have HB := Kh (HB.out.trans (hb.mono HB.out.size)); clear hb; clear m0 m1 m2 m3 m4; obtain ⟨m0, m1, m2, m3, m4⟩ := HX.out.five) | (go_at_call 56; refine (TT.out _ HB.out).mono ?_; rintro e wv ⟨hs, hb⟩; obtain rfl := hs.t HT.out; clear hs; have HX := Kh (HX.out.below hb HX.out.lt); have HB := Kh (HB.out.trans (hb.mono HB.out.size)); clear hb; clear m0 m1 m2 m3 m4; obtain ⟨m0, m1, m2, m3, m4⟩ := HX.out.five))
  go_ret
  exact ⟨zKv HC'.out.symm, HB.out⟩
 have HT := Kh hp; have HC := Kh (HC.out.trans (if_neg hp)); clear hp
 by_cases hp : (∀ b ∈ m.ins, zBe m.ns true b) ∧ ∀ b ∈ m.nxs, zBe m.ns false b
 case neg =>
  have HBd := Kh hp; have HC' := Kh (HC.out.trans (if_pos hp)); clear hp
  go_enter Tryz.func17, Tryz.ntmps17
  go_wp2_with (first | (go_at_call 55; refine (TN.out _ HB.out).mono ?_; rintro e wv ⟨hs, hb⟩; obtain rfl := hs.t HN.out; clear hs; have HX := Kh (HX.out.below hb HX.out.lt); have HB := Kh (HB.out.trans (hb.mono HB.out.size)); clear hb; clear m0 m1 m2 m3 m4; obtain ⟨m0, m1, m2, m3, m4⟩ := HX.out.five) | (go_at_call 56; refine (TT.out _ HB.out).mono ?_; rintro e wv ⟨hs, hb⟩; obtain rfl := hs.f HT.out; clear hs; have HX := Kh (HX.out.below hb HX.out.lt); have HB := Kh (HB.out.trans (hb.mono HB.out.size)); clear hb; clear m0 m1 m2 m3 m4; obtain ⟨m0, m1, m2, m3, m4⟩ := HX.out.five) | (go_at_call 57; refine (TB.out HN.out _ HB.out).mono ?_; rintro e wv ⟨hs, hb⟩; obtain rfl := hs.f HBd.out; clear hs; have HX := Kh (HX.out.below hb HX.out.lt); have HB := Kh (HB.out.trans (hb.mono HB.out.size)); clear hb; clear m0 m1 m2 m3 m4; obtain ⟨m0, m1, m2, m3, m4⟩ := HX.out.five))
  go_ret
  exact ⟨zKv HC'.out.symm, HB.out⟩
 have HBd := Kh hp; have HC := Kh (HC.out.trans (if_neg (fun h => h hp)))
 clear hp
 by_cases hp : ∀ p ∈ m.bads, zKi m.ns p
 case neg =>
  have HP := Kh hp; have HC' := Kh (HC.out.trans (if_pos (fun h => hp h.1)))
  clear hp
  go_enter Tryz.func17, Tryz.ntmps17
  go_wp2_with (first | (go_at_call 55; refine (TN.out _ HB.out).mono ?_; rintro e wv ⟨hs, hb⟩; obtain rfl := hs.t HN.out; clear hs; have HX := Kh (HX.out.below hb HX.out.lt); have HB := Kh (HB.out.trans (hb.mono HB.out.size)); clear hb; clear m0 m1 m2 m3 m4; obtain ⟨m0, m1, m2, m3, m4⟩ := HX.out.five) | (go_at_call 56; refine (TT.out _ HB.out).mono ?_; rintro e wv ⟨hs, hb⟩; obtain rfl := hs.f HT.out; clear hs; have HX := Kh (HX.out.below hb HX.out.lt); have HB := Kh (HB.out.trans (hb.mono HB.out.size)); clear hb; clear m0 m1 m2 m3 m4; obtain ⟨m0, m1, m2, m3, m4⟩ := HX.out.five) | (go_at_call 57; refine (TB.out HN.out _ HB.out).mono ?_; rintro e wv ⟨hs, hb⟩; obtain rfl := hs.t HBd.out; clear hs; have HX := Kh (HX.out.below hb HX.out.lt); have HB := Kh (HB.out.trans (hb.mono HB.out.size)); clear hb; clear m0 m1 m2 m3 m4; obtain ⟨m0, m1, m2, m3, m4⟩ := HX.out.five) | ((with_reducible show Calls _ _ #[_, .slice A3 _ _] _ _); go_at_call 58; refine (TP.out _ HB.out).mono ?_; rintro e wv ⟨hs, hb⟩; obtain rfl := hs.f HP.out; clear hs; have HX := Kh (HX.out.below hb HX.out.lt); have HB := Kh (HB.out.trans (hb.mono HB.out.size)); clear hb; clear m0 m1 m2 m3 m4; obtain ⟨m0, m1, m2, m3, m4⟩ := HX.out.five))
  go_ret
  exact ⟨zKv HC'.out.symm, HB.out⟩
 have HP := Kh hp; clear hp
 by_cases hp : ∀ p ∈ m.hols, zKi m.ns p
 case neg =>
  have HQ := Kh hp; have HC' := Kh (HC.out.trans (if_pos (fun h => hp h.2)))
  clear hp
  go_enter Tryz.func17, Tryz.ntmps17
  go_wp2_with (first | (go_at_call 55; refine (TN.out _ HB.out).mono ?_; rintro e wv ⟨hs, hb⟩; obtain rfl := hs.t HN.out; clear hs; have HX := Kh (HX.out.below hb HX.out.lt); have HB := Kh (HB.out.trans (hb.mono HB.out.size)); clear hb; clear m0 m1 m2 m3 m4; obtain ⟨m0, m1, m2, m3, m4⟩ := HX.out.five) | (go_at_call 56; refine (TT.out _ HB.out).mono ?_; rintro e wv ⟨hs, hb⟩; obtain rfl := hs.f HT.out; clear hs; have HX := Kh (HX.out.below hb HX.out.lt); have HB := Kh (HB.out.trans (hb.mono HB.out.size)); clear hb; clear m0 m1 m2 m3 m4; obtain ⟨m0, m1, m2, m3, m4⟩ := HX.out.five) | (go_at_call 57; refine (TB.out HN.out _ HB.out).mono ?_; rintro e wv ⟨hs, hb⟩; obtain rfl := hs.t HBd.out; clear hs; have HX := Kh (HX.out.below hb HX.out.lt); have HB := Kh (HB.out.trans (hb.mono HB.out.size)); clear hb; clear m0 m1 m2 m3 m4; obtain ⟨m0, m1, m2, m3, m4⟩ := HX.out.five) | ((with_reducible show Calls _ _ #[_, .slice A3 _ _] _ _); go_at_call 58; refine (TP.out _ HB.out).mono ?_; rintro e wv ⟨hs, hb⟩; obtain rfl := hs.t HP.out; clear hs; have HX := Kh (HX.out.below hb HX.out.lt); have HB := Kh (HB.out.trans (hb.mono HB.out.size)); clear hb; clear m0 m1 m2 m3 m4; obtain ⟨m0, m1, m2, m3, m4⟩ := HX.out.five) | ((with_reducible show Calls _ _ #[_, .slice A4 _ _] _ _); go_at_call 58; refine (TQ.out _ HB.out).mono ?_; rintro e wv ⟨hs, hb⟩; obtain rfl := hs.f HQ.out; clear hs; have HX := Kh (HX.out.below hb HX.out.lt); have HB := Kh (HB.out.trans (hb.mono HB.out.size)); clear hb; clear m0 m1 m2 m3 m4; obtain ⟨m0, m1, m2, m3, m4⟩ := HX.out.five))
  go_ret
  exact ⟨zKv HC'.out.symm, HB.out⟩
 have HQ := Kh hp; have HC := Kh (HC.out.trans (if_neg (fun h => h ⟨HP.out, hp⟩)))
 clear hp; have hb6 := zBl m.ns 36 m.ns.length (Nat.le_refl _); have hb5 := zBl m.ns 35 m.ns.length (Nat.le_refl _); rw [List.take_length] at hb6 hb5; generalize zBk m.ns 36 = n6 at *; generalize zBk m.ns 35 = n5 at *
 by_cases h6 : n6 > 8
 case pos =>
  have HC' := Kh (HC.out.trans (if_pos (Or.inl h6))); have e6 : decide (8 < n6) = true := decide_eq_true (by omega)
  clear h6 hb6 hb5
  go_enter Tryz.func17, Tryz.ntmps17
  go_wp2_with (first | (go_at_call 55; refine (TN.out _ HB.out).mono ?_; rintro e wv ⟨hs, hb⟩; obtain rfl := hs.t HN.out; clear hs; have HX := Kh (HX.out.below hb HX.out.lt); have HB := Kh (HB.out.trans (hb.mono HB.out.size)); clear hb; clear m0 m1 m2 m3 m4; obtain ⟨m0, m1, m2, m3, m4⟩ := HX.out.five) | (go_at_call 56; refine (TT.out _ HB.out).mono ?_; rintro e wv ⟨hs, hb⟩; obtain rfl := hs.f HT.out; clear hs; have HX := Kh (HX.out.below hb HX.out.lt); have HB := Kh (HB.out.trans (hb.mono HB.out.size)); clear hb; clear m0 m1 m2 m3 m4; obtain ⟨m0, m1, m2, m3, m4⟩ := HX.out.five) | (go_at_call 57; refine (TB.out HN.out _ HB.out).mono ?_; rintro e wv ⟨hs, hb⟩; obtain rfl := hs.t HBd.out; clear hs; have HX := Kh (HX.out.below hb HX.out.lt); have HB := Kh (HB.out.trans (hb.mono HB.out.size)); clear hb; clear m0 m1 m2 m3 m4; obtain ⟨m0, m1, m2, m3, m4⟩ := HX.out.five) | ((with_reducible show Calls _ _ #[_, .slice A3 _ _] _ _); go_at_call 58; refine (TP.out _ HB.out).mono ?_; rintro e wv ⟨hs, hb⟩; obtain rfl := hs.t HP.out; clear hs; have HX := Kh (HX.out.below hb HX.out.lt); have HB := Kh (HB.out.trans (hb.mono HB.out.size)); clear hb; clear m0 m1 m2 m3 m4; obtain ⟨m0, m1, m2, m3, m4⟩ := HX.out.five) | ((with_reducible show Calls _ _ #[_, .slice A4 _ _] _ _); go_at_call 58; refine (TQ.out _ HB.out).mono ?_; rintro e wv ⟨hs, hb⟩; obtain rfl := hs.t HQ.out; clear hs; have HX := Kh (HX.out.below hb HX.out.lt); have HB := Kh (HB.out.trans (hb.mono HB.out.size)); clear hb; clear m0 m1 m2 m3 m4; obtain ⟨m0, m1, m2, m3, m4⟩ := HX.out.five) | ((with_reducible show Calls _ _ #[_, .int .i64 36] _ _); go_at_call 59; refine (T6.out _ HB.out).mono ?_; rintro e wv ⟨rfl, hb⟩; have HX := Kh (HX.out.below hb HX.out.lt); have HB := Kh (HB.out.trans (hb.mono HB.out.size)); clear hb; clear m0 m1 m2 m3 m4; obtain ⟨m0, m1, m2, m3, m4⟩ := HX.out.five))
  go_ret
  exact ⟨zKv HC'.out.symm, HB.out⟩
 have e6 : decide (8 < n6) = false := decide_eq_false (by omega)
 by_cases h5 : n5 > 5
 case pos =>
  have HC' := Kh (HC.out.trans (if_pos (Or.inr h5))); have e5 : decide (5 < n5) = true := decide_eq_true (by omega)
  clear h6 h5 hb6 hb5
  go_enter Tryz.func17, Tryz.ntmps17
  go_wp2_with (first | (go_at_call 55; refine (TN.out _ HB.out).mono ?_; rintro e wv ⟨hs, hb⟩; obtain rfl := hs.t HN.out; clear hs; have HX := Kh (HX.out.below hb HX.out.lt); have HB := Kh (HB.out.trans (hb.mono HB.out.size)); clear hb; clear m0 m1 m2 m3 m4; obtain ⟨m0, m1, m2, m3, m4⟩ := HX.out.five) | (go_at_call 56; refine (TT.out _ HB.out).mono ?_; rintro e wv ⟨hs, hb⟩; obtain rfl := hs.f HT.out; clear hs; have HX := Kh (HX.out.below hb HX.out.lt); have HB := Kh (HB.out.trans (hb.mono HB.out.size)); clear hb; clear m0 m1 m2 m3 m4; obtain ⟨m0, m1, m2, m3, m4⟩ := HX.out.five) | (go_at_call 57; refine (TB.out HN.out _ HB.out).mono ?_; rintro e wv ⟨hs, hb⟩; obtain rfl := hs.t HBd.out; clear hs; have HX := Kh (HX.out.below hb HX.out.lt); have HB := Kh (HB.out.trans (hb.mono HB.out.size)); clear hb; clear m0 m1 m2 m3 m4; obtain ⟨m0, m1, m2, m3, m4⟩ := HX.out.five) | ((with_reducible show Calls _ _ #[_, .slice A3 _ _] _ _); go_at_call 58; refine (TP.out _ HB.out).mono ?_; rintro e wv ⟨hs, hb⟩; obtain rfl := hs.t HP.out; clear hs; have HX := Kh (HX.out.below hb HX.out.lt); have HB := Kh (HB.out.trans (hb.mono HB.out.size)); clear hb; clear m0 m1 m2 m3 m4; obtain ⟨m0, m1, m2, m3, m4⟩ := HX.out.five) | ((with_reducible show Calls _ _ #[_, .slice A4 _ _] _ _); go_at_call 58; refine (TQ.out _ HB.out).mono ?_; rintro e wv ⟨hs, hb⟩; obtain rfl := hs.t HQ.out; clear hs; have HX := Kh (HX.out.below hb HX.out.lt); have HB := Kh (HB.out.trans (hb.mono HB.out.size)); clear hb; clear m0 m1 m2 m3 m4; obtain ⟨m0, m1, m2, m3, m4⟩ := HX.out.five) | ((with_reducible show Calls _ _ #[_, .int .i64 36] _ _); go_at_call 59; refine (T6.out _ HB.out).mono ?_; rintro e wv ⟨rfl, hb⟩; have HX := Kh (HX.out.below hb HX.out.lt); have HB := Kh (HB.out.trans (hb.mono HB.out.size)); clear hb; clear m0 m1 m2 m3 m4; obtain ⟨m0, m1, m2, m3, m4⟩ := HX.out.five) | ((with_reducible show Calls _ _ #[_, .int .i64 35] _ _); go_at_call 59; refine (T5.out _ HB.out).mono ?_; rintro e wv ⟨rfl, hb⟩; have HX := Kh (HX.out.below hb HX.out.lt); have HB := Kh (HB.out.trans (hb.mono HB.out.size)); clear hb; clear m0 m1 m2 m3 m4; obtain ⟨m0, m1, m2, m3, m4⟩ := HX.out.five))
  go_ret
  exact ⟨zKv HC'.out.symm, HB.out⟩
 have e5 : decide (5 < n5) = false := decide_eq_false (by omega)
 have HC' := Kh (HC.out.trans (if_neg (show ¬ (n6 > 8 ∨ n5 > 5) by omega)))
 clear h6 h5 hb6 hb5
 go_enter Tryz.func17, Tryz.ntmps17
 go_wp2_with (first | (go_at_call 55; refine (TN.out _ HB.out).mono ?_; rintro e wv ⟨hs, hb⟩; obtain rfl := hs.t HN.out; clear hs; have HX := Kh (HX.out.below hb HX.out.lt); have HB := Kh (HB.out.trans (hb.mono HB.out.size)); clear hb; clear m0 m1 m2 m3 m4; obtain ⟨m0, m1, m2, m3, m4⟩ := HX.out.five) | (go_at_call 56; refine (TT.out _ HB.out).mono ?_; rintro e wv ⟨hs, hb⟩; obtain rfl := hs.f HT.out; clear hs; have HX := Kh (HX.out.below hb HX.out.lt); have HB := Kh (HB.out.trans (hb.mono HB.out.size)); clear hb; clear m0 m1 m2 m3 m4; obtain ⟨m0, m1, m2, m3, m4⟩ := HX.out.five) | (go_at_call 57; refine (TB.out HN.out _ HB.out).mono ?_; rintro e wv ⟨hs, hb⟩; obtain rfl := hs.t HBd.out; clear hs; have HX := Kh (HX.out.below hb HX.out.lt); have HB := Kh (HB.out.trans (hb.mono HB.out.size)); clear hb; clear m0 m1 m2 m3 m4; obtain ⟨m0, m1, m2, m3, m4⟩ := HX.out.five) | ((with_reducible show Calls _ _ #[_, .slice A3 _ _] _ _); go_at_call 58; refine (TP.out _ HB.out).mono ?_; rintro e wv ⟨hs, hb⟩; obtain rfl := hs.t HP.out; clear hs; have HX := Kh (HX.out.below hb HX.out.lt); have HB := Kh (HB.out.trans (hb.mono HB.out.size)); clear hb; clear m0 m1 m2 m3 m4; obtain ⟨m0, m1, m2, m3, m4⟩ := HX.out.five) | ((with_reducible show Calls _ _ #[_, .slice A4 _ _] _ _); go_at_call 58; refine (TQ.out _ HB.out).mono ?_; rintro e wv ⟨hs, hb⟩; obtain rfl := hs.t HQ.out; clear hs; have HX := Kh (HX.out.below hb HX.out.lt); have HB := Kh (HB.out.trans (hb.mono HB.out.size)); clear hb; clear m0 m1 m2 m3 m4; obtain ⟨m0, m1, m2, m3, m4⟩ := HX.out.five) | ((with_reducible show Calls _ _ #[_, .int .i64 36] _ _); go_at_call 59; refine (T6.out _ HB.out).mono ?_; rintro e wv ⟨rfl, hb⟩; have HX := Kh (HX.out.below hb HX.out.lt); have HB := Kh (HB.out.trans (hb.mono HB.out.size)); clear hb; clear m0 m1 m2 m3 m4; obtain ⟨m0, m1, m2, m3, m4⟩ := HX.out.five) | ((with_reducible show Calls _ _ #[_, .int .i64 35] _ _); go_at_call 59; refine (T5.out _ HB.out).mono ?_; rintro e wv ⟨rfl, hb⟩; have HX := Kh (HX.out.below hb HX.out.lt); have HB := Kh (HB.out.trans (hb.mono HB.out.size)); clear hb; clear m0 m1 m2 m3 m4; obtain ⟨m0, m1, m2, m3, m4⟩ := HX.out.five))
 go_ret
 exact ⟨zKv HC'.out.symm, HB.out⟩
theorem zHp {x : Nat} (hx : x ≤ 62) {M : Int} (hM : ((2 ^ x : Nat) : Int) - 1 = M) (W : World) : Calls Tryz.prog 173 #[.int .i64 (x : Int)] W fun e w' => e = .returned (.int .i64 M) ∧ W = w' := by
 subst hM; exact zHo x hx W
theorem or_turn {w a r : Nat} (ha : a < 2 ^ w) (hr : r ≤ w) : (a * 2 ^ r ||| a / 2 ^ (w - r)) % 2 ^ w = zL0 w a r := by
 have hy : a / 2 ^ (w - r) < 2 ^ r := by
  rw [Nat.div_lt_iff_lt_mul (Nat.two_pow_pos _), ← Nat.pow_add, show r + (w - r) = w by omega]; exact ha
 rw [Nat.mul_comm a, ← Nat.two_pow_add_eq_or_of_lt hy, show (2 : Nat) ^ w = 2 ^ r * 2 ^ (w - r) by rw [← Nat.pow_add]; congr 1; omega, Nat.mod_mul, Nat.mul_add_mod, Nat.mod_eq_of_lt hy,
  Nat.mul_add_div (Nat.two_pow_pos r), Nat.div_eq_of_lt hy, Nat.add_zero]
 unfold zL0; rw [Nat.mul_comm (a % 2 ^ (w - r)), Nat.add_comm]
theorem zPj (w x : Nat) : toW w (x : Int) = x % 2 ^ w := by
 have := zPh w (x : Int); rw [← Int.natCast_emod] at this
 exact Int.ofNat_inj.1 this
theorem one_is (k w a : Nat) (hk : 1 ≤ k ∧ k ≤ 5) (hw : 1 ≤ w ∧ w ≤ 16) (ha : a < 2 ^ w) (W : World) :
 Calls Tryz.prog 175 #[.int .i64 (k : Int), .int .i64 (w : Int), .int .i64 (a : Int)] W fun e w' => e = .returned (.tuple #[.int .i64 (zIx k w a : Int), .int .i64 (zIw k w : Int)]) ∧ W = w' := by
 have h16 := zKc hw.2; have hp := Nat.two_pow_pos w; obtain ⟨M, hM⟩ : ∃ M : Int, ((2 ^ w : Nat) : Int) - 1 = M := ⟨_, rfl⟩
 have T := Kh (zHp (by omega : w ≤ 62) hM)
 rcases (show k = 1 ∨ k = 2 ∨ k = 3 ∨ k = 4 ∨ k = 5 by omega) with rfl | rfl | rfl | rfl | rfl
 · have e0 : IntKind.i64.wrap (M - (a : Int)) = (zIx 1 w a : Int) := by rw [zRa (by omega) (by omega)]; show _ = ((2 ^ w - 1 - a : Nat) : Int); omega
   go_enter Tryz.func175, Tryz.ntmps175
   go_wp2_with (go_at_call 173; refine (T.out _).mono ?_; rintro e w1 ⟨rfl, rfl⟩)
   exact bodyPost_ret (v := .tuple #[.int .i64 (zIx 1 w a : Int), .int .i64 (zIw 1 w : Int)]) (by simp [results, Tryz.results175, go_sem, zIw]) rfl ⟨rfl, rfl⟩
 · have e0 : IntKind.i64.wrap (-(a : Int)) = -(a : Int) := zRa (by omega) (by omega)
   have e1 : bits .and .i64 (-(a : Int)) M = (zIx 2 w a : Int) := by rw [← hM]; exact zBr _ (by omega)
   go_enter Tryz.func175, Tryz.ntmps175
   go_wp2_with (go_at_call 173; refine (T.out _).mono ?_; rintro e w1 ⟨rfl, rfl⟩)
   exact bodyPost_ret (v := .tuple #[.int .i64 (zIx 2 w a : Int), .int .i64 (zIw 2 w : Int)]) (by simp [results, Tryz.results175, go_sem, zIw]) rfl ⟨rfl, rfl⟩
 · have E3 : Hid (((((a : Int) != 0).toNat : Nat) : Int) = (zIx 3 w a : Int)) := Kh (by
     show _ = ((if a = 0 then 0 else 1 : Nat) : Int)
     by_cases h : a = 0
     · subst h; rfl
     · have d : ((a : Int) != 0) = true := by simpa using h
       rw [d, if_neg h]; rfl)
   go_enter Tryz.func175, Tryz.ntmps175
   go_wp2_with (go_at_call 171; refine (zBj _ _).mono ?_; rintro e w1 ⟨rfl, rfl⟩)
   rw [← E3.out]
   exact bodyPost_ret (v := .tuple #[.int .i64 ((((a : Int) != 0).toNat : Nat) : Int), .int .i64 1]) (by simp [results, Tryz.results175, go_sem]) rfl ⟨rfl, rfl⟩
 · have E4 : Hid (((((a : Int) == M).toNat : Nat) : Int) = (zIx 4 w a : Int)) := Kh (by
     show _ = ((if a = 2 ^ w - 1 then 1 else 0 : Nat) : Int)
     by_cases h : a = 2 ^ w - 1
     · have d : ((a : Int) == M) = true := by simp only [beq_iff_eq]; omega
       rw [d, if_pos h]; rfl
     · have d : ((a : Int) == M) = false := by simp only [beq_eq_false_iff_ne]; omega
       rw [d, if_neg h]; rfl)
   go_enter Tryz.func175, Tryz.ntmps175
   go_wp2_with (first | (go_at_call 173; refine (T.out _).mono ?_; rintro e w1 ⟨rfl, rfl⟩) | (go_at_call 171; refine (zBj _ _).mono ?_; rintro e w1 ⟨rfl, rfl⟩))
   rw [← E4.out]
   exact bodyPost_ret (v := .tuple #[.int .i64 ((((a : Int) == M).toNat : Nat) : Int), .int .i64 1]) (by simp [results, Tryz.results175, go_sem]) rfl ⟨rfl, rfl⟩
 · have hpp : ∀ v, v ≤ 16 → w ≤ v → pop v a = pop w a := by
     intro v _ h
     induction v with
     | zero => rw [show w = 0 by omega]
     | succ v ih =>
      rcases Nat.lt_or_ge v w with h1 | h1
      · rw [show w = v + 1 by omega]
      · simp only [pop]
        rw [ih (by omega) h1, zP3 ha h1, Nat.add_zero]
   obtain ⟨z, hz⟩ : ∃ z : Int, (zIx 5 w a : Int) = z := ⟨_, rfl⟩
   have e1 : ((pop 16 a : Nat) : Int) % 2 = z := by
    rw [hpp 16 (by omega) hw.2, ← hz]; rfl
   rw [hz]; clear hpp hz; have S := Kh (ones_is a (by omega))
   have e2 : IntKind.u64.wrap (a : Int) = (a : Int) := by
    show (a : Int) % 2 ^ 64 = _
    exact Int.emod_eq_of_lt (by omega) (by omega)
   go_enter Tryz.func175, Tryz.ntmps175
   go_wp2_with (go_at_call 199; refine (S.out _).mono ?_; rintro e w1 ⟨rfl, rfl⟩)
   exact bodyPost_ret (v := .tuple #[.int .i64 z, .int .i64 1]) (by simp [results, Tryz.results175, go_sem]; exact e1) rfl ⟨rfl, rfl⟩
theorem zEg (w a more : Nat) (sg : Bool) (hw : 1 ≤ w ∧ w ≤ 16) (hm : more ≤ 16) (ha : a < 2 ^ w) (W : World) :
 Calls Tryz.prog 174 #[.int .i64 (w : Int), .int .i64 (a : Int), .int .i64 (more : Int), .bool sg] W fun e w' => e = .returned (.int .i64 (zEe w a more sg : Int)) ∧ W = w' := by
 cases sg
 · go_enter Tryz.func174, Tryz.ntmps174
   go_wp2_with fail
   go_ret
   exact ⟨rfl, rfl⟩
 · obtain ⟨M, hM⟩ : ∃ M : Int, ((2 ^ (w + more) : Nat) : Int) - 1 = M := ⟨_, rfl⟩
   have T := Kh (zHp (by omega : w + more ≤ 62) hM)
   have S := Kh (zN8 w a hw ha); have e0 : IntKind.i64.wrap ((w : Int) + (more : Int)) = ((w + more : Nat) : Int) := by rw [zRa (by omega) (by omega)]; rfl
   have e1 : bits .and .i64 (sgn w a) M = (zEe w a more true : Int) := by rw [← hM]; exact zBr _ (by omega)
   generalize sgn w a = z at *
   go_enter Tryz.func174, Tryz.ntmps174
   go_wp2_with (first | (go_at_call 198; refine (S.out _).mono ?_; rintro e w1 ⟨rfl, rfl⟩) | (go_at_call 173; refine (T.out _).mono ?_; rintro e w1 ⟨rfl, rfl⟩))
   go_ret
   exact ⟨rfl, rfl⟩
theorem zKz (w a b : Nat) (hw : 1 ≤ w ∧ w ≤ 16) (ha : a < 2 ^ w) (hb : b < 65536) (W : World) :
 Calls Tryz.prog 202 #[.int .i64 (w : Int), .int .i64 (a : Int), .int .i64 (b : Int)] W fun e w' => e = .returned (.int .i64 (zL0 w a (b % w) : Int)) ∧ Below W.heap.size W w' := by
 have h16 := zKc hw.2; have hr := Nat.mod_lt b (show w > 0 by omega)
 obtain ⟨M, hM⟩ : ∃ M : Int, ((2 ^ w : Nat) : Int) - 1 = M := ⟨_, rfl⟩
 have T := Kh (zHp (by omega : w ≤ 62) hM)
 have n0 : ¬ (w : Int) = 0 := by omega
 have n1 : ((w : Int) == 0) = false := by simp only [beq_eq_false_iff_ne]; omega
 have e0 : IntKind.i64.wrap ((b : Int) % (w : Int)) = ((b % w : Nat) : Int) := by
  rw [← Int.natCast_emod]; exact zRa (by omega) (by omega)
 obtain ⟨r, hrr⟩ : ∃ r, b % w = r := ⟨_, rfl⟩
 rw [hrr] at e0 hr ⊢; have e0' : ((b % w : Nat) : Int) = (r : Int) := by rw [hrr]
 have e0'' : (b : Int) % (w : Int) = (r : Int) := by rw [← Int.natCast_emod, hrr]
 have e00 : (b : Int).tmod (w : Int) = (r : Int) := by rw [Int.tmod_eq_emod_of_nonneg (by omega)]; exact e0''
 have t1 : (0 : Int) ≤ (r : Int) := by omega
 have t2 : (r : Int) ≤ 64 := by omega
 have e1 : IntKind.i64.wrap ((w : Int) - (r : Int)) = ((w - r : Nat) : Int) := by rw [zRa (by omega) (by omega)]; omega
 have t3 : (0 : Int) ≤ ((w - r : Nat) : Int) := by omega
 have t4 : ((w - r : Nat) : Int) ≤ 64 := by omega
 have p32 : a * 2 ^ r < 4294967296 := by
  have h1 := zKc (show r ≤ 16 by omega)
  calc a * 2 ^ r ≤ 65535 * 65536 := Nat.mul_le_mul (by omega) h1
   _ < 4294967296 := by decide
 have e62 : (2 : Nat) ^ 62 = 4611686018427387904 := by decide
 have e2 : IntKind.i64.wrap ((a : Int) * (2 : Int) ^ r) = ((a * 2 ^ r : Nat) : Int) := by
  have : (a : Int) * (2 : Int) ^ r = ((a * 2 ^ r : Nat) : Int) := by simp
  rw [this]; exact zRa (by omega) (by omega)
 have e3 : (a : Int) / (2 : Int) ^ (w - r) = ((a / 2 ^ (w - r) : Nat) : Int) := by simp
 have e4 : bits .or .i64 ((a * 2 ^ r : Nat) : Int) ((a / 2 ^ (w - r) : Nat) : Int) = ((a * 2 ^ r ||| a / 2 ^ (w - r) : Nat) : Int) := zBs (by omega) (by have := Nat.div_le_self a (2 ^ (w - r)); omega)
 have e5 : bits .and .i64 ((a * 2 ^ r ||| a / 2 ^ (w - r) : Nat) : Int) M = (zL0 w a r : Int) := by
  rw [← hM, zBr _ (by omega), zPj, or_turn ha (by omega)]
 generalize a * 2 ^ r = X at *; generalize a / 2 ^ (w - r) = Y at *; generalize X ||| Y = Z at *
 generalize zL0 w a r = V at *; have t5 : ((w - r : Nat) : Int).toNat = w - r := rfl; obtain ⟨u, hu⟩ : ∃ u, w - r = u := ⟨_, rfl⟩
 rw [hu] at e1 e3 t3 t4 t5; clear e62 p32 h16 hr hrr e0' hu hM ha hb hw
 go_enter Tryz.func202, Tryz.ntmps202
 go_wp2_with fail
 refine zR4 (by kernel_rfl) (by kernel_rfl) ?_
 repeat go_big_quiet_step ((first | (go_at_call 173; exact zDv _ (T.out _))))
 refine wpQuiet_nil ?_
 intro _ hw'; obtain ⟨x, hw''⟩ := hw'; subst hw''
 go_wp2_with fail
 go_ret
 exact ⟨rfl, x.2⟩
theorem zN6 (k w a b : Nat) (hk : 16 ≤ k ∧ k ≤ 18) (hw : 1 ≤ w ∧ w ≤ 16) (ha : a < 2 ^ w) (hb : b < 65536) (W : World) :
 Calls Tryz.prog 201 #[.int .i64 (k : Int), .int .i64 (w : Int), .int .i64 (a : Int), .int .i64 (b : Int)] W fun e w' => e = .returned (.int .i64 (if k = 16 then a * 2 ^ min b w % 2 ^ w else if k = 17 then a / 2 ^ min b w else sar w a (min b w) : Nat)) ∧ Below W.heap.size W w' := by
 have h16 := zKc hw.2; have hsb := zN5 hw.1 ha; have h2 := zPw hw.1; obtain ⟨M, hM⟩ : ∃ M : Int, ((2 ^ w : Nat) : Int) - 1 = M := ⟨_, rfl⟩
 have T := Kh (zHp (by omega : w ≤ 62) hM)
 have S := Kh (zN8 w a hw ha); obtain ⟨r, hrr⟩ : ∃ r, min b w = r := ⟨_, rfl⟩
 have e0 : min (b : Int) (w : Int) = (r : Int) := by omega
 have hr : r ≤ w := by omega
 have t1 : (0 : Int) ≤ (r : Int) := by omega
 have t2 : (r : Int) ≤ 64 := by omega
 have p32 : a * 2 ^ r < 8589934592 := by
  have h1 := zKc (show r ≤ 16 by omega)
  calc a * 2 ^ r ≤ 65535 * 65536 := Nat.mul_le_mul (by omega) h1
   _ < 8589934592 := by decide
 have e2 : IntKind.i64.wrap ((a : Int) * (2 : Int) ^ r) = ((a * 2 ^ r : Nat) : Int) := by
  have : (a : Int) * (2 : Int) ^ r = ((a * 2 ^ r : Nat) : Int) := by simp
  rw [this]; exact zRa (by omega) (by omega)
 rw [hrr]; have cc : (w < b ∧ r = w) ∨ (¬ w < b ∧ r = b) := by omega
 clear e0
 rcases cc with ⟨c, hrb⟩ | ⟨c, hrb⟩ <;> replace hrb := hrb.symm <;> subst hrb
 · have c' : (w : Int) < (b : Int) := by omega
   rcases (show k = 16 ∨ k = 17 ∨ k = 18 by omega) with rfl | rfl | rfl
   · have e5 : bits .and .i64 ((a * 2 ^ w : Nat) : Int) M = ((a * 2 ^ w % 2 ^ w : Nat) : Int) := by rw [← hM, zBr _ (by omega), zPj]
     rw [if_pos rfl]; generalize a * 2 ^ w % 2 ^ w = Z at *; generalize a * 2 ^ w = X at *; clear hM hrr p32 hsb h2 h16
     go_enter Tryz.func201, Tryz.ntmps201
     go_wp2_with fail
     first
     | (refine zR4 (by kernel_rfl) (by kernel_rfl) ?_
        repeat go_big_quiet_step ((first | (go_at_call 173; exact zDv _ (T.out _))))
        refine wpQuiet_nil ?_
        intro _ hw'; obtain ⟨x, hw''⟩ := hw'; subst hw''
        go_wp2_with fail
        go_ret
        exact ⟨rfl, x.2⟩)
     | (trace_state;  fail)
   · have e3 : (a : Int) / (2 : Int) ^ w = ((a / 2 ^ w : Nat) : Int) := by simp
     rw [if_neg (by omega), if_pos rfl]
     generalize a / 2 ^ w = Y at *; clear hM hrr p32 e2 hsb h2 h16
     go_enter Tryz.func201, Tryz.ntmps201
     go_wp2_with fail
     go_ret
     exact ⟨rfl, Below.refl _ _⟩
   · have e3 : bits .and .i64 (sgn w a / (2 : Int) ^ w) M = (sar w a w : Int) := by
       rw [← hM, zBr _ (by omega)]
       unfold sar; simp
     rw [if_neg (by omega), if_neg (by omega)]
     generalize sgn w a = s at *; generalize sar w a w = Y at *; clear hM hrr p32 e2 hsb h2 h16
     go_enter Tryz.func201, Tryz.ntmps201
     go_wp2_with fail
     first
     | (refine zR4 (by kernel_rfl) (by kernel_rfl) ?_
        repeat go_big_quiet_step ((first | (go_at_call 173; exact zDv _ (T.out _)) | (go_at_call 198; exact zDv _ (S.out _))))
        refine wpQuiet_nil ?_
        intro _ hw'; obtain ⟨x, hw''⟩ := hw'; subst hw''
        go_wp2_with fail
        go_ret
        exact ⟨rfl, x.2⟩)
     | (trace_state;  fail)
 · have c' : ¬ (w : Int) < (b : Int) := by omega
   rcases (show k = 16 ∨ k = 17 ∨ k = 18 by omega) with rfl | rfl | rfl
   · have e5 : bits .and .i64 ((a * 2 ^ b : Nat) : Int) M = ((a * 2 ^ b % 2 ^ w : Nat) : Int) := by rw [← hM, zBr _ (by omega), zPj]
     rw [if_pos rfl]; generalize a * 2 ^ b % 2 ^ w = Z at *; generalize a * 2 ^ b = X at *; clear hM hrr p32 hsb h2 h16
     go_enter Tryz.func201, Tryz.ntmps201
     go_wp2_with fail
     first
     | (refine zR4 (by kernel_rfl) (by kernel_rfl) ?_
        repeat go_big_quiet_step ((first | (go_at_call 173; exact zDv _ (T.out _))))
        refine wpQuiet_nil ?_
        intro _ hw'; obtain ⟨x, hw''⟩ := hw'; subst hw''
        go_wp2_with fail
        go_ret
        exact ⟨rfl, x.2⟩)
     | (trace_state;  fail)
   · have e3 : (a : Int) / (2 : Int) ^ b = ((a / 2 ^ b : Nat) : Int) := by simp
     rw [if_neg (by omega), if_pos rfl]
     generalize a / 2 ^ b = Y at *; clear hM hrr p32 e2 hsb h2 h16
     go_enter Tryz.func201, Tryz.ntmps201
     go_wp2_with fail
     go_ret
     exact ⟨rfl, Below.refl _ _⟩
   · have e3 : bits .and .i64 (sgn w a / (2 : Int) ^ b) M = (sar w a b : Int) := by
       rw [← hM, zBr _ (by omega)]
       unfold sar; simp
     rw [if_neg (by omega), if_neg (by omega)]
     generalize sgn w a = s at *; generalize sar w a b = Y at *; clear hM hrr p32 e2 hsb h2 h16
     go_enter Tryz.func201, Tryz.ntmps201
     go_wp2_with fail
     first
     | (refine zR4 (by kernel_rfl) (by kernel_rfl) ?_
        repeat go_big_quiet_step ((first | (go_at_call 173; exact zDv _ (T.out _)) | (go_at_call 198; exact zDv _ (S.out _))))
        refine wpQuiet_nil ?_
        intro _ hw'; obtain ⟨x, hw''⟩ := hw'; subst hw''
        go_wp2_with fail
        go_ret
        exact ⟨rfl, x.2⟩)
     | (trace_state;  fail)
theorem zDe (k w a b : Nat) (hk : k = 14 ∨ k = 15) (hw : 1 ≤ w ∧ w ≤ 16) (ha : a < 2 ^ w) (hb : b < 2 ^ w) (W : World) :
 Calls Tryz.prog 200 #[.int .i64 (k : Int), .int .i64 (w : Int), .int .i64 (a : Int), .int .i64 (b : Int)] W fun e w' => e = .returned (.int .i64 (zN2 k w a b : Int)) ∧ Below W.heap.size W w' := by
 have h16 := zKc hw.2; have hsa := zN5 hw.1 ha; have hsb := zN5 hw.1 hb; have h2 := zPw hw.1; obtain ⟨M, hM⟩ : ∃ M : Int, ((2 ^ w : Nat) : Int) - 1 = M := ⟨_, rfl⟩
 have T := Kh (zHp (by omega : w ≤ 62) hM)
 have SA := Kh (zN8 w a hw ha); have SB := Kh (zN8 w b hw hb); obtain ⟨V, hV⟩ : ∃ V : Int, (zN2 k w a b : Int) = V := ⟨_, rfl⟩
 rw [hV]; unfold zN2 at hV; generalize sgn w a = x at *; generalize sgn w b = y at *
 by_cases hy : y = 0
 · rw [if_pos hy] at hV
   subst hy
   by_cases hk15 : k = 15
   · rw [if_pos hk15] at hV
     subst hk15; subst hV; clear h16 hsa hsb h2 hM
     go_enter Tryz.func200, Tryz.ntmps200
     go_wp2_with (first | ((with_reducible show Calls _ _ #[_, .int .i64 (a : Int)] _ _); go_at_call 198; refine (SA.out _).mono ?_; rintro e w1 ⟨rfl, rfl⟩) | ((with_reducible show Calls _ _ #[_, .int .i64 (b : Int)] _ _); go_at_call 198; refine (SB.out _).mono ?_; rintro e w1 ⟨rfl, rfl⟩))
     go_ret
     exact ⟨rfl, Below.refl _ _⟩
   obtain rfl : k = 14 := by omega
   rw [if_neg hk15] at hV
   by_cases hx : x < 0
   · rw [if_pos hx] at hV
     obtain rfl : 1 = V := hV; clear h16 hsa hsb h2 hM
     go_enter Tryz.func200, Tryz.ntmps200
     go_wp2_with (first | ((with_reducible show Calls _ _ #[_, .int .i64 (a : Int)] _ _); go_at_call 198; refine (SA.out _).mono ?_; rintro e w1 ⟨rfl, rfl⟩) | ((with_reducible show Calls _ _ #[_, .int .i64 (b : Int)] _ _); go_at_call 198; refine (SB.out _).mono ?_; rintro e w1 ⟨rfl, rfl⟩))
     go_ret
     exact ⟨rfl, Below.refl _ _⟩
   · rw [if_neg hx] at hV
     have hp := Nat.two_pow_pos w; obtain rfl : M = V := by omega
     clear h16 hsa hsb h2 hM hV
     go_enter Tryz.func200, Tryz.ntmps200
     go_wp2_with (first | ((with_reducible show Calls _ _ #[_, .int .i64 (a : Int)] _ _); go_at_call 198; refine (SA.out _).mono ?_; rintro e w1 ⟨rfl, rfl⟩) | ((with_reducible show Calls _ _ #[_, .int .i64 (b : Int)] _ _); go_at_call 198; refine (SB.out _).mono ?_; rintro e w1 ⟨rfl, rfl⟩) | (go_at_call 173; refine (T.out _).mono ?_; rintro e w1 ⟨rfl, rfl⟩))
     go_ret
     exact ⟨rfl, Below.refl _ _⟩
 · rw [if_neg hy] at hV
   have dy : (y == 0) = false := by simpa using hy
   have hq1 : (x.tdiv y).natAbs ≤ x.natAbs := by rw [Int.natAbs_tdiv]; exact Nat.div_le_self _ _
   have hq2 : (x.tmod y).natAbs ≤ x.natAbs := by rw [Int.natAbs_tmod]; exact Nat.mod_le _ _
   rcases hk with rfl | rfl
   · rw [if_pos rfl] at hV
     have e1 : IntKind.i64.wrap (x.tdiv y) = x.tdiv y := zRa (by omega) (by omega)
     have e2 : bits .and .i64 (x.tdiv y) M = V := by rw [← hM, zBr _ (by omega), hV]
     clear h16 hsa hsb h2 hM hV hq1 hq2
     go_enter Tryz.func200, Tryz.ntmps200
     go_wp2_with (first | ((with_reducible show Calls _ _ #[_, .int .i64 (a : Int)] _ _); go_at_call 198; refine (SA.out _).mono ?_; rintro e w1 ⟨rfl, rfl⟩) | ((with_reducible show Calls _ _ #[_, .int .i64 (b : Int)] _ _); go_at_call 198; refine (SB.out _).mono ?_; rintro e w1 ⟨rfl, rfl⟩))
     refine zR4 (by kernel_rfl) (by kernel_rfl) ?_
     repeat go_big_quiet_step ((first | (go_at_call 173; exact zDv _ (T.out _))))
     refine wpQuiet_nil ?_
     intro _ hw'; obtain ⟨x, hw''⟩ := hw'; subst hw''
     go_wp2_with fail
     go_ret
     exact ⟨rfl, x.2⟩
   · rw [if_neg (by omega)] at hV
     have e1 : IntKind.i64.wrap (x.tmod y) = x.tmod y := zRa (by omega) (by omega)
     have e2 : bits .and .i64 (x.tmod y) M = V := by rw [← hM, zBr _ (by omega), hV]
     clear h16 hsa hsb h2 hM hV hq1 hq2
     go_enter Tryz.func200, Tryz.ntmps200
     go_wp2_with (first | ((with_reducible show Calls _ _ #[_, .int .i64 (a : Int)] _ _); go_at_call 198; refine (SA.out _).mono ?_; rintro e w1 ⟨rfl, rfl⟩) | ((with_reducible show Calls _ _ #[_, .int .i64 (b : Int)] _ _); go_at_call 198; refine (SB.out _).mono ?_; rintro e w1 ⟨rfl, rfl⟩))
     refine zR4 (by kernel_rfl) (by kernel_rfl) ?_
     repeat go_big_quiet_step ((first | (go_at_call 173; exact zDv _ (T.out _))))
     refine wpQuiet_nil ?_
     intro _ hw'; obtain ⟨x, hw''⟩ := hw'; subst hw''
     go_wp2_with fail
     go_ret
     exact ⟨rfl, x.2⟩
theorem beq_nat (a b : Nat) : ((a : Int) == (b : Int)) = decide (a = b) := by
 by_cases h : a = b
 · subst h; simp
 · rw [decide_eq_false h]; simp only [beq_eq_false_iff_ne]; omega
theorem zCz (k w a b : Nat) (hk : 21 ≤ k ∧ k ≤ 28) (hw : 1 ≤ w ∧ w ≤ 16) (ha : a < 2 ^ w) (hb : b < 2 ^ w) (W : World) :
 Calls Tryz.prog 203 #[.int .i64 (k : Int), .int .i64 (w : Int), .int .i64 (a : Int), .int .i64 (b : Int)] W fun e w' => e = .returned (.bool (zCs k w a b)) ∧ Below W.heap.size W w' := by
 have h16 := zKc hw.2; have hsa := zN5 hw.1 ha; have hsb := zN5 hw.1 hb; have h2 := zPw hw.1; have hp := Nat.two_pow_pos (w - 1); obtain ⟨M, hM⟩ : ∃ M : Int, ((2 ^ w : Nat) : Int) - 1 = M := ⟨_, rfl⟩
 have T := Kh (zHp (by omega : w ≤ 62) hM)
 have SA := Kh (zN8 w a hw ha); have SB := Kh (zN8 w b hw hb); obtain ⟨V, hV⟩ : ∃ V, zCs k w a b = V := ⟨_, rfl⟩
 rw [hV]; unfold zCs at hV; have hab : a * b < 4294967296 := Nat.lt_of_lt_of_le (Nat.mul_lt_mul_of_lt_of_le ha (Nat.le_of_lt hb) (by omega)) (Nat.mul_le_mul (h16) (h16))
 generalize sgn w a = x at *; generalize sgn w b = y at *
 rcases (show k = 21 ∨ k = 22 ∨ k = 23 ∨ k = 24 ∨ k = 25 ∨ k = 26 ∨ k = 27 ∨ k = 28 by omega) with rfl | rfl | rfl | rfl | rfl | rfl | rfl | rfl
 ·
  have HV : Hid (((a : Int) == (b : Int)) = V) := Kh ((beq_nat a b).trans hV); clear h16 hsa hsb h2 hM hV hp ha hb hab hk
  go_enter Tryz.func203, Tryz.ntmps203
  go_wp2_with (first | ((with_reducible show Calls _ _ #[_, .int .i64 (a : Int)] _ _); go_at_call 198; refine (SA.out _).mono ?_; rintro e w1 ⟨rfl, rfl⟩) | ((with_reducible show Calls _ _ #[_, .int .i64 (b : Int)] _ _); go_at_call 198; refine (SB.out _).mono ?_; rintro e w1 ⟨rfl, rfl⟩) | (go_at_call 173; refine (T.out _).mono ?_; rintro e w1 ⟨rfl, rfl⟩))
  go_ret; rw [← HV.out]
  exact ⟨by simp, Below.refl _ _⟩
 ·
  have HV : Hid (decide ((a : Int) < (b : Int)) = V) := Kh (by rw [← hV]; exact decide_eq_decide.2 (by omega))
  clear h16 hsa hsb h2 hM hV hp ha hb hab hk
  go_enter Tryz.func203, Tryz.ntmps203
  go_wp2_with (first | ((with_reducible show Calls _ _ #[_, .int .i64 (a : Int)] _ _); go_at_call 198; refine (SA.out _).mono ?_; rintro e w1 ⟨rfl, rfl⟩) | ((with_reducible show Calls _ _ #[_, .int .i64 (b : Int)] _ _); go_at_call 198; refine (SB.out _).mono ?_; rintro e w1 ⟨rfl, rfl⟩) | (go_at_call 173; refine (T.out _).mono ?_; rintro e w1 ⟨rfl, rfl⟩))
  go_ret; rw [← HV.out]
  exact ⟨by simp, Below.refl _ _⟩
 ·
  have HV : Hid (decide (x < y) = V) := Kh (hV); clear h16 hsa hsb h2 hM hV hp ha hb hab hk
  go_enter Tryz.func203, Tryz.ntmps203
  go_wp2_with (first | ((with_reducible show Calls _ _ #[_, .int .i64 (a : Int)] _ _); go_at_call 198; refine (SA.out _).mono ?_; rintro e w1 ⟨rfl, rfl⟩) | ((with_reducible show Calls _ _ #[_, .int .i64 (b : Int)] _ _); go_at_call 198; refine (SB.out _).mono ?_; rintro e w1 ⟨rfl, rfl⟩) | (go_at_call 173; refine (T.out _).mono ?_; rintro e w1 ⟨rfl, rfl⟩))
  go_ret; rw [← HV.out]
  exact ⟨by simp, Below.refl _ _⟩
 ·
  have HV : Hid (decide ((a : Int) ≤ (b : Int)) = V) := Kh (by rw [← hV]; exact decide_eq_decide.2 (by omega))
  clear h16 hsa hsb h2 hM hV hp ha hb hab hk
  go_enter Tryz.func203, Tryz.ntmps203
  go_wp2_with (first | ((with_reducible show Calls _ _ #[_, .int .i64 (a : Int)] _ _); go_at_call 198; refine (SA.out _).mono ?_; rintro e w1 ⟨rfl, rfl⟩) | ((with_reducible show Calls _ _ #[_, .int .i64 (b : Int)] _ _); go_at_call 198; refine (SB.out _).mono ?_; rintro e w1 ⟨rfl, rfl⟩) | (go_at_call 173; refine (T.out _).mono ?_; rintro e w1 ⟨rfl, rfl⟩))
  go_ret; rw [← HV.out]
  exact ⟨by simp, Below.refl _ _⟩
 ·
  have HV : Hid (decide (x ≤ y) = V) := Kh (hV); clear h16 hsa hsb h2 hM hV hp ha hb hab hk
  go_enter Tryz.func203, Tryz.ntmps203
  go_wp2_with (first | ((with_reducible show Calls _ _ #[_, .int .i64 (a : Int)] _ _); go_at_call 198; refine (SA.out _).mono ?_; rintro e w1 ⟨rfl, rfl⟩) | ((with_reducible show Calls _ _ #[_, .int .i64 (b : Int)] _ _); go_at_call 198; refine (SB.out _).mono ?_; rintro e w1 ⟨rfl, rfl⟩) | (go_at_call 173; refine (T.out _).mono ?_; rintro e w1 ⟨rfl, rfl⟩))
  go_ret; rw [← HV.out]
  exact ⟨by simp, Below.refl _ _⟩
 ·
  have e1 : IntKind.i64.wrap ((a : Int) + (b : Int)) = (a : Int) + (b : Int) := zRa (by omega) (by omega)
  have HV : Hid (decide (M < (a : Int) + (b : Int)) = V) := Kh (by rw [← hV]; exact decide_eq_decide.2 (by omega))
  clear h16 hsa hsb h2 hM hV hp ha hb hab hk
  go_enter Tryz.func203, Tryz.ntmps203
  go_wp2_with (first | ((with_reducible show Calls _ _ #[_, .int .i64 (a : Int)] _ _); go_at_call 198; refine (SA.out _).mono ?_; rintro e w1 ⟨rfl, rfl⟩) | ((with_reducible show Calls _ _ #[_, .int .i64 (b : Int)] _ _); go_at_call 198; refine (SB.out _).mono ?_; rintro e w1 ⟨rfl, rfl⟩) | (go_at_call 173; refine (T.out _).mono ?_; rintro e w1 ⟨rfl, rfl⟩))
  go_ret; rw [← HV.out]
  exact ⟨by simp, Below.refl _ _⟩
 ·
  have e1 : IntKind.i64.wrap (x + y) = x + y := zRa (by omega) (by omega)
  have e2 : IntKind.i64.wrap ((w : Int) - 1) = ((w - 1 : Nat) : Int) := by rw [zRa (by omega) (by omega)]; omega
  have hP : ((2 : Int) ^ (w - 1)) = ((2 ^ (w - 1) : Nat) : Int) := by simp
  have e3 : IntKind.i64.wrap ((2 : Int) ^ (w - 1)) = ((2 ^ (w - 1) : Nat) : Int) := by rw [hP]; exact zRa (by omega) (by omega)
  have e4 : IntKind.i64.wrap (-(2 : Int) ^ (w - 1)) = -((2 ^ (w - 1) : Nat) : Int) := by rw [hP]; exact zRa (by omega) (by omega)
  have e5 : IntKind.i64.wrap (((2 ^ (w - 1) : Nat) : Int) - 1) = ((2 ^ (w - 1) : Nat) : Int) - 1 := zRa (by omega) (by omega)
  have t1 : (0 : Int) ≤ ((w - 1 : Nat) : Int) := by omega
  have t2 : ((w - 1 : Nat) : Int) ≤ 64 := by omega
  have t3 : ((w - 1 : Nat) : Int).toNat = w - 1 := rfl; clear hP; obtain ⟨u, hu⟩ : ∃ u, w - 1 = u := ⟨_, rfl⟩
  rw [hu] at hV; rw [hu] at e2 e3 e4 e5 t1 t2 t3; obtain ⟨P, hPP⟩ : ∃ P : Int, ((2 ^ u : Nat) : Int) = P := ⟨_, rfl⟩
  rw [hPP] at e3 e4 e5 hV; have IN := Kh (fun W => zEx (x + y) (-P) (P - 1) _ rfl W)
  have HV := Kh hV; clear hPP hu; clear h16 hsa hsb h2 hM hV hp ha hb hab hk
  go_enter Tryz.func203, Tryz.ntmps203
  go_wp2_with (first | ((with_reducible show Calls _ _ #[_, .int .i64 (a : Int)] _ _); go_at_call 198; refine (SA.out _).mono ?_; rintro e w1 ⟨rfl, rfl⟩) | ((with_reducible show Calls _ _ #[_, .int .i64 (b : Int)] _ _); go_at_call 198; refine (SB.out _).mono ?_; rintro e w1 ⟨rfl, rfl⟩) | (go_at_call 173; refine (T.out _).mono ?_; rintro e w1 ⟨rfl, rfl⟩))
  refine zR4 (by kernel_rfl) (by kernel_rfl) ?_
  repeat go_big_quiet_step ((first | (go_at_call 143; exact zDv _ (IN.out _))))
  refine wpQuiet_nil ?_
  intro _ hw'; obtain ⟨x, hw''⟩ := hw'; subst hw''
  go_wp2_with fail
  go_ret; rw [← HV.out]
  exact ⟨by simp, x.2⟩
 ·
  have e1 : IntKind.i64.wrap ((a : Int) * (b : Int)) = ((a * b : Nat) : Int) := by rw [← Int.natCast_mul]; exact zRa (by omega) (by omega)
  have HV : Hid (decide (M < ((a * b : Nat) : Int)) = V) := Kh (by rw [← hV]; exact decide_eq_decide.2 (by omega))
  generalize a * b = ab at *; clear h16 hsa hsb h2 hM hV hp ha hb hab hk
  go_enter Tryz.func203, Tryz.ntmps203
  go_wp2_with (first | ((with_reducible show Calls _ _ #[_, .int .i64 (a : Int)] _ _); go_at_call 198; refine (SA.out _).mono ?_; rintro e w1 ⟨rfl, rfl⟩) | ((with_reducible show Calls _ _ #[_, .int .i64 (b : Int)] _ _); go_at_call 198; refine (SB.out _).mono ?_; rintro e w1 ⟨rfl, rfl⟩) | (go_at_call 173; refine (T.out _).mono ?_; rintro e w1 ⟨rfl, rfl⟩))
  go_ret; rw [← HV.out]
  exact ⟨by simp, Below.refl _ _⟩
end Go.Proofs.YtmolbnghobfmoaaGreat
