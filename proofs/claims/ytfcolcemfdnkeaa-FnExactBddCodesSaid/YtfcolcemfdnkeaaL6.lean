/- The law FnExactBddCodes, walked. -/
import Derived.Test.YtfcolcemfdnkeaaJ
import Derived.Test.YtfcolcemfdnkeaaL0
import Derived.Test.YtfcolcemfdnkeaaO
namespace Go.Proofs.Ytfcolcemfdnkeaa
open Go.RowKit
open B

theorem Cds.is {p : Prop} {V R : Int} {ns : List Nd} {B : Nat} {w' : World} {e : Ending} (h : Cds p V R ns B w' e) :
    ∃ (l : List Int) (b : Bool) (A : Option Addr) (c : Nat), Hid (CdsV p V R ns l b) ∧ e = .returned (.tuple #[.slice A l.length c, .bool b]) ∧ Hid (w'.ownsRow B 3 1 (.slice A l.length c) l.length (l.map (.int .i64))) ∧ l.length ≤ 256 := by
  obtain ⟨l, b, A, c, hv, he, ho⟩ := h
  exact ⟨l, b, A, c, hv, he, ho, hv.len⟩
theorem Cds.again {p q : Prop} {V R : Int} {ns : List Nd} {B : Nat} {w' : World} {e : Ending} {l : List Int} {b : Bool} (h : Cds p V R ns B w' e) (hv : CdsV q V R ns l b) (hpq : p ↔ q) :
    ∃ (A : Option Addr) (c : Nat), e = .returned (.tuple #[.slice A l.length c, .bool b]) ∧ Hid (w'.ownsRow B 3 1 (.slice A l.length c) l.length (l.map (.int .i64))) := by
  obtain ⟨l', b', A, c, hv', he, ho⟩ := h
  obtain ⟨rfl, rfl⟩ := hv'.same hv hpq
  exact ⟨A, c, he, ho⟩

set_option maxRecDepth 100000 in
set_option maxHeartbeats 800000 in
theorem fnExactBddCodes_law (V R : Int) (A : Option Addr) (cap : Nat) (ns : List Nd) (w : World) (hA : NAt w A ns) (hn : ns.length ≤ 9223372036854775807) :
    Calls Try.prog 3 #[.agg #[.int .i64 V, .slice A ns.length cap, .int .i64 R]] w fun e w' => e = .returned (.bool true) ∧ Below w.heap.size w w' := by
  have HA := Lib.hid hA
  clear hA
  by_cases hl : (1048576 : Int) < ns.length
  · have e1 : leftOf ns.length 1048576 = -1 := if_pos hl
    go_enter Try.func3, Try.ntmps3
    go_wp2_with (go_at_call 11; refine (szBdd_is V R A cap ns.length 1048576 _ (by omega) (by omega) hn).mono ?_; rw [e1]; rintro e w1 ⟨rfl, hb1⟩)
    go_ret
    exact ⟨rfl, ((Below.refl w.heap.size w).alloc (Nat.le_refl _) _).trans (hb1.mono (by simp))⟩
  have e1 : leftOf ns.length 1048576 = 1048576 - ns.length := if_neg hl
  have hn' : ns.length ≤ 1048576 := by omega
  have e2 : ¬ ((1048576 : Int) - ns.length < 0) := by omega
  go_enter Try.func3, Try.ntmps3
  go_wp2_with (first
    | (go_at_call 11; refine (szBdd_is V R A cap ns.length 1048576 _ (by omega) (by omega) hn).mono ?_; rw [e1]; rintro e w1 ⟨rfl, hb1⟩; have HB1 : Below w.heap.size w w1 := ((Below.refl w.heap.size w).alloc (Nat.le_refl _) _).trans (hb1.mono (by simp)); have BX1 : Hid (Blk w1 w.heap.size 24 #[.int .i64 V, .slice A ns.length cap, .int .i64 R]) := (Blk.new w _ _).below hb1 (by simp); obtain ⟨x0, x1, x2⟩ := BX1.out.three)
    | (go_at_call 13; refine (toBdd_any V R A cap ns _ (by exact HA.out.below HB1) hn').mono ?_; rintro e w2 ⟨g2, hg2, rfl, hP2, hb2⟩; have HB2 : Below w.heap.size w w2 := HB1.trans (hb2.mono HB1.size); have BX2 := Lib.hid (BX1.out.below hb2 BX1.out.lt); have P2 := Lib.hid hP2; clear hP2)
    | (go_at_call 12; refine (specCodes_any V R _ _ ns _ (by exact P2.out.nat) hn').mono ?_; rintro e w3 ⟨hs, hb3⟩; obtain ⟨l, bb, As, cs, HV, rfl, OS, hll⟩ := hs.is; have HB3 : Below w.heap.size w w3 := HB2.trans (hb3.mono HB2.size); have BX3 := Lib.hid (BX2.out.below hb3 BX2.out.lt); obtain ⟨y0, y1, y2⟩ := BX3.out.three; clear hs)
    | (go_at_call 13; refine (toBdd_any V R A cap ns _ (by exact HA.out.below HB3) hn').mono ?_; rintro e w4 ⟨g4, hg4, rfl, hP4, hb4⟩; have HB4 : Below w.heap.size w w4 := HB3.trans (hb4.mono HB3.size); have BX4 := Lib.hid (BX3.out.below hb4 BX3.out.lt); have P4 := Lib.hid hP4; have OS4 := Lib.hid (own_below OS.out hb4); clear hP4)
    | (go_at_call 14; refine (implCodes_any V R _ _ ns _ (by exact (P4.out.below ((Below.refl w4.heap.size w4).alloc (Nat.le_refl _) _) P4.out.lt).nat) hn').mono ?_; rintro e w5 ⟨hs, hb5⟩; obtain ⟨Ai, ci, rfl, OI⟩ := hs.again HV.out (okS_iff V ns R).symm; have HB5 : Below w.heap.size w w5 := (HB4.alloc HB4.size _).trans (hb5.mono (by simp; have := HB4.size; omega)); have BX5 := Lib.hid ((BX4.out.alloc _).below hb5 (by simp; have := BX4.out.lt; omega)); have BY5 := Lib.hid ((Blk.new w4 _ _).below hb5 (by simp)); have P5 := Lib.hid ((P4.out.below ((Below.refl w4.heap.size w4).alloc (Nat.le_refl _) _) P4.out.lt).below hb5 (by simp; have := P4.out.lt; omega)); obtain ⟨u0, u1, u2⟩ := BX5.out.three; obtain ⟨v0, v1, v2⟩ := BY5.out.three; have OS5 := Lib.hid (own_below (OS4.out.alloc _) hb5); clear hs)
    | (go_at_call 15; refine (eqInts_yes _ _ _ _ l _ (by exact IAt.of_own OI.out) (by exact IAt.of_own OS5.out) (by omega)).mono ?_; rintro e w6 ⟨rfl, hb6⟩))
  have hg4lt := P4.out.lt
  have hxlt := BX3.out.lt
  have hs3 := OS.out.lt
  have HB6 : Below w.heap.size w w6 := HB5.trans (hb6.mono HB5.size)
  have BX6 := Lib.hid (BX5.out.below hb6 BX5.out.lt)
  have BY6 := Lib.hid (BY5.out.below hb6 BY5.out.lt)
  have P6 := Lib.hid (P5.out.below hb6 P5.out.lt)
  have OS6 := Lib.hid (own_below OS5.out hb6)
  have OI6 := Lib.hid (own_below OI.out hb6)
  obtain ⟨p0, p1, p2⟩ := BX6.out.three
  obtain ⟨q0, q1, q2⟩ := BY6.out.three
  have NI4 : Hid (some g4 ≠ (Value.slice Ai l.length ci).ownBlock) := own_low OI.out (by simp; omega)
  have NS4 : Hid (some g4 ≠ (Value.slice As l.length cs).ownBlock) := fun e => by have := (hs3 g4 e.symm).2; omega
  have NIX : Hid (some w.heap.size ≠ (Value.slice Ai l.length ci).ownBlock) := own_low OI.out (by have := BX4.out.lt; simp; omega)
  have NIS : Hid ((Value.slice As l.length cs).ownBlock = none ∨ (Value.slice As l.length cs).ownBlock ≠ (Value.slice Ai l.length ci).ownBlock) := by
    show (Value.slice As l.length cs).ownBlock = none ∨ (Value.slice As l.length cs).ownBlock ≠ (Value.slice Ai l.length ci).ownBlock
    cases h : (Value.slice As l.length cs).ownBlock with
    | none => exact .inl rfl
    | some b =>
      refine .inr (own_low OI.out ?_)
      have h1 := (hs3 b h).2
      have h2 := hb4.size
      simp
      omega
  have HW4 : Hid (w.heap.size ≤ w4.heap.size) := HB4.size
  have HG4 : Hid (w.heap.size ≤ g4) := by have := HB3.size; show w.heap.size ≤ g4; omega
  have HXG : Hid (w.heap.size ≠ g4) := by show w.heap.size ≠ g4; omega
  have HIB : Hid (∀ q, (Value.slice Ai l.length ci).ownBlock = some q → w.heap.size ≤ q) := fun q hq => by
    have h1 := (OI.out.lt q hq).1
    have h2 := HB4.size
    simp at h1
    omega
  clear hs3 hg4lt hxlt x0 x1 x2 y0 y1 y2 u0 u1 u2 v0 v1 v2 hb1 hb2 hb3 hb4 hb5 hb6
  go_region_with (first
    | (go_at_call 13; refine (toBdd_any V R A cap ns _ (by exact HA.out.below HB6.drew) hn').mono ?_; rintro e w7 ⟨g7, hg7, rfl, hP7, hb7⟩; have hd7 := (Below.refl w6.heap.size w6).drew.trans hb7; have HB7 : Below w.heap.size w w7 := HB6.trans (hd7.mono HB6.size); have P7 := Lib.hid hP7; have P67 := Lib.hid (P6.out.below hd7 P6.out.lt); have BX7 := Lib.hid (BX6.out.below hd7 BX6.out.lt); have BY7 := Lib.hid (BY6.out.below hd7 BY6.out.lt); have OS7 := Lib.hid (own_below OS6.out hd7); have OI7 := Lib.hid (own_below OI6.out hd7); obtain ⟨z0, z1, z2⟩ := BY7.out.three; clear hP7)
    | (go_at_call 16; refine (eqBdd_yes V R _ _ _ _ ns _ (by exact P67.out.nat) (by exact P7.out.nat) hn').mono ?_; rintro e w8 ⟨rfl, hb8⟩; have HB8 : Below w.heap.size w w8 := HB7.trans (hb8.mono HB7.size); have P8 := Lib.hid (P67.out.below hb8 P67.out.lt); have BX8 := Lib.hid (BX7.out.below hb8 BX7.out.lt); have BY8 := Lib.hid (BY7.out.below hb8 BY7.out.lt); have OS8 := Lib.hid (own_below OS7.out hb8); have OI8 := Lib.hid (own_below OI7.out hb8); obtain ⟨a0, a1, a2⟩ := BY8.out.three))
  all_goals
    clear p0 p1 p2 q0 q1 q2 z0 z1 z2
    go_wp2_with (first
      | (go_at_call 17; refine (markBdd_any V R g4 _ ns 1 _ (by exact P8.out) (by omega) (by omega) hn').mono ?_; rintro e w9 ⟨rfl, hg9⟩; have HB9 : Below w.heap.size w w9 := HB8.grown hg9 HB8.size (fun q hq => by injection hq with hq; have := HG4.out; omega); have BX9 := Lib.hid (BX8.out.grown hg9 (fun e => HXG.out (by injection e))); have OS9 := Lib.hid (OS8.out.kept hg9 (.inr (fun e => NS4.out e.symm))); have OI9 := Lib.hid (OI8.out.kept hg9 (.inr (fun e => NI4.out e.symm))))
      | (go_at_call 15; refine (eqInts_yes _ _ _ _ l _ (by exact IAt.of_own OI9.out) (by exact IAt.of_own OS9.out) (by omega)).mono ?_; rintro e w10 ⟨rfl, hb10⟩; have HB10 : Below w.heap.size w w10 := HB9.trans (hb10.mono HB9.size); have BX10 := Lib.hid (BX9.out.below hb10 BX9.out.lt); have OS10 := Lib.hid (own_below OS9.out hb10); have OI10 := Lib.hid (own_below OI9.out hb10))
      | (go_at_call 18; refine (markInts_any _ _ _ l 1 _ (by exact OI10.out) (by omega) (by omega) (by omega)).mono ?_; rintro e w11 ⟨rfl, hO11, hg11⟩; have HB11 : Below w.heap.size w w11 := HB10.grown hg11 HB10.size HIB.out; have BX11 := Lib.hid (BX10.out.grown hg11 NIX.out); have OS11 := Lib.hid (OS10.out.kept hg11 NIS.out); have OI11 : Hid (w11.ownsRow _ 3 1 (.slice Ai (marks 1 l.length).length ci) (marks 1 l.length).length ((marks 1 l.length).map (.int .i64))) := (by rw [marks_len]; exact hO11); obtain ⟨b0, b1, b2⟩ := BX11.out.three; clear hO11)
      | (go_at_call 19; refine (heldInts_any _ _ 1 l.length _ (by exact IAt.of_own OI11.out) (by omega) (by omega) (by omega)).mono ?_; rintro e w11' ⟨rfl, rfl⟩)
      | (go_at_call 13; refine (toBdd_any V R A cap ns _ (by exact HA.out.below HB11) hn').mono ?_; rintro e w12 ⟨g12, hg12, rfl, hP12, hb12⟩; have HB12 : Below w.heap.size w w12 := HB11.trans (hb12.mono HB11.size); have P12 := Lib.hid hP12; have OS12 := Lib.hid (own_below OS11.out hb12); have OI12 := Lib.hid (own_below OI11.out hb12); clear hP12)
      | (go_at_call 14; refine (implCodes_any V R _ _ ns _ (by exact P12.out.nat) hn').mono ?_; rintro e w13 ⟨hs, hb13⟩; obtain ⟨Ah, ch, rfl, OH⟩ := hs.again HV.out (okS_iff V ns R).symm; have HB13 : Below w.heap.size w w13 := HB12.trans (hb13.mono HB12.size); have OS13 := Lib.hid (own_below OS12.out hb13); have OI13 := Lib.hid (own_below OI12.out hb13); clear hs)
      | (go_at_call 15; refine (eqInts_yes _ _ _ _ l _ (by exact IAt.of_own OH.out) (by exact IAt.of_own OS13.out) (by omega)).mono ?_; rintro e w14 ⟨rfl, hb14⟩; have HB14 : Below w.heap.size w w14 := HB13.trans (hb14.mono HB13.size); have OI14 := Lib.hid (own_below OI13.out hb14))
      | (go_at_call 19; refine (heldInts_any _ _ 1 l.length _ (by exact IAt.of_own OI14.out) (by omega) (by omega) (by omega)).mono ?_; rintro e w14' ⟨rfl, rfl⟩))
    go_ret
    exact ⟨rfl, HB14⟩
end Go.Proofs.Ytfcolcemfdnkeaa
