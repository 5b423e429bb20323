/- The law FnQuantify, walked. -/
import Derived.Test.YtffefegjnbfobaaH8
import Derived.Test.YtffefegjnbfobaaLd
import Derived.Test.YtffefegjnbfobaaX3
import Derived.Test.YtffefegjnbfobaaX7
import Derived.Test.YtffefegjnbfobaaX8
import Derived.Test.YtffefegjnbfobaaQt
import Derived.Test.YtffefegjnbfobaaLe
namespace Go.Proofs.Ytffefegjnbfobaa
open Go.RowKit
open B

theorem Mkd.known {p : Prop} {V : Int} {r r' : Int × List Nd} {B : Nat} {w' : World} {e : Ending} (h : Mkd p V r B w' e) (hp : p) (hr : r = r') (hl : r'.2.length ≤ 600) :
    ∃ (A : Option Addr) (c : Nat), e = .returned (.tuple #[.agg #[.int .i64 V, .slice A r'.2.length c, .int .i64 r'.1], .bool true]) ∧ Hid (w'.ownsRow B 89 3 (.slice A r'.2.length c) r'.2.length (ncells r'.2)) := by
  subst hr
  obtain ⟨V', R', ms, b, A, c, hv, he, ho⟩ := h
  rcases hv with ⟨_, _, rfl, rfl, rfl, rfl⟩ | ⟨hn, _⟩
  · exact ⟨A, c, he, ho⟩
  · exact (hn ⟨hp, hl⟩).elim
theorem same_yes {V R : Int} {ms : List Nd} (A A' : Option Addr) (c c' : Nat) (w : World) (hA : NAt w A ms) (hA' : NAt w A' ms) (hl : ms.length ≤ 1048576) :
    Calls Try.prog 15 #[.agg #[.int .i64 V, .slice A ms.length c, .int .i64 R], .agg #[.int .i64 V, .slice A' ms.length c', .int .i64 R]] w fun e w' => e = .returned (.bool true) ∧ Below w.heap.size w w' :=
  (ldBdd_any V V R R A A' c c' ms ms w hA hA' hl hl).mono fun _ _ hs => ⟨hs.1.t ⟨rfl, rfl, rfl⟩, hs.2⟩
theorem same_is {V R R' : Int} {ms ms' : List Nd} (b : Bool) (A A' : Option Addr) (c c' : Nat) (w : World) (hb : b = true ↔ (R = R' ∧ ms = ms')) (hA : NAt w A ms) (hA' : NAt w A' ms') (hl : ms.length ≤ 1048576) (hl' : ms'.length ≤ 1048576) :
    Calls Try.prog 15 #[.agg #[.int .i64 V, .slice A ms.length c, .int .i64 R], .agg #[.int .i64 V, .slice A' ms'.length c', .int .i64 R']] w fun e w' => e = .returned (.bool b) ∧ Below w.heap.size w w' :=
  (ldBdd_any V V R R' A A' c c' ms ms' w hA hA' hl hl').mono fun _ _ hs => by
    cases b with
    | true => exact ⟨hs.1.t ⟨rfl, hb.1 rfl⟩, hs.2⟩
    | false => exact ⟨hs.1.f (fun h => by have := hb.2 h.2; cases this), hs.2⟩

set_option maxRecDepth 100000 in
set_option maxHeartbeats 8000000 in
theorem fnQuantify_law (A : Option Addr) (n cap : Nat) (w : World) (hA : BAt w A n) (hn : n ≤ cap) (hc : cap ≤ maxLen) :
    Calls Try.prog 10 #[.slice A n cap] w fun e w' => e = .returned (.bool true) ∧ Below w.heap.size w w' := by
  have HA := Lib.hid hA
  have HC := Lib.hid hc
  unfold maxLen at hc
  clear hA
  have HB_w : Hid (Below w.heap.size w w) := Below.refl _ _
  by_cases hbig : 1048576 < n
  case pos =>
    clear hc
    go_enter Try.func10, Try.ntmps10
    go_wp2_with fail
    go_ret
    exact ⟨rfl, Below.refl _ _⟩
  clear hc
  go_enter Try.func10, Try.ntmps10
  go_upto_region 8 with (first
    | (go_at_call 55; (with_reducible refine (drawSome_any A n cap _ (by exact HA.out) hn HC.out).mono ?_); rintro e w1 ⟨⟨V, R0, m0, A0, c0, i, rfl, hV0, hV1, hl0, hi0, hi1, ho0⟩, hb⟩; have hx := hb; have HB_w1 : Hid (Below w.heap.size w w1) := HB_w.out.trans (hx.mono HB_w.out.size); have O0_w1 := Lib.hid (own_mono ho0 (show w.heap.size ≤ _ by have h_ := HB_w.out.size; first | omega | (simp; omega))); clear hx hb)
    | (go_at_call 46; (with_reducible refine (implSome_any V R0 A0 c0 m0 i _ (by exact NAt.of_own (O0_w1.out.alloc _)) (by omega)).mono ?_); rintro e w2 ⟨hmk, hb⟩; obtain ⟨V1, R1, m1, b1, A1, c1, hmv, rfl, ho1, hl1⟩ := hmk.is; have HMV : Hid (MkV (OkS V m0 R0 ∧ 0 ≤ i ∧ i ≤ V - 1) V (mk V.toNat 0 (someF m0 R0 i.toNat) []) V1 R1 m1 b1) := hmv.out.conv (by rw [okS_iff]) (fun _ => rfl); clear hmk; have hx : Below w1.heap.size w1 w2 := ((Below.refl w1.heap.size w1).alloc (Nat.le_refl _) _).trans (hb.mono (by simp)); have HB_w2 : Hid (Below w.heap.size w w2) := HB_w1.out.trans (hx.mono HB_w1.out.size); have O0_w2 := Lib.hid (own_below O0_w1.out hx); have X0_w2 : Hid (Blk w2 (w1.heap.size) 28 #[.int .i64 V, .slice A0 m0.length c0, .int .i64 R0]) := (Blk.new_at _ 28 #[.int .i64 V, .slice A0 m0.length c0, .int .i64 R0] (g := w1.heap.size) (by simp)).below hb (by simp); have O1_w2 := Lib.hid (own_mono ho1.out (show w.heap.size ≤ _ by have h_ := HB_w1.out.size; first | omega | (simp; omega))); clear hx hb; obtain ⟨q1_0, q1_1, q1_2⟩ := ((X0_w2.out.alloc (.cells #[.int .i64 V1, .slice A1 m1.length c1, .int .i64 R1] 28))).three)
    | (go_at_call 44; (with_reducible refine (specSome_any V R0 A0 c0 m0 i _ (by exact NAt.of_own (O0_w2.out.alloc _)) (by omega)).mono ?_); rintro e w3 ⟨hmk, hb⟩; obtain ⟨A2, c2, rfl, ho2⟩ := hmk.again HMV.out; clear hmk; have hx : Below w2.heap.size w2 w3 := ((Below.refl w2.heap.size w2).alloc (Nat.le_refl _) _).trans (hb.mono (by simp)); have HB_w3 : Hid (Below w.heap.size w w3) := HB_w2.out.trans (hx.mono HB_w2.out.size); have O0_w3 := Lib.hid (own_below O0_w2.out hx); have O1_w3 := Lib.hid (own_below O1_w2.out hx); have X0_w3 := Lib.hid (X0_w2.out.below hx X0_w2.out.lt); have X1_w3 : Hid (Blk w3 (w2.heap.size) 28 #[.int .i64 V1, .slice A1 m1.length c1, .int .i64 R1]) := (Blk.new_at _ 28 #[.int .i64 V1, .slice A1 m1.length c1, .int .i64 R1] (g := w2.heap.size) (by simp)).below hb (by simp); have O2_w3 := Lib.hid (own_mono ho2.out (show w.heap.size ≤ _ by have h_ := HB_w2.out.size; first | omega | (simp; omega))); clear q1_0 q1_1 q1_2; clear hx hb; obtain ⟨q2_0, q2_1, q2_2⟩ := ((X1_w3.out.alloc (.cells #[.int .i64 V1, .slice A2 m1.length c2, .int .i64 R1] 28))).three)
    | (go_at_call 15; (with_reducible refine (same_yes A1 A2 c1 c2 _ (by exact NAt.of_own (O1_w3.out.alloc _)) (by exact NAt.of_own (O2_w3.out.alloc _)) (by omega)).mono ?_); rintro e w4 ⟨rfl, hb⟩; have hx : Below w3.heap.size w3 w4 := ((Below.refl w3.heap.size w3).alloc (Nat.le_refl _) _).trans (hb.mono (by simp)); have HB_w4 : Hid (Below w.heap.size w w4) := HB_w3.out.trans (hx.mono HB_w3.out.size); have O0_w4 := Lib.hid (own_below O0_w3.out hx); have O1_w4 := Lib.hid (own_below O1_w3.out hx); have X0_w4 := Lib.hid (X0_w3.out.below hx X0_w3.out.lt); have X1_w4 := Lib.hid (X1_w3.out.below hx X1_w3.out.lt); clear q2_0 q2_1 q2_2; clear hx hb))
  cases b1 with
  | false =>
    go_wp2_with fail
    go_ret
    exact ⟨rfl, HB_w4.out⟩
  | true =>
    obtain ⟨hp, hl16, rfl, hR1, hm1⟩ : (OkS V m0 R0 ∧ 0 ≤ i ∧ i ≤ V - 1) ∧ m1.length ≤ 600 ∧ V = V1 ∧ R1 = (mk V.toNat 0 (someF m0 R0 i.toNat) []).1 ∧ m1 = (mk V.toNat 0 (someF m0 R0 i.toNat) []).2 := by
      rcases HMV.out with ⟨hp, hl, rfl, rfl, rfl, _⟩ | ⟨_, _, _, _, h⟩
      · exact ⟨hp, hl, rfl, rfl, rfl⟩
      · cases h
    clear HMV
    obtain ⟨hps, hi0', hiV⟩ := hp
    have ok0 := (okS_iff _ _ _).1 hps
    have hv1 := ok0.1.v1
    obtain ⟨K, rfl⟩ := Int.eq_ofNat_of_zero_le ok0.1.v0
    obtain ⟨I, rfl⟩ := Int.eq_ofNat_of_zero_le hi0'
    have hIK : I < K := by omega
    have hK13 : K ≤ 13 := by omega
    have hsome : mk K 0 (someF m0 R0 I) [] = (R1, m1) := by rw [hR1, hm1]; rfl
    have OK0 := Lib.hid ok0
    have HSM := Lib.hid hsome
    have OK1 := Lib.hid (mk_has' hK13 hsome hl16).1
    clear hps ok0 hsome hR1 hm1 hi0' hiV
    obtain ⟨d0, d1, d2⟩ := X0_w4.out.three
    go_wp2_with (first
      | (go_at_call 56; (with_reducible show Calls _ _ #[_, _, .bool false] _ _); (with_reducible refine (implFix_any (K : Int) R0 A0 c0 m0 (I : Int) false _ (by exact NAt.of_own O0_w4.out) (by omega)).mono ?_); rintro e w5 ⟨hmk, hb⟩; obtain ⟨R3, m3, A3, c3, rfl, ho, hl3, HF3⟩ := hmk.fixI OK0.out hIK; clear hmk; have hx := hb; have HB_w5 : Hid (Below w.heap.size w w5) := HB_w4.out.trans (hx.mono HB_w4.out.size); have O0_w5 := Lib.hid (own_below O0_w4.out hx); have O1_w5 := Lib.hid (own_below O1_w4.out hx); have X0_w5 := Lib.hid (X0_w4.out.below hx X0_w4.out.lt); have X1_w5 := Lib.hid (X1_w4.out.below hx X1_w4.out.lt); have O3_w5 := Lib.hid (own_mono ho.out (show w.heap.size ≤ _ by have h_ := HB_w4.out.size; first | omega | (simp; omega))); clear d0 d1 d2; clear hx hb; obtain ⟨q3_0, q3_1, q3_2⟩ := ((X0_w5.out.alloc (.cells #[.int .i64 (K : Int), .slice A3 m3.length c3, .int .i64 R3] 28))).three)
      | (go_at_call 56; (with_reducible show Calls _ _ #[_, _, .bool true] _ _); (with_reducible refine (implFix_any (K : Int) R0 A0 c0 m0 (I : Int) true _ (by exact NAt.of_own (O0_w5.out.alloc _)) (by omega)).mono ?_); rintro e w6 ⟨hmk, hb⟩; obtain ⟨R4, m4, A4, c4, rfl, ho, hl4, HF4⟩ := hmk.fixI OK0.out hIK; clear hmk; have hx : Below w5.heap.size w5 w6 := ((Below.refl w5.heap.size w5).alloc (Nat.le_refl _) _).trans (hb.mono (by simp)); have HB_w6 : Hid (Below w.heap.size w w6) := HB_w5.out.trans (hx.mono HB_w5.out.size); have O0_w6 := Lib.hid (own_below O0_w5.out hx); have O1_w6 := Lib.hid (own_below O1_w5.out hx); have O3_w6 := Lib.hid (own_below O3_w5.out hx); have X0_w6 := Lib.hid (X0_w5.out.below hx X0_w5.out.lt); have X1_w6 := Lib.hid (X1_w5.out.below hx X1_w5.out.lt); have X3_w6 : Hid (Blk w6 (w5.heap.size) 28 #[.int .i64 (K : Int), .slice A3 m3.length c3, .int .i64 R3]) := (Blk.new_at _ 28 #[.int .i64 (K : Int), .slice A3 m3.length c3, .int .i64 R3] (g := w5.heap.size) (by simp)).below hb (by simp); have O4_w6 := Lib.hid (own_mono ho.out (show w.heap.size ≤ _ by have h_ := HB_w5.out.size; first | omega | (simp; omega))); clear q3_0 q3_1 q3_2; clear hx hb; obtain ⟨q4_0, q4_1, q4_2⟩ := ((X3_w6.out.alloc (.cells #[.int .i64 (K : Int), .slice A4 m4.length c4, .int .i64 R4] 28))).three))
    have h3 := mk_has' hK13 HF3.out hl3
    have h4 := mk_has' hK13 HF4.out hl4
    have OK3 := Lib.hid h3.1
    have OK4 := Lib.hid h4.1
    have HOR : Hid (mk (K : Int).toNat 0 (fun c => has m3 R3 c || has m4 R4 c) [] = (R1, m1)) := by
      show mk K 0 _ [] = _
      rw [← HSM.out]
      refine mk_congr _ _ _ _ _ fun c hc => ?_
      show (has m3 R3 c || has m4 R4 c) = someF m0 R0 I c
      rw [h3.2 c hc, h4.2 c hc]
      exact (some_eq (has m0 R0) I c).symm
    have NU1 : Hid (¬ UsesP m1 (I : Int)) := no_uses hIK HSM.out (fun b c => by
      show (has m0 R0 (setb I b c) || has m0 R0 (setb I b c ^^^ 2 ^ I)) = (has m0 R0 c || has m0 R0 (c ^^^ 2 ^ I))
      rw [some_eq (has m0 R0) I (setb I b c), some_eq (has m0 R0) I c, setb_setb, setb_setb])
    have NU3 : Hid (¬ UsesP m3 (I : Int)) := no_uses hIK HF3.out (fun b c => by show has m0 R0 _ = has m0 R0 _; rw [setb_setb])
    have NU4 : Hid (¬ UsesP m4 (I : Int)) := no_uses hIK HF4.out (fun b c => by show has m0 R0 _ = has m0 R0 _; rw [setb_setb])
    have HU := uses_iff hIK hK13 OK0.out HF3.out HF4.out
    clear h3 h4
    have hm0 : m0.length ≤ 1048576 := by omega
    have hm1 : m1.length ≤ 1048576 := by omega
    have hm3 : m3.length ≤ 1048576 := by omega
    have hm4 : m4.length ≤ 1048576 := by omega
    go_wp2_with (first
      | (go_at_call 30; (with_reducible refine (implOr_any (K : Int) R3 A3 c3 m3 (K : Int) R4 A4 c4 m4 _ (by exact NAt.of_own (O3_w6.out.alloc _)) hm3 (by exact NAt.of_own (O4_w6.out.alloc _)) hm4).mono ?_); rintro e w7 ⟨hmk, hb⟩; obtain ⟨A5, c5, rfl, ho⟩ := hmk.known ⟨OK3.out, OK4.out, rfl⟩ HOR.out hl16; clear hmk; have hx : Below w6.heap.size w6 w7 := ((Below.refl w6.heap.size w6).alloc (Nat.le_refl _) _).trans (hb.mono (by simp)); have HB_w7 : Hid (Below w.heap.size w w7) := HB_w6.out.trans (hx.mono HB_w6.out.size); have O0_w7 := Lib.hid (own_below O0_w6.out hx); have O1_w7 := Lib.hid (own_below O1_w6.out hx); have O3_w7 := Lib.hid (own_below O3_w6.out hx); have O4_w7 := Lib.hid (own_below O4_w6.out hx); have X0_w7 := Lib.hid (X0_w6.out.below hx X0_w6.out.lt); have X1_w7 := Lib.hid (X1_w6.out.below hx X1_w6.out.lt); have X3_w7 := Lib.hid (X3_w6.out.below hx X3_w6.out.lt); have X4_w7 : Hid (Blk w7 (w6.heap.size) 28 #[.int .i64 (K : Int), .slice A4 m4.length c4, .int .i64 R4]) := (Blk.new_at _ 28 #[.int .i64 (K : Int), .slice A4 m4.length c4, .int .i64 R4] (g := w6.heap.size) (by simp)).below hb (by simp); have O5_w7 := Lib.hid (own_mono ho.out (show w.heap.size ≤ _ by have h_ := HB_w6.out.size; first | omega | (simp; omega))); clear q4_0 q4_1 q4_2; clear hx hb))
    have HB_z0 : Hid (Below w.heap.size w (w7.alloc (.cells #[.int .i64 (K : Int), .slice A5 m1.length c5, .int .i64 R1] 28))) := (HB_w7.out.alloc HB_w7.out.size _)
    have O0_z0 := Lib.hid (O0_w7.out.alloc (.cells #[.int .i64 (K : Int), .slice A5 m1.length c5, .int .i64 R1] 28))
    have O1_z0 := Lib.hid (O1_w7.out.alloc (.cells #[.int .i64 (K : Int), .slice A5 m1.length c5, .int .i64 R1] 28))
    have O3_z0 := Lib.hid (O3_w7.out.alloc (.cells #[.int .i64 (K : Int), .slice A5 m1.length c5, .int .i64 R1] 28))
    have O4_z0 := Lib.hid (O4_w7.out.alloc (.cells #[.int .i64 (K : Int), .slice A5 m1.length c5, .int .i64 R1] 28))
    have O5_z0 := Lib.hid (O5_w7.out.alloc (.cells #[.int .i64 (K : Int), .slice A5 m1.length c5, .int .i64 R1] 28))
    have X0_z0 := Lib.hid ((X0_w7.out.alloc (.cells #[.int .i64 (K : Int), .slice A5 m1.length c5, .int .i64 R1] 28)))
    have X1_z0 := Lib.hid ((X1_w7.out.alloc (.cells #[.int .i64 (K : Int), .slice A5 m1.length c5, .int .i64 R1] 28)))
    have X3_z0 := Lib.hid ((X3_w7.out.alloc (.cells #[.int .i64 (K : Int), .slice A5 m1.length c5, .int .i64 R1] 28)))
    have X4_z0 := Lib.hid ((X4_w7.out.alloc (.cells #[.int .i64 (K : Int), .slice A5 m1.length c5, .int .i64 R1] 28)))
    have X5_z0 := Lib.hid (Blk.new w7 28 #[.int .i64 (K : Int), .slice A5 m1.length c5, .int .i64 R1])
    generalize hz0 : (w7.alloc (.cells #[.int .i64 (K : Int), .slice A5 m1.length c5, .int .i64 R1] 28)) = z0 at *
    clear hz0
    have K1 := fun x : Ext z0 => ext_cell X0_z0.out.three.1 (by have h := X0_z0.out.lt; exact h) x
    have K2 := fun x : Ext z0 => ext_cell X0_z0.out.three.2.1 (by have h := X0_z0.out.lt; exact h) x
    have K3 := fun x : Ext z0 => ext_cell X0_z0.out.three.2.2 (by have h := X0_z0.out.lt; exact h) x
    have K4 := fun x : Ext z0 => ext_cell X1_z0.out.three.1 (by have h := X1_z0.out.lt; exact h) x
    have K5 := fun x : Ext z0 => ext_cell X1_z0.out.three.2.1 (by have h := X1_z0.out.lt; exact h) x
    have K6 := fun x : Ext z0 => ext_cell X1_z0.out.three.2.2 (by have h := X1_z0.out.lt; exact h) x
    have K7 := fun x : Ext z0 => ext_cell X3_z0.out.three.1 (by have h := X3_z0.out.lt; exact h) x
    have K8 := fun x : Ext z0 => ext_cell X3_z0.out.three.2.1 (by have h := X3_z0.out.lt; exact h) x
    have K9 := fun x : Ext z0 => ext_cell X3_z0.out.three.2.2 (by have h := X3_z0.out.lt; exact h) x
    have K10 := fun x : Ext z0 => ext_cell X4_z0.out.three.1 (by have h := X4_z0.out.lt; exact h) x
    have K11 := fun x : Ext z0 => ext_cell X4_z0.out.three.2.1 (by have h := X4_z0.out.lt; exact h) x
    have K12 := fun x : Ext z0 => ext_cell X4_z0.out.three.2.2 (by have h := X4_z0.out.lt; exact h) x
    have K13 := fun x : Ext z0 => ext_cell X5_z0.out.three.1 (by have h := X5_z0.out.lt; exact h) x
    have K14 := fun x : Ext z0 => ext_cell X5_z0.out.three.2.1 (by have h := X5_z0.out.lt; exact h) x
    have K15 := fun x : Ext z0 => ext_cell X5_z0.out.three.2.2 (by have h := X5_z0.out.lt; exact h) x
    by_cases hu : UsesP m0 (I : Int)
    case pos =>
      have HS2 : Hid (¬ (R3 = R4 ∧ m3 = m4)) := HU.1 hu
      have HSI := Lib.hid (fun W (h1 : NAt W A3 m3) (h2 : NAt W A4 m4) => same_is (V := (K : Int)) false A3 A4 c3 c4 W ⟨fun h => Bool.noConfusion h, fun h => (HS2.out h).elim⟩ h1 h2 hm3 hm4)
      have HUU := Lib.hid hu
      clear hu HU
      go_wp2_with fail
      refine wp_region_ext (by kernel_rfl) (by kernel_rfl) ?_
      repeat go_big_quiet_step ((first
        | (go_at_call 15; (with_reducible show Calls _ _ #[.agg #[_, .slice A5 _ _, _], _] _ _); with_reducible (exact ext_below _ (same_yes A5 A1 c5 c1 _ ((NAt.of_own O5_z0.out).below (Subtype.property _)) ((NAt.of_own O1_z0.out).below (Subtype.property _)) hm1)))
        | (go_at_call 15; (with_reducible show Calls _ _ #[.agg #[_, .slice A3 _ _, _], _] _ _); with_reducible (exact ext_below _ (HSI.out _ ((NAt.of_own O3_z0.out).below (Subtype.property _)) ((NAt.of_own O4_z0.out).below (Subtype.property _)))))
        | (go_at_call 57; (with_reducible show Calls _ _ #[.agg #[_, .slice A1 _ _, _], _] _ _); with_reducible (exact ext_below _ (uses_f A1 c1 _ NU1.out ((NAt.of_own O1_z0.out).below (Subtype.property _)) hm1)))
        | (go_at_call 57; (with_reducible show Calls _ _ #[.agg #[_, .slice A3 _ _, _], _] _ _); with_reducible (exact ext_below _ (uses_f A3 c3 _ NU3.out ((NAt.of_own O3_z0.out).below (Subtype.property _)) hm3)))
        | (go_at_call 57; (with_reducible show Calls _ _ #[.agg #[_, .slice A4 _ _, _], _] _ _); with_reducible (exact ext_below _ (uses_f A4 c4 _ NU4.out ((NAt.of_own O4_z0.out).below (Subtype.property _)) hm4)))
        | (go_at_call 57; (with_reducible show Calls _ _ #[.agg #[_, .slice A0 _ _, _], _] _ _); with_reducible (exact ext_below _ (uses_t A0 c0 _ OK0.out HUU.out ((NAt.of_own O0_z0.out).below (Subtype.property _)) hm0)))))
      refine wpQuiet_nil ?_
      intro _ hw'
      obtain ⟨x, hw''⟩ := hw'
      subst hw''
      go_wp2_with fail
      go_ret
      exact ⟨rfl, HB_z0.out.trans (x.2.mono HB_z0.out.size)⟩
    case neg =>
      have HS2 : Hid (R3 = R4 ∧ m3 = m4) := Classical.byContradiction fun h => hu (HU.2 h)
      have HSI := Lib.hid (fun W (h1 : NAt W A3 m3) (h2 : NAt W A4 m4) => same_is (V := (K : Int)) true A3 A4 c3 c4 W ⟨fun _ => HS2.out, fun _ => rfl⟩ h1 h2 hm3 hm4)
      have HUU := Lib.hid hu
      clear hu HU
      go_wp2_with fail
      refine wp_region_ext (by kernel_rfl) (by kernel_rfl) ?_
      repeat go_big_quiet_step ((first
        | (go_at_call 15; (with_reducible show Calls _ _ #[.agg #[_, .slice A5 _ _, _], _] _ _); with_reducible (exact ext_below _ (same_yes A5 A1 c5 c1 _ ((NAt.of_own O5_z0.out).below (Subtype.property _)) ((NAt.of_own O1_z0.out).below (Subtype.property _)) hm1)))
        | (go_at_call 15; (with_reducible show Calls _ _ #[.agg #[_, .slice A3 _ _, _], _] _ _); with_reducible (exact ext_below _ (HSI.out _ ((NAt.of_own O3_z0.out).below (Subtype.property _)) ((NAt.of_own O4_z0.out).below (Subtype.property _)))))
        | (go_at_call 57; (with_reducible show Calls _ _ #[.agg #[_, .slice A1 _ _, _], _] _ _); with_reducible (exact ext_below _ (uses_f A1 c1 _ NU1.out ((NAt.of_own O1_z0.out).below (Subtype.property _)) hm1)))
        | (go_at_call 57; (with_reducible show Calls _ _ #[.agg #[_, .slice A3 _ _, _], _] _ _); with_reducible (exact ext_below _ (uses_f A3 c3 _ NU3.out ((NAt.of_own O3_z0.out).below (Subtype.property _)) hm3)))
        | (go_at_call 57; (with_reducible show Calls _ _ #[.agg #[_, .slice A4 _ _, _], _] _ _); with_reducible (exact ext_below _ (uses_f A4 c4 _ NU4.out ((NAt.of_own O4_z0.out).below (Subtype.property _)) hm4)))
        | (go_at_call 57; (with_reducible show Calls _ _ #[.agg #[_, .slice A0 _ _, _], _] _ _); with_reducible (exact ext_below _ (uses_f A0 c0 _ HUU.out ((NAt.of_own O0_z0.out).below (Subtype.property _)) hm0)))))
      refine wpQuiet_nil ?_
      intro _ hw'
      obtain ⟨x, hw''⟩ := hw'
      subst hw''
      go_wp2_with fail
      go_ret
      exact ⟨rfl, HB_z0.out.trans (x.2.mono HB_z0.out.size)⟩
end Go.Proofs.Ytffefegjnbfobaa
