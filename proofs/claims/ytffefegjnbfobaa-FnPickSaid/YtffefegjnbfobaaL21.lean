/- The law FnPick, walked. -/
import Derived.Test.YtffefegjnbfobaaH9
import Derived.Test.YtffefegjnbfobaaLd
import Derived.Test.YtffefegjnbfobaaQ4
import Derived.Test.YtffefegjnbfobaaVc
import Derived.Test.YtffefegjnbfobaaLe
import Derived.Deep.DeepCutAuto
import Derived.Deep.RegionHeld3
namespace Go.Proofs.Ytffefegjnbfobaa
open Go.RowKit
open B

theorem mk_has {V : Int} {F : Nat → Bool} {R : Int} {ms : List Nd} (h0 : 0 ≤ V) (h1 : V ≤ 13) (h : mk V.toNat 0 F [] = (R, ms)) (hl : ms.length ≤ 600) : OkI V ms R ∧ ∀ c, c < 2 ^ V.toNat → has ms R c = F c := by
  obtain ⟨k, rfl⟩ := Int.eq_ofNat_of_zero_le h0
  have hk : ((k : Nat) : Int).toNat = k := by omega
  rw [hk] at h ⊢
  have := mk_ok (k := k) (f := F) (by omega) (by rw [h]; exact hl)
  rw [h] at this
  exact this
theorem const_t {V : Int} (b : Bool) (w : World) (h0 : 0 ≤ V) (h1 : V ≤ 13) :
    Calls Try.prog 42 #[.int .i64 V, .bool b] w fun e w' => (∃ (A : Option Addr) (c : Nat), e = .returned (.tuple #[.agg #[.int .i64 V, .slice A 0 c, .int .i64 (b2i b)], .bool true])) ∧ Below w.heap.size w w' :=
  (implConst_any V b w).mono fun e w' h => by
    obtain ⟨⟨V', R', ms, bb, A, c, hv, he, ho⟩, hb⟩ := h
    rcases hv with ⟨_, _, rfl, rfl, rfl, rfl⟩ | ⟨hn, _⟩
    · exact ⟨⟨A, c, he⟩, hb⟩
    · exact (hn ⟨⟨h0, h1⟩, by simp⟩).elim
theorem eval_c {V : Int} (b : Bool) (x : Int) (c : Nat) (A : Option Addr) (cap : Nat) (w : World) (h0 : 0 ≤ V) (h1 : V ≤ 13) (hx : x = (c : Int)) (hc : c < 2 ^ V.toNat) :
    Calls Try.prog 18 #[.agg #[.int .i64 V, .slice A 0 cap, .int .i64 (b2i b)], .int .i64 x] w fun e w' => e = .returned (.bool b) ∧ Below w.heap.size w w' :=
  eval_b (ns := []) x c b A cap w ((okS_iff _ _ _).1 (const_ok h0 h1 b)) hx hc (has_const b c) (fun h => absurd h (by simp)) (by simp)
/-- What BddVar answers. -/
theorem var_t {K I : Nat} {bi : Bool} (h1 : (K : Int) ≤ 13) (hbi : decide ((I : Int) < (K : Int)) = bi) {V' R' : Int} {ms : List Nd} {b : Bool} (h : MkV (0 ≤ (K : Int) ∧ (K : Int) ≤ 13 ∧ 0 ≤ (I : Int) ∧ (I : Int) ≤ (K : Int) - 1) (K : Int) (2, [⟨(I : Int), 0, 1⟩]) V' R' ms b) :
    bi = b ∧ (bi = true → V' = (K : Int) ∧ OkI (K : Int) ms R' ∧ ∀ c, has ms R' c = c.testBit I) := by
  subst hbi
  rcases h with ⟨hp, _, rfl, rfl, rfl, rfl⟩ | ⟨hn, rfl, rfl, rfl, rfl⟩
  · have hlt : (I : Int) < (K : Int) := by omega
    exact ⟨by simpa using hlt, fun _ => ⟨rfl, (okS_iff _ _ _).1 (var_ok h1 hlt).1, (var_ok h1 hlt).2⟩⟩
  · have hlt : ¬ (I : Int) < (K : Int) := fun h => hn ⟨⟨by omega, h1, by omega, by omega⟩, by simp⟩
    exact ⟨by simpa using hlt, fun h => absurd (of_decide_eq_true h) hlt⟩
theorem Mkd.sure {p : Prop} {V : Int} {r : Int × List Nd} {B : Nat} {w' : World} {e : Ending} (h : Mkd p V r B w' e) (hp : p) (hl : r.2.length ≤ 600) :
    ∃ (A : Option Addr) (c : Nat), e = .returned (.tuple #[.agg #[.int .i64 V, .slice A r.2.length c, .int .i64 r.1], .bool true]) ∧ Hid (w'.ownsRow B 89 3 (.slice A r.2.length c) r.2.length (ncells r.2)) := by
  obtain ⟨V', R', ms, b, A, c, hv, he, ho⟩ := h
  rcases hv with ⟨_, _, rfl, rfl, rfl, rfl⟩ | ⟨hn, _⟩
  · exact ⟨A, c, he, ho⟩
  · exact (hn ⟨hp, hl⟩).elim

set_option maxRecDepth 100000 in
set_option maxHeartbeats 8000000 in
theorem fnPick_law (A : Option Addr) (n cap : Nat) (B : Option Addr) (m capB : Nat) (w : World) (hA : BAt w A n) (hn : n ≤ cap) (hc : cap ≤ maxLen) (hB : BAt w B m) (_hm : m ≤ capB) (_hcB : capB ≤ maxLen) :
    Calls Try.prog 7 #[.slice A n cap, .slice B m capB] w fun e w' => e = .returned (.bool true) ∧ Below w.heap.size w w' := by
  have HA := Lib.hid hA
  obtain ⟨f, hf⟩ := hB.f
  have HF := Lib.hid hf
  have HBV := Lib.hid (bv_bd hf)
  have HC := Lib.hid hc
  unfold maxLen at hc
  clear hA hB hf
  have HB_w : Hid (Below w.heap.size w w) := Below.refl _ _
  by_cases hbig : 1048576 < n
  case pos =>
    clear hc
    go_enter Try.func7, Try.ntmps7
    go_wp2_with fail
    go_ret
    exact ⟨rfl, Below.refl _ _⟩
  by_cases hbig2 : 1048576 < m
  case pos =>
    clear hc
    go_enter Try.func7, Try.ntmps7
    go_wp2_with fail
    go_ret
    exact ⟨rfl, Below.refl _ _⟩
  have hm63 : m ≤ 9223372036854775807 := by omega
  clear hc
  go_enter Try.func7, Try.ntmps7
  go_upto_region 8 with (first
    | (go_at_call 39; (with_reducible refine (drawIf_any A n cap _ (by exact HA.out) hn HC.out).mono ?_); rintro e w1 ⟨⟨V0, R0, m0, A0, c0, V1, R1, m1, A1, c1, V2, R2, m2, A2, c2, rfl, hl0, hl1, hl2, ho0, ho1, ho2⟩, hb⟩; have hx := hb; have HB_w1 : Hid (Below w.heap.size w w1) := HB_w.out.trans (hx.mono HB_w.out.size); have O0_w1 := Lib.hid (own_mono ho0 (show w.heap.size ≤ _ by have h_ := HB_w.out.size; first | omega | (simp; omega))); have O1_w1 := Lib.hid (own_mono ho1 (show w.heap.size ≤ _ by have h_ := HB_w.out.size; first | omega | (simp; omega))); have O2_w1 := Lib.hid (own_mono ho2 (show w.heap.size ≤ _ by have h_ := HB_w.out.size; first | omega | (simp; omega))); clear hx hb)
    | (go_at_call 33; (with_reducible refine (implIf_any V0 R0 A0 c0 m0 V1 R1 A1 c1 m1 V2 R2 A2 c2 m2 _ (by exact NAt.of_own (((O0_w1.out.alloc _).alloc _).alloc _)) (by omega) (by exact NAt.of_own (((O1_w1.out.alloc _).alloc _).alloc _)) (by omega) (by exact NAt.of_own (((O2_w1.out.alloc _).alloc _).alloc _)) (by omega)).mono ?_); rintro e w2 ⟨hmk, hb⟩; obtain ⟨V3, R3, m3, b3, A3, c3, hmv, rfl, ho3, hl3⟩ := hmk.is; have HMV : Hid (MkV (OkS V0 m0 R0 ∧ OkS V1 m1 R1 ∧ OkS V2 m2 R2 ∧ V1 = V0 ∧ V2 = V0) V0 (mk V0.toNat 0 (ifF m0 R0 m1 R1 m2 R2) []) V3 R3 m3 b3) := hmv.out.conv (by rw [okS_iff, okS_iff, okS_iff]) (fun _ => rfl); clear hmk; have hx : Below w1.heap.size w1 w2 := ((((Below.refl w1.heap.size w1).alloc (Nat.le_refl _) _).alloc (by simp) _).alloc (by simp <;> omega) _).trans (hb.mono (by simp <;> omega)); have HB_w2 : Hid (Below w.heap.size w w2) := HB_w1.out.trans (hx.mono HB_w1.out.size); have O0_w2 := Lib.hid (own_below O0_w1.out hx); have O1_w2 := Lib.hid (own_below O1_w1.out hx); have O2_w2 := Lib.hid (own_below O2_w1.out hx); have X0_w2 : Hid (Blk w2 (w1.heap.size) 28 #[.int .i64 V0, .slice A0 m0.length c0, .int .i64 R0]) := (((Blk.new_at _ 28 #[.int .i64 V0, .slice A0 m0.length c0, .int .i64 R0] (g := w1.heap.size) (by simp)).alloc _).alloc _).below hb (by simp <;> omega); have X1_w2 : Hid (Blk w2 (w1.heap.size + 1) 28 #[.int .i64 V1, .slice A1 m1.length c1, .int .i64 R1]) := ((Blk.new_at _ 28 #[.int .i64 V1, .slice A1 m1.length c1, .int .i64 R1] (g := w1.heap.size + 1) (by simp)).alloc _).below hb (by simp <;> omega); have X2_w2 : Hid (Blk w2 (w1.heap.size + 1 + 1) 28 #[.int .i64 V2, .slice A2 m2.length c2, .int .i64 R2]) := (Blk.new_at _ 28 #[.int .i64 V2, .slice A2 m2.length c2, .int .i64 R2] (g := w1.heap.size + 1 + 1) (by simp)).below hb (by simp <;> omega); have O3_w2 := Lib.hid (own_mono ho3.out (show w.heap.size ≤ _ by have h_ := HB_w1.out.size; first | omega | (simp; omega))); clear hx hb; obtain ⟨q1_0, q1_1, q1_2⟩ := ((X0_w2.out.alloc (.cells #[.int .i64 V3, .slice A3 m3.length c3, .int .i64 R3] 28))).three; obtain ⟨q2_0, q2_1, q2_2⟩ := ((X1_w2.out.alloc (.cells #[.int .i64 V3, .slice A3 m3.length c3, .int .i64 R3] 28))).three; obtain ⟨q3_0, q3_1, q3_2⟩ := ((X2_w2.out.alloc (.cells #[.int .i64 V3, .slice A3 m3.length c3, .int .i64 R3] 28))).three)
    | (go_at_call 40; (with_reducible refine (specIf_any V0 R0 A0 c0 m0 V1 R1 A1 c1 m1 V2 R2 A2 c2 m2 _ (by exact NAt.of_own (O0_w2.out.alloc _)) (by omega) (by exact NAt.of_own (O1_w2.out.alloc _)) (by omega) (by exact NAt.of_own (O2_w2.out.alloc _)) (by omega)).mono ?_); rintro e w3 ⟨hmk, hb⟩; obtain ⟨A4, c4, rfl, ho4⟩ := hmk.again HMV.out; clear hmk; have hx : Below w2.heap.size w2 w3 := ((Below.refl w2.heap.size w2).alloc (Nat.le_refl _) _).trans (hb.mono (by simp)); have HB_w3 : Hid (Below w.heap.size w w3) := HB_w2.out.trans (hx.mono HB_w2.out.size); have O0_w3 := Lib.hid (own_below O0_w2.out hx); have O1_w3 := Lib.hid (own_below O1_w2.out hx); have O2_w3 := Lib.hid (own_below O2_w2.out hx); have O3_w3 := Lib.hid (own_below O3_w2.out hx); have X0_w3 := Lib.hid (X0_w2.out.below hx X0_w2.out.lt); have X1_w3 := Lib.hid (X1_w2.out.below hx X1_w2.out.lt); have X2_w3 := Lib.hid (X2_w2.out.below hx X2_w2.out.lt); have X3_w3 : Hid (Blk w3 (w2.heap.size) 28 #[.int .i64 V3, .slice A3 m3.length c3, .int .i64 R3]) := (Blk.new_at _ 28 #[.int .i64 V3, .slice A3 m3.length c3, .int .i64 R3] (g := w2.heap.size) (by simp)).below hb (by simp); have O4_w3 := Lib.hid (own_mono ho4.out (show w.heap.size ≤ _ by have h_ := HB_w2.out.size; first | omega | (simp; omega))); clear q1_0 q1_1 q1_2 q2_0 q2_1 q2_2 q3_0 q3_1 q3_2; clear hx hb; obtain ⟨q4_0, q4_1, q4_2⟩ := ((X3_w3.out.alloc (.cells #[.int .i64 V3, .slice A4 m3.length c4, .int .i64 R3] 28))).three)
    | (go_at_call 15; (with_reducible refine (ldBdd_any V3 V3 R3 R3 A3 A4 c3 c4 m3 m3 _ (by exact NAt.of_own (O3_w3.out.alloc _)) (by exact NAt.of_own (O4_w3.out.alloc _)) (by omega) (by omega)).mono ?_); rintro e w4 ⟨hs, hb⟩; obtain rfl := hs.t ⟨rfl, rfl, rfl⟩; clear hs; have hx : Below w3.heap.size w3 w4 := ((Below.refl w3.heap.size w3).alloc (Nat.le_refl _) _).trans (hb.mono (by simp)); have HB_w4 : Hid (Below w.heap.size w w4) := HB_w3.out.trans (hx.mono HB_w3.out.size); have O0_w4 := Lib.hid (own_below O0_w3.out hx); have O1_w4 := Lib.hid (own_below O1_w3.out hx); have O2_w4 := Lib.hid (own_below O2_w3.out hx); have O3_w4 := Lib.hid (own_below O3_w3.out hx); have X0_w4 := Lib.hid (X0_w3.out.below hx X0_w3.out.lt); have X1_w4 := Lib.hid (X1_w3.out.below hx X1_w3.out.lt); have X2_w4 := Lib.hid (X2_w3.out.below hx X2_w3.out.lt); have X3_w4 := Lib.hid (X3_w3.out.below hx X3_w3.out.lt); clear q4_0 q4_1 q4_2; clear hx hb))
  cases b3 with
  | false =>
    go_wp2_with fail
    go_ret
    exact ⟨rfl, HB_w4.out⟩
  | true =>
    obtain ⟨hp, hl36, rfl, hR3, hm3, -⟩ : (OkS V0 m0 R0 ∧ OkS V1 m1 R1 ∧ OkS V2 m2 R2 ∧ V1 = V0 ∧ V2 = V0) ∧ m3.length ≤ 600 ∧ V0 = V3 ∧ R3 = (mk V0.toNat 0 (ifF m0 R0 m1 R1 m2 R2) []).1 ∧ m3 = (mk V0.toNat 0 (ifF m0 R0 m1 R1 m2 R2) []).2 ∧ True := by
      rcases HMV.out with ⟨hp, hl, rfl, rfl, rfl, _⟩ | ⟨_, _, _, _, h⟩
      · exact ⟨hp, hl, rfl, rfl, rfl, trivial⟩
      · cases h
    clear HMV
    obtain ⟨hp0, hp1, hp2, rfl, rfl⟩ := hp
    have ok0 := (okS_iff _ _ _).1 hp0
    have ok1 := (okS_iff _ _ _).1 hp1
    have ok2 := (okS_iff _ _ _).1 hp2
    have hv0 := ok0.1.v0
    have hv1 := ok0.1.v1
    obtain ⟨K, rfl⟩ := Int.eq_ofNat_of_zero_le hv0
    have hmk := mk_has (F := ifF m0 R0 m1 R1 m2 R2) hv0 hv1 (R := R3) (ms := m3) (by rw [hR3, hm3]) hl36
    have OK0 := Lib.hid ok0
    have OK1 := Lib.hid ok1
    have OK2 := Lib.hid ok2
    have OK3 := Lib.hid hmk.1
    have HH3 := Lib.hid hmk.2
    obtain ⟨Q, hQ⟩ : ∃ Q, Q = 2 ^ K := ⟨_, rfl⟩
    have hQ8 : Q ≤ 8192 := by rw [hQ]; exact pow13 (by omega)
    have hQ0 : 0 < Q := by rw [hQ]; exact Nat.pow_pos (by omega)
    have eQ : wrap64 (2 ^ K) = (Q : Int) := by
      have : ((2 : Int) ^ K) = ((2 ^ K : Nat) : Int) := by simp
      rw [this, ← hQ]; unfold wrap64; omega
    have HQK := Lib.hid hQ
    have EQ := Lib.hid eQ
    clear hQ eQ
    clear hp0 hp1 hp2 ok0 ok1 ok2 hmk hR3 hm3 hv0
    obtain ⟨d0, d1, d2⟩ := X0_w4.out.three
    obtain ⟨v0, hvv⟩ : ∃ x, x = bv f m 0 := ⟨_, rfl⟩
    have hv0a := (HBV.out 0).1
    have hv0b := (HBV.out 0).2
    rw [← hvv] at hv0a hv0b
    have HVV := Lib.hid hvv
    clear hvv
    have eK : IntKind.i64.wrap ((K : Int) + 1) = (K : Int) + 1 := wrap_eq (by omega) (by omega)
    have eK2 : (((K : Int) + 1) == 0) = false := by rw [beq_eq_false_iff_ne]; omega
    obtain ⟨I, hI⟩ : ∃ I : Nat, (v0 % ((K : Int) + 1)) = (I : Int) := ⟨_, (Int.toNat_of_nonneg (Int.emod_nonneg _ (by omega))).symm⟩
    have hIK : I ≤ K := by have := Int.emod_lt_of_pos v0 (show (0 : Int) < (K : Int) + 1 by omega); omega
    have eI : Int.tmod v0 ((K : Int) + 1) = (I : Int) := by rw [Int.tmod_eq_emod_of_nonneg hv0a]; exact hI
    have eI2 : IntKind.i64.wrap (I : Int) = (I : Int) := wrap_eq (by omega) (by omega)
    clear hI
    go_wp2_with fail
    go_quiet ((go_at_call 26; exact quiet_leftN (byte_v v0 f B m capB 0 _ (HF.out.below (below_drewN HB_w4.out _)) hm63 (by decide) HVV.out)))
    clear eK eK2 eI eI2
    generalize hdr : World.drewN w4 _ = w5
    have hx : Below w4.heap.size w4 w5 := by rw [← hdr]; exact below_drewN (Below.refl _ _) _
    clear hdr
    have HB_w5 : Hid (Below w.heap.size w w5) := HB_w4.out.trans (hx.mono HB_w4.out.size)
    have O0_w5 := Lib.hid (own_below O0_w4.out hx)
    have O1_w5 := Lib.hid (own_below O1_w4.out hx)
    have O2_w5 := Lib.hid (own_below O2_w4.out hx)
    have O3_w5 := Lib.hid (own_below O3_w4.out hx)
    have X0_w5 := Lib.hid (X0_w4.out.below hx X0_w4.out.lt)
    have X1_w5 := Lib.hid (X1_w4.out.below hx X1_w4.out.lt)
    have X2_w5 := Lib.hid (X2_w4.out.below hx X2_w4.out.lt)
    have X3_w5 := Lib.hid (X3_w4.out.below hx X3_w4.out.lt)
    clear hx
    obtain ⟨bi, hbi⟩ : ∃ bi, decide (I < K) = bi := ⟨_, rfl⟩
    have HBI : Hid (decide ((I : Int) < (K : Int)) = bi) := by show decide ((I : Int) < (K : Int)) = bi; rw [← hbi]; simp
    have hbb : (!bi == bi) = false := by cases bi <;> rfl
    have HV0 : Hid (0 ≤ (K : Int)) := by show 0 ≤ (K : Int); omega
    have hK20 : (K : Int) ≤ 20 := by omega
    have hKm : -1 ≤ (K : Int) := by omega
    clear d0 d1 d2
    obtain ⟨d0, d1, d2⟩ := X0_w5.out.three
    go_wp2_with (first
      | (go_at_call 41; (with_reducible refine (implVar_any (K : Int) (I : Int) _ hKm hK20).mono ?_); rintro e w6 ⟨hmk, hb⟩; obtain ⟨V5, R5, m5, b5, A5, c5, hmv, rfl, ho5, hl5⟩ := hmk.is; obtain ⟨rfl, hvt⟩ := var_t hv1 HBI.out hmv.out; have HVT := Lib.hid hvt; clear hvt hmv hmk; have hx := hb; have HB_w6 : Hid (Below w.heap.size w w6) := HB_w5.out.trans (hx.mono HB_w5.out.size); have O0_w6 := Lib.hid (own_below O0_w5.out hx); have O1_w6 := Lib.hid (own_below O1_w5.out hx); have O2_w6 := Lib.hid (own_below O2_w5.out hx); have O3_w6 := Lib.hid (own_below O3_w5.out hx); have X0_w6 := Lib.hid (X0_w5.out.below hx X0_w5.out.lt); have X1_w6 := Lib.hid (X1_w5.out.below hx X1_w5.out.lt); have X2_w6 := Lib.hid (X2_w5.out.below hx X2_w5.out.lt); have X3_w6 := Lib.hid (X3_w5.out.below hx X3_w5.out.lt); have O5_w6 := Lib.hid (own_mono ho5.out (show w.heap.size ≤ _ by have h_ := HB_w5.out.size; first | omega | (simp; omega))); clear d0 d1 d2; clear hx hb; obtain ⟨q5_0, q5_1, q5_2⟩ := ((X0_w6.out.alloc (.cells #[.int .i64 V5, .slice A5 m5.length c5, .int .i64 R5] 28))).three)
      | (go_at_call 42; (with_reducible refine (const_t true _ HV0.out hv1).mono ?_); rintro e w7 ⟨⟨A6, c6, rfl⟩, hb⟩; have hx : Below w6.heap.size w6 w7 := ((Below.refl w6.heap.size w6).alloc (Nat.le_refl _) _).trans (hb.mono (by simp)); have HB_w7 : Hid (Below w.heap.size w w7) := HB_w6.out.trans (hx.mono HB_w6.out.size); have O0_w7 := Lib.hid (own_below O0_w6.out hx); have O1_w7 := Lib.hid (own_below O1_w6.out hx); have O2_w7 := Lib.hid (own_below O2_w6.out hx); have O3_w7 := Lib.hid (own_below O3_w6.out hx); have O5_w7 := Lib.hid (own_below O5_w6.out hx); have X0_w7 := Lib.hid (X0_w6.out.below hx X0_w6.out.lt); have X1_w7 := Lib.hid (X1_w6.out.below hx X1_w6.out.lt); have X2_w7 := Lib.hid (X2_w6.out.below hx X2_w6.out.lt); have X3_w7 := Lib.hid (X3_w6.out.below hx X3_w6.out.lt); have X5_w7 : Hid (Blk w7 (w6.heap.size) 28 #[.int .i64 V5, .slice A5 m5.length c5, .int .i64 R5]) := (Blk.new_at _ 28 #[.int .i64 V5, .slice A5 m5.length c5, .int .i64 R5] (g := w6.heap.size) (by simp)).below hb (by simp); clear q5_0 q5_1 q5_2; clear hx hb; obtain ⟨q6_0, q6_1, q6_2⟩ := ((X0_w7.out.alloc (.cells #[.int .i64 (K : Int), .slice A6 0 c6, .int .i64 (b2i true)] 28))).three)
      | (go_at_call 42; (with_reducible refine (const_t false _ HV0.out hv1).mono ?_); rintro e w8 ⟨⟨A7, c7, rfl⟩, hb⟩; have hx : Below w7.heap.size w7 w8 := ((Below.refl w7.heap.size w7).alloc (Nat.le_refl _) _).trans (hb.mono (by simp)); have HB_w8 : Hid (Below w.heap.size w w8) := HB_w7.out.trans (hx.mono HB_w7.out.size); have O0_w8 := Lib.hid (own_below O0_w7.out hx); have O1_w8 := Lib.hid (own_below O1_w7.out hx); have O2_w8 := Lib.hid (own_below O2_w7.out hx); have O3_w8 := Lib.hid (own_below O3_w7.out hx); have O5_w8 := Lib.hid (own_below O5_w7.out hx); have X0_w8 := Lib.hid (X0_w7.out.below hx X0_w7.out.lt); have X1_w8 := Lib.hid (X1_w7.out.below hx X1_w7.out.lt); have X2_w8 := Lib.hid (X2_w7.out.below hx X2_w7.out.lt); have X3_w8 := Lib.hid (X3_w7.out.below hx X3_w7.out.lt); have X5_w8 := Lib.hid (X5_w7.out.below hx X5_w7.out.lt); have X6_w8 : Hid (Blk w8 (w7.heap.size) 28 #[.int .i64 (K : Int), .slice A6 0 c6, .int .i64 (b2i true)]) := (Blk.new_at _ 28 #[.int .i64 (K : Int), .slice A6 0 c6, .int .i64 (b2i true)] (g := w7.heap.size) (by simp)).below hb (by simp); clear q6_0 q6_1 q6_2; clear hx hb))
    clear hbi
    go_loopw [19] (fun k wr => ∃ j : Nat, 1 ≤ j ∧ j ≤ 10 ∧ Hid (Below w.heap.size w wr) ∧ Hid (World.ownsRow wr w.heap.size 89 3 (.slice A0 m0.length c0) m0.length (ncells m0)) ∧ Hid (World.ownsRow wr w.heap.size 89 3 (.slice A1 m1.length c1) m1.length (ncells m1)) ∧ Hid (World.ownsRow wr w.heap.size 89 3 (.slice A2 m2.length c2) m2.length (ncells m2)) ∧ Hid (World.ownsRow wr w.heap.size 89 3 (.slice A3 m3.length c3) m3.length (ncells m3)) ∧ Hid (World.ownsRow wr w.heap.size 89 3 (.slice A5 m5.length c5) m5.length (ncells m5)) ∧ Hid (Blk wr (w1.heap.size) 28 #[.int .i64 (K : Int), .slice A0 m0.length c0, .int .i64 R0]) ∧ Hid (Blk wr (w1.heap.size + 1) 28 #[.int .i64 (K : Int), .slice A1 m1.length c1, .int .i64 R1]) ∧ Hid (Blk wr (w1.heap.size + 1 + 1) 28 #[.int .i64 (K : Int), .slice A2 m2.length c2, .int .i64 R2]) ∧ Hid (Blk wr (w2.heap.size) 28 #[.int .i64 (K : Int), .slice A3 m3.length c3, .int .i64 R3]) ∧ Hid (Blk wr (w6.heap.size) 28 #[.int .i64 V5, .slice A5 m5.length c5, .int .i64 R5]) ∧ Hid (Blk wr (w7.heap.size) 28 #[.int .i64 (K : Int), .slice A6 0 c6, .int .i64 (b2i true)]) ∧ Hid (Blk wr (w8.heap.size) 28 #[.int .i64 (K : Int), .slice A7 0 c7, .int .i64 (b2i false)]) ∧ k = .int .i64 j) (fun k _ => 10 - (intOf k).toNat)
    case atStart => exact ⟨1, by omega, by omega, Lib.hid ((HB_w8.out.alloc HB_w8.out.size _)), Lib.hid ((O0_w8.out.alloc _)), Lib.hid ((O1_w8.out.alloc _)), Lib.hid ((O2_w8.out.alloc _)), Lib.hid ((O3_w8.out.alloc _)), Lib.hid ((O5_w8.out.alloc _)), Lib.hid (X0_w8.out.alloc _), Lib.hid (X1_w8.out.alloc _), Lib.hid (X2_w8.out.alloc _), Lib.hid (X3_w8.out.alloc _), Lib.hid (X5_w8.out.alloc _), Lib.hid (X6_w8.out.alloc _), Lib.hid (Blk.new w8 _ _), rfl⟩
    case round =>
      obtain ⟨j, hj1, hj, HB_wr, O0_wr, O1_wr, O2_wr, O3_wr, O5_wr, X0_wr, X1_wr, X2_wr, X3_wr, X5_wr, X6_wr, X7_wr, rfl⟩ := hrel
      by_cases hlt : j < 10
      case neg =>
        obtain rfl : j = 10 := by omega
        go_wp2_with fail
        go_ret
        exact ⟨rfl, HB_wr.out⟩
      obtain ⟨v, hvv⟩ : ∃ x, x = bv f m j := ⟨_, rfl⟩
      have hva := (HBV.out j).1
      have hvb := (HBV.out j).2
      rw [← hvv] at hva hvb
      have HVV := Lib.hid hvv
      clear hvv
      have q1 : IntKind.i64.wrap (v * 29) = v * 29 := wrap_eq (by omega) (by omega)
      have q2 : IntKind.i64.wrap (v * 29 + (j : Int)) = v * 29 + (j : Int) := wrap_eq (by omega) (by omega)
      have q3 : ((Q : Int) == 0) = false := by rw [beq_eq_false_iff_ne]; omega
      obtain ⟨C, hC⟩ : ∃ C : Nat, (v * 29 + (j : Int)) % (Q : Int) = (C : Int) := ⟨_, (Int.toNat_of_nonneg (Int.emod_nonneg _ (by omega))).symm⟩
      have hCQ : C < Q := by have := Int.emod_lt_of_pos (v * 29 + (j : Int)) (show (0 : Int) < (Q : Int) by omega); omega
      have q4 : Int.tmod (v * 29 + (j : Int)) (Q : Int) = (C : Int) := by rw [Int.tmod_eq_emod_of_nonneg (by omega)]; exact hC
      have q5 : IntKind.i64.wrap (C : Int) = (C : Int) := wrap_eq (by omega) (by omega)
      have HCK : Hid (C < 2 ^ (K : Int).toNat) := by show C < 2 ^ K; rw [← HQK.out]; omega
      have hC13 : C < 16384 := by omega
      clear hC
      obtain ⟨d0, d1, d2⟩ := X0_wr.out.three
      go_wp2_with fail
      refine wp_region_quiet_lit (by kernel_rfl) (by kernel_rfl) ?_
      iterate 10 go_big_quiet_step ((go_at_call 26; exact quiet_leftN (byte_v v f B m capB j _ (HF.out.below (below_drewN HB_wr.out _)) hm63 (by omega) HVV.out)))
      rw [EQ.out]
      repeat go_big_quiet_step (fail)
      refine wpQuiet_nil ?_
      intro _ hw'
      obtain ⟨nq, hw''⟩ := hw'
      subst hw''
      clear q1 q2 q3 q4 q5
      generalize hdr : World.drewN wr _ = wq
      have hx : Below wr.heap.size wr wq := by rw [← hdr]; exact below_drewN (Below.refl _ _) _
      clear hdr
      have HB_wq : Hid (Below w.heap.size w wq) := HB_wr.out.trans (hx.mono HB_wr.out.size)
      have O0_wq := Lib.hid (own_below O0_wr.out hx)
      have O1_wq := Lib.hid (own_below O1_wr.out hx)
      have O2_wq := Lib.hid (own_below O2_wr.out hx)
      have O3_wq := Lib.hid (own_below O3_wr.out hx)
      have O5_wq := Lib.hid (own_below O5_wr.out hx)
      have X0_wq := Lib.hid (X0_wr.out.below hx X0_wr.out.lt)
      have X1_wq := Lib.hid (X1_wr.out.below hx X1_wr.out.lt)
      have X2_wq := Lib.hid (X2_wr.out.below hx X2_wr.out.lt)
      have X3_wq := Lib.hid (X3_wr.out.below hx X3_wr.out.lt)
      have X5_wq := Lib.hid (X5_wr.out.below hx X5_wr.out.lt)
      have X6_wq := Lib.hid (X6_wr.out.below hx X6_wr.out.lt)
      have X7_wq := Lib.hid (X7_wr.out.below hx X7_wr.out.lt)
      clear hx
      clear d0 d1 d2
      obtain ⟨xa, hxa⟩ : ∃ x, has m1 R1 C = x := ⟨_, rfl⟩
      obtain ⟨xb, hxb⟩ : ∃ x, has m2 R2 C = x := ⟨_, rfl⟩
      have HYA := Lib.hid hxa
      have HYB := Lib.hid hxb
      have HX3 := HH3.out C HCK.out
      unfold ifF at HX3
      rw [hxa, hxb] at HX3
      obtain ⟨bt, hbt⟩ : ∃ b, C.testBit I = b := ⟨_, rfl⟩
      have HBT := Lib.hid hbt
      have hsh : (Int.tmod ((C : Int) / 2 ^ I) 2 == 1) = bt := by
        rw [← hbt, Nat.testBit_eq_decide_div_mod_eq]
        have e0 : ((C : Int) / 2 ^ I) = ((C / 2 ^ I : Nat) : Int) := by simp
        have e : Int.tmod ((C : Int) / 2 ^ I) 2 = ((C / 2 ^ I % 2 : Nat) : Int) := by rw [e0]; rfl
        rw [e]
        by_cases h : C / 2 ^ I % 2 = 1
        · simp [h]
        · simp [h]; omega
      have hlm0 : m0.length ≤ 1048576 := by omega
      have hlm1 : m1.length ≤ 1048576 := by omega
      have hlm2 : m2.length ≤ 1048576 := by omega
      have hlm3 : m3.length ≤ 1048576 := by omega
      have hlm5 : m5.length ≤ 1048576 := by omega
      clear hxa hxb hbt
      cases hxc : has m0 R0 C with
      | true =>
        rw [hxc] at HX3
        have HYC := Lib.hid hxc
        have HX3 : Hid (has m3 R3 C = xa) := HX3.trans (by simp)
        clear hxc
        cases bi with
        | true =>
          obtain ⟨rfl, ok5, hh5⟩ := HVT.out rfl
          have OK5 := Lib.hid ok5
          have HH5 : Hid (has m5 R5 C = bt) := (hh5 C).trans HBT.out
          clear ok5 hh5
          obtain ⟨d0, d1, d2⟩ := X2_wq.out.three
          go_wp2_with (first
            | (go_at_call 18; (with_reducible refine (eval_b (C : Int) C xb A2 c2 _ OK2.out rfl HCK.out HYB.out (by exact NAt.of_own O2_wq.out) hlm2).mono ?_); rintro e y1 ⟨rfl, hb⟩; have hx := hb; have HB_y1 : Hid (Below w.heap.size w y1) := HB_wq.out.trans (hx.mono HB_wq.out.size); have O0_y1 := Lib.hid (own_below O0_wq.out hx); have O1_y1 := Lib.hid (own_below O1_wq.out hx); have O2_y1 := Lib.hid (own_below O2_wq.out hx); have O3_y1 := Lib.hid (own_below O3_wq.out hx); have O5_y1 := Lib.hid (own_below O5_wq.out hx); have X0_y1 := Lib.hid (X0_wq.out.below hx X0_wq.out.lt); have X1_y1 := Lib.hid (X1_wq.out.below hx X1_wq.out.lt); have X2_y1 := Lib.hid (X2_wq.out.below hx X2_wq.out.lt); have X3_y1 := Lib.hid (X3_wq.out.below hx X3_wq.out.lt); have X5_y1 := Lib.hid (X5_wq.out.below hx X5_wq.out.lt); have X6_y1 := Lib.hid (X6_wq.out.below hx X6_wq.out.lt); have X7_y1 := Lib.hid (X7_wq.out.below hx X7_wq.out.lt); clear d0 d1 d2; clear hx hb; obtain ⟨q7_0, q7_1, q7_2⟩ := (X0_y1.out).three)
            | (go_at_call 18; (with_reducible refine (eval_b (C : Int) C true A0 c0 _ OK0.out rfl HCK.out HYC.out (by exact NAt.of_own O0_y1.out) hlm0).mono ?_); rintro e y2 ⟨rfl, hb⟩; have hx := hb; have HB_y2 : Hid (Below w.heap.size w y2) := HB_y1.out.trans (hx.mono HB_y1.out.size); have O0_y2 := Lib.hid (own_below O0_y1.out hx); have O1_y2 := Lib.hid (own_below O1_y1.out hx); have O2_y2 := Lib.hid (own_below O2_y1.out hx); have O3_y2 := Lib.hid (own_below O3_y1.out hx); have O5_y2 := Lib.hid (own_below O5_y1.out hx); have X0_y2 := Lib.hid (X0_y1.out.below hx X0_y1.out.lt); have X1_y2 := Lib.hid (X1_y1.out.below hx X1_y1.out.lt); have X2_y2 := Lib.hid (X2_y1.out.below hx X2_y1.out.lt); have X3_y2 := Lib.hid (X3_y1.out.below hx X3_y1.out.lt); have X5_y2 := Lib.hid (X5_y1.out.below hx X5_y1.out.lt); have X6_y2 := Lib.hid (X6_y1.out.below hx X6_y1.out.lt); have X7_y2 := Lib.hid (X7_y1.out.below hx X7_y1.out.lt); clear q7_0 q7_1 q7_2; clear hx hb; obtain ⟨q8_0, q8_1, q8_2⟩ := (X1_y2.out).three)
            | (go_at_call 18; (with_reducible refine (eval_b (C : Int) C xa A1 c1 _ OK1.out rfl HCK.out HYA.out (by exact NAt.of_own O1_y2.out) hlm1).mono ?_); rintro e y3 ⟨rfl, hb⟩; have hx := hb; have HB_y3 : Hid (Below w.heap.size w y3) := HB_y2.out.trans (hx.mono HB_y2.out.size); have O0_y3 := Lib.hid (own_below O0_y2.out hx); have O1_y3 := Lib.hid (own_below O1_y2.out hx); have O2_y3 := Lib.hid (own_below O2_y2.out hx); have O3_y3 := Lib.hid (own_below O3_y2.out hx); have O5_y3 := Lib.hid (own_below O5_y2.out hx); have X0_y3 := Lib.hid (X0_y2.out.below hx X0_y2.out.lt); have X1_y3 := Lib.hid (X1_y2.out.below hx X1_y2.out.lt); have X2_y3 := Lib.hid (X2_y2.out.below hx X2_y2.out.lt); have X3_y3 := Lib.hid (X3_y2.out.below hx X3_y2.out.lt); have X5_y3 := Lib.hid (X5_y2.out.below hx X5_y2.out.lt); have X6_y3 := Lib.hid (X6_y2.out.below hx X6_y2.out.lt); have X7_y3 := Lib.hid (X7_y2.out.below hx X7_y2.out.lt); clear q8_0 q8_1 q8_2; clear hx hb; obtain ⟨q9_0, q9_1, q9_2⟩ := (X3_y3.out).three)
            | (go_at_call 18; (with_reducible refine (eval_b (C : Int) C xa A3 c3 _ OK3.out rfl HCK.out HX3.out (by exact NAt.of_own O3_y3.out) hlm3).mono ?_); rintro e y4 ⟨rfl, hb⟩; have hx := hb; have HB_y4 : Hid (Below w.heap.size w y4) := HB_y3.out.trans (hx.mono HB_y3.out.size); have O0_y4 := Lib.hid (own_below O0_y3.out hx); have O1_y4 := Lib.hid (own_below O1_y3.out hx); have O2_y4 := Lib.hid (own_below O2_y3.out hx); have O3_y4 := Lib.hid (own_below O3_y3.out hx); have O5_y4 := Lib.hid (own_below O5_y3.out hx); have X0_y4 := Lib.hid (X0_y3.out.below hx X0_y3.out.lt); have X1_y4 := Lib.hid (X1_y3.out.below hx X1_y3.out.lt); have X2_y4 := Lib.hid (X2_y3.out.below hx X2_y3.out.lt); have X3_y4 := Lib.hid (X3_y3.out.below hx X3_y3.out.lt); have X5_y4 := Lib.hid (X5_y3.out.below hx X5_y3.out.lt); have X6_y4 := Lib.hid (X6_y3.out.below hx X6_y3.out.lt); have X7_y4 := Lib.hid (X7_y3.out.below hx X7_y3.out.lt); clear q9_0 q9_1 q9_2; clear hx hb; obtain ⟨q10_0, q10_1, q10_2⟩ := (X5_y4.out).three)
            | (go_at_call 18; (with_reducible refine (eval_b (C : Int) C bt A5 c5 _ OK5.out rfl HCK.out HH5.out (by exact NAt.of_own O5_y4.out) hlm5).mono ?_); rintro e y5 ⟨rfl, hb⟩; have hx := hb; have HB_y5 : Hid (Below w.heap.size w y5) := HB_y4.out.trans (hx.mono HB_y4.out.size); have O0_y5 := Lib.hid (own_below O0_y4.out hx); have O1_y5 := Lib.hid (own_below O1_y4.out hx); have O2_y5 := Lib.hid (own_below O2_y4.out hx); have O3_y5 := Lib.hid (own_below O3_y4.out hx); have O5_y5 := Lib.hid (own_below O5_y4.out hx); have X0_y5 := Lib.hid (X0_y4.out.below hx X0_y4.out.lt); have X1_y5 := Lib.hid (X1_y4.out.below hx X1_y4.out.lt); have X2_y5 := Lib.hid (X2_y4.out.below hx X2_y4.out.lt); have X3_y5 := Lib.hid (X3_y4.out.below hx X3_y4.out.lt); have X5_y5 := Lib.hid (X5_y4.out.below hx X5_y4.out.lt); have X6_y5 := Lib.hid (X6_y4.out.below hx X6_y4.out.lt); have X7_y5 := Lib.hid (X7_y4.out.below hx X7_y4.out.lt); clear q10_0 q10_1 q10_2; clear hx hb; obtain ⟨q11_0, q11_1, q11_2⟩ := (X6_y5.out).three)
            | (go_at_call 18; (with_reducible refine (eval_c true (C : Int) C A6 c6 _ HV0.out hv1 rfl HCK.out).mono ?_); rintro e y6 ⟨rfl, hb⟩; have hx := hb; have HB_y6 : Hid (Below w.heap.size w y6) := HB_y5.out.trans (hx.mono HB_y5.out.size); have O0_y6 := Lib.hid (own_below O0_y5.out hx); have O1_y6 := Lib.hid (own_below O1_y5.out hx); have O2_y6 := Lib.hid (own_below O2_y5.out hx); have O3_y6 := Lib.hid (own_below O3_y5.out hx); have O5_y6 := Lib.hid (own_below O5_y5.out hx); have X0_y6 := Lib.hid (X0_y5.out.below hx X0_y5.out.lt); have X1_y6 := Lib.hid (X1_y5.out.below hx X1_y5.out.lt); have X2_y6 := Lib.hid (X2_y5.out.below hx X2_y5.out.lt); have X3_y6 := Lib.hid (X3_y5.out.below hx X3_y5.out.lt); have X5_y6 := Lib.hid (X5_y5.out.below hx X5_y5.out.lt); have X6_y6 := Lib.hid (X6_y5.out.below hx X6_y5.out.lt); have X7_y6 := Lib.hid (X7_y5.out.below hx X7_y5.out.lt); clear q11_0 q11_1 q11_2; clear hx hb; obtain ⟨q12_0, q12_1, q12_2⟩ := (X7_y6.out).three)
            | (go_at_call 18; (with_reducible refine (eval_c false (C : Int) C A7 c7 _ HV0.out hv1 rfl HCK.out).mono ?_); rintro e y7 ⟨rfl, hb⟩; have hx := hb; have HB_y7 : Hid (Below w.heap.size w y7) := HB_y6.out.trans (hx.mono HB_y6.out.size); have O0_y7 := Lib.hid (own_below O0_y6.out hx); have O1_y7 := Lib.hid (own_below O1_y6.out hx); have O2_y7 := Lib.hid (own_below O2_y6.out hx); have O3_y7 := Lib.hid (own_below O3_y6.out hx); have O5_y7 := Lib.hid (own_below O5_y6.out hx); have X0_y7 := Lib.hid (X0_y6.out.below hx X0_y6.out.lt); have X1_y7 := Lib.hid (X1_y6.out.below hx X1_y6.out.lt); have X2_y7 := Lib.hid (X2_y6.out.below hx X2_y6.out.lt); have X3_y7 := Lib.hid (X3_y6.out.below hx X3_y6.out.lt); have X5_y7 := Lib.hid (X5_y6.out.below hx X5_y6.out.lt); have X6_y7 := Lib.hid (X6_y6.out.below hx X6_y6.out.lt); have X7_y7 := Lib.hid (X7_y6.out.below hx X7_y6.out.lt); clear q12_0 q12_1 q12_2; clear hx hb))
          go_roundw
          case rel => exact ⟨j + 1, by omega, by omega, Lib.hid (HB_y7.out), Lib.hid (O0_y7.out), Lib.hid (O1_y7.out), Lib.hid (O2_y7.out), Lib.hid (O3_y7.out), Lib.hid (O5_y7.out), Lib.hid (X0_y7.out), Lib.hid (X1_y7.out), Lib.hid (X2_y7.out), Lib.hid (X3_y7.out), Lib.hid (X5_y7.out), Lib.hid (X6_y7.out), Lib.hid (X7_y7.out), by go_num⟩
          case measure => simp [intOf]; omega
        | false =>
          obtain ⟨d0, d1, d2⟩ := X2_wq.out.three
          go_wp2_with (first
            | (go_at_call 18; (with_reducible refine (eval_b (C : Int) C xb A2 c2 _ OK2.out rfl HCK.out HYB.out (by exact NAt.of_own O2_wq.out) hlm2).mono ?_); rintro e y1 ⟨rfl, hb⟩; have hx := hb; have HB_y1 : Hid (Below w.heap.size w y1) := HB_wq.out.trans (hx.mono HB_wq.out.size); have O0_y1 := Lib.hid (own_below O0_wq.out hx); have O1_y1 := Lib.hid (own_below O1_wq.out hx); have O2_y1 := Lib.hid (own_below O2_wq.out hx); have O3_y1 := Lib.hid (own_below O3_wq.out hx); have O5_y1 := Lib.hid (own_below O5_wq.out hx); have X0_y1 := Lib.hid (X0_wq.out.below hx X0_wq.out.lt); have X1_y1 := Lib.hid (X1_wq.out.below hx X1_wq.out.lt); have X2_y1 := Lib.hid (X2_wq.out.below hx X2_wq.out.lt); have X3_y1 := Lib.hid (X3_wq.out.below hx X3_wq.out.lt); have X5_y1 := Lib.hid (X5_wq.out.below hx X5_wq.out.lt); have X6_y1 := Lib.hid (X6_wq.out.below hx X6_wq.out.lt); have X7_y1 := Lib.hid (X7_wq.out.below hx X7_wq.out.lt); clear d0 d1 d2; clear hx hb; obtain ⟨q13_0, q13_1, q13_2⟩ := (X0_y1.out).three)
            | (go_at_call 18; (with_reducible refine (eval_b (C : Int) C true A0 c0 _ OK0.out rfl HCK.out HYC.out (by exact NAt.of_own O0_y1.out) hlm0).mono ?_); rintro e y2 ⟨rfl, hb⟩; have hx := hb; have HB_y2 : Hid (Below w.heap.size w y2) := HB_y1.out.trans (hx.mono HB_y1.out.size); have O0_y2 := Lib.hid (own_below O0_y1.out hx); have O1_y2 := Lib.hid (own_below O1_y1.out hx); have O2_y2 := Lib.hid (own_below O2_y1.out hx); have O3_y2 := Lib.hid (own_below O3_y1.out hx); have O5_y2 := Lib.hid (own_below O5_y1.out hx); have X0_y2 := Lib.hid (X0_y1.out.below hx X0_y1.out.lt); have X1_y2 := Lib.hid (X1_y1.out.below hx X1_y1.out.lt); have X2_y2 := Lib.hid (X2_y1.out.below hx X2_y1.out.lt); have X3_y2 := Lib.hid (X3_y1.out.below hx X3_y1.out.lt); have X5_y2 := Lib.hid (X5_y1.out.below hx X5_y1.out.lt); have X6_y2 := Lib.hid (X6_y1.out.below hx X6_y1.out.lt); have X7_y2 := Lib.hid (X7_y1.out.below hx X7_y1.out.lt); clear q13_0 q13_1 q13_2; clear hx hb; obtain ⟨q14_0, q14_1, q14_2⟩ := (X1_y2.out).three)
            | (go_at_call 18; (with_reducible refine (eval_b (C : Int) C xa A1 c1 _ OK1.out rfl HCK.out HYA.out (by exact NAt.of_own O1_y2.out) hlm1).mono ?_); rintro e y3 ⟨rfl, hb⟩; have hx := hb; have HB_y3 : Hid (Below w.heap.size w y3) := HB_y2.out.trans (hx.mono HB_y2.out.size); have O0_y3 := Lib.hid (own_below O0_y2.out hx); have O1_y3 := Lib.hid (own_below O1_y2.out hx); have O2_y3 := Lib.hid (own_below O2_y2.out hx); have O3_y3 := Lib.hid (own_below O3_y2.out hx); have O5_y3 := Lib.hid (own_below O5_y2.out hx); have X0_y3 := Lib.hid (X0_y2.out.below hx X0_y2.out.lt); have X1_y3 := Lib.hid (X1_y2.out.below hx X1_y2.out.lt); have X2_y3 := Lib.hid (X2_y2.out.below hx X2_y2.out.lt); have X3_y3 := Lib.hid (X3_y2.out.below hx X3_y2.out.lt); have X5_y3 := Lib.hid (X5_y2.out.below hx X5_y2.out.lt); have X6_y3 := Lib.hid (X6_y2.out.below hx X6_y2.out.lt); have X7_y3 := Lib.hid (X7_y2.out.below hx X7_y2.out.lt); clear q14_0 q14_1 q14_2; clear hx hb; obtain ⟨q15_0, q15_1, q15_2⟩ := (X3_y3.out).three)
            | (go_at_call 18; (with_reducible refine (eval_b (C : Int) C xa A3 c3 _ OK3.out rfl HCK.out HX3.out (by exact NAt.of_own O3_y3.out) hlm3).mono ?_); rintro e y4 ⟨rfl, hb⟩; have hx := hb; have HB_y4 : Hid (Below w.heap.size w y4) := HB_y3.out.trans (hx.mono HB_y3.out.size); have O0_y4 := Lib.hid (own_below O0_y3.out hx); have O1_y4 := Lib.hid (own_below O1_y3.out hx); have O2_y4 := Lib.hid (own_below O2_y3.out hx); have O3_y4 := Lib.hid (own_below O3_y3.out hx); have O5_y4 := Lib.hid (own_below O5_y3.out hx); have X0_y4 := Lib.hid (X0_y3.out.below hx X0_y3.out.lt); have X1_y4 := Lib.hid (X1_y3.out.below hx X1_y3.out.lt); have X2_y4 := Lib.hid (X2_y3.out.below hx X2_y3.out.lt); have X3_y4 := Lib.hid (X3_y3.out.below hx X3_y3.out.lt); have X5_y4 := Lib.hid (X5_y3.out.below hx X5_y3.out.lt); have X6_y4 := Lib.hid (X6_y3.out.below hx X6_y3.out.lt); have X7_y4 := Lib.hid (X7_y3.out.below hx X7_y3.out.lt); clear q15_0 q15_1 q15_2; clear hx hb; obtain ⟨q16_0, q16_1, q16_2⟩ := (X6_y4.out).three)
            | (go_at_call 18; (with_reducible refine (eval_c true (C : Int) C A6 c6 _ HV0.out hv1 rfl HCK.out).mono ?_); rintro e y5 ⟨rfl, hb⟩; have hx := hb; have HB_y5 : Hid (Below w.heap.size w y5) := HB_y4.out.trans (hx.mono HB_y4.out.size); have O0_y5 := Lib.hid (own_below O0_y4.out hx); have O1_y5 := Lib.hid (own_below O1_y4.out hx); have O2_y5 := Lib.hid (own_below O2_y4.out hx); have O3_y5 := Lib.hid (own_below O3_y4.out hx); have O5_y5 := Lib.hid (own_below O5_y4.out hx); have X0_y5 := Lib.hid (X0_y4.out.below hx X0_y4.out.lt); have X1_y5 := Lib.hid (X1_y4.out.below hx X1_y4.out.lt); have X2_y5 := Lib.hid (X2_y4.out.below hx X2_y4.out.lt); have X3_y5 := Lib.hid (X3_y4.out.below hx X3_y4.out.lt); have X5_y5 := Lib.hid (X5_y4.out.below hx X5_y4.out.lt); have X6_y5 := Lib.hid (X6_y4.out.below hx X6_y4.out.lt); have X7_y5 := Lib.hid (X7_y4.out.below hx X7_y4.out.lt); clear q16_0 q16_1 q16_2; clear hx hb; obtain ⟨q17_0, q17_1, q17_2⟩ := (X7_y5.out).three)
            | (go_at_call 18; (with_reducible refine (eval_c false (C : Int) C A7 c7 _ HV0.out hv1 rfl HCK.out).mono ?_); rintro e y6 ⟨rfl, hb⟩; have hx := hb; have HB_y6 : Hid (Below w.heap.size w y6) := HB_y5.out.trans (hx.mono HB_y5.out.size); have O0_y6 := Lib.hid (own_below O0_y5.out hx); have O1_y6 := Lib.hid (own_below O1_y5.out hx); have O2_y6 := Lib.hid (own_below O2_y5.out hx); have O3_y6 := Lib.hid (own_below O3_y5.out hx); have O5_y6 := Lib.hid (own_below O5_y5.out hx); have X0_y6 := Lib.hid (X0_y5.out.below hx X0_y5.out.lt); have X1_y6 := Lib.hid (X1_y5.out.below hx X1_y5.out.lt); have X2_y6 := Lib.hid (X2_y5.out.below hx X2_y5.out.lt); have X3_y6 := Lib.hid (X3_y5.out.below hx X3_y5.out.lt); have X5_y6 := Lib.hid (X5_y5.out.below hx X5_y5.out.lt); have X6_y6 := Lib.hid (X6_y5.out.below hx X6_y5.out.lt); have X7_y6 := Lib.hid (X7_y5.out.below hx X7_y5.out.lt); clear q17_0 q17_1 q17_2; clear hx hb))
          go_roundw
          case rel => exact ⟨j + 1, by omega, by omega, Lib.hid (HB_y6.out), Lib.hid (O0_y6.out), Lib.hid (O1_y6.out), Lib.hid (O2_y6.out), Lib.hid (O3_y6.out), Lib.hid (O5_y6.out), Lib.hid (X0_y6.out), Lib.hid (X1_y6.out), Lib.hid (X2_y6.out), Lib.hid (X3_y6.out), Lib.hid (X5_y6.out), Lib.hid (X6_y6.out), Lib.hid (X7_y6.out), by go_num⟩
          case measure => simp [intOf]; omega
      | false =>
        rw [hxc] at HX3
        have HYC := Lib.hid hxc
        have HX3 : Hid (has m3 R3 C = xb) := HX3.trans (by simp)
        clear hxc
        cases bi with
        | true =>
          obtain ⟨rfl, ok5, hh5⟩ := HVT.out rfl
          have OK5 := Lib.hid ok5
          have HH5 : Hid (has m5 R5 C = bt) := (hh5 C).trans HBT.out
          clear ok5 hh5
          obtain ⟨d0, d1, d2⟩ := X2_wq.out.three
          go_wp2_with (first
            | (go_at_call 18; (with_reducible refine (eval_b (C : Int) C xb A2 c2 _ OK2.out rfl HCK.out HYB.out (by exact NAt.of_own O2_wq.out) hlm2).mono ?_); rintro e y1 ⟨rfl, hb⟩; have hx := hb; have HB_y1 : Hid (Below w.heap.size w y1) := HB_wq.out.trans (hx.mono HB_wq.out.size); have O0_y1 := Lib.hid (own_below O0_wq.out hx); have O1_y1 := Lib.hid (own_below O1_wq.out hx); have O2_y1 := Lib.hid (own_below O2_wq.out hx); have O3_y1 := Lib.hid (own_below O3_wq.out hx); have O5_y1 := Lib.hid (own_below O5_wq.out hx); have X0_y1 := Lib.hid (X0_wq.out.below hx X0_wq.out.lt); have X1_y1 := Lib.hid (X1_wq.out.below hx X1_wq.out.lt); have X2_y1 := Lib.hid (X2_wq.out.below hx X2_wq.out.lt); have X3_y1 := Lib.hid (X3_wq.out.below hx X3_wq.out.lt); have X5_y1 := Lib.hid (X5_wq.out.below hx X5_wq.out.lt); have X6_y1 := Lib.hid (X6_wq.out.below hx X6_wq.out.lt); have X7_y1 := Lib.hid (X7_wq.out.below hx X7_wq.out.lt); clear d0 d1 d2; clear hx hb; obtain ⟨q18_0, q18_1, q18_2⟩ := (X0_y1.out).three)
            | (go_at_call 18; (with_reducible refine (eval_b (C : Int) C false A0 c0 _ OK0.out rfl HCK.out HYC.out (by exact NAt.of_own O0_y1.out) hlm0).mono ?_); rintro e y2 ⟨rfl, hb⟩; have hx := hb; have HB_y2 : Hid (Below w.heap.size w y2) := HB_y1.out.trans (hx.mono HB_y1.out.size); have O0_y2 := Lib.hid (own_below O0_y1.out hx); have O1_y2 := Lib.hid (own_below O1_y1.out hx); have O2_y2 := Lib.hid (own_below O2_y1.out hx); have O3_y2 := Lib.hid (own_below O3_y1.out hx); have O5_y2 := Lib.hid (own_below O5_y1.out hx); have X0_y2 := Lib.hid (X0_y1.out.below hx X0_y1.out.lt); have X1_y2 := Lib.hid (X1_y1.out.below hx X1_y1.out.lt); have X2_y2 := Lib.hid (X2_y1.out.below hx X2_y1.out.lt); have X3_y2 := Lib.hid (X3_y1.out.below hx X3_y1.out.lt); have X5_y2 := Lib.hid (X5_y1.out.below hx X5_y1.out.lt); have X6_y2 := Lib.hid (X6_y1.out.below hx X6_y1.out.lt); have X7_y2 := Lib.hid (X7_y1.out.below hx X7_y1.out.lt); clear q18_0 q18_1 q18_2; clear hx hb; obtain ⟨q19_0, q19_1, q19_2⟩ := (X3_y2.out).three)
            | (go_at_call 18; (with_reducible refine (eval_b (C : Int) C xb A3 c3 _ OK3.out rfl HCK.out HX3.out (by exact NAt.of_own O3_y2.out) hlm3).mono ?_); rintro e y3 ⟨rfl, hb⟩; have hx := hb; have HB_y3 : Hid (Below w.heap.size w y3) := HB_y2.out.trans (hx.mono HB_y2.out.size); have O0_y3 := Lib.hid (own_below O0_y2.out hx); have O1_y3 := Lib.hid (own_below O1_y2.out hx); have O2_y3 := Lib.hid (own_below O2_y2.out hx); have O3_y3 := Lib.hid (own_below O3_y2.out hx); have O5_y3 := Lib.hid (own_below O5_y2.out hx); have X0_y3 := Lib.hid (X0_y2.out.below hx X0_y2.out.lt); have X1_y3 := Lib.hid (X1_y2.out.below hx X1_y2.out.lt); have X2_y3 := Lib.hid (X2_y2.out.below hx X2_y2.out.lt); have X3_y3 := Lib.hid (X3_y2.out.below hx X3_y2.out.lt); have X5_y3 := Lib.hid (X5_y2.out.below hx X5_y2.out.lt); have X6_y3 := Lib.hid (X6_y2.out.below hx X6_y2.out.lt); have X7_y3 := Lib.hid (X7_y2.out.below hx X7_y2.out.lt); clear q19_0 q19_1 q19_2; clear hx hb; obtain ⟨q20_0, q20_1, q20_2⟩ := (X5_y3.out).three)
            | (go_at_call 18; (with_reducible refine (eval_b (C : Int) C bt A5 c5 _ OK5.out rfl HCK.out HH5.out (by exact NAt.of_own O5_y3.out) hlm5).mono ?_); rintro e y4 ⟨rfl, hb⟩; have hx := hb; have HB_y4 : Hid (Below w.heap.size w y4) := HB_y3.out.trans (hx.mono HB_y3.out.size); have O0_y4 := Lib.hid (own_below O0_y3.out hx); have O1_y4 := Lib.hid (own_below O1_y3.out hx); have O2_y4 := Lib.hid (own_below O2_y3.out hx); have O3_y4 := Lib.hid (own_below O3_y3.out hx); have O5_y4 := Lib.hid (own_below O5_y3.out hx); have X0_y4 := Lib.hid (X0_y3.out.below hx X0_y3.out.lt); have X1_y4 := Lib.hid (X1_y3.out.below hx X1_y3.out.lt); have X2_y4 := Lib.hid (X2_y3.out.below hx X2_y3.out.lt); have X3_y4 := Lib.hid (X3_y3.out.below hx X3_y3.out.lt); have X5_y4 := Lib.hid (X5_y3.out.below hx X5_y3.out.lt); have X6_y4 := Lib.hid (X6_y3.out.below hx X6_y3.out.lt); have X7_y4 := Lib.hid (X7_y3.out.below hx X7_y3.out.lt); clear q20_0 q20_1 q20_2; clear hx hb; obtain ⟨q21_0, q21_1, q21_2⟩ := (X6_y4.out).three)
            | (go_at_call 18; (with_reducible refine (eval_c true (C : Int) C A6 c6 _ HV0.out hv1 rfl HCK.out).mono ?_); rintro e y5 ⟨rfl, hb⟩; have hx := hb; have HB_y5 : Hid (Below w.heap.size w y5) := HB_y4.out.trans (hx.mono HB_y4.out.size); have O0_y5 := Lib.hid (own_below O0_y4.out hx); have O1_y5 := Lib.hid (own_below O1_y4.out hx); have O2_y5 := Lib.hid (own_below O2_y4.out hx); have O3_y5 := Lib.hid (own_below O3_y4.out hx); have O5_y5 := Lib.hid (own_below O5_y4.out hx); have X0_y5 := Lib.hid (X0_y4.out.below hx X0_y4.out.lt); have X1_y5 := Lib.hid (X1_y4.out.below hx X1_y4.out.lt); have X2_y5 := Lib.hid (X2_y4.out.below hx X2_y4.out.lt); have X3_y5 := Lib.hid (X3_y4.out.below hx X3_y4.out.lt); have X5_y5 := Lib.hid (X5_y4.out.below hx X5_y4.out.lt); have X6_y5 := Lib.hid (X6_y4.out.below hx X6_y4.out.lt); have X7_y5 := Lib.hid (X7_y4.out.below hx X7_y4.out.lt); clear q21_0 q21_1 q21_2; clear hx hb; obtain ⟨q22_0, q22_1, q22_2⟩ := (X7_y5.out).three)
            | (go_at_call 18; (with_reducible refine (eval_c false (C : Int) C A7 c7 _ HV0.out hv1 rfl HCK.out).mono ?_); rintro e y6 ⟨rfl, hb⟩; have hx := hb; have HB_y6 : Hid (Below w.heap.size w y6) := HB_y5.out.trans (hx.mono HB_y5.out.size); have O0_y6 := Lib.hid (own_below O0_y5.out hx); have O1_y6 := Lib.hid (own_below O1_y5.out hx); have O2_y6 := Lib.hid (own_below O2_y5.out hx); have O3_y6 := Lib.hid (own_below O3_y5.out hx); have O5_y6 := Lib.hid (own_below O5_y5.out hx); have X0_y6 := Lib.hid (X0_y5.out.below hx X0_y5.out.lt); have X1_y6 := Lib.hid (X1_y5.out.below hx X1_y5.out.lt); have X2_y6 := Lib.hid (X2_y5.out.below hx X2_y5.out.lt); have X3_y6 := Lib.hid (X3_y5.out.below hx X3_y5.out.lt); have X5_y6 := Lib.hid (X5_y5.out.below hx X5_y5.out.lt); have X6_y6 := Lib.hid (X6_y5.out.below hx X6_y5.out.lt); have X7_y6 := Lib.hid (X7_y5.out.below hx X7_y5.out.lt); clear q22_0 q22_1 q22_2; clear hx hb))
          go_roundw
          case rel => exact ⟨j + 1, by omega, by omega, Lib.hid (HB_y6.out), Lib.hid (O0_y6.out), Lib.hid (O1_y6.out), Lib.hid (O2_y6.out), Lib.hid (O3_y6.out), Lib.hid (O5_y6.out), Lib.hid (X0_y6.out), Lib.hid (X1_y6.out), Lib.hid (X2_y6.out), Lib.hid (X3_y6.out), Lib.hid (X5_y6.out), Lib.hid (X6_y6.out), Lib.hid (X7_y6.out), by go_num⟩
          case measure => simp [intOf]; omega
        | false =>
          obtain ⟨d0, d1, d2⟩ := X2_wq.out.three
          go_wp2_with (first
            | (go_at_call 18; (with_reducible refine (eval_b (C : Int) C xb A2 c2 _ OK2.out rfl HCK.out HYB.out (by exact NAt.of_own O2_wq.out) hlm2).mono ?_); rintro e y1 ⟨rfl, hb⟩; have hx := hb; have HB_y1 : Hid (Below w.heap.size w y1) := HB_wq.out.trans (hx.mono HB_wq.out.size); have O0_y1 := Lib.hid (own_below O0_wq.out hx); have O1_y1 := Lib.hid (own_below O1_wq.out hx); have O2_y1 := Lib.hid (own_below O2_wq.out hx); have O3_y1 := Lib.hid (own_below O3_wq.out hx); have O5_y1 := Lib.hid (own_below O5_wq.out hx); have X0_y1 := Lib.hid (X0_wq.out.below hx X0_wq.out.lt); have X1_y1 := Lib.hid (X1_wq.out.below hx X1_wq.out.lt); have X2_y1 := Lib.hid (X2_wq.out.below hx X2_wq.out.lt); have X3_y1 := Lib.hid (X3_wq.out.below hx X3_wq.out.lt); have X5_y1 := Lib.hid (X5_wq.out.below hx X5_wq.out.lt); have X6_y1 := Lib.hid (X6_wq.out.below hx X6_wq.out.lt); have X7_y1 := Lib.hid (X7_wq.out.below hx X7_wq.out.lt); clear d0 d1 d2; clear hx hb; obtain ⟨q23_0, q23_1, q23_2⟩ := (X0_y1.out).three)
            | (go_at_call 18; (with_reducible refine (eval_b (C : Int) C false A0 c0 _ OK0.out rfl HCK.out HYC.out (by exact NAt.of_own O0_y1.out) hlm0).mono ?_); rintro e y2 ⟨rfl, hb⟩; have hx := hb; have HB_y2 : Hid (Below w.heap.size w y2) := HB_y1.out.trans (hx.mono HB_y1.out.size); have O0_y2 := Lib.hid (own_below O0_y1.out hx); have O1_y2 := Lib.hid (own_below O1_y1.out hx); have O2_y2 := Lib.hid (own_below O2_y1.out hx); have O3_y2 := Lib.hid (own_below O3_y1.out hx); have O5_y2 := Lib.hid (own_below O5_y1.out hx); have X0_y2 := Lib.hid (X0_y1.out.below hx X0_y1.out.lt); have X1_y2 := Lib.hid (X1_y1.out.below hx X1_y1.out.lt); have X2_y2 := Lib.hid (X2_y1.out.below hx X2_y1.out.lt); have X3_y2 := Lib.hid (X3_y1.out.below hx X3_y1.out.lt); have X5_y2 := Lib.hid (X5_y1.out.below hx X5_y1.out.lt); have X6_y2 := Lib.hid (X6_y1.out.below hx X6_y1.out.lt); have X7_y2 := Lib.hid (X7_y1.out.below hx X7_y1.out.lt); clear q23_0 q23_1 q23_2; clear hx hb; obtain ⟨q24_0, q24_1, q24_2⟩ := (X3_y2.out).three)
            | (go_at_call 18; (with_reducible refine (eval_b (C : Int) C xb A3 c3 _ OK3.out rfl HCK.out HX3.out (by exact NAt.of_own O3_y2.out) hlm3).mono ?_); rintro e y3 ⟨rfl, hb⟩; have hx := hb; have HB_y3 : Hid (Below w.heap.size w y3) := HB_y2.out.trans (hx.mono HB_y2.out.size); have O0_y3 := Lib.hid (own_below O0_y2.out hx); have O1_y3 := Lib.hid (own_below O1_y2.out hx); have O2_y3 := Lib.hid (own_below O2_y2.out hx); have O3_y3 := Lib.hid (own_below O3_y2.out hx); have O5_y3 := Lib.hid (own_below O5_y2.out hx); have X0_y3 := Lib.hid (X0_y2.out.below hx X0_y2.out.lt); have X1_y3 := Lib.hid (X1_y2.out.below hx X1_y2.out.lt); have X2_y3 := Lib.hid (X2_y2.out.below hx X2_y2.out.lt); have X3_y3 := Lib.hid (X3_y2.out.below hx X3_y2.out.lt); have X5_y3 := Lib.hid (X5_y2.out.below hx X5_y2.out.lt); have X6_y3 := Lib.hid (X6_y2.out.below hx X6_y2.out.lt); have X7_y3 := Lib.hid (X7_y2.out.below hx X7_y2.out.lt); clear q24_0 q24_1 q24_2; clear hx hb; obtain ⟨q25_0, q25_1, q25_2⟩ := (X6_y3.out).three)
            | (go_at_call 18; (with_reducible refine (eval_c true (C : Int) C A6 c6 _ HV0.out hv1 rfl HCK.out).mono ?_); rintro e y4 ⟨rfl, hb⟩; have hx := hb; have HB_y4 : Hid (Below w.heap.size w y4) := HB_y3.out.trans (hx.mono HB_y3.out.size); have O0_y4 := Lib.hid (own_below O0_y3.out hx); have O1_y4 := Lib.hid (own_below O1_y3.out hx); have O2_y4 := Lib.hid (own_below O2_y3.out hx); have O3_y4 := Lib.hid (own_below O3_y3.out hx); have O5_y4 := Lib.hid (own_below O5_y3.out hx); have X0_y4 := Lib.hid (X0_y3.out.below hx X0_y3.out.lt); have X1_y4 := Lib.hid (X1_y3.out.below hx X1_y3.out.lt); have X2_y4 := Lib.hid (X2_y3.out.below hx X2_y3.out.lt); have X3_y4 := Lib.hid (X3_y3.out.below hx X3_y3.out.lt); have X5_y4 := Lib.hid (X5_y3.out.below hx X5_y3.out.lt); have X6_y4 := Lib.hid (X6_y3.out.below hx X6_y3.out.lt); have X7_y4 := Lib.hid (X7_y3.out.below hx X7_y3.out.lt); clear q25_0 q25_1 q25_2; clear hx hb; obtain ⟨q26_0, q26_1, q26_2⟩ := (X7_y4.out).three)
            | (go_at_call 18; (with_reducible refine (eval_c false (C : Int) C A7 c7 _ HV0.out hv1 rfl HCK.out).mono ?_); rintro e y5 ⟨rfl, hb⟩; have hx := hb; have HB_y5 : Hid (Below w.heap.size w y5) := HB_y4.out.trans (hx.mono HB_y4.out.size); have O0_y5 := Lib.hid (own_below O0_y4.out hx); have O1_y5 := Lib.hid (own_below O1_y4.out hx); have O2_y5 := Lib.hid (own_below O2_y4.out hx); have O3_y5 := Lib.hid (own_below O3_y4.out hx); have O5_y5 := Lib.hid (own_below O5_y4.out hx); have X0_y5 := Lib.hid (X0_y4.out.below hx X0_y4.out.lt); have X1_y5 := Lib.hid (X1_y4.out.below hx X1_y4.out.lt); have X2_y5 := Lib.hid (X2_y4.out.below hx X2_y4.out.lt); have X3_y5 := Lib.hid (X3_y4.out.below hx X3_y4.out.lt); have X5_y5 := Lib.hid (X5_y4.out.below hx X5_y4.out.lt); have X6_y5 := Lib.hid (X6_y4.out.below hx X6_y4.out.lt); have X7_y5 := Lib.hid (X7_y4.out.below hx X7_y4.out.lt); clear q26_0 q26_1 q26_2; clear hx hb))
          go_roundw
          case rel => exact ⟨j + 1, by omega, by omega, Lib.hid (HB_y5.out), Lib.hid (O0_y5.out), Lib.hid (O1_y5.out), Lib.hid (O2_y5.out), Lib.hid (O3_y5.out), Lib.hid (O5_y5.out), Lib.hid (X0_y5.out), Lib.hid (X1_y5.out), Lib.hid (X2_y5.out), Lib.hid (X3_y5.out), Lib.hid (X5_y5.out), Lib.hid (X6_y5.out), Lib.hid (X7_y5.out), by go_num⟩
          case measure => simp [intOf]; omega
end Go.Proofs.Ytffefegjnbfobaa
