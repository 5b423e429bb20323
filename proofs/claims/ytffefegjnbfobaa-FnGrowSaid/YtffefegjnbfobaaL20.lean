/- The law FnGrow, walked. -/
import Derived.Test.YtffefegjnbfobaaGr
import Derived.Test.YtffefegjnbfobaaH7
import Derived.Test.YtffefegjnbfobaaLd
import Derived.Test.YtffefegjnbfobaaQ1
import Derived.Test.YtffefegjnbfobaaQ2
import Derived.Test.YtffefegjnbfobaaN
import Derived.Test.YtffefegjnbfobaaVI
import Derived.Test.YtffefegjnbfobaaExt
import Derived.Deep.DeepCutAuto
namespace Go.Proofs.Ytffefegjnbfobaa
open Go.RowKit
open B

theorem conv_grow' {V R : Int} {ns : List Nd} {v : Int} {V' R' : Int} {ms : List Nd} {b : Bool} (h : MkV (OkI V ns R ∧ V ≤ v ∧ v ≤ 13) v (mk v.toNat 0 (has ns R) []) V' R' ms b) : MkV (OkS V ns R ∧ V ≤ v ∧ v ≤ 13) v (R, ns) V' R' ms b :=
  h.conv (by rw [okS_iff]) fun hp => (grow_is hp.1 hp.2.1 hp.2.2).1

set_option maxRecDepth 100000 in
theorem byte_any (A : Option Addr) (n cap i : Nat) (w : World) (hA : BAt w A n) (hn : n ≤ 9223372036854775807) (hi : i ≤ 1000) :
    Calls Try.prog 26 #[.slice A n cap, .int .i64 (i : Int)] w fun e w' => In 0 255 e ∧ w = w' := by
  by_cases h : i < n
  · obtain ⟨b, off, rfl, hlt, f, hj⟩ := hA (by omega)
    obtain ⟨c0, c1, c2⟩ := hj i h
    clear hA hj
    go_enter Try.func26, Try.ntmps26
    go_wp2_with fail
    go_ret
    exact ⟨⟨_, rfl, c1, c2⟩, rfl⟩
  · clear hA
    go_enter Try.func26, Try.ntmps26
    go_wp2_with fail
    go_ret
    exact ⟨⟨_, rfl, by omega, by omega⟩, rfl⟩

theorem pow13 {k : Nat} (h : k ≤ 13) : 2 ^ k ≤ 8192 := Nat.pow_le_pow_right (n := 2) (j := 13) (by omega) h
theorem ok_t {V R : Int} {ns : List Nd} (A : Option Addr) (cap : Nat) (w : World) (h : OkI V ns R) (hA : NAt w A ns) (hn : ns.length ≤ 1048576) :
    Calls Try.prog 32 #[.agg #[.int .i64 V, .slice A ns.length cap, .int .i64 R]] w fun e w' => e = .returned (.bool true) ∧ Below w.heap.size w w' :=
  (bddOk_any V R A cap ns w hA hn).mono fun _ _ h' => ⟨h'.1.t h, h'.2⟩
theorem eval_b {V R : Int} {ns : List Nd} (x : Int) (c : Nat) (b : Bool) (A : Option Addr) (cap : Nat) (w : World) (h : OkI V ns R) (hx : x = (c : Int)) (hc : c < 2 ^ V.toNat) (hb : has ns R c = b) (hA : NAt w A ns) (hn : ns.length ≤ 1048576) :
    Calls Try.prog 18 #[.agg #[.int .i64 V, .slice A ns.length cap, .int .i64 R], .int .i64 x] w fun e w' => e = .returned (.bool b) ∧ Below w.heap.size w w' := by
  subst hx
  refine (implEval_any V R c A cap ns w hA hn).mono fun _ _ h' => ⟨?_, h'.2⟩
  have hr : 0 ≤ (c : Int) ∧ (c : Int) ≤ 2 ^ V.toNat - 1 := by
    have : ((2 : Int) ^ V.toNat) = ((2 ^ V.toNat : Nat) : Int) := by simp
    rw [this]; omega
  cases b with
  | true => exact h'.1.t ⟨h, hr, by simpa using hb⟩
  | false => exact h'.1.f fun q => by rw [show ((c : Nat) : Int).toNat = c by omega, hb] at q; exact absurd q.2.2 (by simp)
theorem count_t {V R : Int} {ns : List Nd} (x : Int) (A : Option Addr) (cap : Nat) (w : World) (h : OkI V ns R) (hx : ((codesF (has ns R) (2 ^ V.toNat)).length : Int) = x) (hA : NAt w A ns) (hn : ns.length ≤ 1048576) :
    Calls Try.prog 17 #[.agg #[.int .i64 V, .slice A ns.length cap, .int .i64 R]] w fun e w' => e = .returned (.int .i64 x) ∧ Below w.heap.size w w' := by
  subst hx
  exact (implCount_any V R A cap ns w hA hn).mono fun _ _ h' => ⟨by rcases h'.1 with h1 | h1; exact h1.2; exact (h1.1 h).elim, h'.2⟩

set_option maxRecDepth 100000 in
set_option maxHeartbeats 4000000 in
theorem fnGrow_law (A : Option Addr) (n cap : Nat) (w : World) (hA : BAt w A n) (hn : n ≤ cap) (hc : cap ≤ maxLen) :
    Calls Try.prog 6 #[.slice A n cap] w fun e w' => e = .returned (.bool true) ∧ Below w.heap.size w w' := by
  have HA := Lib.hid hA
  have HC := Lib.hid hc
  unfold maxLen at hc
  have HCC := Lib.hid hc
  clear hA
  by_cases hbig : 1048576 < n
  case pos =>
    clear hc
    go_enter Try.func6, Try.ntmps6
    go_wp2_with fail
    go_ret
    exact ⟨rfl, Below.refl _ _⟩
  clear hc
  go_enter Try.func6, Try.ntmps6
  go_upto_region 8 with (first
    | (go_at_call 36; (with_reducible refine (drawGrow_any A n cap _ (by exact HA.out) hn HC.out).mono ?_); rintro e w1 ⟨⟨V, R, ms, A1, c1, i, rfl, hV0, hV1, hl, hi0, hi1, ho⟩, hb⟩; have HB1 := Lib.hid hb; have O1 := Lib.hid ho; clear hb ho)
    | (go_at_call 37; (with_reducible refine (implGrow_any V R A1 c1 ms i _ (by exact NAt.of_own (O1.out.alloc _)) (by omega)).mono ?_); rintro e w2 ⟨hm, hb⟩; obtain ⟨V2, R2, m2, b2, A2, c2, hmv, rfl, ho2, hml⟩ := hm.is; have hx : Below w1.heap.size w1 w2 := ((Below.refl _ _).alloc (Nat.le_refl _) _).trans (hb.mono (by simp)); have HB2 : Hid (Below w.heap.size w w2) := HB1.out.trans (hx.mono HB1.out.size); have O1_2 := Lib.hid (own_below O1.out hx); have XB_2 := Lib.hid ((Blk.new w1 28 #[.int .i64 V, .slice A1 ms.length c1, .int .i64 R]).below hb (by simp)); have HMS := Lib.hid (conv_grow' hmv.out); obtain ⟨x20, x21, x22⟩ := XB_2.out.three; obtain ⟨x2a0, x2a1, x2a2⟩ := (XB_2.out.alloc (.cells #[.int .i64 V2, .slice A2 m2.length c2, .int .i64 R2] 28)).three; clear hb hx hm)
    | (go_at_call 38; (with_reducible refine (specGrow_any V R A1 c1 ms i _ (by exact NAt.of_own (O1_2.out.alloc _)) (by omega)).mono ?_); rintro e w3 ⟨hm, hb⟩; obtain ⟨A3, c3, rfl, ho3⟩ := hm.again HMS.out; have hx : Below w2.heap.size w2 w3 := ((Below.refl _ _).alloc (Nat.le_refl _) _).trans (hb.mono (by simp)); have HB3 : Hid (Below w.heap.size w w3) := HB2.out.trans (hx.mono HB2.out.size); have O1_3 := Lib.hid (own_below O1_2.out hx); have O2_3 := Lib.hid (own_mono (own_below ho2.out hx) (show w.heap.size ≤ _ by have h := HB1.out.size; simp; omega)); have XB_3 := Lib.hid (XB_2.out.below hx XB_2.out.lt); have YB_3 := Lib.hid ((Blk.new w2 28 #[.int .i64 V2, .slice A2 m2.length c2, .int .i64 R2]).below hb (by simp)); clear x20 x21 x22 x2a0 x2a1 x2a2; obtain ⟨y30, y31, y32⟩ := YB_3.out.three; obtain ⟨y3a0, y3a1, y3a2⟩ := (YB_3.out.alloc (.cells #[.int .i64 V2, .slice A3 m2.length c3, .int .i64 R2] 28)).three; clear hb hx hm)
    | (go_at_call 15; (with_reducible refine (ldBdd_any V2 V2 R2 R2 A2 A3 c2 c3 m2 m2 _ (by exact NAt.of_own (O2_3.out.alloc _)) (by exact NAt.of_own (ho3.out.alloc _)) (by omega) (by omega)).mono ?_); rintro e w4 ⟨hs, hb⟩; obtain rfl := hs.t ⟨rfl, rfl, rfl⟩; have hx : Below w3.heap.size w3 w4 := ((Below.refl _ _).alloc (Nat.le_refl _) _).trans (hb.mono (by simp)); have HB4 : Hid (Below w.heap.size w w4) := HB3.out.trans (hx.mono HB3.out.size); have O1_4 := Lib.hid (own_below O1_3.out hx); have O2_4 := Lib.hid (own_below O2_3.out hx); have XB_4 := Lib.hid (XB_3.out.below hx XB_3.out.lt); have YB_4 := Lib.hid (YB_3.out.below hx YB_3.out.lt); clear y30 y31 y32 y3a0 y3a1 y3a2 hb hx hs))
  cases b2 with
  | false =>
    go_wp2_with fail
    go_ret
    exact ⟨rfl, HB4.out⟩
  | true =>
    obtain ⟨hp, rfl, rfl, rfl, hl6⟩ : OkI V ms R ∧ i = V2 ∧ R = R2 ∧ ms = m2 ∧ (OkI V ms R ∧ V ≤ i ∧ i ≤ 13) := by
      rcases HMS.out with ⟨hp, _, rfl, rfl, rfl, _⟩ | ⟨_, _, _, _, h⟩
      · have := (okS_iff V _ _).1 hp.1
        exact ⟨this, rfl, rfl, rfl, this, hp.2⟩
      · cases h
    have HP := Lib.hid hp
    have HG := Lib.hid (grow_is hp hl6.2.1 hl6.2.2).2
    have hV0' := hp.1.v0
    obtain ⟨-, hVi, hi13⟩ := hl6
    obtain ⟨I, rfl⟩ := Int.eq_ofNat_of_zero_le (show 0 ≤ i by omega)
    obtain ⟨K, rfl⟩ := Int.eq_ofNat_of_zero_le hV0'
    obtain ⟨cb, hcb⟩ : ∃ cb : Nat, (codesF (has ms R) (2 ^ K)).length = cb := ⟨_, rfl⟩
    obtain ⟨cg, hcg⟩ : ∃ cg : Nat, (codesF (has ms R) (2 ^ I)).length = cg := ⟨_, rfl⟩
    have hmul : (codesF (has ms R) (2 ^ I)).length = (codesF (has ms R) (2 ^ K)).length * 2 ^ (I - K) := by
      have h := grow_count hp hVi
      rwa [show ((I : Int) - (K : Int)).toNat = I - K by omega] at h
    rw [hcb, hcg] at hmul
    have hcl := codesF_len (has ms R) (2 ^ I)
    rw [hcg] at hcl
    have h8 : 2 ^ I ≤ 8192 := pow13 (by omega)
    have HCB := Lib.hid hcb
    have HCG := Lib.hid hcg
    have HMUL := Lib.hid hmul
    have HCB' : Hid (((codesF (has ms R) (2 ^ (K : Int).toNat)).length : Int) = (cb : Int)) := by show ((codesF (has ms R) (2 ^ K)).length : Int) = _; rw [hcb]
    have HCG' : Hid (((codesF (has ms R) (2 ^ (I : Int).toNat)).length : Int) = (cg : Int)) := by show ((codesF (has ms R) (2 ^ I)).length : Int) = _; rw [hcg]
    have hcg8 : cg ≤ 8192 := by omega
    clear hp hcb hcg hmul hcl h8
    have K1 := fun x : Ext w4 => ext_cell XB_4.out.three.1 (by have h := XB_4.out.lt; exact h) x
    have K2 := fun x : Ext w4 => ext_cell XB_4.out.three.2.1 (by have h := XB_4.out.lt; exact h) x
    have K3 := fun x : Ext w4 => ext_cell XB_4.out.three.2.2 (by have h := XB_4.out.lt; exact h) x
    have K4 := fun x : Ext w4 => ext_cell YB_4.out.three.1 (by have h := YB_4.out.lt; exact h) x
    have K5 := fun x : Ext w4 => ext_cell YB_4.out.three.2.1 (by have h := YB_4.out.lt; exact h) x
    have K6 := fun x : Ext w4 => ext_cell YB_4.out.three.2.2 (by have h := YB_4.out.lt; exact h) x
    go_wp2_with fail
    refine wp_region_ext (by kernel_rfl) (by kernel_rfl) ?_
    repeat go_big_quiet_step ((first
      | (go_at_call 32; with_reducible (exact ext_below _ (ok_t A2 c2 _ HG.out ((NAt.of_own O2_4.out).below (Subtype.property _)) (by omega))))
      | (go_at_call 17; with_reducible (exact ext_below _ (count_t cg A2 c2 _ HG.out HCG'.out ((NAt.of_own O2_4.out).below (Subtype.property _)) (by omega))))
      | (go_at_call 17; with_reducible (exact ext_below _ (count_t cb A1 c1 _ HP.out HCB'.out ((NAt.of_own O1_4.out).below (Subtype.property _)) (by omega))))))
    refine wpQuiet_nil ?_
    intro _ hw'
    obtain ⟨x, hw''⟩ := hw'
    subst hw''
    clear K1 K2 K3 K4 K5 K6
    have hne : ((cg : Int) != wrap64 ((cb : Int) * 2 ^ (I - K))) = false := by
      rw [bne_eq_false_iff_eq]
      have h2 := HMUL.out
      have h3 : ((cb : Int) * 2 ^ (I - K)) = (cg : Int) := by rw [h2]; simp
      rw [h3]; unfold wrap64; omega
    rw [hne]
    clear hne
    go_wp2_with fail
    obtain ⟨P, hP⟩ : ∃ P, P = 2 ^ I := ⟨_, rfl⟩
    obtain ⟨Q, hQ⟩ : ∃ Q, Q = 2 ^ K := ⟨_, rfl⟩
    have hP8 : P ≤ 8192 := by rw [hP]; exact pow13 (by omega)
    have hQ8 : Q ≤ 8192 := by rw [hQ]; exact pow13 (by omega)
    have hP0 : 0 < P := by rw [hP]; exact Nat.pow_pos (by omega)
    have hQ0 : 0 < Q := by rw [hQ]; exact Nat.pow_pos (by omega)
    have eP : wrap64 (2 ^ I) = (P : Int) := by
      have : ((2 : Int) ^ I) = ((2 ^ I : Nat) : Int) := by simp
      rw [this, ← hP]; unfold wrap64; omega
    have eQ : wrap64 (2 ^ K) = (Q : Int) := by
      have : ((2 : Int) ^ K) = ((2 ^ K : Nat) : Int) := by simp
      rw [this, ← hQ]; unfold wrap64; omega
    have HPI := Lib.hid hP
    have HQK := Lib.hid hQ
    have EQ := Lib.hid eQ
    have EP := Lib.hid eP
    clear hP hQ eQ eP
    have HB5 : Hid (Below w.heap.size w x.1) := HB4.out.trans (x.2.mono HB4.out.size)
    have O1_5 := Lib.hid (own_below O1_4.out x.2)
    have O2_5 := Lib.hid (own_below O2_4.out x.2)
    have XB_5 := Lib.hid (XB_4.out.below x.2 XB_4.out.lt)
    have YB_5 := Lib.hid (YB_4.out.below x.2 YB_4.out.lt)
    go_loopw [9] (fun k wr => ∃ j : Nat, j ≤ 8 ∧ Hid (Below w.heap.size w wr) ∧ Hid (wr.ownsRow w.heap.size 89 3 (.slice A1 ms.length c1) ms.length (ncells ms)) ∧ Hid (wr.ownsRow w.heap.size 89 3 (.slice A2 ms.length c2) ms.length (ncells ms)) ∧ Hid (Blk wr w1.heap.size 28 #[.int .i64 (K : Int), .slice A1 ms.length c1, .int .i64 R]) ∧ Hid (Blk wr w2.heap.size 28 #[.int .i64 (I : Int), .slice A2 ms.length c2, .int .i64 R]) ∧ k = .int .i64 j) (fun k _ => 8 - (intOf k).toNat)
    case atStart => exact ⟨0, Nat.zero_le _, HB5, O1_5, O2_5, XB_5, YB_5, rfl⟩
    case round =>
      obtain ⟨j, hj, HBr, O1r, O2r, XBr, YBr, rfl⟩ := hrel
      by_cases hlt : j < 8
      case neg =>
        obtain rfl : j = 8 := by omega
        go_wp2_with fail
        go_ret
        exact ⟨rfl, HBr.out⟩
      have eP := EP.out
      go_wp2_with (go_at_call 26; (with_reducible refine (byte_any A n cap j _ (by exact HA.out.below HBr.out) (by omega) (by omega)).mono ?_); rintro e w' ⟨⟨v, rfl, hv0, hv1⟩, rfl⟩)
      have hz0 : 0 ≤ (v * 31 + (j : Int)) % (P : Int) := Int.emod_nonneg _ (by omega)
      have hz1 : (v * 31 + (j : Int)) % (P : Int) < (P : Int) := Int.emod_lt_of_pos _ (by omega)
      generalize (v * 31 + (j : Int)) % (P : Int) = z at *
      obtain ⟨C, rfl⟩ := Int.eq_ofNat_of_zero_le hz0
      clear eP hz0
      obtain ⟨D, hD⟩ : ∃ D : Nat, D = C % Q := ⟨_, rfl⟩
      have hDQ : D < Q := by rw [hD]; exact Nat.mod_lt _ hQ0
      obtain ⟨bb, hbb⟩ : ∃ bb, has ms R C = bb := ⟨_, rfl⟩
      have hbd : has ms R D = bb := by
        rw [hD, HQK.out, ← hbb]
        have h := has_mod HP.out.1.fm HP.out.1.root C
        simpa using h.symm
      have HD := Lib.hid hD
      have HBD := Lib.hid hbd
      have HBB := Lib.hid hbb
      clear hD hbd hbb
      have K1 := fun x : Ext wr => ext_cell XBr.out.three.1 (by have h := XBr.out.lt; exact h) x
      have K2 := fun x : Ext wr => ext_cell XBr.out.three.2.1 (by have h := XBr.out.lt; exact h) x
      have K3 := fun x : Ext wr => ext_cell XBr.out.three.2.2 (by have h := XBr.out.lt; exact h) x
      have K4 := fun x : Ext wr => ext_cell YBr.out.three.1 (by have h := YBr.out.lt; exact h) x
      have K5 := fun x : Ext wr => ext_cell YBr.out.three.2.1 (by have h := YBr.out.lt; exact h) x
      have K6 := fun x : Ext wr => ext_cell YBr.out.three.2.2 (by have h := YBr.out.lt; exact h) x
      have eQ3 : ((Q : Int) == 0) = false := by rw [beq_eq_false_iff_ne]; omega
      have eQ4 : Int.tmod (C : Int) (Q : Int) = (D : Int) := by rw [Int.tmod_eq_emod_of_nonneg (by omega), HD.out]; simp
      have eQ5 : IntKind.i64.wrap (D : Int) = (D : Int) := wrap_eq (by omega) (by omega)
      have hlm : ms.length ≤ 1048576 := by omega
      have HCI : Hid (C < 2 ^ (I : Int).toNat) := by show C < 2 ^ I; rw [← HPI.out]; omega
      have HDK : Hid (D < 2 ^ (K : Int).toNat) := by show D < 2 ^ K; rw [← HQK.out]; omega
      refine wp_region_ext (by kernel_rfl) (by kernel_rfl) ?_
      iterate 9 go_big_quiet_step ((go_at_call 18; with_reducible (exact ext_below _ (eval_b _ C bb A2 c2 _ HG.out rfl HCI.out HBB.out ((NAt.of_own O2r.out).below (Subtype.property _)) hlm))))
      rw [EQ.out]
      repeat go_big_quiet_step ((go_at_call 18; with_reducible (exact ext_below _ (eval_b _ D bb A1 c1 _ HP.out rfl HDK.out HBD.out ((NAt.of_own O1r.out).below (Subtype.property _)) hlm))))
      refine wpQuiet_nil ?_
      intro _ hw'
      obtain ⟨x, hw''⟩ := hw'
      subst hw''
      clear K1 K2 K3 K4 K5 K6
      go_wp2_with fail
      go_roundw
      case rel => exact ⟨j + 1, by omega, HBr.out.trans (x.2.mono HBr.out.size), own_below O1r.out x.2, own_below O2r.out x.2, XBr.out.below x.2 XBr.out.lt, YBr.out.below x.2 YBr.out.lt, by go_num⟩
      case measure => simp [intOf]; omega
end Go.Proofs.Ytffefegjnbfobaa
