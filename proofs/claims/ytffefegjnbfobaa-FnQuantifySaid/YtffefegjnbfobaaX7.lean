/- BddSome of the program, walked. -/
import Derived.Test.YtffefegjnbfobaaX6
import Derived.Test.YtffefegjnbfobaaX2
namespace Go.Proofs.Ytffefegjnbfobaa
open Go.RowKit
open B

theorem cap2 {P : Program} {f : FuncId} {x a b : Value} {W : World} {Q : Ending → World → Prop} (h : Calls P f #[x, a, b] W Q) : Calls P f ((#[] : Array Value).push x ++ #[a, b]) W Q := h

theorem has_val (b : Bool) (V R : Int) (A : Option Addr) (cap vars : Nat) (ns : List Nd) (c : Nat) (n : Int) (w : World) (h : n = (c : Int)) (hb : has ns R c = b) (hA : NAt w A ns) (hf : Fm vars ns) (hv : vars ≤ 13) (hR : isP ns R) (hcc : c < 9223372036854775808) (hn : ns.length ≤ 1048576) :
    Calls Try.prog 70 #[.agg #[.int .i64 V, .slice A ns.length cap, .int .i64 R], .int .i64 n] w fun e w' => e = .returned (.bool b) ∧ Below w.heap.size w w' := by
  subst hb; exact has_eq V R A cap vars ns c n w h hA hf hv hR hcc hn

set_option maxRecDepth 100000 in
set_option maxHeartbeats 800000 in
theorem some1_any (g0 g1 k i : Nat) (V0 R0 : Int) (A0 : Option Addr) (cap0 : Nat) (ns0 : List Nd) (c : Nat) (W : World) (hb0 : Blk W g0 28 (dB V0 R0 A0 ns0.length cap0)) (hb1 : Blk W g1 3 #[.int .i64 (i : Int)])
    (hA0 : NAt W A0 ns0) (hf0 : Fm k ns0) (hk : k ≤ 13) (hR0 : isP ns0 R0) (hi : i ≤ 13) (hcc : c < 16384) (hn0 : ns0.length ≤ 1048576) :
    Calls Try.prog 101 #[.int .i64 (c : Int), .pointer (some ⟨g0, 0, none⟩), .pointer (some ⟨g1, 0, none⟩)] W fun e W' => e = .returned (.bool (someF ns0 R0 i c)) ∧ Below W.heap.size W W' := by
  have K1 := fun x : Ext W => ext_cell hb0.three.1 (by have h := hb0.lt; exact h) x
  have K2 := fun x : Ext W => ext_cell hb0.three.2.1 (by have h := hb0.lt; exact h) x
  have K3 := fun x : Ext W => ext_cell hb0.three.2.2 (by have h := hb0.lt; exact h) x
  have K4 := fun x : Ext W => ext_cell hb1.one (by have h := hb1.lt; exact h) x
  have HA0 := Lib.hid hA0
  clear hb0 hb1 hA0
  obtain ⟨p, hp⟩ : ∃ p, p = 2 ^ i := ⟨_, rfl⟩
  have hp13 : p ≤ 8192 := by rw [hp]; exact Nat.pow_le_pow_right (n := 2) (by omega) hi
  have e1 : wrap64 (2 ^ i) = (p : Int) := by
    have : ((2 : Int) ^ i) = ((2 ^ i : Nat) : Int) := by simp
    rw [this, ← hp]; unfold wrap64; omega
  have E1 := Lib.hid e1
  have E2 := Lib.hid (xor_bits c i hi hcc (p : Int) (by rw [hp]))
  have hlt := xor_lt14 hi hcc
  clear hp e1
  unfold someF
  generalize c ^^^ 2 ^ i = z at *
  cases h0 : has ns0 R0 c with
  | true =>
    have H0 := Lib.hid h0
    clear h0
    go_enter Try.func101, Try.ntmps101
    go_wp2_with fail
    refine wp_region_ext (by kernel_rfl) (by kernel_rfl) ?_
    repeat go_big_quiet_step ((go_at_call 70; exact ext_below _ (has_val true V0 R0 A0 cap0 k ns0 c _ _ rfl (by exact H0.out) (HA0.out.below (Subtype.property _)) hf0 hk hR0 (by omega) hn0)))
    refine wpQuiet_nil ?_
    intro _ hw'
    obtain ⟨x, hw''⟩ := hw'
    subst hw''
    go_wp2_with fail
    go_ret
    exact ⟨rfl, x.2⟩
  | false =>
    have H0 := Lib.hid h0
    clear h0
    go_enter Try.func101, Try.ntmps101
    go_wp2_with fail
    refine wp_region_ext (by kernel_rfl) (by kernel_rfl) ?_
    repeat go_big_quiet_step ((first | (go_at_call 70; with_reducible (exact ext_below _ (has_val false V0 R0 A0 cap0 k ns0 c _ _ rfl (by exact H0.out) (HA0.out.below (Subtype.property _)) hf0 hk hR0 (by omega) hn0))) | (go_at_call 70; exact ext_below _ (has_eq V0 R0 A0 cap0 k ns0 z _ _ (by rw [E1.out]; exact E2.out) (HA0.out.below (Subtype.property _)) hf0 hk hR0 (by omega) hn0))))
    refine wpQuiet_nil ?_
    intro _ hw'
    obtain ⟨x, hw''⟩ := hw'
    subst hw''
    go_wp2_with fail
    go_ret
    exact ⟨rfl, x.2⟩
theorem some1_int (g0 g1 k : Nat) (x1 : Int) (V0 R0 : Int) (A0 : Option Addr) (cap0 : Nat) (ns0 : List Nd) (c : Nat) (W : World) (hb0 : Blk W g0 28 (dB V0 R0 A0 ns0.length cap0)) (hb1 : Blk W g1 3 #[.int .i64 x1])
    (hA0 : NAt W A0 ns0) (hf0 : Fm k ns0) (hk : k ≤ 13) (hR0 : isP ns0 R0) (h0 : 0 ≤ x1) (hi : x1 ≤ 13) (hcc : c < 16384) (hn0 : ns0.length ≤ 1048576) :
    Calls Try.prog 101 #[.int .i64 (c : Int), .pointer (some ⟨g0, 0, none⟩), .pointer (some ⟨g1, 0, none⟩)] W fun e W' => e = .returned (.bool (someF ns0 R0 x1.toNat c)) ∧ Below W.heap.size W W' := by
  obtain ⟨i, rfl⟩ := Int.eq_ofNat_of_zero_le h0
  exact some1_any g0 g1 k i V0 R0 A0 cap0 ns0 c W hb0 hb1 hA0 hf0 hk hR0 (by omega) hcc hn0
theorem some1_enters : Enters Try.prog 101 := enters_of Try.func101 (by kernel_rfl) rfl

set_option maxRecDepth 100000 in
set_option maxHeartbeats 400000 in
theorem implSome_any (V0 R0 : Int) (A0 : Option Addr) (cap0 : Nat) (ns0 : List Nd) (x1 : Int) (w : World) (hA0 : NAt w A0 ns0) (hn0 : ns0.length ≤ 1048576) :
    Calls Try.prog 46 #[.agg (dB V0 R0 A0 ns0.length cap0), .int .i64 x1] w fun e w' => Mkd (OkI V0 ns0 R0 ∧ 0 ≤ x1 ∧ x1 ≤ V0 - 1) V0 (mk V0.toNat 0 (someF ns0 R0 x1.toNat) []) w.heap.size w' e ∧ Below w.heap.size w w' := by
  have HA0 := Lib.hid hA0
  clear hA0
  have HB0 : Hid (Below w.heap.size w (((w.alloc (.cells (dB V0 R0 A0 ns0.length cap0) 28)).alloc (.cells #[.int .i64 x1] 3)).alloc (.cells zB 28))) := ((((Below.refl _ _).alloc (Nat.le_refl _) _).alloc (by simp) _).alloc (by simp; omega) _)
  have X0_0 : Hid (Blk (((w.alloc (.cells (dB V0 R0 A0 ns0.length cap0) 28)).alloc (.cells #[.int .i64 x1] 3)).alloc (.cells zB 28)) (w.heap.size) 28 (dB V0 R0 A0 ns0.length cap0)) := (((Blk.new w _ _).alloc _).alloc _)
  have IB_0 : Hid (Blk (((w.alloc (.cells (dB V0 R0 A0 ns0.length cap0) 28)).alloc (.cells #[.int .i64 x1] 3)).alloc (.cells zB 28)) (w.heap.size + 1) 3 #[.int .i64 x1]) := ((Blk.new_at _ _ _ (g := w.heap.size + 1) (by simp)).alloc _)
  have RB_0 : Hid (Blk (((w.alloc (.cells (dB V0 R0 A0 ns0.length cap0) 28)).alloc (.cells #[.int .i64 x1] 3)).alloc (.cells zB 28)) (w.heap.size + 1 + 1) 28 zB) := (Blk.new_at _ _ _ (g := w.heap.size + 1 + 1) (by simp))
  by_cases hok0 : OkI V0 ns0 R0 ∧ 0 ≤ x1 ∧ x1 ≤ V0 - 1
  case neg =>
    have HOK0 := Lib.hid hok0
    clear hok0
    go_enter Try.func46, Try.ntmps46
    go_wp2_with (first
      | (go_at_call 100; (with_reducible refine (withBit_any V0 R0 A0 cap0 ns0 x1 _ (by exact HA0.out.below HB0.out) hn0).mono ?_); rintro e w1 ⟨hs, hb⟩; obtain rfl := hs.f HOK0.out; have HB1 : Hid (Below w.heap.size w w1) := HB0.out.trans (hb.mono HB0.out.size); have X0_1 := Lib.hid (X0_0.out.below hb X0_0.out.lt); have IB_1 := Lib.hid (IB_0.out.below hb IB_0.out.lt); have RB_1 := Lib.hid (RB_0.out.below hb RB_0.out.lt); obtain ⟨x0c1_0, x0c1_1, x0c1_2⟩ := X0_1.out.three; have ibc1 := IB_1.out.one; obtain ⟨rbc1_0, rbc1_1, rbc1_2⟩ := RB_1.out.three; have rf1_0 := RB_1.out.frozen 0; have rf1_1 := RB_1.out.frozen 1; have rf1_2 := RB_1.out.frozen 2; clear hs hb))
    obtain ⟨u0, u1, u2⟩ := (RB_1.out.put3 (.int .i64 0) (.slice none 0 0) (.int .i64 0)).three
    refine bodyPost_ret (v := .tuple #[.agg zB, .bool false]) (by simp [results, Try.results46, go_sem, u0, u1, u2]) rfl ⟨Mkd.none HOK0.out, below_put3 HB1.out (by omega) _ _ _⟩
  have HOK0 := Lib.hid hok0
  clear hok0
  obtain ⟨k, hVk, hk, hf, hR⟩ := OkI.nat HOK0.out.1
  have HVk := Lib.hid hVk
  have HF := Lib.hid hf
  have HR := Lib.hid hR
  clear hVk hf hR
  have hmf : ∀ (fn : Fn) (first cap : Array Value) (w : World), (Instr.makeFunc fn first cap).run Try.prog w = .ok (.func fn first cap) w := fun _ _ _ _ => rfl
  go_enter Try.func46, Try.ntmps46
  go_wp2_with (first
    | (go_at_call 100; (with_reducible refine (withBit_any V0 R0 A0 cap0 ns0 x1 _ (by exact HA0.out.below HB0.out) hn0).mono ?_); rintro e w1 ⟨hs, hb⟩; obtain rfl := hs.t HOK0.out; have HB1 : Hid (Below w.heap.size w w1) := HB0.out.trans (hb.mono HB0.out.size); have X0_1 := Lib.hid (X0_0.out.below hb X0_0.out.lt); have IB_1 := Lib.hid (IB_0.out.below hb IB_0.out.lt); have RB_1 := Lib.hid (RB_0.out.below hb RB_0.out.lt); obtain ⟨x0c1_0, x0c1_1, x0c1_2⟩ := X0_1.out.three; have ibc1 := IB_1.out.one; obtain ⟨rbc1_0, rbc1_1, rbc1_2⟩ := RB_1.out.three; have rf1_0 := RB_1.out.frozen 0; have rf1_1 := RB_1.out.frozen 1; have rf1_2 := RB_1.out.frozen 2; clear hs hb)
    | (go_at_call 74; (with_reducible refine (told_any V0 101 _ _ (someF ns0 R0 x1.toNat) _ some1_enters (by exact fun h0 h1 W c hb hc => cap2 (some1_int w.heap.size (w.heap.size + 1) k x1 V0 R0 A0 cap0 ns0 c W (X0_1.out.below hb X0_1.out.lt) (IB_1.out.below hb IB_1.out.lt) (HA0.out.below (HB1.out.trans (hb.mono HB1.out.size))) HF.out hk HR.out HOK0.out.2.1 (Int.le_trans HOK0.out.2.2 (by omega)) (lt_of_pow' hc h1) hn0))).mono ?_); rintro e w2 ⟨hm, hb⟩; obtain ⟨V', R', ms, bb, A', c', hmv, rfl, ho, hml⟩ := hm.is; have HB2 : Hid (Below w.heap.size w w2) := HB1.out.trans (hb.mono HB1.out.size); have X0_2 := Lib.hid (X0_1.out.below hb X0_1.out.lt); have IB_2 := Lib.hid (IB_1.out.below hb IB_1.out.lt); have RB_2 := Lib.hid (RB_1.out.below hb RB_1.out.lt); obtain ⟨rx0, rx1, rx2⟩ := RB_2.out.three; have rf2_0 := RB_2.out.frozen 0; have rf2_1 := RB_2.out.frozen 1; have rf2_2 := RB_2.out.frozen 2; clear hm hb))
  obtain ⟨u0, u1, u2⟩ := (RB_2.out.put3 (.int .i64 V') (.slice A' ms.length c') (.int .i64 R')).three
  refine bodyPost_ret (v := .tuple #[.agg #[.int .i64 V', .slice A' ms.length c', .int .i64 R'], .bool bb]) (by simp [results, Try.results46, go_sem, u0, u1, u2]) rfl ⟨⟨V', R', ms, bb, A', c', hmv.out.conv ⟨fun _ => HOK0.out, fun _ => ⟨HOK0.out.1.1.v0, HOK0.out.1.1.v1⟩⟩ (fun _ => rfl), rfl, own_put3 (own_mono ho.out HB1.out.size) (own_ne_blk ho.out RB_2.out (by decide)) _ _ _⟩, below_put3 HB2.out (by omega) _ _ _⟩

end Go.Proofs.Ytffefegjnbfobaa
