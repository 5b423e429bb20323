/- Makers of diagrams of the program, walked: If, Not, pair with And, Or, Xor, Fix. -/
import Derived.Test.YtffefegjnbfobaaQ1
import Derived.Test.YtffefegjnbfobaaS2
namespace Go.Proofs.Ytffefegjnbfobaa
open Go.RowKit
open B

theorem Blk.one {w : World} {g : Nat} {t : TypeId} {x : Value} (h : Blk w g t #[x]) : w.cell? ⟨g, 0, none⟩ = some x := by rw [h.cell]; rfl

theorem OkI.form {V R : Int} {ns : List Nd} (h : OkI V ns R) : Formed V ns R := h.1
theorem OkS.form {V R : Int} {ns : List Nd} (h : OkS V ns R) : Formed V ns R := h.1

def ifF (nc : List Nd) (Rc : Int) (na : List Nd) (Ra : Int) (nb : List Nd) (Rb : Int) (c : Nat) : Bool := (has nc Rc c && has na Ra c) || (!has nc Rc c && has nb Rb c)

set_option maxRecDepth 100000 in
set_option maxHeartbeats 400000 in
theorem not1_any (g k : Nat) (V R : Int) (A : Option Addr) (cap : Nat) (ns : List Nd) (c : Nat) (W : World) (hb : Blk W g 28 (dB V R A ns.length cap)) (hA : NAt W A ns) (hf : Fm k ns) (hk : k ≤ 13) (hR : isP ns R) (hcc : c < 9223372036854775808) (hn : ns.length ≤ 1048576) :
    Calls Try.prog 81 #[.int .i64 (c : Int), .pointer (some ⟨g, 0, none⟩)] W fun e W' => e = .returned (.bool (!has ns R c)) ∧ Below W.heap.size W W' := by
  obtain ⟨x0, x1, x2⟩ := hb.three
  have HA := Lib.hid hA
  clear hb hA
  go_enter Try.func81, Try.ntmps81
  go_wp2_with (go_at_call 70; refine (has_any V R A cap k ns c _ (by exact HA.out) hf hk hR hcc hn).mono ?_; rintro e w1 ⟨rfl, hb1⟩)
  go_ret
  exact ⟨rfl, hb1⟩
section
variable {P : Program} {f : FuncId} {x a b c : Value} {W : World} {Q : Ending → World → Prop}
theorem cap1 (h : Calls P f #[x, a] W Q) : Calls P f ((#[] : Array Value).push x ++ #[a]) W Q := h
theorem cap3 (h : Calls P f #[x, a, b, c] W Q) : Calls P f ((#[] : Array Value).push x ++ #[a, b, c]) W Q := h
end
theorem not1_enters : Enters Try.prog 81 := enters_of Try.func81 (by kernel_rfl) rfl

set_option maxRecDepth 100000 in
set_option maxHeartbeats 800000 in
theorem if1_any (g0 g1 g2 k : Nat) (V0 V1 V2 R0 R1 R2 : Int) (A0 A1 A2 : Option Addr) (cap0 cap1 cap2 : Nat) (ns0 ns1 ns2 : List Nd) (c : Nat) (W : World) (hb0 : Blk W g0 28 (dB V0 R0 A0 ns0.length cap0)) (hb1 : Blk W g1 28 (dB V1 R1 A1 ns1.length cap1)) (hb2 : Blk W g2 28 (dB V2 R2 A2 ns2.length cap2))
    (hA0 : NAt W A0 ns0) (hA1 : NAt W A1 ns1) (hA2 : NAt W A2 ns2) (hf0 : Fm k ns0) (hf1 : Fm k ns1) (hf2 : Fm k ns2) (hk : k ≤ 13) (hR0 : isP ns0 R0) (hR1 : isP ns1 R1) (hR2 : isP ns2 R2) (hcc : c < 9223372036854775808) (hn0 : ns0.length ≤ 1048576) (hn1 : ns1.length ≤ 1048576) (hn2 : ns2.length ≤ 1048576) :
    Calls Try.prog 89 #[.int .i64 (c : Int), .pointer (some ⟨g0, 0, none⟩), .pointer (some ⟨g1, 0, none⟩), .pointer (some ⟨g2, 0, none⟩)] W fun e W' => e = .returned (.bool (ifF ns0 R0 ns1 R1 ns2 R2 c)) ∧ Below W.heap.size W W' := by
  obtain ⟨x0, x1, x2⟩ := hb0.three
  obtain ⟨y0, y1, y2⟩ := hb1.three
  obtain ⟨z0, z1, z2⟩ := hb2.three
  have HB0 := Lib.hid hb0
  have HB1 := Lib.hid hb1
  have HB2 := Lib.hid hb2
  have HA0 := Lib.hid hA0
  have HA1 := Lib.hid hA1
  have HA2 := Lib.hid hA2
  clear hb0 hb1 hb2 hA0 hA1 hA2
  unfold ifF
  cases h0 : has ns0 R0 c with
  | true =>
    cases h1 : has ns1 R1 c with
    | true =>
      have H0 := Lib.hid h0
      have H1 := Lib.hid h1
      clear h0 h1
      go_enter Try.func89, Try.ntmps89
      go_wp2_with (first
        | (go_at_call 70; (with_reducible refine (has_any V0 R0 A0 cap0 k ns0 c _ (by exact HA0.out) hf0 hk hR0 hcc hn0).mono ?_); rw [H0.out]; rintro e w1 ⟨rfl, hw1⟩; obtain ⟨a0, a1, a2⟩ := (HB1.out.below hw1 HB1.out.lt).three)
        | (go_at_call 70; (with_reducible refine (has_any V1 R1 A1 cap1 k ns1 c _ (by exact HA1.out.below hw1) hf1 hk hR1 hcc hn1).mono ?_); rw [H1.out]; rintro e w2 ⟨rfl, hw2⟩))
      go_ret
      exact ⟨rfl, hw1.trans (hw2.mono hw1.size)⟩
    | false =>
      have H0 := Lib.hid h0
      have H1 := Lib.hid h1
      clear h0 h1
      go_enter Try.func89, Try.ntmps89
      go_wp2_with (first
        | (go_at_call 70; (with_reducible refine (has_any V0 R0 A0 cap0 k ns0 c _ (by exact HA0.out) hf0 hk hR0 hcc hn0).mono ?_); rw [H0.out]; rintro e w1 ⟨rfl, hw1⟩; obtain ⟨a0, a1, a2⟩ := (HB1.out.below hw1 HB1.out.lt).three)
        | (go_at_call 70; (with_reducible refine (has_any V1 R1 A1 cap1 k ns1 c _ (by exact HA1.out.below hw1) hf1 hk hR1 hcc hn1).mono ?_); rw [H1.out]; rintro e w2 ⟨rfl, hw2⟩; obtain ⟨b0, b1, b2⟩ := ((HB0.out.below hw1 HB0.out.lt).below hw2 (Nat.lt_of_lt_of_le HB0.out.lt hw1.size)).three)
        | (go_at_call 70; (with_reducible refine (has_any V0 R0 A0 cap0 k ns0 c _ (by exact (HA0.out.below hw1).below hw2) hf0 hk hR0 hcc hn0).mono ?_); rw [H0.out]; rintro e w3 ⟨rfl, hw3⟩))
      go_ret
      exact ⟨rfl, hw1.trans ((hw2.trans (hw3.mono hw2.size)).mono hw1.size)⟩
  | false =>
    have H0 := Lib.hid h0
    clear h0
    go_enter Try.func89, Try.ntmps89
    go_wp2_with (first
      | (go_at_call 70; (with_reducible refine (has_any V0 R0 A0 cap0 k ns0 c _ (by exact HA0.out) hf0 hk hR0 hcc hn0).mono ?_); rw [H0.out]; rintro e w1 ⟨rfl, hw1⟩; obtain ⟨a0, a1, a2⟩ := (HB0.out.below hw1 HB0.out.lt).three)
      | (go_at_call 70; (with_reducible refine (has_any V0 R0 A0 cap0 k ns0 c _ (by exact HA0.out.below hw1) hf0 hk hR0 hcc hn0).mono ?_); rw [H0.out]; rintro e w2 ⟨rfl, hw2⟩; obtain ⟨b0, b1, b2⟩ := ((HB2.out.below hw1 HB2.out.lt).below hw2 (Nat.lt_of_lt_of_le HB2.out.lt hw1.size)).three)
      | (go_at_call 70; (with_reducible refine (has_any V2 R2 A2 cap2 k ns2 c _ (by exact (HA2.out.below hw1).below hw2) hf2 hk hR2 hcc hn2).mono ?_); rintro e w3 ⟨rfl, hw3⟩))
    go_ret
    exact ⟨rfl, hw1.trans ((hw2.trans (hw3.mono hw2.size)).mono hw1.size)⟩
theorem if1_enters : Enters Try.prog 89 := enters_of Try.func89 (by kernel_rfl) rfl

theorem lt_of_pow {c : Nat} {V : Int} (h : c < 2 ^ V.toNat) (h1 : V ≤ 13) : c < 9223372036854775808 := by
  have : 2 ^ V.toNat ≤ 2 ^ 13 := Nat.pow_le_pow_right (by omega) (by omega)
  omega

set_option maxRecDepth 100000 in
set_option maxHeartbeats 400000 in
theorem implNot_any (V0 R0 : Int) (A0 : Option Addr) (cap0 : Nat) (ns0 : List Nd) (w : World) (hA0 : NAt w A0 ns0) (hn0 : ns0.length ≤ 1048576) :
    Calls Try.prog 28 #[.agg (dB V0 R0 A0 ns0.length cap0)] w fun e w' => Mkd (OkI V0 ns0 R0) V0 (mk V0.toNat 0 (fun c => !has ns0 R0 c) []) w.heap.size w' e ∧ Below w.heap.size w w' := by
  have HA0 := Lib.hid hA0
  clear hA0
  have HB0 : Hid (Below w.heap.size w ((w.alloc (.cells (dB V0 R0 A0 ns0.length cap0) 28)).alloc (.cells zB 28))) := (((Below.refl _ _).alloc (Nat.le_refl _) _).alloc (by simp) _)
  have X0_0 : Hid (Blk ((w.alloc (.cells (dB V0 R0 A0 ns0.length cap0) 28)).alloc (.cells zB 28)) (w.heap.size) 28 (dB V0 R0 A0 ns0.length cap0)) := ((Blk.new w _ _).alloc _)
  have RB_0 : Hid (Blk ((w.alloc (.cells (dB V0 R0 A0 ns0.length cap0) 28)).alloc (.cells zB 28)) (w.heap.size + 1) 28 zB) := (Blk.new_at _ _ _ (g := w.heap.size + 1) (by simp))
  by_cases hok0 : OkI V0 ns0 R0
  case neg =>
    have HOK0 := Lib.hid hok0
    clear hok0
    go_enter Try.func28, Try.ntmps28
    go_wp2_with (first
      | (go_at_call 32; (with_reducible refine (bddOk_any V0 R0 A0 cap0 ns0 _ (by exact HA0.out.below HB0.out) hn0).mono ?_); rintro e w1 ⟨hs, hb⟩; obtain rfl := hs.f HOK0.out; have HB1 : Hid (Below w.heap.size w w1) := HB0.out.trans (hb.mono HB0.out.size); have X0_1 := Lib.hid (X0_0.out.below hb X0_0.out.lt); have RB_1 := Lib.hid (RB_0.out.below hb RB_0.out.lt); obtain ⟨x0c1_0, x0c1_1, x0c1_2⟩ := X0_1.out.three; obtain ⟨rbc1_0, rbc1_1, rbc1_2⟩ := RB_1.out.three; have rf1_0 := RB_1.out.frozen 0; have rf1_1 := RB_1.out.frozen 1; have rf1_2 := RB_1.out.frozen 2; clear hs hb))
    obtain ⟨u0, u1, u2⟩ := (RB_1.out.put3 (.int .i64 0) (.slice none 0 0) (.int .i64 0)).three
    refine bodyPost_ret (v := .tuple #[.agg zB, .bool false]) (by simp [results, Try.results28, go_sem, u0, u1, u2]) rfl ⟨Mkd.none (fun h => HOK0.out h), below_put3 HB1.out (by omega) _ _ _⟩
  have HOK0 := Lib.hid hok0
  clear hok0
  obtain ⟨k, hVk, hk, hf, hR⟩ := OkI.nat HOK0.out
  have HVk := Lib.hid hVk
  have HF := Lib.hid hf
  have HR := Lib.hid hR
  clear hVk hf hR
  have hmf : ∀ (fn : Fn) (first cap : Array Value) (w : World), (Instr.makeFunc fn first cap).run Try.prog w = .ok (.func fn first cap) w := fun _ _ _ _ => rfl
  go_enter Try.func28, Try.ntmps28
  go_wp2_with (first
    | (go_at_call 32; (with_reducible refine (bddOk_any V0 R0 A0 cap0 ns0 _ (by exact HA0.out.below HB0.out) hn0).mono ?_); rintro e w1 ⟨hs, hb⟩; obtain rfl := hs.t HOK0.out; have HB1 : Hid (Below w.heap.size w w1) := HB0.out.trans (hb.mono HB0.out.size); have X0_1 := Lib.hid (X0_0.out.below hb X0_0.out.lt); have RB_1 := Lib.hid (RB_0.out.below hb RB_0.out.lt); obtain ⟨x0c1_0, x0c1_1, x0c1_2⟩ := X0_1.out.three; obtain ⟨rbc1_0, rbc1_1, rbc1_2⟩ := RB_1.out.three; have rf1_0 := RB_1.out.frozen 0; have rf1_1 := RB_1.out.frozen 1; have rf1_2 := RB_1.out.frozen 2; clear hs hb)
    | (go_at_call 74; (with_reducible refine (told_any V0 81 _ _ (fun c => !has ns0 R0 c) _ not1_enters (by exact fun h0 h1 W c hb hc => cap1 (not1_any w.heap.size k V0 R0 A0 cap0 ns0 c W (X0_1.out.below hb X0_1.out.lt) (HA0.out.below (HB1.out.trans (hb.mono HB1.out.size))) HF.out hk HR.out (lt_of_pow hc h1) hn0))).mono ?_); rintro e w2 ⟨hm, hb⟩; obtain ⟨V', R', ms, bb, A', c', hmv, rfl, ho, hml⟩ := hm.is; have HB2 : Hid (Below w.heap.size w w2) := HB1.out.trans (hb.mono HB1.out.size); have X0_2 := Lib.hid (X0_1.out.below hb X0_1.out.lt); have RB_2 := Lib.hid (RB_1.out.below hb RB_1.out.lt); obtain ⟨rx0, rx1, rx2⟩ := RB_2.out.three; have rf2_0 := RB_2.out.frozen 0; have rf2_1 := RB_2.out.frozen 1; have rf2_2 := RB_2.out.frozen 2; clear hm hb))
  obtain ⟨u0, u1, u2⟩ := (RB_2.out.put3 (.int .i64 V') (.slice A' ms.length c') (.int .i64 R')).three
  refine bodyPost_ret (v := .tuple #[.agg #[.int .i64 V', .slice A' ms.length c', .int .i64 R'], .bool bb]) (by simp [results, Try.results28, go_sem, u0, u1, u2]) rfl ⟨⟨V', R', ms, bb, A', c', hmv.out.conv ⟨fun _ => HOK0.out, fun _ => ⟨HOK0.out.1.v0, HOK0.out.1.v1⟩⟩ (fun _ => rfl), rfl, own_put3 (own_mono ho.out HB1.out.size) (own_ne_blk ho.out RB_2.out (by decide)) _ _ _⟩, below_put3 HB2.out (by omega) _ _ _⟩

set_option maxRecDepth 100000 in
set_option maxHeartbeats 1000000 in
theorem implIf_any (V0 R0 : Int) (A0 : Option Addr) (cap0 : Nat) (ns0 : List Nd) (V1 R1 : Int) (A1 : Option Addr) (cap1 : Nat) (ns1 : List Nd) (V2 R2 : Int) (A2 : Option Addr) (cap2 : Nat) (ns2 : List Nd) (w : World) (hA0 : NAt w A0 ns0) (hn0 : ns0.length ≤ 1048576) (hA1 : NAt w A1 ns1) (hn1 : ns1.length ≤ 1048576) (hA2 : NAt w A2 ns2) (hn2 : ns2.length ≤ 1048576) :
    Calls Try.prog 33 #[.agg (dB V0 R0 A0 ns0.length cap0), .agg (dB V1 R1 A1 ns1.length cap1), .agg (dB V2 R2 A2 ns2.length cap2)] w fun e w' => Mkd (OkI V0 ns0 R0 ∧ OkI V1 ns1 R1 ∧ OkI V2 ns2 R2 ∧ V1 = V0 ∧ V2 = V0) V0 (mk V0.toNat 0 (ifF ns0 R0 ns1 R1 ns2 R2) []) w.heap.size w' e ∧ Below w.heap.size w w' := by
  have HA0 := Lib.hid hA0
  have HA1 := Lib.hid hA1
  have HA2 := Lib.hid hA2
  clear hA0 hA1 hA2
  have HB0 : Hid (Below w.heap.size w ((((w.alloc (.cells (dB V0 R0 A0 ns0.length cap0) 28)).alloc (.cells (dB V1 R1 A1 ns1.length cap1) 28)).alloc (.cells (dB V2 R2 A2 ns2.length cap2) 28)).alloc (.cells zB 28))) := (((((Below.refl _ _).alloc (Nat.le_refl _) _).alloc (by simp) _).alloc (by simp; omega) _).alloc (by simp; omega) _)
  have X0_0 : Hid (Blk ((((w.alloc (.cells (dB V0 R0 A0 ns0.length cap0) 28)).alloc (.cells (dB V1 R1 A1 ns1.length cap1) 28)).alloc (.cells (dB V2 R2 A2 ns2.length cap2) 28)).alloc (.cells zB 28)) (w.heap.size) 28 (dB V0 R0 A0 ns0.length cap0)) := ((((Blk.new w _ _).alloc _).alloc _).alloc _)
  have X1_0 : Hid (Blk ((((w.alloc (.cells (dB V0 R0 A0 ns0.length cap0) 28)).alloc (.cells (dB V1 R1 A1 ns1.length cap1) 28)).alloc (.cells (dB V2 R2 A2 ns2.length cap2) 28)).alloc (.cells zB 28)) (w.heap.size + 1) 28 (dB V1 R1 A1 ns1.length cap1)) := (((Blk.new_at _ _ _ (g := w.heap.size + 1) (by simp)).alloc _).alloc _)
  have X2_0 : Hid (Blk ((((w.alloc (.cells (dB V0 R0 A0 ns0.length cap0) 28)).alloc (.cells (dB V1 R1 A1 ns1.length cap1) 28)).alloc (.cells (dB V2 R2 A2 ns2.length cap2) 28)).alloc (.cells zB 28)) (w.heap.size + 1 + 1) 28 (dB V2 R2 A2 ns2.length cap2)) := ((Blk.new_at _ _ _ (g := w.heap.size + 1 + 1) (by simp)).alloc _)
  have RB_0 : Hid (Blk ((((w.alloc (.cells (dB V0 R0 A0 ns0.length cap0) 28)).alloc (.cells (dB V1 R1 A1 ns1.length cap1) 28)).alloc (.cells (dB V2 R2 A2 ns2.length cap2) 28)).alloc (.cells zB 28)) (w.heap.size + 1 + 1 + 1) 28 zB) := (Blk.new_at _ _ _ (g := w.heap.size + 1 + 1 + 1) (by simp))
  by_cases hok0 : OkI V0 ns0 R0
  case neg =>
    have HOK0 := Lib.hid hok0
    clear hok0
    go_enter Try.func33, Try.ntmps33
    go_wp2_with (first
      | (go_at_call 32; (with_reducible refine (bddOk_any V0 R0 A0 cap0 ns0 _ (by exact HA0.out.below HB0.out) hn0).mono ?_); rintro e w1 ⟨hs, hb⟩; obtain rfl := hs.f HOK0.out; have HB1 : Hid (Below w.heap.size w w1) := HB0.out.trans (hb.mono HB0.out.size); have X0_1 := Lib.hid (X0_0.out.below hb X0_0.out.lt); have X1_1 := Lib.hid (X1_0.out.below hb X1_0.out.lt); have X2_1 := Lib.hid (X2_0.out.below hb X2_0.out.lt); have RB_1 := Lib.hid (RB_0.out.below hb RB_0.out.lt); obtain ⟨x0c1_0, x0c1_1, x0c1_2⟩ := X0_1.out.three; obtain ⟨x1c1_0, x1c1_1, x1c1_2⟩ := X1_1.out.three; obtain ⟨x2c1_0, x2c1_1, x2c1_2⟩ := X2_1.out.three; obtain ⟨rbc1_0, rbc1_1, rbc1_2⟩ := RB_1.out.three; have rf1_0 := RB_1.out.frozen 0; have rf1_1 := RB_1.out.frozen 1; have rf1_2 := RB_1.out.frozen 2; clear hs hb))
    obtain ⟨u0, u1, u2⟩ := (RB_1.out.put3 (.int .i64 0) (.slice none 0 0) (.int .i64 0)).three
    refine bodyPost_ret (v := .tuple #[.agg zB, .bool false]) (by simp [results, Try.results33, go_sem, u0, u1, u2]) rfl ⟨Mkd.none (fun h => HOK0.out h.1), below_put3 HB1.out (by omega) _ _ _⟩
  have HOK0 := Lib.hid hok0
  clear hok0
  by_cases hok1 : OkI V1 ns1 R1
  case neg =>
    have HOK1 := Lib.hid hok1
    clear hok1
    go_enter Try.func33, Try.ntmps33
    go_wp2_with (first
      | (go_at_call 32; (with_reducible refine (bddOk_any V0 R0 A0 cap0 ns0 _ (by exact HA0.out.below HB0.out) hn0).mono ?_); rintro e w1 ⟨hs, hb⟩; obtain rfl := hs.t HOK0.out; have HB1 : Hid (Below w.heap.size w w1) := HB0.out.trans (hb.mono HB0.out.size); have X0_1 := Lib.hid (X0_0.out.below hb X0_0.out.lt); have X1_1 := Lib.hid (X1_0.out.below hb X1_0.out.lt); have X2_1 := Lib.hid (X2_0.out.below hb X2_0.out.lt); have RB_1 := Lib.hid (RB_0.out.below hb RB_0.out.lt); obtain ⟨x0c1_0, x0c1_1, x0c1_2⟩ := X0_1.out.three; obtain ⟨x1c1_0, x1c1_1, x1c1_2⟩ := X1_1.out.three; obtain ⟨x2c1_0, x2c1_1, x2c1_2⟩ := X2_1.out.three; obtain ⟨rbc1_0, rbc1_1, rbc1_2⟩ := RB_1.out.three; have rf1_0 := RB_1.out.frozen 0; have rf1_1 := RB_1.out.frozen 1; have rf1_2 := RB_1.out.frozen 2; clear hs hb)
      | (go_at_call 32; (with_reducible refine (bddOk_any V1 R1 A1 cap1 ns1 _ (by exact HA1.out.below HB1.out) hn1).mono ?_); rintro e w2 ⟨hs, hb⟩; obtain rfl := hs.f HOK1.out; have HB2 : Hid (Below w.heap.size w w2) := HB1.out.trans (hb.mono HB1.out.size); have X0_2 := Lib.hid (X0_1.out.below hb X0_1.out.lt); have X1_2 := Lib.hid (X1_1.out.below hb X1_1.out.lt); have X2_2 := Lib.hid (X2_1.out.below hb X2_1.out.lt); have RB_2 := Lib.hid (RB_1.out.below hb RB_1.out.lt); obtain ⟨x0c2_0, x0c2_1, x0c2_2⟩ := X0_2.out.three; obtain ⟨x1c2_0, x1c2_1, x1c2_2⟩ := X1_2.out.three; obtain ⟨x2c2_0, x2c2_1, x2c2_2⟩ := X2_2.out.three; obtain ⟨rbc2_0, rbc2_1, rbc2_2⟩ := RB_2.out.three; have rf2_0 := RB_2.out.frozen 0; have rf2_1 := RB_2.out.frozen 1; have rf2_2 := RB_2.out.frozen 2; clear x0c1_0 x0c1_1 x0c1_2 x1c1_0 x1c1_1 x1c1_2 x2c1_0 x2c1_1 x2c1_2 rbc1_0 rbc1_1 rbc1_2; clear rf1_0 rf1_1 rf1_2; clear hs hb))
    obtain ⟨u0, u1, u2⟩ := (RB_2.out.put3 (.int .i64 0) (.slice none 0 0) (.int .i64 0)).three
    refine bodyPost_ret (v := .tuple #[.agg zB, .bool false]) (by simp [results, Try.results33, go_sem, u0, u1, u2]) rfl ⟨Mkd.none (fun h => HOK1.out h.2.1), below_put3 HB2.out (by omega) _ _ _⟩
  have HOK1 := Lib.hid hok1
  clear hok1
  by_cases hok2 : OkI V2 ns2 R2
  case neg =>
    have HOK2 := Lib.hid hok2
    clear hok2
    go_enter Try.func33, Try.ntmps33
    go_wp2_with (first
      | (go_at_call 32; (with_reducible refine (bddOk_any V0 R0 A0 cap0 ns0 _ (by exact HA0.out.below HB0.out) hn0).mono ?_); rintro e w1 ⟨hs, hb⟩; obtain rfl := hs.t HOK0.out; have HB1 : Hid (Below w.heap.size w w1) := HB0.out.trans (hb.mono HB0.out.size); have X0_1 := Lib.hid (X0_0.out.below hb X0_0.out.lt); have X1_1 := Lib.hid (X1_0.out.below hb X1_0.out.lt); have X2_1 := Lib.hid (X2_0.out.below hb X2_0.out.lt); have RB_1 := Lib.hid (RB_0.out.below hb RB_0.out.lt); obtain ⟨x0c1_0, x0c1_1, x0c1_2⟩ := X0_1.out.three; obtain ⟨x1c1_0, x1c1_1, x1c1_2⟩ := X1_1.out.three; obtain ⟨x2c1_0, x2c1_1, x2c1_2⟩ := X2_1.out.three; obtain ⟨rbc1_0, rbc1_1, rbc1_2⟩ := RB_1.out.three; have rf1_0 := RB_1.out.frozen 0; have rf1_1 := RB_1.out.frozen 1; have rf1_2 := RB_1.out.frozen 2; clear hs hb)
      | (go_at_call 32; (with_reducible refine (bddOk_any V1 R1 A1 cap1 ns1 _ (by exact HA1.out.below HB1.out) hn1).mono ?_); rintro e w2 ⟨hs, hb⟩; obtain rfl := hs.t HOK1.out; have HB2 : Hid (Below w.heap.size w w2) := HB1.out.trans (hb.mono HB1.out.size); have X0_2 := Lib.hid (X0_1.out.below hb X0_1.out.lt); have X1_2 := Lib.hid (X1_1.out.below hb X1_1.out.lt); have X2_2 := Lib.hid (X2_1.out.below hb X2_1.out.lt); have RB_2 := Lib.hid (RB_1.out.below hb RB_1.out.lt); obtain ⟨x0c2_0, x0c2_1, x0c2_2⟩ := X0_2.out.three; obtain ⟨x1c2_0, x1c2_1, x1c2_2⟩ := X1_2.out.three; obtain ⟨x2c2_0, x2c2_1, x2c2_2⟩ := X2_2.out.three; obtain ⟨rbc2_0, rbc2_1, rbc2_2⟩ := RB_2.out.three; have rf2_0 := RB_2.out.frozen 0; have rf2_1 := RB_2.out.frozen 1; have rf2_2 := RB_2.out.frozen 2; clear x0c1_0 x0c1_1 x0c1_2 x1c1_0 x1c1_1 x1c1_2 x2c1_0 x2c1_1 x2c1_2 rbc1_0 rbc1_1 rbc1_2; clear rf1_0 rf1_1 rf1_2; clear hs hb)
      | (go_at_call 32; (with_reducible refine (bddOk_any V2 R2 A2 cap2 ns2 _ (by exact HA2.out.below HB2.out) hn2).mono ?_); rintro e w3 ⟨hs, hb⟩; obtain rfl := hs.f HOK2.out; have HB3 : Hid (Below w.heap.size w w3) := HB2.out.trans (hb.mono HB2.out.size); have X0_3 := Lib.hid (X0_2.out.below hb X0_2.out.lt); have X1_3 := Lib.hid (X1_2.out.below hb X1_2.out.lt); have X2_3 := Lib.hid (X2_2.out.below hb X2_2.out.lt); have RB_3 := Lib.hid (RB_2.out.below hb RB_2.out.lt); obtain ⟨x0c3_0, x0c3_1, x0c3_2⟩ := X0_3.out.three; obtain ⟨x1c3_0, x1c3_1, x1c3_2⟩ := X1_3.out.three; obtain ⟨x2c3_0, x2c3_1, x2c3_2⟩ := X2_3.out.three; obtain ⟨rbc3_0, rbc3_1, rbc3_2⟩ := RB_3.out.three; have rf3_0 := RB_3.out.frozen 0; have rf3_1 := RB_3.out.frozen 1; have rf3_2 := RB_3.out.frozen 2; clear x0c2_0 x0c2_1 x0c2_2 x1c2_0 x1c2_1 x1c2_2 x2c2_0 x2c2_1 x2c2_2 rbc2_0 rbc2_1 rbc2_2; clear rf2_0 rf2_1 rf2_2; clear hs hb))
    obtain ⟨u0, u1, u2⟩ := (RB_3.out.put3 (.int .i64 0) (.slice none 0 0) (.int .i64 0)).three
    refine bodyPost_ret (v := .tuple #[.agg zB, .bool false]) (by simp [results, Try.results33, go_sem, u0, u1, u2]) rfl ⟨Mkd.none (fun h => HOK2.out h.2.2.1), below_put3 HB3.out (by omega) _ _ _⟩
  have HOK2 := Lib.hid hok2
  clear hok2
  by_cases hv1 : V1 = V0
  case neg =>
    have hd1 : (V1 != V0) = true := by simpa using hv1
    have HV := Lib.hid hv1
    clear hv1
    go_enter Try.func33, Try.ntmps33
    go_wp2_with (first
      | (go_at_call 32; (with_reducible refine (bddOk_any V0 R0 A0 cap0 ns0 _ (by exact HA0.out.below HB0.out) hn0).mono ?_); rintro e w1 ⟨hs, hb⟩; obtain rfl := hs.t HOK0.out; have HB1 : Hid (Below w.heap.size w w1) := HB0.out.trans (hb.mono HB0.out.size); have X0_1 := Lib.hid (X0_0.out.below hb X0_0.out.lt); have X1_1 := Lib.hid (X1_0.out.below hb X1_0.out.lt); have X2_1 := Lib.hid (X2_0.out.below hb X2_0.out.lt); have RB_1 := Lib.hid (RB_0.out.below hb RB_0.out.lt); obtain ⟨x0c1_0, x0c1_1, x0c1_2⟩ := X0_1.out.three; obtain ⟨x1c1_0, x1c1_1, x1c1_2⟩ := X1_1.out.three; obtain ⟨x2c1_0, x2c1_1, x2c1_2⟩ := X2_1.out.three; obtain ⟨rbc1_0, rbc1_1, rbc1_2⟩ := RB_1.out.three; have rf1_0 := RB_1.out.frozen 0; have rf1_1 := RB_1.out.frozen 1; have rf1_2 := RB_1.out.frozen 2; clear hs hb)
      | (go_at_call 32; (with_reducible refine (bddOk_any V1 R1 A1 cap1 ns1 _ (by exact HA1.out.below HB1.out) hn1).mono ?_); rintro e w2 ⟨hs, hb⟩; obtain rfl := hs.t HOK1.out; have HB2 : Hid (Below w.heap.size w w2) := HB1.out.trans (hb.mono HB1.out.size); have X0_2 := Lib.hid (X0_1.out.below hb X0_1.out.lt); have X1_2 := Lib.hid (X1_1.out.below hb X1_1.out.lt); have X2_2 := Lib.hid (X2_1.out.below hb X2_1.out.lt); have RB_2 := Lib.hid (RB_1.out.below hb RB_1.out.lt); obtain ⟨x0c2_0, x0c2_1, x0c2_2⟩ := X0_2.out.three; obtain ⟨x1c2_0, x1c2_1, x1c2_2⟩ := X1_2.out.three; obtain ⟨x2c2_0, x2c2_1, x2c2_2⟩ := X2_2.out.three; obtain ⟨rbc2_0, rbc2_1, rbc2_2⟩ := RB_2.out.three; have rf2_0 := RB_2.out.frozen 0; have rf2_1 := RB_2.out.frozen 1; have rf2_2 := RB_2.out.frozen 2; clear x0c1_0 x0c1_1 x0c1_2 x1c1_0 x1c1_1 x1c1_2 x2c1_0 x2c1_1 x2c1_2 rbc1_0 rbc1_1 rbc1_2; clear rf1_0 rf1_1 rf1_2; clear hs hb)
      | (go_at_call 32; (with_reducible refine (bddOk_any V2 R2 A2 cap2 ns2 _ (by exact HA2.out.below HB2.out) hn2).mono ?_); rintro e w3 ⟨hs, hb⟩; obtain rfl := hs.t HOK2.out; have HB3 : Hid (Below w.heap.size w w3) := HB2.out.trans (hb.mono HB2.out.size); have X0_3 := Lib.hid (X0_2.out.below hb X0_2.out.lt); have X1_3 := Lib.hid (X1_2.out.below hb X1_2.out.lt); have X2_3 := Lib.hid (X2_2.out.below hb X2_2.out.lt); have RB_3 := Lib.hid (RB_2.out.below hb RB_2.out.lt); obtain ⟨x0c3_0, x0c3_1, x0c3_2⟩ := X0_3.out.three; obtain ⟨x1c3_0, x1c3_1, x1c3_2⟩ := X1_3.out.three; obtain ⟨x2c3_0, x2c3_1, x2c3_2⟩ := X2_3.out.three; obtain ⟨rbc3_0, rbc3_1, rbc3_2⟩ := RB_3.out.three; have rf3_0 := RB_3.out.frozen 0; have rf3_1 := RB_3.out.frozen 1; have rf3_2 := RB_3.out.frozen 2; clear x0c2_0 x0c2_1 x0c2_2 x1c2_0 x1c2_1 x1c2_2 x2c2_0 x2c2_1 x2c2_2 rbc2_0 rbc2_1 rbc2_2; clear rf2_0 rf2_1 rf2_2; clear hs hb))
    obtain ⟨u0, u1, u2⟩ := (RB_3.out.put3 (.int .i64 0) (.slice none 0 0) (.int .i64 0)).three
    refine bodyPost_ret (v := .tuple #[.agg zB, .bool false]) (by simp [results, Try.results33, go_sem, u0, u1, u2]) rfl ⟨Mkd.none (fun h => HV.out h.2.2.2.1), below_put3 HB3.out (by omega) _ _ _⟩
  have hd1 : (V1 != V0) = false := by simp [hv1]
  have HV1 := Lib.hid hv1
  clear hv1
  by_cases hv2 : V2 = V0
  case neg =>
    have hd2 : (V2 != V0) = true := by simpa using hv2
    have HV := Lib.hid hv2
    clear hv2
    go_enter Try.func33, Try.ntmps33
    go_wp2_with (first
      | (go_at_call 32; (with_reducible refine (bddOk_any V0 R0 A0 cap0 ns0 _ (by exact HA0.out.below HB0.out) hn0).mono ?_); rintro e w1 ⟨hs, hb⟩; obtain rfl := hs.t HOK0.out; have HB1 : Hid (Below w.heap.size w w1) := HB0.out.trans (hb.mono HB0.out.size); have X0_1 := Lib.hid (X0_0.out.below hb X0_0.out.lt); have X1_1 := Lib.hid (X1_0.out.below hb X1_0.out.lt); have X2_1 := Lib.hid (X2_0.out.below hb X2_0.out.lt); have RB_1 := Lib.hid (RB_0.out.below hb RB_0.out.lt); obtain ⟨x0c1_0, x0c1_1, x0c1_2⟩ := X0_1.out.three; obtain ⟨x1c1_0, x1c1_1, x1c1_2⟩ := X1_1.out.three; obtain ⟨x2c1_0, x2c1_1, x2c1_2⟩ := X2_1.out.three; obtain ⟨rbc1_0, rbc1_1, rbc1_2⟩ := RB_1.out.three; have rf1_0 := RB_1.out.frozen 0; have rf1_1 := RB_1.out.frozen 1; have rf1_2 := RB_1.out.frozen 2; clear hs hb)
      | (go_at_call 32; (with_reducible refine (bddOk_any V1 R1 A1 cap1 ns1 _ (by exact HA1.out.below HB1.out) hn1).mono ?_); rintro e w2 ⟨hs, hb⟩; obtain rfl := hs.t HOK1.out; have HB2 : Hid (Below w.heap.size w w2) := HB1.out.trans (hb.mono HB1.out.size); have X0_2 := Lib.hid (X0_1.out.below hb X0_1.out.lt); have X1_2 := Lib.hid (X1_1.out.below hb X1_1.out.lt); have X2_2 := Lib.hid (X2_1.out.below hb X2_1.out.lt); have RB_2 := Lib.hid (RB_1.out.below hb RB_1.out.lt); obtain ⟨x0c2_0, x0c2_1, x0c2_2⟩ := X0_2.out.three; obtain ⟨x1c2_0, x1c2_1, x1c2_2⟩ := X1_2.out.three; obtain ⟨x2c2_0, x2c2_1, x2c2_2⟩ := X2_2.out.three; obtain ⟨rbc2_0, rbc2_1, rbc2_2⟩ := RB_2.out.three; have rf2_0 := RB_2.out.frozen 0; have rf2_1 := RB_2.out.frozen 1; have rf2_2 := RB_2.out.frozen 2; clear x0c1_0 x0c1_1 x0c1_2 x1c1_0 x1c1_1 x1c1_2 x2c1_0 x2c1_1 x2c1_2 rbc1_0 rbc1_1 rbc1_2; clear rf1_0 rf1_1 rf1_2; clear hs hb)
      | (go_at_call 32; (with_reducible refine (bddOk_any V2 R2 A2 cap2 ns2 _ (by exact HA2.out.below HB2.out) hn2).mono ?_); rintro e w3 ⟨hs, hb⟩; obtain rfl := hs.t HOK2.out; have HB3 : Hid (Below w.heap.size w w3) := HB2.out.trans (hb.mono HB2.out.size); have X0_3 := Lib.hid (X0_2.out.below hb X0_2.out.lt); have X1_3 := Lib.hid (X1_2.out.below hb X1_2.out.lt); have X2_3 := Lib.hid (X2_2.out.below hb X2_2.out.lt); have RB_3 := Lib.hid (RB_2.out.below hb RB_2.out.lt); obtain ⟨x0c3_0, x0c3_1, x0c3_2⟩ := X0_3.out.three; obtain ⟨x1c3_0, x1c3_1, x1c3_2⟩ := X1_3.out.three; obtain ⟨x2c3_0, x2c3_1, x2c3_2⟩ := X2_3.out.three; obtain ⟨rbc3_0, rbc3_1, rbc3_2⟩ := RB_3.out.three; have rf3_0 := RB_3.out.frozen 0; have rf3_1 := RB_3.out.frozen 1; have rf3_2 := RB_3.out.frozen 2; clear x0c2_0 x0c2_1 x0c2_2 x1c2_0 x1c2_1 x1c2_2 x2c2_0 x2c2_1 x2c2_2 rbc2_0 rbc2_1 rbc2_2; clear rf2_0 rf2_1 rf2_2; clear hs hb))
    obtain ⟨u0, u1, u2⟩ := (RB_3.out.put3 (.int .i64 0) (.slice none 0 0) (.int .i64 0)).three
    refine bodyPost_ret (v := .tuple #[.agg zB, .bool false]) (by simp [results, Try.results33, go_sem, u0, u1, u2]) rfl ⟨Mkd.none (fun h => HV.out h.2.2.2.2), below_put3 HB3.out (by omega) _ _ _⟩
  have hd2 : (V2 != V0) = false := by simp [hv2]
  have HV2 := Lib.hid hv2
  clear hv2
  obtain ⟨k, hVk, hk, hf0, hR0⟩ := OkI.nat HOK0.out
  have hf1 : Fm k ns1 := by have h := HOK1.out.1.fm; rw [HV1.out, hVk] at h; simpa using h
  have hf2 : Fm k ns2 := by have h := HOK2.out.1.fm; rw [HV2.out, hVk] at h; simpa using h
  have HVk := Lib.hid hVk
  have HF0 := Lib.hid hf0
  have HF1 := Lib.hid hf1
  have HF2 := Lib.hid hf2
  have HR0 := Lib.hid hR0
  clear hVk hf0 hf1 hf2 hR0
  have hmf : ∀ (fn : Fn) (first cap : Array Value) (w : World), (Instr.makeFunc fn first cap).run Try.prog w = .ok (.func fn first cap) w := fun _ _ _ _ => rfl
  go_enter Try.func33, Try.ntmps33
  go_wp2_with (first
    | (go_at_call 32; (with_reducible refine (bddOk_any V0 R0 A0 cap0 ns0 _ (by exact HA0.out.below HB0.out) hn0).mono ?_); rintro e w1 ⟨hs, hb⟩; obtain rfl := hs.t HOK0.out; have HB1 : Hid (Below w.heap.size w w1) := HB0.out.trans (hb.mono HB0.out.size); have X0_1 := Lib.hid (X0_0.out.below hb X0_0.out.lt); have X1_1 := Lib.hid (X1_0.out.below hb X1_0.out.lt); have X2_1 := Lib.hid (X2_0.out.below hb X2_0.out.lt); have RB_1 := Lib.hid (RB_0.out.below hb RB_0.out.lt); obtain ⟨x0c1_0, x0c1_1, x0c1_2⟩ := X0_1.out.three; obtain ⟨x1c1_0, x1c1_1, x1c1_2⟩ := X1_1.out.three; obtain ⟨x2c1_0, x2c1_1, x2c1_2⟩ := X2_1.out.three; obtain ⟨rbc1_0, rbc1_1, rbc1_2⟩ := RB_1.out.three; have rf1_0 := RB_1.out.frozen 0; have rf1_1 := RB_1.out.frozen 1; have rf1_2 := RB_1.out.frozen 2; clear hs hb)
    | (go_at_call 32; (with_reducible refine (bddOk_any V1 R1 A1 cap1 ns1 _ (by exact HA1.out.below HB1.out) hn1).mono ?_); rintro e w2 ⟨hs, hb⟩; obtain rfl := hs.t HOK1.out; have HB2 : Hid (Below w.heap.size w w2) := HB1.out.trans (hb.mono HB1.out.size); have X0_2 := Lib.hid (X0_1.out.below hb X0_1.out.lt); have X1_2 := Lib.hid (X1_1.out.below hb X1_1.out.lt); have X2_2 := Lib.hid (X2_1.out.below hb X2_1.out.lt); have RB_2 := Lib.hid (RB_1.out.below hb RB_1.out.lt); obtain ⟨x0c2_0, x0c2_1, x0c2_2⟩ := X0_2.out.three; obtain ⟨x1c2_0, x1c2_1, x1c2_2⟩ := X1_2.out.three; obtain ⟨x2c2_0, x2c2_1, x2c2_2⟩ := X2_2.out.three; obtain ⟨rbc2_0, rbc2_1, rbc2_2⟩ := RB_2.out.three; have rf2_0 := RB_2.out.frozen 0; have rf2_1 := RB_2.out.frozen 1; have rf2_2 := RB_2.out.frozen 2; clear x0c1_0 x0c1_1 x0c1_2 x1c1_0 x1c1_1 x1c1_2 x2c1_0 x2c1_1 x2c1_2 rbc1_0 rbc1_1 rbc1_2; clear rf1_0 rf1_1 rf1_2; clear hs hb)
    | (go_at_call 32; (with_reducible refine (bddOk_any V2 R2 A2 cap2 ns2 _ (by exact HA2.out.below HB2.out) hn2).mono ?_); rintro e w3 ⟨hs, hb⟩; obtain rfl := hs.t HOK2.out; have HB3 : Hid (Below w.heap.size w w3) := HB2.out.trans (hb.mono HB2.out.size); have X0_3 := Lib.hid (X0_2.out.below hb X0_2.out.lt); have X1_3 := Lib.hid (X1_2.out.below hb X1_2.out.lt); have X2_3 := Lib.hid (X2_2.out.below hb X2_2.out.lt); have RB_3 := Lib.hid (RB_2.out.below hb RB_2.out.lt); obtain ⟨x0c3_0, x0c3_1, x0c3_2⟩ := X0_3.out.three; obtain ⟨x1c3_0, x1c3_1, x1c3_2⟩ := X1_3.out.three; obtain ⟨x2c3_0, x2c3_1, x2c3_2⟩ := X2_3.out.three; obtain ⟨rbc3_0, rbc3_1, rbc3_2⟩ := RB_3.out.three; have rf3_0 := RB_3.out.frozen 0; have rf3_1 := RB_3.out.frozen 1; have rf3_2 := RB_3.out.frozen 2; clear x0c2_0 x0c2_1 x0c2_2 x1c2_0 x1c2_1 x1c2_2 x2c2_0 x2c2_1 x2c2_2 rbc2_0 rbc2_1 rbc2_2; clear rf2_0 rf2_1 rf2_2; clear hs hb)
    | (go_at_call 74; (with_reducible refine (told_any V0 89 _ _ (ifF ns0 R0 ns1 R1 ns2 R2) _ if1_enters (by exact fun h0 h1 W c hb hc => cap3 (if1_any w.heap.size (w.heap.size + 1) (w.heap.size + 1 + 1) k V0 V1 V2 R0 R1 R2 A0 A1 A2 cap0 cap1 cap2 ns0 ns1 ns2 c W (X0_3.out.below hb X0_3.out.lt) (X1_3.out.below hb X1_3.out.lt) (X2_3.out.below hb X2_3.out.lt) (HA0.out.below (HB3.out.trans (hb.mono HB3.out.size))) (HA1.out.below (HB3.out.trans (hb.mono HB3.out.size))) (HA2.out.below (HB3.out.trans (hb.mono HB3.out.size))) HF0.out HF1.out HF2.out hk HR0.out (OkI.form HOK1.out).root (OkI.form HOK2.out).root (lt_of_pow hc h1) hn0 hn1 hn2))).mono ?_); rintro e w4 ⟨hm, hb⟩; obtain ⟨V', R', ms, bb, A', c', hmv, rfl, ho, hml⟩ := hm.is; have HB4 : Hid (Below w.heap.size w w4) := HB3.out.trans (hb.mono HB3.out.size); have X0_4 := Lib.hid (X0_3.out.below hb X0_3.out.lt); have X1_4 := Lib.hid (X1_3.out.below hb X1_3.out.lt); have X2_4 := Lib.hid (X2_3.out.below hb X2_3.out.lt); have RB_4 := Lib.hid (RB_3.out.below hb RB_3.out.lt); obtain ⟨rx0, rx1, rx2⟩ := RB_4.out.three; have rf4_0 := RB_4.out.frozen 0; have rf4_1 := RB_4.out.frozen 1; have rf4_2 := RB_4.out.frozen 2; clear hm hb))
  obtain ⟨u0, u1, u2⟩ := (RB_4.out.put3 (.int .i64 V') (.slice A' ms.length c') (.int .i64 R')).three
  refine bodyPost_ret (v := .tuple #[.agg #[.int .i64 V', .slice A' ms.length c', .int .i64 R'], .bool bb]) (by simp [results, Try.results33, go_sem, u0, u1, u2]) rfl ⟨⟨V', R', ms, bb, A', c', hmv.out.conv ⟨fun _ => ⟨HOK0.out, HOK1.out, HOK2.out, HV1.out, HV2.out⟩, fun _ => ⟨HOK0.out.1.v0, HOK0.out.1.v1⟩⟩ (fun _ => rfl), rfl, own_put3 (own_mono ho.out HB3.out.size) (own_ne_blk ho.out RB_4.out (by decide)) _ _ _⟩, below_put3 HB4.out (by omega) _ _ _⟩


set_option maxRecDepth 100000 in
set_option maxHeartbeats 800000 in
theorem pair1_any (g0 g1 g2 k fn : Nat) (op : Bool → Bool → Bool) (V1 V2 R1 R2 : Int) (A1 A2 : Option Addr) (cap1 cap2 : Nat) (ns1 ns2 : List Nd) (c : Nat) (W : World) (hb0 : Blk W g0 99 #[.func (.func fn) #[] #[]]) (hb1 : Blk W g1 28 (dB V1 R1 A1 ns1.length cap1)) (hb2 : Blk W g2 28 (dB V2 R2 A2 ns2.length cap2))
    (he : Enters Try.prog fn) (hop : ∀ (x y : Bool) (W : World), Calls Try.prog fn #[.bool x, .bool y] W fun e W' => e = .returned (.bool (op x y)) ∧ W = W')
    (hA1 : NAt W A1 ns1) (hA2 : NAt W A2 ns2) (hf1 : Fm k ns1) (hf2 : Fm k ns2) (hk : k ≤ 13) (hR1 : isP ns1 R1) (hR2 : isP ns2 R2) (hcc : c < 9223372036854775808) (hn1 : ns1.length ≤ 1048576) (hn2 : ns2.length ≤ 1048576) :
    Calls Try.prog 129 #[.int .i64 (c : Int), .pointer (some ⟨g0, 0, none⟩), .pointer (some ⟨g1, 0, none⟩), .pointer (some ⟨g2, 0, none⟩)] W fun e W' => e = .returned (.bool (op (has ns1 R1 c) (has ns2 R2 c))) ∧ Below W.heap.size W W' := by
  have K0 := fun x : Ext W => ext_cell hb0.one (by have h := hb0.lt; exact h) x
  have K1 := fun x : Ext W => ext_cell hb1.three.1 (by have h := hb1.lt; exact h) x
  have K2 := fun x : Ext W => ext_cell hb1.three.2.1 (by have h := hb1.lt; exact h) x
  have K3 := fun x : Ext W => ext_cell hb1.three.2.2 (by have h := hb1.lt; exact h) x
  have K4 := fun x : Ext W => ext_cell hb2.three.1 (by have h := hb2.lt; exact h) x
  have K5 := fun x : Ext W => ext_cell hb2.three.2.1 (by have h := hb2.lt; exact h) x
  have K6 := fun x : Ext W => ext_cell hb2.three.2.2 (by have h := hb2.lt; exact h) x
  have he' : ∀ (args : Array Value) (w : World), (callFunc fn args).run Try.prog w = .ok (.enter fn args) w := he
  have HA1 := Lib.hid hA1
  have HA2 := Lib.hid hA2
  have HOP := Lib.hid hop
  clear hb0 hb1 hb2 hA1 hA2 he hop
  go_enter Try.func129, Try.ntmps129
  go_wp2_with fail
  refine wp_region_ext (by kernel_rfl) (by kernel_rfl) ?_
  repeat go_big_quiet_step ((first | (go_at_call 70; with_reducible (exact ext_below _ (has_any V1 R1 A1 cap1 k ns1 c _ (HA1.out.below (Subtype.property _)) hf1 hk hR1 hcc hn1))) | (go_at_call 70; with_reducible (exact ext_below _ (has_any V2 R2 A2 cap2 k ns2 c _ (HA2.out.below (Subtype.property _)) hf2 hk hR2 hcc hn2))) | (exact ext_same _ (HOP.out _ _ _))))
  refine wpQuiet_nil ?_
  intro _ hw'
  obtain ⟨x, hw''⟩ := hw'
  subst hw''
  go_wp2_with fail
  go_ret
  exact ⟨rfl, x.2⟩
theorem pair1_enters : Enters Try.prog 129 := enters_of Try.func129 (by kernel_rfl) rfl

set_option maxRecDepth 100000 in
set_option maxHeartbeats 1000000 in
theorem pair_any (V0 R0 : Int) (A0 : Option Addr) (cap0 : Nat) (ns0 : List Nd) (V1 R1 : Int) (A1 : Option Addr) (cap1 : Nat) (ns1 : List Nd) (fn : Nat) (op : Bool → Bool → Bool) (w : World) (hA0 : NAt w A0 ns0) (hn0 : ns0.length ≤ 1048576) (hA1 : NAt w A1 ns1) (hn1 : ns1.length ≤ 1048576)
    (he : Enters Try.prog fn) (hop : ∀ (x y : Bool) (W : World), Calls Try.prog fn #[.bool x, .bool y] W fun e W' => e = .returned (.bool (op x y)) ∧ W = W') :
    Calls Try.prog 82 #[.agg (dB V0 R0 A0 ns0.length cap0), .agg (dB V1 R1 A1 ns1.length cap1), .func (.func fn) #[] #[]] w fun e w' => Mkd (OkI V0 ns0 R0 ∧ OkI V1 ns1 R1 ∧ V0 = V1) V0 (mk V0.toNat 0 (fun c => op (has ns0 R0 c) (has ns1 R1 c)) []) w.heap.size w' e ∧ Below w.heap.size w w' := by
  have HA0 := Lib.hid hA0
  have HA1 := Lib.hid hA1
  clear hA0 hA1
  have HB0 : Hid (Below w.heap.size w ((((w.alloc (.cells (dB V0 R0 A0 ns0.length cap0) 28)).alloc (.cells (dB V1 R1 A1 ns1.length cap1) 28)).alloc (.cells #[.func (.func fn) #[] #[]] 99)).alloc (.cells zB 28))) := (((((Below.refl _ _).alloc (Nat.le_refl _) _).alloc (by simp) _).alloc (by simp; omega) _).alloc (by simp; omega) _)
  have X0_0 : Hid (Blk ((((w.alloc (.cells (dB V0 R0 A0 ns0.length cap0) 28)).alloc (.cells (dB V1 R1 A1 ns1.length cap1) 28)).alloc (.cells #[.func (.func fn) #[] #[]] 99)).alloc (.cells zB 28)) (w.heap.size) 28 (dB V0 R0 A0 ns0.length cap0)) := ((((Blk.new w _ _).alloc _).alloc _).alloc _)
  have X1_0 : Hid (Blk ((((w.alloc (.cells (dB V0 R0 A0 ns0.length cap0) 28)).alloc (.cells (dB V1 R1 A1 ns1.length cap1) 28)).alloc (.cells #[.func (.func fn) #[] #[]] 99)).alloc (.cells zB 28)) (w.heap.size + 1) 28 (dB V1 R1 A1 ns1.length cap1)) := (((Blk.new_at _ _ _ (g := w.heap.size + 1) (by simp)).alloc _).alloc _)
  have FB_0 : Hid (Blk ((((w.alloc (.cells (dB V0 R0 A0 ns0.length cap0) 28)).alloc (.cells (dB V1 R1 A1 ns1.length cap1) 28)).alloc (.cells #[.func (.func fn) #[] #[]] 99)).alloc (.cells zB 28)) (w.heap.size + 1 + 1) 99 #[.func (.func fn) #[] #[]]) := ((Blk.new_at _ _ _ (g := w.heap.size + 1 + 1) (by simp)).alloc _)
  have RB_0 : Hid (Blk ((((w.alloc (.cells (dB V0 R0 A0 ns0.length cap0) 28)).alloc (.cells (dB V1 R1 A1 ns1.length cap1) 28)).alloc (.cells #[.func (.func fn) #[] #[]] 99)).alloc (.cells zB 28)) (w.heap.size + 1 + 1 + 1) 28 zB) := (Blk.new_at _ _ _ (g := w.heap.size + 1 + 1 + 1) (by simp))
  have HE := Lib.hid he
  have HOP := Lib.hid hop
  clear he hop
  by_cases hok0 : OkI V0 ns0 R0
  case neg =>
    have HOK0 := Lib.hid hok0
    clear hok0
    go_enter Try.func82, Try.ntmps82
    go_wp2_with (first
      | (go_at_call 32; (with_reducible refine (bddOk_any V0 R0 A0 cap0 ns0 _ (by exact HA0.out.below HB0.out) hn0).mono ?_); rintro e w1 ⟨hs, hb⟩; obtain rfl := hs.f HOK0.out; have HB1 : Hid (Below w.heap.size w w1) := HB0.out.trans (hb.mono HB0.out.size); have X0_1 := Lib.hid (X0_0.out.below hb X0_0.out.lt); have X1_1 := Lib.hid (X1_0.out.below hb X1_0.out.lt); have FB_1 := Lib.hid (FB_0.out.below hb FB_0.out.lt); have RB_1 := Lib.hid (RB_0.out.below hb RB_0.out.lt); obtain ⟨x0c1_0, x0c1_1, x0c1_2⟩ := X0_1.out.three; obtain ⟨x1c1_0, x1c1_1, x1c1_2⟩ := X1_1.out.three; have fbc1 := FB_1.out.one; obtain ⟨rbc1_0, rbc1_1, rbc1_2⟩ := RB_1.out.three; have rf1_0 := RB_1.out.frozen 0; have rf1_1 := RB_1.out.frozen 1; have rf1_2 := RB_1.out.frozen 2; clear hs hb))
    obtain ⟨u0, u1, u2⟩ := (RB_1.out.put3 (.int .i64 0) (.slice none 0 0) (.int .i64 0)).three
    refine bodyPost_ret (v := .tuple #[.agg zB, .bool false]) (by simp [results, Try.results82, go_sem, u0, u1, u2]) rfl ⟨Mkd.none (fun h => HOK0.out h.1), below_put3 HB1.out (by omega) _ _ _⟩
  have HOK0 := Lib.hid hok0
  clear hok0
  by_cases hok1 : OkI V1 ns1 R1
  case neg =>
    have HOK1 := Lib.hid hok1
    clear hok1
    go_enter Try.func82, Try.ntmps82
    go_wp2_with (first
      | (go_at_call 32; (with_reducible refine (bddOk_any V0 R0 A0 cap0 ns0 _ (by exact HA0.out.below HB0.out) hn0).mono ?_); rintro e w1 ⟨hs, hb⟩; obtain rfl := hs.t HOK0.out; have HB1 : Hid (Below w.heap.size w w1) := HB0.out.trans (hb.mono HB0.out.size); have X0_1 := Lib.hid (X0_0.out.below hb X0_0.out.lt); have X1_1 := Lib.hid (X1_0.out.below hb X1_0.out.lt); have FB_1 := Lib.hid (FB_0.out.below hb FB_0.out.lt); have RB_1 := Lib.hid (RB_0.out.below hb RB_0.out.lt); obtain ⟨x0c1_0, x0c1_1, x0c1_2⟩ := X0_1.out.three; obtain ⟨x1c1_0, x1c1_1, x1c1_2⟩ := X1_1.out.three; have fbc1 := FB_1.out.one; obtain ⟨rbc1_0, rbc1_1, rbc1_2⟩ := RB_1.out.three; have rf1_0 := RB_1.out.frozen 0; have rf1_1 := RB_1.out.frozen 1; have rf1_2 := RB_1.out.frozen 2; clear hs hb)
      | (go_at_call 32; (with_reducible refine (bddOk_any V1 R1 A1 cap1 ns1 _ (by exact HA1.out.below HB1.out) hn1).mono ?_); rintro e w2 ⟨hs, hb⟩; obtain rfl := hs.f HOK1.out; have HB2 : Hid (Below w.heap.size w w2) := HB1.out.trans (hb.mono HB1.out.size); have X0_2 := Lib.hid (X0_1.out.below hb X0_1.out.lt); have X1_2 := Lib.hid (X1_1.out.below hb X1_1.out.lt); have FB_2 := Lib.hid (FB_1.out.below hb FB_1.out.lt); have RB_2 := Lib.hid (RB_1.out.below hb RB_1.out.lt); obtain ⟨x0c2_0, x0c2_1, x0c2_2⟩ := X0_2.out.three; obtain ⟨x1c2_0, x1c2_1, x1c2_2⟩ := X1_2.out.three; have fbc2 := FB_2.out.one; obtain ⟨rbc2_0, rbc2_1, rbc2_2⟩ := RB_2.out.three; have rf2_0 := RB_2.out.frozen 0; have rf2_1 := RB_2.out.frozen 1; have rf2_2 := RB_2.out.frozen 2; clear x0c1_0 x0c1_1 x0c1_2 x1c1_0 x1c1_1 x1c1_2 fbc1 rbc1_0 rbc1_1 rbc1_2; clear rf1_0 rf1_1 rf1_2; clear hs hb))
    obtain ⟨u0, u1, u2⟩ := (RB_2.out.put3 (.int .i64 0) (.slice none 0 0) (.int .i64 0)).three
    refine bodyPost_ret (v := .tuple #[.agg zB, .bool false]) (by simp [results, Try.results82, go_sem, u0, u1, u2]) rfl ⟨Mkd.none (fun h => HOK1.out h.2.1), below_put3 HB2.out (by omega) _ _ _⟩
  have HOK1 := Lib.hid hok1
  clear hok1
  by_cases hv0 : V0 = V1
  case neg =>
    have hd0 : (V0 != V1) = true := by simpa using hv0
    have HV := Lib.hid hv0
    clear hv0
    go_enter Try.func82, Try.ntmps82
    go_wp2_with (first
      | (go_at_call 32; (with_reducible refine (bddOk_any V0 R0 A0 cap0 ns0 _ (by exact HA0.out.below HB0.out) hn0).mono ?_); rintro e w1 ⟨hs, hb⟩; obtain rfl := hs.t HOK0.out; have HB1 : Hid (Below w.heap.size w w1) := HB0.out.trans (hb.mono HB0.out.size); have X0_1 := Lib.hid (X0_0.out.below hb X0_0.out.lt); have X1_1 := Lib.hid (X1_0.out.below hb X1_0.out.lt); have FB_1 := Lib.hid (FB_0.out.below hb FB_0.out.lt); have RB_1 := Lib.hid (RB_0.out.below hb RB_0.out.lt); obtain ⟨x0c1_0, x0c1_1, x0c1_2⟩ := X0_1.out.three; obtain ⟨x1c1_0, x1c1_1, x1c1_2⟩ := X1_1.out.three; have fbc1 := FB_1.out.one; obtain ⟨rbc1_0, rbc1_1, rbc1_2⟩ := RB_1.out.three; have rf1_0 := RB_1.out.frozen 0; have rf1_1 := RB_1.out.frozen 1; have rf1_2 := RB_1.out.frozen 2; clear hs hb)
      | (go_at_call 32; (with_reducible refine (bddOk_any V1 R1 A1 cap1 ns1 _ (by exact HA1.out.below HB1.out) hn1).mono ?_); rintro e w2 ⟨hs, hb⟩; obtain rfl := hs.t HOK1.out; have HB2 : Hid (Below w.heap.size w w2) := HB1.out.trans (hb.mono HB1.out.size); have X0_2 := Lib.hid (X0_1.out.below hb X0_1.out.lt); have X1_2 := Lib.hid (X1_1.out.below hb X1_1.out.lt); have FB_2 := Lib.hid (FB_1.out.below hb FB_1.out.lt); have RB_2 := Lib.hid (RB_1.out.below hb RB_1.out.lt); obtain ⟨x0c2_0, x0c2_1, x0c2_2⟩ := X0_2.out.three; obtain ⟨x1c2_0, x1c2_1, x1c2_2⟩ := X1_2.out.three; have fbc2 := FB_2.out.one; obtain ⟨rbc2_0, rbc2_1, rbc2_2⟩ := RB_2.out.three; have rf2_0 := RB_2.out.frozen 0; have rf2_1 := RB_2.out.frozen 1; have rf2_2 := RB_2.out.frozen 2; clear x0c1_0 x0c1_1 x0c1_2 x1c1_0 x1c1_1 x1c1_2 fbc1 rbc1_0 rbc1_1 rbc1_2; clear rf1_0 rf1_1 rf1_2; clear hs hb))
    obtain ⟨u0, u1, u2⟩ := (RB_2.out.put3 (.int .i64 0) (.slice none 0 0) (.int .i64 0)).three
    refine bodyPost_ret (v := .tuple #[.agg zB, .bool false]) (by simp [results, Try.results82, go_sem, u0, u1, u2]) rfl ⟨Mkd.none (fun h => HV.out h.2.2), below_put3 HB2.out (by omega) _ _ _⟩
  have hd0 : (V0 != V1) = false := by simp [hv0]
  have HV0 := Lib.hid hv0
  clear hv0
  obtain ⟨k, hVk, hk, hf0, hR0⟩ := OkI.nat HOK0.out
  have hf1 : Fm k ns1 := by have h := HOK1.out.1.fm; rw [← HV0.out, hVk] at h; simpa using h
  have HVk := Lib.hid hVk
  have HF0 := Lib.hid hf0
  have HF1 := Lib.hid hf1
  have HR0 := Lib.hid hR0
  clear hVk hf0 hf1 hR0
  have hmf : ∀ (fn : Fn) (first cap : Array Value) (w : World), (Instr.makeFunc fn first cap).run Try.prog w = .ok (.func fn first cap) w := fun _ _ _ _ => rfl
  go_enter Try.func82, Try.ntmps82
  go_wp2_with (first
    | (go_at_call 32; (with_reducible refine (bddOk_any V0 R0 A0 cap0 ns0 _ (by exact HA0.out.below HB0.out) hn0).mono ?_); rintro e w1 ⟨hs, hb⟩; obtain rfl := hs.t HOK0.out; have HB1 : Hid (Below w.heap.size w w1) := HB0.out.trans (hb.mono HB0.out.size); have X0_1 := Lib.hid (X0_0.out.below hb X0_0.out.lt); have X1_1 := Lib.hid (X1_0.out.below hb X1_0.out.lt); have FB_1 := Lib.hid (FB_0.out.below hb FB_0.out.lt); have RB_1 := Lib.hid (RB_0.out.below hb RB_0.out.lt); obtain ⟨x0c1_0, x0c1_1, x0c1_2⟩ := X0_1.out.three; obtain ⟨x1c1_0, x1c1_1, x1c1_2⟩ := X1_1.out.three; have fbc1 := FB_1.out.one; obtain ⟨rbc1_0, rbc1_1, rbc1_2⟩ := RB_1.out.three; have rf1_0 := RB_1.out.frozen 0; have rf1_1 := RB_1.out.frozen 1; have rf1_2 := RB_1.out.frozen 2; clear hs hb)
    | (go_at_call 32; (with_reducible refine (bddOk_any V1 R1 A1 cap1 ns1 _ (by exact HA1.out.below HB1.out) hn1).mono ?_); rintro e w2 ⟨hs, hb⟩; obtain rfl := hs.t HOK1.out; have HB2 : Hid (Below w.heap.size w w2) := HB1.out.trans (hb.mono HB1.out.size); have X0_2 := Lib.hid (X0_1.out.below hb X0_1.out.lt); have X1_2 := Lib.hid (X1_1.out.below hb X1_1.out.lt); have FB_2 := Lib.hid (FB_1.out.below hb FB_1.out.lt); have RB_2 := Lib.hid (RB_1.out.below hb RB_1.out.lt); obtain ⟨x0c2_0, x0c2_1, x0c2_2⟩ := X0_2.out.three; obtain ⟨x1c2_0, x1c2_1, x1c2_2⟩ := X1_2.out.three; have fbc2 := FB_2.out.one; obtain ⟨rbc2_0, rbc2_1, rbc2_2⟩ := RB_2.out.three; have rf2_0 := RB_2.out.frozen 0; have rf2_1 := RB_2.out.frozen 1; have rf2_2 := RB_2.out.frozen 2; clear x0c1_0 x0c1_1 x0c1_2 x1c1_0 x1c1_1 x1c1_2 fbc1 rbc1_0 rbc1_1 rbc1_2; clear rf1_0 rf1_1 rf1_2; clear hs hb)
    | (go_at_call 74; (with_reducible refine (told_any V0 129 _ _ (fun c => op (has ns0 R0 c) (has ns1 R1 c)) _ pair1_enters (by exact fun h0 h1 W c hb hc => cap3 (pair1_any (w.heap.size + 1 + 1) w.heap.size (w.heap.size + 1) k fn op V0 V1 R0 R1 A0 A1 cap0 cap1 ns0 ns1 c W (FB_2.out.below hb FB_2.out.lt) (X0_2.out.below hb X0_2.out.lt) (X1_2.out.below hb X1_2.out.lt) HE.out HOP.out (HA0.out.below (HB2.out.trans (hb.mono HB2.out.size))) (HA1.out.below (HB2.out.trans (hb.mono HB2.out.size))) HF0.out HF1.out hk HR0.out (OkI.form HOK1.out).root (lt_of_pow hc h1) hn0 hn1))).mono ?_); rintro e w3 ⟨hm, hb⟩; obtain ⟨V', R', ms, bb, A', c', hmv, rfl, ho, hml⟩ := hm.is; have HB3 : Hid (Below w.heap.size w w3) := HB2.out.trans (hb.mono HB2.out.size); have X0_3 := Lib.hid (X0_2.out.below hb X0_2.out.lt); have X1_3 := Lib.hid (X1_2.out.below hb X1_2.out.lt); have FB_3 := Lib.hid (FB_2.out.below hb FB_2.out.lt); have RB_3 := Lib.hid (RB_2.out.below hb RB_2.out.lt); obtain ⟨rx0, rx1, rx2⟩ := RB_3.out.three; have rf3_0 := RB_3.out.frozen 0; have rf3_1 := RB_3.out.frozen 1; have rf3_2 := RB_3.out.frozen 2; clear hm hb))
  obtain ⟨u0, u1, u2⟩ := (RB_3.out.put3 (.int .i64 V') (.slice A' ms.length c') (.int .i64 R')).three
  refine bodyPost_ret (v := .tuple #[.agg #[.int .i64 V', .slice A' ms.length c', .int .i64 R'], .bool bb]) (by simp [results, Try.results82, go_sem, u0, u1, u2]) rfl ⟨⟨V', R', ms, bb, A', c', hmv.out.conv ⟨fun _ => ⟨HOK0.out, HOK1.out, HV0.out⟩, fun _ => ⟨HOK0.out.1.v0, HOK0.out.1.v1⟩⟩ (fun _ => rfl), rfl, own_put3 (own_mono ho.out HB2.out.size) (own_ne_blk ho.out RB_3.out (by decide)) _ _ _⟩, below_put3 HB3.out (by omega) _ _ _⟩

theorem and1_is (x y : Bool) (w : World) : Calls Try.prog 83 #[.bool x, .bool y] w fun e w' => e = .returned (.bool (x && y)) ∧ w = w' := by
  cases x <;> cases y
  all_goals
    go_enter Try.func83, Try.ntmps83
    go_wp2
    go_ret
    exact ⟨rfl, rfl⟩
theorem and1_enters : Enters Try.prog 83 := enters_of Try.func83 (by kernel_rfl) rfl

set_option maxRecDepth 100000 in
set_option maxHeartbeats 400000 in
theorem implAnd_any (V0 R0 : Int) (A0 : Option Addr) (cap0 : Nat) (ns0 : List Nd) (V1 R1 : Int) (A1 : Option Addr) (cap1 : Nat) (ns1 : List Nd) (w : World) (hA0 : NAt w A0 ns0) (hn0 : ns0.length ≤ 1048576) (hA1 : NAt w A1 ns1) (hn1 : ns1.length ≤ 1048576) :
    Calls Try.prog 29 #[.agg (dB V0 R0 A0 ns0.length cap0), .agg (dB V1 R1 A1 ns1.length cap1)] w fun e w' => Mkd (OkI V0 ns0 R0 ∧ OkI V1 ns1 R1 ∧ V0 = V1) V0 (mk V0.toNat 0 (fun c => has ns0 R0 c && has ns1 R1 c) []) w.heap.size w' e ∧ Below w.heap.size w w' := by
  have HA0 := Lib.hid hA0
  have HA1 := Lib.hid hA1
  clear hA0 hA1
  have HB0 : Hid (Below w.heap.size w (((w.alloc (.cells (dB V0 R0 A0 ns0.length cap0) 28)).alloc (.cells (dB V1 R1 A1 ns1.length cap1) 28)).alloc (.cells zB 28))) := ((((Below.refl _ _).alloc (Nat.le_refl _) _).alloc (by simp) _).alloc (by simp; omega) _)
  have X0_0 : Hid (Blk (((w.alloc (.cells (dB V0 R0 A0 ns0.length cap0) 28)).alloc (.cells (dB V1 R1 A1 ns1.length cap1) 28)).alloc (.cells zB 28)) (w.heap.size) 28 (dB V0 R0 A0 ns0.length cap0)) := (((Blk.new w _ _).alloc _).alloc _)
  have X1_0 : Hid (Blk (((w.alloc (.cells (dB V0 R0 A0 ns0.length cap0) 28)).alloc (.cells (dB V1 R1 A1 ns1.length cap1) 28)).alloc (.cells zB 28)) (w.heap.size + 1) 28 (dB V1 R1 A1 ns1.length cap1)) := ((Blk.new_at _ _ _ (g := w.heap.size + 1) (by simp)).alloc _)
  have RB_0 : Hid (Blk (((w.alloc (.cells (dB V0 R0 A0 ns0.length cap0) 28)).alloc (.cells (dB V1 R1 A1 ns1.length cap1) 28)).alloc (.cells zB 28)) (w.heap.size + 1 + 1) 28 zB) := (Blk.new_at _ _ _ (g := w.heap.size + 1 + 1) (by simp))
  go_enter Try.func29, Try.ntmps29
  go_wp2_with (first
    | (go_at_call 82; (with_reducible refine (pair_any V0 R0 A0 cap0 ns0 V1 R1 A1 cap1 ns1 83 (fun x y => x && y) _ (by exact HA0.out.below HB0.out) hn0 (by exact HA1.out.below HB0.out) hn1 and1_enters and1_is).mono ?_); rintro e w1 ⟨hm, hb⟩; obtain ⟨V', R', ms, bb, A', c', hmv, rfl, ho, hml⟩ := hm.is; have HB1 : Hid (Below w.heap.size w w1) := HB0.out.trans (hb.mono HB0.out.size); have X0_1 := Lib.hid (X0_0.out.below hb X0_0.out.lt); have X1_1 := Lib.hid (X1_0.out.below hb X1_0.out.lt); have RB_1 := Lib.hid (RB_0.out.below hb RB_0.out.lt); obtain ⟨rx0, rx1, rx2⟩ := RB_1.out.three; have rf1_0 := RB_1.out.frozen 0; have rf1_1 := RB_1.out.frozen 1; have rf1_2 := RB_1.out.frozen 2; clear hm hb))
  obtain ⟨u0, u1, u2⟩ := (RB_1.out.put3 (.int .i64 V') (.slice A' ms.length c') (.int .i64 R')).three
  refine bodyPost_ret (v := .tuple #[.agg #[.int .i64 V', .slice A' ms.length c', .int .i64 R'], .bool bb]) (by simp [results, Try.results29, go_sem, u0, u1, u2]) rfl ⟨⟨V', R', ms, bb, A', c', hmv.out, rfl, own_put3 (own_mono ho.out HB0.out.size) (own_ne_blk ho.out RB_1.out (by decide)) _ _ _⟩, below_put3 HB1.out (by omega) _ _ _⟩

theorem or1_is (x y : Bool) (w : World) : Calls Try.prog 84 #[.bool x, .bool y] w fun e w' => e = .returned (.bool (x || y)) ∧ w = w' := by
  cases x <;> cases y
  all_goals
    go_enter Try.func84, Try.ntmps84
    go_wp2
    go_ret
    exact ⟨rfl, rfl⟩
theorem or1_enters : Enters Try.prog 84 := enters_of Try.func84 (by kernel_rfl) rfl

set_option maxRecDepth 100000 in
set_option maxHeartbeats 400000 in
theorem implOr_any (V0 R0 : Int) (A0 : Option Addr) (cap0 : Nat) (ns0 : List Nd) (V1 R1 : Int) (A1 : Option Addr) (cap1 : Nat) (ns1 : List Nd) (w : World) (hA0 : NAt w A0 ns0) (hn0 : ns0.length ≤ 1048576) (hA1 : NAt w A1 ns1) (hn1 : ns1.length ≤ 1048576) :
    Calls Try.prog 30 #[.agg (dB V0 R0 A0 ns0.length cap0), .agg (dB V1 R1 A1 ns1.length cap1)] w fun e w' => Mkd (OkI V0 ns0 R0 ∧ OkI V1 ns1 R1 ∧ V0 = V1) V0 (mk V0.toNat 0 (fun c => has ns0 R0 c || has ns1 R1 c) []) w.heap.size w' e ∧ Below w.heap.size w w' := by
  have HA0 := Lib.hid hA0
  have HA1 := Lib.hid hA1
  clear hA0 hA1
  have HB0 : Hid (Below w.heap.size w (((w.alloc (.cells (dB V0 R0 A0 ns0.length cap0) 28)).alloc (.cells (dB V1 R1 A1 ns1.length cap1) 28)).alloc (.cells zB 28))) := ((((Below.refl _ _).alloc (Nat.le_refl _) _).alloc (by simp) _).alloc (by simp; omega) _)
  have X0_0 : Hid (Blk (((w.alloc (.cells (dB V0 R0 A0 ns0.length cap0) 28)).alloc (.cells (dB V1 R1 A1 ns1.length cap1) 28)).alloc (.cells zB 28)) (w.heap.size) 28 (dB V0 R0 A0 ns0.length cap0)) := (((Blk.new w _ _).alloc _).alloc _)
  have X1_0 : Hid (Blk (((w.alloc (.cells (dB V0 R0 A0 ns0.length cap0) 28)).alloc (.cells (dB V1 R1 A1 ns1.length cap1) 28)).alloc (.cells zB 28)) (w.heap.size + 1) 28 (dB V1 R1 A1 ns1.length cap1)) := ((Blk.new_at _ _ _ (g := w.heap.size + 1) (by simp)).alloc _)
  have RB_0 : Hid (Blk (((w.alloc (.cells (dB V0 R0 A0 ns0.length cap0) 28)).alloc (.cells (dB V1 R1 A1 ns1.length cap1) 28)).alloc (.cells zB 28)) (w.heap.size + 1 + 1) 28 zB) := (Blk.new_at _ _ _ (g := w.heap.size + 1 + 1) (by simp))
  go_enter Try.func30, Try.ntmps30
  go_wp2_with (first
    | (go_at_call 82; (with_reducible refine (pair_any V0 R0 A0 cap0 ns0 V1 R1 A1 cap1 ns1 84 (fun x y => x || y) _ (by exact HA0.out.below HB0.out) hn0 (by exact HA1.out.below HB0.out) hn1 or1_enters or1_is).mono ?_); rintro e w1 ⟨hm, hb⟩; obtain ⟨V', R', ms, bb, A', c', hmv, rfl, ho, hml⟩ := hm.is; have HB1 : Hid (Below w.heap.size w w1) := HB0.out.trans (hb.mono HB0.out.size); have X0_1 := Lib.hid (X0_0.out.below hb X0_0.out.lt); have X1_1 := Lib.hid (X1_0.out.below hb X1_0.out.lt); have RB_1 := Lib.hid (RB_0.out.below hb RB_0.out.lt); obtain ⟨rx0, rx1, rx2⟩ := RB_1.out.three; have rf1_0 := RB_1.out.frozen 0; have rf1_1 := RB_1.out.frozen 1; have rf1_2 := RB_1.out.frozen 2; clear hm hb))
  obtain ⟨u0, u1, u2⟩ := (RB_1.out.put3 (.int .i64 V') (.slice A' ms.length c') (.int .i64 R')).three
  refine bodyPost_ret (v := .tuple #[.agg #[.int .i64 V', .slice A' ms.length c', .int .i64 R'], .bool bb]) (by simp [results, Try.results30, go_sem, u0, u1, u2]) rfl ⟨⟨V', R', ms, bb, A', c', hmv.out, rfl, own_put3 (own_mono ho.out HB0.out.size) (own_ne_blk ho.out RB_1.out (by decide)) _ _ _⟩, below_put3 HB1.out (by omega) _ _ _⟩

theorem xor1_is (x y : Bool) (w : World) : Calls Try.prog 85 #[.bool x, .bool y] w fun e w' => e = .returned (.bool (x != y)) ∧ w = w' := by
  cases x <;> cases y
  all_goals
    go_enter Try.func85, Try.ntmps85
    go_wp2
    go_ret
    exact ⟨rfl, rfl⟩
theorem xor1_enters : Enters Try.prog 85 := enters_of Try.func85 (by kernel_rfl) rfl

set_option maxRecDepth 100000 in
set_option maxHeartbeats 400000 in
theorem implXor_any (V0 R0 : Int) (A0 : Option Addr) (cap0 : Nat) (ns0 : List Nd) (V1 R1 : Int) (A1 : Option Addr) (cap1 : Nat) (ns1 : List Nd) (w : World) (hA0 : NAt w A0 ns0) (hn0 : ns0.length ≤ 1048576) (hA1 : NAt w A1 ns1) (hn1 : ns1.length ≤ 1048576) :
    Calls Try.prog 31 #[.agg (dB V0 R0 A0 ns0.length cap0), .agg (dB V1 R1 A1 ns1.length cap1)] w fun e w' => Mkd (OkI V0 ns0 R0 ∧ OkI V1 ns1 R1 ∧ V0 = V1) V0 (mk V0.toNat 0 (fun c => has ns0 R0 c != has ns1 R1 c) []) w.heap.size w' e ∧ Below w.heap.size w w' := by
  have HA0 := Lib.hid hA0
  have HA1 := Lib.hid hA1
  clear hA0 hA1
  have HB0 : Hid (Below w.heap.size w (((w.alloc (.cells (dB V0 R0 A0 ns0.length cap0) 28)).alloc (.cells (dB V1 R1 A1 ns1.length cap1) 28)).alloc (.cells zB 28))) := ((((Below.refl _ _).alloc (Nat.le_refl _) _).alloc (by simp) _).alloc (by simp; omega) _)
  have X0_0 : Hid (Blk (((w.alloc (.cells (dB V0 R0 A0 ns0.length cap0) 28)).alloc (.cells (dB V1 R1 A1 ns1.length cap1) 28)).alloc (.cells zB 28)) (w.heap.size) 28 (dB V0 R0 A0 ns0.length cap0)) := (((Blk.new w _ _).alloc _).alloc _)
  have X1_0 : Hid (Blk (((w.alloc (.cells (dB V0 R0 A0 ns0.length cap0) 28)).alloc (.cells (dB V1 R1 A1 ns1.length cap1) 28)).alloc (.cells zB 28)) (w.heap.size + 1) 28 (dB V1 R1 A1 ns1.length cap1)) := ((Blk.new_at _ _ _ (g := w.heap.size + 1) (by simp)).alloc _)
  have RB_0 : Hid (Blk (((w.alloc (.cells (dB V0 R0 A0 ns0.length cap0) 28)).alloc (.cells (dB V1 R1 A1 ns1.length cap1) 28)).alloc (.cells zB 28)) (w.heap.size + 1 + 1) 28 zB) := (Blk.new_at _ _ _ (g := w.heap.size + 1 + 1) (by simp))
  go_enter Try.func31, Try.ntmps31
  go_wp2_with (first
    | (go_at_call 82; (with_reducible refine (pair_any V0 R0 A0 cap0 ns0 V1 R1 A1 cap1 ns1 85 (fun x y => x != y) _ (by exact HA0.out.below HB0.out) hn0 (by exact HA1.out.below HB0.out) hn1 xor1_enters xor1_is).mono ?_); rintro e w1 ⟨hm, hb⟩; obtain ⟨V', R', ms, bb, A', c', hmv, rfl, ho, hml⟩ := hm.is; have HB1 : Hid (Below w.heap.size w w1) := HB0.out.trans (hb.mono HB0.out.size); have X0_1 := Lib.hid (X0_0.out.below hb X0_0.out.lt); have X1_1 := Lib.hid (X1_0.out.below hb X1_0.out.lt); have RB_1 := Lib.hid (RB_0.out.below hb RB_0.out.lt); obtain ⟨rx0, rx1, rx2⟩ := RB_1.out.three; have rf1_0 := RB_1.out.frozen 0; have rf1_1 := RB_1.out.frozen 1; have rf1_2 := RB_1.out.frozen 2; clear hm hb))
  obtain ⟨u0, u1, u2⟩ := (RB_1.out.put3 (.int .i64 V') (.slice A' ms.length c') (.int .i64 R')).three
  refine bodyPost_ret (v := .tuple #[.agg #[.int .i64 V', .slice A' ms.length c', .int .i64 R'], .bool bb]) (by simp [results, Try.results31, go_sem, u0, u1, u2]) rfl ⟨⟨V', R', ms, bb, A', c', hmv.out, rfl, own_put3 (own_mono ho.out HB0.out.size) (own_ne_blk ho.out RB_1.out (by decide)) _ _ _⟩, below_put3 HB1.out (by omega) _ _ _⟩

end Go.Proofs.Ytffefegjnbfobaa
