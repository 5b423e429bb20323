/- BddFix of the program, walked. -/
import Derived.Test.YtffefegjnbfobaaX2
namespace Go.Proofs.Ytffefegjnbfobaa
open Go.RowKit
open B

set_option maxRecDepth 100000 in
set_option maxHeartbeats 400000 in
theorem implFix_any (V0 R0 : Int) (A0 : Option Addr) (cap0 : Nat) (ns0 : List Nd) (x1 : Int) (b2 : Bool) (w : World) (hA0 : NAt w A0 ns0) (hn0 : ns0.length ≤ 1048576) :
    Calls Try.prog 56 #[.agg (dB V0 R0 A0 ns0.length cap0), .int .i64 x1, .bool b2] w fun e w' => Mkd (OkI V0 ns0 R0 ∧ 0 ≤ x1 ∧ x1 ≤ V0 - 1) V0 (mk V0.toNat 0 (fun c => has ns0 R0 (setb x1.toNat b2 c)) []) w.heap.size w' e ∧ Below w.heap.size w w' := by
  have HA0 := Lib.hid hA0
  clear hA0
  have HB0 : Hid (Below w.heap.size w ((((w.alloc (.cells (dB V0 R0 A0 ns0.length cap0) 28)).alloc (.cells #[.int .i64 x1] 3)).alloc (.cells #[.bool b2] 4)).alloc (.cells zB 28))) := (((((Below.refl _ _).alloc (Nat.le_refl _) _).alloc (by simp) _).alloc (by simp; omega) _).alloc (by simp; omega) _)
  have X0_0 : Hid (Blk ((((w.alloc (.cells (dB V0 R0 A0 ns0.length cap0) 28)).alloc (.cells #[.int .i64 x1] 3)).alloc (.cells #[.bool b2] 4)).alloc (.cells zB 28)) (w.heap.size) 28 (dB V0 R0 A0 ns0.length cap0)) := ((((Blk.new w _ _).alloc _).alloc _).alloc _)
  have IB_0 : Hid (Blk ((((w.alloc (.cells (dB V0 R0 A0 ns0.length cap0) 28)).alloc (.cells #[.int .i64 x1] 3)).alloc (.cells #[.bool b2] 4)).alloc (.cells zB 28)) (w.heap.size + 1) 3 #[.int .i64 x1]) := (((Blk.new_at _ _ _ (g := w.heap.size + 1) (by simp)).alloc _).alloc _)
  have YB_0 : Hid (Blk ((((w.alloc (.cells (dB V0 R0 A0 ns0.length cap0) 28)).alloc (.cells #[.int .i64 x1] 3)).alloc (.cells #[.bool b2] 4)).alloc (.cells zB 28)) (w.heap.size + 1 + 1) 4 #[.bool b2]) := ((Blk.new_at _ _ _ (g := w.heap.size + 1 + 1) (by simp)).alloc _)
  have RB_0 : Hid (Blk ((((w.alloc (.cells (dB V0 R0 A0 ns0.length cap0) 28)).alloc (.cells #[.int .i64 x1] 3)).alloc (.cells #[.bool b2] 4)).alloc (.cells zB 28)) (w.heap.size + 1 + 1 + 1) 28 zB) := (Blk.new_at _ _ _ (g := w.heap.size + 1 + 1 + 1) (by simp))
  by_cases hok0 : OkI V0 ns0 R0 ∧ 0 ≤ x1 ∧ x1 ≤ V0 - 1
  case neg =>
    have HOK0 := Lib.hid hok0
    clear hok0
    go_enter Try.func56, Try.ntmps56
    go_wp2_with (first
      | (go_at_call 100; (with_reducible refine (withBit_any V0 R0 A0 cap0 ns0 x1 _ (by exact HA0.out.below HB0.out) hn0).mono ?_); rintro e w1 ⟨hs, hb⟩; obtain rfl := hs.f HOK0.out; have HB1 : Hid (Below w.heap.size w w1) := HB0.out.trans (hb.mono HB0.out.size); have X0_1 := Lib.hid (X0_0.out.below hb X0_0.out.lt); have IB_1 := Lib.hid (IB_0.out.below hb IB_0.out.lt); have YB_1 := Lib.hid (YB_0.out.below hb YB_0.out.lt); have RB_1 := Lib.hid (RB_0.out.below hb RB_0.out.lt); obtain ⟨x0c1_0, x0c1_1, x0c1_2⟩ := X0_1.out.three; have ibc1 := IB_1.out.one; have ybc1 := YB_1.out.one; obtain ⟨rbc1_0, rbc1_1, rbc1_2⟩ := RB_1.out.three; have rf1_0 := RB_1.out.frozen 0; have rf1_1 := RB_1.out.frozen 1; have rf1_2 := RB_1.out.frozen 2; clear hs hb))
    obtain ⟨u0, u1, u2⟩ := (RB_1.out.put3 (.int .i64 0) (.slice none 0 0) (.int .i64 0)).three
    refine bodyPost_ret (v := .tuple #[.agg zB, .bool false]) (by simp [results, Try.results56, go_sem, u0, u1, u2]) rfl ⟨Mkd.none HOK0.out, below_put3 HB1.out (by omega) _ _ _⟩
  have HOK0 := Lib.hid hok0
  clear hok0
  obtain ⟨k, hVk, hk, hf, hR⟩ := OkI.nat HOK0.out.1
  have HVk := Lib.hid hVk
  have HF := Lib.hid hf
  have HR := Lib.hid hR
  clear hVk hf hR
  have hmf : ∀ (fn : Fn) (first cap : Array Value) (w : World), (Instr.makeFunc fn first cap).run Try.prog w = .ok (.func fn first cap) w := fun _ _ _ _ => rfl
  go_enter Try.func56, Try.ntmps56
  go_wp2_with (first
    | (go_at_call 100; (with_reducible refine (withBit_any V0 R0 A0 cap0 ns0 x1 _ (by exact HA0.out.below HB0.out) hn0).mono ?_); rintro e w1 ⟨hs, hb⟩; obtain rfl := hs.t HOK0.out; have HB1 : Hid (Below w.heap.size w w1) := HB0.out.trans (hb.mono HB0.out.size); have X0_1 := Lib.hid (X0_0.out.below hb X0_0.out.lt); have IB_1 := Lib.hid (IB_0.out.below hb IB_0.out.lt); have YB_1 := Lib.hid (YB_0.out.below hb YB_0.out.lt); have RB_1 := Lib.hid (RB_0.out.below hb RB_0.out.lt); obtain ⟨x0c1_0, x0c1_1, x0c1_2⟩ := X0_1.out.three; have ibc1 := IB_1.out.one; have ybc1 := YB_1.out.one; obtain ⟨rbc1_0, rbc1_1, rbc1_2⟩ := RB_1.out.three; have rf1_0 := RB_1.out.frozen 0; have rf1_1 := RB_1.out.frozen 1; have rf1_2 := RB_1.out.frozen 2; clear hs hb)
    | (go_at_call 74; (with_reducible refine (told_any V0 111 _ _ (fun c => has ns0 R0 (setb x1.toNat b2 c)) _ fix1_enters (by exact fun h0 h1 W c hb hc => cap3 (fix1_int w.heap.size (w.heap.size + 1) (w.heap.size + 1 + 1) k x1 b2 V0 R0 A0 cap0 ns0 c W (X0_1.out.below hb X0_1.out.lt) (IB_1.out.below hb IB_1.out.lt) (YB_1.out.below hb YB_1.out.lt) (HA0.out.below (HB1.out.trans (hb.mono HB1.out.size))) HF.out hk HR.out HOK0.out.2.1 (Int.le_trans HOK0.out.2.2 (by omega)) (lt_of_pow' hc h1) hn0))).mono ?_); rintro e w2 ⟨hm, hb⟩; obtain ⟨V', R', ms, bb, A', c', hmv, rfl, ho, hml⟩ := hm.is; have HB2 : Hid (Below w.heap.size w w2) := HB1.out.trans (hb.mono HB1.out.size); have X0_2 := Lib.hid (X0_1.out.below hb X0_1.out.lt); have IB_2 := Lib.hid (IB_1.out.below hb IB_1.out.lt); have YB_2 := Lib.hid (YB_1.out.below hb YB_1.out.lt); have RB_2 := Lib.hid (RB_1.out.below hb RB_1.out.lt); obtain ⟨rx0, rx1, rx2⟩ := RB_2.out.three; have rf2_0 := RB_2.out.frozen 0; have rf2_1 := RB_2.out.frozen 1; have rf2_2 := RB_2.out.frozen 2; clear hm hb))
  obtain ⟨u0, u1, u2⟩ := (RB_2.out.put3 (.int .i64 V') (.slice A' ms.length c') (.int .i64 R')).three
  refine bodyPost_ret (v := .tuple #[.agg #[.int .i64 V', .slice A' ms.length c', .int .i64 R'], .bool bb]) (by simp [results, Try.results56, go_sem, u0, u1, u2]) rfl ⟨⟨V', R', ms, bb, A', c', hmv.out.conv ⟨fun _ => HOK0.out, fun _ => ⟨HOK0.out.1.1.v0, HOK0.out.1.1.v1⟩⟩ (fun _ => rfl), rfl, own_put3 (own_mono ho.out HB1.out.size) (own_ne_blk ho.out RB_2.out (by decide)) _ _ _⟩, below_put3 HB2.out (by omega) _ _ _⟩

end Go.Proofs.Ytffefegjnbfobaa
