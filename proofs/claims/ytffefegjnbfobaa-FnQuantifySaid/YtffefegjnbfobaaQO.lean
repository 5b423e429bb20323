/- Or of the reference, walked. -/
import Derived.Test.YtffefegjnbfobaaQ4
namespace Go.Proofs.Ytffefegjnbfobaa
open Go.RowKit
open B

set_option maxRecDepth 100000 in
set_option maxHeartbeats 1000000 in
theorem specOr_any (V0 R0 : Int) (A0 : Option Addr) (cap0 : Nat) (ns0 : List Nd) (V1 R1 : Int) (A1 : Option Addr) (cap1 : Nat) (ns1 : List Nd) (w : World) (hA0 : NAt w A0 ns0) (hn0 : ns0.length ≤ 1048576) (hA1 : NAt w A1 ns1) (hn1 : ns1.length ≤ 1048576) :
    Calls Try.prog 98 #[.agg (dB V0 R0 A0 ns0.length cap0), .agg (dB V1 R1 A1 ns1.length cap1)] w fun e w' => Mkd (OkS V0 ns0 R0 ∧ OkS V1 ns1 R1 ∧ V0 = V1) V0 (mk V0.toNat 0 (fun c => has ns0 R0 c || has ns1 R1 c) []) w.heap.size w' e ∧ Below w.heap.size w w' := by
  have HA0 := Lib.hid hA0
  have HA1 := Lib.hid hA1
  clear hA0 hA1
  have HB0 : Hid (Below w.heap.size w (((w.alloc (.cells (dB V0 R0 A0 ns0.length cap0) 28)).alloc (.cells (dB V1 R1 A1 ns1.length cap1) 28)).alloc (.cells zB 28))) := ((((Below.refl _ _).alloc (Nat.le_refl _) _).alloc (by simp) _).alloc (by simp; omega) _)
  have X0_0 : Hid (Blk (((w.alloc (.cells (dB V0 R0 A0 ns0.length cap0) 28)).alloc (.cells (dB V1 R1 A1 ns1.length cap1) 28)).alloc (.cells zB 28)) (w.heap.size) 28 (dB V0 R0 A0 ns0.length cap0)) := (((Blk.new w _ _).alloc _).alloc _)
  have X1_0 : Hid (Blk (((w.alloc (.cells (dB V0 R0 A0 ns0.length cap0) 28)).alloc (.cells (dB V1 R1 A1 ns1.length cap1) 28)).alloc (.cells zB 28)) (w.heap.size + 1) 28 (dB V1 R1 A1 ns1.length cap1)) := ((Blk.new_at _ _ _ (g := w.heap.size + 1) (by simp)).alloc _)
  have RB_0 : Hid (Blk (((w.alloc (.cells (dB V0 R0 A0 ns0.length cap0) 28)).alloc (.cells (dB V1 R1 A1 ns1.length cap1) 28)).alloc (.cells zB 28)) (w.heap.size + 1 + 1) 28 zB) := (Blk.new_at _ _ _ (g := w.heap.size + 1 + 1) (by simp))
  by_cases hV : 0 ≤ V0 ∧ V0 ≤ 13
  case pos =>
    have HV := Lib.hid hV
    clear hV
    go_enter Try.func98, Try.ntmps98
    go_wp2_with (first
      | (go_at_call 90; (with_reducible refine (specConst_yes V0 true _ HV.out).mono ?_); rintro e w1 ⟨rfl, hb⟩; have HB1 : Hid (Below w.heap.size w w1) := HB0.out.trans (hb.mono HB0.out.size); have X0_1 := Lib.hid (X0_0.out.below hb X0_0.out.lt); have X1_1 := Lib.hid (X1_0.out.below hb X1_0.out.lt); have RB_1 := Lib.hid (RB_0.out.below hb RB_0.out.lt); obtain ⟨x010, x011, x012⟩ := X0_1.out.three; obtain ⟨x01a0, x01a1, x01a2⟩ := (X0_1.out.alloc (.cells #[.int .i64 V0, .slice none 0 0, .int .i64 (b2i true)] 28)).three; obtain ⟨x110, x111, x112⟩ := X1_1.out.three; obtain ⟨x11a0, x11a1, x11a2⟩ := (X1_1.out.alloc (.cells #[.int .i64 V0, .slice none 0 0, .int .i64 (b2i true)] 28)).three; clear hb)
      | (go_at_call 40; refine ((specIf_any V0 R0 A0 cap0 ns0 V0 (b2i true) none 0 [] V1 R1 A1 cap1 ns1 _ (by exact HA0.out.below (HB1.out.alloc HB1.out.size _)) hn0 (nat_nil _ _) (Nat.zero_le _) (by exact HA1.out.below (HB1.out.alloc HB1.out.size _)) hn1).mono ?_); rintro e wz ⟨hm, hb⟩; obtain ⟨V', R', ms, bb, A', c', hmv, rfl, ho, hml⟩ := hm.is; have HBz : Hid (Below w.heap.size w wz) := (HB1.out.alloc HB1.out.size _).trans (hb.mono (by have h := HB1.out.size; simp; omega)); have RB_z := Lib.hid ((RB_1.out.alloc _).below hb (by have h := RB_1.out.lt; simp; omega)); obtain ⟨rx0, rx1, rx2⟩ := RB_z.out.three; have rz0 := RB_z.out.frozen 0; have rz1 := RB_z.out.frozen 1; have rz2 := RB_z.out.frozen 2; clear hm hb))
    obtain ⟨u0, u1, u2⟩ := (RB_z.out.put3 (.int .i64 V') (.slice A' ms.length c') (.int .i64 R')).three
    refine bodyPost_ret (v := .tuple #[.agg #[.int .i64 V', .slice A' ms.length c', .int .i64 R'], .bool bb]) (by simp [results, Try.results98, go_sem, u0, u1, u2]) rfl ⟨⟨V', R', ms, bb, A', c', hmv.out.conv ⟨fun h => ⟨h.1, h.2.2.1, h.2.2.2.2.symm⟩, fun h => ⟨h.1, okS_const HV.out true, h.2.1, by simp, h.2.2.symm⟩⟩ (fun _ => mk_congr _ 0 _ _ [] fun i _ => by cases h : has ns0 R0 i <;> simp [ifF, has_b2i, h]), rfl, own_put3 (own_mono ho.out (by have h := HB1.out.size; simp; omega)) (own_ne_blk ho.out RB_z.out (by decide)) _ _ _⟩, below_put3 HBz.out (by omega) _ _ _⟩
  case neg =>
    have HV := Lib.hid hV
    clear hV
    go_enter Try.func98, Try.ntmps98
    go_wp2_with (first
      | (go_at_call 90; (with_reducible refine (specConst_no V0 true _ HV.out).mono ?_); rintro e w1 ⟨rfl, hb⟩; have HB1 : Hid (Below w.heap.size w w1) := HB0.out.trans (hb.mono HB0.out.size); have X0_1 := Lib.hid (X0_0.out.below hb X0_0.out.lt); have X1_1 := Lib.hid (X1_0.out.below hb X1_0.out.lt); have RB_1 := Lib.hid (RB_0.out.below hb RB_0.out.lt); obtain ⟨x010, x011, x012⟩ := X0_1.out.three; obtain ⟨x01a0, x01a1, x01a2⟩ := (X0_1.out.alloc (.cells zB 28)).three; obtain ⟨x110, x111, x112⟩ := X1_1.out.three; obtain ⟨x11a0, x11a1, x11a2⟩ := (X1_1.out.alloc (.cells zB 28)).three; clear hb)
      | (go_at_call 40; refine ((specIf_any V0 R0 A0 cap0 ns0 0 0 none 0 [] V1 R1 A1 cap1 ns1 _ (by exact HA0.out.below (HB1.out.alloc HB1.out.size _)) hn0 (nat_nil _ _) (Nat.zero_le _) (by exact HA1.out.below (HB1.out.alloc HB1.out.size _)) hn1).mono ?_); rintro e wz ⟨hm, hb⟩; obtain ⟨V', R', ms, bb, A', c', hmv, rfl, ho, hml⟩ := hm.is; have HBz : Hid (Below w.heap.size w wz) := (HB1.out.alloc HB1.out.size _).trans (hb.mono (by have h := HB1.out.size; simp; omega)); have RB_z := Lib.hid ((RB_1.out.alloc _).below hb (by have h := RB_1.out.lt; simp; omega)); obtain ⟨rx0, rx1, rx2⟩ := RB_z.out.three; have rz0 := RB_z.out.frozen 0; have rz1 := RB_z.out.frozen 1; have rz2 := RB_z.out.frozen 2; clear hm hb))
    obtain ⟨u0, u1, u2⟩ := (RB_z.out.put3 (.int .i64 V') (.slice A' ms.length c') (.int .i64 R')).three
    refine bodyPost_ret (v := .tuple #[.agg #[.int .i64 V', .slice A' ms.length c', .int .i64 R'], .bool bb]) (by simp [results, Try.results98, go_sem, u0, u1, u2]) rfl ⟨⟨V', R', ms, bb, A', c', hmv.out.conv ⟨fun h => (HV.out ⟨h.1.1.v0, h.1.1.v1⟩).elim, fun h => (HV.out ⟨h.1.1.v0, h.1.1.v1⟩).elim⟩ (fun h => (HV.out ⟨h.1.1.v0, h.1.1.v1⟩).elim), rfl, own_put3 (own_mono ho.out (by have h := HB1.out.size; simp; omega)) (own_ne_blk ho.out RB_z.out (by decide)) _ _ _⟩, below_put3 HBz.out (by omega) _ _ _⟩
end Go.Proofs.Ytffefegjnbfobaa
