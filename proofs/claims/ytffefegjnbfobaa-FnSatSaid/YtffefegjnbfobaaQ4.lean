/- Makers of diagrams of the reference, walked: If, Xor; Words for Not, And, Or of the reference. -/
import Derived.Test.YtffefegjnbfobaaQ3
import Derived.Test.YtffefegjnbfobaaY
import Derived.Test.YtffefegjnbfobaaS2
import Derived.Deep.RegionHeld3
namespace Go.Proofs.Ytffefegjnbfobaa
open Go.RowKit
open B

theorem infoBool : (Try.prog.info? 4).map (fun i => (i.zero, i.size, i.bytes)) = some (some (.bool false), 1, 1) := by kernel_rfl
/-- make([]bool, n) -/
theorem mk_bools (n : Nat) (hn : n ≤ 1048576) (w : World) :
    (Instr.makeSlice 85 (.int .i64 (n : Int)) (.int .i64 (n : Int))).run Try.prog w = .ok (.slice (some ⟨w.heap.size, 0, none⟩) n n) (w.alloc (.cells (madeCells #[.bool false] n) 4)) := by
  obtain ⟨i, hi, hz0, hz1, hz2⟩ := info_parts infoBool
  have := run_make_rowN (P := Try.prog) 85 4 i _ Try.underlying85 hi hz0 .i64 .i64 n n (Nat.le_refl _) (by rw [hz2]; omega) (by omega) w
  rw [hz1, Nat.mul_one] at this
  exact this

/-- A table of bools, told up to j. -/
def tabF (F : Nat → Bool) (N j : Nat) : Array Value := rowF (fun c => if c < j then .bool (F c) else .bool false) N
theorem tabF_zero (F : Nat → Bool) (N : Nat) : tabF F N 0 = madeCells #[.bool false] N := by rw [made_rowF]; exact rowF_congr fun i _ => by simp
theorem tabF_full (F : Nat → Bool) (N : Nat) : tabF F N N = rowF (fun c => .bool (F c)) N := rowF_congr fun i hi => by simp [hi]
theorem tabF_put (F : Nat → Bool) (N j : Nat) (b : Bool) (h : F j = b) : (tabF F N j).setIfInBounds j (.bool b) = tabF F N (j + 1) := by
  unfold tabF
  rw [rowF_set]
  refine rowF_congr fun i _ => ?_
  by_cases e : i = j
  · subst e; simp [h]
  · simp [e, show i < j + 1 ↔ i < j by omega]
theorem tabF_get (F : Nat → Bool) (N j : Nat) (h : j < N) : (tabF F N j)[j]? = some (.bool false) := by
  unfold tabF
  rw [rowF_get _ _ _ h]; simp

set_option maxRecDepth 100000 in
set_option maxHeartbeats 2000000 in
theorem specIf_any (V0 R0 : Int) (A0 : Option Addr) (cap0 : Nat) (ns0 : List Nd) (V1 R1 : Int) (A1 : Option Addr) (cap1 : Nat) (ns1 : List Nd) (V2 R2 : Int) (A2 : Option Addr) (cap2 : Nat) (ns2 : List Nd) (w : World) (hA0 : NAt w A0 ns0) (hn0 : ns0.length ≤ 1048576) (hA1 : NAt w A1 ns1) (hn1 : ns1.length ≤ 1048576) (hA2 : NAt w A2 ns2) (hn2 : ns2.length ≤ 1048576) :
    Calls Try.prog 40 #[.agg (dB V0 R0 A0 ns0.length cap0), .agg (dB V1 R1 A1 ns1.length cap1), .agg (dB V2 R2 A2 ns2.length cap2)] w fun e w' => Mkd (OkS V0 ns0 R0 ∧ OkS V1 ns1 R1 ∧ OkS V2 ns2 R2 ∧ V1 = V0 ∧ V2 = V0) V0 (mk V0.toNat 0 (ifF ns0 R0 ns1 R1 ns2 R2) []) w.heap.size w' e ∧ Below w.heap.size w w' := by
  have HA0 := Lib.hid hA0
  have HA1 := Lib.hid hA1
  have HA2 := Lib.hid hA2
  clear hA0 hA1 hA2
  have HB0 : Hid (Below w.heap.size w ((((w.alloc (.cells (dB V0 R0 A0 ns0.length cap0) 28)).alloc (.cells (dB V1 R1 A1 ns1.length cap1) 28)).alloc (.cells (dB V2 R2 A2 ns2.length cap2) 28)).alloc (.cells zB 28))) := (((((Below.refl _ _).alloc (Nat.le_refl _) _).alloc (by simp) _).alloc (by simp; omega) _).alloc (by simp; omega) _)
  have X0_0 : Hid (Blk ((((w.alloc (.cells (dB V0 R0 A0 ns0.length cap0) 28)).alloc (.cells (dB V1 R1 A1 ns1.length cap1) 28)).alloc (.cells (dB V2 R2 A2 ns2.length cap2) 28)).alloc (.cells zB 28)) (w.heap.size) 28 (dB V0 R0 A0 ns0.length cap0)) := ((((Blk.new w _ _).alloc _).alloc _).alloc _)
  have X1_0 : Hid (Blk ((((w.alloc (.cells (dB V0 R0 A0 ns0.length cap0) 28)).alloc (.cells (dB V1 R1 A1 ns1.length cap1) 28)).alloc (.cells (dB V2 R2 A2 ns2.length cap2) 28)).alloc (.cells zB 28)) (w.heap.size + 1) 28 (dB V1 R1 A1 ns1.length cap1)) := (((Blk.new_at _ _ _ (g := w.heap.size + 1) (by simp)).alloc _).alloc _)
  have X2_0 : Hid (Blk ((((w.alloc (.cells (dB V0 R0 A0 ns0.length cap0) 28)).alloc (.cells (dB V1 R1 A1 ns1.length cap1) 28)).alloc (.cells (dB V2 R2 A2 ns2.length cap2) 28)).alloc (.cells zB 28)) (w.heap.size + 1 + 1) 28 (dB V2 R2 A2 ns2.length cap2)) := ((Blk.new_at _ _ _ (g := w.heap.size + 1 + 1) (by simp)).alloc _)
  have RB_0 : Hid (Blk ((((w.alloc (.cells (dB V0 R0 A0 ns0.length cap0) 28)).alloc (.cells (dB V1 R1 A1 ns1.length cap1) 28)).alloc (.cells (dB V2 R2 A2 ns2.length cap2) 28)).alloc (.cells zB 28)) (w.heap.size + 1 + 1 + 1) 28 zB) := (Blk.new_at _ _ _ (g := w.heap.size + 1 + 1 + 1) (by simp))
  by_cases hok0 : OkS V0 ns0 R0
  case neg =>
    have HOK0 := Lib.hid hok0
    clear hok0
    go_enter Try.func40, Try.ntmps40
    go_wp2_with (first
      | (go_at_call 92; (with_reducible refine (specOk_any V0 R0 A0 cap0 ns0 _ (by exact HA0.out.below HB0.out) hn0).mono ?_); rintro e w1 ⟨hs, hb⟩; obtain rfl := hs.f HOK0.out; have HB1 : Hid (Below w.heap.size w w1) := HB0.out.trans (hb.mono HB0.out.size); have X0_1 := Lib.hid (X0_0.out.below hb X0_0.out.lt); have X1_1 := Lib.hid (X1_0.out.below hb X1_0.out.lt); have X2_1 := Lib.hid (X2_0.out.below hb X2_0.out.lt); have RB_1 := Lib.hid (RB_0.out.below hb RB_0.out.lt); obtain ⟨x0c1_0, x0c1_1, x0c1_2⟩ := X0_1.out.three; obtain ⟨x1c1_0, x1c1_1, x1c1_2⟩ := X1_1.out.three; obtain ⟨x2c1_0, x2c1_1, x2c1_2⟩ := X2_1.out.three; obtain ⟨rbc1_0, rbc1_1, rbc1_2⟩ := RB_1.out.three; have rf1_0 := RB_1.out.frozen 0; have rf1_1 := RB_1.out.frozen 1; have rf1_2 := RB_1.out.frozen 2; clear hs hb))
    obtain ⟨u0, u1, u2⟩ := (RB_1.out.put3 (.int .i64 0) (.slice none 0 0) (.int .i64 0)).three
    refine bodyPost_ret (v := .tuple #[.agg zB, .bool false]) (by simp [results, Try.results40, go_sem, u0, u1, u2]) rfl ⟨Mkd.none (fun h => HOK0.out h.1), below_put3 HB1.out (by omega) _ _ _⟩
  have HOK0 := Lib.hid hok0
  clear hok0
  by_cases hok1 : OkS V1 ns1 R1
  case neg =>
    have HOK1 := Lib.hid hok1
    clear hok1
    go_enter Try.func40, Try.ntmps40
    go_wp2_with (first
      | (go_at_call 92; (with_reducible refine (specOk_any V0 R0 A0 cap0 ns0 _ (by exact HA0.out.below HB0.out) hn0).mono ?_); rintro e w1 ⟨hs, hb⟩; obtain rfl := hs.t HOK0.out; have HB1 : Hid (Below w.heap.size w w1) := HB0.out.trans (hb.mono HB0.out.size); have X0_1 := Lib.hid (X0_0.out.below hb X0_0.out.lt); have X1_1 := Lib.hid (X1_0.out.below hb X1_0.out.lt); have X2_1 := Lib.hid (X2_0.out.below hb X2_0.out.lt); have RB_1 := Lib.hid (RB_0.out.below hb RB_0.out.lt); obtain ⟨x0c1_0, x0c1_1, x0c1_2⟩ := X0_1.out.three; obtain ⟨x1c1_0, x1c1_1, x1c1_2⟩ := X1_1.out.three; obtain ⟨x2c1_0, x2c1_1, x2c1_2⟩ := X2_1.out.three; obtain ⟨rbc1_0, rbc1_1, rbc1_2⟩ := RB_1.out.three; have rf1_0 := RB_1.out.frozen 0; have rf1_1 := RB_1.out.frozen 1; have rf1_2 := RB_1.out.frozen 2; clear hs hb)
      | (go_at_call 92; (with_reducible refine (specOk_any V1 R1 A1 cap1 ns1 _ (by exact HA1.out.below HB1.out) hn1).mono ?_); rintro e w2 ⟨hs, hb⟩; obtain rfl := hs.f HOK1.out; have HB2 : Hid (Below w.heap.size w w2) := HB1.out.trans (hb.mono HB1.out.size); have X0_2 := Lib.hid (X0_1.out.below hb X0_1.out.lt); have X1_2 := Lib.hid (X1_1.out.below hb X1_1.out.lt); have X2_2 := Lib.hid (X2_1.out.below hb X2_1.out.lt); have RB_2 := Lib.hid (RB_1.out.below hb RB_1.out.lt); obtain ⟨x0c2_0, x0c2_1, x0c2_2⟩ := X0_2.out.three; obtain ⟨x1c2_0, x1c2_1, x1c2_2⟩ := X1_2.out.three; obtain ⟨x2c2_0, x2c2_1, x2c2_2⟩ := X2_2.out.three; obtain ⟨rbc2_0, rbc2_1, rbc2_2⟩ := RB_2.out.three; have rf2_0 := RB_2.out.frozen 0; have rf2_1 := RB_2.out.frozen 1; have rf2_2 := RB_2.out.frozen 2; clear x0c1_0 x0c1_1 x0c1_2 x1c1_0 x1c1_1 x1c1_2 x2c1_0 x2c1_1 x2c1_2 rbc1_0 rbc1_1 rbc1_2; clear rf1_0 rf1_1 rf1_2; clear hs hb))
    obtain ⟨u0, u1, u2⟩ := (RB_2.out.put3 (.int .i64 0) (.slice none 0 0) (.int .i64 0)).three
    refine bodyPost_ret (v := .tuple #[.agg zB, .bool false]) (by simp [results, Try.results40, go_sem, u0, u1, u2]) rfl ⟨Mkd.none (fun h => HOK1.out h.2.1), below_put3 HB2.out (by omega) _ _ _⟩
  have HOK1 := Lib.hid hok1
  clear hok1
  by_cases hok2 : OkS V2 ns2 R2
  case neg =>
    have HOK2 := Lib.hid hok2
    clear hok2
    go_enter Try.func40, Try.ntmps40
    go_wp2_with (first
      | (go_at_call 92; (with_reducible refine (specOk_any V0 R0 A0 cap0 ns0 _ (by exact HA0.out.below HB0.out) hn0).mono ?_); rintro e w1 ⟨hs, hb⟩; obtain rfl := hs.t HOK0.out; have HB1 : Hid (Below w.heap.size w w1) := HB0.out.trans (hb.mono HB0.out.size); have X0_1 := Lib.hid (X0_0.out.below hb X0_0.out.lt); have X1_1 := Lib.hid (X1_0.out.below hb X1_0.out.lt); have X2_1 := Lib.hid (X2_0.out.below hb X2_0.out.lt); have RB_1 := Lib.hid (RB_0.out.below hb RB_0.out.lt); obtain ⟨x0c1_0, x0c1_1, x0c1_2⟩ := X0_1.out.three; obtain ⟨x1c1_0, x1c1_1, x1c1_2⟩ := X1_1.out.three; obtain ⟨x2c1_0, x2c1_1, x2c1_2⟩ := X2_1.out.three; obtain ⟨rbc1_0, rbc1_1, rbc1_2⟩ := RB_1.out.three; have rf1_0 := RB_1.out.frozen 0; have rf1_1 := RB_1.out.frozen 1; have rf1_2 := RB_1.out.frozen 2; clear hs hb)
      | (go_at_call 92; (with_reducible refine (specOk_any V1 R1 A1 cap1 ns1 _ (by exact HA1.out.below HB1.out) hn1).mono ?_); rintro e w2 ⟨hs, hb⟩; obtain rfl := hs.t HOK1.out; have HB2 : Hid (Below w.heap.size w w2) := HB1.out.trans (hb.mono HB1.out.size); have X0_2 := Lib.hid (X0_1.out.below hb X0_1.out.lt); have X1_2 := Lib.hid (X1_1.out.below hb X1_1.out.lt); have X2_2 := Lib.hid (X2_1.out.below hb X2_1.out.lt); have RB_2 := Lib.hid (RB_1.out.below hb RB_1.out.lt); obtain ⟨x0c2_0, x0c2_1, x0c2_2⟩ := X0_2.out.three; obtain ⟨x1c2_0, x1c2_1, x1c2_2⟩ := X1_2.out.three; obtain ⟨x2c2_0, x2c2_1, x2c2_2⟩ := X2_2.out.three; obtain ⟨rbc2_0, rbc2_1, rbc2_2⟩ := RB_2.out.three; have rf2_0 := RB_2.out.frozen 0; have rf2_1 := RB_2.out.frozen 1; have rf2_2 := RB_2.out.frozen 2; clear x0c1_0 x0c1_1 x0c1_2 x1c1_0 x1c1_1 x1c1_2 x2c1_0 x2c1_1 x2c1_2 rbc1_0 rbc1_1 rbc1_2; clear rf1_0 rf1_1 rf1_2; clear hs hb)
      | (go_at_call 92; (with_reducible refine (specOk_any V2 R2 A2 cap2 ns2 _ (by exact HA2.out.below HB2.out) hn2).mono ?_); rintro e w3 ⟨hs, hb⟩; obtain rfl := hs.f HOK2.out; have HB3 : Hid (Below w.heap.size w w3) := HB2.out.trans (hb.mono HB2.out.size); have X0_3 := Lib.hid (X0_2.out.below hb X0_2.out.lt); have X1_3 := Lib.hid (X1_2.out.below hb X1_2.out.lt); have X2_3 := Lib.hid (X2_2.out.below hb X2_2.out.lt); have RB_3 := Lib.hid (RB_2.out.below hb RB_2.out.lt); obtain ⟨x0c3_0, x0c3_1, x0c3_2⟩ := X0_3.out.three; obtain ⟨x1c3_0, x1c3_1, x1c3_2⟩ := X1_3.out.three; obtain ⟨x2c3_0, x2c3_1, x2c3_2⟩ := X2_3.out.three; obtain ⟨rbc3_0, rbc3_1, rbc3_2⟩ := RB_3.out.three; have rf3_0 := RB_3.out.frozen 0; have rf3_1 := RB_3.out.frozen 1; have rf3_2 := RB_3.out.frozen 2; clear x0c2_0 x0c2_1 x0c2_2 x1c2_0 x1c2_1 x1c2_2 x2c2_0 x2c2_1 x2c2_2 rbc2_0 rbc2_1 rbc2_2; clear rf2_0 rf2_1 rf2_2; clear hs hb))
    obtain ⟨u0, u1, u2⟩ := (RB_3.out.put3 (.int .i64 0) (.slice none 0 0) (.int .i64 0)).three
    refine bodyPost_ret (v := .tuple #[.agg zB, .bool false]) (by simp [results, Try.results40, go_sem, u0, u1, u2]) rfl ⟨Mkd.none (fun h => HOK2.out h.2.2.1), below_put3 HB3.out (by omega) _ _ _⟩
  have HOK2 := Lib.hid hok2
  clear hok2
  by_cases hv1 : V1 = V0
  case neg =>
    have hd1 : (V1 != V0) = true := by simpa using hv1
    have HV := Lib.hid hv1
    clear hv1
    go_enter Try.func40, Try.ntmps40
    go_wp2_with (first
      | (go_at_call 92; (with_reducible refine (specOk_any V0 R0 A0 cap0 ns0 _ (by exact HA0.out.below HB0.out) hn0).mono ?_); rintro e w1 ⟨hs, hb⟩; obtain rfl := hs.t HOK0.out; have HB1 : Hid (Below w.heap.size w w1) := HB0.out.trans (hb.mono HB0.out.size); have X0_1 := Lib.hid (X0_0.out.below hb X0_0.out.lt); have X1_1 := Lib.hid (X1_0.out.below hb X1_0.out.lt); have X2_1 := Lib.hid (X2_0.out.below hb X2_0.out.lt); have RB_1 := Lib.hid (RB_0.out.below hb RB_0.out.lt); obtain ⟨x0c1_0, x0c1_1, x0c1_2⟩ := X0_1.out.three; obtain ⟨x1c1_0, x1c1_1, x1c1_2⟩ := X1_1.out.three; obtain ⟨x2c1_0, x2c1_1, x2c1_2⟩ := X2_1.out.three; obtain ⟨rbc1_0, rbc1_1, rbc1_2⟩ := RB_1.out.three; have rf1_0 := RB_1.out.frozen 0; have rf1_1 := RB_1.out.frozen 1; have rf1_2 := RB_1.out.frozen 2; clear hs hb)
      | (go_at_call 92; (with_reducible refine (specOk_any V1 R1 A1 cap1 ns1 _ (by exact HA1.out.below HB1.out) hn1).mono ?_); rintro e w2 ⟨hs, hb⟩; obtain rfl := hs.t HOK1.out; have HB2 : Hid (Below w.heap.size w w2) := HB1.out.trans (hb.mono HB1.out.size); have X0_2 := Lib.hid (X0_1.out.below hb X0_1.out.lt); have X1_2 := Lib.hid (X1_1.out.below hb X1_1.out.lt); have X2_2 := Lib.hid (X2_1.out.below hb X2_1.out.lt); have RB_2 := Lib.hid (RB_1.out.below hb RB_1.out.lt); obtain ⟨x0c2_0, x0c2_1, x0c2_2⟩ := X0_2.out.three; obtain ⟨x1c2_0, x1c2_1, x1c2_2⟩ := X1_2.out.three; obtain ⟨x2c2_0, x2c2_1, x2c2_2⟩ := X2_2.out.three; obtain ⟨rbc2_0, rbc2_1, rbc2_2⟩ := RB_2.out.three; have rf2_0 := RB_2.out.frozen 0; have rf2_1 := RB_2.out.frozen 1; have rf2_2 := RB_2.out.frozen 2; clear x0c1_0 x0c1_1 x0c1_2 x1c1_0 x1c1_1 x1c1_2 x2c1_0 x2c1_1 x2c1_2 rbc1_0 rbc1_1 rbc1_2; clear rf1_0 rf1_1 rf1_2; clear hs hb)
      | (go_at_call 92; (with_reducible refine (specOk_any V2 R2 A2 cap2 ns2 _ (by exact HA2.out.below HB2.out) hn2).mono ?_); rintro e w3 ⟨hs, hb⟩; obtain rfl := hs.t HOK2.out; have HB3 : Hid (Below w.heap.size w w3) := HB2.out.trans (hb.mono HB2.out.size); have X0_3 := Lib.hid (X0_2.out.below hb X0_2.out.lt); have X1_3 := Lib.hid (X1_2.out.below hb X1_2.out.lt); have X2_3 := Lib.hid (X2_2.out.below hb X2_2.out.lt); have RB_3 := Lib.hid (RB_2.out.below hb RB_2.out.lt); obtain ⟨x0c3_0, x0c3_1, x0c3_2⟩ := X0_3.out.three; obtain ⟨x1c3_0, x1c3_1, x1c3_2⟩ := X1_3.out.three; obtain ⟨x2c3_0, x2c3_1, x2c3_2⟩ := X2_3.out.three; obtain ⟨rbc3_0, rbc3_1, rbc3_2⟩ := RB_3.out.three; have rf3_0 := RB_3.out.frozen 0; have rf3_1 := RB_3.out.frozen 1; have rf3_2 := RB_3.out.frozen 2; clear x0c2_0 x0c2_1 x0c2_2 x1c2_0 x1c2_1 x1c2_2 x2c2_0 x2c2_1 x2c2_2 rbc2_0 rbc2_1 rbc2_2; clear rf2_0 rf2_1 rf2_2; clear hs hb))
    obtain ⟨u0, u1, u2⟩ := (RB_3.out.put3 (.int .i64 0) (.slice none 0 0) (.int .i64 0)).three
    refine bodyPost_ret (v := .tuple #[.agg zB, .bool false]) (by simp [results, Try.results40, go_sem, u0, u1, u2]) rfl ⟨Mkd.none (fun h => HV.out h.2.2.2.1), below_put3 HB3.out (by omega) _ _ _⟩
  have hd1 : (V1 != V0) = false := by simp [hv1]
  have HV1 := Lib.hid hv1
  clear hv1
  by_cases hv2 : V2 = V0
  case neg =>
    have hd2 : (V2 != V0) = true := by simpa using hv2
    have HV := Lib.hid hv2
    clear hv2
    go_enter Try.func40, Try.ntmps40
    go_wp2_with (first
      | (go_at_call 92; (with_reducible refine (specOk_any V0 R0 A0 cap0 ns0 _ (by exact HA0.out.below HB0.out) hn0).mono ?_); rintro e w1 ⟨hs, hb⟩; obtain rfl := hs.t HOK0.out; have HB1 : Hid (Below w.heap.size w w1) := HB0.out.trans (hb.mono HB0.out.size); have X0_1 := Lib.hid (X0_0.out.below hb X0_0.out.lt); have X1_1 := Lib.hid (X1_0.out.below hb X1_0.out.lt); have X2_1 := Lib.hid (X2_0.out.below hb X2_0.out.lt); have RB_1 := Lib.hid (RB_0.out.below hb RB_0.out.lt); obtain ⟨x0c1_0, x0c1_1, x0c1_2⟩ := X0_1.out.three; obtain ⟨x1c1_0, x1c1_1, x1c1_2⟩ := X1_1.out.three; obtain ⟨x2c1_0, x2c1_1, x2c1_2⟩ := X2_1.out.three; obtain ⟨rbc1_0, rbc1_1, rbc1_2⟩ := RB_1.out.three; have rf1_0 := RB_1.out.frozen 0; have rf1_1 := RB_1.out.frozen 1; have rf1_2 := RB_1.out.frozen 2; clear hs hb)
      | (go_at_call 92; (with_reducible refine (specOk_any V1 R1 A1 cap1 ns1 _ (by exact HA1.out.below HB1.out) hn1).mono ?_); rintro e w2 ⟨hs, hb⟩; obtain rfl := hs.t HOK1.out; have HB2 : Hid (Below w.heap.size w w2) := HB1.out.trans (hb.mono HB1.out.size); have X0_2 := Lib.hid (X0_1.out.below hb X0_1.out.lt); have X1_2 := Lib.hid (X1_1.out.below hb X1_1.out.lt); have X2_2 := Lib.hid (X2_1.out.below hb X2_1.out.lt); have RB_2 := Lib.hid (RB_1.out.below hb RB_1.out.lt); obtain ⟨x0c2_0, x0c2_1, x0c2_2⟩ := X0_2.out.three; obtain ⟨x1c2_0, x1c2_1, x1c2_2⟩ := X1_2.out.three; obtain ⟨x2c2_0, x2c2_1, x2c2_2⟩ := X2_2.out.three; obtain ⟨rbc2_0, rbc2_1, rbc2_2⟩ := RB_2.out.three; have rf2_0 := RB_2.out.frozen 0; have rf2_1 := RB_2.out.frozen 1; have rf2_2 := RB_2.out.frozen 2; clear x0c1_0 x0c1_1 x0c1_2 x1c1_0 x1c1_1 x1c1_2 x2c1_0 x2c1_1 x2c1_2 rbc1_0 rbc1_1 rbc1_2; clear rf1_0 rf1_1 rf1_2; clear hs hb)
      | (go_at_call 92; (with_reducible refine (specOk_any V2 R2 A2 cap2 ns2 _ (by exact HA2.out.below HB2.out) hn2).mono ?_); rintro e w3 ⟨hs, hb⟩; obtain rfl := hs.t HOK2.out; have HB3 : Hid (Below w.heap.size w w3) := HB2.out.trans (hb.mono HB2.out.size); have X0_3 := Lib.hid (X0_2.out.below hb X0_2.out.lt); have X1_3 := Lib.hid (X1_2.out.below hb X1_2.out.lt); have X2_3 := Lib.hid (X2_2.out.below hb X2_2.out.lt); have RB_3 := Lib.hid (RB_2.out.below hb RB_2.out.lt); obtain ⟨x0c3_0, x0c3_1, x0c3_2⟩ := X0_3.out.three; obtain ⟨x1c3_0, x1c3_1, x1c3_2⟩ := X1_3.out.three; obtain ⟨x2c3_0, x2c3_1, x2c3_2⟩ := X2_3.out.three; obtain ⟨rbc3_0, rbc3_1, rbc3_2⟩ := RB_3.out.three; have rf3_0 := RB_3.out.frozen 0; have rf3_1 := RB_3.out.frozen 1; have rf3_2 := RB_3.out.frozen 2; clear x0c2_0 x0c2_1 x0c2_2 x1c2_0 x1c2_1 x1c2_2 x2c2_0 x2c2_1 x2c2_2 rbc2_0 rbc2_1 rbc2_2; clear rf2_0 rf2_1 rf2_2; clear hs hb))
    obtain ⟨u0, u1, u2⟩ := (RB_3.out.put3 (.int .i64 0) (.slice none 0 0) (.int .i64 0)).three
    refine bodyPost_ret (v := .tuple #[.agg zB, .bool false]) (by simp [results, Try.results40, go_sem, u0, u1, u2]) rfl ⟨Mkd.none (fun h => HV.out h.2.2.2.2), below_put3 HB3.out (by omega) _ _ _⟩
  have hd2 : (V2 != V0) = false := by simp [hv2]
  have HV2 := Lib.hid hv2
  clear hv2
  obtain ⟨k, rfl, hk, hf0, hR0⟩ := OkS.nat HOK0.out
  have hf1 : Fm k ns1 := by have h := HOK1.out.1.fm; rw [HV1.out] at h; simpa using h
  have hf2 : Fm k ns2 := by have h := HOK2.out.1.fm; rw [HV2.out] at h; simpa using h
  have HP : Hid (OkS k ns0 R0 ∧ OkS V1 ns1 R1 ∧ OkS V2 ns2 R2 ∧ V1 = k ∧ V2 = k) := ⟨HOK0.out, HOK1.out, HOK2.out, HV1.out, HV2.out⟩
  have HFm0 := Lib.hid hf0
  have HRt0 : Hid (isP ns0 R0) := HOK0.out.1.root
  have HFm1 := Lib.hid hf1
  have HRt1 : Hid (isP ns1 R1) := HOK1.out.1.root
  have HFm2 := Lib.hid hf2
  have HRt2 : Hid (isP ns2 R2) := HOK2.out.1.root
  clear hf0 hf1 hf2 hR0
  obtain ⟨N, hN⟩ : ∃ N, N = 2 ^ k := ⟨_, rfl⟩
  have hN' : N ≤ 8192 := by rw [hN]; exact Nat.pow_le_pow_right (by omega) hk
  have hNI : ((2 : Int) ^ k) = (N : Int) := by rw [hN]; simp
  have e1 : wrap64 (2 ^ k) = (N : Int) := by rw [hNI]; unfold wrap64; omega
  have HNK := Lib.hid hN
  have hmk := fun W => mk_bools N (by omega) W
  clear hN hNI
  obtain ⟨F, HF⟩ : ∃ F : Nat → Bool, Hid (F = ifF ns0 R0 ns1 R1 ns2 R2) := ⟨_, rfl⟩
  go_enter Try.func40, Try.ntmps40
  go_wp2_with (first
    | (go_at_call 92; (with_reducible refine (specOk_any k R0 A0 cap0 ns0 _ (by exact HA0.out.below HB0.out) hn0).mono ?_); rintro e w1 ⟨hs, hb⟩; obtain rfl := hs.t HOK0.out; have HB1 : Hid (Below w.heap.size w w1) := HB0.out.trans (hb.mono HB0.out.size); have X0_1 := Lib.hid (X0_0.out.below hb X0_0.out.lt); have X1_1 := Lib.hid (X1_0.out.below hb X1_0.out.lt); have X2_1 := Lib.hid (X2_0.out.below hb X2_0.out.lt); have RB_1 := Lib.hid (RB_0.out.below hb RB_0.out.lt); obtain ⟨x0c1_0, x0c1_1, x0c1_2⟩ := X0_1.out.three; obtain ⟨x1c1_0, x1c1_1, x1c1_2⟩ := X1_1.out.three; obtain ⟨x2c1_0, x2c1_1, x2c1_2⟩ := X2_1.out.three; obtain ⟨rbc1_0, rbc1_1, rbc1_2⟩ := RB_1.out.three; have rf1_0 := RB_1.out.frozen 0; have rf1_1 := RB_1.out.frozen 1; have rf1_2 := RB_1.out.frozen 2; clear hs hb)
    | (go_at_call 92; (with_reducible refine (specOk_any V1 R1 A1 cap1 ns1 _ (by exact HA1.out.below HB1.out) hn1).mono ?_); rintro e w2 ⟨hs, hb⟩; obtain rfl := hs.t HOK1.out; have HB2 : Hid (Below w.heap.size w w2) := HB1.out.trans (hb.mono HB1.out.size); have X0_2 := Lib.hid (X0_1.out.below hb X0_1.out.lt); have X1_2 := Lib.hid (X1_1.out.below hb X1_1.out.lt); have X2_2 := Lib.hid (X2_1.out.below hb X2_1.out.lt); have RB_2 := Lib.hid (RB_1.out.below hb RB_1.out.lt); obtain ⟨x0c2_0, x0c2_1, x0c2_2⟩ := X0_2.out.three; obtain ⟨x1c2_0, x1c2_1, x1c2_2⟩ := X1_2.out.three; obtain ⟨x2c2_0, x2c2_1, x2c2_2⟩ := X2_2.out.three; obtain ⟨rbc2_0, rbc2_1, rbc2_2⟩ := RB_2.out.three; have rf2_0 := RB_2.out.frozen 0; have rf2_1 := RB_2.out.frozen 1; have rf2_2 := RB_2.out.frozen 2; clear x0c1_0 x0c1_1 x0c1_2 x1c1_0 x1c1_1 x1c1_2 x2c1_0 x2c1_1 x2c1_2 rbc1_0 rbc1_1 rbc1_2; clear rf1_0 rf1_1 rf1_2; clear hs hb)
    | (go_at_call 92; (with_reducible refine (specOk_any V2 R2 A2 cap2 ns2 _ (by exact HA2.out.below HB2.out) hn2).mono ?_); rintro e w3 ⟨hs, hb⟩; obtain rfl := hs.t HOK2.out; have HB3 : Hid (Below w.heap.size w w3) := HB2.out.trans (hb.mono HB2.out.size); have X0_3 := Lib.hid (X0_2.out.below hb X0_2.out.lt); have X1_3 := Lib.hid (X1_2.out.below hb X1_2.out.lt); have X2_3 := Lib.hid (X2_2.out.below hb X2_2.out.lt); have RB_3 := Lib.hid (RB_2.out.below hb RB_2.out.lt); obtain ⟨x0c3_0, x0c3_1, x0c3_2⟩ := X0_3.out.three; obtain ⟨x1c3_0, x1c3_1, x1c3_2⟩ := X1_3.out.three; obtain ⟨x2c3_0, x2c3_1, x2c3_2⟩ := X2_3.out.three; obtain ⟨rbc3_0, rbc3_1, rbc3_2⟩ := RB_3.out.three; have rf3_0 := RB_3.out.frozen 0; have rf3_1 := RB_3.out.frozen 1; have rf3_2 := RB_3.out.frozen 2; clear x0c2_0 x0c2_1 x0c2_2 x1c2_0 x1c2_1 x1c2_2 x2c2_0 x2c2_1 x2c2_2 rbc2_0 rbc2_1 rbc2_2; clear rf2_0 rf2_1 rf2_2; clear hs hb))
  clear e1 hmk
  clear x0c3_0 x0c3_1 x0c3_2 x1c3_0 x1c3_1 x1c3_2 x2c3_0 x2c3_1 x2c3_2 rbc3_0 rbc3_1 rbc3_2
  clear rf3_0 rf3_1 rf3_2
  have HT0 : Hid (Blk (w3.alloc (.cells (madeCells #[.bool false] N) 4)) w3.heap.size 4 (tabF F N 0)) := by show Blk _ _ _ _; rw [tabF_zero]; exact Blk.new _ _ _
  have hwJ : w.heap.size + 4 ≤ w3.heap.size := by have h := RB_3.out.lt; omega
  go_loopw [9] (fun i wr => ∃ j : Nat, j ≤ N ∧ Hid (Below w.heap.size w wr) ∧ Hid (Blk wr (w.heap.size) 28 (dB k R0 A0 ns0.length cap0)) ∧ Hid (Blk wr (w.heap.size + 1) 28 (dB V1 R1 A1 ns1.length cap1)) ∧ Hid (Blk wr (w.heap.size + 1 + 1) 28 (dB V2 R2 A2 ns2.length cap2)) ∧ Hid (Blk wr (w.heap.size + 1 + 1 + 1) 28 zB) ∧ Hid (Blk wr w3.heap.size 4 (tabF F N j)) ∧ i = .int .i64 j) (fun i _ => N - (intOf i).toNat)
  case atStart => exact ⟨0, Nat.zero_le _, HB3.out.alloc HB3.out.size _, X0_3.out.alloc _, X1_3.out.alloc _, X2_3.out.alloc _, RB_3.out.alloc _, HT0.out, rfl⟩
  case round =>
    obtain ⟨j, hj, HBr, X0_r, X1_r, X2_r, RB_r, HTr, rfl⟩ := hrel
    by_cases hlt : j < N
    case neg =>
      obtain rfl : j = N := by omega
      obtain ⟨x0r0, x0r1, x0r2⟩ := X0_r.out.three
      obtain ⟨x1r0, x1r1, x1r2⟩ := X1_r.out.three
      obtain ⟨x2r0, x2r1, x2r2⟩ := X2_r.out.three
      obtain ⟨rbr0, rbr1, rbr2⟩ := RB_r.out.three
      have HTN : Hid (Blk wr w3.heap.size 4 (rowF (fun c => .bool (F c)) j)) := by show Blk _ _ _ _; rw [← tabF_full]; exact HTr.out
      go_wp2_with (first
        | (go_at_call 67; (with_reducible refine (l7Of_any _ HP.out k j w3.heap.size F HNK.out hk _ (by exact HTN.out)).mono ?_); rintro e wz ⟨hm, hb⟩; obtain ⟨V', R', ms, bb, A', c', hmv, rfl, ho, hml⟩ := hm.is; have HBz : Hid (Below w.heap.size w wz) := HBr.out.trans (hb.mono HBr.out.size); have RB_z := Lib.hid (RB_r.out.below hb RB_r.out.lt); obtain ⟨rx0, rx1, rx2⟩ := RB_z.out.three; have rz0 := RB_z.out.frozen 0; have rz1 := RB_z.out.frozen 1; have rz2 := RB_z.out.frozen 2; clear hm hb))
      obtain ⟨u0, u1, u2⟩ := (RB_z.out.put3 (.int .i64 V') (.slice A' ms.length c') (.int .i64 R')).three
      have hmv' := hmv.out
      rw [HF.out] at hmv'
      refine bodyPost_ret (v := .tuple #[.agg #[.int .i64 V', .slice A' ms.length c', .int .i64 R'], .bool bb]) (by simp [results, Try.results40, go_sem, u0, u1, u2]) rfl ⟨⟨V', R', ms, bb, A', c', by simpa using hmv', rfl, own_put3 (own_mono ho.out HBr.out.size) (own_ne_blk ho.out RB_z.out (by decide)) _ _ _⟩, below_put3 HBz.out (by omega) _ _ _⟩
    have hj0 : (0 : Int) ≤ j := by omega
    have hj1 : (j : Int) < (N : Int) := by omega
    cases h0 : has ns0 R0 j with
    | true =>
      cases h1 : has ns1 R1 j with
      | true =>
        have HFj : Hid (F j = true) := by show F j = true; rw [HF.out]; simp [ifF, h0, h1]
        obtain ⟨xr0, xr1, xr2⟩ := X0_r.out.three
        have Hh0 := Lib.hid h0
        have Hh1 := Lib.hid h1
        clear h0 h1
        go_wp2_with (first
          | (go_at_call 93; (with_reducible refine (l7Has_any k R0 A0 cap0 k ns0 j _ (by exact HA0.out.below HBr.out) HFm0.out hk HRt0.out hn0).mono ?_); rw [Hh0.out]; rintro e v0 ⟨rfl, hb⟩; have HBv0 : Hid (Below w.heap.size w v0) := HBr.out.trans (hb.mono HBr.out.size); have X0_v0 := Lib.hid (X0_r.out.below hb X0_r.out.lt); have X1_v0 := Lib.hid (X1_r.out.below hb X1_r.out.lt); have X2_v0 := Lib.hid (X2_r.out.below hb X2_r.out.lt); have RB_v0 := Lib.hid (RB_r.out.below hb RB_r.out.lt); have HTv0 := Lib.hid (HTr.out.below hb HTr.out.lt); obtain ⟨xv00, xv01, xv02⟩ := X1_v0.out.three; clear hb)
          | (go_at_call 93; (with_reducible refine (l7Has_any V1 R1 A1 cap1 k ns1 j _ (by exact HA1.out.below HBv0.out) HFm1.out hk HRt1.out hn1).mono ?_); rw [Hh1.out]; rintro e v1 ⟨rfl, hb⟩; have HBv1 : Hid (Below w.heap.size w v1) := HBv0.out.trans (hb.mono HBv0.out.size); have X0_v1 := Lib.hid (X0_v0.out.below hb X0_v0.out.lt); have X1_v1 := Lib.hid (X1_v0.out.below hb X1_v0.out.lt); have X2_v1 := Lib.hid (X2_v0.out.below hb X2_v0.out.lt); have RB_v1 := Lib.hid (RB_v0.out.below hb RB_v0.out.lt); have HTv1 := Lib.hid (HTv0.out.below hb HTv0.out.lt); have ct := (HTv1.out.cell j).trans (tabF_get F N j hlt); have cf := HTv1.out.frozen j; clear hb))
        go_roundw
        case rel =>
          refine ⟨j + 1, by omega, HBv1.out.setCell (p := ⟨w3.heap.size, j, none⟩) (by show w.heap.size ≤ w3.heap.size; omega) _, X0_v1.out.far (p := ⟨w3.heap.size, j, none⟩) (by show _ ≠ w3.heap.size; omega) _, X1_v1.out.far (p := ⟨w3.heap.size, j, none⟩) (by show _ ≠ w3.heap.size; omega) _, X2_v1.out.far (p := ⟨w3.heap.size, j, none⟩) (by show _ ≠ w3.heap.size; omega) _, RB_v1.out.far (p := ⟨w3.heap.size, j, none⟩) (by show _ ≠ w3.heap.size; omega) _, ?_, by go_num⟩
          have h3 := HTv1.out.set_ j (.bool true)
          rw [tabF_put F N j true HFj.out] at h3
          exact h3
        case measure => simp [intOf]; omega
      | false =>
        have HFj : Hid (F j = false) := by show F j = false; rw [HF.out]; simp [ifF, h0, h1]
        obtain ⟨xr0, xr1, xr2⟩ := X0_r.out.three
        have Hh0 := Lib.hid h0
        have Hh1 := Lib.hid h1
        clear h0 h1
        go_wp2_with (first
          | (go_at_call 93; (with_reducible refine (l7Has_any k R0 A0 cap0 k ns0 j _ (by exact HA0.out.below HBr.out) HFm0.out hk HRt0.out hn0).mono ?_); rw [Hh0.out]; rintro e v0 ⟨rfl, hb⟩; have HBv0 : Hid (Below w.heap.size w v0) := HBr.out.trans (hb.mono HBr.out.size); have X0_v0 := Lib.hid (X0_r.out.below hb X0_r.out.lt); have X1_v0 := Lib.hid (X1_r.out.below hb X1_r.out.lt); have X2_v0 := Lib.hid (X2_r.out.below hb X2_r.out.lt); have RB_v0 := Lib.hid (RB_r.out.below hb RB_r.out.lt); have HTv0 := Lib.hid (HTr.out.below hb HTr.out.lt); obtain ⟨xv00, xv01, xv02⟩ := X1_v0.out.three; clear hb)
          | (go_at_call 93; (with_reducible refine (l7Has_any V1 R1 A1 cap1 k ns1 j _ (by exact HA1.out.below HBv0.out) HFm1.out hk HRt1.out hn1).mono ?_); rw [Hh1.out]; rintro e v1 ⟨rfl, hb⟩; have HBv1 : Hid (Below w.heap.size w v1) := HBv0.out.trans (hb.mono HBv0.out.size); have X0_v1 := Lib.hid (X0_v0.out.below hb X0_v0.out.lt); have X1_v1 := Lib.hid (X1_v0.out.below hb X1_v0.out.lt); have X2_v1 := Lib.hid (X2_v0.out.below hb X2_v0.out.lt); have RB_v1 := Lib.hid (RB_v0.out.below hb RB_v0.out.lt); have HTv1 := Lib.hid (HTv0.out.below hb HTv0.out.lt); obtain ⟨xv10, xv11, xv12⟩ := X0_v1.out.three; clear hb)
          | (go_at_call 93; (with_reducible refine (l7Has_any k R0 A0 cap0 k ns0 j _ (by exact HA0.out.below HBv1.out) HFm0.out hk HRt0.out hn0).mono ?_); rw [Hh0.out]; rintro e v2 ⟨rfl, hb⟩; have HBv2 : Hid (Below w.heap.size w v2) := HBv1.out.trans (hb.mono HBv1.out.size); have X0_v2 := Lib.hid (X0_v1.out.below hb X0_v1.out.lt); have X1_v2 := Lib.hid (X1_v1.out.below hb X1_v1.out.lt); have X2_v2 := Lib.hid (X2_v1.out.below hb X2_v1.out.lt); have RB_v2 := Lib.hid (RB_v1.out.below hb RB_v1.out.lt); have HTv2 := Lib.hid (HTv1.out.below hb HTv1.out.lt); have ct := (HTv2.out.cell j).trans (tabF_get F N j hlt); have cf := HTv2.out.frozen j; clear hb))
        go_roundw
        case rel =>
          refine ⟨j + 1, by omega, HBv2.out.setCell (p := ⟨w3.heap.size, j, none⟩) (by show w.heap.size ≤ w3.heap.size; omega) _, X0_v2.out.far (p := ⟨w3.heap.size, j, none⟩) (by show _ ≠ w3.heap.size; omega) _, X1_v2.out.far (p := ⟨w3.heap.size, j, none⟩) (by show _ ≠ w3.heap.size; omega) _, X2_v2.out.far (p := ⟨w3.heap.size, j, none⟩) (by show _ ≠ w3.heap.size; omega) _, RB_v2.out.far (p := ⟨w3.heap.size, j, none⟩) (by show _ ≠ w3.heap.size; omega) _, ?_, by go_num⟩
          have h3 := HTv2.out.set_ j (.bool false)
          rw [tabF_put F N j false HFj.out] at h3
          exact h3
        case measure => simp [intOf]; omega
    | false =>
      cases h2 : has ns2 R2 j with
      | true =>
        have HFj : Hid (F j = true) := by show F j = true; rw [HF.out]; simp [ifF, h0, h2]
        obtain ⟨xr0, xr1, xr2⟩ := X0_r.out.three
        have Hh0 := Lib.hid h0
        have Hh2 := Lib.hid h2
        clear h0 h2
        go_wp2_with (first
          | (go_at_call 93; (with_reducible refine (l7Has_any k R0 A0 cap0 k ns0 j _ (by exact HA0.out.below HBr.out) HFm0.out hk HRt0.out hn0).mono ?_); rw [Hh0.out]; rintro e v0 ⟨rfl, hb⟩; have HBv0 : Hid (Below w.heap.size w v0) := HBr.out.trans (hb.mono HBr.out.size); have X0_v0 := Lib.hid (X0_r.out.below hb X0_r.out.lt); have X1_v0 := Lib.hid (X1_r.out.below hb X1_r.out.lt); have X2_v0 := Lib.hid (X2_r.out.below hb X2_r.out.lt); have RB_v0 := Lib.hid (RB_r.out.below hb RB_r.out.lt); have HTv0 := Lib.hid (HTr.out.below hb HTr.out.lt); obtain ⟨xv00, xv01, xv02⟩ := X0_v0.out.three; clear hb)
          | (go_at_call 93; (with_reducible refine (l7Has_any k R0 A0 cap0 k ns0 j _ (by exact HA0.out.below HBv0.out) HFm0.out hk HRt0.out hn0).mono ?_); rw [Hh0.out]; rintro e v1 ⟨rfl, hb⟩; have HBv1 : Hid (Below w.heap.size w v1) := HBv0.out.trans (hb.mono HBv0.out.size); have X0_v1 := Lib.hid (X0_v0.out.below hb X0_v0.out.lt); have X1_v1 := Lib.hid (X1_v0.out.below hb X1_v0.out.lt); have X2_v1 := Lib.hid (X2_v0.out.below hb X2_v0.out.lt); have RB_v1 := Lib.hid (RB_v0.out.below hb RB_v0.out.lt); have HTv1 := Lib.hid (HTv0.out.below hb HTv0.out.lt); obtain ⟨xv10, xv11, xv12⟩ := X2_v1.out.three; clear hb)
          | (go_at_call 93; (with_reducible refine (l7Has_any V2 R2 A2 cap2 k ns2 j _ (by exact HA2.out.below HBv1.out) HFm2.out hk HRt2.out hn2).mono ?_); rw [Hh2.out]; rintro e v2 ⟨rfl, hb⟩; have HBv2 : Hid (Below w.heap.size w v2) := HBv1.out.trans (hb.mono HBv1.out.size); have X0_v2 := Lib.hid (X0_v1.out.below hb X0_v1.out.lt); have X1_v2 := Lib.hid (X1_v1.out.below hb X1_v1.out.lt); have X2_v2 := Lib.hid (X2_v1.out.below hb X2_v1.out.lt); have RB_v2 := Lib.hid (RB_v1.out.below hb RB_v1.out.lt); have HTv2 := Lib.hid (HTv1.out.below hb HTv1.out.lt); have ct := (HTv2.out.cell j).trans (tabF_get F N j hlt); have cf := HTv2.out.frozen j; clear hb))
        go_roundw
        case rel =>
          refine ⟨j + 1, by omega, HBv2.out.setCell (p := ⟨w3.heap.size, j, none⟩) (by show w.heap.size ≤ w3.heap.size; omega) _, X0_v2.out.far (p := ⟨w3.heap.size, j, none⟩) (by show _ ≠ w3.heap.size; omega) _, X1_v2.out.far (p := ⟨w3.heap.size, j, none⟩) (by show _ ≠ w3.heap.size; omega) _, X2_v2.out.far (p := ⟨w3.heap.size, j, none⟩) (by show _ ≠ w3.heap.size; omega) _, RB_v2.out.far (p := ⟨w3.heap.size, j, none⟩) (by show _ ≠ w3.heap.size; omega) _, ?_, by go_num⟩
          have h3 := HTv2.out.set_ j (.bool true)
          rw [tabF_put F N j true HFj.out] at h3
          exact h3
        case measure => simp [intOf]; omega
      | false =>
        have HFj : Hid (F j = false) := by show F j = false; rw [HF.out]; simp [ifF, h0, h2]
        obtain ⟨xr0, xr1, xr2⟩ := X0_r.out.three
        have Hh0 := Lib.hid h0
        have Hh2 := Lib.hid h2
        clear h0 h2
        go_wp2_with (first
          | (go_at_call 93; (with_reducible refine (l7Has_any k R0 A0 cap0 k ns0 j _ (by exact HA0.out.below HBr.out) HFm0.out hk HRt0.out hn0).mono ?_); rw [Hh0.out]; rintro e v0 ⟨rfl, hb⟩; have HBv0 : Hid (Below w.heap.size w v0) := HBr.out.trans (hb.mono HBr.out.size); have X0_v0 := Lib.hid (X0_r.out.below hb X0_r.out.lt); have X1_v0 := Lib.hid (X1_r.out.below hb X1_r.out.lt); have X2_v0 := Lib.hid (X2_r.out.below hb X2_r.out.lt); have RB_v0 := Lib.hid (RB_r.out.below hb RB_r.out.lt); have HTv0 := Lib.hid (HTr.out.below hb HTr.out.lt); obtain ⟨xv00, xv01, xv02⟩ := X0_v0.out.three; clear hb)
          | (go_at_call 93; (with_reducible refine (l7Has_any k R0 A0 cap0 k ns0 j _ (by exact HA0.out.below HBv0.out) HFm0.out hk HRt0.out hn0).mono ?_); rw [Hh0.out]; rintro e v1 ⟨rfl, hb⟩; have HBv1 : Hid (Below w.heap.size w v1) := HBv0.out.trans (hb.mono HBv0.out.size); have X0_v1 := Lib.hid (X0_v0.out.below hb X0_v0.out.lt); have X1_v1 := Lib.hid (X1_v0.out.below hb X1_v0.out.lt); have X2_v1 := Lib.hid (X2_v0.out.below hb X2_v0.out.lt); have RB_v1 := Lib.hid (RB_v0.out.below hb RB_v0.out.lt); have HTv1 := Lib.hid (HTv0.out.below hb HTv0.out.lt); obtain ⟨xv10, xv11, xv12⟩ := X2_v1.out.three; clear hb)
          | (go_at_call 93; (with_reducible refine (l7Has_any V2 R2 A2 cap2 k ns2 j _ (by exact HA2.out.below HBv1.out) HFm2.out hk HRt2.out hn2).mono ?_); rw [Hh2.out]; rintro e v2 ⟨rfl, hb⟩; have HBv2 : Hid (Below w.heap.size w v2) := HBv1.out.trans (hb.mono HBv1.out.size); have X0_v2 := Lib.hid (X0_v1.out.below hb X0_v1.out.lt); have X1_v2 := Lib.hid (X1_v1.out.below hb X1_v1.out.lt); have X2_v2 := Lib.hid (X2_v1.out.below hb X2_v1.out.lt); have RB_v2 := Lib.hid (RB_v1.out.below hb RB_v1.out.lt); have HTv2 := Lib.hid (HTv1.out.below hb HTv1.out.lt); have ct := (HTv2.out.cell j).trans (tabF_get F N j hlt); have cf := HTv2.out.frozen j; clear hb))
        go_roundw
        case rel =>
          refine ⟨j + 1, by omega, HBv2.out.setCell (p := ⟨w3.heap.size, j, none⟩) (by show w.heap.size ≤ w3.heap.size; omega) _, X0_v2.out.far (p := ⟨w3.heap.size, j, none⟩) (by show _ ≠ w3.heap.size; omega) _, X1_v2.out.far (p := ⟨w3.heap.size, j, none⟩) (by show _ ≠ w3.heap.size; omega) _, X2_v2.out.far (p := ⟨w3.heap.size, j, none⟩) (by show _ ≠ w3.heap.size; omega) _, RB_v2.out.far (p := ⟨w3.heap.size, j, none⟩) (by show _ ≠ w3.heap.size; omega) _, ?_, by go_num⟩
          have h3 := HTv2.out.set_ j (.bool false)
          rw [tabF_put F N j false HFj.out] at h3
          exact h3
        case measure => simp [intOf]; omega

end Go.Proofs.Ytffefegjnbfobaa
namespace Go.Proofs.Ytffefegjnbfobaa
open Go.RowKit
open B

theorem nat_nil (w : World) (A : Option Addr) : NAt w A [] := fun h => absurd h (by simp)
theorem b2i_if (b : Bool) : b2i b = if b then 1 else 0 := rfl
theorem has_b2i (b : Bool) (c : Nat) : has [] (b2i b) c = b := has_const b c
theorem okS_const {V : Int} (h : 0 ≤ V ∧ V ≤ 13) (b : Bool) : OkS V [] (b2i b) := const_ok h.1 h.2 b

end Go.Proofs.Ytffefegjnbfobaa
