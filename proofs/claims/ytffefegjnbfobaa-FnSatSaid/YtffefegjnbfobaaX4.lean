/- BddFix of the reference, walked. -/
import Derived.Test.YtffefegjnbfobaaX1
import Derived.Test.YtffefegjnbfobaaQ4
import Derived.Deep.RegionHeld3
namespace Go.Proofs.Ytffefegjnbfobaa
open Go.RowKit
open B

theorem l7Has_eq (V R : Int) (A : Option Addr) (cap vars : Nat) (ns : List Nd) (c : Nat) (n : Int) (w : World) (h : n = (c : Int)) (hA : NAt w A ns) (hf : Fm vars ns) (hv : vars ≤ 13) (hR : isP ns R) (hn : ns.length ≤ 1048576) :
    Calls Try.prog 93 #[.agg #[.int .i64 V, .slice A ns.length cap, .int .i64 R], .int .i64 n] w fun e w' => e = .returned (.bool (has ns R c)) ∧ Below w.heap.size w w' := by
  subst h; exact l7Has_any V R A cap vars ns c w hA hf hv hR hn
theorem l1Bit_b2i (c v : Nat) (hv : v ≤ 13) (w : World) : Calls Try.prog 135 #[.int .i64 (c : Int), .int .i64 (v : Int)] w fun e w' => e = .returned (.int .i64 (b2i (c.testBit v))) ∧ w = w' :=
  (l1Bit_nat c v hv _ rfl w).mono fun _ _ h => ⟨h.1, h.2⟩

set_option maxRecDepth 100000 in
set_option maxHeartbeats 2000000 in
theorem specFix_any (V0 R0 : Int) (A0 : Option Addr) (cap0 : Nat) (ns0 : List Nd) (x1 : Int) (b2 : Bool) (w : World) (hA0 : NAt w A0 ns0) (hn0 : ns0.length ≤ 1048576) :
    Calls Try.prog 97 #[.agg (dB V0 R0 A0 ns0.length cap0), .int .i64 x1, .bool b2] w fun e w' => Mkd (OkS V0 ns0 R0 ∧ 0 ≤ x1 ∧ x1 ≤ V0 - 1) V0 (mk V0.toNat 0 (fun c => has ns0 R0 (setb x1.toNat b2 c)) []) w.heap.size w' e ∧ Below w.heap.size w w' := by
  have HA0 := Lib.hid hA0
  clear hA0
  have HB0 : Hid (Below w.heap.size w ((w.alloc (.cells (dB V0 R0 A0 ns0.length cap0) 28)).alloc (.cells zB 28))) := (((Below.refl _ _).alloc (Nat.le_refl _) _).alloc (by simp) _)
  have X0_0 : Hid (Blk ((w.alloc (.cells (dB V0 R0 A0 ns0.length cap0) 28)).alloc (.cells zB 28)) (w.heap.size) 28 (dB V0 R0 A0 ns0.length cap0)) := ((Blk.new w _ _).alloc _)
  have RB_0 : Hid (Blk ((w.alloc (.cells (dB V0 R0 A0 ns0.length cap0) 28)).alloc (.cells zB 28)) (w.heap.size + 1) 28 zB) := (Blk.new_at _ _ _ (g := w.heap.size + 1) (by simp))
  by_cases hok0 : OkS V0 ns0 R0
  case neg =>
    have HOK0 := Lib.hid hok0
    clear hok0
    go_enter Try.func97, Try.ntmps97
    go_wp2_with (first
      | (go_at_call 92; (with_reducible refine (specOk_any V0 R0 A0 cap0 ns0 _ (by exact HA0.out.below HB0.out) hn0).mono ?_); rintro e w1 ⟨hs, hb⟩; obtain rfl := hs.f HOK0.out; have HB1 : Hid (Below w.heap.size w w1) := HB0.out.trans (hb.mono HB0.out.size); have X0_1 := Lib.hid (X0_0.out.below hb X0_0.out.lt); have RB_1 := Lib.hid (RB_0.out.below hb RB_0.out.lt); obtain ⟨x0c1_0, x0c1_1, x0c1_2⟩ := X0_1.out.three; obtain ⟨rbc1_0, rbc1_1, rbc1_2⟩ := RB_1.out.three; have rf1_0 := RB_1.out.frozen 0; have rf1_1 := RB_1.out.frozen 1; have rf1_2 := RB_1.out.frozen 2; clear hs hb))
    obtain ⟨u0, u1, u2⟩ := (RB_1.out.put3 (.int .i64 0) (.slice none 0 0) (.int .i64 0)).three
    refine bodyPost_ret (v := .tuple #[.agg zB, .bool false]) (by simp [results, Try.results97, go_sem, u0, u1, u2]) rfl ⟨Mkd.none (fun h => HOK0.out h.1), below_put3 HB1.out (by omega) _ _ _⟩
  have HOK0 := Lib.hid hok0
  clear hok0
  have hv0 := HOK0.out.1.v0
  have hv1 := HOK0.out.1.v1
  by_cases hx : 0 ≤ x1 ∧ x1 ≤ V0 - 1
  case neg =>
    have hd : decide (0 ≤ x1 ∧ x1 ≤ V0 - 1) = false := by simpa using hx
    have HX := Lib.hid hx
    clear hx
    go_enter Try.func97, Try.ntmps97
    go_wp2_with (first
      | (go_at_call 92; (with_reducible refine (specOk_any V0 R0 A0 cap0 ns0 _ (by exact HA0.out.below HB0.out) hn0).mono ?_); rintro e w1 ⟨hs, hb⟩; obtain rfl := hs.t HOK0.out; have HB1 : Hid (Below w.heap.size w w1) := HB0.out.trans (hb.mono HB0.out.size); have X0_1 := Lib.hid (X0_0.out.below hb X0_0.out.lt); have RB_1 := Lib.hid (RB_0.out.below hb RB_0.out.lt); obtain ⟨x0c1_0, x0c1_1, x0c1_2⟩ := X0_1.out.three; obtain ⟨rbc1_0, rbc1_1, rbc1_2⟩ := RB_1.out.three; have rf1_0 := RB_1.out.frozen 0; have rf1_1 := RB_1.out.frozen 1; have rf1_2 := RB_1.out.frozen 2; clear hs hb)
      | (go_at_call 66; refine (l1In_is _ _ _ false hd _).mono ?_; rintro e w' ⟨rfl, rfl⟩))
    obtain ⟨u0, u1, u2⟩ := (RB_1.out.put3 (.int .i64 0) (.slice none 0 0) (.int .i64 0)).three
    refine bodyPost_ret (v := .tuple #[.agg zB, .bool false]) (by simp [results, Try.results97, go_sem, u0, u1, u2]) rfl ⟨Mkd.none (fun h => HX.out h.2), below_put3 HB1.out (by omega) _ _ _⟩
  have hd : decide (0 ≤ x1 ∧ x1 ≤ V0 - 1) = true := by simpa using hx
  have HP0 : Hid (OkS V0 ns0 R0 ∧ 0 ≤ x1 ∧ x1 ≤ V0 - 1) := ⟨HOK0.out, hx⟩
  obtain ⟨k, rfl, hk, hf0, hR0⟩ := OkS.nat HOK0.out
  obtain ⟨i, rfl⟩ := Int.eq_ofNat_of_zero_le hx.1
  have hi : i ≤ 13 := by omega
  clear hx
  have HP := HP0
  have HFm0 := Lib.hid hf0
  have HRt0 : Hid (isP ns0 R0) := hR0
  clear hf0 hR0
  obtain ⟨N, hN⟩ : ∃ N, N = 2 ^ k := ⟨_, rfl⟩
  have hN' : N ≤ 8192 := by rw [hN]; exact Nat.pow_le_pow_right (by omega) hk
  have hNI : ((2 : Int) ^ k) = (N : Int) := by rw [hN]; simp
  have e1 : wrap64 (2 ^ k) = (N : Int) := by rw [hNI]; unfold wrap64; omega
  have HNK := Lib.hid hN
  have hmk := fun W => mk_bools N (by omega) W
  clear hN hNI
  obtain ⟨F, HF⟩ : ∃ F : Nat → Bool, Hid (F = fun c => has ns0 R0 (setb i b2 c)) := ⟨_, rfl⟩
  go_enter Try.func97, Try.ntmps97
  go_wp2_with (first
    | (go_at_call 92; (with_reducible refine (specOk_any k R0 A0 cap0 ns0 _ (by exact HA0.out.below HB0.out) hn0).mono ?_); rintro e w1 ⟨hs, hb⟩; obtain rfl := hs.t HOK0.out; have HB1 : Hid (Below w.heap.size w w1) := HB0.out.trans (hb.mono HB0.out.size); have X0_1 := Lib.hid (X0_0.out.below hb X0_0.out.lt); have RB_1 := Lib.hid (RB_0.out.below hb RB_0.out.lt); obtain ⟨x0c1_0, x0c1_1, x0c1_2⟩ := X0_1.out.three; obtain ⟨rbc1_0, rbc1_1, rbc1_2⟩ := RB_1.out.three; have rf1_0 := RB_1.out.frozen 0; have rf1_1 := RB_1.out.frozen 1; have rf1_2 := RB_1.out.frozen 2; clear hs hb)
    | (go_at_call 66; refine (l1In_is _ _ _ true hd _).mono ?_; rintro e w' ⟨rfl, rfl⟩))
  clear e1 hmk
  clear x0c1_0 x0c1_1 x0c1_2 rbc1_0 rbc1_1 rbc1_2
  clear rf1_0 rf1_1 rf1_2
  have HT0 : Hid (Blk (w1.alloc (.cells (madeCells #[.bool false] N) 4)) w1.heap.size 4 (tabF F N 0)) := by show Blk _ _ _ _; rw [tabF_zero]; exact Blk.new _ _ _
  have hwJ : w.heap.size + 2 ≤ w1.heap.size := by have h := RB_1.out.lt; omega
  go_loopw [9] (fun i wr => ∃ j : Nat, j ≤ N ∧ Hid (Below w.heap.size w wr) ∧ Hid (Blk wr (w.heap.size) 28 (dB k R0 A0 ns0.length cap0)) ∧ Hid (Blk wr (w.heap.size + 1) 28 zB) ∧ Hid (Blk wr w1.heap.size 4 (tabF F N j)) ∧ i = .int .i64 j) (fun i _ => N - (intOf i).toNat)
  case atStart => exact ⟨0, Nat.zero_le _, HB1.out.alloc HB1.out.size _, X0_1.out.alloc _, RB_1.out.alloc _, HT0.out, rfl⟩
  case round =>
    obtain ⟨j, hj, HBr, X0_r, RB_r, HTr, rfl⟩ := hrel
    by_cases hlt : j < N
    case neg =>
      obtain rfl : j = N := by omega
      obtain ⟨x0r0, x0r1, x0r2⟩ := X0_r.out.three
      obtain ⟨rbr0, rbr1, rbr2⟩ := RB_r.out.three
      have HTN : Hid (Blk wr w1.heap.size 4 (rowF (fun c => .bool (F c)) j)) := by show Blk _ _ _ _; rw [← tabF_full]; exact HTr.out
      go_wp2_with (first
        | (go_at_call 67; (with_reducible refine (l7Of_any _ HP.out k j w1.heap.size F HNK.out hk _ (by exact HTN.out)).mono ?_); rintro e wz ⟨hm, hb⟩; obtain ⟨V', R', ms, bb, A', c', hmv, rfl, ho, hml⟩ := hm.is; have HBz : Hid (Below w.heap.size w wz) := HBr.out.trans (hb.mono HBr.out.size); have RB_z := Lib.hid (RB_r.out.below hb RB_r.out.lt); obtain ⟨rx0, rx1, rx2⟩ := RB_z.out.three; have rz0 := RB_z.out.frozen 0; have rz1 := RB_z.out.frozen 1; have rz2 := RB_z.out.frozen 2; clear hm hb))
      obtain ⟨u0, u1, u2⟩ := (RB_z.out.put3 (.int .i64 V') (.slice A' ms.length c') (.int .i64 R')).three
      have hmv' := hmv.out
      rw [HF.out] at hmv'
      refine bodyPost_ret (v := .tuple #[.agg #[.int .i64 V', .slice A' ms.length c', .int .i64 R'], .bool bb]) (by simp [results, Try.results97, go_sem, u0, u1, u2]) rfl ⟨⟨V', R', ms, bb, A', c', by simpa using hmv', rfl, own_put3 (own_mono ho.out HBr.out.size) (own_ne_blk ho.out RB_z.out (by decide)) _ _ _⟩, below_put3 HBz.out (by omega) _ _ _⟩
    have hj0 : (0 : Int) ≤ j := by omega
    have hj1 : (j : Int) < (N : Int) := by omega
    have HFj : Hid (F j = has ns0 R0 (setb i b2 j)) := by show F j = _; rw [HF.out]
    have tc := (HTr.out.cell j).trans (tabF_get F N j hlt)
    have tf := HTr.out.frozen j
    have HSum : Hid (∀ n : Int, n = (j : Int) + (b2i b2 - b2i (j.testBit i)) * ((2 ^ i : Nat) : Int) → n = (setb i b2 j : Int)) := fun n hn => hn.trans (fix_sum j i b2 _ rfl)
    go_wp2_with fail
    go_region_held3 (fun w' => w'.cell? ⟨w.heap.size, 0, none⟩ = some (.int .i64 k) ∧ w'.cell? ⟨w.heap.size, 1, none⟩ = some (.slice A0 ns0.length cap0) ∧ w'.cell? ⟨w.heap.size, 2, none⟩ = some (.int .i64 R0)) (first | with_reducible (exact ⟨(X0_r.out.drew).three.1, (X0_r.out.drew).three.2.1, (X0_r.out.drew).three.2.2⟩) | with_reducible (exact ⟨(X0_v0.out).three.1, (X0_v0.out).three.2.1, (X0_v0.out).three.2.2⟩) | with_reducible (exact ⟨(X0_v0.out.far (p := ⟨w1.heap.size, j, none⟩) (by show _ ≠ w1.heap.size; omega) _).three.1, (X0_v0.out.far (p := ⟨w1.heap.size, j, none⟩) (by show _ ≠ w1.heap.size; omega) _).three.2.1, (X0_v0.out.far (p := ⟨w1.heap.size, j, none⟩) (by show _ ≠ w1.heap.size; omega) _).three.2.2⟩)) (first
      | (go_at_call 131; refine (yesb_is _ _).mono ?_; rintro e w' ⟨rfl, rfl⟩)
      | (go_at_call 135; refine (l1Bit_b2i j i hi _).mono ?_; rintro e w' ⟨rfl, rfl⟩)
      | (go_at_call 93; refine ((l7Has_eq k R0 A0 cap0 k ns0 (setb i b2 j) _ _ (by exact fix_go j i b2 hi (by omega)) (HA0.out.below HBr.out.drew) HFm0.out hk HRt0.out hn0).mono ?_); rintro e v0 ⟨rfl, hb⟩; have hx : Below wr.heap.size wr v0 := (Below.refl wr.heap.size wr).drew.trans hb; have HBv0 : Hid (Below w.heap.size w v0) := HBr.out.trans (hx.mono HBr.out.size); have X0_v0 := Lib.hid (X0_r.out.below hx X0_r.out.lt); have RB_v0 := Lib.hid (RB_r.out.below hx RB_r.out.lt); have HTv0 := Lib.hid (HTr.out.below hx HTr.out.lt); have ct := (HTv0.out.cell j).trans (tabF_get F N j hlt); have cf := HTv0.out.frozen j; clear hb hx))
    all_goals
      go_wp2_with fail
      go_roundw
      case rel =>
        refine ⟨j + 1, by omega, HBv0.out.setCell (p := ⟨w1.heap.size, j, none⟩) (by show w.heap.size ≤ w1.heap.size; omega) _, X0_v0.out.far (p := ⟨w1.heap.size, j, none⟩) (by show _ ≠ w1.heap.size; omega) _, RB_v0.out.far (p := ⟨w1.heap.size, j, none⟩) (by show _ ≠ w1.heap.size; omega) _, ?_, by go_num⟩
        have h3 := HTv0.out.set_ j (.bool (has ns0 R0 (setb i b2 j)))
        rw [tabF_put F N j _ HFj.out] at h3
        exact h3
      case measure => simp [intOf]; omega

end Go.Proofs.Ytffefegjnbfobaa
