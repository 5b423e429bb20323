/- BddFix of the program, walked. -/
import Derived.Test.YtffefegjnbfobaaX1
namespace Go.Proofs.Ytffefegjnbfobaa
open Go.RowKit
open B

set_option maxRecDepth 100000 in
set_option maxHeartbeats 400000 in
theorem withBit_any (V0 R0 : Int) (A0 : Option Addr) (cap0 : Nat) (ns0 : List Nd) (i : Int) (w : World) (hA0 : NAt w A0 ns0) (hn0 : ns0.length ≤ 1048576) :
    Calls Try.prog 100 #[.agg (dB V0 R0 A0 ns0.length cap0), .int .i64 i] w fun e w' => Says (OkI V0 ns0 R0 ∧ 0 ≤ i ∧ i ≤ V0 - 1) e ∧ Below w.heap.size w w' := by
  have HA0 := Lib.hid hA0
  clear hA0
  have HB0 : Hid (Below w.heap.size w (w.alloc (.cells (dB V0 R0 A0 ns0.length cap0) 28))) := (Below.refl _ _).alloc (Nat.le_refl _) _
  have X0_0 : Hid (Blk (w.alloc (.cells (dB V0 R0 A0 ns0.length cap0) 28)) w.heap.size 28 (dB V0 R0 A0 ns0.length cap0)) := Blk.new w _ _
  by_cases hok : OkI V0 ns0 R0
  case neg =>
    have HOK := Lib.hid hok
    clear hok
    go_enter Try.func100, Try.ntmps100
    go_wp2_with (go_at_call 32; refine (bddOk_any V0 R0 A0 cap0 ns0 _ (by exact HA0.out.below HB0.out) hn0).mono ?_; rintro e w1 ⟨hs, hb⟩; obtain rfl := hs.f HOK.out; clear hs)
    go_ret
    exact ⟨.no (fun h => HOK.out h.1), HB0.out.trans (hb.mono HB0.out.size)⟩
  have HOK := Lib.hid hok
  have hv0 := hok.1.v0
  have hv1 := hok.1.v1
  clear hok
  obtain ⟨bb, hbb⟩ : ∃ bb, decide (0 ≤ i ∧ i ≤ V0 - 1) = bb := ⟨_, rfl⟩
  have HBB := Lib.hid hbb
  clear hbb
  go_enter Try.func100, Try.ntmps100
  go_wp2_with (first
    | (go_at_call 32; refine (bddOk_any V0 R0 A0 cap0 ns0 _ (by exact HA0.out.below HB0.out) hn0).mono ?_; rintro e w1 ⟨hs, hb⟩; obtain rfl := hs.t HOK.out; clear hs; obtain ⟨x0, x1, x2⟩ := (X0_0.out.below hb X0_0.out.lt).three)
    | (go_at_call 69; refine (in_is _ _ _ bb HBB.out _).mono ?_; rintro e w' ⟨rfl, rfl⟩))
  go_ret
  refine ⟨?_, HB0.out.trans (hb.mono HB0.out.size)⟩
  have h := HBB.out
  cases bb
  · exact .no fun g => by have := g.2; simp at h; omega
  · exact .yes ⟨HOK.out, by simpa using h⟩

theorem has_eq (V R : Int) (A : Option Addr) (cap vars : Nat) (ns : List Nd) (c : Nat) (n : Int) (w : World) (h : n = (c : Int)) (hA : NAt w A ns) (hf : Fm vars ns) (hv : vars ≤ 13) (hR : isP ns R) (hcc : c < 9223372036854775808) (hn : ns.length ≤ 1048576) :
    Calls Try.prog 70 #[.agg #[.int .i64 V, .slice A ns.length cap, .int .i64 R], .int .i64 n] w fun e w' => e = .returned (.bool (has ns R c)) ∧ Below w.heap.size w w' := by
  subst h; exact has_any V R A cap vars ns c w hA hf hv hR hcc hn
theorem bit_lit (b : Bool) (n : Int) (h : b2i b = n) (w : World) : Calls Try.prog 112 #[.bool b] w fun e w' => e = .returned (.int .i64 n) ∧ w = w' := by
  subst h; exact bit_is b w

set_option maxRecDepth 100000 in
set_option maxHeartbeats 800000 in
theorem fix1_any (g0 g1 g2 k i : Nat) (y : Bool) (V0 R0 : Int) (A0 : Option Addr) (cap0 : Nat) (ns0 : List Nd) (c : Nat) (W : World) (hb0 : Blk W g0 28 (dB V0 R0 A0 ns0.length cap0)) (hb1 : Blk W g1 3 #[.int .i64 (i : Int)]) (hb2 : Blk W g2 4 #[.bool y])
    (hA0 : NAt W A0 ns0) (hf0 : Fm k ns0) (hk : k ≤ 13) (hR0 : isP ns0 R0) (hi : i ≤ 13) (hcc : c < 16384) (hn0 : ns0.length ≤ 1048576) :
    Calls Try.prog 111 #[.int .i64 (c : Int), .pointer (some ⟨g0, 0, none⟩), .pointer (some ⟨g1, 0, none⟩), .pointer (some ⟨g2, 0, none⟩)] W fun e W' => e = .returned (.bool (has ns0 R0 (setb i y c))) ∧ Below W.heap.size W W' := by
  have K1 := fun x : Ext W => ext_cell hb0.three.1 (by have h := hb0.lt; exact h) x
  have K2 := fun x : Ext W => ext_cell hb0.three.2.1 (by have h := hb0.lt; exact h) x
  have K3 := fun x : Ext W => ext_cell hb0.three.2.2 (by have h := hb0.lt; exact h) x
  have K4 := fun x : Ext W => ext_cell hb1.one (by have h := hb1.lt; exact h) x
  have K5 := fun x : Ext W => ext_cell hb2.one (by have h := hb2.lt; exact h) x
  have HA0 := Lib.hid hA0
  clear hb0 hb1 hb2 hA0
  obtain ⟨p, hp⟩ : ∃ p, p = 2 ^ i := ⟨_, rfl⟩
  have hp13 : p ≤ 8192 := by rw [hp]; exact Nat.pow_le_pow_right (n := 2) (by omega) hi
  have e1 : wrap64 (2 ^ i) = (p : Int) := by
    have : ((2 : Int) ^ i) = ((2 ^ i : Nat) : Int) := by simp
    rw [this, ← hp]; unfold wrap64; omega
  have e2 : bits .or .i64 (bits .andNot .i64 (c : Int) (p : Int)) ((if y then p else 0 : Nat) : Int) = (setb i y c : Int) := fix_bits c i y hi hcc p _ (by rw [hp]) (by rw [hp])
  have hlt := setb_lt y hi hcc
  have E1 := Lib.hid e1
  clear e1 hp
  generalize setb i y c = z at *
  cases y with
  | true =>
    simp only [if_true] at e2
    have E2 := Lib.hid e2
    clear e2
    go_enter Try.func111, Try.ntmps111
    go_wp2_with fail
    refine wp_region_ext (by kernel_rfl) (by kernel_rfl) ?_
    repeat go_big_quiet_step ((first | (go_at_call 112; with_reducible (exact ext_same _ (bit_lit true 1 rfl _))) | (go_at_call 70; exact ext_below _ (has_eq V0 R0 A0 cap0 k ns0 z _ _ (by rw [E1.out]; exact E2.out) (HA0.out.below (Subtype.property _)) hf0 hk hR0 (by omega) hn0))))
    refine wpQuiet_nil ?_
    intro _ hw'
    obtain ⟨x, hw''⟩ := hw'
    subst hw''
    go_wp2_with fail
    go_ret
    exact ⟨rfl, x.2⟩
  | false =>
    simp only [Bool.false_eq_true, if_false] at e2
    have E2 := Lib.hid e2
    clear e2
    go_enter Try.func111, Try.ntmps111
    go_wp2_with fail
    refine wp_region_ext (by kernel_rfl) (by kernel_rfl) ?_
    repeat go_big_quiet_step ((first | (go_at_call 112; with_reducible (exact ext_same _ (bit_lit false 0 rfl _))) | (go_at_call 70; exact ext_below _ (has_eq V0 R0 A0 cap0 k ns0 z _ _ (by rw [E1.out]; exact E2.out) (HA0.out.below (Subtype.property _)) hf0 hk hR0 (by omega) hn0))))
    refine wpQuiet_nil ?_
    intro _ hw'
    obtain ⟨x, hw''⟩ := hw'
    subst hw''
    go_wp2_with fail
    go_ret
    exact ⟨rfl, x.2⟩
theorem fix1_int (g0 g1 g2 k : Nat) (x1 : Int) (y : Bool) (V0 R0 : Int) (A0 : Option Addr) (cap0 : Nat) (ns0 : List Nd) (c : Nat) (W : World) (hb0 : Blk W g0 28 (dB V0 R0 A0 ns0.length cap0)) (hb1 : Blk W g1 3 #[.int .i64 x1]) (hb2 : Blk W g2 4 #[.bool y])
    (hA0 : NAt W A0 ns0) (hf0 : Fm k ns0) (hk : k ≤ 13) (hR0 : isP ns0 R0) (h0 : 0 ≤ x1) (hi : x1 ≤ 13) (hcc : c < 16384) (hn0 : ns0.length ≤ 1048576) :
    Calls Try.prog 111 #[.int .i64 (c : Int), .pointer (some ⟨g0, 0, none⟩), .pointer (some ⟨g1, 0, none⟩), .pointer (some ⟨g2, 0, none⟩)] W fun e W' => e = .returned (.bool (has ns0 R0 (setb x1.toNat y c))) ∧ Below W.heap.size W W' := by
  obtain ⟨i, rfl⟩ := Int.eq_ofNat_of_zero_le h0
  exact fix1_any g0 g1 g2 k i y V0 R0 A0 cap0 ns0 c W hb0 hb1 hb2 hA0 hf0 hk hR0 (by omega) hcc hn0
theorem lt_of_pow' {c : Nat} {V : Int} (h : c < 2 ^ V.toNat) (h1 : V ≤ 13) : c < 16384 := by
  have : 2 ^ V.toNat ≤ 2 ^ 13 := Nat.pow_le_pow_right (by omega) (by omega)
  omega
theorem fix1_enters : Enters Try.prog 111 := enters_of Try.func111 (by kernel_rfl) rfl
end Go.Proofs.Ytffefegjnbfobaa
