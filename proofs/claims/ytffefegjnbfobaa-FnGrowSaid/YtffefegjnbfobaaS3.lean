/- spec.l1Bit and spec.l7Has, walked. -/
import Derived.Test.YtffefegjnbfobaaS2
namespace Go.Proofs.Ytffefegjnbfobaa
open Go.RowKit
open B

theorem l1Bit_nat (c v : Nat) (hv : v ≤ 13) (b : Bool) (hb : c.testBit v = b) (w : World) : Calls Try.prog 135 #[.int .i64 (c : Int), .int .i64 (v : Int)] w fun e w' => e = .returned (.int .i64 (if b then 1 else 0)) ∧ w = w' := by
  have e1 : (((c : Int) / 2 ^ v).tmod 2) = if b then 1 else 0 := by
    have e : ((c : Int) / 2 ^ v) = ((c / 2 ^ v : Nat) : Int) := by simp
    have e3 : (((c / 2 ^ v : Nat) : Int)).tmod 2 = ((c / 2 ^ v % 2 : Nat) : Int) := rfl
    rw [e, e3, ← hb, Nat.testBit_eq_decide_div_mod_eq]
    by_cases h : c / 2 ^ v % 2 = 1
    · rw [h]; rfl
    · rw [show c / 2 ^ v % 2 = 0 by omega]; rfl
  clear hb
  go_enter Try.func135, Try.ntmps135
  go_wp2_with fail
  all_goals
    go_ret
    exact ⟨by simp_all, rfl⟩
theorem l1Bit_is (c : Nat) (v : Int) (hv0 : 0 ≤ v) (hv : v ≤ 13) (b : Bool) (hb : c.testBit v.toNat = b) (w : World) : Calls Try.prog 135 #[.int .i64 (c : Int), .int .i64 v] w fun e w' => e = .returned (.int .i64 (if b then 1 else 0)) ∧ w = w' := by
  obtain ⟨k, rfl⟩ := Int.eq_ofNat_of_zero_le hv0
  exact l1Bit_nat c k (by omega) b (by simpa using hb) w

set_option maxRecDepth 100000 in
set_option maxHeartbeats 400000 in
theorem l7Has_any (V R : Int) (A : Option Addr) (cap vars : Nat) (ns : List Nd) (c : Nat) (w : World) (hA : NAt w A ns) (hf : Fm vars ns) (hv : vars ≤ 13) (hR : isP ns R) (hn : ns.length ≤ 1048576) :
    Calls Try.prog 93 #[.agg #[.int .i64 V, .slice A ns.length cap, .int .i64 R], .int .i64 (c : Int)] w fun e w' => e = .returned (.bool (has ns R c)) ∧ Below w.heap.size w w' := by
  go_enter Try.func93, Try.ntmps93
  go_wp2_with fail
  go_loopw [5] (fun p wr => Below w.heap.size w wr ∧ wr.cell? ⟨w.heap.size, 1, none⟩ = some (.slice A ns.length cap) ∧ w.heap.size < wr.heap.size ∧ ∃ q : Int, 0 ≤ q ∧ q ≤ ns.length + 1 ∧ Hid (has ns q c = has ns R c) ∧ p = .int .i64 q) (fun p _ => (intOf p).toNat)
  case atStart => exact ⟨(Below.refl _ _).alloc (Nat.le_refl _) _, by simp [World.cell?_alloc_at], by simp, R, hR.1, hR.2, rfl, rfl⟩
  case round =>
    obtain ⟨hbw, hns, hlt, q, hq0, hq1, hhas, rfl⟩ := hrel
    by_cases h1 : 2 ≤ q
    · have h1' : 1 < q := by omega
      have g := good hf h1' hq1
      obtain ⟨gv0, gv1, gl0, gl1, gh0, gh1⟩ := (⟨g.v0, g.v1, g.lo0, g.lo1, g.hi0, g.hi1⟩ : _ ∧ _ ∧ _ ∧ _ ∧ _ ∧ _)
      have gl2 : (nd ns q).lo < q := by omega
      have gh2 : (nd ns q).hi < q := by omega
      clear gl1 gh1 g
      have HS : Hid (∀ c, has ns q c = has ns (if c.testBit (nd ns q).v.toNat then (nd ns q).hi else (nd ns q).lo) c) := fun c => has_step hf h1' hq1 c
      have hc3 := hA.nd hbw h1' hq1
      clear hA hf hR
      obtain ⟨b, off, rfl, c1, c2, c3⟩ := hc3
      obtain ⟨bb, HB⟩ : ∃ bb, Hid (c.testBit (nd ns q).v.toNat = bb) := ⟨_, rfl⟩
      cases bb with
      | true =>
        go_wp2_with (go_at_call 135; refine (l1Bit_is c _ gv0 (by omega) true HB.out _).mono ?_; rintro e w1 ⟨rfl, rfl⟩)
        go_roundw
        case rel => exact ⟨hbw.alloc (by omega) _, by rw [World.cell?_alloc_past _ _ _ (by simpa using hlt)]; exact hns, by simp; omega, _, gh0, by omega, by rw [← hhas.out, HS.out c, if_pos HB.out]; rfl, rfl⟩
        case measure => simp [intOf]; omega
      | false =>
        go_wp2_with (go_at_call 135; refine (l1Bit_is c _ gv0 (by omega) false HB.out _).mono ?_; rintro e w1 ⟨rfl, rfl⟩)
        go_roundw
        case rel => exact ⟨hbw.alloc (by omega) _, by rw [World.cell?_alloc_past _ _ _ (by simpa using hlt)]; exact hns, by simp; omega, _, gl0, by omega, by rw [← hhas.out, HS.out c, if_neg (by simp [HB.out])]; rfl, rfl⟩
        case measure => simp [intOf]; omega
    · go_wp2_with fail
      go_ret
      exact ⟨ret_bool (by rw [← hhas.out, has_small ns q c (by omega)]), hbw⟩
end Go.Proofs.Ytffefegjnbfobaa
