/- Walks: the small functions, and 'has' of both sides. -/
import Derived.Test.YtffefegjnbfobaaWd
import Derived.Test.YtffefegjnbfobaaProg
namespace Go.Proofs.Ytffefegjnbfobaa
open Go.RowKit
open B

theorem in_any (n lo hi : Int) (w : World) : Calls Try.prog 69 #[.int .i64 n, .int .i64 lo, .int .i64 hi] w fun e w' => e = .returned (.bool (decide (lo ≤ n ∧ n ≤ hi))) ∧ w = w' := by
  by_cases h : lo ≤ n
  · go_enter Try.func69, Try.ntmps69
    go_wp2
    go_ret
    exact ⟨by simp [h], rfl⟩
  · have h' : decide (lo ≤ n) = false := by simpa using h
    go_enter Try.func69, Try.ntmps69
    go_wp2
    go_ret
    exact ⟨by simp, rfl⟩

set_option maxRecDepth 100000 in
set_option maxHeartbeats 400000 in
theorem has_any (V R : Int) (A : Option Addr) (cap vars : Nat) (ns : List Nd) (c : Nat) (w : World) (hA : NAt w A ns) (hf : Fm vars ns) (hv : vars ≤ 13) (hR : isP ns R) (hcc : c < 9223372036854775808) (hn : ns.length ≤ 1048576) :
    Calls Try.prog 70 #[.agg #[.int .i64 V, .slice A ns.length cap, .int .i64 R], .int .i64 (c : Int)] w fun e w' => e = .returned (.bool (has ns R c)) ∧ Below w.heap.size w w' := by
  go_enter Try.func70, Try.ntmps70
  go_wp2
  go_loopw [5] (fun p wr => Below w.heap.size w wr ∧ wr.cell? ⟨w.heap.size, 1, none⟩ = some (.slice A ns.length cap) ∧ w.heap.size < wr.heap.size ∧ ∃ q : Int, 0 ≤ q ∧ q ≤ ns.length + 1 ∧ Hid (has ns q c = has ns R c) ∧ p = .int .i64 q) (fun p _ => (intOf p).toNat)
  case atStart => exact ⟨(Below.refl _ _).alloc (Nat.le_refl _) _, by simp [World.cell?_alloc_at], by simp, R, hR.1, hR.2, rfl, rfl⟩
  case round =>
    obtain ⟨hbw, hns, hlt, q, hq0, hq1, hhas, rfl⟩ := hrel
    by_cases h1 : 1 < q
    · have g := good hf h1 hq1
      obtain ⟨gv0, gv1, gl0, gl1, gh0, gh1⟩ := (⟨g.v0, g.v1, g.lo0, g.lo1, g.hi0, g.hi1⟩ : _ ∧ _ ∧ _ ∧ _ ∧ _ ∧ _)
      have gl2 : (nd ns q).lo < q := by omega
      have gh2 : (nd ns q).hi < q := by omega
      clear gl1 gh1 g
      have HS : Hid (∀ c, has ns q c = has ns (if c.testBit (nd ns q).v.toNat then (nd ns q).hi else (nd ns q).lo) c) := fun c => has_step hf h1 hq1 c
      have hc3 := hA.nd hbw h1 hq1
      clear hA hf hR
      obtain ⟨b, off, rfl, c1, c2, c3⟩ := hc3
      by_cases hb : c.testBit (nd ns q).v.toNat = true
      · have t := bit_yes hcc hb
        have HB := Lib.hid hb
        clear hb
        go_wp2
        go_roundw
        case rel => exact ⟨hbw.alloc (by omega) _, by rw [World.cell?_alloc_past _ _ _ (by simpa using hlt)]; exact hns, by simp; omega, _, gh0, by omega, by rw [← hhas.out, HS.out c, if_pos HB.out]; rfl, rfl⟩
        case measure => simp [intOf]; omega
      · have hb : c.testBit (nd ns q).v.toNat = false := by simpa using hb
        have t := bit_no hcc hb
        have HB := Lib.hid hb
        clear hb
        go_wp2
        go_roundw
        case rel => exact ⟨hbw.alloc (by omega) _, by rw [World.cell?_alloc_past _ _ _ (by simpa using hlt)]; exact hns, by simp; omega, _, gl0, by omega, by rw [← hhas.out, HS.out c, if_neg (by simp [HB.out])]; rfl, rfl⟩
        case measure => simp [intOf]; omega
    · go_wp2
      go_ret
      exact ⟨ret_bool (by rw [← hhas.out, has_small ns q c (by omega)]), hbw⟩
end Go.Proofs.Ytffefegjnbfobaa
