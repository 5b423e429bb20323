/- BddEval of the program, walked. -/
import Derived.Test.YtffefegjnbfobaaL0
namespace Go.Proofs.Ytffefegjnbfobaa
open Go.RowKit
open B

set_option maxRecDepth 100000 in
set_option maxHeartbeats 400000 in
theorem implEval_any (V R c : Int) (A : Option Addr) (cap : Nat) (ns : List Nd) (w : World) (hA : NAt w A ns) (hn : ns.length ≤ 1048576) :
    Calls Try.prog 18 #[.agg #[.int .i64 V, .slice A ns.length cap, .int .i64 R], .int .i64 c] w fun e w' => Says (OkI V ns R ∧ (0 ≤ c ∧ c ≤ 2 ^ V.toNat - 1) ∧ has ns R c.toNat = true) e ∧ Below w.heap.size w w' := by
  have HA := Lib.hid hA
  clear hA
  by_cases hok : OkI V ns R
  case neg =>
    have HOK := Lib.hid hok
    clear hok
    go_enter Try.func18, Try.ntmps18
    go_wp2_with (go_at_call 32; refine (bddOk_any V R A cap ns _ (by exact HA.out.below ((Below.refl w.heap.size w).alloc (Nat.le_refl _) _)) hn).mono ?_; rintro e w1 ⟨hs, hb1⟩; obtain rfl := hs.f HOK.out; clear hs)
    go_ret
    exact ⟨.no fun h => HOK.out h.1, ((Below.refl w.heap.size w).alloc (Nat.le_refl _) _).trans (hb1.mono (by simp))⟩
  have HOK := Lib.hid hok
  obtain ⟨k, rfl⟩ := Int.eq_ofNat_of_zero_le hok.1.v0
  have hk : k ≤ 13 := by have := hok.1.v1; omega
  clear hok
  by_cases hc : 0 ≤ c ∧ c ≤ 2 ^ k - 1
  case neg =>
    have hd : decide (0 ≤ c ∧ c ≤ 2 ^ k - 1) = false := by simpa using hc
    have HC := Lib.hid hc
    clear hc
    go_enter Try.func18, Try.ntmps18
    go_wp2_with (first
      | (go_at_call 32; refine (bddOk_any k R A cap ns _ (by exact HA.out.below ((Below.refl w.heap.size w).alloc (Nat.le_refl _) _)) hn).mono ?_; rintro e w1 ⟨hs, hb1⟩; obtain rfl := hs.t HOK.out; have BX := Lib.hid ((Blk.new w 28 #[.int .i64 k, .slice A ns.length cap, .int .i64 R]).below hb1 (by simp)); have x0 := BX.out.cell 0; have x1 := BX.out.cell 1; have x2 := BX.out.cell 2; simp only [List.getElem?_toArray, List.getElem?_cons_zero, List.getElem?_cons_succ] at x0 x1 x2; clear hs)
      | (go_at_call 69; rw [last_is k hk]; refine (in_is _ _ _ false hd _).mono ?_; rintro e w2 ⟨rfl, rfl⟩))
    go_ret
    exact ⟨.no fun h => HC.out (by simpa using h.2.1), ((Below.refl w.heap.size w).alloc (Nat.le_refl _) _).trans (hb1.mono (by simp))⟩
  have hd : decide (0 ≤ c ∧ c ≤ 2 ^ k - 1) = true := by simpa using hc
  have HC := Lib.hid hc
  obtain ⟨m, rfl⟩ := Int.eq_ofNat_of_zero_le hc.1
  have hm : m < 9223372036854775808 := by have := hc.2; have := pow_le k hk; omega
  clear hc
  go_enter Try.func18, Try.ntmps18
  go_wp2_with (first
    | (go_at_call 32; refine (bddOk_any k R A cap ns _ (by exact HA.out.below ((Below.refl w.heap.size w).alloc (Nat.le_refl _) _)) hn).mono ?_; rintro e w1 ⟨hs, hb1⟩; obtain rfl := hs.t HOK.out; have BX := Lib.hid ((Blk.new w 28 #[.int .i64 k, .slice A ns.length cap, .int .i64 R]).below hb1 (by simp)); have x0 := BX.out.cell 0; have x1 := BX.out.cell 1; have x2 := BX.out.cell 2; simp only [List.getElem?_toArray, List.getElem?_cons_zero, List.getElem?_cons_succ] at x0 x1 x2; clear hs)
    | (go_at_call 69; rw [last_is k hk]; refine (in_is _ _ _ true hd _).mono ?_; rintro e w2 ⟨rfl, rfl⟩)
    | (go_at_call 70; refine (has_any k R A cap ((k : Int).toNat) ns m _ (by exact HA.out.below (((Below.refl w.heap.size w).alloc (Nat.le_refl _) _).trans (hb1.mono (by simp)))) HOK.out.1.fm (by simp; omega) HOK.out.1.root hm hn).mono ?_; rintro e w3 ⟨rfl, hb3⟩))
  go_ret
  exact ⟨.of ⟨fun h => ⟨HOK.out, by simpa using HC.out, by simpa using h⟩, fun h => by simpa using h.2.2⟩, (((((Below.refl w.heap.size w).alloc (Nat.le_refl _) _).trans (hb1.mono (by simp))) : Below w.heap.size w w1)).trans (hb3.mono (by have := hb1.size; simp at this; omega))⟩
end Go.Proofs.Ytffefegjnbfobaa
