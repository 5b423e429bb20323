/- The law FnExactBddLeast, walked. -/
import Derived.Test.YtjbmapfgoclpiaaM
namespace Go.Proofs.Ytjbmapfgoclpiaa
open Go.RowKit
open B

set_option maxRecDepth 100000 in
set_option maxHeartbeats 400000 in
theorem fnExactBddLeast_law (V R : Int) (A : Option Addr) (cap : Nat) (ns : List Nd) (w : World) (hA : NAt w A ns) (hn : ns.length ≤ 9223372036854775807) :
    Calls Try.prog 6 #[.agg #[.int .i64 V, .slice A ns.length cap, .int .i64 R]] w fun e w' => e = .returned (.bool true) ∧ Below w.heap.size w w' := by
  have HA := Lib.hid hA
  clear hA
  by_cases hl : (1048576 : Int) < ns.length
  · have e1 : leftOf ns.length 1048576 = -1 := if_pos hl
    go_enter Try.func6, Try.ntmps6
    go_wp2_with (go_at_call 8; refine (szBdd_is V R A cap ns.length 1048576 _ (by omega) (by omega) hn).mono ?_; rw [e1]; rintro e w1 ⟨rfl, hb1⟩)
    go_ret
    exact ⟨rfl, ((Below.refl w.heap.size w).alloc (Nat.le_refl _) _).trans (hb1.mono (by simp))⟩
  have e1 : leftOf ns.length 1048576 = 1048576 - ns.length := if_neg hl
  have hn' : ns.length ≤ 1048576 := by omega
  have e2 : ¬ ((1048576 : Int) - ns.length < 0) := by omega
  go_enter Try.func6, Try.ntmps6
  go_wp2_with (first
    | (go_at_call 8; refine (szBdd_is V R A cap ns.length 1048576 _ (by omega) (by omega) hn).mono ?_; rw [e1]; rintro e w1 ⟨rfl, hb1⟩; have HB1 : Below w.heap.size w w1 := ((Below.refl w.heap.size w).alloc (Nat.le_refl _) _).trans (hb1.mono (by simp)); have BX1 : Hid (Blk w1 w.heap.size 24 #[.int .i64 V, .slice A ns.length cap, .int .i64 R]) := (Blk.new w _ _).below hb1 (by simp); obtain ⟨x0, x1, x2⟩ := BX1.out.three)
    | (go_at_call 10; refine (toBdd_any V R A cap ns _ (by exact HA.out.below HB1) hn').mono ?_; rintro e w2 ⟨g2, hg2, rfl, hP2, hb2⟩; have HB2 : Below w.heap.size w w2 := HB1.trans (hb2.mono HB1.size); have BX2 := Lib.hid (BX1.out.below hb2 BX1.out.lt); have P2 := Lib.hid hP2; clear hP2)
    | (go_at_call 17; refine (specLeast_any V R _ _ ns _ (by exact P2.out.nat) hn').mono ?_; rintro e w3 ⟨hs, hb3⟩; obtain ⟨bb, rfl, HBB⟩ := hs.is; have HB3 : Below w.heap.size w w3 := HB2.trans (hb3.mono HB2.size); have BX3 := Lib.hid (BX2.out.below hb3 BX2.out.lt); obtain ⟨y0, y1, y2⟩ := BX3.out.three; clear hs)
    | (go_at_call 10; refine (toBdd_any V R A cap ns _ (by exact HA.out.below HB3) hn').mono ?_; rintro e w4 ⟨g4, hg4, rfl, hP4, hb4⟩; have HB4 : Below w.heap.size w w4 := HB3.trans (hb4.mono HB3.size); have BX4 := Lib.hid (BX3.out.below hb4 BX3.out.lt); have P4 := Lib.hid hP4; clear hP4)
    | (go_at_call 18; refine (implLeast_any V R _ _ ns _ (by exact (P4.out.below ((Below.refl w4.heap.size w4).alloc (Nat.le_refl _) _) P4.out.lt).nat) hn').mono ?_; rintro e w5 ⟨hs, hb5⟩; obtain rfl := hs.same HBB.out (okS_iff V ns R).symm; have HB5 : Below w.heap.size w w5 := (HB4.alloc HB4.size _).trans (hb5.mono (by simp; have := HB4.size; omega)); have BX5 := Lib.hid ((BX4.out.alloc _).below hb5 (by simp; have := BX4.out.lt; omega)); have BY5 := Lib.hid ((Blk.new w4 _ _).below hb5 (by simp)); have P5 := Lib.hid ((P4.out.below ((Below.refl w4.heap.size w4).alloc (Nat.le_refl _) _) P4.out.lt).below hb5 (by simp; have := P4.out.lt; omega)); obtain ⟨u0, u1, u2⟩ := BX5.out.three; obtain ⟨v0, v1, v2⟩ := BY5.out.three; clear hs))
  go_region_with (first
    | (go_at_call 10; refine (toBdd_any V R A cap ns _ (by exact HA.out.below HB5.drew) hn').mono ?_; rintro e w6 ⟨g6, hg6, rfl, hP6, hb6⟩; have HB6 : Below w.heap.size w w6 := HB5.drew.trans (hb6.mono HB5.size); have P6 := Lib.hid hP6; have P56 := Lib.hid (P5.out.below ((Below.refl w5.heap.size w5).drew.trans hb6) P5.out.lt); have BY6 := Lib.hid (BY5.out.below ((Below.refl w5.heap.size w5).drew.trans hb6) BY5.out.lt); obtain ⟨z0, z1, z2⟩ := BY6.out.three; clear hP6)
    | (go_at_call 12; refine (eqBdd_yes V R _ _ _ _ ns _ (by exact P56.out.nat) (by exact P6.out.nat) hn').mono ?_; rintro e w7 ⟨rfl, hb7⟩; have HB7 : Below w.heap.size w w7 := HB6.trans (hb7.mono HB6.size)))
  all_goals
    go_wp2_with fail
    go_ret
    exact ⟨rfl, HB7⟩
end Go.Proofs.Ytjbmapfgoclpiaa
