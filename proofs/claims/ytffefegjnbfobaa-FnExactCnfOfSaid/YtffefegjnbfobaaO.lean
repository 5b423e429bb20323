/- A diagram's nodes marked. -/
import Derived.Test.YtffefegjnbfobaaG
import Derived.Test.YtffefegjnbfobaaI
namespace Go.Proofs.Ytffefegjnbfobaa
open Go.RowKit
open B

set_option maxRecDepth 100000 in
set_option maxHeartbeats 400000 in
theorem markNodes_any (g cap : Nat) (ns : List Nd) (m : Int) (w : World) (hP : Part w g ns ns.length) (hm0 : 0 ≤ m) (hm : m ≤ 16777216) (hn : ns.length ≤ 1048576) :
    Calls Try.prog 103 #[.slice (some ⟨g, 0, none⟩) ns.length cap, .int .i64 m] w fun e w' => e = .returned (.int .i64 (m + 3 * (ns.length : Int))) ∧ w.grownBy w' (some g) := by
  obtain ⟨cs0, hbl0, hsz0, -⟩ := hP
  have HBL0 := Lib.hid hbl0
  clear hbl0
  go_enter Try.func103, Try.ntmps103
  go_wp2_with fail
  go_loopw [1, 5] (fun v i wr => ∃ (k : Nat) (cs : Array Value), k ≤ ns.length ∧ cs.size = ns.length * 3 ∧ Hid (Blk wr g 89 cs) ∧ Hid (w.grownBy wr (some g)) ∧ v = .int .i64 (m + 3 * (k : Int)) ∧ i = .int .i64 k) (fun _ i _ => ns.length - (intOf i).toNat)
  case atStart => exact ⟨0, cs0, Nat.zero_le _, hsz0, HBL0.out, World.grownBy.refl _ _, by simp, rfl⟩
  case round =>
    obtain ⟨k, cs, hk, hsz, hbl, hg, rfl, rfl⟩ := hrel
    by_cases hlt : k < ns.length
    case neg =>
      obtain rfl : k = ns.length := by omega
      go_wp2_with fail
      go_ret
      exact ⟨rfl, hg.out⟩
    have k0 : cs[k * 3]? = some cs[k * 3] := Array.getElem?_eq_getElem (by omega)
    have k1 : cs[k * 3 + 1]? = some cs[k * 3 + 1] := Array.getElem?_eq_getElem (by omega)
    have k2 : cs[k * 3 + 2]? = some cs[k * 3 + 2] := Array.getElem?_eq_getElem (by omega)
    generalize hx0 : cs[k * 3] = x0 at k0
    generalize hx1 : cs[k * 3 + 1] = x1 at k1
    generalize hx2 : cs[k * 3 + 2] = x2 at k2
    have f0 := hbl.out.frozen (k * 3)
    have g0 := (hbl.out.cell (k * 3)).trans k0
    have B1 := Lib.hid (hbl.out.set_ (k * 3) (.int .i64 (m + 3 * (k : Int))))
    have f1 := B1.out.frozen (k * 3 + 1)
    have g1 := (B1.out.cell (k * 3 + 1)).trans ((Array.getElem?_setIfInBounds_ne (by omega)).trans k1)
    have B2 := Lib.hid (B1.out.set_ (k * 3 + 1) (.int .i64 (m + 3 * (k : Int) + 1)))
    have f2 := B2.out.frozen (k * 3 + 2)
    have g2 := (B2.out.cell (k * 3 + 2)).trans ((Array.getElem?_setIfInBounds_ne (by omega)).trans ((Array.getElem?_setIfInBounds_ne (by omega)).trans k2))
    have B3 := Lib.hid (B2.out.set_ (k * 3 + 2) (.int .i64 (m + 3 * (k : Int) + 1 + 1)))
    clear k0 k1 k2 hx0 hx1 hx2
    have e1 : IntKind.i64.wrap ((k : Int) + 1) = (k : Int) + 1 := wrap_eq (by omega) (by omega)
    have hj0 : (0 : Int) ≤ k := by omega
    have hj1 : (k : Int) < (ns.length : Int) := by omega
    go_wp2_with fail
    go_roundw
    case rel =>
      refine ⟨k + 1, _, by omega, ?_, B3.out, ?_, by go_num, by go_num⟩
      · simpa using hsz
      · exact ((hg.out.trans (grown_set _ ⟨g, _, none⟩ _)).trans (grown_set _ ⟨g, _, none⟩ _)).trans (grown_set _ ⟨g, _, none⟩ _)
    case measure => simp [intOf]; omega

theorem markBdd_any (V R : Int) (g cap : Nat) (ns : List Nd) (m : Int) (w : World) (hP : Part w g ns ns.length) (hm0 : 0 ≤ m) (hm : m ≤ 16777216) (hn : ns.length ≤ 1048576) :
    Calls Try.prog 48 #[.agg #[.int .i64 V, .slice (some ⟨g, 0, none⟩) ns.length cap, .int .i64 R], .int .i64 m] w fun e w' => e = .returned (.int .i64 (m + 3 * (ns.length : Int))) ∧ w.grownBy w' (some g) := by
  have hlt := hP.lt
  have HP := Lib.hid (hP.below ((Below.refl w.heap.size w).alloc (Nat.le_refl _) (.cells #[.int .i64 V, .slice (some ⟨g, 0, none⟩) ns.length cap, .int .i64 R] 28)) hlt)
  clear hP
  go_enter Try.func48, Try.ntmps48
  go_wp2_with (go_at_call 103; refine (markNodes_any g cap ns m _ (by exact HP.out) hm0 hm hn).mono ?_; rintro e w1 ⟨rfl, hg1⟩)
  go_ret
  exact ⟨rfl, (World.grownBy_alloc _ _ _).trans hg1⟩
end Go.Proofs.Ytffefegjnbfobaa
