/- A diagram's nodes marked and held. -/
import Derived.Test.YtffefegjnbfobaaO
namespace Go.Proofs.Ytffefegjnbfobaa
open Go.RowKit
open B

def markNds (m : Int) (n : Nat) : List Nd := (List.range n).map fun (k : Nat) => ⟨m + 3 * (k : Int), m + 3 * (k : Int) + 1, m + 3 * (k : Int) + 1 + 1⟩
theorem markNds_len (m : Int) (n : Nat) : (markNds m n).length = n := by simp [markNds]
theorem markNds_get {m : Int} {n k : Nat} (h : k < n) : (markNds m n)[k]? = some ⟨m + 3 * (k : Int), m + 3 * (k : Int) + 1, m + 3 * (k : Int) + 1 + 1⟩ := by simp [markNds, h]

set_option maxRecDepth 100000 in
set_option maxHeartbeats 400000 in
theorem heldNodes_any (A : Option Addr) (cap : Nat) (m : Int) (n : Nat) (w : World) (hA : NAt w A (markNds m n)) (hm0 : 0 ≤ m) (hm : m ≤ 16777216) (hn : n ≤ 1048576) :
    Calls Try.prog 104 #[.slice A n cap, .int .i64 m] w fun e w' => e = .returned (.int .i64 (m + 3 * (n : Int))) ∧ w = w' := by
  have HA := Lib.hid hA
  clear hA
  go_enter Try.func104, Try.ntmps104
  go_wp2_with fail
  go_loop [1, 5] (fun v i => ∃ k : Nat, k ≤ n ∧ v = .int .i64 (m + 3 * (k : Int)) ∧ i = .int .i64 k) (fun _ i => n - (intOf i).toNat)
  case atStart => exact ⟨0, Nat.zero_le _, by simp, rfl⟩
  case round =>
    obtain ⟨k, hk, rfl, rfl⟩ := hrel
    by_cases hlt : k < n
    case neg =>
      obtain rfl : k = n := by omega
      go_wp2_with fail
      go_ret
      exact ⟨rfl, rfl⟩
    obtain ⟨b, off, rfl, hb, hc⟩ := HA.out (by rw [markNds_len]; omega)
    obtain ⟨c1, c2, c3⟩ := hc k _ (markNds_get hlt)
    clear hc
    have e1 : IntKind.i64.wrap ((k : Int) + 1) = (k : Int) + 1 := wrap_eq (by omega) (by omega)
    have hj0 : (0 : Int) ≤ k := by omega
    have hj1 : (k : Int) < (n : Int) := by omega
    go_wp2_with fail
    go_roundw
    case rel => exact ⟨k + 1, by omega, by go_num, by go_num⟩
    case measure => simp [intOf]; omega

set_option maxRecDepth 100000 in
set_option maxHeartbeats 400000 in
/-- .. marked: the nodes are the marks. -/
theorem markNodes_part (g cap : Nat) (ns : List Nd) (m : Int) (w : World) (hP : Part w g ns ns.length) (hm0 : 0 ≤ m) (hm : m ≤ 16777216) (hn : ns.length ≤ 1048576) :
    Calls Try.prog 103 #[.slice (some ⟨g, 0, none⟩) ns.length cap, .int .i64 m] w fun e w' => e = .returned (.int .i64 (m + 3 * (ns.length : Int))) ∧ w.grownBy w' (some g) ∧ Part w' g (markNds m ns.length) ns.length := by
  obtain ⟨cs0, hbl0, hsz0, -⟩ := hP
  have HBL0 := Lib.hid hbl0
  clear hbl0
  go_enter Try.func103, Try.ntmps103
  go_wp2_with fail
  go_loopw [1, 5] (fun v i wr => ∃ (k : Nat) (cs : Array Value), k ≤ ns.length ∧ cs.size = ns.length * 3 ∧ Hid (Blk wr g 89 cs) ∧ Hid (∀ (j : Nat) (n : Nd), j < k → (markNds m ns.length)[j]? = some n → cs[j * 3]? = some (.int .i64 n.v) ∧ cs[j * 3 + 1]? = some (.int .i64 n.lo) ∧ cs[j * 3 + 2]? = some (.int .i64 n.hi)) ∧ Hid (w.grownBy wr (some g)) ∧ v = .int .i64 (m + 3 * (k : Int)) ∧ i = .int .i64 k) (fun _ i _ => ns.length - (intOf i).toNat)
  case atStart => exact ⟨0, cs0, Nat.zero_le _, hsz0, HBL0.out, fun j n hj => absurd hj (Nat.not_lt_zero _), World.grownBy.refl _ _, by simp, rfl⟩
  case round =>
    obtain ⟨k, cs, hk, hsz, hbl, hcs, hg, rfl, rfl⟩ := hrel
    by_cases hlt : k < ns.length
    case neg =>
      obtain rfl : k = ns.length := by omega
      go_wp2_with fail
      go_ret
      exact ⟨rfl, hg.out, cs, hbl.out, by rw [markNds_len]; exact hsz, hcs.out⟩
    have k0 : cs[k * 3]? = some cs[k * 3] := Array.getElem?_eq_getElem (by omega)
    have k1 : cs[k * 3 + 1]? = some cs[k * 3 + 1] := Array.getElem?_eq_getElem (by omega)
    have k2 : cs[k * 3 + 2]? = some cs[k * 3 + 2] := Array.getElem?_eq_getElem (by omega)
    generalize hx0 : cs[k * 3] = x0 at k0
    generalize hx1 : cs[k * 3 + 1] = x1 at k1
    generalize hx2 : cs[k * 3 + 2] = x2 at k2
    have f0 := hbl.out.frozen (k * 3)
    have g0 := (hbl.out.cell (k * 3)).trans k0
    have B1 := Lib.hid (hbl.out.set_ (k * 3) (.int .i64 (m + 3 * (k : Int))))
    have f1 := B1.out.frozen (k * 3 + 1)
    have g1 := (B1.out.cell (k * 3 + 1)).trans ((Array.getElem?_setIfInBounds_ne (by omega)).trans k1)
    have B2 := Lib.hid (B1.out.set_ (k * 3 + 1) (.int .i64 (m + 3 * (k : Int) + 1)))
    have f2 := B2.out.frozen (k * 3 + 2)
    have g2 := (B2.out.cell (k * 3 + 2)).trans ((Array.getElem?_setIfInBounds_ne (by omega)).trans ((Array.getElem?_setIfInBounds_ne (by omega)).trans k2))
    have B3 := Lib.hid (B2.out.set_ (k * 3 + 2) (.int .i64 (m + 3 * (k : Int) + 1 + 1)))
    clear k0 k1 k2 hx0 hx1 hx2
    have e1 : IntKind.i64.wrap ((k : Int) + 1) = (k : Int) + 1 := wrap_eq (by omega) (by omega)
    have hj0 : (0 : Int) ≤ k := by omega
    have hj1 : (k : Int) < (ns.length : Int) := by omega
    go_wp2_with fail
    go_roundw
    case rel =>
      refine ⟨k + 1, _, by omega, ?_, B3.out, ?_, ?_, by go_num, by go_num⟩
      · simpa using hsz
      · intro j n hj hn'
        by_cases e : j = k
        · subst e
          rw [markNds_get hlt] at hn'
          injection hn' with hn'
          subst hn'
          simp [Array.getElem?_setIfInBounds, hsz]
          omega
        · obtain ⟨q0, q1, q2⟩ := hcs.out j n (by omega) hn'
          refine ⟨?_, ?_, ?_⟩
          · rw [Array.getElem?_setIfInBounds_ne (by omega), Array.getElem?_setIfInBounds_ne (by omega), Array.getElem?_setIfInBounds_ne (by omega)]; exact q0
          · rw [Array.getElem?_setIfInBounds_ne (by omega), Array.getElem?_setIfInBounds_ne (by omega), Array.getElem?_setIfInBounds_ne (by omega)]; exact q1
          · rw [Array.getElem?_setIfInBounds_ne (by omega), Array.getElem?_setIfInBounds_ne (by omega), Array.getElem?_setIfInBounds_ne (by omega)]; exact q2
      · exact ((hg.out.trans (grown_set _ ⟨g, _, none⟩ _)).trans (grown_set _ ⟨g, _, none⟩ _)).trans (grown_set _ ⟨g, _, none⟩ _)
    case measure => simp [intOf]; omega
end Go.Proofs.Ytffefegjnbfobaa
