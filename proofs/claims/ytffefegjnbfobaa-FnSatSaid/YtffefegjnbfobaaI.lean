/- The laws' helpers on lists of ints: the same, marked, held. -/
import Derived.Test.YtffefegjnbfobaaK
import Derived.Test.YtffefegjnbfobaaIa
namespace Go.Proofs.Ytffefegjnbfobaa
open Go.RowKit
open B

set_option maxRecDepth 100000 in
theorem eqInts_yes (A B : Option Addr) (cap cap' : Nat) (l : List Int) (w : World) (hA : IAt w A l) (hB : IAt w B l) (hn : l.length ≤ 1048576) :
    Calls Try.prog 139 #[.slice A l.length cap, .slice B l.length cap'] w fun e w' => e = .returned (.bool true) ∧ Below w.heap.size w w' := by
  have HA := Lib.hid hA
  have HB := Lib.hid hB
  clear hA hB
  go_enter Try.func139, Try.ntmps139
  go_wp2_with fail
  go_loopw [5] (fun i wr => ∃ k : Nat, k ≤ l.length ∧ Below w.heap.size w wr ∧ i = .int .i64 k) (fun i _ => l.length - (intOf i).toNat)
  case atStart => exact ⟨0, Nat.zero_le _, Below.refl _ _, rfl⟩
  case round =>
    obtain ⟨k, hk, hbw, rfl⟩ := hrel
    by_cases hlt : k < l.length
    case neg =>
      obtain rfl : k = l.length := by omega
      go_wp2_with fail
      go_ret
      exact ⟨rfl, hbw⟩
    obtain ⟨g, rfl, hg, hc⟩ := (HA.out.below hbw) (by omega)
    obtain ⟨g', rfl, hg', hc'⟩ := (HB.out.below hbw) (by omega)
    have c1 := hc k hlt
    have c2 := hc' k hlt
    clear hc hc'
    generalize l[k] = n at c1 c2
    have e1 : IntKind.i64.wrap ((k : Int) + 1) = (k : Int) + 1 := wrap_eq (by omega) (by omega)
    have hj0 : (0 : Int) ≤ k := by omega
    have hj1 : (k : Int) < (l.length : Int) := by omega
    go_wp2_with fail
    go_quiet (fail)
    go_wp2_with fail
    go_roundw
    case rel => exact ⟨k + 1, by omega, below_drewN hbw _, by go_num⟩
    case measure => simp [intOf]; omega

theorem grown_set (w : World) (a : Addr) (u : Value) : w.grownBy (w.setCell a u) (some a.block) :=
  ⟨rfl, rfl, rfl, by simp, fun k _ hne => Below.heap_setCell w a u k (by intro e; subst e; exact hne rfl)⟩

def marks (m : Int) (n : Nat) : List Int := (List.range n).map fun (i : Nat) => m + (i : Int)
theorem marks_len (m : Int) (n : Nat) : (marks m n).length = n := by simp [marks]

set_option maxRecDepth 100000 in
theorem heldInts_any (A : Option Addr) (cap : Nat) (m : Int) (n : Nat) (w : World) (hA : IAt w A (marks m n)) (hm0 : 0 ≤ m) (hm : m ≤ 1048576) (hn : n ≤ 1048576) :
    Calls Try.prog 141 #[.slice A n cap, .int .i64 m] w fun e w' => e = .returned (.int .i64 (m + n)) ∧ w = w' := by
  have HA := Lib.hid hA
  clear hA
  go_enter Try.func141, Try.ntmps141
  go_wp2_with fail
  go_loop [1, 5] (fun v i => ∃ k : Nat, k ≤ n ∧ v = .int .i64 (m + k) ∧ i = .int .i64 k) (fun _ i => n - (intOf i).toNat)
  case atStart => exact ⟨0, Nat.zero_le _, by simp, rfl⟩
  case round =>
    obtain ⟨k, hk, rfl, rfl⟩ := hrel
    by_cases hlt : k < n
    case neg =>
      obtain rfl : k = n := by omega
      go_wp2_with fail
      go_ret
      exact ⟨rfl, rfl⟩
    obtain ⟨g, rfl, hg, hc⟩ := HA.out (by rw [marks_len]; omega)
    have c1 : w.cell? ⟨g, k, none⟩ = some (.int .i64 (m + k)) := by rw [hc k (by rw [marks_len]; exact hlt)]; simp [marks]
    clear hc
    have e1 : IntKind.i64.wrap ((k : Int) + 1) = (k : Int) + 1 := wrap_eq (by omega) (by omega)
    have e2 : IntKind.i64.wrap (m + (k : Int) + 1) = m + (k : Int) + 1 := wrap_eq (by omega) (by omega)
    have hj0 : (0 : Int) ≤ k := by omega
    have hj1 : (k : Int) < (n : Int) := by omega
    go_wp2_with fail
    go_roundw
    case rel => exact ⟨k + 1, by omega, by go_num, by go_num⟩
    case measure => simp [intOf]; omega

set_option maxRecDepth 100000 in
theorem markInts_any (base : Nat) (A : Option Addr) (cap : Nat) (l : List Int) (m : Int) (w : World) (hA : w.ownsRow base 3 1 (.slice A l.length cap) l.length (l.map (.int .i64))) (hm0 : 0 ≤ m) (hm : m ≤ 1048576) (hn : l.length ≤ 1048576) :
    Calls Try.prog 140 #[.slice A l.length cap, .int .i64 m] w fun e w' => e = .returned (.int .i64 (m + l.length)) ∧ w'.ownsRow base 3 1 (.slice A l.length cap) l.length ((marks m l.length).map (.int .i64)) ∧ w.grownBy w' (Value.slice A l.length cap).ownBlock := by
  have HA := Lib.hid hA
  clear hA
  go_enter Try.func140, Try.ntmps140
  go_wp2_with fail
  go_loopw [1, 5] (fun v i wr => ∃ (k : Nat) (l' : List Int), k ≤ l.length ∧ l'.length = l.length ∧ Hid (l'.take k = marks m k) ∧ Hid (wr.ownsRow base 3 1 (.slice A l.length cap) l.length (l'.map (.int .i64))) ∧ Hid (w.grownBy wr (Value.slice A l.length cap).ownBlock) ∧ v = .int .i64 (m + k) ∧ i = .int .i64 k) (fun _ i _ => l.length - (intOf i).toNat)
  case atStart => exact ⟨0, l, Nat.zero_le _, rfl, rfl, HA.out, World.grownBy.refl _ _, by simp, rfl⟩
  case round =>
    obtain ⟨k, l', hk, hl', hpre, ho, hg, rfl, rfl⟩ := hrel
    by_cases hlt : k < l.length
    case neg =>
      obtain rfl : k = l.length := by omega
      go_wp2_with fail
      go_ret
      have e : l' = marks m l.length := by have := hpre.out; rw [← hl', List.take_length] at this; rw [this, hl']
      subst e
      exact ⟨rfl, ho.out, hg.out⟩
    have ho1 : wr.ownsRow base 3 1 (.slice A l'.length cap) l'.length (l'.map (.int .i64)) := by rw [hl']; exact ho.out
    obtain ⟨g, rfl, hgl, hbg, hc⟩ := own_int ho1 (k := k) (by omega)
    have hfz : wr.frozen? ⟨g, k, none⟩ = false := ho.out.frozenAt k
    clear ho1
    generalize l'[k] = x at hc
    have e1 : IntKind.i64.wrap ((k : Int) + 1) = (k : Int) + 1 := wrap_eq (by omega) (by omega)
    have e2 : IntKind.i64.wrap (m + (k : Int) + 1) = m + (k : Int) + 1 := wrap_eq (by omega) (by omega)
    have hj0 : (0 : Int) ≤ k := by omega
    have hj1 : (k : Int) < (l.length : Int) := by omega
    go_wp2_with fail
    go_roundw
    case rel =>
      refine ⟨k + 1, l'.set k (m + k), by omega, by simpa using hl', ?_, ?_, ?_, by go_num, by go_num⟩
      · show (l'.set k (m + k)).take (k + 1) = marks m (k + 1)
        rw [List.take_add_one, List.take_set_of_le (Nat.le_refl _), hpre.out, List.getElem?_set_self (by omega)]
        simp [marks, List.range_succ]
      · show World.ownsRow _ _ _ _ _ _ _
        rw [List.map_set]
        exact (ho.out.stored k _).1
      · exact hg.out.trans (grown_set _ ⟨g, k, none⟩ _)
    case measure => simp [intOf]; omega
end Go.Proofs.Ytffefegjnbfobaa
