/- BddFrom, spec and impl, walked. -/
import Derived.Test.YtffefegjnbfobaaIa
import Derived.Test.YtffefegjnbfobaaQ4
import Derived.Test.YtffefegjnbfobaaH3
namespace Go.Proofs.Ytffefegjnbfobaa
open Go.RowKit
open B

/-- A list that BddFrom takes. -/
def FromP (V : Int) (l : List Int) : Prop := 0 ≤ V ∧ V ≤ 13 ∧ l.length ≤ 256 ∧ ∀ x, x ∈ l → 0 ≤ x ∧ x ≤ 2 ^ V.toNat - 1
/-- What is in a list. -/
def memF (l : List Int) (c : Nat) : Bool := decide ((c : Int) ∈ l)

theorem all_take {p : Int → Prop} {l : List Int} {k : Nat} (h : ∀ x, x ∈ l.take k → p x) (hk : k < l.length) (hx : p l[k]) : ∀ x, x ∈ l.take (k + 1) → p x := by
  intro x hx'
  rw [List.take_succ_eq_append_getElem hk, List.mem_append, List.mem_singleton] at hx'
  rcases hx' with h1 | h1
  · exact h x h1
  · subst h1; exact hx
theorem memF_put {l : List Int} {k c N : Nat} (hk : k < l.length) (hc : l[k] = (c : Int)) (g : Bool → Value) :
    (rowF (fun i => g (memF (l.take k) i)) N).setIfInBounds c (g true) = rowF (fun i => g (memF (l.take (k + 1)) i)) N := by
  rw [rowF_set]
  refine rowF_congr fun i _ => ?_
  unfold memF
  rw [List.take_succ_eq_append_getElem hk, hc]
  by_cases e : i = c
  · subst e; simp
  · have : ¬ (i : Int) = (c : Int) := by omega
    simp [e, this]

set_option maxRecDepth 100000 in
set_option maxHeartbeats 400000 in
theorem below_any (A : Option Addr) (cap K : Nat) (l : List Int) (w : World) (hA : IAt w A l) (hn : l.length ≤ 1048576) (hK : K ≤ 13) :
    Calls Try.prog 63 #[.slice A l.length cap, .int .i64 (K : Int)] w fun e w' => Says (∀ x, x ∈ l → 0 ≤ x ∧ x ≤ 2 ^ K - 1) e ∧ w = w' := by
  obtain ⟨P, hP⟩ : ∃ P, P = 2 ^ K := ⟨_, rfl⟩
  have hP8 : P ≤ 8192 := by rw [hP]; exact Nat.pow_le_pow_right (n := 2) (j := 13) (by omega) hK
  have eP : wrap64 (2 ^ K) = (P : Int) := by
    have : ((2 : Int) ^ K) = ((2 ^ K : Nat) : Int) := by simp
    rw [this, ← hP]; unfold wrap64; omega
  have hPI : ((2 : Int) ^ K) = (P : Int) := by rw [hP]; simp
  rw [hPI]
  have EP := Lib.hid eP
  clear eP hP hPI
  go_enter Try.func63, Try.ntmps63
  go_wp2_with fail
  go_loop [9] (fun i => ∃ k : Nat, k ≤ l.length ∧ Hid (∀ x, x ∈ l.take k → 0 ≤ x ∧ x ≤ (P : Int) - 1) ∧ i = .int .i64 k) (fun i => l.length - (intOf i).toNat)
  case atStart => exact ⟨0, Nat.zero_le _, fun x h => absurd h (by simp), rfl⟩
  case round =>
    obtain ⟨k, hk, hall, rfl⟩ := hrel
    by_cases hlt : k < l.length
    case neg =>
      obtain rfl : k = l.length := by omega
      have hall' := hall.out
      rw [List.take_length] at hall'
      have HALL := Lib.hid hall'
      clear hall hall'
      go_wp2_with fail
      go_ret
      exact ⟨.yes HALL.out, rfl⟩
    obtain ⟨g, rfl, hg, hc⟩ := hA (by omega)
    have c1 := hc k hlt
    have HM := Lib.hid (List.getElem_mem hlt)
    have HT := Lib.hid (fun h => all_take hall.out hlt h)
    clear hc hA
    generalize l[k] = x at c1 HM HT
    have hj0 : (0 : Int) ≤ k := by omega
    have hj1 : (k : Int) < (l.length : Int) := by omega
    by_cases hx : 0 ≤ x ∧ x ≤ (P : Int) - 1
    · have hd : decide (0 ≤ x ∧ x ≤ (P : Int) - 1) = true := by simpa using hx
      have HX := Lib.hid hx
      clear hx
      have eP := EP.out
      go_wp2_with (go_at_call 69; refine (in_is _ _ _ true (by exact hd) _).mono ?_; rintro e w' ⟨rfl, rfl⟩)
      go_round
      case rel => exact ⟨k + 1, by omega, HT.out HX.out, by go_num⟩
      case measure => clear eP; simp [intOf]; omega
    · have hd : decide (0 ≤ x ∧ x ≤ (P : Int) - 1) = false := by simpa using hx
      have HX := Lib.hid hx
      clear hx
      have eP := EP.out
      go_wp2_with (go_at_call 69; refine (in_is _ _ _ false (by exact hd) _).mono ?_; rintro e w' ⟨rfl, rfl⟩)
      go_ret
      exact ⟨.no (fun h => HX.out (h x HM.out)), rfl⟩
end Go.Proofs.Ytffefegjnbfobaa
