/- A set is its numbers: the plain law. -/
import Derived.Test.YtffefegjnbfobaaFr
import Derived.Test.YtffefegjnbfobaaMI
import Derived.Test.YtffefegjnbfobaaJI
import Derived.Test.YtffefegjnbfobaaGr
namespace Go.Proofs.Ytffefegjnbfobaa
open Go.RowKit
open B

theorem mem_codesF {h : Nat → Bool} {N : Nat} {x : Int} : x ∈ codesF h N ↔ ∃ c : Nat, x = c ∧ c < N ∧ h c = true := by
  unfold codesF
  rw [List.mem_map]
  constructor
  · rintro ⟨c, hc, rfl⟩
    rw [List.mem_filter, List.mem_range] at hc
    exact ⟨c, rfl, hc.1, hc.2⟩
  · rintro ⟨c, rfl, h1, h2⟩
    exact ⟨c, by rw [List.mem_filter, List.mem_range]; exact ⟨h1, h2⟩, rfl⟩
theorem codes_one (x : Int) : ∀ N : Nat, (codesF (fun c => decide ((c : Int) = x)) N).length ≤ 1 ∧ (x < 0 ∨ (N : Int) ≤ x → (codesF (fun c => decide ((c : Int) = x)) N).length = 0) := by
  intro N
  induction N with
  | zero => simp [codesF]
  | succ N ih =>
    by_cases h : (N : Int) = x
    · rw [codesF_yes (by simpa using h), List.length_append, List.length_singleton]
      have := ih.2 (.inr (by omega))
      exact ⟨by omega, fun h' => by omega⟩
    · rw [codesF_no (by simpa using h)]
      exact ⟨ih.1, fun h' => ih.2 (by omega)⟩
theorem codes_or (f g : Nat → Bool) (N : Nat) : (codesF (fun c => f c || g c) N).length ≤ (codesF f N).length + (codesF g N).length := by
  unfold codesF
  simp only [List.length_map]
  induction N with
  | zero => simp
  | succ n ih =>
    simp only [List.range_succ, List.filter_append, List.length_append]
    cases hf : f n <;> cases hg : g n <;> simp [hf, hg] <;> omega
theorem codes_mem (l : List Int) (N : Nat) : (codesF (memF l) N).length ≤ l.length := by
  induction l with
  | nil =>
    have : codesF (memF []) N = [] := by
      unfold codesF
      rw [List.filter_eq_nil_iff.2 (fun c _ => by simp [memF])]
      rfl
    rw [this]; simp
  | cons x l ih =>
    have e : codesF (memF (x :: l)) N = codesF (fun c => decide ((c : Int) = x) || memF l c) N := codesF_congr fun c _ => by
      unfold memF
      by_cases h : (c : Int) = x <;> simp [h]
    rw [e]
    have h1 := codes_or (fun c => decide ((c : Int) = x)) (memF l) N
    have h2 := (codes_one x N).1
    simp only [List.length_cons]
    omega
theorem codes_asc (h : Nat → Bool) (N : Nat) : (codesF h N).Pairwise (· < ·) := by
  unfold codesF
  rw [List.pairwise_map]
  exact (List.pairwise_lt_range.filter _).imp fun h => by omega
theorem codes_back {l : List Int} {K : Nat} (hl : ∀ x, x ∈ l → 0 ≤ x ∧ x ≤ 2 ^ K - 1) : (∀ c, c < 2 ^ K → memF (codesF (memF l) (2 ^ K)) c = memF l c) ∧ (codesF (memF l) (2 ^ K) = [] ↔ l = []) := by
  have e : ((2 : Int) ^ K) = ((2 ^ K : Nat) : Int) := by simp
  constructor
  · intro c hc
    unfold memF
    rw [decide_eq_decide, mem_codesF]
    constructor
    · rintro ⟨d, hd, _, h⟩
      have hcd : c = d := by omega
      subst hcd
      simpa using h
    · intro h
      exact ⟨c, rfl, hc, by simpa using h⟩
  · constructor
    · intro h
      refine List.eq_nil_iff_forall_not_mem.2 fun x hx => ?_
      have hr := hl x hx
      rw [e] at hr
      obtain ⟨c, rfl⟩ := Int.eq_ofNat_of_zero_le hr.1
      have : ((c : Nat) : Int) ∈ codesF (memF l) (2 ^ K) := mem_codesF.2 ⟨c, rfl, by omega, by unfold memF; simpa using hx⟩
      rw [h] at this
      simp at this
    · intro h
      subst h
      refine List.eq_nil_iff_forall_not_mem.2 fun x hx => ?_
      obtain ⟨c, _, _, h⟩ := mem_codesF.1 hx
      simp [memF] at h
end Go.Proofs.Ytffefegjnbfobaa
