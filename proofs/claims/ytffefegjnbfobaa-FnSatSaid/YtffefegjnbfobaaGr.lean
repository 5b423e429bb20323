/- More bits change nothing: the plain law. -/
import Derived.Test.YtffefegjnbfobaaBdd
import Derived.Test.YtffefegjnbfobaaK
namespace Go.Proofs.Ytffefegjnbfobaa
open Go.RowKit
open B

/-- Only the bits that there are count. -/
theorem has_low {vars : Nat} {ns : List Nd} (h : Fm vars ns) : ∀ (f : Nat) (p : Int), p.toNat ≤ f → isP ns p → ∀ c d : Nat, (∀ i, i < vars → c.testBit i = d.testBit i) → has ns p c = has ns p d := by
  intro f
  induction f with
  | zero => intro p hp hP c d _; rw [has_small _ _ _ (by omega), has_small _ _ _ (by omega)]
  | succ f ih =>
    intro p hp hP c d hcd
    by_cases h1 : p ≤ 1
    · rw [has_small _ _ _ h1, has_small _ _ _ h1]
    · have h1' : 1 < p := by omega
      have hv := vr_lt h h1' hP.2
      rw [vr_node _ _ h1'] at hv
      obtain ⟨hl, hl2⟩ := isP_lo h h1' hP.2
      obtain ⟨hh, hh2⟩ := isP_hi h h1' hP.2
      have hb := hcd _ hv
      cases hc : c.testBit (nd ns p).v.toNat with
      | true => rw [has_hi h h1' hP.2 hc, has_hi h h1' hP.2 (by rw [← hb]; exact hc)]; exact ih _ (by omega) hh c d hcd
      | false => rw [has_lo h h1' hP.2 hc, has_lo h h1' hP.2 (by rw [← hb]; exact hc)]; exact ih _ (by omega) hl c d hcd
theorem has_mod {vars : Nat} {ns : List Nd} (h : Fm vars ns) {p : Int} (hP : isP ns p) (c : Nat) : has ns p c = has ns p (c % 2 ^ vars) :=
  has_low h _ p (Nat.le_refl _) hP _ _ fun i hi => by rw [Nat.testBit_mod_two_pow]; simp [hi]

theorem codesF_add (h : Nat → Bool) (a b : Nat) : (codesF h (a + b)).length = (codesF h a).length + (codesF (fun c => h (a + c)) b).length := by
  unfold codesF
  rw [List.range_add, List.filter_append, List.map_append, List.length_append]
  congr 1
  rw [List.length_map, List.length_map, List.filter_map, List.length_map]
  rfl
theorem codesF_congr {h h' : Nat → Bool} {n : Nat} (e : ∀ c, c < n → h c = h' c) : codesF h n = codesF h' n := by
  unfold codesF
  congr 1
  exact List.filter_congr fun c hc => e c (by simpa using hc)
theorem codesF_mul (h : Nat → Bool) (N : Nat) (hp : ∀ c, h c = h (c % N)) : ∀ M, (codesF h (N * M)).length = (codesF h N).length * M := by
  intro M
  induction M with
  | zero => simp [codesF]
  | succ M ih =>
    rw [Nat.mul_succ, codesF_add, ih, Nat.mul_succ]
    congr 2
    refine codesF_congr fun c hc => ?_
    rw [hp (N * M + c), Nat.mul_add_mod, ← hp]

/-- The numbers of a set of more bits are so many times as many. -/
theorem grow_count {V v R : Int} {ms : List Nd} (h : OkI V ms R) (h1 : V ≤ v) : (codesF (has ms R) (2 ^ v.toNat)).length = (codesF (has ms R) (2 ^ V.toNat)).length * 2 ^ (v - V).toNat := by
  obtain ⟨d, hd⟩ : ∃ d, v.toNat = V.toNat + d := ⟨v.toNat - V.toNat, by omega⟩
  have hv := h.1.v0
  have e : (v - V).toNat = d := by omega
  rw [hd, Nat.pow_add, e]
  exact codesF_mul _ _ (fun c => has_mod h.1.fm h.1.root c) _
/-- The grown set is ok, and has the numbers whose low bits are in the set. -/
theorem grow_is {V v R : Int} {ms : List Nd} (h : OkI V ms R) (h1 : V ≤ v) (h2 : v ≤ 13) : mk v.toNat 0 (has ms R) [] = (R, ms) ∧ OkI v ms R :=
  have := (okS_iff v ms R).1 (grow_ok ((okS_iff V ms R).2 h) h1 h2)
  ⟨this.2, this⟩
end Go.Proofs.Ytffefegjnbfobaa
