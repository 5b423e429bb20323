/- A set is its clauses: plain. -/
import Derived.Test.YtffefegjnbfobaaXc
import Derived.Test.YtffefegjnbfobaaWc
namespace Go.Proofs.Ytffefegjnbfobaa
open Go.RowKit
open B

theorem wayF_mono (ns : List Nd) : ∀ (f : Nat) (p : Int) (l : List Int) (out : List (List Int)), out.length ≤ (wayF ns f p l out).length := by
  intro f
  induction f with
  | zero => intro p l out; simp only [wayF]; split <;> simp
  | succ f ih =>
    intro p l out
    simp only [wayF]
    split
    · exact Nat.le_refl _
    · split
      · simp
      · exact Nat.le_trans (ih _ _ _) (ih _ _ _)
theorem holdF_snoc (L : List (List Int)) (l : List Int) (c : Nat) : holdF (L ++ [l]) c = (holdF L c && l.any fun x => litF x c) := by
  unfold holdF
  rw [List.any_append]
  show (!(_ || ((!(l.any fun x => litF x c)) || false))) = _
  cases L.any fun l => !(l.any fun x => litF x c) <;> cases l.any fun x => litF x c <;> rfl
theorem litF_pos {v : Int} (h : 0 ≤ v) (c : Nat) : litF (v + 1) c = c.testBit v.toNat := by
  unfold litF
  rw [if_neg (by omega), show v + 1 - 1 = v by omega]
theorem litF_neg {v : Int} (h : 0 ≤ v) (c : Nat) : litF (-(v + 1)) c = !c.testBit v.toNat := by
  unfold litF
  rw [if_pos (by omega), show -(-(v + 1)) - 1 = v by omega]
theorem any_snoc (l : List Int) (x : Int) (q : Int → Bool) : (l ++ [x]).any q = (l.any q || q x) := by
  rw [List.any_append]
  show (_ || (q x || false)) = _
  rw [Bool.or_false]

/-- The clauses hold of just the numbers of the set. -/
theorem wayF_hold {vars : Nat} {ns : List Nd} (hf : Fm vars ns) (c : Nat) : ∀ (f : Nat) (p : Int) (l : List Int) (out : List (List Int)), isP ns p → p.toNat ≤ f → (wayF ns f p l out).length ≤ 60 →
    holdF (wayF ns f p l out) c = (holdF out c && (has ns p c || l.any fun x => litF x c)) := by
  intro f
  induction f with
  | zero =>
    intro p l out hp hpf hl
    have := hp.1
    obtain rfl : p = 0 := by omega
    simp only [wayF] at hl ⊢
    by_cases ho : out.length ≤ 60
    · rw [if_pos (by simp [ho]), holdF_snoc, has_small ns 0 c (by omega)]; rfl
    · rw [if_neg (by simp [ho])] at hl; omega
  | succ f ih =>
    intro p l out hp hpf hl
    have hp0 := hp.1
    simp only [wayF] at hl ⊢
    by_cases hs : p = 1 ∨ 60 < out.length
    · rw [if_pos hs] at hl ⊢
      obtain rfl : p = 1 := by omega
      rw [has_small ns 1 c (by omega)]
      simp
    · rw [if_neg hs] at hl ⊢
      by_cases hz : p = 0
      · subst hz
        rw [if_pos rfl, holdF_snoc, has_small ns 0 c (by omega)]; rfl
      · rw [if_neg hz] at hl ⊢
        have h1 : 1 < p := by omega
        have hlo := isP_lo hf h1 hp.2
        have hhi := isP_hi hf h1 hp.2
        have hv0 : 0 ≤ (nd ns p).v := (good hf h1 hp.2).v0
        have hm := wayF_mono ns f (nd ns p).hi (l ++ [-((nd ns p).v + 1)]) (wayF ns f (nd ns p).lo (l ++ [(nd ns p).v + 1]) out)
        rw [ih _ _ _ hhi.1 (by have := hhi.1.1; omega) hl, ih _ _ _ hlo.1 (by have := hlo.1.1; omega) (by omega), any_snoc, any_snoc, litF_pos hv0, litF_neg hv0]
        cases hb : c.testBit (nd ns p).v.toNat with
        | true =>
          rw [has_hi hf h1 hp.2 hb]
          cases holdF out c <;> cases has ns (nd ns p).lo c <;> cases has ns (nd ns p).hi c <;> cases l.any (fun x => litF x c) <;> rfl
        | false =>
          rw [has_lo hf h1 hp.2 hb]
          cases holdF out c <;> cases has ns (nd ns p).lo c <;> cases has ns (nd ns p).hi c <;> cases l.any (fun x => litF x c) <;> rfl
theorem ways_hold {vars : Nat} {ns : List Nd} (hf : Fm vars ns) {R : Int} (hR : isP ns R) (hl : (ways ns R [] []).length ≤ 60) (c : Nat) : holdF (ways ns R [] []) c = has ns R c := by
  have := wayF_hold hf c R.toNat R [] [] hR (Nat.le_refl _) hl
  unfold ways
  rw [this]
  show (true && (has ns R c || false)) = _
  simp

/-- Literals of so many variables. -/
def InV (vars : Nat) (l : List Int) : Prop := ∀ x ∈ l, x ≠ 0 ∧ -(vars : Int) ≤ x ∧ x ≤ vars
theorem InV.snoc {vars : Nat} {l : List Int} (h : InV vars l) {x : Int} (hx : x ≠ 0 ∧ -(vars : Int) ≤ x ∧ x ≤ vars) : InV vars (l ++ [x]) := fun y hy => by
  rcases List.mem_append.1 hy with hy | hy
  · exact h y hy
  · simp at hy; subst hy; exact hx
theorem wayF_lits {vars : Nat} {ns : List Nd} (hf : Fm vars ns) : ∀ (f : Nat) (p : Int) (l : List Int) (out : List (List Int)), isP ns p → InV vars l → (∀ k ∈ out, InV vars k) → ∀ k ∈ wayF ns f p l out, InV vars k := by
  have hs : ∀ (l : List Int) (out : List (List Int)), InV vars l → (∀ k ∈ out, InV vars k) → ∀ k ∈ out ++ [l], InV vars k := fun l out hl ho k hk => by
    rcases List.mem_append.1 hk with hk | hk
    · exact ho k hk
    · simp at hk; subst hk; exact hl
  intro f
  induction f with
  | zero =>
    intro p l out hp hl ho
    simp only [wayF]
    split
    · exact hs l out hl ho
    · exact ho
  | succ f ih =>
    intro p l out hp hl ho
    simp only [wayF]
    split
    · exact ho
    · split
      · exact hs l out hl ho
      · have := hp.1
        have h1 : 1 < p := by omega
        have g := good hf h1 hp.2
        have v0 := g.v0
        have v1 := g.v1
        exact ih _ _ _ (isP_hi hf h1 hp.2).1 (hl.snoc ⟨by omega, by omega, by omega⟩) (ih _ _ _ (isP_lo hf h1 hp.2).1 (hl.snoc ⟨by omega, by omega, by omega⟩) ho)
theorem okC_of {V : Int} {L : List (List Int)} (hV : 1 ≤ V ∧ V ≤ 10) (hl : L.length ≤ 60) (h : ∀ l ∈ L, l.length ≤ 10 ∧ ∀ x ∈ l, x ≠ 0 ∧ -V ≤ x ∧ x ≤ V) : okC V L = true := by
  unfold okC
  rw [Bool.and_eq_true, Bool.and_eq_true, decide_eq_true_eq, decide_eq_true_eq, Bool.not_eq_true', List.any_eq_false]
  refine ⟨⟨hV, hl⟩, fun l hm => ?_⟩
  have h1 := h l hm
  have : okL V l = true := by
    unfold okL
    rw [Bool.and_eq_true, decide_eq_true_eq, Bool.not_eq_true', List.any_eq_false]
    refine ⟨h1.1, fun x hx => ?_⟩
    have h2 := h1.2 x hx
    unfold badL
    rw [beq_eq_false_iff_ne.2 h2.1, decide_eq_true h2.2]
    decide
  rw [this]; decide
/-- The clauses of a set make the set again. -/
theorem ways_back {V R : Int} {ns : List Nd} (hok : OkI V ns R) (hV : 1 ≤ V ∧ V ≤ 10) (hl : (ways ns R [] []).length ≤ 60) :
    okC V (ways ns R [] []) = true ∧ mk V.toNat 0 (holdF (ways ns R [] [])) [] = (R, ns) := by
  obtain ⟨k, rfl⟩ := Int.eq_ofNat_of_zero_le hok.1.v0
  have hf : Fm k ns := by have := hok.1.fm; simpa using this
  refine ⟨okC_of hV hl fun l hm => ⟨?_, ?_⟩, ?_⟩
  · have := ((Few.nil k).ways hf (p := R) (l := []) hok.1.root (by simp)).short l hm
    omega
  · exact wayF_lits hf _ R [] [] hok.1.root (fun x hx => by cases hx) (fun x hx => by cases hx) l hm
  · rw [← hok.2]
    exact mk_congr _ _ _ _ _ fun c _ => ways_hold hf hok.1.root hl c
end Go.Proofs.Ytffefegjnbfobaa
