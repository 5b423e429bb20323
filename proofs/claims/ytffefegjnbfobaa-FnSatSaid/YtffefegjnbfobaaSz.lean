/- Diagrams of at most ten bits are never too large. -/
import Derived.Test.YtffefegjnbfobaaBdd
namespace Go.Proofs.Ytffefegjnbfobaa
open B

/-- Nodes above the last bit. -/
def upper (m : Nat) (ns : List Nd) : Nat := (ns.filter fun n => decide (n.v + 1 < (m : Int))).length
theorem upper_push (m : Nat) (n : Nd) (ns : List Nd) : upper m (push n ns).2 ≤ upper m ns + (if n.v + 1 < (m : Int) then 1 else 0) := by
  unfold push
  split
  · simp only; omega
  · show upper m (ns ++ [n]) ≤ _
    unfold upper
    rw [List.filter_append, List.length_append]
    by_cases h : n.v + 1 < (m : Int)
    · simp [h]
    · simp [h]
theorem mk_upper : ∀ (k v : Nat) (f : Nat → Bool) (ns : List Nd), upper (v + k) (mk k v f ns).2 ≤ upper (v + k) ns + (2 ^ (k - 1) - 1) := by
  intro k
  induction k with
  | zero => intro v f ns; simp [mk]
  | succ k ih =>
    intro v f ns
    simp only [mk]
    have ha := ih (v + 1) (fun i => f (2 * i)) ns
    have hb := ih (v + 1) (fun i => f (2 * i + 1)) (mk k (v + 1) (fun i => f (2 * i)) ns).2
    rw [show v + 1 + k = v + (k + 1) by omega] at ha hb
    have hp := upper_push (v + (k + 1)) ⟨v, (mk k (v + 1) (fun i => f (2 * i)) ns).1, (mk k (v + 1) (fun i => f (2 * i + 1)) (mk k (v + 1) (fun i => f (2 * i)) ns).2).1⟩ (mk k (v + 1) (fun i => f (2 * i + 1)) (mk k (v + 1) (fun i => f (2 * i)) ns).2).2
    cases k with
    | zero =>
      rw [if_neg (by simp)] at hp
      split
      · have e : ∀ (x : Int) (y : List Nd), (x, y).2 = y := fun _ _ => rfl
        rw [e]; omega
      · omega
    | succ k =>
      rw [if_pos (by simp; omega)] at hp
      have h2 : 2 ^ (k + 1) = 2 * 2 ^ k := by rw [Nat.pow_succ]; omega
      have h3 : 0 < 2 ^ k := Nat.pow_pos (by omega)
      simp only [Nat.add_sub_cancel] at *
      split
      · have e : ∀ (x : Int) (y : List Nd), (x, y).2 = y := fun _ _ => rfl
        rw [e]; omega
      · omega
theorem two_most {α : Type} {l : List α} {a b : α} (hn : l.Nodup) (h : ∀ x ∈ l, x = a ∨ x = b) : l.length ≤ 2 := by
  match l with
  | [] => simp
  | [_] => simp
  | [_, _] => simp
  | x :: y :: z :: t =>
    exfalso
    have hx := h x (by simp)
    have hy := h y (by simp)
    have hz := h z (by simp)
    simp only [List.nodup_cons, List.mem_cons, not_or] at hn
    obtain ⟨⟨h1, h2, _⟩, ⟨h3, _⟩, _⟩ := hn
    rcases hx with rfl | rfl <;> rcases hy with rfl | rfl <;> rcases hz with rfl | rfl <;> simp_all
theorem lower_two {m : Nat} {ns : List Nd} (h : Wf m ns) : (ns.filter fun n => !decide (n.v + 1 < (m : Int))).length ≤ 2 := by
  refine two_most (a := (⟨(m : Int) - 1, 0, 1⟩ : Nd)) (b := ⟨(m : Int) - 1, 1, 0⟩) (List.Nodup.sublist List.filter_sublist h.nodup) fun n hn => ?_
  obtain ⟨hm, hd⟩ := List.mem_filter.1 hn
  obtain ⟨k, hk, he⟩ := List.getElem_of_mem hm
  have g := h.fm k n (by rw [List.getElem?_eq_getElem hk, he])
  have hv : ¬ n.v + 1 < (m : Int) := by simpa using hd
  have hv1 := g.v1
  have child : ∀ q : Int, 0 ≤ q → q ≤ k + 1 → (1 < q → n.v < (nd ns q).v) → q ≤ 1 := fun q h0 h1 h2 => by
    rcases Int.lt_or_le 1 q with h3 | h3
    · have g2 := good h.fm h3 (by omega)
      have := g2.v1
      have := h2 h3
      omega
    · exact h3
  have h1 := child n.lo g.lo0 g.lo1 g.lov
  have h2 := child n.hi g.hi0 g.hi1 g.hiv
  have h3 := g.ne
  have h4 := g.lo0
  have h5 := g.hi0
  obtain ⟨nv, nl, nh⟩ := n
  simp only at *
  have e1 : nv = (m : Int) - 1 := by omega
  rcases (show (nl = 0 ∧ nh = 1) ∨ (nl = 1 ∧ nh = 0) by omega) with ⟨rfl, rfl⟩ | ⟨rfl, rfl⟩
  · left; rw [e1]
  · right; rw [e1]
theorem part_len {α : Type} (q : α → Bool) (l : List α) : l.length = (l.filter q).length + (l.filter fun n => !q n).length := by
  induction l with
  | nil => rfl
  | cons x l ih => cases h : q x <;> simp [h, ih] <;> omega
theorem mk_fits {k : Nat} (hk : k ≤ 10) (f : Nat → Bool) : (mk k 0 f []).2.length ≤ 600 := by
  have hl := (mk_laid k 0 f [] (vars := k) (by omega) ⟨fun i n hi => by simp at hi, List.nodup_nil⟩).wf
  have h1 := mk_upper k 0 f []
  rw [Nat.zero_add] at h1
  have h2 := lower_two hl
  have h3 := part_len (fun n : Nd => decide (n.v + 1 < (k : Int))) (mk k 0 f []).2
  have h4 : 2 ^ (k - 1) ≤ 2 ^ 9 := Nat.pow_le_pow_right (n := 2) (by omega) (by omega)
  have h6 : 2 ^ 9 = 512 := rfl
  have h5 : upper k [] = 0 := rfl
  unfold upper at h1 h5
  omega
end Go.Proofs.Ytffefegjnbfobaa
