/- The clauses of a diagram, in plain Lean; rows of rows of ints, on memory. -/
import Derived.Test.YtffefegjnbfobaaIa
namespace Go.Proofs.Ytffefegjnbfobaa
open Go.RowKit
open B

/-- The clauses behind a place: one for each way to false; no more than one beyond the limit. -/
def wayF (ns : List Nd) : Nat → Int → List Int → List (List Int) → List (List Int)
  | 0, p, l, out => if p = 0 ∧ out.length ≤ 60 then out ++ [l] else out
  | f + 1, p, l, out => if p = 1 ∨ 60 < out.length then out else if p = 0 then out ++ [l] else
      wayF ns f (nd ns p).hi (l ++ [-((nd ns p).v + 1)]) (wayF ns f (nd ns p).lo (l ++ [(nd ns p).v + 1]) out)
def ways (ns : List Nd) (p : Int) (l : List Int) (out : List (List Int)) : List (List Int) := wayF ns p.toNat p l out

theorem wayF_fuel {vars : Nat} {ns : List Nd} (h : Fm vars ns) : ∀ (f g : Nat) (p : Int) (l : List Int) (out : List (List Int)), isP ns p → p.toNat ≤ f → p.toNat ≤ g → wayF ns f p l out = wayF ns g p l out := by
  intro f
  induction f with
  | zero =>
    intro g p l out hp hf hg
    have := hp.1
    obtain rfl : p = 0 := by omega
    cases g with
    | zero => rfl
    | succ g =>
      by_cases ho : out.length ≤ 60
      · simp [wayF, ho, show ¬ 60 < out.length by omega]
      · simp [wayF, ho, show 60 < out.length by omega]
  | succ f ih =>
    intro g p l out hp hf hg
    have := hp.1
    cases g with
    | zero =>
      obtain rfl : p = 0 := by omega
      by_cases ho : out.length ≤ 60
      · simp [wayF, ho, show ¬ 60 < out.length by omega]
      · simp [wayF, ho, show 60 < out.length by omega]
    | succ g =>
      by_cases h1 : p = 1 ∨ 60 < out.length
      · simp only [wayF, if_pos h1]
      · by_cases h0 : p = 0
        · simp only [wayF, if_neg h1, if_pos h0]
        · have hl := isP_lo h (p := p) (by omega) hp.2
          have hh := isP_hi h (p := p) (by omega) hp.2
          simp only [wayF, if_neg h1, if_neg h0]
          rw [ih g _ _ out hl.1 (by have := hl.1.1; omega) (by have := hl.1.1; omega), ih g _ _ _ hh.1 (by have := hh.1.1; omega) (by have := hh.1.1; omega)]

theorem ways_stop {ns : List Nd} (p : Int) (l : List Int) (out : List (List Int)) (h : p = 1 ∨ 60 < out.length) : ways ns p l out = out := by
  unfold ways
  cases hf : p.toNat with
  | zero => simp only [wayF]; rw [if_neg (by omega)]
  | succ f => simp only [wayF, if_pos h]
theorem ways_end (ns : List Nd) (l : List Int) (out : List (List Int)) (h : out.length ≤ 60) : ways ns 0 l out = out ++ [l] := by
  show wayF ns 0 0 l out = _
  simp [wayF, h]
theorem ways_step {vars : Nat} {ns : List Nd} (hf : Fm vars ns) {p : Int} (hp : isP ns p) (h1 : 1 < p) (l : List Int) (out : List (List Int)) (h : out.length ≤ 60) :
    ways ns p l out = ways ns (nd ns p).hi (l ++ [-((nd ns p).v + 1)]) (ways ns (nd ns p).lo (l ++ [(nd ns p).v + 1]) out) := by
  have hl := isP_lo hf h1 hp.2
  have hh := isP_hi hf h1 hp.2
  unfold ways
  obtain ⟨f, he⟩ : ∃ m, p.toNat = m + 1 := ⟨p.toNat - 1, by omega⟩
  rw [he]
  simp only [wayF, if_neg (show ¬ (p = 1 ∨ 60 < out.length) by omega), if_neg (show ¬ p = 0 by omega)]
  rw [wayF_fuel hf f (nd ns p).lo.toNat _ _ _ hl.1 (by have := hl.1.1; omega) (Nat.le_refl _), wayF_fuel hf f (nd ns p).hi.toNat _ _ _ hh.1 (by have := hh.1.1; omega) (Nat.le_refl _)]

/-- No more than 61 clauses, none longer than the variables. -/
structure Few (vars : Nat) (out : List (List Int)) : Prop where
  few : out.length ≤ 61
  short : ∀ l ∈ out, l.length ≤ vars
theorem Few.snoc {vars : Nat} {out : List (List Int)} (h : Few vars out) (ho : out.length ≤ 60) {l : List Int} (hl : l.length ≤ vars) : Few vars (out ++ [l]) :=
  ⟨by simp; omega, fun x hx => by
    rcases List.mem_append.1 hx with hx | hx
    · exact h.short x hx
    · simp at hx; subst hx; exact hl⟩
theorem wayF_few {vars : Nat} {ns : List Nd} (hf : Fm vars ns) : ∀ (f : Nat) (p : Int) (l : List Int) (out : List (List Int)), isP ns p → l.length ≤ vr vars ns p → Few vars out → Few vars (wayF ns f p l out) := by
  intro f
  induction f with
  | zero =>
    intro p l out hp hl h
    simp only [wayF]
    split
    · exact h.snoc (by omega) (Nat.le_trans hl (vr_le hf hp))
    · exact h
  | succ f ih =>
    intro p l out hp hl h
    simp only [wayF]
    split
    · exact h
    · split
      · exact h.snoc (by omega) (Nat.le_trans hl (vr_le hf hp))
      · have := hp.1
        have h1 : 1 < p := by omega
        have hlo := isP_lo hf h1 hp.2
        have hhi := isP_hi hf h1 hp.2
        have v1 := vr_lo hf h1 hp.2
        have v2 := vr_hi hf h1 hp.2
        exact ih _ _ _ hhi.1 (by simp; omega) (ih _ _ _ hlo.1 (by simp; omega) h)
theorem Few.ways {vars : Nat} {ns : List Nd} {out : List (List Int)} (h : Few vars out) (hf : Fm vars ns) {p : Int} {l : List Int} (hp : isP ns p) (hl : l.length ≤ vr vars ns p) : Few vars (ways ns p l out) := wayF_few hf _ _ _ _ hp hl h
theorem Few.nil (vars : Nat) : Few vars [] := ⟨by simp, fun _ h => by cases h⟩

/-! IntSS of rows -/
theorem own_own {w : World} {b b' : Nat} {e e' : TypeId} {s s' n n' : Nat} {v v' : Value} {xs xs' : List Value} (h : w.ownsRow b e s v n xs) (h' : w.ownsRow b' e' s' v' n' xs') (hne : e ≠ e') : v.ownBlock = none ∨ v.ownBlock ≠ v'.ownBlock := by
  rcases h.2 with ⟨rfl, _⟩ | ⟨g, cap, cur, rfl, _, hh, _⟩
  · exact .inl rfl
  · refine .inr fun he => ?_
    rcases h'.2 with ⟨rfl, _⟩ | ⟨g', cap', cur', rfl, _, hh', _⟩
    · cases he
    · have : g = g' := by simpa [Value.ownBlock] using he
      subst this
      rw [hh] at hh'
      injection hh' with hh'
      injection hh' with _ ht
      exact hne ht

/-- The row of rows v: its elements us hold the rows L, each in a block of its own. -/
structure IntSS (w : World) (B : Nat) (v : Value) (us : List Value) (L : List (List Int)) : Prop where
  out : w.ownsRow B 23 1 v L.length us
  row : ∀ i (h : i < L.length), ∃ A c, us[i]? = some (.slice A (L[i]).length c) ∧ w.ownsRow B 3 1 (.slice A (L[i]).length c) (L[i]).length ((L[i]).map (.int .i64))
  far : ∀ (i j : Nat) (u u' : Value), i < j → us[i]? = some u → us[j]? = some u' → u.ownBlock = none ∨ u.ownBlock ≠ u'.ownBlock

theorem IntSS.nil (w : World) (B : Nat) : IntSS w B (.slice none 0 0) [] [] := ⟨World.ownsRow_nil _ _ _ _, fun i h => absurd h (by simp), fun i j u u' _ h => by simp at h⟩
theorem IntSS.len {w : World} {B : Nat} {v : Value} {us : List Value} {L : List (List Int)} (h : IntSS w B v us L) : us.length = L.length := by have := h.out.1; omega
theorem IntSS.kept {w w' : World} {B : Nat} {v : Value} {us : List Value} {L : List (List Int)} {o : Option Nat} (h : IntSS w B v us L) (hg : w.grownBy w' o) (ho : ∀ g, o = some g → g < B) : IntSS w' B v us L := by
  have hne : ∀ {e : TypeId} {s n : Nat} {v : Value} {xs : List Value}, w.ownsRow B e s v n xs → v.ownBlock = none ∨ v.ownBlock ≠ o := fun {e s n v xs} hh => by
    cases hb : v.ownBlock with
    | none => exact .inl rfl
    | some g => exact .inr fun he => (by have h1 := (hh.lt g hb).1; have h2 := ho g he.symm; omega)
  exact ⟨h.out.kept hg (hne h.out), fun i hi => by
    obtain ⟨A, c, h1, h2⟩ := h.row i hi
    exact ⟨A, c, h1, h2.kept hg (hne h2)⟩, h.far⟩
theorem IntSS.below {w w' : World} {B : Nat} {v : Value} {us : List Value} {L : List (List Int)} (h : IntSS w B v us L) (hb : Below w.heap.size w w') : IntSS w' B v us L :=
  ⟨own_below h.out hb, fun i hi => by
    obtain ⟨A, c, h1, h2⟩ := h.row i hi
    exact ⟨A, c, h1, own_below h2 hb⟩, h.far⟩
theorem IntSS.mono {w : World} {B B' : Nat} {v : Value} {us : List Value} {L : List (List Int)} (h : IntSS w B v us L) (hb : B' ≤ B) : IntSS w B' v us L :=
  ⟨own_mono h.out hb, fun i hi => by
    obtain ⟨A, c, h1, h2⟩ := h.row i hi
    exact ⟨A, c, h1, own_mono h2 hb⟩, h.far⟩
theorem IntSS.alloc {w : World} {B : Nat} {v : Value} {us : List Value} {L : List (List Int)} (h : IntSS w B v us L) (o : Obj) : IntSS (w.alloc o) B v us L := h.below ((Below.refl _ _).alloc (Nat.le_refl _) _)
theorem IntSS.drew {w : World} {B : Nat} {v : Value} {us : List Value} {L : List (List Int)} (h : IntSS w B v us L) : IntSS w.drew B v us L := h.below (Below.refl _ _).drew
/-- A row's block lies below the world's end. -/
theorem IntSS.lt {w : World} {B : Nat} {v : Value} {us : List Value} {L : List (List Int)} (h : IntSS w B v us L) {u : Value} (hu : u ∈ us) {g : Nat} (hg : u.ownBlock = some g) : B ≤ g ∧ g < w.heap.size := by
  obtain ⟨i, hi, rfl⟩ := List.getElem_of_mem hu
  have hl := h.len
  obtain ⟨A, c, h1, h2⟩ := h.row i (by omega)
  rw [List.getElem?_eq_getElem hi] at h1
  injection h1 with h1
  rw [h1] at hg
  exact h2.lt g hg
/-- One row more: the row of rows has grown (in place or into a new block); the new row's block is new to the others. -/
theorem IntSS.push {w w' : World} {B : Nat} {v v' : Value} {us : List Value} {L : List (List Int)} (h : IntSS w B v us L) {A : Option Addr} {c : Nat} {l : List Int}
    (hv : w'.ownsRow B 23 1 v' (L.length + 1) (us ++ [.slice A l.length c])) (hg : w.grownBy w' v.ownBlock)
    (hl : w.ownsRow B 3 1 (.slice A l.length c) l.length (l.map (.int .i64)))
    (hn : ∀ u ∈ us, ∀ g, u.ownBlock = some g → (Value.slice A l.length c).ownBlock ≠ some g) : IntSS w' B v' (us ++ [.slice A l.length c]) (L ++ [l]) := by
  have hlen := h.len
  refine ⟨by simpa using hv, fun i hi => ?_, fun i j u u' hij hu hu' => ?_⟩
  · by_cases hlt : i < L.length
    · obtain ⟨A, c, h1, h2⟩ := h.row i hlt
      rw [List.getElem_append_left hlt]
      refine ⟨A, c, ?_, h2.kept hg (own_own h2 h.out (by decide))⟩
      rw [List.getElem?_append_left (by omega)]; exact h1
    · have : i = L.length := by simp at hi; omega
      subst this
      refine ⟨A, c, ?_, ?_⟩
      · simp [← hlen]
      · simpa using hl.kept hg (own_own hl h.out (by decide))
  · have hjl := (List.getElem?_eq_some_iff.1 hu').1
    simp only [List.length_append, List.length_cons, List.length_nil] at hjl
    rw [List.getElem?_append_left (by omega)] at hu
    by_cases hlt : j < us.length
    · rw [List.getElem?_append_left hlt] at hu'
      exact h.far i j u u' hij hu hu'
    · have : j = us.length := by omega
      subst this
      simp at hu'
      subst hu'
      cases hb : u.ownBlock with
      | none => exact .inl rfl
      | some g => exact .inr fun he => hn u (List.mem_of_getElem? hu) g hb he.symm
/-- A row rewritten. -/
theorem IntSS.put {w w' : World} {B : Nat} {v : Value} {us : List Value} {L : List (List Int)} (h : IntSS w B v us L) {i : Nat} (hi : i < L.length) {A : Option Addr} {c : Nat} {l : List Int} (hl : l.length = (L[i]).length)
    (hu : us[i]? = some (.slice A (L[i]).length c)) (ho : w'.ownsRow B 3 1 (.slice A (L[i]).length c) (L[i]).length (l.map (.int .i64))) (hg : w.grownBy w' (Value.slice A (L[i]).length c).ownBlock) : IntSS w' B v us (L.set i l) := by
  obtain ⟨A0, c0, hu0, ho0⟩ := h.row i hi
  rw [hu] at hu0
  injection hu0 with hu0
  rw [← hu0] at ho0
  refine ⟨by simpa using h.out.kept hg (own_own h.out ho0 (by decide)), fun j hj => ?_, h.far⟩
  rw [List.length_set] at hj
  by_cases e : j = i
  · subst e
    simp only [List.getElem_set_self]
    rw [hl]
    exact ⟨A, c, hu, ho⟩
  · rw [List.getElem_set_ne (fun h => e h.symm)]
    obtain ⟨A1, c1, h1, h2⟩ := h.row j hj
    refine ⟨A1, c1, h1, h2.kept hg ?_⟩
    rcases Nat.lt_or_gt_of_ne e with hlt | hlt
    · exact h.far j i _ _ hlt h1 hu
    · rcases h.far i j _ _ hlt hu h1 with h3 | h3
      · cases hb : (Value.slice A1 (L[j]).length c1).ownBlock with
        | none => exact .inl rfl
        | some g => rw [h3]; exact .inr (by simp)
      · exact .inr fun he => h3 he.symm
/-- The element of the row of rows, read. -/
theorem IntSS.cell {w : World} {B : Nat} {A : Option Addr} {cap : Nat} {us : List Value} {L : List (List Int)} (h : IntSS w B (.slice A L.length cap) us L) {i : Nat} (hi : i < L.length) :
    ∃ g Ai ci, A = some ⟨g, 0, none⟩ ∧ g < w.heap.size ∧ B ≤ g ∧ us[i]? = some (.slice Ai (L[i]).length ci) ∧ w.cell? ⟨g, i, none⟩ = some (.slice Ai (L[i]).length ci) ∧ w.ownsRow B 3 1 (.slice Ai (L[i]).length ci) (L[i]).length ((L[i]).map (.int .i64)) := by
  obtain ⟨g, cap', h1, h2, h3⟩ := h.out.form (by omega)
  injection h1 with h1 _ _
  subst h1
  obtain ⟨Ai, ci, h4, h5⟩ := h.row i hi
  exact ⟨g, Ai, ci, rfl, h3, h2, h4, by rw [h.out.cellAt i (by omega)]; exact h4, h5⟩
end Go.Proofs.Ytffefegjnbfobaa
