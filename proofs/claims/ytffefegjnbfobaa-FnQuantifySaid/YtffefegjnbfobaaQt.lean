/- Which bits a set hangs on: the plain law. -/
import Derived.Test.YtffefegjnbfobaaGr
import Derived.Test.YtffefegjnbfobaaX6
import Derived.Test.YtffefegjnbfobaaUI
namespace Go.Proofs.Ytffefegjnbfobaa
open Go.RowKit
open B

theorem setb_setb (i : Nat) (b b' : Bool) (c : Nat) : setb i b (setb i b' c) = setb i b c := by
  apply Nat.eq_of_testBit_eq
  intro t
  rw [setb_bit, setb_bit, setb_bit]
  by_cases h : t = i <;> simp [h]
theorem setb_self (i c : Nat) : setb i (c.testBit i) c = c := by unfold setb; simp
theorem setb_mod {i k : Nat} (hi : i < k) (b : Bool) (c : Nat) : setb i b c % 2 ^ k = setb i b (c % 2 ^ k) := by
  apply Nat.eq_of_testBit_eq
  intro t
  rw [Nat.testBit_mod_two_pow, setb_bit, setb_bit, Nat.testBit_mod_two_pow]
  by_cases h : t = i
  · subst h; simp [hi]
  · simp [h]

theorem push_mem {n x : Nd} {ns : List Nd} (h : x ∈ (push n ns).2) : x ∈ ns ∨ x = n := by
  unfold push at h
  split at h
  · exact .inl h
  · simpa using h
/-- Nodes that are laid down from a variable on look at no bit ahead of it. -/
theorem mk_from : ∀ (k v : Nat) (f : Nat → Bool) (ns : List Nd) (x : Nd), x ∈ (mk k v f ns).2 → x ∈ ns ∨ (v : Int) ≤ x.v := by
  intro k
  induction k with
  | zero => intro v f ns x hx; exact .inl (by simpa [mk] using hx)
  | succ k ih =>
    intro v f ns x hx
    have A := fun ns y h => ih (v + 1) (fun i => f (2 * i)) ns y h
    have B := fun ns y h => ih (v + 1) (fun i => f (2 * i + 1)) ns y h
    simp only [mk] at hx
    have two : x ∈ (mk k (v + 1) (fun i => f (2 * i + 1)) (mk k (v + 1) (fun i => f (2 * i)) ns).2).2 → x ∈ ns ∨ (v : Int) ≤ x.v := fun h => by
      rcases B _ _ h with h | h
      · rcases A _ _ h with h | h
        · exact .inl h
        · exact .inr (by omega)
      · exact .inr (by omega)
    split at hx
    · exact two hx
    · rcases push_mem hx with h | h
      · exact two h
      · subst h; exact .inr (Int.le_refl _)
/-- Where a table does not hang on a bit, no node looks at it. -/
theorem mk_noi {vars i : Nat} (_hi : i < vars) : ∀ (k v : Nat) (f : Nat → Bool) (ns : List Nd), v + k = vars → Wf vars ns → (v ≤ i → ∀ (b : Bool) (c : Nat), f (setb (i - v) b c) = f c) → ∀ x, x ∈ (mk k v f ns).2 → x ∈ ns ∨ x.v ≠ i := by
  intro k
  induction k with
  | zero => intro v f ns _ _ _ x hx; exact .inl (by simpa [mk] using hx)
  | succ k ih =>
    intro v f ns hv hw hf x hx
    by_cases hvi : v ≤ i
    · have hL := mk_laid k (v + 1) (fun i => f (2 * i)) ns (by omega) hw
      rcases Nat.eq_or_lt_of_le hvi with hev | hlt
      · -- the bit itself: both sides are one
        have hff : (fun c => f (2 * c + 1)) = fun c => f (2 * c) := by
          funext c
          have h := hf hvi true (2 * c + (false : Bool).toNat)
          rw [hev, Nat.sub_self, setb_zero] at h
          simpa using h
        have hthere := mk_there hL.wf k (v + 1) (fun c => f (2 * c)) _ (by omega) hL.place hL.var hL.means
        simp only [mk] at hx
        rw [hff, hthere] at hx
        rw [if_pos rfl] at hx
        rcases mk_from _ _ _ _ _ hx with h | h
        · exact .inl h
        · exact .inr (by omega)
      · have A := ih (v + 1) (fun c => f (2 * c)) ns (by omega) hw (fun hv1 b c => by
          have h := hf hvi b (2 * c + (false : Bool).toNat)
          rw [show i - v = (i - (v + 1)) + 1 by omega, setb_succ] at h
          simpa using h)
        have B := ih (v + 1) (fun c => f (2 * c + 1)) (mk k (v + 1) (fun i => f (2 * i)) ns).2 (by omega) hL.wf (fun hv1 b c => by
          have h := hf hvi b (2 * c + (true : Bool).toNat)
          rw [show i - v = (i - (v + 1)) + 1 by omega, setb_succ] at h
          simpa using h)
        simp only [mk] at hx
        have two : x ∈ (mk k (v + 1) (fun i => f (2 * i + 1)) (mk k (v + 1) (fun i => f (2 * i)) ns).2).2 → x ∈ ns ∨ x.v ≠ i := fun h => by
          rcases B _ h with h | h
          · exact A _ h
          · exact .inr h
        split at hx
        · exact two hx
        · rcases push_mem hx with h | h
          · exact two h
          · subst h; exact .inr (by show (v : Int) ≠ (i : Int); omega)
    · rcases mk_from _ _ _ _ _ hx with h | h
      · exact .inl h
      · exact .inr (by omega)
theorem no_uses {k i : Nat} {F : Nat → Bool} {R : Int} {ms : List Nd} (hi : i < k) (hm : mk k 0 F [] = (R, ms)) (hF : ∀ (b : Bool) (c : Nat), F (setb i b c) = F c) : ¬ UsesP ms i := by
  rintro ⟨x, hx, hv⟩
  have h := mk_noi hi k 0 F [] (by omega) (wf_nil k) (fun _ b c => hF b c) x (by rw [hm]; exact hx)
  rcases h with h | h
  · simp at h
  · exact h hv
/-- Where no node looks at a bit, the set does not hang on it. -/
theorem no_hang {vars : Nat} {ns : List Nd} (h : Fm vars ns) {i : Nat} (hu : ¬ UsesP ns i) (b : Bool) (c : Nat) : ∀ (f : Nat) (p : Int), p.toNat ≤ f → isP ns p → has ns p (setb i b c) = has ns p c := by
  intro f
  induction f with
  | zero => intro p hp hP; rw [has_small _ _ _ (by omega), has_small _ _ _ (by omega)]
  | succ f ih =>
    intro p hp hP
    by_cases h1 : p ≤ 1
    · rw [has_small _ _ _ h1, has_small _ _ _ h1]
    · have h1' : 1 < p := by omega
      obtain ⟨hl, hl2⟩ := isP_lo h h1' hP.2
      obtain ⟨hh, hh2⟩ := isP_hi h h1' hP.2
      have hg := good h h1' hP.2
      have hmem : nd ns p ∈ ns := List.mem_of_getElem? (nd_get h1' hP.2)
      have hne : (nd ns p).v.toNat ≠ i := fun e => hu ⟨_, hmem, by have := hg.v0; omega⟩
      have hb : (setb i b c).testBit (nd ns p).v.toNat = c.testBit (nd ns p).v.toNat := by rw [setb_bit, if_neg hne]
      cases hc : c.testBit (nd ns p).v.toNat with
      | true => rw [has_hi h h1' hP.2 (hb.trans hc), has_hi h h1' hP.2 hc]; exact ih _ (by omega) hh
      | false => rw [has_lo h h1' hP.2 (hb.trans hc), has_lo h h1' hP.2 hc]; exact ih _ (by omega) hl
/-- A set looks at a bit just where fixing it either way gives two sets. -/
theorem uses_iff {k i : Nat} {R R0 R1 : Int} {ms m0 m1 : List Nd} (hi : i < k) (hk : k ≤ 13) (h : OkI k ms R) (h0 : mk k 0 (fun c => has ms R (setb i false c)) [] = (R0, m0)) (h1 : mk k 0 (fun c => has ms R (setb i true c)) [] = (R1, m1)) : UsesP ms i ↔ ¬ (R0 = R1 ∧ m0 = m1) := by
  have hf : Fm k ms := h.1.fm
  have hP := h.1.root
  constructor
  · intro hu he
    have hl0 := fix_len hf hP i false
    have hl1 := fix_len hf hP i true
    have hl := h.1.len
    have q0 := (mk_ok hk (f := fun c => has ms R (setb i false c)) (by omega)).2
    have q1 := (mk_ok hk (f := fun c => has ms R (setb i true c)) (by omega)).2
    rw [h0] at q0
    rw [h1, ← he.1, ← he.2] at q1
    have hlow : ∀ c, c < 2 ^ k → has ms R (setb i false c) = has ms R (setb i true c) := fun c hc => (q0 c hc).symm.trans (q1 c hc)
    have hall : ∀ c, has ms R (setb i false c) = has ms R (setb i true c) := fun c => by
      rw [has_mod hf hP (setb i false c), has_mod hf hP (setb i true c), setb_mod hi, setb_mod hi]
      exact hlow _ (Nat.mod_lt _ (Nat.pow_pos (by omega)))
    refine no_uses hi (F := has ms R) h.2 (fun b c => ?_) hu
    have hc : has ms R c = has ms R (setb i (c.testBit i) c) := by rw [setb_self]
    rw [hc]
    cases b <;> cases c.testBit i
    · rfl
    · exact hall c
    · exact (hall c).symm
    · rfl
  · intro hne
    refine Classical.byContradiction fun hu => hne ?_
    have e : (fun c => has ms R (setb i false c)) = fun c => has ms R (setb i true c) := by
      funext c
      rw [no_hang hf hu false c _ R (Nat.le_refl _) hP, no_hang hf hu true c _ R (Nat.le_refl _) hP]
    rw [e, h1] at h0
    injection h0 with h2 h3
    exact ⟨h2.symm, h3.symm⟩

theorem mk_has' {K : Nat} {F : Nat → Bool} {R : Int} {ms : List Nd} (hk : K ≤ 13) (h : mk K 0 F [] = (R, ms)) (hl : ms.length ≤ 600) : OkI K ms R ∧ ∀ c, c < 2 ^ K → has ms R c = F c := by
  have := mk_ok (k := K) (f := F) hk (by rw [h]; exact hl)
  rw [h] at this
  exact this
/-- What BddFix of the program hands back, where the set is ok and the bit is there. -/
theorem Mkd.fixI {K I : Nat} {R : Int} {ms : List Nd} {b2 : Bool} (hok : OkI K ms R) (hI : I < K) {B : Nat} {w' : World} {e : Ending}
    (h : Mkd (OkI (K : Int) ms R ∧ 0 ≤ (I : Int) ∧ (I : Int) ≤ (K : Int) - 1) (K : Int) (mk (K : Int).toNat 0 (fun c => has ms R (setb (I : Int).toNat b2 c)) []) B w' e) :
    ∃ (R' : Int) (m' : List Nd) (A : Option Addr) (c : Nat), e = .returned (.tuple #[.agg #[.int .i64 (K : Int), .slice A m'.length c, .int .i64 R'], .bool true]) ∧ Hid (w'.ownsRow B 89 3 (.slice A m'.length c) m'.length (ncells m')) ∧ m'.length ≤ 600 ∧ Hid (mk K 0 (fun c => has ms R (setb I b2 c)) [] = (R', m')) := by
  obtain ⟨V', R', m', b, A, c, hv, rfl, ho⟩ := h
  have hl := fix_len (vars := K) (R := R) hok.1.fm hok.1.root I b2
  have h6 := hok.1.len
  rcases hv with ⟨_, hl', rfl, rfl, rfl, rfl⟩ | ⟨hn, _⟩
  · exact ⟨_, _, A, c, rfl, ho, hl', rfl⟩
  · exact (hn ⟨⟨hok, by omega, by omega⟩, by show (mk K 0 (fun c => has ms R (setb I b2 c)) []).2.length ≤ 600; omega⟩).elim
theorem uses_t {V R i : Int} {ns : List Nd} (A : Option Addr) (cap : Nat) (w : World) (h : OkI V ns R) (hu : UsesP ns i) (hA : NAt w A ns) (hn : ns.length ≤ 1048576) :
    Calls Try.prog 57 #[.agg #[.int .i64 V, .slice A ns.length cap, .int .i64 R], .int .i64 i] w fun e w' => e = .returned (.bool true) ∧ Below w.heap.size w w' :=
  (implUses_any V R i A cap ns w hA hn).mono fun _ _ h' => ⟨h'.1.t ⟨h, hu⟩, h'.2⟩
theorem uses_f {V R i : Int} {ns : List Nd} (A : Option Addr) (cap : Nat) (w : World) (hu : ¬ UsesP ns i) (hA : NAt w A ns) (hn : ns.length ≤ 1048576) :
    Calls Try.prog 57 #[.agg #[.int .i64 V, .slice A ns.length cap, .int .i64 R], .int .i64 i] w fun e w' => e = .returned (.bool false) ∧ Below w.heap.size w w' :=
  (implUses_any V R i A cap ns w hA hn).mono fun _ _ h' => ⟨h'.1.f fun q => hu q.2, h'.2⟩
end Go.Proofs.Ytffefegjnbfobaa
