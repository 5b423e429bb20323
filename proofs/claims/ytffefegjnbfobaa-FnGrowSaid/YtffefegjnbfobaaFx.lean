/- The plain law of diagrams, third part: a diagram with a bit fixed is no larger; more bits change nothing; all and none. -/
import Derived.Test.YtffefegjnbfobaaBddO
namespace Go.Proofs.Ytffefegjnbfobaa.B

/-- The number with a bit set to b. -/
def setb (i : Nat) (b : Bool) (c : Nat) : Nat := if c.testBit i = b then c else c ^^^ 2 ^ i

theorem setb_bit (i : Nat) (b : Bool) (c j : Nat) : (setb i b c).testBit j = if j = i then b else c.testBit j := by
  unfold setb
  by_cases h : c.testBit i = b
  · rw [if_pos h]
    by_cases e : j = i
    · subst e; simp [h]
    · simp [e]
  · rw [if_neg h, Nat.testBit_xor, Nat.testBit_two_pow]
    by_cases e : j = i
    · subst e
      cases b <;> simp at h <;> simp [h]
    · simp [e, Ne.symm e]

/-- What is looked at from bit v on, where bit i is set to b. -/
def sv (i : Nat) (b : Bool) (v j : Nat) : Nat := if v ≤ i then setb (i - v) b j else j

theorem tb_cons (x : Nat) (s : Bool) (t : Nat) : (2 * x + s.toNat).testBit t = if t = 0 then s else x.testBit (t - 1) := by
  cases s
  · simp only [Bool.toNat_false, Nat.add_zero]
    rw [tb_two]
    by_cases h : t = 0
    · simp [h]
    · simp [h]; omega
  · simp only [Bool.toNat_true]
    rw [tb_odd]

theorem setb_zero (b s : Bool) (j : Nat) : setb 0 b (2 * j + s.toNat) = 2 * j + b.toNat := by
  apply Nat.eq_of_testBit_eq
  intro t
  rw [setb_bit, tb_cons, tb_cons]
  by_cases h : t = 0 <;> simp [h]
theorem setb_succ (d : Nat) (b s : Bool) (j : Nat) : setb (d + 1) b (2 * j + s.toNat) = 2 * setb d b j + s.toNat := by
  apply Nat.eq_of_testBit_eq
  intro t
  rw [setb_bit, tb_cons, tb_cons, setb_bit]
  cases t with
  | zero => simp
  | succ t => simp

theorem sv_step (i : Nat) (b : Bool) (v : Nat) : ∃ s : Bool → Bool, ∀ (j : Nat) (x : Bool), sv i b v (2 * j + x.toNat) = 2 * sv i b (v + 1) j + (s x).toNat := by
  rcases Nat.lt_trichotomy v i with h | h | h
  · refine ⟨id, fun j x => ?_⟩
    unfold sv
    rw [if_pos (by omega), if_pos (by omega), show i - v = i - (v + 1) + 1 by omega, setb_succ]; rfl
  · subst h
    refine ⟨fun _ => b, fun j x => ?_⟩
    unfold sv
    rw [if_pos (by omega), if_neg (by omega), Nat.sub_self, setb_zero]
  · refine ⟨id, fun j x => ?_⟩
    unfold sv
    rw [if_neg (by omega), if_neg (by omega)]; rfl

theorem rel_bit {vars : Nat} {ns : List Nd} (h : Fm vars ns) {p : Int} (h1 : 1 < p) (h2 : p ≤ ns.length + 1) {v : Nat} (hv : vr vars ns p = v) (x : Nat) (s : Bool) :
    rel ns v p (2 * x + s.toNat) = rel ns (v + 1) (if s then (nd ns p).hi else (nd ns p).lo) x := by
  cases s
  · exact rel_lo h h1 h2 hv x
  · exact rel_hi h h1 h2 hv x
theorem rel_pass {vars : Nat} {ns : List Nd} (h : Fm vars ns) {p : Int} (hp : isP ns p) {v : Nat} (hv : v < vr vars ns p) (x : Nat) (s : Bool) :
    rel ns v p (2 * x + s.toNat) = rel ns (v + 1) p x := by
  cases s
  · exact (rel_skip h hp hv x).1
  · exact (rel_skip h hp hv x).2

theorem big_of_vr {vars : Nat} {ns : List Nd} {p : Int} {v : Nat} (hv : vr vars ns p = v) (hlt : v < vars) : 1 < p := by
  rcases Int.lt_or_le 1 p with h | h
  · exact h
  · rw [vr_small vars ns h] at hv; omega

/-- The two sides of what is looked at. -/
theorem cof {vars : Nat} {ns : List Nd} (hf : Fm vars ns) (i : Nat) (b : Bool) {v : Nat} {q : Int} (hq : isP ns q) (hv : v ≤ vr vars ns q) (hlt : v < vars) :
    ∃ g : Bool → Int, (∀ x, isP ns (g x) ∧ v + 1 ≤ vr vars ns (g x)) ∧ (∀ (j : Nat) (x : Bool), rel ns v q (sv i b v (2 * j + x.toNat)) = rel ns (v + 1) (g x) (sv i b (v + 1) j)) ∧ (v < vr vars ns q → g false = g true) := by
  obtain ⟨s, hs⟩ := sv_step i b v
  rcases Nat.lt_or_eq_of_le hv with h | h
  · exact ⟨fun _ => q, fun _ => ⟨hq, h⟩, fun j x => by rw [hs, rel_pass hf hq h], fun _ => rfl⟩
  · have h1 : 1 < q := big_of_vr h.symm hlt
    refine ⟨fun x => if s x then (nd ns q).hi else (nd ns q).lo, fun x => ?_, fun j x => by rw [hs, rel_bit hf h1 hq.2 h.symm], fun h' => by omega⟩
    have a := isP_lo hf h1 hq.2
    have c := isP_hi hf h1 hq.2
    have d := vr_lo hf h1 hq.2
    have e := vr_hi hf h1 hq.2
    dsimp only
    cases s x
    · exact ⟨a.1, by simp; omega⟩
    · exact ⟨c.1, by simp; omega⟩

/-- Each node of ms is one of ns, with the bit fixed. -/
def Cov (vars : Nat) (ns : List Nd) (i : Nat) (b : Bool) (ms : List Nd) : Prop :=
  ∀ p : Int, 1 < p → p ≤ ms.length + 1 → ∃ q, isP ns q ∧ vr vars ns q = vr vars ms p ∧ ∀ j, j < 2 ^ (vars - vr vars ms p) → rel ms (vr vars ms p) p j = rel ns (vr vars ms p) q (sv i b (vr vars ms p) j)

theorem cov_mk {vars : Nat} {ns : List Nd} (hf : Fm vars ns) (i : Nat) (b : Bool) : ∀ (k v : Nat) (f : Nat → Bool) (q : Int) (ms : List Nd), v + k = vars → isP ns q → v ≤ vr vars ns q →
    (∀ j, j < 2 ^ k → f j = rel ns v q (sv i b v j)) → Wf vars ms → Cov vars ns i b ms → Cov vars ns i b (mk k v f ms).2 := by
  intro k
  induction k with
  | zero => intro v f q ms _ _ _ _ _ hc; exact hc
  | succ k ih =>
    intro v f q ms hv hq hvq hfq hw hc
    obtain ⟨g, hg1, hg2, hg3⟩ := cof hf i b hq hvq (by omega)
    have e0 : ∀ j, j < 2 ^ k → f (2 * j) = rel ns (v + 1) (g false) (sv i b (v + 1) j) := fun j hj => by
      rw [← hg2 j false]; exact hfq (2 * j) (by rw [Nat.pow_succ]; omega)
    have e1 : ∀ j, j < 2 ^ k → f (2 * j + 1) = rel ns (v + 1) (g true) (sv i b (v + 1) j) := fun j hj => by
      rw [← hg2 j true]; exact hfq (2 * j + 1) (by rw [Nat.pow_succ]; omega)
    have L := mk_laid (k + 1) v f ms hv hw
    have A := mk_laid k (v + 1) (fun i => f (2 * i)) ms (by omega) hw
    have CA := ih (v + 1) (fun i => f (2 * i)) (g false) ms (by omega) (hg1 false).1 (hg1 false).2 e0 hw hc
    have B := mk_laid k (v + 1) (fun i => f (2 * i + 1)) (mk k (v + 1) (fun i => f (2 * i)) ms).2 (by omega) A.wf
    have CB := ih (v + 1) (fun i => f (2 * i + 1)) (g true) (mk k (v + 1) (fun i => f (2 * i)) ms).2 (by omega) (hg1 true).1 (hg1 true).2 e1 A.wf CA
    have hmeans := L.means
    have hplace := L.place
    simp only [mk] at hmeans hplace ⊢
    generalize mk k (v + 1) (fun i => f (2 * i)) ms = a at A B CB hmeans hplace ⊢
    generalize mk k (v + 1) (fun i => f (2 * i + 1)) a.2 = c at B CB hmeans hplace ⊢
    by_cases e : a.1 = c.1
    · rw [if_pos e]; exact CB
    · rw [if_neg e] at hmeans hplace ⊢
      by_cases hin : (⟨v, a.1, c.1⟩ : Nd) ∈ c.2
      · unfold push; rw [if_pos hin]; exact CB
      · unfold push at hmeans hplace ⊢
        rw [if_neg hin] at hmeans hplace ⊢
        dsimp only at hmeans hplace ⊢
        have hpre : c.2 <+: c.2 ++ [(⟨v, a.1, c.1⟩ : Nd)] := List.prefix_append _ _
        have en : nd (c.2 ++ [(⟨v, a.1, c.1⟩ : Nd)]) ((c.2.length : Int) + 2) = ⟨v, a.1, c.1⟩ := by
          unfold nd
          rw [show (((c.2.length : Int) + 2) - 2).toNat = c.2.length by omega]; simp [List.getD_eq_getElem?_getD]
        have evr : vr vars (c.2 ++ [(⟨v, a.1, c.1⟩ : Nd)]) ((c.2.length : Int) + 2) = v := by rw [vr_node _ _ (by omega), en]; simp
        intro p h1 h2
        by_cases hold : p ≤ c.2.length + 1
        · have hp : isP c.2 p := ⟨by omega, hold⟩
          obtain ⟨q', x1, x2, x3⟩ := CB p h1 hold
          refine ⟨q', x1, by rw [vr_app hpre hp]; exact x2, fun j hj => ?_⟩
          rw [vr_app hpre hp] at hj ⊢
          rw [rel_app B.wf.fm hpre hp]
          exact x3 j hj
        · have ep : p = (c.2.length : Int) + 2 := by rw [List.length_append] at h2; simp at h2; omega
          subst ep
          rw [evr]
          refine ⟨q, hq, ?_, fun j hj => ?_⟩
          · rcases Nat.lt_or_eq_of_le hvq with h | h
            · exfalso
              apply e
              have ap := isP_app B.pre A.place
              refine canon B.wf k (v + 1) a.1 c.1 (by omega) ap B.place (by rw [vr_app B.pre A.place]; exact A.var) B.var fun j hj => ?_
              rw [rel_app A.wf.fm B.pre A.place, A.means j hj, B.means j hj, e0 j hj, e1 j hj, hg3 h]
            · exact h.symm
          · rw [show vars - v = k + 1 by omega] at hj
            rw [hmeans j hj, hfq j hj]

theorem has_rel (ns : List Nd) (R : Int) (c : Nat) : rel ns 0 R c = has ns R c := by simp [rel]

/-- A diagram with a bit fixed is no larger. -/
theorem fix_len {vars : Nat} {ns : List Nd} {R : Int} (hf : Fm vars ns) (hR : isP ns R) (i : Nat) (b : Bool) : (mk vars 0 (fun c => has ns R (setb i b c)) []).2.length ≤ ns.length := by
  have L := mk_laid vars 0 (fun c => has ns R (setb i b c)) [] (by omega) (wf_nil vars)
  have C : Cov vars ns i b (mk vars 0 (fun c => has ns R (setb i b c)) []).2 := cov_mk hf i b vars 0 _ R [] (by omega) hR (Nat.zero_le _) (fun j _ => by rw [has_rel]; simp [sv]) (wf_nil vars) (fun p h1 h2 => by simp at h2; omega)
  have hw := L.wf
  generalize (mk vars 0 (fun c => has ns R (setb i b c)) []).2 = ms at C hw
  classical
  let g : Int → Int := fun p => if h : 1 < p ∧ p ≤ ms.length + 1 then Classical.choose (C p h.1 h.2) else 0
  have hg : ∀ p : Int, 1 < p → p ≤ ms.length + 1 → isP ns (g p) ∧ vr vars ns (g p) = vr vars ms p ∧ ∀ j, j < 2 ^ (vars - vr vars ms p) → rel ms (vr vars ms p) p j = rel ns (vr vars ms p) (g p) (sv i b (vr vars ms p) j) := fun p h1 h2 => by
    have := Classical.choose_spec (C p h1 h2)
    simp only [g, dif_pos (And.intro h1 h2)]
    exact this
  have inj : ∀ p p' : Int, 1 < p → p ≤ ms.length + 1 → 1 < p' → p' ≤ ms.length + 1 → g p = g p' → p = p' := fun p p' h1 h2 h3 h4 e => by
    obtain ⟨-, b1, c1⟩ := hg p h1 h2
    obtain ⟨-, b2, c2⟩ := hg p' h3 h4
    have hv : vr vars ms p = vr vars ms p' := by rw [← b1, ← b2, e]
    have hlt := vr_lt hw.fm h1 h2
    refine canon hw (vars - vr vars ms p) (vr vars ms p) p p' (by omega) ⟨by omega, h2⟩ ⟨by omega, h4⟩ (Nat.le_refl _) (Nat.le_of_eq hv) fun j hj => ?_
    rw [c1 j hj, e, hv, c2 j (by rw [← hv]; exact hj)]
  have hn : ((upto ms.length).map g).Nodup := by
    rw [List.nodup_iff_pairwise_ne, List.pairwise_map]
    have hu : (upto ms.length).Nodup := by
      unfold upto
      rw [List.nodup_iff_pairwise_ne, List.pairwise_map]
      exact (List.nodup_iff_pairwise_ne.1 List.nodup_range).imp fun h e => h (by omega)
    refine (List.nodup_iff_pairwise_ne.1 hu).imp_of_mem fun ha hb h e => h ?_
    have ma := mem_upto.1 ha
    have mb := mem_upto.1 hb
    exact inj _ _ (by omega) (by omega) (by omega) (by omega) e
  have hl := nodup_bounded ns.length _ hn fun x hx => by
    obtain ⟨p, hp, rfl⟩ := List.mem_map.1 hx
    have mp := mem_upto.1 hp
    obtain ⟨a1, b1, -⟩ := hg p (by omega) (by omega)
    have := big_of_vr b1 (vr_lt hw.fm (by omega) (by omega))
    have := a1.2
    exact ⟨by omega, by omega⟩
  rw [List.length_map, length_upto] at hl
  exact hl

/-- More bits change nothing. -/
theorem grow_ok {V V' : Int} {ns : List Nd} {R : Int} (h : OkS V ns R) (h1 : V ≤ V') (h2 : V' ≤ 13) : OkS V' ns R := by
  obtain ⟨f, n, o⟩ := h
  have v0 := f.v0
  exact ⟨⟨by omega, h2, f.len, f.root, fun k m hk => by
    have g := f.fm k m hk
    exact ⟨g.v0, by have := g.v1; omega, g.ne, g.lo0, g.lo1, g.hi0, g.hi1, g.lov, g.hiv⟩⟩, n, o⟩
theorem const_ok {V : Int} (h0 : 0 ≤ V) (h1 : V ≤ 13) (b : Bool) : OkS V [] (if b then 1 else 0) := by
  refine ⟨⟨h0, h1, by simp, ⟨by split <;> omega, by simp; split <;> omega⟩, (wf_nil _).fm⟩, by simp, ?_⟩
  rw [ord_small _ (by split <;> omega)]; rfl
theorem has_const (b : Bool) (c : Nat) : has [] (if b then 1 else 0) c = b := by
  rw [has_small _ _ _ (by split <;> omega)]; cases b <;> rfl
/-- What is laid down is ok, where it is not too large. -/
theorem mk_ok {k : Nat} {f : Nat → Bool} (hk : k ≤ 13) (hl : (mk k 0 f []).2.length ≤ 600) : OkI k (mk k 0 f []).2 (mk k 0 f []).1 ∧ ∀ c, c < 2 ^ k → has (mk k 0 f []).2 (mk k 0 f []).1 c = f c := by
  have L := mk_laid k 0 f [] (by omega) (wf_nil k)
  have hm : ∀ c, c < 2 ^ k → has (mk k 0 f []).2 (mk k 0 f []).1 c = f c := fun c hc => by rw [← has_rel]; exact L.means c hc
  refine ⟨⟨⟨by omega, by omega, hl, L.place, by simpa using L.wf.fm⟩, ?_⟩, hm⟩
  simp only [Int.toNat_natCast]
  rw [mk_congr k 0 _ f [] hm]
end Go.Proofs.Ytffefegjnbfobaa.B
