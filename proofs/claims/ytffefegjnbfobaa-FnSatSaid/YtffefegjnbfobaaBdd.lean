/- The plain law of diagrams: what the table builder lays down, and that one set has one diagram. No program here; The plain law of diagrams, second part: a diagram whose nodes stand in the order in which they are done, none twice, is what its table is laid down as; and the other way round; The plain law of diagrams, third part: a diagram with a bit fixed is no larger; more bits change nothing; all and none. -/

namespace Go.Proofs.Ytffefegjnbfobaa.B

structure Nd where
  v : Int
  lo : Int
  hi : Int
deriving DecidableEq, Inhabited

def nd (ns : List Nd) (p : Int) : Nd := ns.getD (p - 2).toNat ⟨0, 0, 0⟩

def hasF (ns : List Nd) : Nat → Int → Nat → Bool
  | 0, p, _ => p == 1
  | f + 1, p, c => if p ≤ 1 then p == 1 else hasF ns f (if c.testBit (nd ns p).v.toNat then (nd ns p).hi else (nd ns p).lo) c

def has (ns : List Nd) (p : Int) (c : Nat) : Bool := hasF ns p.toNat p c

structure Good (vars : Nat) (ns : List Nd) (k : Nat) (n : Nd) : Prop where
  v0 : 0 ≤ n.v
  v1 : n.v < vars
  ne : n.lo ≠ n.hi
  lo0 : 0 ≤ n.lo
  lo1 : n.lo ≤ k + 1
  hi0 : 0 ≤ n.hi
  hi1 : n.hi ≤ k + 1
  lov : 1 < n.lo → n.v < (nd ns n.lo).v
  hiv : 1 < n.hi → n.v < (nd ns n.hi).v

/-- All places are there and lead on. -/
def Fm (vars : Nat) (ns : List Nd) : Prop := ∀ k n, ns[k]? = some n → Good vars ns k n

structure Wf (vars : Nat) (ns : List Nd) : Prop where
  fm : Fm vars ns
  nodup : ns.Nodup

def isP (ns : List Nd) (p : Int) : Prop := 0 ≤ p ∧ p ≤ ns.length + 1

def vr (vars : Nat) (ns : List Nd) (p : Int) : Nat := if p ≤ 1 then vars else (nd ns p).v.toNat

theorem nd_get {ns : List Nd} {p : Int} (h1 : 1 < p) (h2 : p ≤ ns.length + 1) : ns[(p - 2).toNat]? = some (nd ns p) := by
  have hl : (p - 2).toNat < ns.length := by omega
  unfold nd
  rw [List.getElem?_eq_getElem hl, List.getD_eq_getElem?_getD, List.getElem?_eq_getElem hl]; rfl

theorem good {vars : Nat} {ns : List Nd} (h : Fm vars ns) {p : Int} (h1 : 1 < p) (h2 : p ≤ ns.length + 1) : Good vars ns (p - 2).toNat (nd ns p) :=
  h _ _ (nd_get h1 h2)

theorem isP_lo {vars : Nat} {ns : List Nd} (h : Fm vars ns) {p : Int} (h1 : 1 < p) (h2 : p ≤ ns.length + 1) : isP ns (nd ns p).lo ∧ (nd ns p).lo < p := by
  have g := good h h1 h2
  have a := g.lo0; have b := g.lo1
  unfold isP
  omega
theorem isP_hi {vars : Nat} {ns : List Nd} (h : Fm vars ns) {p : Int} (h1 : 1 < p) (h2 : p ≤ ns.length + 1) : isP ns (nd ns p).hi ∧ (nd ns p).hi < p := by
  have g := good h h1 h2
  have a := g.hi0; have b := g.hi1
  unfold isP
  omega

theorem hasF_small (ns : List Nd) (f : Nat) (p : Int) (c : Nat) (h : p ≤ 1) : hasF ns f p c = (p == 1) := by
  cases f with
  | zero => rfl
  | succ f => simp [hasF, h]

theorem hasF_fuel {vars : Nat} {ns : List Nd} (h : Fm vars ns) (c : Nat) : ∀ (f g : Nat) (p : Int), isP ns p → p.toNat ≤ f → p.toNat ≤ g → hasF ns f p c = hasF ns g p c := by
  intro f
  induction f with
  | zero =>
    intro g p hp hf hg
    have : p ≤ 1 := by omega
    rw [hasF_small ns _ p c this, hasF_small ns _ p c this]
  | succ f ih =>
    intro g p hp hf hg
    by_cases h1 : p ≤ 1
    · rw [hasF_small ns _ p c h1, hasF_small ns _ p c h1]
    · obtain ⟨g, rfl⟩ : ∃ m, g = m + 1 := ⟨g - 1, by omega⟩
      simp only [hasF, if_neg h1]
      have hl := isP_lo h (p := p) (by omega) hp.2
      have hh := isP_hi h (p := p) (by omega) hp.2
      by_cases hb : c.testBit (nd ns p).v.toNat
      · simp only [hb, if_true]
        exact ih _ _ hh.1 (by have := hh.1.1; omega) (by have := hh.1.1; omega)
      · simp only [hb]
        exact ih _ _ hl.1 (by have := hl.1.1; omega) (by have := hl.1.1; omega)

theorem has_small (ns : List Nd) (p : Int) (c : Nat) (h : p ≤ 1) : has ns p c = (p == 1) := hasF_small ns _ p c h

theorem has_step {vars : Nat} {ns : List Nd} (h : Fm vars ns) {p : Int} (h1 : 1 < p) (h2 : p ≤ ns.length + 1) (c : Nat) :
    has ns p c = has ns (if c.testBit (nd ns p).v.toNat then (nd ns p).hi else (nd ns p).lo) c := by
  have hl := isP_lo h h1 h2
  have hh := isP_hi h h1 h2
  unfold has
  obtain ⟨f, hf⟩ : ∃ m, p.toNat = m + 1 := ⟨p.toNat - 1, by omega⟩
  rw [hf]
  simp only [hasF, if_neg (show ¬ p ≤ 1 by omega)]
  by_cases hb : c.testBit (nd ns p).v.toNat
  · simp only [hb, if_true]
    exact hasF_fuel h c _ _ _ hh.1 (by have := hh.1.1; omega) (by omega)
  · simp only [hb]
    exact hasF_fuel h c _ _ _ hl.1 (by have := hl.1.1; omega) (by omega)

theorem has_hi {vars : Nat} {ns : List Nd} (h : Fm vars ns) {p : Int} (h1 : 1 < p) (h2 : p ≤ ns.length + 1) {c : Nat} (hb : c.testBit (nd ns p).v.toNat = true) : has ns p c = has ns (nd ns p).hi c := by
  rw [has_step h h1 h2, if_pos hb]
theorem has_lo {vars : Nat} {ns : List Nd} (h : Fm vars ns) {p : Int} (h1 : 1 < p) (h2 : p ≤ ns.length + 1) {c : Nat} (hb : c.testBit (nd ns p).v.toNat = false) : has ns p c = has ns (nd ns p).lo c := by
  rw [has_step h h1 h2, if_neg (by simp [hb])]

theorem vr_small (vars : Nat) (ns : List Nd) {p : Int} (h : p ≤ 1) : vr vars ns p = vars := by simp [vr, h]
theorem vr_node (vars : Nat) (ns : List Nd) {p : Int} (h : 1 < p) : vr vars ns p = (nd ns p).v.toNat := by simp [vr, show ¬ p ≤ 1 by omega]
theorem vr_lt {vars : Nat} {ns : List Nd} (h : Fm vars ns) {p : Int} (h1 : 1 < p) (h2 : p ≤ ns.length + 1) : vr vars ns p < vars := by
  rw [vr_node vars ns h1]
  have g := good h h1 h2
  have := g.v0; have := g.v1
  omega
theorem vr_le {vars : Nat} {ns : List Nd} (h : Fm vars ns) {p : Int} (hp : isP ns p) : vr vars ns p ≤ vars := by
  by_cases h1 : p ≤ 1
  · rw [vr_small vars ns h1]; exact Nat.le_refl _
  · exact Nat.le_of_lt (vr_lt h (by omega) hp.2)
theorem vr_lo {vars : Nat} {ns : List Nd} (h : Fm vars ns) {p : Int} (h1 : 1 < p) (h2 : p ≤ ns.length + 1) : vr vars ns p < vr vars ns (nd ns p).lo := by
  have g := good h h1 h2
  by_cases hl : (nd ns p).lo ≤ 1
  · rw [vr_small vars ns hl]; exact vr_lt h h1 h2
  · rw [vr_node vars ns h1, vr_node vars ns (by omega)]
    have := g.lov (by omega); have := g.v0; omega
theorem vr_hi {vars : Nat} {ns : List Nd} (h : Fm vars ns) {p : Int} (h1 : 1 < p) (h2 : p ≤ ns.length + 1) : vr vars ns p < vr vars ns (nd ns p).hi := by
  have g := good h h1 h2
  by_cases hl : (nd ns p).hi ≤ 1
  · rw [vr_small vars ns hl]; exact vr_lt h h1 h2
  · rw [vr_node vars ns h1, vr_node vars ns (by omega)]
    have := g.hiv (by omega); have := g.v0; omega

/-- Bits ahead of a place's variable don't count. -/
theorem has_bits {vars : Nat} {ns : List Nd} (h : Fm vars ns) : ∀ (f : Nat) (p : Int), p.toNat ≤ f → isP ns p → ∀ c d : Nat, (∀ i, vr vars ns p ≤ i → c.testBit i = d.testBit i) → has ns p c = has ns p d := by
  intro f
  induction f with
  | zero =>
    intro p hf hp c d _
    rw [has_small ns p c (by omega), has_small ns p d (by omega)]
  | succ f ih =>
    intro p hf hp c d hcd
    by_cases h1 : p ≤ 1
    · rw [has_small ns p c h1, has_small ns p d h1]
    · have h1 : 1 < p := by omega
      have hl := isP_lo h h1 hp.2
      have hh := isP_hi h h1 hp.2
      have e : c.testBit (nd ns p).v.toNat = d.testBit (nd ns p).v.toNat := hcd _ (by rw [vr_node vars ns h1]; exact Nat.le_refl _)
      by_cases hb : c.testBit (nd ns p).v.toNat = true
      · rw [has_hi h h1 hp.2 hb, has_hi h h1 hp.2 (e ▸ hb)]
        exact ih _ (by have := hh.1.1; omega) hh.1 c d fun i hi => hcd i (Nat.le_of_lt (Nat.lt_of_lt_of_le (vr_hi h h1 hp.2) hi))
      · have hb : c.testBit (nd ns p).v.toNat = false := by simpa using hb
        rw [has_lo h h1 hp.2 hb, has_lo h h1 hp.2 (e ▸ hb)]
        exact ih _ (by have := hl.1.1; omega) hl.1 c d fun i hi => hcd i (Nat.le_of_lt (Nat.lt_of_lt_of_le (vr_lo h h1 hp.2) hi))

theorem tb_mul (i v j : Nat) : (i * 2 ^ v).testBit j = (decide (v ≤ j) && i.testBit (j - v)) := by
  rw [← Nat.shiftLeft_eq, Nat.testBit_shiftLeft]

theorem tb_two (i j : Nat) : (2 * i).testBit j = (decide (1 ≤ j) && i.testBit (j - 1)) := by
  have := tb_mul i 1 j
  rw [show i * 2 ^ 1 = 2 * i from by omega] at this
  exact this
theorem tb_odd (i j : Nat) : (2 * i + 1).testBit j = (if j = 0 then true else i.testBit (j - 1)) := by
  cases j with
  | zero => simp
  | succ j => rw [Nat.testBit_succ]; simp [show (2 * i + 1) / 2 = i by omega]

/-- What a place means for the bits from v on. -/
def rel (ns : List Nd) (v : Nat) (p : Int) (i : Nat) : Bool := has ns p (i * 2 ^ v)

theorem rel_skip {vars : Nat} {ns : List Nd} (h : Fm vars ns) {p : Int} (hp : isP ns p) {v : Nat} (hv : v < vr vars ns p) (i : Nat) :
    rel ns v p (2 * i) = rel ns (v + 1) p i ∧ rel ns v p (2 * i + 1) = rel ns (v + 1) p i := by
  constructor
  · refine has_bits h _ p (Nat.le_refl _) hp _ _ fun j hj => ?_
    rw [show 2 * i * 2 ^ v = i * 2 ^ (v + 1) from by rw [Nat.pow_succ]; ac_rfl]
  · refine has_bits h _ p (Nat.le_refl _) hp _ _ fun j hj => ?_
    rw [tb_mul, tb_mul, tb_odd, if_neg (by omega), show j - v - 1 = j - (v + 1) from by omega]
    simp [show v ≤ j by omega, show v + 1 ≤ j by omega]

theorem rel_lo {vars : Nat} {ns : List Nd} (h : Fm vars ns) {p : Int} (h1 : 1 < p) (h2 : p ≤ ns.length + 1) {v : Nat} (hv : vr vars ns p = v) (i : Nat) :
    rel ns v p (2 * i) = rel ns (v + 1) (nd ns p).lo i := by
  have e : v = (nd ns p).v.toNat := by rw [← hv, vr_node vars ns h1]
  unfold rel
  rw [has_lo h h1 h2 (by rw [← e, tb_mul, tb_two]; simp)]
  rw [show 2 * i * 2 ^ v = i * 2 ^ (v + 1) from by rw [Nat.pow_succ]; ac_rfl]
theorem rel_hi {vars : Nat} {ns : List Nd} (h : Fm vars ns) {p : Int} (h1 : 1 < p) (h2 : p ≤ ns.length + 1) {v : Nat} (hv : vr vars ns p = v) (i : Nat) :
    rel ns v p (2 * i + 1) = rel ns (v + 1) (nd ns p).hi i := by
  have e : v = (nd ns p).v.toNat := by rw [← hv, vr_node vars ns h1]
  have hh := isP_hi h h1 h2
  unfold rel
  rw [has_hi h h1 h2 (by rw [← e, tb_mul, tb_odd]; simp)]
  refine has_bits h _ _ (Nat.le_refl _) hh.1 _ _ fun j hj => ?_
  have hj : v < j := by have := vr_hi h h1 h2; omega
  rw [tb_mul, tb_mul, tb_odd, if_neg (by omega), show j - v - 1 = j - (v + 1) from by omega]
  simp [show v ≤ j by omega, show v + 1 ≤ j by omega]

/-- One set has one place. -/
theorem canon {vars : Nat} {ns : List Nd} (h : Wf vars ns) : ∀ (k v : Nat) (p q : Int), v + k = vars → isP ns p → isP ns q → v ≤ vr vars ns p → v ≤ vr vars ns q →
    (∀ i, i < 2 ^ k → rel ns v p i = rel ns v q i) → p = q := by
  intro k
  induction k with
  | zero =>
    intro v p q hv hp hq hvp hvq he
    have p1 : p ≤ 1 := by
      rcases Int.lt_or_le 1 p with h1 | h1
      · have := vr_lt h.fm h1 hp.2; omega
      · exact h1
    have q1 : q ≤ 1 := by
      rcases Int.lt_or_le 1 q with h1 | h1
      · have := vr_lt h.fm h1 hq.2; omega
      · exact h1
    have := he 0 (by simp)
    unfold rel at this
    rw [has_small ns p _ p1, has_small ns q _ q1] at this
    have a := hp.1; have b := hq.1
    rcases (show p = 0 ∨ p = 1 by omega) with rfl | rfl <;> rcases (show q = 0 ∨ q = 1 by omega) with rfl | rfl <;> simp_all
  | succ k ih =>
    intro v p q hv hp hq hvp hvq he
    have sub : ∀ {x : Int}, isP ns x → v = vr vars ns x → 1 < x := by
      intro x hx hvx
      rcases Int.lt_or_le 1 x with h1 | h1
      · exact h1
      · rw [vr_small vars ns h1] at hvx; omega
    have key : ∀ x y : Int, isP ns x → isP ns y → v = vr vars ns x → v < vr vars ns y → (∀ i, i < 2 ^ (k + 1) → rel ns v x i = rel ns v y i) → False := by
      intro x y hx hy hvx hvy hxy
      have h1 := sub hx hvx
      have hl := isP_lo h.fm h1 hx.2
      have hh := isP_hi h.fm h1 hx.2
      refine (good h.fm h1 hx.2).ne (ih (v + 1) _ _ (by omega) hl.1 hh.1 (by have := vr_lo h.fm h1 hx.2; omega) (by have := vr_hi h.fm h1 hx.2; omega) fun i hi => ?_)
      have e0 := hxy (2 * i) (by rw [Nat.pow_succ]; omega)
      have e1 := hxy (2 * i + 1) (by rw [Nat.pow_succ]; omega)
      rw [rel_lo h.fm h1 hx.2 hvx.symm, (rel_skip h.fm hy hvy i).1] at e0
      rw [rel_hi h.fm h1 hx.2 hvx.symm, (rel_skip h.fm hy hvy i).2] at e1
      rw [e0, e1]
    rcases Nat.lt_or_eq_of_le hvp with hp' | hp' <;> rcases Nat.lt_or_eq_of_le hvq with hq' | hq'
    · refine ih (v + 1) p q (by omega) hp hq hp' hq' fun i hi => ?_
      have e := he (2 * i) (by rw [Nat.pow_succ]; omega)
      rw [(rel_skip h.fm hp hp' i).1, (rel_skip h.fm hq hq' i).1] at e
      exact e
    · exact (key q p hq hp hq' hp' fun i hi => (he i hi).symm).elim
    · exact (key p q hp hq hp' hq' he).elim
    · have p1 := sub hp hp'
      have q1 := sub hq hq'
      have hl := isP_lo h.fm p1 hp.2
      have hh := isP_hi h.fm p1 hp.2
      have ql := isP_lo h.fm q1 hq.2
      have qh := isP_hi h.fm q1 hq.2
      have a := ih (v + 1) (nd ns p).lo (nd ns q).lo (by omega) hl.1 ql.1 (by have := vr_lo h.fm p1 hp.2; omega) (by have := vr_lo h.fm q1 hq.2; omega) fun i hi => by
        have e := he (2 * i) (by rw [Nat.pow_succ]; omega)
        rwa [rel_lo h.fm p1 hp.2 hp'.symm, rel_lo h.fm q1 hq.2 hq'.symm] at e
      have b := ih (v + 1) (nd ns p).hi (nd ns q).hi (by omega) hh.1 qh.1 (by have := vr_hi h.fm p1 hp.2; omega) (by have := vr_hi h.fm q1 hq.2; omega) fun i hi => by
        have e := he (2 * i + 1) (by rw [Nat.pow_succ]; omega)
        rwa [rel_hi h.fm p1 hp.2 hp'.symm, rel_hi h.fm q1 hq.2 hq'.symm] at e
      have c : (nd ns p).v = (nd ns q).v := by
        have x := hp'; have y := hq'
        rw [vr_node vars ns p1] at x
        rw [vr_node vars ns q1] at y
        have := (good h.fm p1 hp.2).v0; have := (good h.fm q1 hq.2).v0
        omega
      have e : nd ns p = nd ns q := by
        cases hnp : nd ns p; cases hnq : nd ns q
        simp_all
      have gp := nd_get p1 hp.2
      have gq := nd_get q1 hq.2
      rw [e] at gp
      have lp : (p - 2).toNat < ns.length := by have := hp.2; omega
      have := (List.getElem?_inj lp h.nodup).1 (gp.trans gq.symm)
      omega


/-! ### laying a table down -/
def push (n : Nd) (ns : List Nd) : Int × List Nd := if n ∈ ns then ((ns.idxOf n : Int) + 2, ns) else ((ns.length : Int) + 2, ns ++ [n])

def mk : Nat → Nat → (Nat → Bool) → List Nd → Int × List Nd
  | 0, _, f, ns => (if f 0 then 1 else 0, ns)
  | k + 1, v, f, ns =>
    let a := mk k (v + 1) (fun i => f (2 * i)) ns
    let b := mk k (v + 1) (fun i => f (2 * i + 1)) a.2
    if a.1 = b.1 then (a.1, b.2) else push ⟨v, a.1, b.1⟩ b.2

theorem mk_congr : ∀ (k v : Nat) (f g : Nat → Bool) (ns : List Nd), (∀ i, i < 2 ^ k → f i = g i) → mk k v f ns = mk k v g ns := by
  intro k
  induction k with
  | zero => intro v f g ns h; simp only [mk]; rw [h 0 (by simp)]
  | succ k ih =>
    intro v f g ns h
    have e0 := ih (v + 1) (fun i => f (2 * i)) (fun i => g (2 * i)) ns fun i hi => h _ (by rw [Nat.pow_succ]; omega)
    simp only [mk]
    rw [e0, ih (v + 1) (fun i => f (2 * i + 1)) (fun i => g (2 * i + 1)) _ fun i hi => h _ (by rw [Nat.pow_succ]; omega)]

theorem nd_app {ns ms : List Nd} (h : ns <+: ms) {p : Int} (h1 : 1 < p) (h2 : p ≤ ns.length + 1) : nd ms p = nd ns p := by
  obtain ⟨t, rfl⟩ := h
  have hl : (p - 2).toNat < ns.length := by omega
  simp [nd, List.getD_eq_getElem?_getD, List.getElem?_append_left hl]

theorem hasF_app {vars : Nat} {ns ms : List Nd} (hf : Fm vars ns) (h : ns <+: ms) (c : Nat) : ∀ (f : Nat) (p : Int), isP ns p → hasF ms f p c = hasF ns f p c := by
  intro f
  induction f with
  | zero => intro p _; rfl
  | succ f ih =>
    intro p hp
    simp only [hasF]
    by_cases h1 : p ≤ 1
    · simp [h1]
    · rw [if_neg h1, if_neg h1, nd_app h (by omega) hp.2]
      by_cases hb : c.testBit (nd ns p).v.toNat
      · simp only [hb, if_true]; exact ih _ (isP_hi hf (by omega) hp.2).1
      · simp only [hb]; exact ih _ (isP_lo hf (by omega) hp.2).1

theorem has_app {vars : Nat} {ns ms : List Nd} (hf : Fm vars ns) (h : ns <+: ms) {p : Int} (hp : isP ns p) (c : Nat) : has ms p c = has ns p c := hasF_app hf h c _ p hp
theorem rel_app {vars : Nat} {ns ms : List Nd} (hf : Fm vars ns) (h : ns <+: ms) {p : Int} (hp : isP ns p) (v i : Nat) : rel ms v p i = rel ns v p i := has_app hf h hp _
theorem isP_app {ns ms : List Nd} (h : ns <+: ms) {p : Int} (hp : isP ns p) : isP ms p := by
  have := h.length_le
  have := hp.1; have := hp.2
  unfold isP; omega
theorem vr_app {vars : Nat} {ns ms : List Nd} (h : ns <+: ms) {p : Int} (hp : isP ns p) : vr vars ms p = vr vars ns p := by
  by_cases h1 : p ≤ 1
  · rw [vr_small _ _ h1, vr_small _ _ h1]
  · rw [vr_node _ _ (by omega), vr_node _ _ (by omega), nd_app h (by omega) hp.2]

theorem good_app {vars : Nat} {ns ms : List Nd} (h : ns <+: ms) {k : Nat} (hk : k ≤ ns.length) {n : Nd} (g : Good vars ns k n) : Good vars ms k n :=
  ⟨g.v0, g.v1, g.ne, g.lo0, g.lo1, g.hi0, g.hi1, fun hl => by rw [nd_app h hl (by have := g.lo1; omega)]; exact g.lov hl, fun hl => by rw [nd_app h hl (by have := g.hi1; omega)]; exact g.hiv hl⟩

/-- What laying down a table gives. -/
structure Laid (vars v k : Nat) (f : Nat → Bool) (ns : List Nd) (r : Int × List Nd) : Prop where
  wf : Wf vars r.2
  pre : ns <+: r.2
  place : isP r.2 r.1
  var : v ≤ vr vars r.2 r.1
  means : ∀ i, i < 2 ^ k → rel r.2 v r.1 i = f i

theorem fm_snoc {vars : Nat} {ns : List Nd} (h : Fm vars ns) {n : Nd} (g : Good vars ns ns.length n) : Fm vars (ns ++ [n]) := by
  intro k m hk
  have hpre : ns <+: ns ++ [n] := List.prefix_append _ _
  by_cases hl : k < ns.length
  · rw [List.getElem?_append_left hl] at hk
    exact good_app hpre (Nat.le_of_lt hl) (h k m hk)
  · rw [List.getElem?_append_right (by omega)] at hk
    have : k = ns.length := by
      have := (List.getElem?_eq_some_iff.1 hk).1
      simp at this; omega
    subst this
    simp at hk
    subst hk
    exact good_app hpre (Nat.le_refl _) g

theorem rel_node {vars : Nat} {ns : List Nd} (h : Fm vars ns) {p : Int} (h1 : 1 < p) (h2 : p ≤ ns.length + 1) {v k : Nat} {f : Nat → Bool} (hv : vr vars ns p = v)
    (hlo : ∀ i, i < 2 ^ k → rel ns (v + 1) (nd ns p).lo i = f (2 * i)) (hhi : ∀ i, i < 2 ^ k → rel ns (v + 1) (nd ns p).hi i = f (2 * i + 1)) : ∀ i, i < 2 ^ (k + 1) → rel ns v p i = f i := by
  intro i hi
  rw [Nat.pow_succ] at hi
  rcases (show i = 2 * (i / 2) ∨ i = 2 * (i / 2) + 1 by omega) with e | e
  · rw [e, rel_lo h h1 h2 hv, hlo _ (by omega)]
  · rw [e, rel_hi h h1 h2 hv, hhi _ (by omega)]

theorem push_laid {vars v k : Nat} {f : Nat → Bool} {ns : List Nd} (hw : Wf vars ns) {lo hi : Int} (hv : v < vars) (hlo : isP ns lo) (hhi : isP ns hi) (hne : lo ≠ hi) (hlv : v + 1 ≤ vr vars ns lo) (hhv : v + 1 ≤ vr vars ns hi)
    (hml : ∀ i, i < 2 ^ k → rel ns (v + 1) lo i = f (2 * i)) (hmh : ∀ i, i < 2 ^ k → rel ns (v + 1) hi i = f (2 * i + 1)) : Laid vars v (k + 1) f ns (push ⟨v, lo, hi⟩ ns) := by
  by_cases hin : (⟨v, lo, hi⟩ : Nd) ∈ ns
  · have hlt : ns.idxOf (⟨v, lo, hi⟩ : Nd) < ns.length := List.idxOf_lt_length_of_mem hin
    have hget : ns[ns.idxOf (⟨v, lo, hi⟩ : Nd)]? = some ⟨v, lo, hi⟩ := by rw [List.getElem?_eq_getElem hlt]; simp
    have e : nd ns ((ns.idxOf (⟨v, lo, hi⟩ : Nd) : Int) + 2) = ⟨v, lo, hi⟩ := by
      unfold nd
      rw [show (((ns.idxOf (⟨v, lo, hi⟩ : Nd) : Int) + 2) - 2).toNat = ns.idxOf (⟨v, lo, hi⟩ : Nd) by omega, List.getD_eq_getElem?_getD, hget]; rfl
    have evr : vr vars ns ((ns.idxOf (⟨v, lo, hi⟩ : Nd) : Int) + 2) = v := by rw [vr_node _ _ (by omega), e]; simp
    unfold push
    rw [if_pos hin]
    exact ⟨hw, List.prefix_refl _, ⟨by omega, by simp; omega⟩, by rw [evr]; exact Nat.le_refl _, rel_node hw.fm (by omega) (by simp; omega) evr (by rw [e]; exact hml) (by rw [e]; exact hmh)⟩
  · unfold push
    rw [if_neg hin]
    have hpre : ns <+: ns ++ [(⟨v, lo, hi⟩ : Nd)] := List.prefix_append _ _
    have g : Good vars ns ns.length ⟨v, lo, hi⟩ := ⟨by simp, by simp; omega, hne, hlo.1, hlo.2, hhi.1, hhi.2,
      fun h => by have := vr_node vars ns (p := lo) h; rw [this] at hlv; show (v : Int) < (nd ns lo).v; omega, fun h => by have := vr_node vars ns (p := hi) h; rw [this] at hhv; show (v : Int) < (nd ns hi).v; omega⟩
    have hfm := fm_snoc hw.fm g
    have e : nd (ns ++ [(⟨v, lo, hi⟩ : Nd)]) ((ns.length : Int) + 2) = ⟨v, lo, hi⟩ := by
      unfold nd
      rw [show (((ns.length : Int) + 2) - 2).toNat = ns.length by omega]; simp [List.getD_eq_getElem?_getD]
    have evr : vr vars (ns ++ [(⟨v, lo, hi⟩ : Nd)]) ((ns.length : Int) + 2) = v := by rw [vr_node _ _ (by omega), e]; simp
    refine ⟨⟨hfm, ?_⟩, hpre, ⟨by omega, by simp; omega⟩, by rw [evr]; exact Nat.le_refl _, rel_node hfm (by omega) (by simp; omega) evr (by rw [e]; exact fun i hi => by rw [rel_app hw.fm hpre hlo]; exact hml i hi) (by rw [e]; exact fun i hi => by rw [rel_app hw.fm hpre hhi]; exact hmh i hi)⟩
    rw [List.nodup_append]
    exact ⟨hw.nodup, by simp, fun a ha b hb => by simp at hb; subst hb; rintro rfl; exact hin ha⟩

theorem mk_laid {vars : Nat} : ∀ (k v : Nat) (f : Nat → Bool) (ns : List Nd), v + k = vars → Wf vars ns → Laid vars v k f ns (mk k v f ns) := by
  intro k
  induction k with
  | zero =>
    intro v f ns hv hw
    simp only [mk]
    have h1 : (if f 0 = true then (1 : Int) else 0) ≤ 1 := by split <;> omega
    refine ⟨hw, List.prefix_refl _, ⟨by split <;> omega, by dsimp only; omega⟩, by rw [vr_small _ _ h1]; omega, fun i hi => ?_⟩
    obtain rfl : i = 0 := by simpa using hi
    unfold rel
    rw [has_small _ _ _ h1]
    cases f 0 <;> rfl
  | succ k ih =>
    intro v f ns hv hw
    have A := ih (v + 1) (fun i => f (2 * i)) ns (by omega) hw
    have B := ih (v + 1) (fun i => f (2 * i + 1)) (mk k (v + 1) (fun i => f (2 * i)) ns).2 (by omega) A.wf
    simp only [mk]
    generalize mk k (v + 1) (fun i => f (2 * i)) ns = a at A B ⊢
    generalize mk k (v + 1) (fun i => f (2 * i + 1)) a.2 = b at B ⊢
    have ap := isP_app B.pre A.place
    have av : v + 1 ≤ vr vars b.2 a.1 := by rw [vr_app B.pre A.place]; exact A.var
    have am : ∀ i, i < 2 ^ k → rel b.2 (v + 1) a.1 i = f (2 * i) := fun i hi => by rw [rel_app A.wf.fm B.pre A.place]; exact A.means i hi
    by_cases e : a.1 = b.1
    · rw [if_pos e]
      refine ⟨B.wf, A.pre.trans B.pre, ap, by dsimp only; omega, fun i hi => ?_⟩
      have hskip := rel_skip B.wf.fm ap (v := v) (by omega) (i / 2)
      rw [Nat.pow_succ] at hi
      dsimp only
      rcases (show i = 2 * (i / 2) ∨ i = 2 * (i / 2) + 1 by omega) with e' | e'
      · rw [e', hskip.1, am _ (by omega)]
      · rw [e', hskip.2, e, B.means _ (by omega)]
    · rw [if_neg e]
      have R := push_laid (f := f) (k := k) B.wf (by omega) ap B.place e av B.var am B.means
      exact ⟨R.wf, (A.pre.trans B.pre).trans R.pre, R.place, R.var, R.means⟩

theorem wf_nil (vars : Nat) : Wf vars [] := ⟨fun k n h => by simp at h, by simp⟩

/-- What is there already is found. -/
theorem mk_there {vars : Nat} {ns : List Nd} (hw : Wf vars ns) : ∀ (k v : Nat) (f : Nat → Bool) (p : Int), v + k = vars → isP ns p → v ≤ vr vars ns p → (∀ i, i < 2 ^ k → rel ns v p i = f i) → mk k v f ns = (p, ns) := by
  intro k v f p hv hp hvp hm
  have sub : ∀ {x : Int} {v : Nat}, isP ns x → v < vars → v = vr vars ns x → 1 < x := by
    intro x v hx hlt hvx
    rcases Int.lt_or_le 1 x with h1 | h1
    · exact h1
    · rw [vr_small vars ns h1] at hvx; omega
  induction k generalizing v f p with
  | zero =>
    have p1 : p ≤ 1 := by
      rcases Int.lt_or_le 1 p with h1 | h1
      · have := vr_lt hw.fm h1 hp.2; omega
      · exact h1
    have := hm 0 (by simp)
    unfold rel at this
    rw [has_small _ _ _ p1] at this
    simp only [mk]
    have a := hp.1
    rcases (show p = 0 ∨ p = 1 by omega) with rfl | rfl
    · rw [← this]; rfl
    · rw [← this]; rfl
  | succ k ih =>
    simp only [mk]
    have h2 : ∀ i, i < 2 ^ k → 2 * i < 2 ^ (k + 1) ∧ 2 * i + 1 < 2 ^ (k + 1) := fun i hi => by rw [Nat.pow_succ]; omega
    rcases Nat.lt_or_eq_of_le hvp with h | h
    · have e0 := ih (v + 1) (fun i => f (2 * i)) p (by omega) hp h fun i hi => by rw [← (rel_skip hw.fm hp h i).1]; exact hm _ (h2 i hi).1
      have e1 := ih (v + 1) (fun i => f (2 * i + 1)) p (by omega) hp h fun i hi => by rw [← (rel_skip hw.fm hp h i).2]; exact hm _ (h2 i hi).2
      rw [e0, e1]; simp
    · have h1 := sub hp (by omega) h
      have hl := isP_lo hw.fm h1 hp.2
      have hh := isP_hi hw.fm h1 hp.2
      have e0 := ih (v + 1) (fun i => f (2 * i)) (nd ns p).lo (by omega) hl.1 (by have := vr_lo hw.fm h1 hp.2; omega) fun i hi => by rw [← rel_lo hw.fm h1 hp.2 h.symm]; exact hm _ (h2 i hi).1
      have e1 := ih (v + 1) (fun i => f (2 * i + 1)) (nd ns p).hi (by omega) hh.1 (by have := vr_hi hw.fm h1 hp.2; omega) fun i hi => by rw [← rel_hi hw.fm h1 hp.2 h.symm]; exact hm _ (h2 i hi).2
      rw [e0, e1]
      have g := good hw.fm h1 hp.2
      have hvv : (v : Int) = (nd ns p).v := by have := vr_node vars ns h1; have := g.v0; omega
      rw [if_neg g.ne, hvv]
      have hget := nd_get h1 hp.2
      have hmem : nd ns p ∈ ns := List.mem_of_getElem? hget
      show push (nd ns p) ns = _
      unfold push
      rw [if_pos hmem]
      have hl : (p - 2).toNat < ns.length := by have := hp.2; omega
      have hg2 : ns[ns.idxOf (nd ns p)]? = some (nd ns p) := by rw [List.getElem?_eq_getElem (List.idxOf_lt_length_of_mem hmem)]; simp
      have : ns.idxOf (nd ns p) = (p - 2).toNat := (List.getElem?_inj (List.idxOf_lt_length_of_mem hmem) hw.nodup).1 (hg2.trans hget.symm)
      rw [this]
      congr 1
      omega

end Go.Proofs.Ytffefegjnbfobaa.B
namespace Go.Proofs.Ytffefegjnbfobaa.B

def ordF (ns : List Nd) : Nat → Int → List Int → List Int
  | 0, _, d => d
  | f + 1, r, d => if r < 2 then d else if r ∈ d then d else ordF ns f (nd ns r).hi (ordF ns f (nd ns r).lo d) ++ [r]

def ord (ns : List Nd) (r : Int) (d : List Int) : List Int := ordF ns r.toNat r d

def upto (n : Nat) : List Int := (List.range n).map fun (i : Nat) => (i : Int) + 2

structure Formed (V : Int) (ns : List Nd) (R : Int) : Prop where
  v0 : 0 ≤ V
  v1 : V ≤ 13
  len : ns.length ≤ 600
  root : isP ns R
  fm : Fm V.toNat ns

def OkI (V : Int) (ns : List Nd) (R : Int) : Prop := Formed V ns R ∧ mk V.toNat 0 (has ns R) [] = (R, ns)
def OkS (V : Int) (ns : List Nd) (R : Int) : Prop := Formed V ns R ∧ ns.Nodup ∧ ord ns R [] = upto ns.length

theorem mem_upto {n : Nat} {p : Int} : p ∈ upto n ↔ 2 ≤ p ∧ p < n + 2 := by
  unfold upto
  rw [List.mem_map]
  constructor
  · rintro ⟨a, ha, rfl⟩
    rw [List.mem_range] at ha
    omega
  · rintro ⟨h0, h1⟩
    exact ⟨(p - 2).toNat, by rw [List.mem_range]; omega, by omega⟩
theorem length_upto (n : Nat) : (upto n).length = n := by simp [upto]
theorem upto_succ (n : Nat) : upto (n + 1) = upto n ++ [(n : Int) + 2] := by simp [upto, List.range_succ]
theorem upto_inj {a b : Nat} (h : upto a = upto b) : a = b := by rw [← length_upto a, h, length_upto]
theorem prefix_upto {l : List Int} {n : Nat} (h : l <+: upto n) : l = upto l.length := by
  induction n with
  | zero =>
    have : l = [] := by simpa [upto] using h
    subst this; rfl
  | succ n ih =>
    rw [upto_succ] at h
    rcases List.prefix_concat_iff.1 h with h | h
    · rw [h, ← upto_succ, length_upto]
    · exact ih h

theorem ordF_fuel {vars : Nat} {ns : List Nd} (h : Fm vars ns) : ∀ (f g : Nat) (r : Int) (d : List Int), isP ns r → r.toNat ≤ f → r.toNat ≤ g → ordF ns f r d = ordF ns g r d := by
  intro f
  induction f with
  | zero =>
    intro g r d hr hf hg
    cases g with
    | zero => rfl
    | succ g => simp [ordF, show r < 2 by omega]
  | succ f ih =>
    intro g r d hr hf hg
    by_cases h2 : r < 2
    · cases g with
      | zero => simp [ordF, h2]
      | succ g => simp [ordF, h2]
    · obtain ⟨g, rfl⟩ : ∃ m, g = m + 1 := ⟨g - 1, by omega⟩
      have hl := isP_lo h (p := r) (by omega) hr.2
      have hh := isP_hi h (p := r) (by omega) hr.2
      simp only [ordF, if_neg h2]
      rw [ih g _ d hl.1 (by have := hl.1.1; omega) (by have := hl.1.1; omega), ih g _ _ hh.1 (by have := hh.1.1; omega) (by have := hh.1.1; omega)]

theorem ord_small (ns : List Nd) {r : Int} (h : r < 2) (d : List Int) : ord ns r d = d := by
  unfold ord
  cases r.toNat with
  | zero => rfl
  | succ f => simp [ordF, h]
theorem ord_mem (ns : List Nd) {r : Int} {d : List Int} (h : r ∈ d) : ord ns r d = d := by
  by_cases h2 : r < 2
  · exact ord_small ns h2 d
  · unfold ord
    obtain ⟨f, hf⟩ : ∃ m, r.toNat = m + 1 := ⟨r.toNat - 1, by omega⟩
    rw [hf]; simp [ordF, h]
theorem ord_new {vars : Nat} {ns : List Nd} (h : Fm vars ns) {r : Int} (h1 : 1 < r) (h2 : r ≤ ns.length + 1) {d : List Int} (hd : r ∉ d) :
    ord ns r d = ord ns (nd ns r).hi (ord ns (nd ns r).lo d) ++ [r] := by
  have hl := isP_lo h h1 h2
  have hh := isP_hi h h1 h2
  unfold ord
  obtain ⟨f, hf⟩ : ∃ m, r.toNat = m + 1 := ⟨r.toNat - 1, by omega⟩
  rw [hf]
  simp only [ordF, if_neg (show ¬ r < 2 by omega), if_neg hd]
  rw [ordF_fuel h f (nd ns r).lo.toNat _ d hl.1 (by have := hl.1.1; omega) (Nat.le_refl _), ordF_fuel h f (nd ns r).hi.toNat _ _ hh.1 (by have := hh.1.1; omega) (Nat.le_refl _)]

theorem ordF_prefix (ns : List Nd) : ∀ (f : Nat) (r : Int) (d : List Int), d <+: ordF ns f r d := by
  intro f
  induction f with
  | zero => intro r d; exact List.prefix_refl _
  | succ f ih =>
    intro r d
    simp only [ordF]
    split
    · exact List.prefix_refl _
    · split
      · exact List.prefix_refl _
      · exact ((ih _ _).trans (ih _ _)).trans (List.prefix_append _ _)
theorem ord_prefix (ns : List Nd) (r : Int) (d : List Int) : d <+: ord ns r d := ordF_prefix ns _ r d

theorem fm_take {vars : Nat} {ns : List Nd} (h : Fm vars ns) (j : Nat) : Fm vars (ns.take j) := by
  intro k n hk
  have hlt : k < (ns.take j).length := (List.getElem?_eq_some_iff.1 hk).1
  have hj : k < j := by rw [List.length_take] at hlt; omega
  rw [List.getElem?_take_of_lt hj] at hk
  have g := h k n hk
  have e : ∀ p : Int, 1 < p → p ≤ k + 1 → nd ns p = nd (ns.take j) p := fun p h1 h2 => nd_app (List.take_prefix j ns) h1 (by omega)
  exact ⟨g.v0, g.v1, g.ne, g.lo0, g.lo1, g.hi0, g.hi1, fun hl => by rw [← e _ hl g.lo1]; exact g.lov hl, fun hl => by rw [← e _ hl g.hi1]; exact g.hiv hl⟩

theorem wf_take {vars : Nat} {ns : List Nd} (h : Wf vars ns) (j : Nat) : Wf vars (ns.take j) := ⟨fm_take h.fm j, h.nodup.sublist (List.take_sublist j ns)⟩

/-- What stands in the order in which it is done is laid down so. -/
theorem mk_of_ord {vars : Nat} {ns : List Nd} (hw : Wf vars ns) : ∀ (k v : Nat) (p : Int) (j j' : Nat), v + k = vars → isP ns p → v ≤ vr vars ns p → j ≤ ns.length → j' ≤ ns.length → ord ns p (upto j) = upto j' →
    mk k v (rel ns v p) (ns.take j) = (p, ns.take j') := by
  intro k
  induction k with
  | zero =>
    intro v p j j' hv hp hvp hj hj' ho
    have p1 : p ≤ 1 := by
      rcases Int.lt_or_le 1 p with h1 | h1
      · have := vr_lt hw.fm h1 hp.2; omega
      · exact h1
    rw [ord_small ns (by omega)] at ho
    obtain rfl := upto_inj ho
    have hp' : isP (ns.take j) p := ⟨hp.1, by omega⟩
    exact mk_there (wf_take hw j) 0 v _ p hv hp' (by rw [← vr_app (List.take_prefix j ns) hp']; exact hvp) fun i _ => (rel_app (fm_take hw.fm j) (List.take_prefix j ns) hp' v i).symm
  | succ k ih =>
    intro v p j j' hv hp hvp hj hj' ho
    have there : ∀ {x : Nat} {k v : Nat}, x ≤ ns.length → p < x + 2 → v + k = vars → v ≤ vr vars ns p → mk k v (rel ns v p) (ns.take x) = (p, ns.take x) := by
      intro x k v hx hpx hv hvp
      have hp' : isP (ns.take x) p := ⟨hp.1, by rw [List.length_take]; omega⟩
      exact mk_there (wf_take hw x) k v _ p hv hp' (by rw [← vr_app (List.take_prefix x ns) hp']; exact hvp) fun i _ => (rel_app (fm_take hw.fm x) (List.take_prefix x ns) hp' v i).symm
    by_cases hold : p < j + 2
    · have e : ord ns p (upto j) = upto j := by
        by_cases h2 : p < 2
        · exact ord_small ns h2 _
        · exact ord_mem ns (mem_upto.2 ⟨by omega, hold⟩)
      rw [e] at ho
      obtain rfl := upto_inj ho
      exact there hj hold hv hvp
    · have h1 : 1 < p := by omega
      have hnew := ord_new hw.fm h1 hp.2 (d := upto j) (fun h => by have := mem_upto.1 h; omega)
      rw [ho] at hnew
      have hmem : p ∈ upto j' := by rw [hnew]; simp
      have hpj := mem_upto.1 hmem
      rcases Nat.lt_or_eq_of_le hvp with h | h
      · simp only [mk]
        have e0 : (fun i => rel ns v p (2 * i)) = rel ns (v + 1) p := funext fun i => (rel_skip hw.fm hp h i).1
        have e1 : (fun i => rel ns v p (2 * i + 1)) = rel ns (v + 1) p := funext fun i => (rel_skip hw.fm hp h i).2
        rw [e0, e1, ih (v + 1) p j j' (by omega) hp h hj hj' ho]
        dsimp only
        rw [there hj' hpj.2 (by omega) h, if_pos rfl]
      · have hl := isP_lo hw.fm h1 hp.2
        have hh := isP_hi hw.fm h1 hp.2
        have hp1 : ord ns (nd ns p).hi (ord ns (nd ns p).lo (upto j)) <+: upto j' := by rw [hnew]; exact List.prefix_append _ _
        have hp2 := (ord_prefix ns (nd ns p).hi (ord ns (nd ns p).lo (upto j))).trans hp1
        have e2 := prefix_upto hp1
        have e1 := prefix_upto hp2
        generalize (ord ns (nd ns p).lo (upto j)).length = j1 at e1
        rw [e1] at hp1 hp2 e2 hnew
        generalize (ord ns (nd ns p).hi (upto j1)).length = j2 at e2
        rw [e2] at hp1 hnew
        have l1 := hp2.length_le
        have l2 := hp1.length_le
        rw [length_upto, length_upto] at l1 l2
        have l3 : j' = j2 + 1 := by
          have := congrArg List.length hnew
          simpa [length_upto] using this
        subst l3
        have ep : p = (j2 : Int) + 2 := by
          rw [upto_succ] at hnew
          have := List.append_cancel_left hnew
          simpa using this.symm
        simp only [mk]
        have f0 : (fun i => rel ns v p (2 * i)) = rel ns (v + 1) (nd ns p).lo := funext fun i => rel_lo hw.fm h1 hp.2 h.symm i
        have f1 : (fun i => rel ns v p (2 * i + 1)) = rel ns (v + 1) (nd ns p).hi := funext fun i => rel_hi hw.fm h1 hp.2 h.symm i
        rw [f0, f1, ih (v + 1) (nd ns p).lo j j1 (by omega) hl.1 (by have := vr_lo hw.fm h1 hp.2; omega) hj (by omega) e1]
        dsimp only
        rw [ih (v + 1) (nd ns p).hi j1 j2 (by omega) hh.1 (by have := vr_hi hw.fm h1 hp.2; omega) (by omega) (by omega) e2]
        dsimp only
        have g := good hw.fm h1 hp.2
        have hvv : (v : Int) = (nd ns p).v := by have := vr_node vars ns h1; have := g.v0; omega
        rw [if_neg g.ne, hvv]
        show push (nd ns p) (ns.take j2) = _
        have hget := nd_get h1 hp.2
        have ej : (p - 2).toNat = j2 := by omega
        rw [ej] at hget
        have hlt : j2 < ns.length := by omega
        have hnot : nd ns p ∉ ns.take j2 := by
          intro hin
          obtain ⟨i, hi, he⟩ := List.getElem_of_mem hin
          have hi' : i < j2 := by rw [List.length_take] at hi; omega
          have : ns[i]? = some (nd ns p) := by rw [List.getElem_take] at he; rw [List.getElem?_eq_getElem (by omega), he]
          have := (List.getElem?_inj (by omega) hw.nodup).1 (this.trans hget.symm)
          omega
        unfold push
        rw [if_neg hnot, List.take_add_one, hget, List.length_take, ep]
        simp
        omega

/-- .. the nodes that come new are no lower. -/
theorem mk_new : ∀ (k v : Nat) (f : Nat → Bool) (ns : List Nd), ∀ n ∈ (mk k v f ns).2, n ∈ ns ∨ (v : Int) ≤ n.v := by
  intro k
  induction k with
  | zero => intro v f ns n hn; exact .inl hn
  | succ k ih =>
    intro v f ns n hn
    have hA := ih (v + 1) (fun i => f (2 * i)) ns
    have hB := ih (v + 1) (fun i => f (2 * i + 1)) (mk k (v + 1) (fun i => f (2 * i)) ns).2
    simp only [mk] at hn
    generalize mk k (v + 1) (fun i => f (2 * i)) ns = a at hA hB hn
    generalize mk k (v + 1) (fun i => f (2 * i + 1)) a.2 = b at hB hn
    have hboth : n ∈ b.2 → n ∈ ns ∨ (v : Int) ≤ n.v := fun h => by
      rcases hB n h with h | h
      · rcases hA n h with h | h
        · exact .inl h
        · exact .inr (by omega)
      · exact .inr (by omega)
    split at hn
    · exact hboth hn
    · unfold push at hn
      split at hn
      · exact hboth hn
      · rcases List.mem_append.1 hn with h | h
        · exact hboth h
        · simp at h; subst h; exact .inr (Int.le_refl _)

/-- What is laid down stands in the order in which it is done. -/
theorem ord_of_mk {vars : Nat} {ns : List Nd} (hf : Fm vars ns) : ∀ (k v : Nat) (f : Nat → Bool) (ms : List Nd), v + k = vars → Wf vars ms → (mk k v f ms).2 <+: ns →
    ord ns (mk k v f ms).1 (upto ms.length) = upto (mk k v f ms).2.length := by
  intro k
  induction k with
  | zero =>
    intro v f ms hv hw hpre
    simp only [mk]
    exact ord_small ns (by split <;> omega) _
  | succ k ih =>
    intro v f ms hv hw hpre
    have L := mk_laid (k + 1) v f ms hv hw
    have A := mk_laid k (v + 1) (fun i => f (2 * i)) ms (by omega) hw
    have B := mk_laid k (v + 1) (fun i => f (2 * i + 1)) (mk k (v + 1) (fun i => f (2 * i)) ms).2 (by omega) A.wf
    have iA := ih (v + 1) (fun i => f (2 * i)) ms (by omega) hw
    have iB := ih (v + 1) (fun i => f (2 * i + 1)) (mk k (v + 1) (fun i => f (2 * i)) ms).2 (by omega) A.wf
    have nA := mk_new k (v + 1) (fun i => f (2 * i)) ms
    have nB := mk_new k (v + 1) (fun i => f (2 * i + 1)) (mk k (v + 1) (fun i => f (2 * i)) ms).2
    have hthere : ∀ p, isP ms p → v ≤ vr vars ms p → (∀ i, i < 2 ^ (k + 1) → rel ms v p i = f i) → mk (k + 1) v f ms = (p, ms) := fun p => mk_there hw (k + 1) v f p hv
    by_cases hold : ∃ p, isP ms p ∧ v ≤ vr vars ms p ∧ ∀ i, i < 2 ^ (k + 1) → rel ms v p i = f i
    · obtain ⟨p, hp, hvp, hm⟩ := hold
      rw [hthere p hp hvp hm]
      dsimp only
      by_cases h2 : p < 2
      · exact ord_small ns h2 _
      · exact ord_mem ns (mem_upto.2 ⟨by omega, by have := hp.2; omega⟩)
    · have hmeans := L.means
      have hplace := L.place
      have hvar := L.var
      have hLpre := L.pre
      simp only [mk] at hpre hmeans hplace hvar hLpre ⊢
      generalize mk k (v + 1) (fun i => f (2 * i)) ms = a at A B iA iB nA nB hpre hmeans hplace hvar hLpre ⊢
      generalize mk k (v + 1) (fun i => f (2 * i + 1)) a.2 = b at B iB nB hpre hmeans hplace hvar hLpre ⊢
      by_cases e : a.1 = b.1
      · rw [if_pos e] at hpre ⊢
        have hA := iA (B.pre.trans hpre)
        have hB := iB hpre
        rw [← e] at hB
        have same : ord ns a.1 (upto a.2.length) = upto a.2.length := by
          by_cases h2 : a.1 < 2
          · exact ord_small ns h2 _
          · exact ord_mem ns (mem_upto.2 ⟨by omega, by have := A.place.2; omega⟩)
        dsimp only
        rw [hA, ← hB, same]
      · rw [if_neg e] at hpre hmeans hplace hvar hLpre ⊢
        by_cases hin : (⟨v, a.1, b.1⟩ : Nd) ∈ b.2
        · exfalso
          have hms : (⟨v, a.1, b.1⟩ : Nd) ∈ ms := by
            rcases nB _ hin with h | h
            · rcases nA _ h with h | h
              · exact h
              · simp at h; omega
            · simp at h; omega
          have hpr := A.pre.trans B.pre
          have hlt : b.2.idxOf (⟨v, a.1, b.1⟩ : Nd) < b.2.length := List.idxOf_lt_length_of_mem hin
          have hpm : isP ms ((b.2.idxOf (⟨v, a.1, b.1⟩ : Nd) : Int) + 2) := by
            obtain ⟨i, hi, he⟩ := List.getElem_of_mem hms
            have g1 : b.2[i]? = some ⟨v, a.1, b.1⟩ := by
              obtain ⟨t, ht⟩ := hpr
              rw [← ht, List.getElem?_append_left hi, List.getElem?_eq_getElem hi, he]
            have g2 : b.2[b.2.idxOf (⟨v, a.1, b.1⟩ : Nd)]? = some ⟨v, a.1, b.1⟩ := by rw [List.getElem?_eq_getElem hlt]; simp
            have := (List.getElem?_inj hlt B.wf.nodup).1 (g2.trans g1.symm)
            exact ⟨by omega, by omega⟩
          unfold push at hmeans hplace hvar hLpre
          rw [if_pos hin] at hmeans hplace hvar hLpre
          exact hold ⟨_, hpm, by rw [← vr_app hpr hpm]; exact hvar, fun i hi => by rw [← rel_app hw.fm hpr hpm]; exact hmeans i hi⟩
        · unfold push at hpre ⊢
          rw [if_neg hin] at hpre ⊢
          have hpb : b.2 <+: ns := (List.prefix_append _ _).trans hpre
          have hA := iA (B.pre.trans hpb)
          have hB := iB hpb
          dsimp only
          have hlen := hpre.length_le
          rw [List.length_append] at hlen
          have e2 : nd ns ((b.2.length : Int) + 2) = ⟨v, a.1, b.1⟩ := by
            rw [nd_app hpre (by omega) (by simp; omega)]
            unfold nd
            rw [show (((b.2.length : Int) + 2) - 2).toNat = b.2.length by omega]; simp [List.getD_eq_getElem?_getD]
          have hms := (A.pre.trans B.pre).length_le
          rw [ord_new hf (by omega) (by simp at hlen; omega) (fun h => by have := mem_upto.1 h; omega), e2]
          dsimp only
          rw [hA, hB, List.length_append]
          exact (upto_succ _).symm

theorem rel_zero (ns : List Nd) (p : Int) : rel ns 0 p = has ns p := funext fun i => by simp [rel]

theorem okS_iff (V : Int) (ns : List Nd) (R : Int) : OkS V ns R ↔ OkI V ns R := by
  constructor
  · rintro ⟨hf, hn, ho⟩
    refine ⟨hf, ?_⟩
    have h := mk_of_ord (vars := V.toNat) ⟨hf.fm, hn⟩ V.toNat 0 R 0 ns.length (by omega) hf.root (Nat.zero_le _) (Nat.zero_le _) (Nat.le_refl _) ho
    rw [rel_zero] at h
    simpa using h
  · rintro ⟨hf, hm⟩
    have L := mk_laid (vars := V.toNat) V.toNat 0 (has ns R) [] (by omega) (wf_nil _)
    have O := ord_of_mk (vars := V.toNat) hf.fm V.toNat 0 (has ns R) [] (by omega) (wf_nil _) (by rw [hm]; exact List.prefix_refl _)
    rw [hm] at L O
    exact ⟨hf, L.wf.nodup, O⟩


theorem ordF_mem {vars : Nat} {ns : List Nd} (h : Fm vars ns) : ∀ (f : Nat) (p : Int) (d : List Int) (x : Int), isP ns p → x ∈ ordF ns f p d → x ∈ d ∨ (2 ≤ x ∧ x ≤ p) := by
  intro f
  induction f with
  | zero => intro p d x _ hx; exact .inl hx
  | succ f ih =>
    intro p d x hp hx
    simp only [ordF] at hx
    split at hx
    · exact .inl hx
    · split at hx
      · exact .inl hx
      · rename_i h2 _
        have hl := isP_lo h (p := p) (by omega) hp.2
        have hh := isP_hi h (p := p) (by omega) hp.2
        rcases List.mem_append.1 hx with hx | hx
        · rcases ih _ _ x hh.1 hx with hx | hx
          · rcases ih _ _ x hl.1 hx with hx | hx
            · exact .inl hx
            · exact .inr (by omega)
          · exact .inr (by omega)
        · simp at hx; exact .inr (by omega)

theorem ordF_nodup {vars : Nat} {ns : List Nd} (h : Fm vars ns) : ∀ (f : Nat) (p : Int) (d : List Int), isP ns p → d.Nodup → (ordF ns f p d).Nodup := by
  intro f
  induction f with
  | zero => intro p d _ hd; exact hd
  | succ f ih =>
    intro p d hp hd
    simp only [ordF]
    split
    · exact hd
    · split
      · exact hd
      · rename_i h2 hnot
        have hl := isP_lo h (p := p) (by omega) hp.2
        have hh := isP_hi h (p := p) (by omega) hp.2
        rw [List.nodup_append]
        refine ⟨ih _ _ hh.1 (ih _ _ hl.1 hd), by simp, fun a ha b hb => ?_⟩
        simp at hb
        subst hb
        rintro rfl
        rcases ordF_mem h _ _ _ _ hh.1 ha with ha | ha
        · rcases ordF_mem h _ _ _ _ hl.1 ha with ha | ha
          · exact hnot ha
          · omega
        · omega

/-- Done: places of nodes, none twice. -/
structure Done (ns : List Nd) (d : List Int) : Prop where
  nodup : d.Nodup
  rng : ∀ x, x ∈ d → 2 ≤ x ∧ x ≤ ns.length + 1

theorem Done.nil (ns : List Nd) : Done ns [] := ⟨by simp, by simp⟩
theorem Done.ord {vars : Nat} {ns : List Nd} (h : Fm vars ns) {p : Int} (hp : isP ns p) {d : List Int} (hd : Done ns d) : Done ns (ord ns p d) :=
  ⟨ordF_nodup h _ p d hp hd.nodup, fun x hx => by
    rcases ordF_mem h _ p d x hp hx with hx | hx
    · exact hd.rng x hx
    · exact ⟨hx.1, by have := hp.2; omega⟩⟩

theorem nodup_bounded : ∀ (n : Nat) (l : List Int), l.Nodup → (∀ x, x ∈ l → 2 ≤ x ∧ x < (n : Int) + 2) → l.length ≤ n := by
  intro n
  induction n with
  | zero =>
    intro l _ h
    cases l with
    | nil => simp
    | cons x l => have := h x (by simp); omega
  | succ n ih =>
    intro l hn h
    by_cases hm : ((n : Int) + 2) ∈ l
    · have h1 := List.length_erase_of_mem hm
      have h2 := ih (l.erase ((n : Int) + 2)) (hn.erase _) fun x hx => by
        have hx' := (List.Nodup.mem_erase_iff hn).1 hx
        have := h x hx'.2
        have := hx'.1
        omega
      have : 0 < l.length := List.length_pos_of_mem hm
      omega
    · have := ih l hn fun x hx => by
        have := h x hx
        have : x ≠ (n : Int) + 2 := fun e => hm (e ▸ hx)
        omega
      omega
theorem Done.len {ns : List Nd} {d : List Int} (h : Done ns d) : d.length ≤ ns.length := nodup_bounded ns.length d h.nodup fun x hx => by have := h.rng x hx; omega

end Go.Proofs.Ytffefegjnbfobaa.B
namespace Go.Proofs.Ytffefegjnbfobaa.B

/-- The number with a bit set to b. -/
def setb (i : Nat) (b : Bool) (c : Nat) : Nat := if c.testBit i = b then c else c ^^^ 2 ^ i

theorem setb_bit (i : Nat) (b : Bool) (c j : Nat) : (setb i b c).testBit j = if j = i then b else c.testBit j := by
  unfold setb
  by_cases h : c.testBit i = b
  · rw [if_pos h]
    by_cases e : j = i
    · subst e; simp [h]
    · simp [e]
  · rw [if_neg h, Nat.testBit_xor, Nat.testBit_two_pow]
    by_cases e : j = i
    · subst e
      cases b <;> simp at h <;> simp [h]
    · simp [e, Ne.symm e]

/-- What is looked at from bit v on, where bit i is set to b. -/
def sv (i : Nat) (b : Bool) (v j : Nat) : Nat := if v ≤ i then setb (i - v) b j else j

theorem tb_cons (x : Nat) (s : Bool) (t : Nat) : (2 * x + s.toNat).testBit t = if t = 0 then s else x.testBit (t - 1) := by
  cases s
  · simp only [Bool.toNat_false, Nat.add_zero]
    rw [tb_two]
    by_cases h : t = 0
    · simp [h]
    · simp [h]; omega
  · simp only [Bool.toNat_true]
    rw [tb_odd]

theorem setb_zero (b s : Bool) (j : Nat) : setb 0 b (2 * j + s.toNat) = 2 * j + b.toNat := by
  apply Nat.eq_of_testBit_eq
  intro t
  rw [setb_bit, tb_cons, tb_cons]
  by_cases h : t = 0 <;> simp [h]
theorem setb_succ (d : Nat) (b s : Bool) (j : Nat) : setb (d + 1) b (2 * j + s.toNat) = 2 * setb d b j + s.toNat := by
  apply Nat.eq_of_testBit_eq
  intro t
  rw [setb_bit, tb_cons, tb_cons, setb_bit]
  cases t with
  | zero => simp
  | succ t => simp

theorem sv_step (i : Nat) (b : Bool) (v : Nat) : ∃ s : Bool → Bool, ∀ (j : Nat) (x : Bool), sv i b v (2 * j + x.toNat) = 2 * sv i b (v + 1) j + (s x).toNat := by
  rcases Nat.lt_trichotomy v i with h | h | h
  · refine ⟨id, fun j x => ?_⟩
    unfold sv
    rw [if_pos (by omega), if_pos (by omega), show i - v = i - (v + 1) + 1 by omega, setb_succ]; rfl
  · subst h
    refine ⟨fun _ => b, fun j x => ?_⟩
    unfold sv
    rw [if_pos (by omega), if_neg (by omega), Nat.sub_self, setb_zero]
  · refine ⟨id, fun j x => ?_⟩
    unfold sv
    rw [if_neg (by omega), if_neg (by omega)]; rfl

theorem rel_bit {vars : Nat} {ns : List Nd} (h : Fm vars ns) {p : Int} (h1 : 1 < p) (h2 : p ≤ ns.length + 1) {v : Nat} (hv : vr vars ns p = v) (x : Nat) (s : Bool) :
    rel ns v p (2 * x + s.toNat) = rel ns (v + 1) (if s then (nd ns p).hi else (nd ns p).lo) x := by
  cases s
  · exact rel_lo h h1 h2 hv x
  · exact rel_hi h h1 h2 hv x
theorem rel_pass {vars : Nat} {ns : List Nd} (h : Fm vars ns) {p : Int} (hp : isP ns p) {v : Nat} (hv : v < vr vars ns p) (x : Nat) (s : Bool) :
    rel ns v p (2 * x + s.toNat) = rel ns (v + 1) p x := by
  cases s
  · exact (rel_skip h hp hv x).1
  · exact (rel_skip h hp hv x).2

theorem big_of_vr {vars : Nat} {ns : List Nd} {p : Int} {v : Nat} (hv : vr vars ns p = v) (hlt : v < vars) : 1 < p := by
  rcases Int.lt_or_le 1 p with h | h
  · exact h
  · rw [vr_small vars ns h] at hv; omega

/-- The two sides of what is looked at. -/
theorem cof {vars : Nat} {ns : List Nd} (hf : Fm vars ns) (i : Nat) (b : Bool) {v : Nat} {q : Int} (hq : isP ns q) (hv : v ≤ vr vars ns q) (hlt : v < vars) :
    ∃ g : Bool → Int, (∀ x, isP ns (g x) ∧ v + 1 ≤ vr vars ns (g x)) ∧ (∀ (j : Nat) (x : Bool), rel ns v q (sv i b v (2 * j + x.toNat)) = rel ns (v + 1) (g x) (sv i b (v + 1) j)) ∧ (v < vr vars ns q → g false = g true) := by
  obtain ⟨s, hs⟩ := sv_step i b v
  rcases Nat.lt_or_eq_of_le hv with h | h
  · exact ⟨fun _ => q, fun _ => ⟨hq, h⟩, fun j x => by rw [hs, rel_pass hf hq h], fun _ => rfl⟩
  · have h1 : 1 < q := big_of_vr h.symm hlt
    refine ⟨fun x => if s x then (nd ns q).hi else (nd ns q).lo, fun x => ?_, fun j x => by rw [hs, rel_bit hf h1 hq.2 h.symm], fun h' => by omega⟩
    have a := isP_lo hf h1 hq.2
    have c := isP_hi hf h1 hq.2
    have d := vr_lo hf h1 hq.2
    have e := vr_hi hf h1 hq.2
    dsimp only
    cases s x
    · exact ⟨a.1, by simp; omega⟩
    · exact ⟨c.1, by simp; omega⟩

/-- Each node of ms is one of ns, with the bit fixed. -/
def Cov (vars : Nat) (ns : List Nd) (i : Nat) (b : Bool) (ms : List Nd) : Prop :=
  ∀ p : Int, 1 < p → p ≤ ms.length + 1 → ∃ q, isP ns q ∧ vr vars ns q = vr vars ms p ∧ ∀ j, j < 2 ^ (vars - vr vars ms p) → rel ms (vr vars ms p) p j = rel ns (vr vars ms p) q (sv i b (vr vars ms p) j)

theorem cov_mk {vars : Nat} {ns : List Nd} (hf : Fm vars ns) (i : Nat) (b : Bool) : ∀ (k v : Nat) (f : Nat → Bool) (q : Int) (ms : List Nd), v + k = vars → isP ns q → v ≤ vr vars ns q →
    (∀ j, j < 2 ^ k → f j = rel ns v q (sv i b v j)) → Wf vars ms → Cov vars ns i b ms → Cov vars ns i b (mk k v f ms).2 := by
  intro k
  induction k with
  | zero => intro v f q ms _ _ _ _ _ hc; exact hc
  | succ k ih =>
    intro v f q ms hv hq hvq hfq hw hc
    obtain ⟨g, hg1, hg2, hg3⟩ := cof hf i b hq hvq (by omega)
    have e0 : ∀ j, j < 2 ^ k → f (2 * j) = rel ns (v + 1) (g false) (sv i b (v + 1) j) := fun j hj => by
      rw [← hg2 j false]; exact hfq (2 * j) (by rw [Nat.pow_succ]; omega)
    have e1 : ∀ j, j < 2 ^ k → f (2 * j + 1) = rel ns (v + 1) (g true) (sv i b (v + 1) j) := fun j hj => by
      rw [← hg2 j true]; exact hfq (2 * j + 1) (by rw [Nat.pow_succ]; omega)
    have L := mk_laid (k + 1) v f ms hv hw
    have A := mk_laid k (v + 1) (fun i => f (2 * i)) ms (by omega) hw
    have CA := ih (v + 1) (fun i => f (2 * i)) (g false) ms (by omega) (hg1 false).1 (hg1 false).2 e0 hw hc
    have B := mk_laid k (v + 1) (fun i => f (2 * i + 1)) (mk k (v + 1) (fun i => f (2 * i)) ms).2 (by omega) A.wf
    have CB := ih (v + 1) (fun i => f (2 * i + 1)) (g true) (mk k (v + 1) (fun i => f (2 * i)) ms).2 (by omega) (hg1 true).1 (hg1 true).2 e1 A.wf CA
    have hmeans := L.means
    have hplace := L.place
    simp only [mk] at hmeans hplace ⊢
    generalize mk k (v + 1) (fun i => f (2 * i)) ms = a at A B CB hmeans hplace ⊢
    generalize mk k (v + 1) (fun i => f (2 * i + 1)) a.2 = c at B CB hmeans hplace ⊢
    by_cases e : a.1 = c.1
    · rw [if_pos e]; exact CB
    · rw [if_neg e] at hmeans hplace ⊢
      by_cases hin : (⟨v, a.1, c.1⟩ : Nd) ∈ c.2
      · unfold push; rw [if_pos hin]; exact CB
      · unfold push at hmeans hplace ⊢
        rw [if_neg hin] at hmeans hplace ⊢
        dsimp only at hmeans hplace ⊢
        have hpre : c.2 <+: c.2 ++ [(⟨v, a.1, c.1⟩ : Nd)] := List.prefix_append _ _
        have en : nd (c.2 ++ [(⟨v, a.1, c.1⟩ : Nd)]) ((c.2.length : Int) + 2) = ⟨v, a.1, c.1⟩ := by
          unfold nd
          rw [show (((c.2.length : Int) + 2) - 2).toNat = c.2.length by omega]; simp [List.getD_eq_getElem?_getD]
        have evr : vr vars (c.2 ++ [(⟨v, a.1, c.1⟩ : Nd)]) ((c.2.length : Int) + 2) = v := by rw [vr_node _ _ (by omega), en]; simp
        intro p h1 h2
        by_cases hold : p ≤ c.2.length + 1
        · have hp : isP c.2 p := ⟨by omega, hold⟩
          obtain ⟨q', x1, x2, x3⟩ := CB p h1 hold
          refine ⟨q', x1, by rw [vr_app hpre hp]; exact x2, fun j hj => ?_⟩
          rw [vr_app hpre hp] at hj ⊢
          rw [rel_app B.wf.fm hpre hp]
          exact x3 j hj
        · have ep : p = (c.2.length : Int) + 2 := by rw [List.length_append] at h2; simp at h2; omega
          subst ep
          rw [evr]
          refine ⟨q, hq, ?_, fun j hj => ?_⟩
          · rcases Nat.lt_or_eq_of_le hvq with h | h
            · exfalso
              apply e
              have ap := isP_app B.pre A.place
              refine canon B.wf k (v + 1) a.1 c.1 (by omega) ap B.place (by rw [vr_app B.pre A.place]; exact A.var) B.var fun j hj => ?_
              rw [rel_app A.wf.fm B.pre A.place, A.means j hj, B.means j hj, e0 j hj, e1 j hj, hg3 h]
            · exact h.symm
          · rw [show vars - v = k + 1 by omega] at hj
            rw [hmeans j hj, hfq j hj]

theorem has_rel (ns : List Nd) (R : Int) (c : Nat) : rel ns 0 R c = has ns R c := by simp [rel]

/-- A diagram with a bit fixed is no larger. -/
theorem fix_len {vars : Nat} {ns : List Nd} {R : Int} (hf : Fm vars ns) (hR : isP ns R) (i : Nat) (b : Bool) : (mk vars 0 (fun c => has ns R (setb i b c)) []).2.length ≤ ns.length := by
  have L := mk_laid vars 0 (fun c => has ns R (setb i b c)) [] (by omega) (wf_nil vars)
  have C : Cov vars ns i b (mk vars 0 (fun c => has ns R (setb i b c)) []).2 := cov_mk hf i b vars 0 _ R [] (by omega) hR (Nat.zero_le _) (fun j _ => by rw [has_rel]; simp [sv]) (wf_nil vars) (fun p h1 h2 => by simp at h2; omega)
  have hw := L.wf
  generalize (mk vars 0 (fun c => has ns R (setb i b c)) []).2 = ms at C hw
  classical
  let g : Int → Int := fun p => if h : 1 < p ∧ p ≤ ms.length + 1 then Classical.choose (C p h.1 h.2) else 0
  have hg : ∀ p : Int, 1 < p → p ≤ ms.length + 1 → isP ns (g p) ∧ vr vars ns (g p) = vr vars ms p ∧ ∀ j, j < 2 ^ (vars - vr vars ms p) → rel ms (vr vars ms p) p j = rel ns (vr vars ms p) (g p) (sv i b (vr vars ms p) j) := fun p h1 h2 => by
    have := Classical.choose_spec (C p h1 h2)
    simp only [g, dif_pos (And.intro h1 h2)]
    exact this
  have inj : ∀ p p' : Int, 1 < p → p ≤ ms.length + 1 → 1 < p' → p' ≤ ms.length + 1 → g p = g p' → p = p' := fun p p' h1 h2 h3 h4 e => by
    obtain ⟨-, b1, c1⟩ := hg p h1 h2
    obtain ⟨-, b2, c2⟩ := hg p' h3 h4
    have hv : vr vars ms p = vr vars ms p' := by rw [← b1, ← b2, e]
    have hlt := vr_lt hw.fm h1 h2
    refine canon hw (vars - vr vars ms p) (vr vars ms p) p p' (by omega) ⟨by omega, h2⟩ ⟨by omega, h4⟩ (Nat.le_refl _) (Nat.le_of_eq hv) fun j hj => ?_
    rw [c1 j hj, e, hv, c2 j (by rw [← hv]; exact hj)]
  have hn : ((upto ms.length).map g).Nodup := by
    rw [List.nodup_iff_pairwise_ne, List.pairwise_map]
    have hu : (upto ms.length).Nodup := by
      unfold upto
      rw [List.nodup_iff_pairwise_ne, List.pairwise_map]
      exact (List.nodup_iff_pairwise_ne.1 List.nodup_range).imp fun h e => h (by omega)
    refine (List.nodup_iff_pairwise_ne.1 hu).imp_of_mem fun ha hb h e => h ?_
    have ma := mem_upto.1 ha
    have mb := mem_upto.1 hb
    exact inj _ _ (by omega) (by omega) (by omega) (by omega) e
  have hl := nodup_bounded ns.length _ hn fun x hx => by
    obtain ⟨p, hp, rfl⟩ := List.mem_map.1 hx
    have mp := mem_upto.1 hp
    obtain ⟨a1, b1, -⟩ := hg p (by omega) (by omega)
    have := big_of_vr b1 (vr_lt hw.fm (by omega) (by omega))
    have := a1.2
    exact ⟨by omega, by omega⟩
  rw [List.length_map, length_upto] at hl
  exact hl

/-- More bits change nothing. -/
theorem grow_ok {V V' : Int} {ns : List Nd} {R : Int} (h : OkS V ns R) (h1 : V ≤ V') (h2 : V' ≤ 13) : OkS V' ns R := by
  obtain ⟨f, n, o⟩ := h
  have v0 := f.v0
  exact ⟨⟨by omega, h2, f.len, f.root, fun k m hk => by
    have g := f.fm k m hk
    exact ⟨g.v0, by have := g.v1; omega, g.ne, g.lo0, g.lo1, g.hi0, g.hi1, g.lov, g.hiv⟩⟩, n, o⟩
theorem const_ok {V : Int} (h0 : 0 ≤ V) (h1 : V ≤ 13) (b : Bool) : OkS V [] (if b then 1 else 0) := by
  refine ⟨⟨h0, h1, by simp, ⟨by split <;> omega, by simp; split <;> omega⟩, (wf_nil _).fm⟩, by simp, ?_⟩
  rw [ord_small _ (by split <;> omega)]; rfl
theorem has_const (b : Bool) (c : Nat) : has [] (if b then 1 else 0) c = b := by
  rw [has_small _ _ _ (by split <;> omega)]; cases b <;> rfl
/-- What is laid down is ok, where it is not too large. -/
theorem mk_ok {k : Nat} {f : Nat → Bool} (hk : k ≤ 13) (hl : (mk k 0 f []).2.length ≤ 600) : OkI k (mk k 0 f []).2 (mk k 0 f []).1 ∧ ∀ c, c < 2 ^ k → has (mk k 0 f []).2 (mk k 0 f []).1 c = f c := by
  have L := mk_laid k 0 f [] (by omega) (wf_nil k)
  have hm : ∀ c, c < 2 ^ k → has (mk k 0 f []).2 (mk k 0 f []).1 c = f c := fun c hc => by rw [← has_rel]; exact L.means c hc
  refine ⟨⟨⟨by omega, by omega, hl, L.place, by simpa using L.wf.fm⟩, ?_⟩, hm⟩
  simp only [Int.toNat_natCast]
  rw [mk_congr k 0 _ f [] hm]

end Go.Proofs.Ytffefegjnbfobaa.B
