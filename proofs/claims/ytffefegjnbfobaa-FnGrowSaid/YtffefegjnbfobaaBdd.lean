/- The plain law of diagrams: what the table builder lays down, and that one set has one diagram. No program here. -/
namespace Go.Proofs.Ytffefegjnbfobaa.B

structure Nd where
  v : Int
  lo : Int
  hi : Int
deriving DecidableEq, Inhabited

def nd (ns : List Nd) (p : Int) : Nd := ns.getD (p - 2).toNat ⟨0, 0, 0⟩

def hasF (ns : List Nd) : Nat → Int → Nat → Bool
  | 0, p, _ => p == 1
  | f + 1, p, c => if p ≤ 1 then p == 1 else hasF ns f (if c.testBit (nd ns p).v.toNat then (nd ns p).hi else (nd ns p).lo) c

def has (ns : List Nd) (p : Int) (c : Nat) : Bool := hasF ns p.toNat p c

structure Good (vars : Nat) (ns : List Nd) (k : Nat) (n : Nd) : Prop where
  v0 : 0 ≤ n.v
  v1 : n.v < vars
  ne : n.lo ≠ n.hi
  lo0 : 0 ≤ n.lo
  lo1 : n.lo ≤ k + 1
  hi0 : 0 ≤ n.hi
  hi1 : n.hi ≤ k + 1
  lov : 1 < n.lo → n.v < (nd ns n.lo).v
  hiv : 1 < n.hi → n.v < (nd ns n.hi).v

/-- All places are there and lead on. -/
def Fm (vars : Nat) (ns : List Nd) : Prop := ∀ k n, ns[k]? = some n → Good vars ns k n

structure Wf (vars : Nat) (ns : List Nd) : Prop where
  fm : Fm vars ns
  nodup : ns.Nodup

def isP (ns : List Nd) (p : Int) : Prop := 0 ≤ p ∧ p ≤ ns.length + 1

def vr (vars : Nat) (ns : List Nd) (p : Int) : Nat := if p ≤ 1 then vars else (nd ns p).v.toNat

theorem nd_get {ns : List Nd} {p : Int} (h1 : 1 < p) (h2 : p ≤ ns.length + 1) : ns[(p - 2).toNat]? = some (nd ns p) := by
  have hl : (p - 2).toNat < ns.length := by omega
  unfold nd
  rw [List.getElem?_eq_getElem hl, List.getD_eq_getElem?_getD, List.getElem?_eq_getElem hl]; rfl

theorem good {vars : Nat} {ns : List Nd} (h : Fm vars ns) {p : Int} (h1 : 1 < p) (h2 : p ≤ ns.length + 1) : Good vars ns (p - 2).toNat (nd ns p) :=
  h _ _ (nd_get h1 h2)

theorem isP_lo {vars : Nat} {ns : List Nd} (h : Fm vars ns) {p : Int} (h1 : 1 < p) (h2 : p ≤ ns.length + 1) : isP ns (nd ns p).lo ∧ (nd ns p).lo < p := by
  have g := good h h1 h2
  have a := g.lo0; have b := g.lo1
  unfold isP
  omega
theorem isP_hi {vars : Nat} {ns : List Nd} (h : Fm vars ns) {p : Int} (h1 : 1 < p) (h2 : p ≤ ns.length + 1) : isP ns (nd ns p).hi ∧ (nd ns p).hi < p := by
  have g := good h h1 h2
  have a := g.hi0; have b := g.hi1
  unfold isP
  omega

theorem hasF_small (ns : List Nd) (f : Nat) (p : Int) (c : Nat) (h : p ≤ 1) : hasF ns f p c = (p == 1) := by
  cases f with
  | zero => rfl
  | succ f => simp [hasF, h]

theorem hasF_fuel {vars : Nat} {ns : List Nd} (h : Fm vars ns) (c : Nat) : ∀ (f g : Nat) (p : Int), isP ns p → p.toNat ≤ f → p.toNat ≤ g → hasF ns f p c = hasF ns g p c := by
  intro f
  induction f with
  | zero =>
    intro g p hp hf hg
    have : p ≤ 1 := by omega
    rw [hasF_small ns _ p c this, hasF_small ns _ p c this]
  | succ f ih =>
    intro g p hp hf hg
    by_cases h1 : p ≤ 1
    · rw [hasF_small ns _ p c h1, hasF_small ns _ p c h1]
    · obtain ⟨g, rfl⟩ : ∃ m, g = m + 1 := ⟨g - 1, by omega⟩
      simp only [hasF, if_neg h1]
      have hl := isP_lo h (p := p) (by omega) hp.2
      have hh := isP_hi h (p := p) (by omega) hp.2
      by_cases hb : c.testBit (nd ns p).v.toNat
      · simp only [hb, if_true]
        exact ih _ _ hh.1 (by have := hh.1.1; omega) (by have := hh.1.1; omega)
      · simp only [hb]
        exact ih _ _ hl.1 (by have := hl.1.1; omega) (by have := hl.1.1; omega)

theorem has_small (ns : List Nd) (p : Int) (c : Nat) (h : p ≤ 1) : has ns p c = (p == 1) := hasF_small ns _ p c h

theorem has_step {vars : Nat} {ns : List Nd} (h : Fm vars ns) {p : Int} (h1 : 1 < p) (h2 : p ≤ ns.length + 1) (c : Nat) :
    has ns p c = has ns (if c.testBit (nd ns p).v.toNat then (nd ns p).hi else (nd ns p).lo) c := by
  have hl := isP_lo h h1 h2
  have hh := isP_hi h h1 h2
  unfold has
  obtain ⟨f, hf⟩ : ∃ m, p.toNat = m + 1 := ⟨p.toNat - 1, by omega⟩
  rw [hf]
  simp only [hasF, if_neg (show ¬ p ≤ 1 by omega)]
  by_cases hb : c.testBit (nd ns p).v.toNat
  · simp only [hb, if_true]
    exact hasF_fuel h c _ _ _ hh.1 (by have := hh.1.1; omega) (by omega)
  · simp only [hb]
    exact hasF_fuel h c _ _ _ hl.1 (by have := hl.1.1; omega) (by omega)

theorem has_hi {vars : Nat} {ns : List Nd} (h : Fm vars ns) {p : Int} (h1 : 1 < p) (h2 : p ≤ ns.length + 1) {c : Nat} (hb : c.testBit (nd ns p).v.toNat = true) : has ns p c = has ns (nd ns p).hi c := by
  rw [has_step h h1 h2, if_pos hb]
theorem has_lo {vars : Nat} {ns : List Nd} (h : Fm vars ns) {p : Int} (h1 : 1 < p) (h2 : p ≤ ns.length + 1) {c : Nat} (hb : c.testBit (nd ns p).v.toNat = false) : has ns p c = has ns (nd ns p).lo c := by
  rw [has_step h h1 h2, if_neg (by simp [hb])]

theorem vr_small (vars : Nat) (ns : List Nd) {p : Int} (h : p ≤ 1) : vr vars ns p = vars := by simp [vr, h]
theorem vr_node (vars : Nat) (ns : List Nd) {p : Int} (h : 1 < p) : vr vars ns p = (nd ns p).v.toNat := by simp [vr, show ¬ p ≤ 1 by omega]
theorem vr_lt {vars : Nat} {ns : List Nd} (h : Fm vars ns) {p : Int} (h1 : 1 < p) (h2 : p ≤ ns.length + 1) : vr vars ns p < vars := by
  rw [vr_node vars ns h1]
  have g := good h h1 h2
  have := g.v0; have := g.v1
  omega
theorem vr_le {vars : Nat} {ns : List Nd} (h : Fm vars ns) {p : Int} (hp : isP ns p) : vr vars ns p ≤ vars := by
  by_cases h1 : p ≤ 1
  · rw [vr_small vars ns h1]; exact Nat.le_refl _
  · exact Nat.le_of_lt (vr_lt h (by omega) hp.2)
theorem vr_lo {vars : Nat} {ns : List Nd} (h : Fm vars ns) {p : Int} (h1 : 1 < p) (h2 : p ≤ ns.length + 1) : vr vars ns p < vr vars ns (nd ns p).lo := by
  have g := good h h1 h2
  by_cases hl : (nd ns p).lo ≤ 1
  · rw [vr_small vars ns hl]; exact vr_lt h h1 h2
  · rw [vr_node vars ns h1, vr_node vars ns (by omega)]
    have := g.lov (by omega); have := g.v0; omega
theorem vr_hi {vars : Nat} {ns : List Nd} (h : Fm vars ns) {p : Int} (h1 : 1 < p) (h2 : p ≤ ns.length + 1) : vr vars ns p < vr vars ns (nd ns p).hi := by
  have g := good h h1 h2
  by_cases hl : (nd ns p).hi ≤ 1
  · rw [vr_small vars ns hl]; exact vr_lt h h1 h2
  · rw [vr_node vars ns h1, vr_node vars ns (by omega)]
    have := g.hiv (by omega); have := g.v0; omega

/-- Bits ahead of a place's variable don't count. -/
theorem has_bits {vars : Nat} {ns : List Nd} (h : Fm vars ns) : ∀ (f : Nat) (p : Int), p.toNat ≤ f → isP ns p → ∀ c d : Nat, (∀ i, vr vars ns p ≤ i → c.testBit i = d.testBit i) → has ns p c = has ns p d := by
  intro f
  induction f with
  | zero =>
    intro p hf hp c d _
    rw [has_small ns p c (by omega), has_small ns p d (by omega)]
  | succ f ih =>
    intro p hf hp c d hcd
    by_cases h1 : p ≤ 1
    · rw [has_small ns p c h1, has_small ns p d h1]
    · have h1 : 1 < p := by omega
      have hl := isP_lo h h1 hp.2
      have hh := isP_hi h h1 hp.2
      have e : c.testBit (nd ns p).v.toNat = d.testBit (nd ns p).v.toNat := hcd _ (by rw [vr_node vars ns h1]; exact Nat.le_refl _)
      by_cases hb : c.testBit (nd ns p).v.toNat = true
      · rw [has_hi h h1 hp.2 hb, has_hi h h1 hp.2 (e ▸ hb)]
        exact ih _ (by have := hh.1.1; omega) hh.1 c d fun i hi => hcd i (Nat.le_of_lt (Nat.lt_of_lt_of_le (vr_hi h h1 hp.2) hi))
      · have hb : c.testBit (nd ns p).v.toNat = false := by simpa using hb
        rw [has_lo h h1 hp.2 hb, has_lo h h1 hp.2 (e ▸ hb)]
        exact ih _ (by have := hl.1.1; omega) hl.1 c d fun i hi => hcd i (Nat.le_of_lt (Nat.lt_of_lt_of_le (vr_lo h h1 hp.2) hi))

theorem tb_mul (i v j : Nat) : (i * 2 ^ v).testBit j = (decide (v ≤ j) && i.testBit (j - v)) := by
  rw [← Nat.shiftLeft_eq, Nat.testBit_shiftLeft]

theorem tb_two (i j : Nat) : (2 * i).testBit j = (decide (1 ≤ j) && i.testBit (j - 1)) := by
  have := tb_mul i 1 j
  rw [show i * 2 ^ 1 = 2 * i from by omega] at this
  exact this
theorem tb_odd (i j : Nat) : (2 * i + 1).testBit j = (if j = 0 then true else i.testBit (j - 1)) := by
  cases j with
  | zero => simp
  | succ j => rw [Nat.testBit_succ]; simp [show (2 * i + 1) / 2 = i by omega]

/-- What a place means for the bits from v on. -/
def rel (ns : List Nd) (v : Nat) (p : Int) (i : Nat) : Bool := has ns p (i * 2 ^ v)

theorem rel_skip {vars : Nat} {ns : List Nd} (h : Fm vars ns) {p : Int} (hp : isP ns p) {v : Nat} (hv : v < vr vars ns p) (i : Nat) :
    rel ns v p (2 * i) = rel ns (v + 1) p i ∧ rel ns v p (2 * i + 1) = rel ns (v + 1) p i := by
  constructor
  · refine has_bits h _ p (Nat.le_refl _) hp _ _ fun j hj => ?_
    rw [show 2 * i * 2 ^ v = i * 2 ^ (v + 1) from by rw [Nat.pow_succ]; ac_rfl]
  · refine has_bits h _ p (Nat.le_refl _) hp _ _ fun j hj => ?_
    rw [tb_mul, tb_mul, tb_odd, if_neg (by omega), show j - v - 1 = j - (v + 1) from by omega]
    simp [show v ≤ j by omega, show v + 1 ≤ j by omega]

theorem rel_lo {vars : Nat} {ns : List Nd} (h : Fm vars ns) {p : Int} (h1 : 1 < p) (h2 : p ≤ ns.length + 1) {v : Nat} (hv : vr vars ns p = v) (i : Nat) :
    rel ns v p (2 * i) = rel ns (v + 1) (nd ns p).lo i := by
  have e : v = (nd ns p).v.toNat := by rw [← hv, vr_node vars ns h1]
  unfold rel
  rw [has_lo h h1 h2 (by rw [← e, tb_mul, tb_two]; simp)]
  rw [show 2 * i * 2 ^ v = i * 2 ^ (v + 1) from by rw [Nat.pow_succ]; ac_rfl]
theorem rel_hi {vars : Nat} {ns : List Nd} (h : Fm vars ns) {p : Int} (h1 : 1 < p) (h2 : p ≤ ns.length + 1) {v : Nat} (hv : vr vars ns p = v) (i : Nat) :
    rel ns v p (2 * i + 1) = rel ns (v + 1) (nd ns p).hi i := by
  have e : v = (nd ns p).v.toNat := by rw [← hv, vr_node vars ns h1]
  have hh := isP_hi h h1 h2
  unfold rel
  rw [has_hi h h1 h2 (by rw [← e, tb_mul, tb_odd]; simp)]
  refine has_bits h _ _ (Nat.le_refl _) hh.1 _ _ fun j hj => ?_
  have hj : v < j := by have := vr_hi h h1 h2; omega
  rw [tb_mul, tb_mul, tb_odd, if_neg (by omega), show j - v - 1 = j - (v + 1) from by omega]
  simp [show v ≤ j by omega, show v + 1 ≤ j by omega]

/-- One set has one place. -/
theorem canon {vars : Nat} {ns : List Nd} (h : Wf vars ns) : ∀ (k v : Nat) (p q : Int), v + k = vars → isP ns p → isP ns q → v ≤ vr vars ns p → v ≤ vr vars ns q →
    (∀ i, i < 2 ^ k → rel ns v p i = rel ns v q i) → p = q := by
  intro k
  induction k with
  | zero =>
    intro v p q hv hp hq hvp hvq he
    have p1 : p ≤ 1 := by
      rcases Int.lt_or_le 1 p with h1 | h1
      · have := vr_lt h.fm h1 hp.2; omega
      · exact h1
    have q1 : q ≤ 1 := by
      rcases Int.lt_or_le 1 q with h1 | h1
      · have := vr_lt h.fm h1 hq.2; omega
      · exact h1
    have := he 0 (by simp)
    unfold rel at this
    rw [has_small ns p _ p1, has_small ns q _ q1] at this
    have a := hp.1; have b := hq.1
    rcases (show p = 0 ∨ p = 1 by omega) with rfl | rfl <;> rcases (show q = 0 ∨ q = 1 by omega) with rfl | rfl <;> simp_all
  | succ k ih =>
    intro v p q hv hp hq hvp hvq he
    have sub : ∀ {x : Int}, isP ns x → v = vr vars ns x → 1 < x := by
      intro x hx hvx
      rcases Int.lt_or_le 1 x with h1 | h1
      · exact h1
      · rw [vr_small vars ns h1] at hvx; omega
    have key : ∀ x y : Int, isP ns x → isP ns y → v = vr vars ns x → v < vr vars ns y → (∀ i, i < 2 ^ (k + 1) → rel ns v x i = rel ns v y i) → False := by
      intro x y hx hy hvx hvy hxy
      have h1 := sub hx hvx
      have hl := isP_lo h.fm h1 hx.2
      have hh := isP_hi h.fm h1 hx.2
      refine (good h.fm h1 hx.2).ne (ih (v + 1) _ _ (by omega) hl.1 hh.1 (by have := vr_lo h.fm h1 hx.2; omega) (by have := vr_hi h.fm h1 hx.2; omega) fun i hi => ?_)
      have e0 := hxy (2 * i) (by rw [Nat.pow_succ]; omega)
      have e1 := hxy (2 * i + 1) (by rw [Nat.pow_succ]; omega)
      rw [rel_lo h.fm h1 hx.2 hvx.symm, (rel_skip h.fm hy hvy i).1] at e0
      rw [rel_hi h.fm h1 hx.2 hvx.symm, (rel_skip h.fm hy hvy i).2] at e1
      rw [e0, e1]
    rcases Nat.lt_or_eq_of_le hvp with hp' | hp' <;> rcases Nat.lt_or_eq_of_le hvq with hq' | hq'
    · refine ih (v + 1) p q (by omega) hp hq hp' hq' fun i hi => ?_
      have e := he (2 * i) (by rw [Nat.pow_succ]; omega)
      rw [(rel_skip h.fm hp hp' i).1, (rel_skip h.fm hq hq' i).1] at e
      exact e
    · exact (key q p hq hp hq' hp' fun i hi => (he i hi).symm).elim
    · exact (key p q hp hq hp' hq' he).elim
    · have p1 := sub hp hp'
      have q1 := sub hq hq'
      have hl := isP_lo h.fm p1 hp.2
      have hh := isP_hi h.fm p1 hp.2
      have ql := isP_lo h.fm q1 hq.2
      have qh := isP_hi h.fm q1 hq.2
      have a := ih (v + 1) (nd ns p).lo (nd ns q).lo (by omega) hl.1 ql.1 (by have := vr_lo h.fm p1 hp.2; omega) (by have := vr_lo h.fm q1 hq.2; omega) fun i hi => by
        have e := he (2 * i) (by rw [Nat.pow_succ]; omega)
        rwa [rel_lo h.fm p1 hp.2 hp'.symm, rel_lo h.fm q1 hq.2 hq'.symm] at e
      have b := ih (v + 1) (nd ns p).hi (nd ns q).hi (by omega) hh.1 qh.1 (by have := vr_hi h.fm p1 hp.2; omega) (by have := vr_hi h.fm q1 hq.2; omega) fun i hi => by
        have e := he (2 * i + 1) (by rw [Nat.pow_succ]; omega)
        rwa [rel_hi h.fm p1 hp.2 hp'.symm, rel_hi h.fm q1 hq.2 hq'.symm] at e
      have c : (nd ns p).v = (nd ns q).v := by
        have x := hp'; have y := hq'
        rw [vr_node vars ns p1] at x
        rw [vr_node vars ns q1] at y
        have := (good h.fm p1 hp.2).v0; have := (good h.fm q1 hq.2).v0
        omega
      have e : nd ns p = nd ns q := by
        cases hnp : nd ns p; cases hnq : nd ns q
        simp_all
      have gp := nd_get p1 hp.2
      have gq := nd_get q1 hq.2
      rw [e] at gp
      have lp : (p - 2).toNat < ns.length := by have := hp.2; omega
      have := (List.getElem?_inj lp h.nodup).1 (gp.trans gq.symm)
      omega


/-! ### laying a table down -/
def push (n : Nd) (ns : List Nd) : Int × List Nd := if n ∈ ns then ((ns.idxOf n : Int) + 2, ns) else ((ns.length : Int) + 2, ns ++ [n])

def mk : Nat → Nat → (Nat → Bool) → List Nd → Int × List Nd
  | 0, _, f, ns => (if f 0 then 1 else 0, ns)
  | k + 1, v, f, ns =>
    let a := mk k (v + 1) (fun i => f (2 * i)) ns
    let b := mk k (v + 1) (fun i => f (2 * i + 1)) a.2
    if a.1 = b.1 then (a.1, b.2) else push ⟨v, a.1, b.1⟩ b.2

theorem mk_congr : ∀ (k v : Nat) (f g : Nat → Bool) (ns : List Nd), (∀ i, i < 2 ^ k → f i = g i) → mk k v f ns = mk k v g ns := by
  intro k
  induction k with
  | zero => intro v f g ns h; simp only [mk]; rw [h 0 (by simp)]
  | succ k ih =>
    intro v f g ns h
    have e0 := ih (v + 1) (fun i => f (2 * i)) (fun i => g (2 * i)) ns fun i hi => h _ (by rw [Nat.pow_succ]; omega)
    simp only [mk]
    rw [e0, ih (v + 1) (fun i => f (2 * i + 1)) (fun i => g (2 * i + 1)) _ fun i hi => h _ (by rw [Nat.pow_succ]; omega)]

theorem nd_app {ns ms : List Nd} (h : ns <+: ms) {p : Int} (h1 : 1 < p) (h2 : p ≤ ns.length + 1) : nd ms p = nd ns p := by
  obtain ⟨t, rfl⟩ := h
  have hl : (p - 2).toNat < ns.length := by omega
  simp [nd, List.getD_eq_getElem?_getD, List.getElem?_append_left hl]

theorem hasF_app {vars : Nat} {ns ms : List Nd} (hf : Fm vars ns) (h : ns <+: ms) (c : Nat) : ∀ (f : Nat) (p : Int), isP ns p → hasF ms f p c = hasF ns f p c := by
  intro f
  induction f with
  | zero => intro p _; rfl
  | succ f ih =>
    intro p hp
    simp only [hasF]
    by_cases h1 : p ≤ 1
    · simp [h1]
    · rw [if_neg h1, if_neg h1, nd_app h (by omega) hp.2]
      by_cases hb : c.testBit (nd ns p).v.toNat
      · simp only [hb, if_true]; exact ih _ (isP_hi hf (by omega) hp.2).1
      · simp only [hb]; exact ih _ (isP_lo hf (by omega) hp.2).1

theorem has_app {vars : Nat} {ns ms : List Nd} (hf : Fm vars ns) (h : ns <+: ms) {p : Int} (hp : isP ns p) (c : Nat) : has ms p c = has ns p c := hasF_app hf h c _ p hp
theorem rel_app {vars : Nat} {ns ms : List Nd} (hf : Fm vars ns) (h : ns <+: ms) {p : Int} (hp : isP ns p) (v i : Nat) : rel ms v p i = rel ns v p i := has_app hf h hp _
theorem isP_app {ns ms : List Nd} (h : ns <+: ms) {p : Int} (hp : isP ns p) : isP ms p := by
  have := h.length_le
  have := hp.1; have := hp.2
  unfold isP; omega
theorem vr_app {vars : Nat} {ns ms : List Nd} (h : ns <+: ms) {p : Int} (hp : isP ns p) : vr vars ms p = vr vars ns p := by
  by_cases h1 : p ≤ 1
  · rw [vr_small _ _ h1, vr_small _ _ h1]
  · rw [vr_node _ _ (by omega), vr_node _ _ (by omega), nd_app h (by omega) hp.2]

theorem good_app {vars : Nat} {ns ms : List Nd} (h : ns <+: ms) {k : Nat} (hk : k ≤ ns.length) {n : Nd} (g : Good vars ns k n) : Good vars ms k n :=
  ⟨g.v0, g.v1, g.ne, g.lo0, g.lo1, g.hi0, g.hi1, fun hl => by rw [nd_app h hl (by have := g.lo1; omega)]; exact g.lov hl, fun hl => by rw [nd_app h hl (by have := g.hi1; omega)]; exact g.hiv hl⟩

/-- What laying down a table gives. -/
structure Laid (vars v k : Nat) (f : Nat → Bool) (ns : List Nd) (r : Int × List Nd) : Prop where
  wf : Wf vars r.2
  pre : ns <+: r.2
  place : isP r.2 r.1
  var : v ≤ vr vars r.2 r.1
  means : ∀ i, i < 2 ^ k → rel r.2 v r.1 i = f i

theorem fm_snoc {vars : Nat} {ns : List Nd} (h : Fm vars ns) {n : Nd} (g : Good vars ns ns.length n) : Fm vars (ns ++ [n]) := by
  intro k m hk
  have hpre : ns <+: ns ++ [n] := List.prefix_append _ _
  by_cases hl : k < ns.length
  · rw [List.getElem?_append_left hl] at hk
    exact good_app hpre (Nat.le_of_lt hl) (h k m hk)
  · rw [List.getElem?_append_right (by omega)] at hk
    have : k = ns.length := by
      have := (List.getElem?_eq_some_iff.1 hk).1
      simp at this; omega
    subst this
    simp at hk
    subst hk
    exact good_app hpre (Nat.le_refl _) g

theorem rel_node {vars : Nat} {ns : List Nd} (h : Fm vars ns) {p : Int} (h1 : 1 < p) (h2 : p ≤ ns.length + 1) {v k : Nat} {f : Nat → Bool} (hv : vr vars ns p = v)
    (hlo : ∀ i, i < 2 ^ k → rel ns (v + 1) (nd ns p).lo i = f (2 * i)) (hhi : ∀ i, i < 2 ^ k → rel ns (v + 1) (nd ns p).hi i = f (2 * i + 1)) : ∀ i, i < 2 ^ (k + 1) → rel ns v p i = f i := by
  intro i hi
  rw [Nat.pow_succ] at hi
  rcases (show i = 2 * (i / 2) ∨ i = 2 * (i / 2) + 1 by omega) with e | e
  · rw [e, rel_lo h h1 h2 hv, hlo _ (by omega)]
  · rw [e, rel_hi h h1 h2 hv, hhi _ (by omega)]

theorem push_laid {vars v k : Nat} {f : Nat → Bool} {ns : List Nd} (hw : Wf vars ns) {lo hi : Int} (hv : v < vars) (hlo : isP ns lo) (hhi : isP ns hi) (hne : lo ≠ hi) (hlv : v + 1 ≤ vr vars ns lo) (hhv : v + 1 ≤ vr vars ns hi)
    (hml : ∀ i, i < 2 ^ k → rel ns (v + 1) lo i = f (2 * i)) (hmh : ∀ i, i < 2 ^ k → rel ns (v + 1) hi i = f (2 * i + 1)) : Laid vars v (k + 1) f ns (push ⟨v, lo, hi⟩ ns) := by
  by_cases hin : (⟨v, lo, hi⟩ : Nd) ∈ ns
  · have hlt : ns.idxOf (⟨v, lo, hi⟩ : Nd) < ns.length := List.idxOf_lt_length_of_mem hin
    have hget : ns[ns.idxOf (⟨v, lo, hi⟩ : Nd)]? = some ⟨v, lo, hi⟩ := by rw [List.getElem?_eq_getElem hlt]; simp
    have e : nd ns ((ns.idxOf (⟨v, lo, hi⟩ : Nd) : Int) + 2) = ⟨v, lo, hi⟩ := by
      unfold nd
      rw [show (((ns.idxOf (⟨v, lo, hi⟩ : Nd) : Int) + 2) - 2).toNat = ns.idxOf (⟨v, lo, hi⟩ : Nd) by omega, List.getD_eq_getElem?_getD, hget]; rfl
    have evr : vr vars ns ((ns.idxOf (⟨v, lo, hi⟩ : Nd) : Int) + 2) = v := by rw [vr_node _ _ (by omega), e]; simp
    unfold push
    rw [if_pos hin]
    exact ⟨hw, List.prefix_refl _, ⟨by omega, by simp; omega⟩, by rw [evr]; exact Nat.le_refl _, rel_node hw.fm (by omega) (by simp; omega) evr (by rw [e]; exact hml) (by rw [e]; exact hmh)⟩
  · unfold push
    rw [if_neg hin]
    have hpre : ns <+: ns ++ [(⟨v, lo, hi⟩ : Nd)] := List.prefix_append _ _
    have g : Good vars ns ns.length ⟨v, lo, hi⟩ := ⟨by simp, by simp; omega, hne, hlo.1, hlo.2, hhi.1, hhi.2,
      fun h => by have := vr_node vars ns (p := lo) h; rw [this] at hlv; show (v : Int) < (nd ns lo).v; omega, fun h => by have := vr_node vars ns (p := hi) h; rw [this] at hhv; show (v : Int) < (nd ns hi).v; omega⟩
    have hfm := fm_snoc hw.fm g
    have e : nd (ns ++ [(⟨v, lo, hi⟩ : Nd)]) ((ns.length : Int) + 2) = ⟨v, lo, hi⟩ := by
      unfold nd
      rw [show (((ns.length : Int) + 2) - 2).toNat = ns.length by omega]; simp [List.getD_eq_getElem?_getD]
    have evr : vr vars (ns ++ [(⟨v, lo, hi⟩ : Nd)]) ((ns.length : Int) + 2) = v := by rw [vr_node _ _ (by omega), e]; simp
    refine ⟨⟨hfm, ?_⟩, hpre, ⟨by omega, by simp; omega⟩, by rw [evr]; exact Nat.le_refl _, rel_node hfm (by omega) (by simp; omega) evr (by rw [e]; exact fun i hi => by rw [rel_app hw.fm hpre hlo]; exact hml i hi) (by rw [e]; exact fun i hi => by rw [rel_app hw.fm hpre hhi]; exact hmh i hi)⟩
    rw [List.nodup_append]
    exact ⟨hw.nodup, by simp, fun a ha b hb => by simp at hb; subst hb; rintro rfl; exact hin ha⟩

theorem mk_laid {vars : Nat} : ∀ (k v : Nat) (f : Nat → Bool) (ns : List Nd), v + k = vars → Wf vars ns → Laid vars v k f ns (mk k v f ns) := by
  intro k
  induction k with
  | zero =>
    intro v f ns hv hw
    simp only [mk]
    have h1 : (if f 0 = true then (1 : Int) else 0) ≤ 1 := by split <;> omega
    refine ⟨hw, List.prefix_refl _, ⟨by split <;> omega, by dsimp only; omega⟩, by rw [vr_small _ _ h1]; omega, fun i hi => ?_⟩
    obtain rfl : i = 0 := by simpa using hi
    unfold rel
    rw [has_small _ _ _ h1]
    cases f 0 <;> rfl
  | succ k ih =>
    intro v f ns hv hw
    have A := ih (v + 1) (fun i => f (2 * i)) ns (by omega) hw
    have B := ih (v + 1) (fun i => f (2 * i + 1)) (mk k (v + 1) (fun i => f (2 * i)) ns).2 (by omega) A.wf
    simp only [mk]
    generalize mk k (v + 1) (fun i => f (2 * i)) ns = a at A B ⊢
    generalize mk k (v + 1) (fun i => f (2 * i + 1)) a.2 = b at B ⊢
    have ap := isP_app B.pre A.place
    have av : v + 1 ≤ vr vars b.2 a.1 := by rw [vr_app B.pre A.place]; exact A.var
    have am : ∀ i, i < 2 ^ k → rel b.2 (v + 1) a.1 i = f (2 * i) := fun i hi => by rw [rel_app A.wf.fm B.pre A.place]; exact A.means i hi
    by_cases e : a.1 = b.1
    · rw [if_pos e]
      refine ⟨B.wf, A.pre.trans B.pre, ap, by dsimp only; omega, fun i hi => ?_⟩
      have hskip := rel_skip B.wf.fm ap (v := v) (by omega) (i / 2)
      rw [Nat.pow_succ] at hi
      dsimp only
      rcases (show i = 2 * (i / 2) ∨ i = 2 * (i / 2) + 1 by omega) with e' | e'
      · rw [e', hskip.1, am _ (by omega)]
      · rw [e', hskip.2, e, B.means _ (by omega)]
    · rw [if_neg e]
      have R := push_laid (f := f) (k := k) B.wf (by omega) ap B.place e av B.var am B.means
      exact ⟨R.wf, (A.pre.trans B.pre).trans R.pre, R.place, R.var, R.means⟩

theorem wf_nil (vars : Nat) : Wf vars [] := ⟨fun k n h => by simp at h, by simp⟩

/-- What is there already is found. -/
theorem mk_there {vars : Nat} {ns : List Nd} (hw : Wf vars ns) : ∀ (k v : Nat) (f : Nat → Bool) (p : Int), v + k = vars → isP ns p → v ≤ vr vars ns p → (∀ i, i < 2 ^ k → rel ns v p i = f i) → mk k v f ns = (p, ns) := by
  intro k v f p hv hp hvp hm
  have sub : ∀ {x : Int} {v : Nat}, isP ns x → v < vars → v = vr vars ns x → 1 < x := by
    intro x v hx hlt hvx
    rcases Int.lt_or_le 1 x with h1 | h1
    · exact h1
    · rw [vr_small vars ns h1] at hvx; omega
  induction k generalizing v f p with
  | zero =>
    have p1 : p ≤ 1 := by
      rcases Int.lt_or_le 1 p with h1 | h1
      · have := vr_lt hw.fm h1 hp.2; omega
      · exact h1
    have := hm 0 (by simp)
    unfold rel at this
    rw [has_small _ _ _ p1] at this
    simp only [mk]
    have a := hp.1
    rcases (show p = 0 ∨ p = 1 by omega) with rfl | rfl
    · rw [← this]; rfl
    · rw [← this]; rfl
  | succ k ih =>
    simp only [mk]
    have h2 : ∀ i, i < 2 ^ k → 2 * i < 2 ^ (k + 1) ∧ 2 * i + 1 < 2 ^ (k + 1) := fun i hi => by rw [Nat.pow_succ]; omega
    rcases Nat.lt_or_eq_of_le hvp with h | h
    · have e0 := ih (v + 1) (fun i => f (2 * i)) p (by omega) hp h fun i hi => by rw [← (rel_skip hw.fm hp h i).1]; exact hm _ (h2 i hi).1
      have e1 := ih (v + 1) (fun i => f (2 * i + 1)) p (by omega) hp h fun i hi => by rw [← (rel_skip hw.fm hp h i).2]; exact hm _ (h2 i hi).2
      rw [e0, e1]; simp
    · have h1 := sub hp (by omega) h
      have hl := isP_lo hw.fm h1 hp.2
      have hh := isP_hi hw.fm h1 hp.2
      have e0 := ih (v + 1) (fun i => f (2 * i)) (nd ns p).lo (by omega) hl.1 (by have := vr_lo hw.fm h1 hp.2; omega) fun i hi => by rw [← rel_lo hw.fm h1 hp.2 h.symm]; exact hm _ (h2 i hi).1
      have e1 := ih (v + 1) (fun i => f (2 * i + 1)) (nd ns p).hi (by omega) hh.1 (by have := vr_hi hw.fm h1 hp.2; omega) fun i hi => by rw [← rel_hi hw.fm h1 hp.2 h.symm]; exact hm _ (h2 i hi).2
      rw [e0, e1]
      have g := good hw.fm h1 hp.2
      have hvv : (v : Int) = (nd ns p).v := by have := vr_node vars ns h1; have := g.v0; omega
      rw [if_neg g.ne, hvv]
      have hget := nd_get h1 hp.2
      have hmem : nd ns p ∈ ns := List.mem_of_getElem? hget
      show push (nd ns p) ns = _
      unfold push
      rw [if_pos hmem]
      have hl : (p - 2).toNat < ns.length := by have := hp.2; omega
      have hg2 : ns[ns.idxOf (nd ns p)]? = some (nd ns p) := by rw [List.getElem?_eq_getElem (List.idxOf_lt_length_of_mem hmem)]; simp
      have : ns.idxOf (nd ns p) = (p - 2).toNat := (List.getElem?_inj (List.idxOf_lt_length_of_mem hmem) hw.nodup).1 (hg2.trans hget.symm)
      rw [this]
      congr 1
      omega
end Go.Proofs.Ytffefegjnbfobaa.B
