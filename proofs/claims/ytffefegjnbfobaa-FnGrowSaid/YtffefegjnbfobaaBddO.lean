/- The plain law of diagrams, second part: a diagram whose nodes stand in the order in which they are done, none twice, is what its table is laid down as; and the other way round. -/
import Derived.Test.YtffefegjnbfobaaBdd
namespace Go.Proofs.Ytffefegjnbfobaa.B

def ordF (ns : List Nd) : Nat → Int → List Int → List Int
  | 0, _, d => d
  | f + 1, r, d => if r < 2 then d else if r ∈ d then d else ordF ns f (nd ns r).hi (ordF ns f (nd ns r).lo d) ++ [r]

def ord (ns : List Nd) (r : Int) (d : List Int) : List Int := ordF ns r.toNat r d

def upto (n : Nat) : List Int := (List.range n).map fun (i : Nat) => (i : Int) + 2

structure Formed (V : Int) (ns : List Nd) (R : Int) : Prop where
  v0 : 0 ≤ V
  v1 : V ≤ 13
  len : ns.length ≤ 600
  root : isP ns R
  fm : Fm V.toNat ns

def OkI (V : Int) (ns : List Nd) (R : Int) : Prop := Formed V ns R ∧ mk V.toNat 0 (has ns R) [] = (R, ns)
def OkS (V : Int) (ns : List Nd) (R : Int) : Prop := Formed V ns R ∧ ns.Nodup ∧ ord ns R [] = upto ns.length

theorem mem_upto {n : Nat} {p : Int} : p ∈ upto n ↔ 2 ≤ p ∧ p < n + 2 := by
  unfold upto
  rw [List.mem_map]
  constructor
  · rintro ⟨a, ha, rfl⟩
    rw [List.mem_range] at ha
    omega
  · rintro ⟨h0, h1⟩
    exact ⟨(p - 2).toNat, by rw [List.mem_range]; omega, by omega⟩
theorem length_upto (n : Nat) : (upto n).length = n := by simp [upto]
theorem upto_succ (n : Nat) : upto (n + 1) = upto n ++ [(n : Int) + 2] := by simp [upto, List.range_succ]
theorem upto_inj {a b : Nat} (h : upto a = upto b) : a = b := by rw [← length_upto a, h, length_upto]
theorem prefix_upto {l : List Int} {n : Nat} (h : l <+: upto n) : l = upto l.length := by
  induction n with
  | zero =>
    have : l = [] := by simpa [upto] using h
    subst this; rfl
  | succ n ih =>
    rw [upto_succ] at h
    rcases List.prefix_concat_iff.1 h with h | h
    · rw [h, ← upto_succ, length_upto]
    · exact ih h

theorem ordF_fuel {vars : Nat} {ns : List Nd} (h : Fm vars ns) : ∀ (f g : Nat) (r : Int) (d : List Int), isP ns r → r.toNat ≤ f → r.toNat ≤ g → ordF ns f r d = ordF ns g r d := by
  intro f
  induction f with
  | zero =>
    intro g r d hr hf hg
    cases g with
    | zero => rfl
    | succ g => simp [ordF, show r < 2 by omega]
  | succ f ih =>
    intro g r d hr hf hg
    by_cases h2 : r < 2
    · cases g with
      | zero => simp [ordF, h2]
      | succ g => simp [ordF, h2]
    · obtain ⟨g, rfl⟩ : ∃ m, g = m + 1 := ⟨g - 1, by omega⟩
      have hl := isP_lo h (p := r) (by omega) hr.2
      have hh := isP_hi h (p := r) (by omega) hr.2
      simp only [ordF, if_neg h2]
      rw [ih g _ d hl.1 (by have := hl.1.1; omega) (by have := hl.1.1; omega), ih g _ _ hh.1 (by have := hh.1.1; omega) (by have := hh.1.1; omega)]

theorem ord_small (ns : List Nd) {r : Int} (h : r < 2) (d : List Int) : ord ns r d = d := by
  unfold ord
  cases r.toNat with
  | zero => rfl
  | succ f => simp [ordF, h]
theorem ord_mem (ns : List Nd) {r : Int} {d : List Int} (h : r ∈ d) : ord ns r d = d := by
  by_cases h2 : r < 2
  · exact ord_small ns h2 d
  · unfold ord
    obtain ⟨f, hf⟩ : ∃ m, r.toNat = m + 1 := ⟨r.toNat - 1, by omega⟩
    rw [hf]; simp [ordF, h]
theorem ord_new {vars : Nat} {ns : List Nd} (h : Fm vars ns) {r : Int} (h1 : 1 < r) (h2 : r ≤ ns.length + 1) {d : List Int} (hd : r ∉ d) :
    ord ns r d = ord ns (nd ns r).hi (ord ns (nd ns r).lo d) ++ [r] := by
  have hl := isP_lo h h1 h2
  have hh := isP_hi h h1 h2
  unfold ord
  obtain ⟨f, hf⟩ : ∃ m, r.toNat = m + 1 := ⟨r.toNat - 1, by omega⟩
  rw [hf]
  simp only [ordF, if_neg (show ¬ r < 2 by omega), if_neg hd]
  rw [ordF_fuel h f (nd ns r).lo.toNat _ d hl.1 (by have := hl.1.1; omega) (Nat.le_refl _), ordF_fuel h f (nd ns r).hi.toNat _ _ hh.1 (by have := hh.1.1; omega) (Nat.le_refl _)]

theorem ordF_prefix (ns : List Nd) : ∀ (f : Nat) (r : Int) (d : List Int), d <+: ordF ns f r d := by
  intro f
  induction f with
  | zero => intro r d; exact List.prefix_refl _
  | succ f ih =>
    intro r d
    simp only [ordF]
    split
    · exact List.prefix_refl _
    · split
      · exact List.prefix_refl _
      · exact ((ih _ _).trans (ih _ _)).trans (List.prefix_append _ _)
theorem ord_prefix (ns : List Nd) (r : Int) (d : List Int) : d <+: ord ns r d := ordF_prefix ns _ r d

theorem fm_take {vars : Nat} {ns : List Nd} (h : Fm vars ns) (j : Nat) : Fm vars (ns.take j) := by
  intro k n hk
  have hlt : k < (ns.take j).length := (List.getElem?_eq_some_iff.1 hk).1
  have hj : k < j := by rw [List.length_take] at hlt; omega
  rw [List.getElem?_take_of_lt hj] at hk
  have g := h k n hk
  have e : ∀ p : Int, 1 < p → p ≤ k + 1 → nd ns p = nd (ns.take j) p := fun p h1 h2 => nd_app (List.take_prefix j ns) h1 (by omega)
  exact ⟨g.v0, g.v1, g.ne, g.lo0, g.lo1, g.hi0, g.hi1, fun hl => by rw [← e _ hl g.lo1]; exact g.lov hl, fun hl => by rw [← e _ hl g.hi1]; exact g.hiv hl⟩

theorem wf_take {vars : Nat} {ns : List Nd} (h : Wf vars ns) (j : Nat) : Wf vars (ns.take j) := ⟨fm_take h.fm j, h.nodup.sublist (List.take_sublist j ns)⟩

/-- What stands in the order in which it is done is laid down so. -/
theorem mk_of_ord {vars : Nat} {ns : List Nd} (hw : Wf vars ns) : ∀ (k v : Nat) (p : Int) (j j' : Nat), v + k = vars → isP ns p → v ≤ vr vars ns p → j ≤ ns.length → j' ≤ ns.length → ord ns p (upto j) = upto j' →
    mk k v (rel ns v p) (ns.take j) = (p, ns.take j') := by
  intro k
  induction k with
  | zero =>
    intro v p j j' hv hp hvp hj hj' ho
    have p1 : p ≤ 1 := by
      rcases Int.lt_or_le 1 p with h1 | h1
      · have := vr_lt hw.fm h1 hp.2; omega
      · exact h1
    rw [ord_small ns (by omega)] at ho
    obtain rfl := upto_inj ho
    have hp' : isP (ns.take j) p := ⟨hp.1, by omega⟩
    exact mk_there (wf_take hw j) 0 v _ p hv hp' (by rw [← vr_app (List.take_prefix j ns) hp']; exact hvp) fun i _ => (rel_app (fm_take hw.fm j) (List.take_prefix j ns) hp' v i).symm
  | succ k ih =>
    intro v p j j' hv hp hvp hj hj' ho
    have there : ∀ {x : Nat} {k v : Nat}, x ≤ ns.length → p < x + 2 → v + k = vars → v ≤ vr vars ns p → mk k v (rel ns v p) (ns.take x) = (p, ns.take x) := by
      intro x k v hx hpx hv hvp
      have hp' : isP (ns.take x) p := ⟨hp.1, by rw [List.length_take]; omega⟩
      exact mk_there (wf_take hw x) k v _ p hv hp' (by rw [← vr_app (List.take_prefix x ns) hp']; exact hvp) fun i _ => (rel_app (fm_take hw.fm x) (List.take_prefix x ns) hp' v i).symm
    by_cases hold : p < j + 2
    · have e : ord ns p (upto j) = upto j := by
        by_cases h2 : p < 2
        · exact ord_small ns h2 _
        · exact ord_mem ns (mem_upto.2 ⟨by omega, hold⟩)
      rw [e] at ho
      obtain rfl := upto_inj ho
      exact there hj hold hv hvp
    · have h1 : 1 < p := by omega
      have hnew := ord_new hw.fm h1 hp.2 (d := upto j) (fun h => by have := mem_upto.1 h; omega)
      rw [ho] at hnew
      have hmem : p ∈ upto j' := by rw [hnew]; simp
      have hpj := mem_upto.1 hmem
      rcases Nat.lt_or_eq_of_le hvp with h | h
      · simp only [mk]
        have e0 : (fun i => rel ns v p (2 * i)) = rel ns (v + 1) p := funext fun i => (rel_skip hw.fm hp h i).1
        have e1 : (fun i => rel ns v p (2 * i + 1)) = rel ns (v + 1) p := funext fun i => (rel_skip hw.fm hp h i).2
        rw [e0, e1, ih (v + 1) p j j' (by omega) hp h hj hj' ho]
        dsimp only
        rw [there hj' hpj.2 (by omega) h, if_pos rfl]
      · have hl := isP_lo hw.fm h1 hp.2
        have hh := isP_hi hw.fm h1 hp.2
        have hp1 : ord ns (nd ns p).hi (ord ns (nd ns p).lo (upto j)) <+: upto j' := by rw [hnew]; exact List.prefix_append _ _
        have hp2 := (ord_prefix ns (nd ns p).hi (ord ns (nd ns p).lo (upto j))).trans hp1
        have e2 := prefix_upto hp1
        have e1 := prefix_upto hp2
        generalize (ord ns (nd ns p).lo (upto j)).length = j1 at e1
        rw [e1] at hp1 hp2 e2 hnew
        generalize (ord ns (nd ns p).hi (upto j1)).length = j2 at e2
        rw [e2] at hp1 hnew
        have l1 := hp2.length_le
        have l2 := hp1.length_le
        rw [length_upto, length_upto] at l1 l2
        have l3 : j' = j2 + 1 := by
          have := congrArg List.length hnew
          simpa [length_upto] using this
        subst l3
        have ep : p = (j2 : Int) + 2 := by
          rw [upto_succ] at hnew
          have := List.append_cancel_left hnew
          simpa using this.symm
        simp only [mk]
        have f0 : (fun i => rel ns v p (2 * i)) = rel ns (v + 1) (nd ns p).lo := funext fun i => rel_lo hw.fm h1 hp.2 h.symm i
        have f1 : (fun i => rel ns v p (2 * i + 1)) = rel ns (v + 1) (nd ns p).hi := funext fun i => rel_hi hw.fm h1 hp.2 h.symm i
        rw [f0, f1, ih (v + 1) (nd ns p).lo j j1 (by omega) hl.1 (by have := vr_lo hw.fm h1 hp.2; omega) hj (by omega) e1]
        dsimp only
        rw [ih (v + 1) (nd ns p).hi j1 j2 (by omega) hh.1 (by have := vr_hi hw.fm h1 hp.2; omega) (by omega) (by omega) e2]
        dsimp only
        have g := good hw.fm h1 hp.2
        have hvv : (v : Int) = (nd ns p).v := by have := vr_node vars ns h1; have := g.v0; omega
        rw [if_neg g.ne, hvv]
        show push (nd ns p) (ns.take j2) = _
        have hget := nd_get h1 hp.2
        have ej : (p - 2).toNat = j2 := by omega
        rw [ej] at hget
        have hlt : j2 < ns.length := by omega
        have hnot : nd ns p ∉ ns.take j2 := by
          intro hin
          obtain ⟨i, hi, he⟩ := List.getElem_of_mem hin
          have hi' : i < j2 := by rw [List.length_take] at hi; omega
          have : ns[i]? = some (nd ns p) := by rw [List.getElem_take] at he; rw [List.getElem?_eq_getElem (by omega), he]
          have := (List.getElem?_inj (by omega) hw.nodup).1 (this.trans hget.symm)
          omega
        unfold push
        rw [if_neg hnot, List.take_add_one, hget, List.length_take, ep]
        simp
        omega

/-- .. the nodes that come new are no lower. -/
theorem mk_new : ∀ (k v : Nat) (f : Nat → Bool) (ns : List Nd), ∀ n ∈ (mk k v f ns).2, n ∈ ns ∨ (v : Int) ≤ n.v := by
  intro k
  induction k with
  | zero => intro v f ns n hn; exact .inl hn
  | succ k ih =>
    intro v f ns n hn
    have hA := ih (v + 1) (fun i => f (2 * i)) ns
    have hB := ih (v + 1) (fun i => f (2 * i + 1)) (mk k (v + 1) (fun i => f (2 * i)) ns).2
    simp only [mk] at hn
    generalize mk k (v + 1) (fun i => f (2 * i)) ns = a at hA hB hn
    generalize mk k (v + 1) (fun i => f (2 * i + 1)) a.2 = b at hB hn
    have hboth : n ∈ b.2 → n ∈ ns ∨ (v : Int) ≤ n.v := fun h => by
      rcases hB n h with h | h
      · rcases hA n h with h | h
        · exact .inl h
        · exact .inr (by omega)
      · exact .inr (by omega)
    split at hn
    · exact hboth hn
    · unfold push at hn
      split at hn
      · exact hboth hn
      · rcases List.mem_append.1 hn with h | h
        · exact hboth h
        · simp at h; subst h; exact .inr (Int.le_refl _)

/-- What is laid down stands in the order in which it is done. -/
theorem ord_of_mk {vars : Nat} {ns : List Nd} (hf : Fm vars ns) : ∀ (k v : Nat) (f : Nat → Bool) (ms : List Nd), v + k = vars → Wf vars ms → (mk k v f ms).2 <+: ns →
    ord ns (mk k v f ms).1 (upto ms.length) = upto (mk k v f ms).2.length := by
  intro k
  induction k with
  | zero =>
    intro v f ms hv hw hpre
    simp only [mk]
    exact ord_small ns (by split <;> omega) _
  | succ k ih =>
    intro v f ms hv hw hpre
    have L := mk_laid (k + 1) v f ms hv hw
    have A := mk_laid k (v + 1) (fun i => f (2 * i)) ms (by omega) hw
    have B := mk_laid k (v + 1) (fun i => f (2 * i + 1)) (mk k (v + 1) (fun i => f (2 * i)) ms).2 (by omega) A.wf
    have iA := ih (v + 1) (fun i => f (2 * i)) ms (by omega) hw
    have iB := ih (v + 1) (fun i => f (2 * i + 1)) (mk k (v + 1) (fun i => f (2 * i)) ms).2 (by omega) A.wf
    have nA := mk_new k (v + 1) (fun i => f (2 * i)) ms
    have nB := mk_new k (v + 1) (fun i => f (2 * i + 1)) (mk k (v + 1) (fun i => f (2 * i)) ms).2
    have hthere : ∀ p, isP ms p → v ≤ vr vars ms p → (∀ i, i < 2 ^ (k + 1) → rel ms v p i = f i) → mk (k + 1) v f ms = (p, ms) := fun p => mk_there hw (k + 1) v f p hv
    by_cases hold : ∃ p, isP ms p ∧ v ≤ vr vars ms p ∧ ∀ i, i < 2 ^ (k + 1) → rel ms v p i = f i
    · obtain ⟨p, hp, hvp, hm⟩ := hold
      rw [hthere p hp hvp hm]
      dsimp only
      by_cases h2 : p < 2
      · exact ord_small ns h2 _
      · exact ord_mem ns (mem_upto.2 ⟨by omega, by have := hp.2; omega⟩)
    · have hmeans := L.means
      have hplace := L.place
      have hvar := L.var
      have hLpre := L.pre
      simp only [mk] at hpre hmeans hplace hvar hLpre ⊢
      generalize mk k (v + 1) (fun i => f (2 * i)) ms = a at A B iA iB nA nB hpre hmeans hplace hvar hLpre ⊢
      generalize mk k (v + 1) (fun i => f (2 * i + 1)) a.2 = b at B iB nB hpre hmeans hplace hvar hLpre ⊢
      by_cases e : a.1 = b.1
      · rw [if_pos e] at hpre ⊢
        have hA := iA (B.pre.trans hpre)
        have hB := iB hpre
        rw [← e] at hB
        have same : ord ns a.1 (upto a.2.length) = upto a.2.length := by
          by_cases h2 : a.1 < 2
          · exact ord_small ns h2 _
          · exact ord_mem ns (mem_upto.2 ⟨by omega, by have := A.place.2; omega⟩)
        dsimp only
        rw [hA, ← hB, same]
      · rw [if_neg e] at hpre hmeans hplace hvar hLpre ⊢
        by_cases hin : (⟨v, a.1, b.1⟩ : Nd) ∈ b.2
        · exfalso
          have hms : (⟨v, a.1, b.1⟩ : Nd) ∈ ms := by
            rcases nB _ hin with h | h
            · rcases nA _ h with h | h
              · exact h
              · simp at h; omega
            · simp at h; omega
          have hpr := A.pre.trans B.pre
          have hlt : b.2.idxOf (⟨v, a.1, b.1⟩ : Nd) < b.2.length := List.idxOf_lt_length_of_mem hin
          have hpm : isP ms ((b.2.idxOf (⟨v, a.1, b.1⟩ : Nd) : Int) + 2) := by
            obtain ⟨i, hi, he⟩ := List.getElem_of_mem hms
            have g1 : b.2[i]? = some ⟨v, a.1, b.1⟩ := by
              obtain ⟨t, ht⟩ := hpr
              rw [← ht, List.getElem?_append_left hi, List.getElem?_eq_getElem hi, he]
            have g2 : b.2[b.2.idxOf (⟨v, a.1, b.1⟩ : Nd)]? = some ⟨v, a.1, b.1⟩ := by rw [List.getElem?_eq_getElem hlt]; simp
            have := (List.getElem?_inj hlt B.wf.nodup).1 (g2.trans g1.symm)
            exact ⟨by omega, by omega⟩
          unfold push at hmeans hplace hvar hLpre
          rw [if_pos hin] at hmeans hplace hvar hLpre
          exact hold ⟨_, hpm, by rw [← vr_app hpr hpm]; exact hvar, fun i hi => by rw [← rel_app hw.fm hpr hpm]; exact hmeans i hi⟩
        · unfold push at hpre ⊢
          rw [if_neg hin] at hpre ⊢
          have hpb : b.2 <+: ns := (List.prefix_append _ _).trans hpre
          have hA := iA (B.pre.trans hpb)
          have hB := iB hpb
          dsimp only
          have hlen := hpre.length_le
          rw [List.length_append] at hlen
          have e2 : nd ns ((b.2.length : Int) + 2) = ⟨v, a.1, b.1⟩ := by
            rw [nd_app hpre (by omega) (by simp; omega)]
            unfold nd
            rw [show (((b.2.length : Int) + 2) - 2).toNat = b.2.length by omega]; simp [List.getD_eq_getElem?_getD]
          have hms := (A.pre.trans B.pre).length_le
          rw [ord_new hf (by omega) (by simp at hlen; omega) (fun h => by have := mem_upto.1 h; omega), e2]
          dsimp only
          rw [hA, hB, List.length_append]
          exact (upto_succ _).symm

theorem rel_zero (ns : List Nd) (p : Int) : rel ns 0 p = has ns p := funext fun i => by simp [rel]

theorem okS_iff (V : Int) (ns : List Nd) (R : Int) : OkS V ns R ↔ OkI V ns R := by
  constructor
  · rintro ⟨hf, hn, ho⟩
    refine ⟨hf, ?_⟩
    have h := mk_of_ord (vars := V.toNat) ⟨hf.fm, hn⟩ V.toNat 0 R 0 ns.length (by omega) hf.root (Nat.zero_le _) (Nat.zero_le _) (Nat.le_refl _) ho
    rw [rel_zero] at h
    simpa using h
  · rintro ⟨hf, hm⟩
    have L := mk_laid (vars := V.toNat) V.toNat 0 (has ns R) [] (by omega) (wf_nil _)
    have O := ord_of_mk (vars := V.toNat) hf.fm V.toNat 0 (has ns R) [] (by omega) (wf_nil _) (by rw [hm]; exact List.prefix_refl _)
    rw [hm] at L O
    exact ⟨hf, L.wf.nodup, O⟩


theorem ordF_mem {vars : Nat} {ns : List Nd} (h : Fm vars ns) : ∀ (f : Nat) (p : Int) (d : List Int) (x : Int), isP ns p → x ∈ ordF ns f p d → x ∈ d ∨ (2 ≤ x ∧ x ≤ p) := by
  intro f
  induction f with
  | zero => intro p d x _ hx; exact .inl hx
  | succ f ih =>
    intro p d x hp hx
    simp only [ordF] at hx
    split at hx
    · exact .inl hx
    · split at hx
      · exact .inl hx
      · rename_i h2 _
        have hl := isP_lo h (p := p) (by omega) hp.2
        have hh := isP_hi h (p := p) (by omega) hp.2
        rcases List.mem_append.1 hx with hx | hx
        · rcases ih _ _ x hh.1 hx with hx | hx
          · rcases ih _ _ x hl.1 hx with hx | hx
            · exact .inl hx
            · exact .inr (by omega)
          · exact .inr (by omega)
        · simp at hx; exact .inr (by omega)

theorem ordF_nodup {vars : Nat} {ns : List Nd} (h : Fm vars ns) : ∀ (f : Nat) (p : Int) (d : List Int), isP ns p → d.Nodup → (ordF ns f p d).Nodup := by
  intro f
  induction f with
  | zero => intro p d _ hd; exact hd
  | succ f ih =>
    intro p d hp hd
    simp only [ordF]
    split
    · exact hd
    · split
      · exact hd
      · rename_i h2 hnot
        have hl := isP_lo h (p := p) (by omega) hp.2
        have hh := isP_hi h (p := p) (by omega) hp.2
        rw [List.nodup_append]
        refine ⟨ih _ _ hh.1 (ih _ _ hl.1 hd), by simp, fun a ha b hb => ?_⟩
        simp at hb
        subst hb
        rintro rfl
        rcases ordF_mem h _ _ _ _ hh.1 ha with ha | ha
        · rcases ordF_mem h _ _ _ _ hl.1 ha with ha | ha
          · exact hnot ha
          · omega
        · omega

/-- Done: places of nodes, none twice. -/
structure Done (ns : List Nd) (d : List Int) : Prop where
  nodup : d.Nodup
  rng : ∀ x, x ∈ d → 2 ≤ x ∧ x ≤ ns.length + 1

theorem Done.nil (ns : List Nd) : Done ns [] := ⟨by simp, by simp⟩
theorem Done.ord {vars : Nat} {ns : List Nd} (h : Fm vars ns) {p : Int} (hp : isP ns p) {d : List Int} (hd : Done ns d) : Done ns (ord ns p d) :=
  ⟨ordF_nodup h _ p d hp hd.nodup, fun x hx => by
    rcases ordF_mem h _ p d x hp hx with hx | hx
    · exact hd.rng x hx
    · exact ⟨hx.1, by have := hp.2; omega⟩⟩

theorem nodup_bounded : ∀ (n : Nat) (l : List Int), l.Nodup → (∀ x, x ∈ l → 2 ≤ x ∧ x < (n : Int) + 2) → l.length ≤ n := by
  intro n
  induction n with
  | zero =>
    intro l _ h
    cases l with
    | nil => simp
    | cons x l => have := h x (by simp); omega
  | succ n ih =>
    intro l hn h
    by_cases hm : ((n : Int) + 2) ∈ l
    · have h1 := List.length_erase_of_mem hm
      have h2 := ih (l.erase ((n : Int) + 2)) (hn.erase _) fun x hx => by
        have hx' := (List.Nodup.mem_erase_iff hn).1 hx
        have := h x hx'.2
        have := hx'.1
        omega
      have : 0 < l.length := List.length_pos_of_mem hm
      omega
    · have := ih l hn fun x hx => by
        have := h x hx
        have : x ≠ (n : Int) + 2 := fun e => hm (e ▸ hx)
        omega
      omega
theorem Done.len {ns : List Nd} {d : List Int} (h : Done ns d) : d.length ≤ ns.length := nodup_bounded ns.length d h.nodup fun x hx => by have := h.rng x hx; omega
end Go.Proofs.Ytffefegjnbfobaa.B
