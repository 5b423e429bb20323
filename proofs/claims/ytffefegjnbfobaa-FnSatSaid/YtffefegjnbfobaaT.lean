/- Words on makers of diagrams; told, walked. -/
import Derived.Test.YtffefegjnbfobaaD
import Derived.Test.YtffefegjnbfobaaL0
import Derived.Test.YtffefegjnbfobaaBdd
namespace Go.Proofs.Ytffefegjnbfobaa
open Go.RowKit
open B

theorem Blk.put3 {w : World} {g : Nat} {t : TypeId} {a b c : Value} (h : Blk w g t #[a, b, c]) (x y z : Value) :
    Blk (((w.setCell ⟨g, 0, none⟩ x).setCell ⟨g, 1, none⟩ y).setCell ⟨g, 2, none⟩ z) g t #[x, y, z] := by
  have := ((h.set_ 0 x).set_ 1 y).set_ 2 z
  simpa only [List.setIfInBounds_toArray, List.set_cons_zero, List.set_cons_succ] using this
theorem Blk.drew {w : World} {g : Nat} {t : TypeId} {cs : Array Value} (h : Blk w g t cs) : Blk w.drew g t cs := h
theorem Blk.far3 {w : World} {g q : Nat} {t : TypeId} {cs : Array Value} (h : Blk w g t cs) (hne : g ≠ q) (x y z : Value) : Blk (((w.setCell ⟨q, 0, none⟩ x).setCell ⟨q, 1, none⟩ y).setCell ⟨q, 2, none⟩ z) g t cs :=
  ((h.far (p := ⟨q, 0, none⟩) hne _).far (p := ⟨q, 1, none⟩) hne _).far (p := ⟨q, 2, none⟩) hne _
theorem Blk.ne {w : World} {g q : Nat} {t t' : TypeId} {cs cs' : Array Value} (h : Blk w g t cs) (h' : Blk w q t' cs') (hne : t ≠ t') : g ≠ q := by
  rintro rfl
  unfold Blk at h h'
  rw [h] at h'
  injection h' with h'
  injection h' with _ h'
  exact hne h'
theorem below_put3 {B : Nat} {w w' : World} (h : Below B w w') {g : Nat} (hg : B ≤ g) (x y z : Value) :
    Below B w (((w'.setCell ⟨g, 0, none⟩ x).setCell ⟨g, 1, none⟩ y).setCell ⟨g, 2, none⟩ z) :=
  ((h.setCell (p := ⟨g, 0, none⟩) hg _).setCell (p := ⟨g, 1, none⟩) hg _).setCell (p := ⟨g, 2, none⟩) hg _
theorem own_put3 {w : World} {base : Nat} {e : TypeId} {size : Nat} {v : Value} {n : Nat} {xs : List Value} (h : w.ownsRow base e size v n xs) {g : Nat} (hne : v.ownBlock ≠ some g) (x y z : Value) :
    (((w.setCell ⟨g, 0, none⟩ x).setCell ⟨g, 1, none⟩ y).setCell ⟨g, 2, none⟩ z).ownsRow base e size v n xs :=
  own_far (own_far (own_far h (p := ⟨g, 0, none⟩) hne _) (p := ⟨g, 1, none⟩) hne _) (p := ⟨g, 2, none⟩) hne _

/-- Which diagram a maker hands back, and whether. -/
def MkV (p : Prop) (V : Int) (r : Int × List Nd) (V' R' : Int) (ms : List Nd) (b : Bool) : Prop :=
  (p ∧ r.2.length ≤ 600 ∧ V' = V ∧ R' = r.1 ∧ ms = r.2 ∧ b = true) ∨ (¬ (p ∧ r.2.length ≤ 600) ∧ V' = 0 ∧ R' = 0 ∧ ms = [] ∧ b = false)
def Mkd (p : Prop) (V : Int) (r : Int × List Nd) (B : Nat) (w' : World) (e : Ending) : Prop :=
  ∃ (V' R' : Int) (ms : List Nd) (b : Bool) (A : Option Addr) (c : Nat), MkV p V r V' R' ms b ∧ e = .returned (.tuple #[.agg #[.int .i64 V', .slice A ms.length c, .int .i64 R'], .bool b]) ∧ w'.ownsRow B 89 3 (.slice A ms.length c) ms.length (ncells ms)

theorem MkV.conv {p q : Prop} {V : Int} {r r' : Int × List Nd} {V' R' : Int} {ms : List Nd} {b : Bool} (h : MkV p V r V' R' ms b) (hpq : p ↔ q) (hr : p → r = r') : MkV q V r' V' R' ms b := by
  rcases h with ⟨hp, hl, h⟩ | ⟨hp, h⟩
  · rw [hr hp] at hl h
    exact .inl ⟨hpq.1 hp, hl, h⟩
  · exact .inr ⟨fun hq => hp ⟨hpq.2 hq.1, by rw [hr (hpq.2 hq.1)]; exact hq.2⟩, h⟩
theorem MkV.same {p : Prop} {V : Int} {r : Int × List Nd} {V' R' V'' R'' : Int} {ms ms' : List Nd} {b b' : Bool} (h : MkV p V r V' R' ms b) (h' : MkV p V r V'' R'' ms' b') : V'' = V' ∧ R'' = R' ∧ ms' = ms ∧ b' = b := by
  rcases h with ⟨hp, hl, rfl, rfl, rfl, rfl⟩ | ⟨hp, rfl, rfl, rfl, rfl⟩ <;> rcases h' with ⟨hq, hl', rfl, rfl, rfl, rfl⟩ | ⟨hq, rfl, rfl, rfl, rfl⟩
  · exact ⟨rfl, rfl, rfl, rfl⟩
  · exact (hq ⟨hp, hl⟩).elim
  · exact (hp ⟨hq, hl'⟩).elim
  · exact ⟨rfl, rfl, rfl, rfl⟩
theorem MkV.len {p : Prop} {V : Int} {r : Int × List Nd} {V' R' : Int} {ms : List Nd} {b : Bool} (h : MkV p V r V' R' ms b) : ms.length ≤ 600 := by
  rcases h with ⟨_, hl, _, _, rfl, _⟩ | ⟨_, _, _, rfl, _⟩
  · exact hl
  · simp
theorem Mkd.conv {p q : Prop} {V : Int} {r r' : Int × List Nd} {B : Nat} {w' : World} {e : Ending} (h : Mkd p V r B w' e) (hpq : p ↔ q) (hr : p → r = r') : Mkd q V r' B w' e := by
  obtain ⟨V', R', ms, b, A, c, hv, he, ho⟩ := h
  exact ⟨V', R', ms, b, A, c, hv.conv hpq hr, he, ho⟩
theorem Mkd.low {p : Prop} {V : Int} {r : Int × List Nd} {B B' : Nat} {w' : World} {e : Ending} (h : Mkd p V r B w' e) (hB : B' ≤ B) : Mkd p V r B' w' e := by
  obtain ⟨V', R', ms, b, A, c, hv, he, ho⟩ := h
  exact ⟨V', R', ms, b, A, c, hv, he, own_mono ho hB⟩
theorem Mkd.is {p : Prop} {V : Int} {r : Int × List Nd} {B : Nat} {w' : World} {e : Ending} (h : Mkd p V r B w' e) :
    ∃ (V' R' : Int) (ms : List Nd) (b : Bool) (A : Option Addr) (c : Nat), Hid (MkV p V r V' R' ms b) ∧ e = .returned (.tuple #[.agg #[.int .i64 V', .slice A ms.length c, .int .i64 R'], .bool b]) ∧ Hid (w'.ownsRow B 89 3 (.slice A ms.length c) ms.length (ncells ms)) ∧ ms.length ≤ 600 := by
  obtain ⟨V', R', ms, b, A, c, hv, he, ho⟩ := h
  exact ⟨V', R', ms, b, A, c, hv, he, ho, hv.len⟩
theorem Mkd.again {p : Prop} {V : Int} {r : Int × List Nd} {B : Nat} {w' : World} {e : Ending} {V' R' : Int} {ms : List Nd} {b : Bool} (h : Mkd p V r B w' e) (hv : MkV p V r V' R' ms b) :
    ∃ (A : Option Addr) (c : Nat), e = .returned (.tuple #[.agg #[.int .i64 V', .slice A ms.length c, .int .i64 R'], .bool b]) ∧ Hid (w'.ownsRow B 89 3 (.slice A ms.length c) ms.length (ncells ms)) := by
  obtain ⟨V'', R'', ms', b', A, c, hv', he, ho⟩ := h
  obtain ⟨rfl, rfl, rfl, rfl⟩ := hv.same hv'
  exact ⟨A, c, he, ho⟩
theorem Mkd.none {p : Prop} {V : Int} {r : Int × List Nd} {B : Nat} {w' : World} (hp : ¬ p) : Mkd p V r B w' (.returned (.tuple #[.agg #[.int .i64 0, .slice none 0 0, .int .i64 0], .bool false])) :=
  ⟨0, 0, [], false, _, 0, .inr ⟨fun h => hp h.1, rfl, rfl, rfl, rfl⟩, rfl, World.ownsRow_nil _ _ _ _⟩
theorem Diag.mkd {w : World} {V : Int} {r : Int × List Nd} {e : Ending} {w' : World} (h : Diag w V r e w') {p : Prop} (hp : p) : Mkd p V r w.heap.size w' e := by
  rcases h.2 with ⟨hl, A, c, he, ho⟩ | ⟨hl, he⟩
  · exact ⟨V, r.1, r.2, true, A, c, .inl ⟨hp, hl, rfl, rfl, rfl, rfl⟩, he, ho⟩
  · exact ⟨0, 0, [], false, none, 0, .inr ⟨fun h => by omega, rfl, rfl, rfl, rfl⟩, he, World.ownsRow_nil _ _ _ _⟩

set_option maxRecDepth 100000 in
set_option maxHeartbeats 400000 in
theorem told_any (V : Int) (fn : Nat) (first cap : Array Value) (h : Nat → Bool) (w : World) (he : Enters Try.prog fn)
    (hcall : 0 ≤ V → V ≤ 13 → ∀ (W : World) (c : Nat), Below w.heap.size w W → c < 2 ^ V.toNat → Calls Try.prog fn (first.push (.int .i64 (c : Int)) ++ cap) W fun e W' => e = .returned (.bool (h c)) ∧ Below W.heap.size W W') :
    Calls Try.prog 74 #[.int .i64 V, .func (.func fn) first cap] w fun e w' => Mkd (0 ≤ V ∧ V ≤ 13) V (mk V.toNat 0 h []) w.heap.size w' e ∧ Below w.heap.size w w' := by
  have HC := Lib.hid hcall
  clear hcall
  have b0 := Blk.new w 28 #[.int .i64 0, .slice none 0 0, .int .i64 0]
  by_cases hV : 0 ≤ V ∧ V ≤ 13
  case neg =>
    have hd : decide (0 ≤ V ∧ V ≤ 13) = false := by simpa using hV
    have HV := Lib.hid hV
    clear hV b0
    go_enter Try.func74, Try.ntmps74
    go_wp2_with (go_at_call 62; refine (isVars_is _ false hd _).mono ?_; rintro e w' ⟨rfl, rfl⟩)
    refine bodyPost_ret (v := .tuple #[.agg #[.int .i64 0, .slice none 0 0, .int .i64 0], .bool false]) (by simp [results, Try.results74, go_sem]) rfl ⟨Mkd.none HV.out, (Below.refl _ _).alloc (Nat.le_refl _) _⟩
  have hd : decide (0 ≤ V ∧ V ≤ 13) = true := by simpa using hV
  have HV := Lib.hid hV
  obtain ⟨k, rfl⟩ := Int.eq_ofNat_of_zero_le hV.1
  have hk : k ≤ 13 := by omega
  obtain ⟨N, hN⟩ : ∃ N, N = 2 ^ k := ⟨_, rfl⟩
  have HN := Lib.hid hN
  have HB0 := Lib.hid b0
  have HB1 : Hid (Below w.heap.size w (w.alloc (.cells #[.int .i64 0, .slice none 0 0, .int .i64 0] 28))) := (Below.refl _ _).alloc (Nat.le_refl _) _
  have HC1 : Hid (∀ (W : World) (c : Nat), Below (w.alloc (.cells #[.int .i64 0, .slice none 0 0, .int .i64 0] 28)).heap.size (w.alloc (.cells #[.int .i64 0, .slice none 0 0, .int .i64 0] 28)) W → c < N → Calls Try.prog fn (first.push (.int .i64 (c : Int)) ++ cap) W fun e W' => e = .returned (.bool (h c)) ∧ Below W.heap.size W W') := fun W c hb hc =>
    HC.out (by omega) (by omega) W c (HB1.out.trans (hb.mono (by simp))) (by simpa [← hN] using hc)
  have HE := Lib.hid he
  clear hV hN b0 he
  go_enter Try.func74, Try.ntmps74
  go_wp2_with (first
    | (go_at_call 62; refine (isVars_is _ true hd _).mono ?_; rintro e w' ⟨rfl, rfl⟩)
    | (go_at_call 121; refine (newTable_any k N HN.out fn first cap h _ hk HE.out (by exact HC1.out)).mono ?_; rintro e w1 ⟨g, rfl, hg, hb1, hT⟩; have HT := Lib.hid hT; have B1 := Lib.hid (HB0.out.below hb1 (by simp)); have HW1 : Hid (Below w.heap.size w w1) := HB1.out.trans (hb1.mono (by simp)); clear hT)
    | (go_at_call 64; refine (diagram_any k N g h HN.out hk _ (by exact HT.out)).mono ?_; rintro e w2 hd2; have HW2 : Hid (Below w.heap.size w w2) := HW1.out.trans (hd2.1.mono HW1.out.size); have B2 := Lib.hid (B1.out.below hd2.1 B1.out.lt); obtain ⟨V', R', ms, bb, A', c', hmv, rfl, ho, hml⟩ := (hd2.mkd HV.out).is; obtain ⟨x0, x1, x2⟩ := B2.out.three; have y0 := B2.out.frozen 0; have y1 := B2.out.frozen 1; have y2 := B2.out.frozen 2; clear hd2))
  obtain ⟨u0, u1, u2⟩ := (B2.out.put3 (.int .i64 V') (.slice A' ms.length c') (.int .i64 R')).three
  refine bodyPost_ret (v := .tuple #[.agg #[.int .i64 V', .slice A' ms.length c', .int .i64 R'], .bool bb]) (by simp [results, Try.results74, go_sem, u0, u1, u2]) rfl ⟨⟨V', R', ms, bb, A', c', by simpa using hmv.out, rfl, own_put3 (own_mono ho.out HW1.out.size) (own_ne_blk ho.out B2.out (by decide)) _ _ _⟩, below_put3 HW2.out (Nat.le_refl _) _ _ _⟩
end Go.Proofs.Ytffefegjnbfobaa
