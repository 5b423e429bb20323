/- The least number: words; BddLeast of the program, walked. -/
import Derived.Test.YtffefegjnbfobaaK
namespace Go.Proofs.Ytffefegjnbfobaa
open Go.RowKit
open B

theorem mk_none : ∀ (k v : Nat) (ns : List Nd), mk k v (fun _ => false) ns = (0, ns) := by
  intro k
  induction k with
  | zero => intro v ns; simp [mk]
  | succ k ih =>
    intro v ns
    simp [mk, ih]

/-- What is ok and has a number does not end at 0; and the other way round. -/
theorem root_zero {k : Nat} {R : Int} {ns : List Nd} (h : OkI (k : Int) ns R) : R = 0 ↔ codesF (has ns R) (2 ^ k) = [] := by
  constructor
  · rintro rfl
    unfold codesF
    rw [List.map_eq_nil_iff, List.filter_eq_nil_iff]
    intro c _
    rw [has_small ns 0 c (by omega)]
    simp
  · intro he
    have hz : ∀ c, c < 2 ^ k → has ns R c = false := fun c hc => by
      unfold codesF at he
      rw [List.map_eq_nil_iff, List.filter_eq_nil_iff] at he
      have := he c (by simpa using hc)
      simpa using this
    have := h.2
    rw [show ((k : Int)).toNat = k from by simp, mk_congr k 0 (has ns R) (fun _ => false) [] hz, mk_none] at this
    exact (congrArg Prod.fst this).symm

theorem codesF_prefix (h : Nat → Bool) {n m : Nat} (hnm : n ≤ m) : codesF h n <+: codesF h m := by
  induction m with
  | zero => obtain rfl : n = 0 := by omega
            exact List.prefix_refl _
  | succ m ih =>
    rcases Nat.lt_or_ge n (m + 1) with hlt | hge
    · refine (ih (by omega)).trans ?_
      cases hh : h m with
      | true => rw [codesF_yes hh]; exact List.prefix_append _ _
      | false => rw [codesF_no hh]; exact List.prefix_refl _
    · obtain rfl : n = m + 1 := by omega
      exact List.prefix_refl _
theorem codesF_first {h : Nat → Bool} {i N : Nat} (h0 : codesF h i = []) (hi : h i = true) (hN : i < N) : ∃ l, codesF h N = (i : Int) :: l := by
  obtain ⟨l, hl⟩ := codesF_prefix h (n := i + 1) (m := N) (by omega)
  rw [codesF_yes hi, h0] at hl
  exact ⟨l, by simpa using hl.symm⟩

/-- The least number of a set, where it is ok. -/
def Lst (p : Prop) (V R : Int) (ns : List Nd) (e : Ending) : Prop :=
  (p ∧ ∃ c l, codesF (has ns R) (2 ^ V.toNat) = c :: l ∧ e = .returned (.tuple #[.int .i64 c, .bool true])) ∨ (¬ (p ∧ codesF (has ns R) (2 ^ V.toNat) ≠ []) ∧ e = .returned (.tuple #[.int .i64 0, .bool false]))
theorem Lst.is {p : Prop} {V R : Int} {ns : List Nd} {e : Ending} (h : Lst p V R ns e) : ∃ x : Int × Bool, e = .returned (.tuple #[.int .i64 x.1, .bool x.2]) ∧ Hid (Lst p V R ns (.returned (.tuple #[.int .i64 x.1, .bool x.2]))) := by
  rcases h with ⟨hp, c, l, hc, rfl⟩ | ⟨hp, rfl⟩
  · exact ⟨(c, true), rfl, .inl ⟨hp, c, l, hc, rfl⟩⟩
  · exact ⟨(0, false), rfl, .inr ⟨hp, rfl⟩⟩
theorem Lst.same {p q : Prop} {V R : Int} {ns : List Nd} {e e' : Ending} (h : Lst p V R ns e) (hb : Lst q V R ns e') (hpq : p ↔ q) : e = e' := by
  rcases h with ⟨hp, c, l, hc, rfl⟩ | ⟨hp, rfl⟩ <;> rcases hb with ⟨hq, c', l', hc', rfl⟩ | ⟨hq, rfl⟩
  · rw [hc] at hc'; injection hc' with h1 _; rw [h1]
  · exact (hq ⟨hpq.1 hp, by rw [hc]; simp⟩).elim
  · exact (hp ⟨hpq.2 hq, by rw [hc']; simp⟩).elim
  · rfl

end Go.Proofs.Ytffefegjnbfobaa
namespace Go.Proofs.Ytffefegjnbfobaa
open Go.RowKit
open B

set_option maxRecDepth 100000 in
set_option maxHeartbeats 400000 in
theorem implLeast_any (V R : Int) (A : Option Addr) (cap : Nat) (ns : List Nd) (w : World) (hA : NAt w A ns) (hn : ns.length ≤ 1048576) :
    Calls Try.prog 19 #[.agg #[.int .i64 V, .slice A ns.length cap, .int .i64 R]] w fun e w' => Lst (OkI V ns R) V R ns e ∧ Below w.heap.size w w' := by
  have HA := Lib.hid hA
  clear hA
  by_cases hok : OkI V ns R
  case neg =>
    have HOK := Lib.hid hok
    clear hok
    go_enter Try.func19, Try.ntmps19
    go_wp2_with (go_at_call 32; refine (bddOk_any V R A cap ns _ (by exact HA.out.below ((Below.refl w.heap.size w).alloc (Nat.le_refl _) _)) hn).mono ?_; rintro e w1 ⟨hs, hb1⟩; obtain rfl := hs.f HOK.out; clear hs)
    go_ret2
    exact ⟨.inr ⟨fun h => HOK.out h.1, rfl⟩, ((Below.refl w.heap.size w).alloc (Nat.le_refl _) _).trans (hb1.mono (by simp))⟩
  have HOK := Lib.hid hok
  obtain ⟨k, rfl⟩ := Int.eq_ofNat_of_zero_le hok.1.v0
  have hk : k ≤ 13 := by have := hok.1.v1; omega
  have HFM : Hid (Fm k ns) := by have := hok.1.fm; simpa [Hid] using this
  clear hok
  have hz := root_zero HOK.out
  by_cases hR : R = 0
  · have HE := Lib.hid (hz.1 hR)
    subst hR
    clear hz
    go_enter Try.func19, Try.ntmps19
    go_wp2_with (go_at_call 32; refine (bddOk_any k 0 A cap ns _ (by exact HA.out.below ((Below.refl w.heap.size w).alloc (Nat.le_refl _) _)) hn).mono ?_; rintro e w1 ⟨hs, hb1⟩; obtain rfl := hs.t HOK.out; have BX := Lib.hid ((Blk.new w 28 #[.int .i64 k, .slice A ns.length cap, .int .i64 0]).below hb1 (by simp)); obtain ⟨x0, x1, x2⟩ := BX.out.three; clear hs)
    go_ret2
    exact ⟨.inr ⟨fun h => h.2 (by simpa using HE.out), rfl⟩, ((Below.refl w.heap.size w).alloc (Nat.le_refl _) _).trans (hb1.mono (by simp))⟩
  have d0 : (R == 0) = false := by simpa using hR
  obtain ⟨c, l, hcl⟩ : ∃ c l, codesF (has ns R) (2 ^ k) = c :: l := by
    cases h : codesF (has ns R) (2 ^ k) with
    | nil => exact (hR (hz.2 h)).elim
    | cons c l => exact ⟨c, l, rfl⟩
  have HCL := Lib.hid hcl
  clear hz hR hcl
  go_enter Try.func19, Try.ntmps19
  go_wp2_with (first
    | (go_at_call 32; refine (bddOk_any k R A cap ns _ (by exact HA.out.below ((Below.refl w.heap.size w).alloc (Nat.le_refl _) _)) hn).mono ?_; rintro e w1 ⟨hs, hb1⟩; obtain rfl := hs.t HOK.out; have BX := Lib.hid ((Blk.new w 28 #[.int .i64 k, .slice A ns.length cap, .int .i64 R]).below hb1 (by simp)); obtain ⟨x0, x1, x2⟩ := BX.out.three; have hbw1 : Below w.heap.size w w1 := ((Below.refl w.heap.size w).alloc (Nat.le_refl _) _).trans (hb1.mono (by simp)); clear hs)
    | (go_at_call 68; refine (codes_any k hk R A cap ns _ (by exact HA.out.below hbw1) hn HFM.out HOK.out.1.root).mono ?_; rw [HCL.out]; rintro e w2 ⟨A2, c2, rfl, ho2, hb2⟩; obtain ⟨g, rfl, hg, hBg, hc⟩ := own_int (k := 0) ho2 (by simp); have hc0 : w2.cell? ⟨g, 0, none⟩ = some (.int .i64 c) := hc; clear hc; have hl0 : (0 : Int) < ((c :: l).length : Int) := by simp only [List.length_cons]; omega))
  go_ret2
  exact ⟨.inl ⟨HOK.out, c, l, by simpa using HCL.out, rfl⟩, hbw1.trans (hb2.mono hbw1.size)⟩

end Go.Proofs.Ytffefegjnbfobaa
