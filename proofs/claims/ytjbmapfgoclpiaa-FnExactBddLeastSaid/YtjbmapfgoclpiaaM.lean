/- BddLeast, spec and impl, walked. -/
import Derived.Test.YtjbmapfgoclpiaaN
namespace Go.Proofs.Ytjbmapfgoclpiaa
open Go.RowKit
open B

theorem mk_none : ∀ (k v : Nat) (ns : List Nd), mk k v (fun _ => false) ns = (0, ns) := by
  intro k
  induction k with
  | zero => intro v ns; simp [mk]
  | succ k ih =>
    intro v ns
    simp [mk, ih]

/-- What is ok and has a number does not end at 0; and the other way round. -/
theorem root_zero {k : Nat} {R : Int} {ns : List Nd} (h : OkI (k : Int) ns R) : R = 0 ↔ codesF (has ns R) (2 ^ k) = [] := by
  constructor
  · rintro rfl
    unfold codesF
    rw [List.map_eq_nil_iff, List.filter_eq_nil_iff]
    intro c _
    rw [has_small ns 0 c (by omega)]
    simp
  · intro he
    have hz : ∀ c, c < 2 ^ k → has ns R c = false := fun c hc => by
      unfold codesF at he
      rw [List.map_eq_nil_iff, List.filter_eq_nil_iff] at he
      have := he c (by simpa using hc)
      simpa using this
    have := h.2
    rw [show ((k : Int)).toNat = k from by simp, mk_congr k 0 (has ns R) (fun _ => false) [] hz, mk_none] at this
    exact (congrArg Prod.fst this).symm

theorem codesF_prefix (h : Nat → Bool) {n m : Nat} (hnm : n ≤ m) : codesF h n <+: codesF h m := by
  induction m with
  | zero => obtain rfl : n = 0 := by omega
            exact List.prefix_refl _
  | succ m ih =>
    rcases Nat.lt_or_ge n (m + 1) with hlt | hge
    · refine (ih (by omega)).trans ?_
      cases hh : h m with
      | true => rw [codesF_yes hh]; exact List.prefix_append _ _
      | false => rw [codesF_no hh]; exact List.prefix_refl _
    · obtain rfl : n = m + 1 := by omega
      exact List.prefix_refl _
theorem codesF_first {h : Nat → Bool} {i N : Nat} (h0 : codesF h i = []) (hi : h i = true) (hN : i < N) : ∃ l, codesF h N = (i : Int) :: l := by
  obtain ⟨l, hl⟩ := codesF_prefix h (n := i + 1) (m := N) (by omega)
  rw [codesF_yes hi, h0] at hl
  exact ⟨l, by simpa using hl.symm⟩

/-- The least number of a set, where it is ok. -/
def Lst (p : Prop) (V R : Int) (ns : List Nd) (e : Ending) : Prop :=
  (p ∧ ∃ c l, codesF (has ns R) (2 ^ V.toNat) = c :: l ∧ e = .returned (.tuple #[.int .i64 c, .bool true])) ∨ (¬ (p ∧ codesF (has ns R) (2 ^ V.toNat) ≠ []) ∧ e = .returned (.tuple #[.int .i64 0, .bool false]))
theorem Lst.is {p : Prop} {V R : Int} {ns : List Nd} {e : Ending} (h : Lst p V R ns e) : ∃ x : Int × Bool, e = .returned (.tuple #[.int .i64 x.1, .bool x.2]) ∧ Hid (Lst p V R ns (.returned (.tuple #[.int .i64 x.1, .bool x.2]))) := by
  rcases h with ⟨hp, c, l, hc, rfl⟩ | ⟨hp, rfl⟩
  · exact ⟨(c, true), rfl, .inl ⟨hp, c, l, hc, rfl⟩⟩
  · exact ⟨(0, false), rfl, .inr ⟨hp, rfl⟩⟩
theorem Lst.same {p q : Prop} {V R : Int} {ns : List Nd} {e e' : Ending} (h : Lst p V R ns e) (hb : Lst q V R ns e') (hpq : p ↔ q) : e = e' := by
  rcases h with ⟨hp, c, l, hc, rfl⟩ | ⟨hp, rfl⟩ <;> rcases hb with ⟨hq, c', l', hc', rfl⟩ | ⟨hq, rfl⟩
  · rw [hc] at hc'; injection hc' with h1 _; rw [h1]
  · exact (hq ⟨hpq.1 hp, by rw [hc]; simp⟩).elim
  · exact (hp ⟨hpq.2 hq, by rw [hc']; simp⟩).elim
  · rfl

set_option maxRecDepth 100000 in
set_option maxHeartbeats 400000 in
theorem implLeast_any (V R : Int) (A : Option Addr) (cap : Nat) (ns : List Nd) (w : World) (hA : NAt w A ns) (hn : ns.length ≤ 1048576) :
    Calls Try.prog 18 #[.agg #[.int .i64 V, .slice A ns.length cap, .int .i64 R]] w fun e w' => Lst (OkI V ns R) V R ns e ∧ Below w.heap.size w w' := by
  have HA := Lib.hid hA
  clear hA
  by_cases hok : OkI V ns R
  case neg =>
    have HOK := Lib.hid hok
    clear hok
    go_enter Try.func18, Try.ntmps18
    go_wp2_with (go_at_call 11; refine (bddOk_any V R A cap ns _ (by exact HA.out.below ((Below.refl w.heap.size w).alloc (Nat.le_refl _) _)) hn).mono ?_; rintro e w1 ⟨hs, hb1⟩; obtain rfl := hs.f HOK.out; clear hs)
    go_ret2
    exact ⟨.inr ⟨fun h => HOK.out h.1, rfl⟩, ((Below.refl w.heap.size w).alloc (Nat.le_refl _) _).trans (hb1.mono (by simp))⟩
  have HOK := Lib.hid hok
  obtain ⟨k, rfl⟩ := Int.eq_ofNat_of_zero_le hok.1.v0
  have hk : k ≤ 13 := by have := hok.1.v1; omega
  have HFM : Hid (Fm k ns) := by have := hok.1.fm; simpa [Hid] using this
  clear hok
  have hz := root_zero HOK.out
  by_cases hR : R = 0
  · have HE := Lib.hid (hz.1 hR)
    subst hR
    clear hz
    go_enter Try.func18, Try.ntmps18
    go_wp2_with (go_at_call 11; refine (bddOk_any k 0 A cap ns _ (by exact HA.out.below ((Below.refl w.heap.size w).alloc (Nat.le_refl _) _)) hn).mono ?_; rintro e w1 ⟨hs, hb1⟩; obtain rfl := hs.t HOK.out; have BX := Lib.hid ((Blk.new w 29 #[.int .i64 k, .slice A ns.length cap, .int .i64 0]).below hb1 (by simp)); obtain ⟨x0, x1, x2⟩ := BX.out.three; clear hs)
    go_ret2
    exact ⟨.inr ⟨fun h => h.2 (by simpa using HE.out), rfl⟩, ((Below.refl w.heap.size w).alloc (Nat.le_refl _) _).trans (hb1.mono (by simp))⟩
  have d0 : (R == 0) = false := by simpa using hR
  obtain ⟨c, l, hcl⟩ : ∃ c l, codesF (has ns R) (2 ^ k) = c :: l := by
    cases h : codesF (has ns R) (2 ^ k) with
    | nil => exact (hR (hz.2 h)).elim
    | cons c l => exact ⟨c, l, rfl⟩
  have HCL := Lib.hid hcl
  clear hz hR hcl
  go_enter Try.func18, Try.ntmps18
  go_wp2_with (first
    | (go_at_call 11; refine (bddOk_any k R A cap ns _ (by exact HA.out.below ((Below.refl w.heap.size w).alloc (Nat.le_refl _) _)) hn).mono ?_; rintro e w1 ⟨hs, hb1⟩; obtain rfl := hs.t HOK.out; have BX := Lib.hid ((Blk.new w 29 #[.int .i64 k, .slice A ns.length cap, .int .i64 R]).below hb1 (by simp)); obtain ⟨x0, x1, x2⟩ := BX.out.three; have hbw1 : Below w.heap.size w w1 := ((Below.refl w.heap.size w).alloc (Nat.le_refl _) _).trans (hb1.mono (by simp)); clear hs)
    | (go_at_call 37; refine (codes_any k hk R A cap ns _ (by exact HA.out.below hbw1) hn HFM.out HOK.out.1.root).mono ?_; rw [HCL.out]; rintro e w2 ⟨A2, c2, rfl, ho2, hb2⟩; obtain ⟨g, rfl, hg, hBg, hc⟩ := own_int (k := 0) ho2 (by simp); have hc0 : w2.cell? ⟨g, 0, none⟩ = some (.int .i64 c) := hc; clear hc; have hl0 : (0 : Int) < ((c :: l).length : Int) := by simp only [List.length_cons]; omega))
  go_ret2
  exact ⟨.inl ⟨HOK.out, c, l, by simpa using HCL.out, rfl⟩, hbw1.trans (hb2.mono hbw1.size)⟩

set_option maxRecDepth 100000 in
set_option maxHeartbeats 400000 in
theorem specLeast_any (V R : Int) (A : Option Addr) (cap : Nat) (ns : List Nd) (w : World) (hA : NAt w A ns) (hn : ns.length ≤ 1048576) :
    Calls Try.prog 17 #[.agg #[.int .i64 V, .slice A ns.length cap, .int .i64 R]] w fun e w' => Lst (OkS V ns R) V R ns e ∧ Below w.heap.size w w' := by
  have HA := Lib.hid hA
  clear hA
  by_cases hok : OkS V ns R
  case neg =>
    have HOK := Lib.hid hok
    clear hok
    go_enter Try.func17, Try.ntmps17
    go_wp2_with (go_at_call 9; refine (specOk_any V R A cap ns _ (by exact HA.out.below ((Below.refl w.heap.size w).alloc (Nat.le_refl _) _)) hn).mono ?_; rintro e w1 ⟨hs, hb1⟩; obtain rfl := hs.f HOK.out; clear hs)
    go_ret2
    exact ⟨.inr ⟨fun h => HOK.out h.1, rfl⟩, ((Below.refl w.heap.size w).alloc (Nat.le_refl _) _).trans (hb1.mono (by simp))⟩
  have HOK := Lib.hid hok
  obtain ⟨k, rfl⟩ := Int.eq_ofNat_of_zero_le hok.1.v0
  have hk : k ≤ 13 := by have := hok.1.v1; omega
  have HFM : Hid (Fm k ns) := by have := hok.1.fm; simpa [Hid] using this
  clear hok
  obtain ⟨N, hN⟩ : ∃ N, N = 2 ^ k := ⟨_, rfl⟩
  have hN' : N ≤ 8192 := by rw [hN]; exact Nat.pow_le_pow_right (by omega) hk
  have hNI : ((2 : Int) ^ k) = (N : Int) := by rw [hN]; simp
  have HNK := Lib.hid hN
  clear hN
  have e1 : wrap64 (2 ^ k) = (N : Int) := by
    rw [hNI]; unfold wrap64; omega
  go_enter Try.func17, Try.ntmps17
  go_wp2_with (go_at_call 9; refine (specOk_any k R A cap ns _ (by exact HA.out.below ((Below.refl w.heap.size w).alloc (Nat.le_refl _) _)) hn).mono ?_; rintro e w1 ⟨hs, hb1⟩; obtain rfl := hs.t HOK.out; have BX := Lib.hid ((Blk.new w 29 #[.int .i64 k, .slice A ns.length cap, .int .i64 R]).below hb1 (by simp)); have hbw1 : Below w.heap.size w w1 := ((Below.refl w.heap.size w).alloc (Nat.le_refl _) _).trans (hb1.mono (by simp)); clear hs)
  have HN1 := Lib.hid e1
  clear e1 hNI
  go_loopw [4] (fun j wr => ∃ i : Nat, i ≤ N ∧ Hid (codesF (has ns R) i = []) ∧ Below w.heap.size w wr ∧ Hid (Blk wr w.heap.size 29 #[.int .i64 k, .slice A ns.length cap, .int .i64 R]) ∧ j = .int .i64 i) (fun j _ => N - (intOf j).toNat)
  case atStart => exact ⟨0, Nat.zero_le _, rfl, hbw1, BX, rfl⟩
  case round =>
    obtain ⟨i, hi, hnone, hbw, hbx, rfl⟩ := hrel
    obtain ⟨x0, x1, x2⟩ := hbx.out.three
    have e1 := HN1.out
    by_cases hlt : i < N
    case neg =>
      obtain rfl : i = N := by omega
      have hlt' : ¬ (i : Int) < (i : Int) := by omega
      go_wp2_with fail
      go_ret2
      exact ⟨.inr ⟨fun h => h.2 (by have := HNK.out; have h' := hnone.out; simp [← this, h']), rfl⟩, hbw⟩
    have hlt' : (i : Int) < (N : Int) := by omega
    have e2 : IntKind.i64.wrap ((i : Int) + 1) = (i : Int) + 1 := wrap_eq (by omega) (by omega)
    cases hh : has ns R i with
    | false =>
      have Hnx := Lib.hid (codesF_no hh)
      have HH := Lib.hid hh
      clear hh
      go_wp2_with (go_at_call 32; refine (l7Has_any k R A cap k ns i _ (by exact HA.out.below hbw) HFM.out hk HOK.out.1.root hn).mono ?_; rw [HH.out]; rintro e w2 ⟨rfl, hb2⟩)
      go_roundw
      case rel => exact ⟨i + 1, by omega, Hnx.out.trans hnone.out, hbw.trans (hb2.mono hbw.size), hbx.out.below hb2 hbx.out.lt, by go_num⟩
      case measure => simp [intOf]; omega
    | true =>
      have Hfst := Lib.hid (codesF_first hnone.out hh hlt)
      have HH := Lib.hid hh
      clear hh
      go_wp2_with (go_at_call 32; refine (l7Has_any k R A cap k ns i _ (by exact HA.out.below hbw) HFM.out hk HOK.out.1.root hn).mono ?_; rw [HH.out]; rintro e w2 ⟨rfl, hb2⟩)
      go_ret2
      refine ⟨.inl ⟨HOK.out, i, ?_⟩, hbw.trans (hb2.mono hbw.size)⟩
      obtain ⟨l, hl⟩ := Hfst.out
      exact ⟨l, by rw [← hl, HNK.out]; simp, rfl⟩
end Go.Proofs.Ytjbmapfgoclpiaa
