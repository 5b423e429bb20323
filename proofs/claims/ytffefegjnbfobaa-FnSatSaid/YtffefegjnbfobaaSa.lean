/- least, SatLeast and CnfHolds of the program, walked. -/
import Derived.Test.YtffefegjnbfobaaXc
namespace Go.Proofs.Ytffefegjnbfobaa
open Go.RowKit
open B

/-- The least number below N of which h is true; -1, if there is none. -/
def leastF (h : Nat → Bool) (N : Nat) : Int := match (List.range N).find? h with | some c => (c : Int) | none => -1
theorem find_range {h : Nat → Bool} {N k : Nat} (hk : k < N) (hb : ∀ i, i < k → h i = false) (hy : h k = true) : (List.range N).find? h = some k := by
  rw [List.find?_range_eq_some]
  exact ⟨hy, List.mem_range.2 hk, fun i hi => by simp [hb i hi]⟩
theorem leastF_yes {h : Nat → Bool} {N k : Nat} (hk : k < N) (hb : ∀ i, i < k → h i = false) (hy : h k = true) : leastF h N = k := by
  unfold leastF; rw [find_range hk hb hy]
theorem leastF_no {h : Nat → Bool} {N : Nat} (hb : ∀ i, i < N → h i = false) : leastF h N = -1 := by
  unfold leastF
  have : (List.range N).find? h = none := by
    rw [List.find?_eq_none]
    intro x hx
    simp [hb x (List.mem_range.1 hx)]
  rw [this]

set_option maxRecDepth 100000 in
theorem implLeastRow_any (B k : Nat) (hk : k ≤ 13) (A : Option Addr) (cap : Nat) (us : List Value) (L : List (List Int)) (w : World) (hA : IntSS w B (.slice A L.length cap) us L) (hf : Few13 L) (hx : LitsN L) :
    Calls Try.prog 73 #[.int .i64 (k : Int), .slice A L.length cap] w fun e w' => e = .returned (.int .i64 (leastF (holdF L) (2 ^ k))) ∧ Below w.heap.size w w' := by
  have HA := Lib.hid hA
  have HF := Lib.hid hf
  have HX := Lib.hid hx
  clear hA hf hx
  have hN' : 2 ^ k ≤ 8192 := Nat.pow_le_pow_right (n := 2) (by omega) hk
  obtain ⟨N, hN⟩ : ∃ N, N = 2 ^ k := ⟨_, rfl⟩
  have e0 : wrap64 (2 ^ k) = (N : Int) := by
    have : ((2 : Int) ^ k) = ((2 ^ k : Nat) : Int) := by simp
    rw [this, ← hN]; unfold wrap64; omega
  rw [← hN] at hN' ⊢
  have E0 := Lib.hid e0
  clear hN
  go_enter Try.func73, Try.ntmps73
  clear e0
  go_wp2_with fail
  rw [E0.out]
  go_loopw [8] (fun i wr => ∃ j : Nat, j ≤ N ∧ Hid (∀ i, i < j → holdF L i = false) ∧ Hid (Below w.heap.size w wr) ∧ i = .int .i64 j) (fun i _ => N - (intOf i).toNat)
  case atStart => exact ⟨0, Nat.zero_le _, fun i hi => absurd hi (Nat.not_lt_zero _), Below.refl _ _, rfl⟩
  case round =>
    obtain ⟨j, hj, hno, hbw, rfl⟩ := hrel
    by_cases hlt : j < N
    case neg =>
      obtain rfl : j = N := by omega
      have hr := Lib.hid (leastF_no hno.out)
      go_wp2_with fail
      go_ret
      rw [hr.out]
      exact ⟨rfl, hbw.out⟩
    have hj1 : (j : Int) < (N : Int) := by omega
    have e1 : IntKind.i64.wrap ((j : Int) + 1) = (j : Int) + 1 := wrap_eq (by omega) (by omega)
    obtain ⟨d, hd⟩ : ∃ d, holdF L j = d := ⟨_, rfl⟩
    have HD := Lib.hid hd
    clear hd
    cases d
    · go_wp2_with (go_at_call 76; refine (clausesHold_any B A cap us L j _ (by exact HA.out.below hbw.out) HF.out HX.out (by omega)).mono ?_; rw [HD.out]; rintro e w1 ⟨rfl, hb1⟩; have HB1 : Hid (Below w.heap.size w w1) := hbw.out.trans (hb1.mono hbw.out.size); clear hb1)
      go_roundw
      case rel =>
        refine ⟨j + 1, by omega, fun i hi => ?_, HB1, by go_num⟩
        by_cases e : i = j
        · subst e; exact HD.out
        · exact hno.out i (by omega)
      case measure => simp [intOf]; omega
    · have hr := Lib.hid (leastF_yes hlt hno.out HD.out)
      go_wp2_with (go_at_call 76; refine (clausesHold_any B A cap us L j _ (by exact HA.out.below hbw.out) HF.out HX.out (by omega)).mono ?_; rw [HD.out]; rintro e w1 ⟨rfl, hb1⟩; have HB1 : Hid (Below w.heap.size w w1) := hbw.out.trans (hb1.mono hbw.out.size); clear hb1)
      go_ret
      rw [hr.out]
      exact ⟨rfl, HB1.out⟩

/-- What SatLeast hands back. -/
def satN (V : Int) (L : List (List Int)) : Int := if okC V L = true then (if 0 ≤ leastF (holdF L) (2 ^ V.toNat) then leastF (holdF L) (2 ^ V.toNat) else 0) else 0
def satB (V : Int) (L : List (List Int)) : Bool := okC V L && decide (0 ≤ leastF (holdF L) (2 ^ V.toNat))
theorem leastF_le (h : Nat → Bool) (N : Nat) : -1 ≤ leastF h N ∧ leastF h N < N + 1 := by
  unfold leastF
  cases hf : (List.range N).find? h with
  | none => simp only; omega
  | some c =>
    have := List.mem_range.1 (List.mem_of_find?_eq_some hf)
    simp only
    omega

set_option maxRecDepth 100000 in
theorem implSatLeast_any (B : Nat) (V : Int) (A : Option Addr) (cap : Nat) (us : List Value) (L : List (List Int)) (w : World) (hA : IntSS w B (.slice A L.length cap) us L) (hn : L.length ≤ 1048576) (hs : ∀ l ∈ L, l.length ≤ 1048576) :
    Calls Try.prog 21 #[.agg #[.int .i64 V, .slice A L.length cap]] w fun e w' => e = .returned (.tuple #[.int .i64 (satN V L), .bool (satB V L)]) ∧ Below w.heap.size w w' := by
  have HA := Lib.hid hA
  have HSh := Lib.hid hs
  clear hA hs
  have HB1 : Hid (Below w.heap.size w (w.alloc (.cells #[.int .i64 V, .slice A L.length cap] 41))) := (Below.refl _ _).alloc (Nat.le_refl _) _
  have CB_1 : Hid (Blk (w.alloc (.cells #[.int .i64 V, .slice A L.length cap] 41)) w.heap.size 41 #[.int .i64 V, .slice A L.length cap]) := Blk.new _ _ _
  cases hok : okC V L
  · have HO : Hid (okC V L = false) := hok
    have h1 : satN V L = 0 := by unfold satN; rw [hok]; rfl
    have h2 : satB V L = false := by unfold satB; rw [hok]; rfl
    rw [h1, h2]
    clear hok h1 h2
    go_enter Try.func21, Try.ntmps21
    go_wp2_with (go_at_call 72; refine (implCnfOk_any B V A cap us L _ (by exact HA.out.alloc _) hn HSh.out).mono ?_; rw [HO.out]; rintro e w2 ⟨rfl, hb⟩; have HB2 : Hid (Below w.heap.size w w2) := HB1.out.trans (hb.mono HB1.out.size); clear hb)
    go_ret2
    exact ⟨rfl, HB2.out⟩
  · have HO : Hid (okC V L = true) := hok
    have hl := okC_lits hok
    have HF : Hid (Few13 L) := ⟨by omega, fun l hm => by have := (hl.2.2 l hm).1; omega⟩
    have HX : Hid (LitsN L) := fun l hm x hx => by have := (hl.2.2 l hm).2 x hx; exact ⟨this.1, by omega, by omega⟩
    obtain ⟨k, rfl⟩ := Int.eq_ofNat_of_zero_le (show 0 ≤ V by omega)
    have hk : k ≤ 13 := by omega
    obtain ⟨m, hm⟩ : ∃ m, m = leastF (holdF L) (2 ^ k) := ⟨_, rfl⟩
    have hmb := leastF_le (holdF L) (2 ^ k)
    rw [← hm] at hmb
    have h1 : satN k L = if 0 ≤ m then m else 0 := by unfold satN; rw [hok, if_pos rfl, hm]; rfl
    have h2 : satB k L = decide (0 ≤ m) := by unfold satB; rw [hok, hm]; rfl
    rw [h1, h2]
    have HM := Lib.hid hm
    have HMB := Lib.hid hmb
    clear hok hl h1 h2 hm hmb
    by_cases hm0 : 0 ≤ m
    · have d1 : decide (0 ≤ m) = true := decide_eq_true hm0
      rw [if_pos hm0, d1]
      go_enter Try.func21, Try.ntmps21
      go_wp2_with (first
        | (go_at_call 72; refine (implCnfOk_any B k A cap us L _ (by exact HA.out.alloc _) hn HSh.out).mono ?_; rw [HO.out]; rintro e w2 ⟨rfl, hb⟩; have HB2 : Hid (Below w.heap.size w w2) := HB1.out.trans (hb.mono HB1.out.size); have CB_2 := Lib.hid (CB_1.out.below hb CB_1.out.lt); have HA2 := Lib.hid ((HA.out.alloc _).below hb); obtain ⟨cx0, cx1⟩ := CB_2.out.two; clear hb)
        | (go_at_call 73; refine (implLeastRow_any B k hk A cap us L _ (by exact HA2.out) HF.out HX.out).mono ?_; rw [← HM.out]; rintro e w3 ⟨rfl, hb⟩; have HB3 : Hid (Below w.heap.size w w3) := HB2.out.trans (hb.mono HB2.out.size); clear hb))
      · go_ret2
        exact ⟨rfl, HB3.out⟩
      · have e0 : m = 0 := by omega
        subst e0
        go_ret2
        exact ⟨rfl, HB3.out⟩
    · have d1 : decide (0 ≤ m) = false := decide_eq_false hm0
      rw [if_neg hm0, d1]
      go_enter Try.func21, Try.ntmps21
      go_wp2_with (first
        | (go_at_call 72; refine (implCnfOk_any B k A cap us L _ (by exact HA.out.alloc _) hn HSh.out).mono ?_; rw [HO.out]; rintro e w2 ⟨rfl, hb⟩; have HB2 : Hid (Below w.heap.size w w2) := HB1.out.trans (hb.mono HB1.out.size); have CB_2 := Lib.hid (CB_1.out.below hb CB_1.out.lt); have HA2 := Lib.hid ((HA.out.alloc _).below hb); obtain ⟨cx0, cx1⟩ := CB_2.out.two; clear hb)
        | (go_at_call 73; refine (implLeastRow_any B k hk A cap us L _ (by exact HA2.out) HF.out HX.out).mono ?_; rw [← HM.out]; rintro e w3 ⟨rfl, hb⟩; have HB3 : Hid (Below w.heap.size w w3) := HB2.out.trans (hb.mono HB2.out.size); clear hb))
      go_ret2
      exact ⟨rfl, HB3.out⟩

set_option maxRecDepth 100000 in
theorem implCnfHolds_any (B k c : Nat) (hc : c < 2 ^ k) (A : Option Addr) (cap : Nat) (us : List Value) (L : List (List Int)) (w : World) (hA : IntSS w B (.slice A L.length cap) us L) (hok : okC (k : Int) L = true) :
    Calls Try.prog 25 #[.agg #[.int .i64 (k : Int), .slice A L.length cap], .int .i64 (c : Int)] w fun e w' => e = .returned (.bool (holdF L c)) ∧ Below w.heap.size w w' := by
  have HA := Lib.hid hA
  clear hA
  have HB1 : Hid (Below w.heap.size w (w.alloc (.cells #[.int .i64 (k : Int), .slice A L.length cap] 41))) := (Below.refl _ _).alloc (Nat.le_refl _) _
  have CB_1 : Hid (Blk (w.alloc (.cells #[.int .i64 (k : Int), .slice A L.length cap] 41)) w.heap.size 41 #[.int .i64 (k : Int), .slice A L.length cap]) := Blk.new _ _ _
  have HO : Hid (okC (k : Int) L = true) := hok
  have hl := okC_lits hok
  have HF : Hid (Few13 L) := ⟨by omega, fun l hm => by have := (hl.2.2 l hm).1; omega⟩
  have HX : Hid (LitsN L) := fun l hm x hx => by have := (hl.2.2 l hm).2 x hx; exact ⟨this.1, by omega, by omega⟩
  have HSh : Hid (∀ l ∈ L, l.length ≤ 1048576) := fun l hm => by have := (hl.2.2 l hm).1; omega
  have hn : L.length ≤ 1048576 := by omega
  have hk : k ≤ 13 := by omega
  clear hok hl
  have hN' : 2 ^ k ≤ 8192 := Nat.pow_le_pow_right (n := 2) (by omega) hk
  obtain ⟨N, hN⟩ : ∃ N, N = 2 ^ k := ⟨_, rfl⟩
  have e0 : wrap64 (2 ^ k) = (N : Int) := by
    have : ((2 : Int) ^ k) = ((2 ^ k : Nat) : Int) := by simp
    rw [this, ← hN]; unfold wrap64; omega
  rw [← hN] at hN' hc
  have hN0 : 0 < N := by omega
  have k1 : IntKind.i64.wrap ((N : Int) - 1) = (N : Int) - 1 := wrap_eq (by omega) (by omega)
  have hd : decide ((0 : Int) ≤ (c : Int) ∧ (c : Int) ≤ (N : Int) - 1) = true := decide_eq_true (by omega)
  have E0 := Lib.hid e0
  have HCN := Lib.hid hc
  clear hN
  have hc14 : c < 16384 := by omega
  clear hc
  go_enter Try.func25, Try.ntmps25
  go_wp2_with (first
    | (go_at_call 72; refine (implCnfOk_any B k A cap us L _ (by exact HA.out.alloc _) hn HSh.out).mono ?_; rw [HO.out]; rintro e w2 ⟨rfl, hb⟩; have HB2 : Hid (Below w.heap.size w w2) := HB1.out.trans (hb.mono HB1.out.size); have CB_2 := Lib.hid (CB_1.out.below hb CB_1.out.lt); have HA2 := Lib.hid ((HA.out.alloc _).below hb); obtain ⟨cx0, cx1⟩ := CB_2.out.two; clear hb)
    | (go_at_call 69; with_reducible refine (in_is (c : Int) 0 ((N : Int) - 1) true hd _).mono ?_; rintro e w3 ⟨rfl, rfl⟩)
    | (go_at_call 76; refine (clausesHold_any B A cap us L c _ (by exact HA2.out) HF.out HX.out hc14).mono ?_; rintro e w3 ⟨rfl, hb⟩; have HB3 : Hid (Below w.heap.size w w3) := HB2.out.trans (hb.mono HB2.out.size); clear hb))
  go_ret
  exact ⟨rfl, HB3.out⟩
end Go.Proofs.Ytffefegjnbfobaa
