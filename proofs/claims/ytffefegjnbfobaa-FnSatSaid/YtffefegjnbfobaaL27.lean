/- The law FnSat, walked. -/
import Derived.Test.YtffefegjnbfobaaCd
import Derived.Test.YtffefegjnbfobaaSc
import Derived.Test.YtffefegjnbfobaaXs
import Derived.Test.YtffefegjnbfobaaSz
import Derived.Test.YtffefegjnbfobaaMI
import Derived.Test.YtffefegjnbfobaaGr
import Derived.Test.YtffefegjnbfobaaNm
import Derived.Deep.DeepCutAuto
namespace Go.Proofs.Ytffefegjnbfobaa
open Go.RowKit
open B

/-- The set of ok clauses, told. -/
theorem set_ok {V : Int} {L : List (List Int)} (h : okC V L = true) : ∃ (R : Int) (ms : List Nd), mk V.toNat 0 (holdF L) [] = (R, ms) ∧ ms.length ≤ 600 ∧ OkI V ms R ∧ ∀ c, c < 2 ^ V.toNat → has ms R c = holdF L c := by
  have hl := okC_lits h
  have hf := mk_fits (k := V.toNat) (by omega) (holdF L)
  obtain ⟨k, rfl⟩ := Int.eq_ofNat_of_zero_le (show 0 ≤ V by omega)
  have := mk_ok (k := k) (f := holdF L) (by omega) (by simpa using hf)
  exact ⟨_, _, rfl, hf, by simpa using this.1, by simpa using this.2⟩
theorem codes_least {h : Nat → Bool} : ∀ (N : Nat) (c : Int) (l : List Int), codesF h N = c :: l → c = leastF h N := by
  intro N c l e
  have hm : c ∈ codesF h N := by rw [e]; simp
  unfold codesF at e hm
  unfold leastF
  rw [← List.head?_filter]
  cases hf : (List.range N).filter h with
  | nil => rw [hf] at e; simp at e
  | cons x t =>
    rw [hf] at e
    simp only [List.map_cons, List.cons.injEq] at e
    simp [e.1]
theorem codes_none {h : Nat → Bool} {N : Nat} (e : codesF h N = []) : leastF h N = -1 := by
  unfold codesF at e
  unfold leastF
  rw [← List.head?_filter, List.map_eq_nil_iff.1 e]
  rfl

theorem Mkd.knownS {p : Prop} {V : Int} {r r' : Int × List Nd} {B : Nat} {w' : World} {e : Ending} (h : Mkd p V r B w' e) (hp : p) (hr : r = r') (hl : r'.2.length ≤ 600) :
    ∃ (A : Option Addr) (c : Nat), e = .returned (.tuple #[.agg #[.int .i64 V, .slice A r'.2.length c, .int .i64 r'.1], .bool true]) ∧ Hid (w'.ownsRow B 89 3 (.slice A r'.2.length c) r'.2.length (ncells r'.2)) := by
  subst hr
  obtain ⟨V', R', ms, b, A, c, hv, he, ho⟩ := h
  rcases hv with ⟨_, _, rfl, rfl, rfl, rfl⟩ | ⟨hn, _⟩
  · exact ⟨A, c, he, ho⟩
  · exact (hn ⟨hp, hl⟩).elim
theorem leastF_get {h : Nat → Bool} {N : Nat} (h0 : 0 ≤ leastF h N) : ∃ c : Nat, leastF h N = c ∧ c < N ∧ h c = true := by
  unfold leastF at h0 ⊢
  cases hf : (List.range N).find? h with
  | none => rw [hf] at h0; simp at h0
  | some c => exact ⟨c, rfl, List.mem_range.1 (List.mem_of_find?_eq_some hf), List.find?_some hf⟩
theorem Lst.yes {p : Prop} {V R : Int} {ns : List Nd} {e : Ending} (h : Lst p V R ns e) (hp : p) {m : Nat} (hm : leastF (has ns R) (2 ^ V.toNat) = m) : e = .returned (.tuple #[.int .i64 (m : Int), .bool true]) := by
  rcases h with ⟨_, c, l, hc, he⟩ | ⟨hn, _⟩
  · rw [he, codes_least _ c l hc, hm]
  · exfalso
    refine hn ⟨hp, fun e => ?_⟩
    rw [codes_none e] at hm
    omega
theorem Lst.no {p : Prop} {V R : Int} {ns : List Nd} {e : Ending} (h : Lst p V R ns e) (hm : leastF (has ns R) (2 ^ V.toNat) < 0) : e = .returned (.tuple #[.int .i64 0, .bool false]) := by
  rcases h with ⟨_, c, l, hc, he⟩ | ⟨_, he⟩
  · exfalso
    have h1 := codes_least _ c l hc
    have h2 : c ∈ codesF (has ns R) (2 ^ V.toNat) := by rw [hc]; simp
    obtain ⟨x, rfl, _⟩ := mem_codesF.1 h2
    omega
  · exact he
theorem leastF_congr {h h' : Nat → Bool} {N : Nat} (e : ∀ c, c < N → h c = h' c) : leastF h N = leastF h' N := by
  cases hc : codesF h N with
  | nil => rw [codes_none hc, codes_none (h := h') (by rw [← codesF_congr e]; exact hc)]
  | cons c l => rw [← codes_least _ c l hc, ← codes_least _ c l (h := h') (by rw [← codesF_congr e]; exact hc)]

set_option maxRecDepth 100000 in
set_option maxHeartbeats 4000000 in
theorem fnSat_law (A : Option Addr) (n cap : Nat) (w : World) (hA : BAt w A n) (hn : n ≤ cap) (hc : cap ≤ maxLen) :
    Calls Try.prog 4 #[.slice A n cap] w fun e w' => e = .returned (.bool true) ∧ Below w.heap.size w w' := by
  have HA := Lib.hid hA
  have HC := Lib.hid hc
  unfold maxLen at hc
  clear hA
  by_cases hbig : 1048576 < n
  case pos =>
    clear hc
    go_enter Try.func4, Try.ntmps4
    go_wp2_with fail
    go_ret
    exact ⟨rfl, Below.refl _ _⟩
  clear hc
  go_enter Try.func4, Try.ntmps4
  go_upto_region 4 with (go_at_call 20; (with_reducible refine (drawSat_any A n cap _ (by exact HA.out) hn HC.out).mono ?_); rintro e w1 ⟨⟨V, L, A1, c1, us, rfl, hV0, hV1, hl, hs, hi⟩, hb⟩; have HB1 := Lib.hid hb; have I1 := Lib.hid hi; have HS := Lib.hid hs; clear hb hi hs)
  have HSh : Hid (∀ l ∈ L, l.length ≤ 1048576) := fun l hm => Nat.le_trans (HS.out l hm) (by omega)
  cases hok : okC V L
  · have HO : Hid (okC V L = false) := hok
    have e1 : satN V L = 0 := by unfold satN; rw [hok]; rfl
    have e2 : satB V L = false := by unfold satB; rw [hok]; rfl
    have E1 := Lib.hid e1
    have E2 := Lib.hid e2
    clear hok e1 e2
    go_wp2_with (first
      | (go_at_call 21; (with_reducible refine (implSatLeast_any _ V A1 c1 us L _ (by exact I1.out.alloc _) (by omega) HSh.out).mono ?_); rw [E1.out, E2.out]; rintro e w2 ⟨rfl, hb⟩; have hx : Below w1.heap.size w1 w2 := ((Below.refl _ _).alloc (Nat.le_refl _) _).trans (hb.mono (by simp)); have HB2 : Hid (Below w.heap.size w w2) := HB1.out.trans (hx.mono HB1.out.size); have I2 := Lib.hid (I1.out.below hx); have CB2 := Lib.hid ((Blk.new w1 41 #[.int .i64 V, .slice A1 L.length c1]).below hb (by simp)); obtain ⟨x0, x1⟩ := CB2.out.two; clear hx hb)
      | (go_at_call 22; (with_reducible refine (implCnfSet_any _ V A1 c1 us L _ (by exact I2.out) (by omega) HSh.out).mono ?_); rintro e w3 ⟨hm, hb⟩; obtain ⟨V3, R3, m3, b3, A3, c3, hmv, rfl, ho3⟩ := hm; obtain ⟨rfl, rfl, rfl, rfl⟩ : V3 = 0 ∧ R3 = 0 ∧ m3 = [] ∧ b3 = false := (by rcases hmv with ⟨h1, _⟩ | ⟨_, h⟩; exact absurd h1 (by rw [HO.out]; decide); exact h); have HB3 : Hid (Below w.heap.size w w3) := HB2.out.trans (hb.mono HB2.out.size); have I3 := Lib.hid (I2.out.below hb); have CB3 := Lib.hid (CB2.out.below hb CB2.out.lt); clear x0 x1; obtain ⟨x0, x1⟩ := (CB3.out.alloc (.cells #[.int .i64 0, .slice A3 0 c3, .int .i64 0] 28)).two; clear hb hmv ho3)
      | (go_at_call 23; (with_reducible refine (specSatLeast_any _ V A1 c1 us L _ (by exact I3.out.alloc _) (by omega) HSh.out).mono ?_); rw [E1.out, E2.out]; rintro e w4 ⟨rfl, hb⟩; have hx : Below w3.heap.size w3 w4 := ((Below.refl _ _).alloc (Nat.le_refl _) _).trans (hb.mono (by simp)); have HB4 : Hid (Below w.heap.size w w4) := HB3.out.trans (hx.mono HB3.out.size); have I4 := Lib.hid (I3.out.below hx); have CB4 := Lib.hid (CB3.out.below hx CB3.out.lt); clear x0 x1; obtain ⟨x0, x1⟩ := CB4.out.two; clear hx hb)
      | (go_at_call 24; (with_reducible refine (specCnfOk_any _ V A1 c1 us L _ (by exact I4.out) (by omega) HSh.out).mono ?_); rw [HO.out]; rintro e w5 ⟨rfl, hb⟩; have HB5 : Hid (Below w.heap.size w w5) := HB4.out.trans (hb.mono HB4.out.size); clear hb))
    go_ret
    exact ⟨rfl, HB5.out⟩
  · have HO : Hid (okC V L = true) := hok
    obtain ⟨R, ms, hmk, hml, hoki, hhas⟩ := set_ok hok
    have hlv := (okC_lits hok).1
    obtain ⟨k, rfl⟩ := Int.eq_ofNat_of_zero_le (show 0 ≤ V by omega)
    have hcd : codesF (has ms R) (2 ^ k) = codesF (holdF L) (2 ^ k) := codesF_congr (by simpa using hhas)
    have hlc : leastF (has ms R) (2 ^ (k : Int).toNat) = leastF (holdF L) (2 ^ k) := leastF_congr (by simpa using hhas)
    have HLC := Lib.hid hlc
    have HMK := Lib.hid hmk
    have HOI := Lib.hid hoki
    by_cases hm0 : 0 ≤ leastF (holdF L) (2 ^ k)
    · obtain ⟨m, hm, hmk', hmh⟩ := leastF_get hm0
      have e1 : satN k L = (m : Int) := by unfold satN; rw [hok, if_pos rfl]; show (if 0 ≤ leastF (holdF L) (2 ^ k) then _ else _) = _; rw [if_pos hm0]; exact hm
      have e2 : satB k L = true := by unfold satB; rw [hok]; show (true && decide (0 ≤ leastF (holdF L) (2 ^ k))) = _; rw [decide_eq_true hm0]; rfl
      have E1 := Lib.hid e1
      have E2 := Lib.hid e2
      have HM := Lib.hid (hlc.trans hm)
      have HMK' := Lib.hid hmk'
      have HMH := Lib.hid hmh
      clear hok hmk hoki hhas hcd hm0 hm hmk' hmh e1 e2 hlc
      go_wp2_with (first
      | (go_at_call 21; (with_reducible refine (implSatLeast_any _ k A1 c1 us L _ (by exact I1.out.alloc _) (by omega) HSh.out).mono ?_); rw [E1.out, E2.out]; rintro e w2 ⟨rfl, hb⟩; have hx : Below w1.heap.size w1 w2 := ((Below.refl _ _).alloc (Nat.le_refl _) _).trans (hb.mono (by simp)); have HB2 : Hid (Below w.heap.size w w2) := HB1.out.trans (hx.mono HB1.out.size); have I2 := Lib.hid (I1.out.below hx); have CB2 := Lib.hid ((Blk.new w1 41 #[.int .i64 k, .slice A1 L.length c1]).below hb (by simp)); obtain ⟨x0, x1⟩ := CB2.out.two; clear hx hb)
      | (go_at_call 22; (with_reducible refine (implCnfSet_any _ k A1 c1 us L _ (by exact I2.out) (by omega) HSh.out).mono ?_); rintro e w3 ⟨hm, hb⟩; obtain ⟨A3, c3, rfl, ho3⟩ := hm.knownS HO.out HMK.out hml; have HB3 : Hid (Below w.heap.size w w3) := HB2.out.trans (hb.mono HB2.out.size); have I3 := Lib.hid (I2.out.below hb); have O3 := Lib.hid ho3.out; have CB3 := Lib.hid (CB2.out.below hb CB2.out.lt); clear x0 x1; obtain ⟨x0, x1⟩ := (CB3.out.alloc (.cells #[.int .i64 k, .slice A3 ms.length c3, .int .i64 R] 28)).two; clear hb ho3)
      | (go_at_call 23; (with_reducible refine (specSatLeast_any _ k A1 c1 us L _ (by exact I3.out.alloc _) (by omega) HSh.out).mono ?_); rw [E1.out, E2.out]; rintro e w4 ⟨rfl, hb⟩; have hx : Below w3.heap.size w3 w4 := ((Below.refl _ _).alloc (Nat.le_refl _) _).trans (hb.mono (by simp)); have HB4 : Hid (Below w.heap.size w w4) := HB3.out.trans (hx.mono HB3.out.size); have I4 := Lib.hid (I3.out.below hx); have O4 := Lib.hid (own_below O3.out hx); have CB4 := Lib.hid (CB3.out.below hx CB3.out.lt); have EB4 := Lib.hid ((Blk.new w3 28 #[.int .i64 k, .slice A3 ms.length c3, .int .i64 R]).below hb (by simp)); clear x0 x1; obtain ⟨x0, x1⟩ := CB4.out.two; clear hx hb)
      | (go_at_call 24; (with_reducible refine (specCnfOk_any _ k A1 c1 us L _ (by exact I4.out) (by omega) HSh.out).mono ?_); rw [HO.out]; rintro e w5 ⟨rfl, hb⟩; have HB5 : Hid (Below w.heap.size w w5) := HB4.out.trans (hb.mono HB4.out.size); have I5 := Lib.hid (I4.out.below hb); have O5 := Lib.hid (own_below O4.out hb); have CB5 := Lib.hid (CB4.out.below hb CB4.out.lt); have EB5 := Lib.hid (EB4.out.below hb EB4.out.lt); clear x0 x1; obtain ⟨y0, y1, y2⟩ := EB5.out.three; clear hb)
      | (go_at_call 19; (with_reducible refine (implLeast_any k R A3 c3 ms _ (by exact NAt.of_own O5.out) (by omega)).mono ?_); rintro e w6 ⟨hs, hb⟩; obtain rfl := hs.yes HOI.out HM.out; have HB6 : Hid (Below w.heap.size w w6) := HB5.out.trans (hb.mono HB5.out.size); have I6 := Lib.hid (I5.out.below hb); have CB6 := Lib.hid (CB5.out.below hb CB5.out.lt); clear y0 y1 y2; obtain ⟨x0, x1⟩ := CB6.out.two; clear hb hs)
      | (go_at_call 25; (with_reducible refine (implCnfHolds_any _ k m HMK'.out A1 c1 us L _ (by exact I6.out) HO.out).mono ?_); rw [HMH.out]; rintro e w7 ⟨rfl, hb⟩; have HB7 : Hid (Below w.heap.size w w7) := HB6.out.trans (hb.mono HB6.out.size); clear hb))
      go_ret
      exact ⟨rfl, HB7.out⟩
    · have e1 : satN k L = 0 := by unfold satN; rw [hok, if_pos rfl]; show (if 0 ≤ leastF (holdF L) (2 ^ k) then _ else _) = _; rw [if_neg hm0]
      have e2 : satB k L = false := by unfold satB; rw [hok]; show (true && decide (0 ≤ leastF (holdF L) (2 ^ k))) = _; rw [decide_eq_false hm0]; rfl
      have E1 := Lib.hid e1
      have E2 := Lib.hid e2
      have HM : Hid (leastF (has ms R) (2 ^ (k : Int).toNat) < 0) := Lib.hid (by rw [hlc]; omega)
      clear hok hmk hoki hhas hcd hm0 e1 e2 hlc
      go_wp2_with (first
      | (go_at_call 21; (with_reducible refine (implSatLeast_any _ k A1 c1 us L _ (by exact I1.out.alloc _) (by omega) HSh.out).mono ?_); rw [E1.out, E2.out]; rintro e w2 ⟨rfl, hb⟩; have hx : Below w1.heap.size w1 w2 := ((Below.refl _ _).alloc (Nat.le_refl _) _).trans (hb.mono (by simp)); have HB2 : Hid (Below w.heap.size w w2) := HB1.out.trans (hx.mono HB1.out.size); have I2 := Lib.hid (I1.out.below hx); have CB2 := Lib.hid ((Blk.new w1 41 #[.int .i64 k, .slice A1 L.length c1]).below hb (by simp)); obtain ⟨x0, x1⟩ := CB2.out.two; clear hx hb)
      | (go_at_call 22; (with_reducible refine (implCnfSet_any _ k A1 c1 us L _ (by exact I2.out) (by omega) HSh.out).mono ?_); rintro e w3 ⟨hm, hb⟩; obtain ⟨A3, c3, rfl, ho3⟩ := hm.knownS HO.out HMK.out hml; have HB3 : Hid (Below w.heap.size w w3) := HB2.out.trans (hb.mono HB2.out.size); have I3 := Lib.hid (I2.out.below hb); have O3 := Lib.hid ho3.out; have CB3 := Lib.hid (CB2.out.below hb CB2.out.lt); clear x0 x1; obtain ⟨x0, x1⟩ := (CB3.out.alloc (.cells #[.int .i64 k, .slice A3 ms.length c3, .int .i64 R] 28)).two; clear hb ho3)
      | (go_at_call 23; (with_reducible refine (specSatLeast_any _ k A1 c1 us L _ (by exact I3.out.alloc _) (by omega) HSh.out).mono ?_); rw [E1.out, E2.out]; rintro e w4 ⟨rfl, hb⟩; have hx : Below w3.heap.size w3 w4 := ((Below.refl _ _).alloc (Nat.le_refl _) _).trans (hb.mono (by simp)); have HB4 : Hid (Below w.heap.size w w4) := HB3.out.trans (hx.mono HB3.out.size); have I4 := Lib.hid (I3.out.below hx); have O4 := Lib.hid (own_below O3.out hx); have CB4 := Lib.hid (CB3.out.below hx CB3.out.lt); have EB4 := Lib.hid ((Blk.new w3 28 #[.int .i64 k, .slice A3 ms.length c3, .int .i64 R]).below hb (by simp)); clear x0 x1; obtain ⟨x0, x1⟩ := CB4.out.two; clear hx hb)
      | (go_at_call 24; (with_reducible refine (specCnfOk_any _ k A1 c1 us L _ (by exact I4.out) (by omega) HSh.out).mono ?_); rw [HO.out]; rintro e w5 ⟨rfl, hb⟩; have HB5 : Hid (Below w.heap.size w w5) := HB4.out.trans (hb.mono HB4.out.size); have I5 := Lib.hid (I4.out.below hb); have O5 := Lib.hid (own_below O4.out hb); have CB5 := Lib.hid (CB4.out.below hb CB4.out.lt); have EB5 := Lib.hid (EB4.out.below hb EB4.out.lt); clear x0 x1; obtain ⟨y0, y1, y2⟩ := EB5.out.three; clear hb)
      | (go_at_call 19; (with_reducible refine (implLeast_any k R A3 c3 ms _ (by exact NAt.of_own O5.out) (by omega)).mono ?_); rintro e w6 ⟨hs, hb⟩; obtain rfl := hs.no HM.out; have HB6 : Hid (Below w.heap.size w w6) := HB5.out.trans (hb.mono HB5.out.size); have I6 := Lib.hid (I5.out.below hb); have CB6 := Lib.hid (CB5.out.below hb CB5.out.lt); clear y0 y1 y2; obtain ⟨x0, x1⟩ := CB6.out.two; clear hb hs))
      go_ret
      exact ⟨rfl, HB6.out⟩
end Go.Proofs.Ytffefegjnbfobaa
