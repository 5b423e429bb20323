/- The laws' helpers on clauses: the same, marked, held. -/
import Derived.Test.YtffefegjnbfobaaWc
import Derived.Test.YtffefegjnbfobaaI
namespace Go.Proofs.Ytffefegjnbfobaa
open Go.RowKit
open B

/-- No more than 61 rows, none longer than 13. -/
abbrev Few13 (L : List (List Int)) : Prop := Few 13 L
theorem Few.at {L : List (List Int)} (h : Few13 L) {k : Nat} (hk : k < L.length) : (L[k]).length ≤ 13 := h.short _ (List.getElem_mem hk)

set_option maxRecDepth 100000 in
theorem eqIntSS_yes (Ba Bb : Nat) (A A' : Option Addr) (cap cap' : Nat) (us us' : List Value) (L : List (List Int)) (w : World) (hA : IntSS w Ba (.slice A L.length cap) us L) (hB : IntSS w Bb (.slice A' L.length cap') us' L) (hf : Few13 L) :
    Calls Try.prog 107 #[.slice A L.length cap, .slice A' L.length cap'] w fun e w' => e = .returned (.bool true) ∧ Below w.heap.size w w' := by
  have HA := Lib.hid hA
  have HB := Lib.hid hB
  have HF := Lib.hid hf
  have hl := hf.few
  clear hA hB hf
  go_enter Try.func107, Try.ntmps107
  go_wp2_with fail
  go_loopw [5] (fun i wr => ∃ k : Nat, k ≤ L.length ∧ Hid (Below w.heap.size w wr) ∧ i = .int .i64 k) (fun i _ => L.length - (intOf i).toNat)
  case atStart => exact ⟨0, Nat.zero_le _, Below.refl _ _, rfl⟩
  case round =>
    obtain ⟨k, hk, hbw, rfl⟩ := hrel
    by_cases hlt : k < L.length
    case neg =>
      obtain rfl : k = L.length := by omega
      go_wp2_with fail
      go_ret
      exact ⟨rfl, hbw.out⟩
    have HA' := Lib.hid (HA.out.below hbw.out)
    have HB' := Lib.hid (HB.out.below hbw.out)
    obtain ⟨g, Ai, ci, rfl, hg, _, _, hc, ho⟩ := HA'.out.cell hlt
    obtain ⟨g', Ai', ci', rfl, hg', _, _, hc', ho'⟩ := HB'.out.cell hlt
    have hlk := HF.out.at hlt
    have HO := Lib.hid ho
    have HO' := Lib.hid ho'
    generalize L[k] = l at *
    have e1 : IntKind.i64.wrap ((k : Int) + 1) = (k : Int) + 1 := wrap_eq (by omega) (by omega)
    have hj0 : (0 : Int) ≤ k := by omega
    have hj1 : (k : Int) < (L.length : Int) := by omega
    clear ho ho'
    go_wp2_with fail
    go_region_held3 (fun w' => w'.cell? ⟨g, k, none⟩ = some (.slice Ai l.length ci) ∧ w'.cell? ⟨g', k, none⟩ = some (.slice Ai' l.length ci')) (first | with_reducible (exact S1) | exact ⟨hc, hc'⟩) ((go_at_call 139; refine (eqInts_yes Ai Ai' ci ci' l _ (by exact IAt.of_own HO.out.drew) (by exact IAt.of_own HO'.out.drew) (by omega)).mono ?_; rintro e w1 ⟨rfl, hb1⟩; have hb2 : Below wr.heap.size wr w1 := ((Below.refl wr.heap.size wr).drew).trans hb1; have HB1 : Hid (Below w.heap.size w w1) := hbw.out.trans (hb2.mono hbw.out.size); have S1 := And.intro ((hb2.cell (p := ⟨g, k, none⟩) hg).trans hc) ((hb2.cell (p := ⟨g', k, none⟩) hg').trans hc'); clear hb1 hb2))
    go_wp2_with fail
    go_roundw
    case rel => exact ⟨k + 1, by omega, HB1, by go_num⟩
    case measure => simp [intOf]; omega

/-- The box of a Cnf, and one more. -/
theorem eqCnf_yes (Ba Bb : Nat) (V : Int) (A A' : Option Addr) (cap cap' : Nat) (us us' : List Value) (L : List (List Int)) (w : World) (hA : IntSS w Ba (.slice A L.length cap) us L) (hB : IntSS w Bb (.slice A' L.length cap') us' L) (hf : Few13 L) :
    Calls Try.prog 52 #[.agg #[.int .i64 V, .slice A L.length cap], .agg #[.int .i64 V, .slice A' L.length cap']] w fun e w' => e = .returned (.bool true) ∧ Below w.heap.size w w' := by
  have HA := Lib.hid hA
  have HB := Lib.hid hB
  have HF := Lib.hid hf
  clear hA hB hf
  go_enter Try.func52, Try.ntmps52
  have HAL : Hid (Below w.heap.size w ((w.alloc (.cells #[.int .i64 V, .slice A L.length cap] 41)).alloc (.cells #[.int .i64 V, .slice A' L.length cap'] 41))) := ((Below.refl _ _).alloc (Nat.le_refl _) _).alloc (by simp) _
  go_wp2_with (go_at_call 107; refine (eqIntSS_yes Ba Bb A A' cap cap' us us' L _ (by exact HA.out.below HAL.out) (by exact HB.out.below HAL.out) HF.out).mono ?_; rintro e w1 ⟨rfl, hb1⟩)
  go_ret
  exact ⟨rfl, HAL.out.trans (hb1.mono (by simp only [World.size_alloc]; omega))⟩

/-- The rows' marks, from m on. -/
def marksS : Int → List (List Int) → List (List Int)
  | _, [] => []
  | m, l :: L => marks m l.length :: marksS (m + l.length) L
/-- How many ints the rows hold. -/
def total : List (List Int) → Nat
  | [] => 0
  | l :: L => l.length + total L
theorem total_app (a b : List (List Int)) : total (a ++ b) = total a + total b := by
  induction a with
  | nil => simp [total]
  | cons x a ih => simp [total, ih]; omega
theorem marksS_app (m : Int) (a b : List (List Int)) : marksS m (a ++ b) = marksS m a ++ marksS (m + total a) b := by
  induction a generalizing m with
  | nil => simp [marksS, total]
  | cons x a ih => simp [marksS, total, ih, Int.add_assoc]
theorem marksS_len (m : Int) (L : List (List Int)) : (marksS m L).length = L.length := by
  induction L generalizing m with
  | nil => rfl
  | cons x a ih => simp [marksS, ih]
theorem total_marks (m : Int) (L : List (List Int)) : total (marksS m L) = total L := by
  induction L generalizing m with
  | nil => rfl
  | cons x a ih => simp [marksS, total, ih, marks_len]
theorem takeS_snoc {L : List (List Int)} {k : Nat} (h : k < L.length) : L.take (k + 1) = L.take k ++ [L[k]] := by
  rw [List.take_add_one, List.getElem?_eq_getElem h]; rfl
theorem total_take {L : List (List Int)} {k : Nat} (h : k < L.length) : total (L.take (k + 1)) = total (L.take k) + (L[k]).length := by
  rw [takeS_snoc h, total_app]; simp [total]
theorem marksS_take {m : Int} {L : List (List Int)} {k : Nat} (h : k < L.length) : marksS m (L.take (k + 1)) = marksS m (L.take k) ++ [marks (m + total (L.take k)) (L[k]).length] := by
  rw [takeS_snoc h, marksS_app]; simp [marksS]
theorem marksS_get {m : Int} {L : List (List Int)} {k : Nat} (h : k < L.length) (h' : k < (marksS m L).length) : (marksS m L)[k] = marks (m + total (L.take k)) (L[k]).length := by
  have h1 := congrArg (fun x => x[k]?) (show marksS m L = marksS m (L.take (k + 1)) ++ marksS (m + total (L.take (k + 1))) (L.drop (k + 1)) by rw [← marksS_app, List.take_append_drop])
  simp only [marksS_take h] at h1
  have hk : (marksS m (L.take k)).length = k := by rw [marksS_len, List.length_take]; omega
  rw [List.getElem?_eq_getElem h', List.getElem?_append_left (by simp [hk]), List.getElem?_append_right (by omega)] at h1
  simpa [hk] using h1
theorem total_le {L : List (List Int)} (h : Few13 L) : total L ≤ 13 * L.length := by
  have : ∀ L : List (List Int), (∀ l ∈ L, l.length ≤ 13) → total L ≤ 13 * L.length := by
    intro L
    induction L with
    | nil => intro _; simp [total]
    | cons x a ih =>
      intro h
      have h1 := h x (by simp)
      have h2 := ih (fun l hl => h l (by simp [hl]))
      simp [total]
      omega
  exact this L h.short
theorem total_take_le (L : List (List Int)) (k : Nat) : total (L.take k) ≤ total L := by
  have := total_app (L.take k) (L.drop k)
  rw [List.take_append_drop] at this
  omega

set_option maxRecDepth 100000 in
theorem heldIntSS_any (B : Nat) (A : Option Addr) (cap : Nat) (us : List Value) (L : List (List Int)) (w : World) (m : Int) (hA : IntSS w B (.slice A L.length cap) us (marksS m L)) (hf : Few13 L) (hm0 : 0 ≤ m) (hm : m ≤ 1000) :
    Calls Try.prog 109 #[.slice A L.length cap, .int .i64 m] w fun e w' => e = .returned (.int .i64 (m + total L)) ∧ w = w' := by
  have hA' : IntSS w B (.slice A (marksS m L).length cap) us (marksS m L) := by rw [marksS_len]; exact hA
  have HA := Lib.hid hA'
  have HF := Lib.hid hf
  have hl := hf.few
  have ht := total_le hf
  have HT := Lib.hid ht
  clear hA hA' hf ht
  go_enter Try.func109, Try.ntmps109
  go_wp2_with fail
  go_loop [1, 5] (fun v i => ∃ (k : Nat) (q : Int), k ≤ L.length ∧ Hid (q = m + total (L.take k)) ∧ v = .int .i64 q ∧ i = .int .i64 k) (fun _ i => L.length - (intOf i).toNat)
  case atStart => exact ⟨0, m, Nat.zero_le _, by show m = _; simp [total], rfl, rfl⟩
  case round =>
    obtain ⟨k, q, hk, hq, rfl, rfl⟩ := hrel
    have hqb : 0 ≤ q ∧ q ≤ 2000 := by have h1 := hq.out; have h2 := total_take_le L k; have h3 := HT.out; omega
    have hq0 := hqb.1
    have hq1 := hqb.2
    by_cases hlt : k < L.length
    case neg =>
      obtain rfl : k = L.length := by omega
      have hqq : Hid (q = m + total L) := by have := hq.out; rw [List.take_length] at this; exact this
      go_wp2_with fail
      go_ret
      rw [← hqq.out]
      exact ⟨rfl, rfl⟩
    have hlm : k < (marksS m L).length := by rw [marksS_len]; exact hlt
    obtain ⟨g, Ai, ci, rfl, hg, _, _, hc, ho⟩ := HA.out.cell hlm
    have hlk := HF.out.at hlt
    rw [marksS_get hlt hlm, marks_len] at hc ho
    have Htk : Hid (q + (L[k]).length = m + total (L.take (k + 1))) := Lib.hid (by have := hq.out; rw [total_take hlt]; omega)
    rw [← hq.out] at ho
    have HO := Lib.hid ho
    clear ho
    generalize (L[k]).length = n at *
    have e1 : IntKind.i64.wrap ((k : Int) + 1) = (k : Int) + 1 := wrap_eq (by omega) (by omega)
    have hj0 : (0 : Int) ≤ k := by omega
    have hj1 : (k : Int) < (L.length : Int) := by omega
    go_wp2_with (go_at_call 141; refine (heldInts_any Ai ci q n _ (by exact IAt.of_own (base := B) (c := ci) (by rw [marks_len]; exact HO.out)) hq0 (by omega) (by omega)).mono ?_; rintro e w1 ⟨rfl, rfl⟩)
    go_round
    case rel => exact ⟨k + 1, q + n, by omega, Htk, rfl, by go_num⟩
    case measure => simp [intOf]; omega
theorem heldCnf_any (B : Nat) (V : Int) (A : Option Addr) (cap : Nat) (us : List Value) (L : List (List Int)) (w : World) (m : Int) (hA : IntSS w B (.slice A L.length cap) us (marksS m L)) (hf : Few13 L) (hm0 : 0 ≤ m) (hm : m ≤ 1000) :
    Calls Try.prog 54 #[.agg #[.int .i64 V, .slice A L.length cap], .int .i64 m] w fun e w' => e = .returned (.int .i64 (m + total L)) ∧ Below w.heap.size w w' := by
  have HA := Lib.hid hA
  have HF := Lib.hid hf
  clear hA hf
  have hpos : 0 ≤ m + (total L : Int) := by omega
  go_enter Try.func54, Try.ntmps54
  go_wp2_with (go_at_call 109; refine (heldIntSS_any B A cap us L _ m (by exact HA.out.alloc _) HF.out hm0 hm).mono ?_; rintro e w1 ⟨rfl, rfl⟩)
  go_ret
  exact ⟨rfl, (Below.refl _ _).alloc (Nat.le_refl _) _⟩

/-- Blocks of no ints stay as they are. -/
def Keeps (w w' : World) : Prop := ∀ (g : Nat) (t : TypeId) (cs : Array Value), (3 : TypeId) ≠ t → Blk w g t cs → Blk w' g t cs
theorem mix_get {m : Int} {L : List (List Int)} {k : Nat} (h : k < L.length) : (marksS m (L.take k) ++ L.drop k)[k]? = some L[k] := by
  have hk : (marksS m (L.take k)).length = k := by rw [marksS_len, List.length_take]; omega
  rw [List.getElem?_append_right (by omega), hk, Nat.sub_self, List.getElem?_drop, Nat.add_zero, List.getElem?_eq_getElem h]
theorem mix_set {m : Int} {L : List (List Int)} {k : Nat} (h : k < L.length) : (marksS m (L.take k) ++ L.drop k).set k (marks (m + total (L.take k)) (L[k]).length) = marksS m (L.take (k + 1)) ++ L.drop (k + 1) := by
  have hk : (marksS m (L.take k)).length = k := by rw [marksS_len, List.length_take]; omega
  rw [List.set_append_right _ _ (by omega), hk, Nat.sub_self, marksS_take h, List.drop_eq_getElem_cons h, List.set_cons_zero]
  simp only [List.append_assoc, List.cons_append, List.nil_append]
theorem mix_len {m : Int} {L : List (List Int)} {k : Nat} : (marksS m (L.take k) ++ L.drop k).length = L.length := by
  rw [List.length_append, marksS_len, List.length_take, List.length_drop]; omega

set_option maxRecDepth 100000 in
theorem markIntSS_any (B : Nat) (A : Option Addr) (cap : Nat) (us : List Value) (L : List (List Int)) (w : World) (m : Int) (hA : IntSS w B (.slice A L.length cap) us L) (hB : B ≤ w.heap.size) (hf : Few13 L) (hm0 : 0 ≤ m) (hm : m ≤ 1000) :
    Calls Try.prog 108 #[.slice A L.length cap, .int .i64 m] w fun e w' => e = .returned (.int .i64 (m + total L)) ∧ IntSS w' B (.slice A L.length cap) us (marksS m L) ∧ Below B w w' ∧ Keeps w w' := by
  have HA := Lib.hid hA
  have HF := Lib.hid hf
  have hl := hf.few
  have ht := total_le hf
  have HT := Lib.hid ht
  clear hA hf ht
  go_enter Try.func108, Try.ntmps108
  go_wp2_with fail
  go_loopw [1, 5] (fun v i wr => ∃ (k : Nat) (q : Int), k ≤ L.length ∧ Hid (q = m + total (L.take k)) ∧ Hid (IntSS wr B (.slice A L.length cap) us (marksS m (L.take k) ++ L.drop k)) ∧ Hid (Below B w wr) ∧ Hid (Keeps w wr) ∧ v = .int .i64 q ∧ i = .int .i64 k) (fun _ i _ => L.length - (intOf i).toNat)
  case atStart => exact ⟨0, m, Nat.zero_le _, by show m = _; simp [total], by show IntSS _ _ _ _ _; simpa [marksS] using HA.out, Below.refl _ _, fun _ _ _ _ h => h, rfl, rfl⟩
  case round =>
    obtain ⟨k, q, hk, hq, HI, HB, HK, rfl, rfl⟩ := hrel
    have hqb : 0 ≤ q ∧ q ≤ 2000 := by have h1 := hq.out; have h2 := total_take_le L k; have h3 := HT.out; omega
    have hq0 := hqb.1
    have hq1 := hqb.2
    by_cases hlt : k < L.length
    case neg =>
      obtain rfl : k = L.length := by omega
      have hqq : Hid (q = m + total L) := by have := hq.out; rw [List.take_length] at this; exact this
      rw [List.take_length, List.drop_length, List.append_nil] at HI
      go_wp2_with fail
      go_ret
      rw [← hqq.out]
      exact ⟨rfl, HI.out, HB.out, HK.out⟩
    have hml : (marksS m (L.take k) ++ L.drop k).length = L.length := mix_len
    have HI' : IntSS wr B (.slice A (marksS m (L.take k) ++ L.drop k).length cap) us (marksS m (L.take k) ++ L.drop k) := by rw [hml]; exact HI.out
    have hlm : k < (marksS m (L.take k) ++ L.drop k).length := by rw [hml]; exact hlt
    obtain ⟨g, Ai, ci, hAe, hg, _, hu, hc, ho⟩ := HI'.cell hlm
    have hget : (marksS m (L.take k) ++ L.drop k)[k] = L[k] := by
      have h1 := mix_get (m := m) hlt
      rw [List.getElem?_eq_getElem hlm] at h1
      injection h1
    have hlk := HF.out.at hlt
    rw [hget] at hu hc ho
    have Htk : Hid (q + (L[k]).length = m + total (L.take (k + 1))) := Lib.hid (by have := hq.out; rw [total_take hlt]; omega)
    have HP : Hid (∀ w', w'.ownsRow B 3 1 (.slice Ai (L[k]).length ci) (L[k]).length ((marks q (L[k]).length).map (.int .i64)) → wr.grownBy w' (Value.slice Ai (L[k]).length ci).ownBlock → IntSS w' B (.slice A L.length cap) us (marksS m (L.take (k + 1)) ++ L.drop (k + 1))) := fun w' h1 h2 => by
      have h3 := HI.out.put (i := k) hlm (A := Ai) (c := ci) (l := marks q (L[k]).length) (by rw [hget, marks_len]) (by rw [hget]; exact hu) (by rw [hget]; exact h1) (by rw [hget]; exact h2)
      rw [hq.out, mix_set hlt] at h3
      exact h3
    have HO := Lib.hid ho
    have hgo : ∀ x, (Value.slice Ai (L[k]).length ci).ownBlock = some x → B ≤ x := fun x hx => (ho.lt x hx).1
    have HGO := Lib.hid hgo
    have HNE : Hid (∀ (g : Nat) (t : TypeId) (cs : Array Value), (3 : TypeId) ≠ t → Blk wr g t cs → some g ≠ (Value.slice Ai (L[k]).length ci).ownBlock) := fun g t cs hne hb => Ne.symm (own_ne_blk ho hb hne)
    clear ho hgo hu HI' hget hml hlm HI
    subst hAe
    generalize L[k] = l at *
    have e1 : IntKind.i64.wrap ((k : Int) + 1) = (k : Int) + 1 := wrap_eq (by omega) (by omega)
    have hj0 : (0 : Int) ≤ k := by omega
    have hj1 : (k : Int) < (L.length : Int) := by omega
    go_wp2_with (go_at_call 140; refine (markInts_any B Ai ci l q _ (by exact HO.out) hq0 (by omega) (by omega)).mono ?_; rintro e w1 ⟨rfl, ho1, hg1⟩; have H1 := Lib.hid (HP.out w1 ho1 hg1); have HB1 : Hid (Below B w w1) := HB.out.grown hg1 (by have := HB.out.size; omega) HGO.out; have HK1 : Hid (Keeps w w1) := Lib.hid (fun g t cs hne hb => (HK.out g t cs hne hb).grown hg1 (HNE.out g t cs hne (HK.out g t cs hne hb))); clear ho1 hg1)
    go_roundw
    case rel => exact ⟨k + 1, q + l.length, by omega, Htk, H1, HB1, HK1, rfl, by go_num⟩
    case measure => simp [intOf]; omega
theorem markCnf_any (B : Nat) (V : Int) (A : Option Addr) (cap : Nat) (us : List Value) (L : List (List Int)) (w : World) (m : Int) (hA : IntSS w B (.slice A L.length cap) us L) (hB : B ≤ w.heap.size) (hf : Few13 L) (hm0 : 0 ≤ m) (hm : m ≤ 1000) :
    Calls Try.prog 53 #[.agg #[.int .i64 V, .slice A L.length cap], .int .i64 m] w fun e w' => e = .returned (.int .i64 (m + total L)) ∧ IntSS w' B (.slice A L.length cap) us (marksS m L) ∧ Below B w w' ∧ Keeps w w' := by
  have HA := Lib.hid hA
  have HF := Lib.hid hf
  clear hA hf
  go_enter Try.func53, Try.ntmps53
  go_wp2_with (go_at_call 108; refine (markIntSS_any B A cap us L _ m (by exact HA.out.alloc _) (by simp; omega) HF.out hm0 hm).mono ?_; rintro e w1 ⟨rfl, h1, hb1, hk1⟩; have H1 := Lib.hid h1; have HB1 := Lib.hid hb1; have HK1 := Lib.hid hk1; clear h1 hb1 hk1)
  go_ret
  exact ⟨rfl, H1.out, ((Below.refl _ _).alloc hB _).trans HB1.out, fun g t cs hne hb => HK1.out g t cs hne (hb.alloc _)⟩
end Go.Proofs.Ytffefegjnbfobaa
