/- SatLeast of the reference, walked. -/
import Derived.Test.YtffefegjnbfobaaSb
import Derived.Test.YtffefegjnbfobaaQ4
namespace Go.Proofs.Ytffefegjnbfobaa
open Go.RowKit
open B

set_option maxRecDepth 100000 in
theorem l10True_any (x : Int) (c : Nat) (W : World) (hx : x ≠ 0 ∧ -13 ≤ x ∧ x ≤ 13) :
    Calls Try.prog 147 #[.int .i64 x, .int .i64 (c : Int)] W fun e W' => e = .returned (.bool (litF x c)) ∧ W = W' := by
  by_cases hpos : 0 < x
  · obtain ⟨y, hy⟩ : ∃ y, y = x - 1 := ⟨_, rfl⟩
    have k1 : IntKind.i64.wrap (x - 1) = y := (wrap_eq (by omega) (by omega)).trans hy.symm
    have he : litF x c = c.testBit y.toNat := by unfold litF; rw [if_neg (by omega), hy]
    rw [he]
    have d1 : decide (0 < x) = true := decide_eq_true hpos
    have hy0 : 0 ≤ y := by omega
    have hy1 : y ≤ 13 := by omega
    clear he hx hpos hy
    obtain ⟨b, hb⟩ : ∃ b, c.testBit y.toNat = b := ⟨_, rfl⟩
    rw [hb]
    have HB := Lib.hid hb
    clear hb
    cases b
    all_goals
      go_enter Try.func147, Try.ntmps147
      go_wp2_with (go_at_call 135; refine (l1Bit_is c y hy0 hy1 _ HB.out _).mono ?_; rintro e w1 ⟨rfl, rfl⟩)
      go_ret
      exact ⟨rfl, rfl⟩
  · obtain ⟨z, hz⟩ : ∃ z, z = -x := ⟨_, rfl⟩
    obtain ⟨y, hy⟩ : ∃ y, y = z - 1 := ⟨_, rfl⟩
    have k1 : IntKind.i64.wrap (-x) = z := (wrap_eq (by omega) (by omega)).trans hz.symm
    have k2 : IntKind.i64.wrap (z - 1) = y := (wrap_eq (by omega) (by omega)).trans hy.symm
    have he : litF x c = !c.testBit y.toNat := by unfold litF; rw [if_pos (by omega), hy, hz]
    rw [he]
    have d1 : decide (0 < x) = false := decide_eq_false hpos
    have hy0 : 0 ≤ y := by omega
    have hy1 : y ≤ 13 := by omega
    clear he hx hpos hy hz
    obtain ⟨b, hb⟩ : ∃ b, c.testBit y.toNat = b := ⟨_, rfl⟩
    rw [hb]
    have HB := Lib.hid hb
    clear hb
    cases b
    all_goals
      go_enter Try.func147, Try.ntmps147
      go_wp2_with (go_at_call 135; refine (l1Bit_is c y hy0 hy1 _ HB.out _).mono ?_; rintro e w1 ⟨rfl, rfl⟩)
      go_ret
      exact ⟨rfl, rfl⟩

set_option maxRecDepth 100000 in
theorem l10Any_any (c : Nat) (A : Option Addr) (ci : Nat) (l : List Int) (w : World) (hA : IAt w A l) (hn : l.length ≤ 1048576) (hx : ∀ x ∈ l, x ≠ 0 ∧ -13 ≤ x ∧ x ≤ 13) :
    Calls Try.prog 146 #[.slice A l.length ci, .int .i64 (c : Int)] w fun e w' => e = .returned (.bool (l.any fun x => litF x c)) ∧ w = w' := by
  have HA := Lib.hid hA
  have HX := Lib.hid hx
  clear hA hx
  go_enter Try.func146, Try.ntmps146
  go_wp2_with fail
  go_loop [5] (fun i => ∃ k : Nat, k ≤ l.length ∧ Hid ((l.take k).any (fun x => litF x c) = false) ∧ i = .int .i64 k) (fun i => l.length - (intOf i).toNat)
  case atStart => exact ⟨0, Nat.zero_le _, by simp [Hid], rfl⟩
  case round =>
    obtain ⟨k, hk, hno, rfl⟩ := hrel
    by_cases hlt : k < l.length
    case neg =>
      obtain rfl : k = l.length := by omega
      rw [List.take_length] at hno
      go_wp2_with fail
      go_ret
      rw [hno.out]
      exact ⟨rfl, rfl⟩
    obtain ⟨g, rfl, hg, hc⟩ := HA.out (by omega)
    have c1 := hc k hlt
    have HXk := Lib.hid (HX.out _ (List.getElem_mem hlt))
    have Htk : Hid ((l.take (k + 1)).any (fun x => litF x c) = ((l.take k).any (fun x => litF x c) || litF l[k] c)) := any_take _ _ hlt
    have HY : Hid (litF l[k] c = true → l.any (fun x => litF x c) = true) := fun h => List.any_eq_true.2 ⟨_, List.getElem_mem hlt, h⟩
    clear hc
    generalize l[k] = x at *
    have e1 : IntKind.i64.wrap ((k : Int) + 1) = (k : Int) + 1 := wrap_eq (by omega) (by omega)
    have hj0 : (0 : Int) ≤ k := by omega
    have hj1 : (k : Int) < (l.length : Int) := by omega
    obtain ⟨b, hb⟩ : ∃ b, litF x c = b := ⟨_, rfl⟩
    rw [hb] at Htk HY
    have HBb := Lib.hid hb
    clear hb
    cases b
    · go_wp2_with (go_at_call 147; refine (l10True_any x c _ HXk.out).mono ?_; rw [HBb.out]; rintro e w1 ⟨rfl, rfl⟩)
      go_round
      case rel => exact ⟨k + 1, by omega, Lib.hid (by rw [Htk.out, hno.out]; rfl), by go_num⟩
      case measure => simp [intOf]; omega
    · have HYY := Lib.hid (HY.out rfl)
      go_wp2_with (go_at_call 147; refine (l10True_any x c _ HXk.out).mono ?_; rw [HBb.out]; rintro e w1 ⟨rfl, rfl⟩)
      go_ret
      rw [HYY.out]
      exact ⟨rfl, rfl⟩

/-- The bools of the slice at A are all true. -/
def TrueAt (w : World) (A : Option Addr) (n : Nat) : Prop := 0 < n → ∃ g, A = some ⟨g, 0, none⟩ ∧ g < w.heap.size ∧ ∀ k, k < n → w.cell? ⟨g, k, none⟩ = some (.bool true)
theorem TrueAt.below {w w' : World} {A : Option Addr} {n : Nat} (h : TrueAt w A n) (hb : Below w.heap.size w w') : TrueAt w' A n := fun hp => by
  obtain ⟨g, rfl, hg, hc⟩ := h hp
  exact ⟨g, rfl, Nat.lt_of_lt_of_le hg hb.size, fun k hk => (hb.cell (p := ⟨g, k, none⟩) hg).trans (hc k hk)⟩

set_option maxRecDepth 100000 in
theorem l10All_any (B c : Nat) (V : Int) (A WA : Option Addr) (cap wc : Nat) (us : List Value) (L : List (List Int)) (w : World) (hA : IntSS w B (.slice A L.length cap) us L) (hW : TrueAt w WA L.length) (hf : Few13 L) (hx : LitsN L) :
    Calls Try.prog 126 #[.agg #[.int .i64 V, .slice A L.length cap], .slice WA L.length wc, .int .i64 (c : Int)] w fun e w' => e = .returned (.bool (holdF L c)) ∧ Below w.heap.size w w' := by
  have HA := Lib.hid hA
  have HW := Lib.hid hW
  have HX := Lib.hid hx
  have HF := Lib.hid hf
  have hl := hf.few
  clear hA hx hf hW
  have HB1 : Hid (Below w.heap.size w (w.alloc (.cells #[.int .i64 V, .slice A L.length cap] 41))) := (Below.refl _ _).alloc (Nat.le_refl _) _
  have CB_1 : Hid (Blk (w.alloc (.cells #[.int .i64 V, .slice A L.length cap] 41)) w.heap.size 41 #[.int .i64 V, .slice A L.length cap]) := Blk.new _ _ _
  have HA1 : Hid (IntSS (w.alloc (.cells #[.int .i64 V, .slice A L.length cap] 41)) B (.slice A L.length cap) us L) := HA.out.alloc _
  have HW1 : Hid (TrueAt (w.alloc (.cells #[.int .i64 V, .slice A L.length cap] 41)) WA L.length) := HW.out.below HB1.out
  obtain ⟨cx0, cx1⟩ := CB_1.out.two
  obtain ⟨wq, hwq⟩ : ∃ x : World, x = w.alloc (.cells #[.int .i64 V, .slice A L.length cap] 41) := ⟨_, rfl⟩
  go_enter Try.func126, Try.ntmps126
  go_wp2_with fail
  go_loop [7] (fun i => ∃ k : Nat, k ≤ L.length ∧ Hid ((L.take k).any (fun l => !(l.any fun x => litF x c)) = false) ∧ i = .int .i64 k) (fun i => L.length - (intOf i).toNat)
  case atStart => exact ⟨0, Nat.zero_le _, by simp [Hid], rfl⟩
  case round =>
    obtain ⟨k, hk, hno, rfl⟩ := hrel
    by_cases hlt : k < L.length
    case neg =>
      obtain rfl : k = L.length := by omega
      rw [List.take_length] at hno
      have hh : Hid (holdF L c = true) := Lib.hid (by unfold holdF; rw [hno.out]; rfl)
      go_wp2_with fail
      go_ret
      rw [hh.out]
      exact ⟨rfl, HB1.out⟩
    obtain ⟨g, Ai, ci, rfl, hg, _, _, c1, ho⟩ := HA1.out.cell hlt
    obtain ⟨gw, rfl, hgw, hcw⟩ := HW1.out (by omega)
    have cw := hcw k hlt
    have HO := Lib.hid (IAt.of_own ho)
    have hlk := HF.out.short _ (List.getElem_mem hlt)
    have HXk := Lib.hid (HX.out _ (List.getElem_mem hlt))
    have Htk : Hid ((L.take (k + 1)).any (fun l => !(l.any fun x => litF x c)) = ((L.take k).any (fun l => !(l.any fun x => litF x c)) || !(L[k].any fun x => litF x c))) := any_take _ _ hlt
    have HY : Hid ((!(L[k].any fun x => litF x c)) = true → holdF L c = false) := fun h => by unfold holdF; rw [List.any_eq_true.2 ⟨_, List.getElem_mem hlt, h⟩]; rfl
    clear ho hcw
    generalize L[k] = l at *
    have e1 : IntKind.i64.wrap ((k : Int) + 1) = (k : Int) + 1 := wrap_eq (by omega) (by omega)
    have hj0 : (0 : Int) ≤ k := by omega
    have hj1 : (k : Int) < (L.length : Int) := by omega
    obtain ⟨b, hb⟩ : ∃ b, (l.any fun x => litF x c) = b := ⟨_, rfl⟩
    rw [hb] at Htk HY
    have HBb := Lib.hid hb
    clear hb
    cases b
    · have HYY := Lib.hid (HY.out rfl)
      go_wp2_with (go_at_call 146; refine (l10Any_any c Ai ci l _ HO.out (by omega) HXk.out).mono ?_; rw [HBb.out]; rintro e w1 ⟨rfl, rfl⟩)
      go_ret
      rw [HYY.out]
      exact ⟨rfl, HB1.out⟩
    · go_wp2_with (go_at_call 146; refine (l10Any_any c Ai ci l _ HO.out (by omega) HXk.out).mono ?_; rw [HBb.out]; rintro e w1 ⟨rfl, rfl⟩)
      go_round
      case rel => exact ⟨k + 1, by omega, Lib.hid (by rw [Htk.out, hno.out]; rfl), by go_num⟩
      case measure => simp [intOf]; omega

set_option maxRecDepth 100000 in
theorem l10Every_any (V : Int) (A : Option Addr) (cap : Nat) (L : List (List Int)) (w : World) (hl : L.length ≤ 1000) :
    Calls Try.prog 78 #[.agg #[.int .i64 V, .slice A L.length cap]] w fun e w' => ∃ WA, e = .returned (.slice WA L.length L.length) ∧ TrueAt w' WA L.length ∧ Below w.heap.size w w' := by
  have hmk := fun W => mk_bools L.length (by omega) W
  have CB_1 : Hid (Blk (w.alloc (.cells #[.int .i64 V, .slice A L.length cap] 41)) w.heap.size 41 #[.int .i64 V, .slice A L.length cap]) := Blk.new _ _ _
  obtain ⟨cx0, cx1⟩ := CB_1.out.two
  go_enter Try.func78, Try.ntmps78
  go_wp2_with fail
  clear hmk
  go_loopw [4] (fun i wr => ∃ k : Nat, k ≤ L.length ∧ Hid (Below w.heap.size w wr) ∧ Hid (Blk wr (w.heap.size + 1) 4 (tabF (fun _ => true) L.length k)) ∧ i = .int .i64 k) (fun i _ => L.length - (intOf i).toNat)
  case atStart => exact ⟨0, Nat.zero_le _, ((Below.refl _ _).alloc (Nat.le_refl _) _).alloc (by simp) _, by rw [tabF_zero]; exact Blk.new_at _ _ _ (by simp), rfl⟩
  case round =>
    obtain ⟨k, hk, HBr, HT, rfl⟩ := hrel
    by_cases hlt : k < L.length
    case neg =>
      obtain rfl : k = L.length := by omega
      go_wp2_with fail
      go_ret
      refine ⟨_, rfl, fun _ => ⟨w.heap.size + 1, rfl, HT.out.lt, fun j hj => ?_⟩, HBr.out⟩
      rw [HT.out.cell, tabF_full, rowF_get _ _ _ hj]
    have e1 : IntKind.i64.wrap ((k : Int) + 1) = (k : Int) + 1 := wrap_eq (by omega) (by omega)
    have hj0 : (0 : Int) ≤ k := by omega
    have hj1 : (k : Int) < (L.length : Int) := by omega
    have c1 : wr.cell? ⟨w.heap.size + 1, k, none⟩ = some (.bool false) := by rw [HT.out.cell]; unfold tabF; rw [rowF_get _ _ _ hlt]; simp
    have f1 := HT.out.frozen k
    go_wp2_with fail
    go_roundw
    case rel => exact ⟨k + 1, by omega, HBr.out.setCell (by simp) _, by rw [← tabF_put (fun _ => true) L.length k true rfl]; exact HT.out.set_ k _, by go_num⟩
    case measure => simp [intOf]; omega

set_option maxRecDepth 100000 in
theorem l10Least_any (B k : Nat) (hk : k ≤ 13) (A WA : Option Addr) (cap wc : Nat) (us : List Value) (L : List (List Int)) (w : World) (hA : IntSS w B (.slice A L.length cap) us L) (hW : TrueAt w WA L.length) (hf : Few13 L) (hx : LitsN L) :
    Calls Try.prog 77 #[.agg #[.int .i64 (k : Int), .slice A L.length cap], .slice WA L.length wc] w fun e w' => e = .returned (.int .i64 (leastF (holdF L) (2 ^ k))) ∧ Below w.heap.size w w' := by
  have HA := Lib.hid hA
  have HW := Lib.hid hW
  have HF := Lib.hid hf
  have HX := Lib.hid hx
  clear hA hf hx hW
  have hN' : 2 ^ k ≤ 8192 := Nat.pow_le_pow_right (n := 2) (by omega) hk
  obtain ⟨N, hN⟩ : ∃ N, N = 2 ^ k := ⟨_, rfl⟩
  have e0 : wrap64 (2 ^ k) = (N : Int) := by
    have : ((2 : Int) ^ k) = ((2 ^ k : Nat) : Int) := by simp
    rw [this, ← hN]; unfold wrap64; omega
  rw [← hN] at hN' ⊢
  have E0 := Lib.hid e0
  clear hN
  have HB1 : Hid (Below w.heap.size w (w.alloc (.cells #[.int .i64 (k : Int), .slice A L.length cap] 41))) := (Below.refl _ _).alloc (Nat.le_refl _) _
  have CB_1 : Hid (Blk (w.alloc (.cells #[.int .i64 (k : Int), .slice A L.length cap] 41)) w.heap.size 41 #[.int .i64 (k : Int), .slice A L.length cap]) := Blk.new _ _ _
  go_enter Try.func77, Try.ntmps77
  go_wp2_with fail
  go_loopw [5] (fun i wr => ∃ j : Nat, j ≤ N ∧ Hid (∀ i, i < j → holdF L i = false) ∧ Hid (Below w.heap.size w wr) ∧ Hid (Blk wr w.heap.size 41 #[.int .i64 (k : Int), .slice A L.length cap]) ∧ i = .int .i64 j) (fun i _ => N - (intOf i).toNat)
  case atStart => exact ⟨0, Nat.zero_le _, fun i hi => absurd hi (Nat.not_lt_zero _), HB1, CB_1, rfl⟩
  case round =>
    obtain ⟨j, hj, hno, hbw, CBr, rfl⟩ := hrel
    obtain ⟨cx0, cx1⟩ := CBr.out.two
    by_cases hlt : j < N
    case neg =>
      obtain rfl : j = N := by omega
      have hr := Lib.hid (leastF_no hno.out)
      go_wp2_with fail
      go_ret
      rw [hr.out]
      exact ⟨rfl, hbw.out⟩
    have hj1 : (j : Int) < (N : Int) := by omega
    have e1 : IntKind.i64.wrap ((j : Int) + 1) = (j : Int) + 1 := wrap_eq (by omega) (by omega)
    obtain ⟨d, hd⟩ : ∃ d, holdF L j = d := ⟨_, rfl⟩
    have HD := Lib.hid hd
    clear hd
    cases d
    · go_wp2_with (go_at_call 126; refine (l10All_any B j k A WA cap wc us L _ (by exact HA.out.below hbw.out) (by exact HW.out.below hbw.out) HF.out HX.out).mono ?_; rw [HD.out]; rintro e w1 ⟨rfl, hb1⟩; have HB1' : Hid (Below w.heap.size w w1) := hbw.out.trans (hb1.mono hbw.out.size); have CB1 := Lib.hid (CBr.out.below hb1 CBr.out.lt); clear hb1)
      go_roundw
      case rel =>
        refine ⟨j + 1, by omega, fun i hi => ?_, HB1', CB1, by go_num⟩
        by_cases e : i = j
        · subst e; exact HD.out
        · exact hno.out i (by omega)
      case measure => simp [intOf]; omega
    · have hr := Lib.hid (leastF_yes hlt hno.out HD.out)
      go_wp2_with (go_at_call 126; refine (l10All_any B j k A WA cap wc us L _ (by exact HA.out.below hbw.out) (by exact HW.out.below hbw.out) HF.out HX.out).mono ?_; rw [HD.out]; rintro e w1 ⟨rfl, hb1⟩; have HB1' : Hid (Below w.heap.size w w1) := hbw.out.trans (hb1.mono hbw.out.size); clear hb1)
      go_ret
      rw [hr.out]
      exact ⟨rfl, HB1'.out⟩

set_option maxRecDepth 100000 in
set_option maxHeartbeats 400000 in
theorem specSatLeast_any (B : Nat) (V : Int) (A : Option Addr) (cap : Nat) (us : List Value) (L : List (List Int)) (w : World) (hA : IntSS w B (.slice A L.length cap) us L) (hn : L.length ≤ 1048576) (hs : ∀ l ∈ L, l.length ≤ 1048576) :
    Calls Try.prog 23 #[.agg #[.int .i64 V, .slice A L.length cap]] w fun e w' => e = .returned (.tuple #[.int .i64 (satN V L), .bool (satB V L)]) ∧ Below w.heap.size w w' := by
  have HA := Lib.hid hA
  have HSh := Lib.hid hs
  clear hA hs
  have HB1 : Hid (Below w.heap.size w (w.alloc (.cells #[.int .i64 V, .slice A L.length cap] 41))) := (Below.refl _ _).alloc (Nat.le_refl _) _
  have CB_1 : Hid (Blk (w.alloc (.cells #[.int .i64 V, .slice A L.length cap] 41)) w.heap.size 41 #[.int .i64 V, .slice A L.length cap]) := Blk.new _ _ _
  cases hok : okC V L
  · have HO : Hid (okC V L = false) := hok
    have h1 : satN V L = 0 := by unfold satN; rw [hok]; rfl
    have h2 : satB V L = false := by unfold satB; rw [hok]; rfl
    rw [h1, h2]
    clear hok h1 h2
    go_enter Try.func23, Try.ntmps23
    go_wp2_with (go_at_call 24; refine (specCnfOk_any B V A cap us L _ (by exact HA.out.alloc _) hn HSh.out).mono ?_; rw [HO.out]; rintro e w2 ⟨rfl, hb⟩; have HB2 : Hid (Below w.heap.size w w2) := HB1.out.trans (hb.mono HB1.out.size); clear hb)
    go_ret2
    exact ⟨rfl, HB2.out⟩
  · have HO : Hid (okC V L = true) := hok
    have hl := okC_lits hok
    have HF : Hid (Few13 L) := ⟨by omega, fun l hm => by have := (hl.2.2 l hm).1; omega⟩
    have HX : Hid (LitsN L) := fun l hm x hx => by have := (hl.2.2 l hm).2 x hx; exact ⟨this.1, by omega, by omega⟩
    obtain ⟨k, rfl⟩ := Int.eq_ofNat_of_zero_le (show 0 ≤ V by omega)
    have hk : k ≤ 13 := by omega
    have hl60 : L.length ≤ 60 := hl.2.1
    obtain ⟨m, hm⟩ : ∃ m, m = leastF (holdF L) (2 ^ k) := ⟨_, rfl⟩
    have h1 : satN k L = if 0 ≤ m then m else 0 := by unfold satN; rw [hok, if_pos rfl, hm]; rfl
    have h2 : satB k L = decide (0 ≤ m) := by unfold satB; rw [hok, hm]; rfl
    rw [h1, h2]
    have HM := Lib.hid hm
    clear hok hl h1 h2 hm
    by_cases hm0 : 0 ≤ m
    · have d1 : decide (0 ≤ m) = true := decide_eq_true hm0
      have d2 : decide (m < 0) = false := decide_eq_false (by omega)
      rw [if_pos hm0, d1]
      go_enter Try.func23, Try.ntmps23
      go_wp2_with (go_at_call 24; refine (specCnfOk_any B k A cap us L _ (by exact HA.out.alloc _) hn HSh.out).mono ?_; rw [HO.out]; rintro e w2 ⟨rfl, hb⟩; have HB2 : Hid (Below w.heap.size w w2) := HB1.out.trans (hb.mono HB1.out.size); have CB_2 := Lib.hid (CB_1.out.below hb CB_1.out.lt); have HA2 := Lib.hid ((HA.out.alloc _).below hb); clear hb)
      go_region_held3 (fun w' => w'.cell? ⟨w.heap.size, 0, none⟩ = some (.int .i64 (k : Int)) ∧ w'.cell? ⟨w.heap.size, 1, none⟩ = some (.slice A L.length cap)) (first | with_reducible (exact ⟨CB_4.out.two.1, CB_4.out.two.2⟩) | with_reducible (exact ⟨CB_3.out.two.1, CB_3.out.two.2⟩) | exact ⟨CB_2.out.two.1, CB_2.out.two.2⟩) (first
        | (go_at_call 78; refine (l10Every_any (k : Int) A cap L (w2.drew) (by omega)).mono ?_; rintro e w3 ⟨WA, rfl, hT, hb⟩; have hb2 : Below w2.heap.size w2 w3 := (Below.refl _ _).drew.trans hb; have HB3 : Hid (Below w.heap.size w w3) := HB2.out.trans (hb2.mono HB2.out.size); have CB_3 := Lib.hid (CB_2.out.below hb2 CB_2.out.lt); have HA3 := Lib.hid (HA2.out.below hb2); have HT3 := Lib.hid hT; clear hb hb2 hT)
        | (go_at_call 77; refine (l10Least_any B k hk A WA cap _ us L _ (by exact HA3.out) (by exact HT3.out) HF.out HX.out).mono ?_; rw [← HM.out]; rintro e w4 ⟨rfl, hb⟩; have HB4 : Hid (Below w.heap.size w w4) := HB3.out.trans (hb.mono HB3.out.size); have CB_4 := Lib.hid (CB_3.out.below hb CB_3.out.lt); clear hb))
      all_goals
        go_wp2_with fail
        go_ret2
        exact ⟨rfl, HB4.out⟩
    · have d1 : decide (0 ≤ m) = false := decide_eq_false hm0
      have d2 : decide (m < 0) = true := decide_eq_true (by omega)
      rw [if_neg hm0, d1]
      go_enter Try.func23, Try.ntmps23
      go_wp2_with (go_at_call 24; refine (specCnfOk_any B k A cap us L _ (by exact HA.out.alloc _) hn HSh.out).mono ?_; rw [HO.out]; rintro e w2 ⟨rfl, hb⟩; have HB2 : Hid (Below w.heap.size w w2) := HB1.out.trans (hb.mono HB1.out.size); have CB_2 := Lib.hid (CB_1.out.below hb CB_1.out.lt); have HA2 := Lib.hid ((HA.out.alloc _).below hb); clear hb)
      go_region_held3 (fun w' => w'.cell? ⟨w.heap.size, 0, none⟩ = some (.int .i64 (k : Int)) ∧ w'.cell? ⟨w.heap.size, 1, none⟩ = some (.slice A L.length cap)) (first | with_reducible (exact ⟨CB_4.out.two.1, CB_4.out.two.2⟩) | with_reducible (exact ⟨CB_3.out.two.1, CB_3.out.two.2⟩) | exact ⟨CB_2.out.two.1, CB_2.out.two.2⟩) (first
        | (go_at_call 78; refine (l10Every_any (k : Int) A cap L (w2.drew) (by omega)).mono ?_; rintro e w3 ⟨WA, rfl, hT, hb⟩; have hb2 : Below w2.heap.size w2 w3 := (Below.refl _ _).drew.trans hb; have HB3 : Hid (Below w.heap.size w w3) := HB2.out.trans (hb2.mono HB2.out.size); have CB_3 := Lib.hid (CB_2.out.below hb2 CB_2.out.lt); have HA3 := Lib.hid (HA2.out.below hb2); have HT3 := Lib.hid hT; clear hb hb2 hT)
        | (go_at_call 77; refine (l10Least_any B k hk A WA cap _ us L _ (by exact HA3.out) (by exact HT3.out) HF.out HX.out).mono ?_; rw [← HM.out]; rintro e w4 ⟨rfl, hb⟩; have HB4 : Hid (Below w.heap.size w w4) := HB3.out.trans (hb.mono HB3.out.size); have CB_4 := Lib.hid (CB_3.out.below hb CB_3.out.lt); clear hb))
      all_goals
        go_wp2_with fail
        go_ret2
        exact ⟨rfl, HB4.out⟩
end Go.Proofs.Ytffefegjnbfobaa
