/- CnfOk and SatLeast of the reference, walked. -/
import Derived.Test.YtffefegjnbfobaaSa
import Derived.Test.YtffefegjnbfobaaS2
import Derived.Deep.RegionHeld3
namespace Go.Proofs.Ytffefegjnbfobaa
open Go.RowKit
open B

set_option maxRecDepth 100000 in
theorem l10Literal_any (V x : Int) (hV : 0 ≤ V ∧ V ≤ 1000) (W : World) :
    Calls Try.prog 127 #[.int .i64 x, .int .i64 V] W fun e W' => e = .returned (.bool (!badL V x)) ∧ W = W' := by
  obtain ⟨y, hy⟩ : ∃ y, y = -V := ⟨_, rfl⟩
  have k1 : IntKind.i64.wrap (-V) = y := (wrap_eq (by omega) (by omega)).trans hy.symm
  obtain ⟨d, hd⟩ : ∃ d, decide (-V ≤ x ∧ x ≤ V) = d := ⟨_, rfl⟩
  have he : (!badL V x) = ((x != 0) && d) := by unfold badL; rw [hd]; show _ = (!(x == 0) && d); cases x == 0 <;> cases d <;> rfl
  rw [← hy] at hd
  rw [he]
  have HD := Lib.hid hd
  clear he hy hV hd
  by_cases hx : x = 0
  · have hz : (x != 0) = false := by simp [hx]
    rw [hz]
    subst hx
    clear hz
    go_enter Try.func127, Try.ntmps127
    go_wp2_with fail
    go_ret
    exact ⟨rfl, rfl⟩
  · have hz : (x != 0) = true := by simp [hx]
    have hz2 : (x == 0) = false := by simp [hx]
    rw [hz]
    clear hx
    go_enter Try.func127, Try.ntmps127
    go_wp2_with (go_at_call 66; with_reducible refine (l1In_is x y V d HD.out _).mono ?_; rintro e w1 ⟨rfl, rfl⟩)
    go_ret
    exact ⟨rfl, rfl⟩

set_option maxRecDepth 100000 in
theorem l10Clause_any (V : Int) (A : Option Addr) (ci : Nat) (l : List Int) (w : World) (hA : IAt w A l) (hn : l.length ≤ 1048576) (hV : 0 ≤ V ∧ V ≤ 1000) :
    Calls Try.prog 79 #[.slice A l.length ci, .int .i64 V] w fun e w' => e = .returned (.bool (okL V l)) ∧ w = w' := by
  have HA := Lib.hid hA
  have HV := Lib.hid hV
  clear hA hV
  by_cases hl : l.length ≤ 10
  case neg =>
    have d1 : decide (l.length ≤ 10) = false := decide_eq_false hl
    have he : okL V l = false := by unfold okL; rw [d1]; rfl
    rw [he]
    clear he d1
    have d2 : decide ((10 : Int) < (l.length : Int)) = true := decide_eq_true (by omega)
    have d3 : decide (10 < l.length) = true := decide_eq_true (by omega)
    go_enter Try.func79, Try.ntmps79
    go_wp2_with fail
    go_ret
    exact ⟨rfl, rfl⟩
  have d1 : decide (l.length ≤ 10) = true := decide_eq_true hl
  have he : okL V l = !(l.any (badL V)) := by unfold okL; rw [d1]; rfl
  rw [he]
  clear he d1
  have d2 : decide ((10 : Int) < (l.length : Int)) = false := decide_eq_false (by omega)
  have d3 : decide (10 < l.length) = false := decide_eq_false (by omega)
  go_enter Try.func79, Try.ntmps79
  go_wp2_with fail
  go_loop [5] (fun i => ∃ k : Nat, k ≤ l.length ∧ Hid ((l.take k).any (badL V) = false) ∧ i = .int .i64 k) (fun i => l.length - (intOf i).toNat)
  case atStart => exact ⟨0, Nat.zero_le _, by simp [Hid], rfl⟩
  case round =>
    obtain ⟨k, hk, hno, rfl⟩ := hrel
    by_cases hlt : k < l.length
    case neg =>
      obtain rfl : k = l.length := by omega
      rw [List.take_length] at hno
      go_wp2_with fail
      go_ret
      rw [hno.out]
      exact ⟨rfl, rfl⟩
    obtain ⟨g, rfl, hg, hc⟩ := HA.out (by omega)
    have c1 := hc k hlt
    have Htk : Hid ((l.take (k + 1)).any (badL V) = ((l.take k).any (badL V) || badL V l[k])) := any_take _ _ hlt
    have HY : Hid (badL V l[k] = true → l.any (badL V) = true) := fun h => List.any_eq_true.2 ⟨_, List.getElem_mem hlt, h⟩
    clear hc
    generalize l[k] = x at *
    have e1 : IntKind.i64.wrap ((k : Int) + 1) = (k : Int) + 1 := wrap_eq (by omega) (by omega)
    have hj0 : (0 : Int) ≤ k := by omega
    have hj1 : (k : Int) < (l.length : Int) := by omega
    obtain ⟨b, hb⟩ : ∃ b, badL V x = b := ⟨_, rfl⟩
    rw [hb] at Htk HY
    have HBb := Lib.hid hb
    clear hb
    cases b
    · go_wp2_with (go_at_call 127; refine (l10Literal_any V x HV.out _).mono ?_; rw [HBb.out]; rintro e w1 ⟨rfl, rfl⟩)
      go_round
      case rel => exact ⟨k + 1, by omega, Lib.hid (by rw [Htk.out, hno.out]; rfl), by go_num⟩
      case measure => simp [intOf]; omega
    · have HYY := Lib.hid (HY.out rfl)
      go_wp2_with (go_at_call 127; refine (l10Literal_any V x HV.out _).mono ?_; rw [HBb.out]; rintro e w1 ⟨rfl, rfl⟩)
      go_ret
      rw [HYY.out]
      exact ⟨rfl, rfl⟩

set_option maxRecDepth 100000 in
theorem specCnfOk_any (B : Nat) (V : Int) (A : Option Addr) (cap : Nat) (us : List Value) (L : List (List Int)) (w : World) (hA : IntSS w B (.slice A L.length cap) us L) (hn : L.length ≤ 1048576) (hs : ∀ l ∈ L, l.length ≤ 1048576) :
    Calls Try.prog 24 #[.agg #[.int .i64 V, .slice A L.length cap]] w fun e w' => e = .returned (.bool (okC V L)) ∧ Below w.heap.size w w' := by
  have HA := Lib.hid hA
  have HSh := Lib.hid hs
  clear hA hs
  have HB1 : Hid (Below w.heap.size w (w.alloc (.cells #[.int .i64 V, .slice A L.length cap] 41))) := (Below.refl _ _).alloc (Nat.le_refl _) _
  by_cases hv : 1 ≤ V ∧ V ≤ 10
  case neg =>
    have hd : decide (1 ≤ V ∧ V ≤ 10) = false := by simpa using hv
    have he : okC V L = false := by unfold okC; rw [hd]; rfl
    rw [he]
    clear he hv
    go_enter Try.func24, Try.ntmps24
    go_wp2_with (go_at_call 66; refine (l1In_is V 1 10 false hd _).mono ?_; rintro e w1 ⟨rfl, rfl⟩)
    go_ret
    exact ⟨rfl, HB1.out⟩
  have hd : decide (1 ≤ V ∧ V ≤ 10) = true := by simpa using hv
  have HV := Lib.hid hv
  clear hv
  by_cases hl : L.length ≤ 60
  case neg =>
    have d1 : decide (L.length ≤ 60) = false := decide_eq_false hl
    have he : okC V L = false := by unfold okC; rw [hd, d1]; rfl
    rw [he]
    clear he d1
    have d2 : decide ((60 : Int) < (L.length : Int)) = true := decide_eq_true (by omega)
    have d3 : decide (60 < L.length) = true := decide_eq_true (by omega)
    go_enter Try.func24, Try.ntmps24
    go_wp2_with (go_at_call 66; refine (l1In_is V 1 10 true hd _).mono ?_; rintro e w1 ⟨rfl, rfl⟩)
    go_ret
    exact ⟨rfl, HB1.out⟩
  have d1 : decide (L.length ≤ 60) = true := decide_eq_true hl
  have he : okC V L = !(L.any fun l => !okL V l) := by unfold okC; rw [hd, d1]; rfl
  rw [he]
  clear he d1
  have d2 : decide ((60 : Int) < (L.length : Int)) = false := decide_eq_false (by omega)
  have d3 : decide (60 < L.length) = false := decide_eq_false (by omega)
  have CB_1 : Hid (Blk (w.alloc (.cells #[.int .i64 V, .slice A L.length cap] 41)) w.heap.size 41 #[.int .i64 V, .slice A L.length cap]) := Blk.new _ _ _
  have HA1 : Hid (IntSS (w.alloc (.cells #[.int .i64 V, .slice A L.length cap] 41)) B (.slice A L.length cap) us L) := HA.out.alloc _
  go_enter Try.func24, Try.ntmps24
  go_wp2_with (go_at_call 66; refine (l1In_is V 1 10 true hd _).mono ?_; rintro e w1 ⟨rfl, rfl⟩)
  go_loopw [3] (fun i wr => ∃ k : Nat, k ≤ L.length ∧ Hid ((L.take k).any (fun l => !okL V l) = false) ∧ Hid (Below w.heap.size w wr) ∧ Hid (Blk wr w.heap.size 41 #[.int .i64 V, .slice A L.length cap]) ∧ Hid (IntSS wr B (.slice A L.length cap) us L) ∧ i = .int .i64 k) (fun i _ => L.length - (intOf i).toNat)
  case atStart => exact ⟨0, Nat.zero_le _, by simp [Hid], HB1, CB_1, HA1, rfl⟩
  case round =>
    obtain ⟨k, hk, hno, HBr, CBr, HAr, rfl⟩ := hrel
    obtain ⟨cx0, cx1⟩ := CBr.out.two
    by_cases hlt : k < L.length
    case neg =>
      obtain rfl : k = L.length := by omega
      rw [List.take_length] at hno
      go_wp2_with fail
      go_ret
      rw [hno.out]
      exact ⟨rfl, HBr.out⟩
    obtain ⟨g, Ai, ci, rfl, hg, _, _, c1, ho⟩ := HAr.out.cell hlt
    have HO := Lib.hid (IAt.of_own ho)
    have hlk := HSh.out _ (List.getElem_mem hlt)
    have Htk : Hid ((L.take (k + 1)).any (fun l => !okL V l) = ((L.take k).any (fun l => !okL V l) || !okL V L[k])) := any_take _ _ hlt
    have HY : Hid ((!okL V L[k]) = true → L.any (fun l => !okL V l) = true) := fun h => List.any_eq_true.2 ⟨_, List.getElem_mem hlt, h⟩
    clear ho
    generalize L[k] = l at *
    have e1 : IntKind.i64.wrap ((k : Int) + 1) = (k : Int) + 1 := wrap_eq (by omega) (by omega)
    have hj0 : (0 : Int) ≤ k := by omega
    have hj1 : (k : Int) < (L.length : Int) := by omega
    obtain ⟨b, hb⟩ : ∃ b, okL V l = b := ⟨_, rfl⟩
    rw [hb] at Htk HY
    have HBb := Lib.hid hb
    have T := Lib.hid (fun W (h : Below wr.heap.size wr W) => (show Calls Try.prog 79 #[.slice Ai l.length ci, .int .i64 V] W fun e w' => e = .returned (.bool b) ∧ W = w' from by
      have := l10Clause_any V Ai ci l W (HO.out.below h) hlk (by have := HV.out; omega)
      rwa [HBb.out] at this))
    clear hb
    go_wp2_with fail
    go_quiet ((go_at_call 79; exact quiet_leftN (T.out _ (below_drewN (Below.refl _ _) _))))
    cases b
    · have HYY := Lib.hid (HY.out rfl)
      go_wp2_with fail
      go_ret
      rw [HYY.out]
      exact ⟨rfl, below_drewN HBr.out _⟩
    · go_wp2_with fail
      go_roundw
      case rel => exact ⟨k + 1, by omega, Lib.hid (by rw [Htk.out, hno.out]; rfl), below_drewN HBr.out _, CBr.out.below (below_drewN (Below.refl wr.heap.size wr) _) CBr.out.lt, HAr.out.below (below_drewN (Below.refl wr.heap.size wr) _), by go_num⟩
      case measure => simp [intOf]; omega
end Go.Proofs.Ytffefegjnbfobaa
