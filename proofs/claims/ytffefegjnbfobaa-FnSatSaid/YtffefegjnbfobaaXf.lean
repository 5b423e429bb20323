/- slices.ContainsFunc over ints and over rows of ints, for any closure. -/
import Derived.Test.YtffefegjnbfobaaPw
import Derived.Test.YtffefegjnbfobaaL0
namespace Go.Proofs.Ytffefegjnbfobaa
open Go.RowKit
open B

theorem any_take {α : Type} (l : List α) (q : α → Bool) {k : Nat} (h : k < l.length) : (l.take (k + 1)).any q = ((l.take k).any q || q l[k]) := by
  rw [List.take_add_one, List.getElem?_eq_getElem h, List.any_append]
  show (_ || (q _ || false)) = _
  rw [Bool.or_false]

set_option maxRecDepth 100000 in
theorem indexInts_any (A : Option Addr) (cap : Nat) (l : List Int) (fn : Nat) (first capA : Array Value) (q : Int → Bool) (w : World) (hA : IAt w A l) (hn : l.length ≤ 1048576) (he : Enters Try.prog fn)
    (hcall : ∀ W x, Below w.heap.size w W → x ∈ l → Calls Try.prog fn (first.push (.int .i64 x) ++ capA) W fun e W' => e = .returned (.bool (q x)) ∧ Below W.heap.size W W') :
    Calls Try.prog 145 #[.slice A l.length cap, .func (.func fn) first capA] w fun e w' => ∃ r : Int, e = .returned (.int .i64 r) ∧ (0 ≤ r ↔ l.any q = true) ∧ Below w.heap.size w w' := by
  have HA := Lib.hid hA
  have HC := Lib.hid hcall
  clear hA hcall
  have he' : ∀ (args : Array Value) (w : World), (callFunc fn args).run Try.prog w = .ok (.enter fn args) w := he
  clear he
  go_enter Try.func145, Try.ntmps145
  go_wp2_with fail
  go_loopw [8] (fun j wr => ∃ k : Nat, k ≤ l.length ∧ Hid ((l.take k).any q = false) ∧ Hid (Below w.heap.size w wr) ∧ j = .int .i64 k) (fun j _ => l.length - (intOf j).toNat)
  case atStart => exact ⟨0, Nat.zero_le _, by simp [Hid], Below.refl _ _, rfl⟩
  case round =>
    obtain ⟨k, hk, hno, hbw, rfl⟩ := hrel
    by_cases hlt : k < l.length
    case neg =>
      obtain rfl : k = l.length := by omega
      rw [List.take_length] at hno
      go_wp2_with fail
      go_ret
      exact ⟨-1, rfl, ⟨fun h => absurd h (by omega), fun h => by rw [hno.out] at h; cases h⟩, hbw.out⟩
    obtain ⟨g, rfl, hg, hc⟩ := (HA.out.below hbw.out) (by omega)
    have c1 := hc k hlt
    have HM := Lib.hid (List.getElem_mem hlt)
    have Htk : Hid ((l.take (k + 1)).any q = ((l.take k).any q || q l[k])) := any_take _ q hlt
    have HY : Hid (q l[k] = true → l.any q = true) := fun h => List.any_eq_true.2 ⟨_, List.getElem_mem hlt, h⟩
    clear hc
    generalize l[k] = x at *
    have e1 : IntKind.i64.wrap ((k : Int) + 1) = (k : Int) + 1 := wrap_eq (by omega) (by omega)
    have hj0 : (0 : Int) ≤ k := by omega
    have hj1 : (k : Int) < (l.length : Int) := by omega
    go_wp2_with fail
    refine (HC.out _ x hbw.out HM.out).mono ?_
    rintro e w1 ⟨rfl, hb1⟩
    have HB1 : Hid (Below w.heap.size w w1) := hbw.out.trans (hb1.mono hbw.out.size)
    clear hb1
    cases hq : q x
    · go_wp2_with fail
      go_roundw
      case rel => exact ⟨k + 1, by omega, Lib.hid (by rw [Htk.out, hno.out, hq]; rfl), HB1, by go_num⟩
      case measure => simp [intOf]; omega
    · have HYY := Lib.hid (HY.out hq)
      go_wp2_with fail
      go_ret
      exact ⟨k, rfl, ⟨fun _ => HYY.out, fun _ => by omega⟩, HB1.out⟩

set_option maxRecDepth 100000 in
theorem containsInts_any (A : Option Addr) (cap : Nat) (l : List Int) (fn : Nat) (first capA : Array Value) (q : Int → Bool) (w : World) (hA : IAt w A l) (hn : l.length ≤ 1048576) (he : Enters Try.prog fn)
    (hcall : ∀ W x, Below w.heap.size w W → x ∈ l → Calls Try.prog fn (first.push (.int .i64 x) ++ capA) W fun e W' => e = .returned (.bool (q x)) ∧ Below W.heap.size W W') :
    Calls Try.prog 123 #[.slice A l.length cap, .func (.func fn) first capA] w fun e w' => e = .returned (.bool (l.any q)) ∧ Below w.heap.size w w' := by
  have HX := Lib.hid (indexInts_any A cap l fn first capA q w hA hn he hcall)
  clear hcall hA he
  go_enter Try.func123, Try.ntmps123
  go_wp2_with (go_at_call 145; refine HX.out.mono ?_; rintro e w1 ⟨r, rfl, hr, hb1⟩; have HR := Lib.hid hr; clear hr)
  go_ret
  refine ⟨?_, hb1⟩
  have := HR.out
  cases hq : l.any q with
  | true => rw [hq] at this; simp [this.2 rfl]
  | false => rw [hq] at this; have : ¬ 0 ≤ r := fun h => absurd (this.1 h) (by decide)
             simp [this]

set_option maxRecDepth 100000 in
theorem indexRows_any (B : Nat) (A : Option Addr) (cap : Nat) (us : List Value) (L : List (List Int)) (fn : Nat) (first capA : Array Value) (q : List Int → Bool) (w : World) (hA : IntSS w B (.slice A L.length cap) us L) (hn : L.length ≤ 1048576) (he : Enters Try.prog fn)
    (hcall : ∀ W (l : List Int) (Ai : Option Addr) (ci : Nat), Below w.heap.size w W → l ∈ L → IAt W Ai l → Calls Try.prog fn (first.push (.slice Ai l.length ci) ++ capA) W fun e W' => e = .returned (.bool (q l)) ∧ Below W.heap.size W W') :
    Calls Try.prog 143 #[.slice A L.length cap, .func (.func fn) first capA] w fun e w' => ∃ r : Int, e = .returned (.int .i64 r) ∧ (0 ≤ r ↔ L.any q = true) ∧ Below w.heap.size w w' := by
  have HA := Lib.hid hA
  have HC := Lib.hid hcall
  clear hA hcall
  have he' : ∀ (args : Array Value) (w : World), (callFunc fn args).run Try.prog w = .ok (.enter fn args) w := he
  clear he
  go_enter Try.func143, Try.ntmps143
  go_wp2_with fail
  go_loopw [8] (fun j wr => ∃ k : Nat, k ≤ L.length ∧ Hid ((L.take k).any q = false) ∧ Hid (Below w.heap.size w wr) ∧ j = .int .i64 k) (fun j _ => L.length - (intOf j).toNat)
  case atStart => exact ⟨0, Nat.zero_le _, by simp [Hid], Below.refl _ _, rfl⟩
  case round =>
    obtain ⟨k, hk, hno, hbw, rfl⟩ := hrel
    by_cases hlt : k < L.length
    case neg =>
      obtain rfl : k = L.length := by omega
      rw [List.take_length] at hno
      go_wp2_with fail
      go_ret
      exact ⟨-1, rfl, ⟨fun h => absurd h (by omega), fun h => by rw [hno.out] at h; cases h⟩, hbw.out⟩
    obtain ⟨g, Ai, ci, rfl, hg, _, _, c1, ho⟩ := (HA.out.below hbw.out).cell hlt
    have HO := Lib.hid (IAt.of_own ho)
    have HM := Lib.hid (List.getElem_mem hlt)
    have Htk : Hid ((L.take (k + 1)).any q = ((L.take k).any q || q L[k])) := any_take _ q hlt
    have HY : Hid (q L[k] = true → L.any q = true) := fun h => List.any_eq_true.2 ⟨_, List.getElem_mem hlt, h⟩
    clear ho
    generalize L[k] = x at *
    have e1 : IntKind.i64.wrap ((k : Int) + 1) = (k : Int) + 1 := wrap_eq (by omega) (by omega)
    have hj0 : (0 : Int) ≤ k := by omega
    have hj1 : (k : Int) < (L.length : Int) := by omega
    go_wp2_with fail
    refine (HC.out _ x Ai ci hbw.out HM.out HO.out).mono ?_
    rintro e w1 ⟨rfl, hb1⟩
    have HB1 : Hid (Below w.heap.size w w1) := hbw.out.trans (hb1.mono hbw.out.size)
    clear hb1
    cases hq : q x
    · go_wp2_with fail
      go_roundw
      case rel => exact ⟨k + 1, by omega, Lib.hid (by rw [Htk.out, hno.out, hq]; rfl), HB1, by go_num⟩
      case measure => simp [intOf]; omega
    · have HYY := Lib.hid (HY.out hq)
      go_wp2_with fail
      go_ret
      exact ⟨k, rfl, ⟨fun _ => HYY.out, fun _ => by omega⟩, HB1.out⟩

set_option maxRecDepth 100000 in
theorem containsRows_any (B : Nat) (A : Option Addr) (cap : Nat) (us : List Value) (L : List (List Int)) (fn : Nat) (first capA : Array Value) (q : List Int → Bool) (w : World) (hA : IntSS w B (.slice A L.length cap) us L) (hn : L.length ≤ 1048576) (he : Enters Try.prog fn)
    (hcall : ∀ W (l : List Int) (Ai : Option Addr) (ci : Nat), Below w.heap.size w W → l ∈ L → IAt W Ai l → Calls Try.prog fn (first.push (.slice Ai l.length ci) ++ capA) W fun e W' => e = .returned (.bool (q l)) ∧ Below W.heap.size W W') :
    Calls Try.prog 118 #[.slice A L.length cap, .func (.func fn) first capA] w fun e w' => e = .returned (.bool (L.any q)) ∧ Below w.heap.size w w' := by
  have HX := Lib.hid (indexRows_any B A cap us L fn first capA q w hA hn he hcall)
  clear hcall hA he
  go_enter Try.func118, Try.ntmps118
  go_wp2_with (go_at_call 143; refine HX.out.mono ?_; rintro e w1 ⟨r, rfl, hr, hb1⟩; have HR := Lib.hid hr; clear hr)
  go_ret
  refine ⟨?_, hb1⟩
  have := HR.out
  cases hq : L.any q with
  | true => rw [hq] at this; simp [this.2 rfl]
  | false => rw [hq] at this; have : ¬ 0 ≤ r := fun h => absurd (this.1 h) (by decide)
             simp [this]
end Go.Proofs.Ytffefegjnbfobaa
