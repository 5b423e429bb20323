/- CnfOk, clausesHold and CnfSet of the program, walked. -/
import Derived.Test.YtffefegjnbfobaaXf
import Derived.Test.YtffefegjnbfobaaVc
import Derived.Test.YtffefegjnbfobaaWl
namespace Go.Proofs.Ytffefegjnbfobaa
open Go.RowKit
open B

/-- A literal holds of a number. -/
def litF (x : Int) (c : Nat) : Bool := if x < 0 then !c.testBit (-x - 1).toNat else c.testBit (x - 1).toNat
/-- All clauses hold of a number. -/
def holdF (L : List (List Int)) (c : Nat) : Bool := !(L.any fun l => !(l.any fun x => litF x c))
/-- Literals of at most 13 variables, none zero. -/
def LitsN (L : List (List Int)) : Prop := ∀ l ∈ L, ∀ x ∈ l, x ≠ 0 ∧ -13 ≤ x ∧ x ≤ 13
/-- A literal that no clause of so many variables has. -/
def badL (V x : Int) : Bool := x == 0 || !decide (-V ≤ x ∧ x ≤ V)
def okL (V : Int) (l : List Int) : Bool := decide (l.length ≤ 10) && !(l.any (badL V))
def okC (V : Int) (L : List (List Int)) : Bool := decide (1 ≤ V ∧ V ≤ 10) && decide (L.length ≤ 60) && !(L.any fun l => !okL V l)

set_option maxRecDepth 100000 in
theorem literal_any (x : Int) (c : Nat) (W : World) (hx : x ≠ 0 ∧ -13 ≤ x ∧ x ≤ 13) (hc : c < 16384) :
    Calls Try.prog 125 #[.int .i64 x, .int .i64 (c : Int)] W fun e W' => e = .returned (.bool (litF x c)) ∧ W = W' := by
  by_cases hneg : x < 0
  · obtain ⟨i, hi⟩ : ∃ i : Nat, (i : Int) = -x - 1 := ⟨(-x - 1).toNat, by omega⟩
    have he : litF x c = !c.testBit i := by unfold litF; rw [if_pos hneg, ← hi]; rfl
    obtain ⟨y, hy⟩ : ∃ y, y = -x := ⟨_, rfl⟩
    have k1 : IntKind.i64.wrap (-x) = y := (wrap_eq (by omega) (by omega)).trans hy.symm
    have k2 : IntKind.i64.wrap (y - 1) = (i : Int) := (wrap_eq (by omega) (by omega)).trans (by omega)
    have d1 : decide (x < 0) = true := decide_eq_true hneg
    have hil : i ≤ 13 := by omega
    rw [he]
    clear he hi hy hx
    cases hb : c.testBit i with
    | true =>
      have h1 : (bits .and .i64 ((c : Int) / 2 ^ i) 1 == 0) = false := by rw [bit_at c i (by omega), hb]; rfl
      clear hb
      go_enter Try.func125, Try.ntmps125
      go_wp2_with fail
      go_ret
      exact ⟨rfl, rfl⟩
    | false =>
      have h1 : (bits .and .i64 ((c : Int) / 2 ^ i) 1 == 0) = true := by rw [bit_at c i (by omega), hb]; rfl
      clear hb
      go_enter Try.func125, Try.ntmps125
      go_wp2_with fail
      go_ret
      exact ⟨rfl, rfl⟩
  · obtain ⟨i, hi⟩ : ∃ i : Nat, (i : Int) = x - 1 := ⟨(x - 1).toNat, by omega⟩
    have he : litF x c = c.testBit i := by unfold litF; rw [if_neg hneg, ← hi]; rfl
    have k2 : IntKind.i64.wrap (x - 1) = (i : Int) := (wrap_eq (by omega) (by omega)).trans (by omega)
    have d1 : decide (x < 0) = false := decide_eq_false hneg
    have hil : i ≤ 13 := by omega
    rw [he]
    clear he hi hx
    cases hb : c.testBit i with
    | true =>
      have h1 := bit_yes (c := c) (v := i) (by omega) hb
      clear hb
      go_enter Try.func125, Try.ntmps125
      go_wp2_with fail
      go_ret
      exact ⟨rfl, rfl⟩
    | false =>
      have h1 := bit_no (c := c) (v := i) (by omega) hb
      clear hb
      go_enter Try.func125, Try.ntmps125
      go_wp2_with fail
      go_ret
      exact ⟨rfl, rfl⟩

theorem holds11_enters : Enters Try.prog 124 := enters_of Try.func124 (by kernel_rfl) rfl
theorem holds1_enters : Enters Try.prog 122 := enters_of Try.func122 (by kernel_rfl) rfl
theorem clauseOk1_enters : Enters Try.prog 144 := enters_of Try.func144 (by kernel_rfl) rfl
theorem cnfOk1_enters : Enters Try.prog 119 := enters_of Try.func119 (by kernel_rfl) rfl
theorem cnfSet1_enters : Enters Try.prog 75 := enters_of Try.func75 (by kernel_rfl) rfl

set_option maxRecDepth 100000 in
theorem holds11_any (g c : Nat) (x : Int) (W : World) (hb : Blk W g 3 #[.int .i64 (c : Int)]) (hx : x ≠ 0 ∧ -13 ≤ x ∧ x ≤ 13) (hc : c < 16384) :
    Calls Try.prog 124 #[.int .i64 x, .pointer (some ⟨g, 0, none⟩)] W fun e W' => e = .returned (.bool (litF x c)) ∧ Below W.heap.size W W' := by
  have y0 := hb.one
  have HX := Lib.hid hx
  clear hb hx
  go_enter Try.func124, Try.ntmps124
  go_wp2_with (go_at_call 125; refine (literal_any x c _ HX.out hc).mono ?_; rintro e w1 ⟨rfl, rfl⟩)
  go_ret
  exact ⟨rfl, Below.refl _ _⟩

set_option maxRecDepth 100000 in
theorem holds1_any (g c : Nat) (l : List Int) (A : Option Addr) (ci : Nat) (W : World) (hb : Blk W g 3 #[.int .i64 (c : Int)]) (hA : IAt W A l) (hn : l.length ≤ 1048576) (hx : ∀ x ∈ l, x ≠ 0 ∧ -13 ≤ x ∧ x ≤ 13) (hc : c < 16384) :
    Calls Try.prog 122 #[.slice A l.length ci, .pointer (some ⟨g, 0, none⟩)] W fun e W' => e = .returned (.bool (!(l.any fun x => litF x c))) ∧ Below W.heap.size W W' := by
  have HB := Lib.hid hb
  have HA := Lib.hid hA
  have HX := Lib.hid hx
  clear hb hx hA
  have hmf : ∀ (fn : Fn) (first cap : Array Value) (w : World), (Instr.makeFunc fn first cap).run Try.prog w = .ok (.func fn first cap) w := fun _ _ _ _ => rfl
  go_enter Try.func122, Try.ntmps122
  go_wp2_with (go_at_call 123; refine (containsInts_any A ci l 124 _ _ (fun x => litF x c) _ HA.out hn holds11_enters (by exact fun W' x hb' hx' => cap1 (holds11_any g c x W' (HB.out.below hb' HB.out.lt) (HX.out x hx') hc))).mono ?_; rintro e w1 ⟨rfl, hb1⟩)
  go_ret
  exact ⟨rfl, hb1⟩

set_option maxRecDepth 100000 in
theorem clausesHold_any (B : Nat) (A : Option Addr) (cap : Nat) (us : List Value) (L : List (List Int)) (c : Nat) (w : World) (hA : IntSS w B (.slice A L.length cap) us L) (hf : Few13 L) (hx : LitsN L) (hc : c < 16384) :
    Calls Try.prog 76 #[.slice A L.length cap, .int .i64 (c : Int)] w fun e w' => e = .returned (.bool (holdF L c)) ∧ Below w.heap.size w w' := by
  have HA := Lib.hid hA
  have HF := Lib.hid hf
  have HX := Lib.hid hx
  have hl := hf.few
  clear hA hf hx
  have HB1 : Hid (Below w.heap.size w (w.alloc (.cells #[.int .i64 (c : Int)] 3))) := (Below.refl _ _).alloc (Nat.le_refl _) _
  have CB : Hid (Blk (w.alloc (.cells #[.int .i64 (c : Int)] 3)) w.heap.size 3 #[.int .i64 (c : Int)]) := Blk.new _ _ _
  have hmf : ∀ (fn : Fn) (first cap : Array Value) (w : World), (Instr.makeFunc fn first cap).run Try.prog w = .ok (.func fn first cap) w := fun _ _ _ _ => rfl
  go_enter Try.func76, Try.ntmps76
  go_wp2_with (go_at_call 118; refine (containsRows_any B A cap us L 122 _ _ (fun l => !(l.any fun x => litF x c)) _ (by exact HA.out.alloc _) (by omega) holds1_enters (by exact fun W l Ai ci hb hl hi => cap1 (holds1_any w.heap.size c l Ai ci W (CB.out.below hb CB.out.lt) hi (by have := HF.out.short l hl; omega) (HX.out l hl) hc))).mono ?_; rintro e w1 ⟨rfl, hb1⟩)
  go_ret
  exact ⟨rfl, HB1.out.trans (hb1.mono (by simp))⟩

set_option maxRecDepth 100000 in
theorem clauseOk1_any (g : Nat) (V x : Int) (W : World) (hb : Blk W g 3 #[.int .i64 V]) (hV : 0 ≤ V ∧ V ≤ 1000) :
    Calls Try.prog 144 #[.int .i64 x, .pointer (some ⟨g, 0, none⟩)] W fun e W' => e = .returned (.bool (badL V x)) ∧ Below W.heap.size W W' := by
  have y0 := hb.one
  obtain ⟨y, hy⟩ : ∃ y, y = -V := ⟨_, rfl⟩
  have k1 : IntKind.i64.wrap (-V) = y := (wrap_eq (by omega) (by omega)).trans hy.symm
  obtain ⟨d, hd⟩ : ∃ d, decide (-V ≤ x ∧ x ≤ V) = d := ⟨_, rfl⟩
  have he : badL V x = (x == 0 || !d) := by unfold badL; rw [hd]
  rw [← hy] at hd
  rw [he]
  have HD := Lib.hid hd
  clear hb he hy hV hd
  cases hz : x == 0
  · go_enter Try.func144, Try.ntmps144
    go_wp2_with (go_at_call 69; refine (in_is x y V d HD.out _).mono ?_; rintro e w1 ⟨rfl, rfl⟩)
    go_ret
    exact ⟨rfl, Below.refl _ _⟩
  · go_enter Try.func144, Try.ntmps144
    go_wp2_with fail
    go_ret
    exact ⟨rfl, Below.refl _ _⟩

set_option maxRecDepth 100000 in
theorem clauseOk_any (V : Int) (A : Option Addr) (ci : Nat) (l : List Int) (w : World) (hA : IAt w A l) (hn : l.length ≤ 1048576) (hV : 0 ≤ V ∧ V ≤ 1000) :
    Calls Try.prog 120 #[.int .i64 V, .slice A l.length ci] w fun e w' => e = .returned (.bool (okL V l)) ∧ Below w.heap.size w w' := by
  have HA := Lib.hid hA
  have HV := Lib.hid hV
  clear hA hV
  have HB1 : Hid (Below w.heap.size w (w.alloc (.cells #[.int .i64 V] 3))) := (Below.refl _ _).alloc (Nat.le_refl _) _
  have CB : Hid (Blk (w.alloc (.cells #[.int .i64 V] 3)) w.heap.size 3 #[.int .i64 V]) := Blk.new _ _ _
  have hmf : ∀ (fn : Fn) (first cap : Array Value) (w : World), (Instr.makeFunc fn first cap).run Try.prog w = .ok (.func fn first cap) w := fun _ _ _ _ => rfl
  by_cases hl : l.length ≤ 10
  · have d1 : decide (l.length ≤ 10) = true := decide_eq_true hl
    have d2 : decide ((l.length : Int) ≤ 10) = true := decide_eq_true (by omega)
    have he : okL V l = !(l.any (badL V)) := by unfold okL; rw [d1]; rfl
    rw [he]
    clear he
    go_enter Try.func120, Try.ntmps120
    go_wp2_with (go_at_call 123; refine (containsInts_any A ci l 144 _ _ (badL V) _ (by exact HA.out.below HB1.out) hn clauseOk1_enters (by exact fun W' x hb' hx' => cap1 (clauseOk1_any w.heap.size V x W' (CB.out.below hb' CB.out.lt) HV.out))).mono ?_; rintro e w1 ⟨rfl, hb1⟩)
    go_ret
    exact ⟨rfl, HB1.out.trans (hb1.mono (by simp))⟩
  · have d1 : decide (l.length ≤ 10) = false := decide_eq_false hl
    have d2 : decide ((l.length : Int) ≤ 10) = false := decide_eq_false (by omega)
    have he : okL V l = false := by unfold okL; rw [d1]; rfl
    rw [he]
    clear he
    go_enter Try.func120, Try.ntmps120
    go_wp2_with fail
    go_ret
    exact ⟨rfl, HB1.out⟩

set_option maxRecDepth 100000 in
theorem cnfOk1_any (g : Nat) (V : Int) (x : Value) (l : List Int) (A : Option Addr) (ci : Nat) (W : World) (hb : Blk W g 41 #[.int .i64 V, x]) (hA : IAt W A l) (hn : l.length ≤ 1048576) (hV : 0 ≤ V ∧ V ≤ 1000) :
    Calls Try.prog 119 #[.slice A l.length ci, .pointer (some ⟨g, 0, none⟩)] W fun e W' => e = .returned (.bool (!okL V l)) ∧ Below W.heap.size W W' := by
  obtain ⟨y0, y1⟩ := hb.two
  have HA := Lib.hid hA
  clear hb hA
  go_enter Try.func119, Try.ntmps119
  go_wp2_with (go_at_call 120; refine (clauseOk_any V A ci l _ HA.out hn hV).mono ?_; rintro e w1 ⟨rfl, hb1⟩)
  go_ret
  exact ⟨rfl, hb1⟩

set_option maxRecDepth 100000 in
theorem implCnfOk_any (B : Nat) (V : Int) (A : Option Addr) (cap : Nat) (us : List Value) (L : List (List Int)) (w : World) (hA : IntSS w B (.slice A L.length cap) us L) (hn : L.length ≤ 1048576) (hs : ∀ l ∈ L, l.length ≤ 1048576) :
    Calls Try.prog 72 #[.agg #[.int .i64 V, .slice A L.length cap]] w fun e w' => e = .returned (.bool (okC V L)) ∧ Below w.heap.size w w' := by
  have HA := Lib.hid hA
  have HSh := Lib.hid hs
  clear hA hs
  have HB1 : Hid (Below w.heap.size w (w.alloc (.cells #[.int .i64 V, .slice A L.length cap] 41))) := (Below.refl _ _).alloc (Nat.le_refl _) _
  have CB : Hid (Blk (w.alloc (.cells #[.int .i64 V, .slice A L.length cap] 41)) w.heap.size 41 #[.int .i64 V, .slice A L.length cap]) := Blk.new _ _ _
  have hmf : ∀ (fn : Fn) (first cap : Array Value) (w : World), (Instr.makeFunc fn first cap).run Try.prog w = .ok (.func fn first cap) w := fun _ _ _ _ => rfl
  by_cases hv : 1 ≤ V ∧ V ≤ 10
  case neg =>
    have hd : decide (1 ≤ V ∧ V ≤ 10) = false := by simpa using hv
    have he : okC V L = false := by unfold okC; rw [hd]; rfl
    rw [he]
    clear he hv
    go_enter Try.func72, Try.ntmps72
    go_wp2_with (go_at_call 69; refine (in_is V 1 10 false hd _).mono ?_; rintro e w1 ⟨rfl, rfl⟩)
    go_ret
    exact ⟨rfl, HB1.out⟩
  have hd : decide (1 ≤ V ∧ V ≤ 10) = true := by simpa using hv
  have HV := Lib.hid hv
  clear hv
  by_cases hl : L.length ≤ 60
  · have d1 : decide (L.length ≤ 60) = true := decide_eq_true hl
    have d2 : decide ((L.length : Int) ≤ 60) = true := decide_eq_true (by omega)
    have he : okC V L = !(L.any fun l => !okL V l) := by unfold okC; rw [hd, d1]; rfl
    rw [he]
    clear he
    go_enter Try.func72, Try.ntmps72
    go_wp2_with (first
      | (go_at_call 69; refine (in_is V 1 10 true hd _).mono ?_; rintro e w1 ⟨rfl, rfl⟩)
      | (go_at_call 118; refine (containsRows_any B A cap us L 119 _ _ (fun l => !okL V l) _ (by exact HA.out.alloc _) (by omega) cnfOk1_enters (by exact fun W l Ai ci hb hl hi => cap1 (cnfOk1_any w.heap.size V _ l Ai ci W (CB.out.below hb CB.out.lt) hi (HSh.out l hl) (by have := HV.out; omega)))).mono ?_; rintro e w1 ⟨rfl, hb1⟩))
    go_ret
    exact ⟨rfl, HB1.out.trans (hb1.mono (by simp))⟩
  · have d1 : decide (L.length ≤ 60) = false := decide_eq_false hl
    have d2 : decide ((L.length : Int) ≤ 60) = false := decide_eq_false (by omega)
    have he : okC V L = false := by unfold okC; rw [hd, d1]; rfl
    rw [he]
    clear he
    go_enter Try.func72, Try.ntmps72
    go_wp2_with (go_at_call 69; refine (in_is V 1 10 true hd _).mono ?_; rintro e w1 ⟨rfl, rfl⟩)
    go_ret
    exact ⟨rfl, HB1.out⟩

/-- What ok clauses are. -/
theorem okC_lits {V : Int} {L : List (List Int)} (h : okC V L = true) : (1 ≤ V ∧ V ≤ 10) ∧ L.length ≤ 60 ∧ (∀ l ∈ L, l.length ≤ 10 ∧ ∀ x ∈ l, x ≠ 0 ∧ -V ≤ x ∧ x ≤ V) := by
  unfold okC at h
  rw [Bool.and_eq_true, Bool.and_eq_true, decide_eq_true_eq, decide_eq_true_eq, Bool.not_eq_true', List.any_eq_false] at h
  refine ⟨h.1.1, h.1.2, fun l hl => ?_⟩
  have h1 : okL V l = true := by
    have := h.2 l hl
    cases hh : okL V l with
    | true => rfl
    | false => rw [hh] at this; exact absurd rfl this
  unfold okL at h1
  rw [Bool.and_eq_true, decide_eq_true_eq, Bool.not_eq_true', List.any_eq_false] at h1
  refine ⟨h1.1, fun x hx => ?_⟩
  have h2 := h1.2 x hx
  unfold badL at h2
  constructor
  · intro e; subst e; exact h2 rfl
  · by_cases h3 : -V ≤ x ∧ x ≤ V
    · exact h3
    · exact absurd (by simp [decide_eq_false h3]) h2
end Go.Proofs.Ytffefegjnbfobaa
