/- Words on memory: nodes of a diagram in a slice; small laws on numbers that the walks meet; Walks: the small functions, and 'has' of both sides; Walks: 'formed'; Walks: newTable; words on rows that a function tells. -/
import Derived.Test.YtffefegjnbfobaaBdd
import Derived.WalkKit
import Derived.Lib.Hide
import Derived.Deep.QuietTactic
import Derived.BigQuiet
import Derived.Deep.Draws
import Derived.Test.YtffefegjnbfobaaProg
import Derived.Shelf.Abstract
namespace Go.Proofs.Ytffefegjnbfobaa
open Go.RowKit
open B

/-- The slice at A holds the nodes ns. -/
def NAt (w : World) (A : Option Addr) (ns : List Nd) : Prop :=
  0 < ns.length → ∃ b off, A = some ⟨b, off, none⟩ ∧ b < w.heap.size ∧ ∀ (k : Nat) (n : Nd), ns[k]? = some n →
    w.cell? ⟨b, off + k * 3, none⟩ = some (.int .i64 n.v) ∧ w.cell? ⟨b, off + k * 3 + 1, none⟩ = some (.int .i64 n.lo) ∧ w.cell? ⟨b, off + k * 3 + 2, none⟩ = some (.int .i64 n.hi)

theorem NAt.below {w w' : World} {A : Option Addr} {ns : List Nd} (h : NAt w A ns) (hb : Below w.heap.size w w') : NAt w' A ns := fun hn => by
  obtain ⟨b, off, rfl, hlt, hc⟩ := h hn
  refine ⟨b, off, rfl, Nat.lt_of_lt_of_le hlt hb.size, fun k n hk => ?_⟩
  obtain ⟨c1, c2, c3⟩ := hc k n hk
  exact ⟨(hb.cell (p := ⟨b, _, none⟩) hlt).trans c1, (hb.cell (p := ⟨b, _, none⟩) hlt).trans c2, (hb.cell (p := ⟨b, _, none⟩) hlt).trans c3⟩

/-- What a walk knows of one node: its cells, in a later world. -/
theorem NAt.get {w w' : World} {A : Option Addr} {ns : List Nd} (h : NAt w A ns) (hb : Below w.heap.size w w') {k : Nat} (hk : k < ns.length) :
    ∃ b off, A = some ⟨b, off, none⟩ ∧ w'.cell? ⟨b, off + k * 3, none⟩ = some (.int .i64 ns[k].v) ∧ w'.cell? ⟨b, off + k * 3 + 1, none⟩ = some (.int .i64 ns[k].lo) ∧ w'.cell? ⟨b, off + k * 3 + 2, none⟩ = some (.int .i64 ns[k].hi) := by
  obtain ⟨b, off, rfl, hlt, hc⟩ := (h.below hb) (by omega)
  exact ⟨b, off, rfl, hc k ns[k] (List.getElem?_eq_getElem hk)⟩

/-- .. by its place. -/
theorem NAt.nd {w w' : World} {A : Option Addr} {ns : List Nd} (h : NAt w A ns) (hb : Below w.heap.size w w') {p : Int} (h1 : 1 < p) (h2 : p ≤ ns.length + 1) :
    ∃ b off, A = some ⟨b, off, none⟩ ∧ w'.cell? ⟨b, off + (p - 2).toNat * 3, none⟩ = some (.int .i64 (nd ns p).v) ∧ w'.cell? ⟨b, off + (p - 2).toNat * 3 + 1, none⟩ = some (.int .i64 (nd ns p).lo) ∧ w'.cell? ⟨b, off + (p - 2).toNat * 3 + 2, none⟩ = some (.int .i64 (nd ns p).hi) := by
  obtain ⟨b, off, rfl, hlt, hc⟩ := (h.below hb) (by omega)
  exact ⟨b, off, rfl, hc _ _ (nd_get h1 h2)⟩

theorem below_drewN {B : Nat} {a w : World} (h : Below B a w) (n : Nat) : Below B a (w.drewN n) := ⟨h.os, h.tape, h.output, h.size, h.block⟩

/-- After a contract that ends in 'Below': all old cells and marks read as before. -/
theorem bcell {W w1 : World} (hb : Below W.heap.size W w1) : (∀ b o, b < W.heap.size → w1.cell? ⟨b, o, none⟩ = W.cell? ⟨b, o, none⟩) ∧ (∀ b o, b < W.heap.size → w1.frozen? ⟨b, o, none⟩ = W.frozen? ⟨b, o, none⟩) :=
  ⟨fun b o h => hb.cell (p := ⟨b, o, none⟩) h, fun b o h => hb.frozen (p := ⟨b, o, none⟩) h⟩

theorem ret_int {k : IntKind} {a b : Int} (h : a = b) : Ending.returned (.int k a) = .returned (.int k b) := by rw [h]
theorem ret_bool {a b : Bool} (h : a = b) : Ending.returned (.bool a) = .returned (.bool b) := by rw [h]

theorem ofInt_i64 (a : Nat) (ha : a < 9223372036854775808) : (BitVec.ofInt 64 (a : Int)).toNat = a := by
  rw [BitVec.ofInt_natCast, BitVec.toNat_ofNat]; exact Nat.mod_eq_of_lt (by omega)
theorem i64_and_nat (a b : Nat) (ha : a < 9223372036854775808) (hb : b < 9223372036854775808) : bits .and .i64 (a : Int) (b : Int) = ((a &&& b : Nat) : Int) := by
  have hx : a &&& b < 2 ^ 63 := Nat.and_lt_two_pow _ (by omega)
  show IntKind.i64.wrap ((BitVec.ofInt 64 (a : Int) &&& BitVec.ofInt 64 (b : Int)).toNat : Int) = _
  rw [BitVec.toNat_and, ofInt_i64 a ha, ofInt_i64 b hb, IntKind.wrap_i64]
  omega

/-- 'code >> v & 1'. -/
theorem bit_at (c v : Nat) (hc : c < 9223372036854775808) : bits .and .i64 ((c : Int) / 2 ^ v) 1 = if c.testBit v then 1 else 0 := by
  have e : ((c : Int) / 2 ^ v) = ((c / 2 ^ v : Nat) : Int) := by simp
  have hle : c / 2 ^ v ≤ c := Nat.div_le_self _ _
  have := i64_and_nat (c / 2 ^ v) 1 (by omega) (by omega)
  rw [e, show (1 : Int) = ((1 : Nat) : Int) from rfl, this, Nat.and_one_is_mod, Nat.testBit_eq_decide_div_mod_eq]
  by_cases h : c / 2 ^ v % 2 = 1
  · simp [h]
  · simp [h]; omega
theorem bit_yes {c v : Nat} (hc : c < 9223372036854775808) (h : c.testBit v = true) : (bits .and .i64 ((c : Int) / 2 ^ v) 1 == 1) = true := by rw [bit_at c v hc, h]; rfl
theorem bit_no {c v : Nat} (hc : c < 9223372036854775808) (h : c.testBit v = false) : (bits .and .i64 ((c : Int) / 2 ^ v) 1 == 1) = false := by rw [bit_at c v hc, h]; rfl

/-- A call that answers whether p. -/
def Says (p : Prop) (e : Ending) : Prop := (e = .returned (.bool true) ∧ p) ∨ (e = .returned (.bool false) ∧ ¬ p)
theorem Says.yes {p : Prop} (h : p) : Says p (.returned (.bool true)) := .inl ⟨rfl, h⟩
theorem Says.no {p : Prop} (h : ¬ p) : Says p (.returned (.bool false)) := .inr ⟨rfl, h⟩
theorem Says.of {p : Prop} {b : Bool} (h : b = true ↔ p) : Says p (.returned (.bool b)) := by
  cases b
  · exact .no (fun hp => by simpa using h.2 hp)
  · exact .yes (h.1 rfl)

section
variable {P : Program} {f : FuncId} {args : Array Value} {w : World} {v : Value}
theorem quiet_left (h : Calls P f args w fun e w' => e = .returned v ∧ w = w') : Calls P f args w fun e w'' => e = .returned v ∧ ∃ m, w'' = w.drewN m :=
  h.mono fun _ _ ⟨he, hm⟩ => ⟨he, 0, hm.symm⟩
theorem quiet_leftN {n : Nat} (h : Calls P f args (w.drewN n) fun e w' => e = .returned v ∧ w.drewN n = w') : Calls P f args (w.drewN n) fun e w'' => e = .returned v ∧ ∃ m, w'' = w.drewN m :=
  h.mono fun _ _ ⟨he, hm⟩ => ⟨he, n, hm.symm⟩
theorem quiet_addL {a n : Nat} (h : Calls P f args (w.drewN (a + n)) fun e w' => e = .returned v ∧ w.drewN (a + n) = w') :
    Calls P f args (w.drewN (a + n)) fun e w'' => e = .returned v ∧ ∃ m, w'' = w.drewN (a + m) :=
  h.mono fun _ _ ⟨he, hm⟩ => ⟨he, n, hm.symm⟩
end
theorem wrap_eq {n : Int} (h0 : -9223372036854775808 ≤ n) (h1 : n ≤ 9223372036854775807) : IntKind.i64.wrap n = n := by rw [IntKind.wrap_i64]; omega

end Go.Proofs.Ytffefegjnbfobaa
namespace Go.Proofs.Ytffefegjnbfobaa
open Go.RowKit
open B

theorem in_any (n lo hi : Int) (w : World) : Calls Try.prog 69 #[.int .i64 n, .int .i64 lo, .int .i64 hi] w fun e w' => e = .returned (.bool (decide (lo ≤ n ∧ n ≤ hi))) ∧ w = w' := by
  by_cases h : lo ≤ n
  · go_enter Try.func69, Try.ntmps69
    go_wp2
    go_ret
    exact ⟨by simp [h], rfl⟩
  · have h' : decide (lo ≤ n) = false := by simpa using h
    go_enter Try.func69, Try.ntmps69
    go_wp2
    go_ret
    exact ⟨by simp, rfl⟩

set_option maxRecDepth 100000 in
set_option maxHeartbeats 400000 in
theorem has_any (V R : Int) (A : Option Addr) (cap vars : Nat) (ns : List Nd) (c : Nat) (w : World) (hA : NAt w A ns) (hf : Fm vars ns) (hv : vars ≤ 13) (hR : isP ns R) (hcc : c < 9223372036854775808) (hn : ns.length ≤ 1048576) :
    Calls Try.prog 70 #[.agg #[.int .i64 V, .slice A ns.length cap, .int .i64 R], .int .i64 (c : Int)] w fun e w' => e = .returned (.bool (has ns R c)) ∧ Below w.heap.size w w' := by
  go_enter Try.func70, Try.ntmps70
  go_wp2
  go_loopw [5] (fun p wr => Below w.heap.size w wr ∧ wr.cell? ⟨w.heap.size, 1, none⟩ = some (.slice A ns.length cap) ∧ w.heap.size < wr.heap.size ∧ ∃ q : Int, 0 ≤ q ∧ q ≤ ns.length + 1 ∧ Hid (has ns q c = has ns R c) ∧ p = .int .i64 q) (fun p _ => (intOf p).toNat)
  case atStart => exact ⟨(Below.refl _ _).alloc (Nat.le_refl _) _, by simp [World.cell?_alloc_at], by simp, R, hR.1, hR.2, rfl, rfl⟩
  case round =>
    obtain ⟨hbw, hns, hlt, q, hq0, hq1, hhas, rfl⟩ := hrel
    by_cases h1 : 1 < q
    · have g := good hf h1 hq1
      obtain ⟨gv0, gv1, gl0, gl1, gh0, gh1⟩ := (⟨g.v0, g.v1, g.lo0, g.lo1, g.hi0, g.hi1⟩ : _ ∧ _ ∧ _ ∧ _ ∧ _ ∧ _)
      have gl2 : (nd ns q).lo < q := by omega
      have gh2 : (nd ns q).hi < q := by omega
      clear gl1 gh1 g
      have HS : Hid (∀ c, has ns q c = has ns (if c.testBit (nd ns q).v.toNat then (nd ns q).hi else (nd ns q).lo) c) := fun c => has_step hf h1 hq1 c
      have hc3 := hA.nd hbw h1 hq1
      clear hA hf hR
      obtain ⟨b, off, rfl, c1, c2, c3⟩ := hc3
      by_cases hb : c.testBit (nd ns q).v.toNat = true
      · have t := bit_yes hcc hb
        have HB := Lib.hid hb
        clear hb
        go_wp2
        go_roundw
        case rel => exact ⟨hbw.alloc (by omega) _, by rw [World.cell?_alloc_past _ _ _ (by simpa using hlt)]; exact hns, by simp; omega, _, gh0, by omega, by rw [← hhas.out, HS.out c, if_pos HB.out]; rfl, rfl⟩
        case measure => simp [intOf]; omega
      · have hb : c.testBit (nd ns q).v.toNat = false := by simpa using hb
        have t := bit_no hcc hb
        have HB := Lib.hid hb
        clear hb
        go_wp2
        go_roundw
        case rel => exact ⟨hbw.alloc (by omega) _, by rw [World.cell?_alloc_past _ _ _ (by simpa using hlt)]; exact hns, by simp; omega, _, gl0, by omega, by rw [← hhas.out, HS.out c, if_neg (by simp [HB.out])]; rfl, rfl⟩
        case measure => simp [intOf]; omega
    · go_wp2
      go_ret
      exact ⟨ret_bool (by rw [← hhas.out, has_small ns q c (by omega)]), hbw⟩

end Go.Proofs.Ytffefegjnbfobaa
namespace Go.Proofs.Ytffefegjnbfobaa
open Go.RowKit
open B

theorem in_is (n lo hi : Int) (b : Bool) (h : decide (lo ≤ n ∧ n ≤ hi) = b) (w : World) : Calls Try.prog 69 #[.int .i64 n, .int .i64 lo, .int .i64 hi] w fun e w' => e = .returned (.bool b) ∧ w = w' := by
  subst h; exact in_any n lo hi w

theorem isVars_is (n : Int) (b : Bool) (h : decide (0 ≤ n ∧ n ≤ 13) = b) (w : World) : Calls Try.prog 62 #[.int .i64 n] w fun e w' => e = .returned (.bool b) ∧ w = w' := by
  go_enter Try.func62, Try.ntmps62
  go_wp2_with (go_at_call 69; refine (in_is _ _ _ b h _).mono ?_; rintro e w' ⟨rfl, rfl⟩)
  go_ret
  exact ⟨rfl, rfl⟩

set_option maxRecDepth 100000 in
set_option maxHeartbeats 400000 in
theorem formed_any (V R : Int) (A : Option Addr) (cap : Nat) (ns : List Nd) (w : World) (hA : NAt w A ns) (hn : ns.length ≤ 1048576) :
    Calls Try.prog 86 #[.agg #[.int .i64 V, .slice A ns.length cap, .int .i64 R]] w fun e w' => Says (Formed V ns R) e ∧ Below w.heap.size w w' := by
  by_cases hV : 0 ≤ V ∧ V ≤ 13
  case neg =>
    have hd : decide (0 ≤ V ∧ V ≤ 13) = false := by simpa using hV
    have hno : Hid (¬ Formed V ns R) := fun h => hV ⟨h.v0, h.v1⟩
    clear hV
    go_enter Try.func86, Try.ntmps86
    go_wp2_with (go_at_call 62; refine (isVars_is _ false hd _).mono ?_; rintro e w' ⟨rfl, rfl⟩)
    go_ret
    exact ⟨.no hno.out, (Below.refl _ _).alloc (Nat.le_refl _) _⟩
  obtain ⟨hV0, hV1⟩ := hV
  have hd : decide (0 ≤ V ∧ V ≤ 13) = true := by simp [hV0, hV1]
  by_cases hlen : ns.length ≤ 600
  case neg =>
    have hno : Hid (¬ Formed V ns R) := fun h => hlen h.len
    have hl : (600 : Int) < ns.length := by omega
    clear hlen
    go_enter Try.func86, Try.ntmps86
    go_wp2_with (go_at_call 62; refine (isVars_is _ true hd _).mono ?_; rintro e w' ⟨rfl, rfl⟩)
    go_ret
    exact ⟨.no hno.out, (Below.refl _ _).alloc (Nat.le_refl _) _⟩
  by_cases hR : 0 ≤ R ∧ R ≤ ns.length + 1
  case neg =>
    have hr : decide (0 ≤ R ∧ R ≤ (ns.length : Int) + 1) = false := by simpa using hR
    have hno : Hid (¬ Formed V ns R) := fun h => hR h.root
    clear hR
    go_enter Try.func86, Try.ntmps86
    go_wp2_with (first | (go_at_call 62; refine (isVars_is _ true hd _).mono ?_; rintro e w' ⟨rfl, rfl⟩) | (go_at_call 69; refine (in_is _ _ _ false hr _).mono ?_; rintro e w' ⟨rfl, rfl⟩))
    go_ret
    exact ⟨.no hno.out, (Below.refl _ _).alloc (Nat.le_refl _) _⟩
  have hr : decide (0 ≤ R ∧ R ≤ (ns.length : Int) + 1) = true := by simpa using hR
  have hl : decide ((600 : Int) < ns.length) = false := by simp; omega
  have HR := Lib.hid hR
  clear hR
  go_enter Try.func86, Try.ntmps86
  go_wp2_with (first | (go_at_call 62; refine (isVars_is _ true hd _).mono ?_; rintro e w' ⟨rfl, rfl⟩) | (go_at_call 69; refine (in_is _ _ _ true hr _).mono ?_; rintro e w' ⟨rfl, rfl⟩))
  clear hd hr
  go_loopw [30] (fun i wr => ∃ k : Nat, k ≤ ns.length ∧ Hid (∀ j n, j < k → ns[j]? = some n → B.Good V.toNat ns j n) ∧ Below w.heap.size w wr ∧ wr.cell? ⟨w.heap.size, 0, none⟩ = some (.int .i64 V) ∧ wr.cell? ⟨w.heap.size, 1, none⟩ = some (.slice A ns.length cap) ∧ w.heap.size < wr.heap.size ∧ i = .int .i64 k) (fun i _ => ns.length - (intOf i).toNat)
  case atStart => exact ⟨0, Nat.zero_le _, fun j n hj => absurd hj (Nat.not_lt_zero _), (Below.refl _ _).alloc (Nat.le_refl _) _, by simp [World.cell?_alloc_at], by simp [World.cell?_alloc_at], by simp, rfl⟩
  case round =>
    obtain ⟨k, hk, hgood, hbw, cV, cN, hsz, rfl⟩ := hrel
    by_cases hlt : k < ns.length
    case neg =>
      obtain rfl : k = ns.length := by omega
      go_wp2
      go_ret
      exact ⟨.yes ⟨hV0, hV1, hlen, HR.out, fun j n hj => hgood.out j n (List.getElem?_eq_some_iff.1 hj).1 hj⟩, hbw⟩
    obtain ⟨b, off, rfl, c1, c2, c3⟩ := hA.get hbw hlt
    have hget : ns[k]? = some ns[k] := List.getElem?_eq_getElem hlt
    generalize ns[k] = n at c1 c2 c3 hget
    have Hget := Lib.hid hget
    clear hget
    have e1 : IntKind.i64.wrap ((k : Int) + 1) = (k : Int) + 1 := wrap_eq (by omega) (by omega)
    by_cases hv : 0 ≤ n.v ∧ n.v ≤ V - 1
    case neg =>
      have d1 : decide (0 ≤ n.v ∧ n.v ≤ V - 1) = false := by simpa using hv
      have hno : Hid (¬ Formed V ns R) := fun h => hv (by have g := h.fm k n Hget.out; have := g.v0; have := g.v1; omega)
      clear hv
      go_wp2_with (go_at_call 69; refine (in_is _ _ _ false d1 _).mono ?_; rintro e w' ⟨rfl, rfl⟩)
      go_ret
      exact ⟨.no hno.out, hbw.alloc (by omega) _⟩
    have d1 : decide (0 ≤ n.v ∧ n.v ≤ V - 1) = true := by simpa using hv
    have Hv := Lib.hid hv
    clear hv
    by_cases hne : n.lo = n.hi
    · have d2 : (n.lo == n.hi) = true := by simpa using hne
      have hno : Hid (¬ Formed V ns R) := fun h => (h.fm k n Hget.out).ne hne
      clear hne
      go_wp2_with (go_at_call 69; refine (in_is _ _ _ true d1 _).mono ?_; rintro e w' ⟨rfl, rfl⟩)
      go_ret
      exact ⟨.no hno.out, hbw.alloc (by omega) _⟩
    have d2 : (n.lo == n.hi) = false := by simpa using hne
    have Hne := Lib.hid hne
    clear hne
    go_wp2_with (go_at_call 69; refine (in_is _ _ _ true d1 _).mono ?_; rintro e w' ⟨rfl, rfl⟩)
    clear d1 d2
    obtain ⟨wo, rfl⟩ : ∃ wo : World, wo = wr := ⟨_, rfl⟩
    go_loopw [55] (fun i wr => ∃ j : Nat, j ≤ 2 ∧ Hid (∀ x, (0 < j ∧ x = n.lo) ∨ (1 < j ∧ x = n.hi) → (0 ≤ x ∧ x ≤ (k : Int) + 1) ∧ (1 < x → n.v < (nd ns x).v)) ∧ Below w.heap.size w wr ∧ wr.cell? ⟨w.heap.size, 0, none⟩ = some (.int .i64 V) ∧ wr.cell? ⟨w.heap.size, 1, none⟩ = some (.slice (some ⟨b, off, none⟩) ns.length cap) ∧
      wr.cell? ⟨wo.heap.size, 0, none⟩ = some (.int .i64 n.v) ∧ wr.cell? ⟨wo.heap.size + 1, 0, none⟩ = some (.int .i64 n.lo) ∧ wr.cell? ⟨wo.heap.size + 1, 1, none⟩ = some (.int .i64 n.hi) ∧ w.heap.size < wr.heap.size ∧ i = .int .i64 j) (fun i _ => 2 - (intOf i).toNat)
    case atStart =>
      exact ⟨0, by omega, fun x h => by rcases h with ⟨h, _⟩ | ⟨h, _⟩ <;> exact absurd h (by omega), (hbw.alloc (by omega) _).alloc (by simp; omega) _, by simp [World.cell?_alloc_past, hsz, cV, Nat.lt_succ_of_lt], by simp [World.cell?_alloc_past, hsz, cN, Nat.lt_succ_of_lt],
        by simp [World.cell?_alloc_past, World.cell?_alloc_at], by simp [World.cell?_alloc_at], by simp [World.cell?_alloc_at], by simp; omega, rfl⟩
    case round =>
      obtain ⟨j, hj, hin, hbi, cV', cN', cv, cl, ch, hsi, rfl⟩ := hrel
      by_cases hj2 : j < 2
      · obtain ⟨x, hx, HX⟩ : ∃ x, wr.cell? ⟨wo.heap.size + 1, j, none⟩ = some (.int .i64 x) ∧ Hid (j = 0 ∧ x = n.lo ∨ j = 1 ∧ x = n.hi) := by
          rcases (show j = 0 ∨ j = 1 by omega) with rfl | rfl
          · exact ⟨_, cl, .inl ⟨rfl, rfl⟩⟩
          · exact ⟨_, ch, .inr ⟨rfl, rfl⟩⟩
        have hgx : Hid (Formed V ns R → (0 ≤ x ∧ x ≤ (k : Int) + 1) ∧ (1 < x → n.v < (nd ns x).v)) := fun h => by
          have g := h.fm k n Hget.out
          rcases HX.out with ⟨_, rfl⟩ | ⟨_, rfl⟩
          · exact ⟨⟨g.lo0, g.lo1⟩, g.lov⟩
          · exact ⟨⟨g.hi0, g.hi1⟩, g.hiv⟩
        have hstep : Hid ((0 ≤ x ∧ x ≤ (k : Int) + 1) ∧ (1 < x → n.v < (nd ns x).v) → ∀ y, (0 < j + 1 ∧ y = n.lo) ∨ (1 < j + 1 ∧ y = n.hi) → (0 ≤ y ∧ y ≤ (k : Int) + 1) ∧ (1 < y → n.v < (nd ns y).v)) := fun h y hy => by
          rcases HX.out with ⟨rfl, rfl⟩ | ⟨rfl, rfl⟩
          · rcases hy with ⟨_, rfl⟩ | ⟨hy, _⟩
            · exact h
            · omega
          · rcases hy with ⟨_, rfl⟩ | ⟨_, rfl⟩
            · exact hin.out _ (.inl ⟨by omega, rfl⟩)
            · exact h
        have CL := Lib.hid cl
        have CH := Lib.hid ch
        clear cl ch
        by_cases hrg : 0 ≤ x ∧ x ≤ (k : Int) + 1
        case neg =>
          have d1 : decide (0 ≤ x ∧ x ≤ (k : Int) + 1) = false := by simpa using hrg
          have hno : Hid (¬ Formed V ns R) := fun h => hrg (hgx.out h).1
          clear hrg
          go_wp2_with fail
          go_quiet ((go_at_call 69; exact quiet_leftN (in_is _ _ _ false d1 _)))
          go_wp2
          go_ret
          exact ⟨.no hno.out, below_drewN hbi _⟩
        have d1 : decide (0 ≤ x ∧ x ≤ (k : Int) + 1) = true := by simpa using hrg
        by_cases h1 : 1 < x
        case neg =>
          have d2 : decide (1 < x) = false := by simpa using h1
          have hok : Hid ((0 ≤ x ∧ x ≤ (k : Int) + 1) ∧ (1 < x → n.v < (nd ns x).v)) := ⟨hrg, fun h => absurd h h1⟩
          clear hrg h1
          go_wp2_with fail
          go_quiet ((go_at_call 69; exact quiet_leftN (in_is _ _ _ true d1 _)))
          go_wp2
          go_roundw
          case rel => exact ⟨j + 1, by omega, hstep.out hok.out, below_drewN hbi _, cV', cN', cv, CL.out, CH.out, hsi, by go_num⟩
          case measure => simp [intOf]; omega
        have d2 : decide (1 < x) = true := by simpa using h1
        have hxl : (x - 2).toNat < ns.length := by omega
        have e2 : IntKind.i64.wrap (x - 2) = x - 2 := wrap_eq (by omega) (by omega)
        have hx0 : 0 ≤ x - 2 := by omega
        have hx1 : x - 2 < (ns.length : Int) := by omega
        obtain ⟨b', off', hE, x1, _⟩ := hA.nd hbi h1 (by omega)
        obtain ⟨rfl, rfl⟩ : b = b' ∧ off = off' := by simpa using hE
        clear hE
        by_cases hvv : (nd ns x).v ≤ n.v
        · have d3 : decide ((nd ns x).v ≤ n.v) = true := by simpa using hvv
          have hno : Hid (¬ Formed V ns R) := fun h => by have := (hgx.out h).2 h1; omega
          clear hrg hvv
          go_wp2_with fail
          go_quiet ((go_at_call 69; exact quiet_leftN (in_is _ _ _ true d1 _)))
          go_wp2
          go_ret
          exact ⟨.no hno.out, below_drewN hbi _⟩
        · have d3 : decide ((nd ns x).v ≤ n.v) = false := by simpa using hvv
          have hok : Hid ((0 ≤ x ∧ x ≤ (k : Int) + 1) ∧ (1 < x → n.v < (nd ns x).v)) := ⟨hrg, fun _ => by omega⟩
          clear hrg hvv
          go_wp2_with fail
          go_quiet ((go_at_call 69; exact quiet_leftN (in_is _ _ _ true d1 _)))
          go_wp2
          go_roundw
          case rel => exact ⟨j + 1, by omega, hstep.out hok.out, below_drewN hbi _, cV', cN', cv, CL.out, CH.out, hsi, by go_num⟩
          case measure => simp [intOf]; omega
      · have H : Hid (B.Good V.toNat ns k n) := by
          have a := hin.out n.lo (.inl ⟨by omega, rfl⟩)
          have c := hin.out n.hi (.inr ⟨by omega, rfl⟩)
          have v := Hv.out
          exact ⟨v.1, by omega, Hne.out, a.1.1, a.1.2, c.1.1, c.1.2, a.2, c.2⟩
        go_wp2
        go_roundw
        case rel =>
          refine ⟨k + 1, by omega, fun j' m hj' hm => ?_, hbi, cV', cN', hsi, by go_num⟩
          by_cases e : j' = k
          · subst e
            have := Hget.out.symm.trans hm
            injection this with this
            subst this
            exact H.out
          · exact hgood.out j' m (by omega) hm
        case measure => simp [intOf]; omega

end Go.Proofs.Ytffefegjnbfobaa
namespace Go.Proofs.Ytffefegjnbfobaa
open Go.RowKit
open B

theorem info5 : (Try.prog.info? 5).map (fun i => (i.zero, i.size, i.bytes)) = some (some (.int .u8 0), 1, 1) := by kernel_rfl

theorem run_make_rowN {P : Program} (t e : TypeId) (i : TypeInfo) (z : Value) (ht : P.underlying t = some (.slice e)) (hi : P.info? e = some i) (hz : i.zero = some z)
    (kl kc : IntKind) (n c : Nat) (hnc : n ≤ c) (hbytes : i.bytes * c ≤ 281474976710656) (h63 : c ≤ 9223372036854775807) (w : World) :
    (Instr.makeSlice t (.int kl (n : Int)) (.int kc (c : Int))).run P w = .ok (.slice (some ⟨w.heap.size, 0, none⟩) n c) (w.alloc (.cells (madeCells z.cells (c * i.size)) e)) := by
  have hb : (i.bytes : Int) * (c : Int) ≤ 281474976710656 := by
    have h : ((i.bytes * c : Nat) : Int) ≤ 281474976710656 := by omega
    rwa [Int.natCast_mul] at h
  have hr := run_make (P := P) w t e i z ht hi hz kl kc n c (by omega) (by omega) hb (by omega)
  simp only [Int.toNat_natCast] at hr
  exact hr

/-- make(table, n) -/
theorem mk_table (n : Nat) (hn : n ≤ 1048576) (w : World) :
    (Instr.makeSlice 83 (.int .i64 (n : Int)) (.int .i64 (n : Int))).run Try.prog w = .ok (.slice (some ⟨w.heap.size, 0, none⟩) n n) (w.alloc (.cells (madeCells #[.int .u8 0] n) 5)) := by
  obtain ⟨i, hi, hz0, hz1, hz2⟩ := info_parts info5
  have := run_make_rowN (P := Try.prog) 83 5 i _ Try.underlying83 hi hz0 .i64 .i64 n n (Nat.le_refl _) (by rw [hz2]; omega) (by omega) w
  rw [hz1, Nat.mul_one] at this
  exact this

/-- A row told by a function. -/
def rowF (f : Nat → Value) (n : Nat) : Array Value := Array.ofFn (n := n) fun i => f i.val
theorem rowF_get (f : Nat → Value) (n i : Nat) (h : i < n) : (rowF f n)[i]? = some (f i) := by simp [rowF, h]
theorem rowF_size (f : Nat → Value) (n : Nat) : (rowF f n).size = n := by simp [rowF]
theorem rowF_congr {f g : Nat → Value} {n : Nat} (h : ∀ i, i < n → f i = g i) : rowF f n = rowF g n := by
  apply Array.ext
  · simp [rowF]
  · intro i h1 h2
    simp [rowF] at h1 ⊢
    exact h i h1
theorem rowF_set (f : Nat → Value) (n k : Nat) (v : Value) : (rowF f n).setIfInBounds k v = rowF (fun c => if c = k then v else f c) n := by
  apply Array.ext
  · simp [rowF]
  · intro i h1 h2
    rw [Array.getElem_setIfInBounds (by simpa [rowF] using h2)]
    simp [rowF, eq_comm]
theorem made_rowF (z : Value) (n : Nat) : madeCells #[z] n = rowF (fun _ => z) n := by
  apply Array.ext
  · simp [rowF, size_madeCells]
  · intro i h1 h2
    have h := congrArg (fun l : List Value => l[i]?) (toList_madeCells_one z n)
    simp [size_madeCells] at h1
    simp [h1] at h
    simp [rowF]
    simpa [size_madeCells, h1] using h

/-- Block g is just these cells of type t. -/
def Blk (w : World) (g : Nat) (t : TypeId) (cs : Array Value) : Prop := w.heap[g]? = some (.cells cs t (0, 0))
theorem Blk.lt {w : World} {g : Nat} {t : TypeId} {cs : Array Value} (h : Blk w g t cs) : g < w.heap.size := by
  rcases Nat.lt_or_ge g w.heap.size with hlt | hge
  · exact hlt
  · unfold Blk at h; rw [Array.getElem?_eq_none hge] at h; cases h
theorem Blk.cell {w : World} {g : Nat} {t : TypeId} {cs : Array Value} (h : Blk w g t cs) (i : Nat) : w.cell? ⟨g, i, none⟩ = cs[i]? := cell_of_row w g i cs t (0, 0) h
theorem Blk.frozen {w : World} {g : Nat} {t : TypeId} {cs : Array Value} (h : Blk w g t cs) (i : Nat) : w.frozen? ⟨g, i, none⟩ = false := by
  unfold Blk at h
  simp [World.frozen?, h]
theorem Blk.new (w : World) (t : TypeId) (cs : Array Value) : Blk (w.alloc (.cells cs t)) w.heap.size t cs := heap_alloc_new w _
theorem Blk.new_at (w : World) (t : TypeId) (cs : Array Value) {g : Nat} (hg : g = w.heap.size) : Blk (w.alloc (.cells cs t)) g t cs := by subst hg; exact Blk.new w t cs
theorem Blk.news {w : World} {g : Nat} {t : TypeId} {cs : Array Value} (h : Blk w g t cs) : ∀ j u, cs.toList[j]? = some u → w.cell? ((⟨g, 0, none⟩ : Addr).add j) = some u := fun j u hu => by
  have hadd : (⟨g, 0, none⟩ : Addr).add j = ⟨g, j, none⟩ := by unfold Addr.add; split <;> simp_all
  rw [hadd, h.cell]; simpa using hu
theorem Blk.alloc {w : World} {g : Nat} {t : TypeId} {cs : Array Value} (h : Blk w g t cs) (o : Obj) : Blk (w.alloc o) g t cs := (Below.heap_alloc w o g h.lt).trans h
theorem Blk.set_ {w : World} {g : Nat} {t : TypeId} {cs : Array Value} (h : Blk w g t cs) (i : Nat) (u : Value) : Blk (w.setCell ⟨g, i, none⟩ u) g t (cs.setIfInBounds i u) := by
  unfold Blk at h ⊢
  simp [World.setCell, Array.getElem?_modify, h]
theorem Blk.far {w : World} {g : Nat} {t : TypeId} {cs : Array Value} (h : Blk w g t cs) {p : Addr} (hp : g ≠ p.block) (u : Value) : Blk (w.setCell p u) g t cs := (Below.heap_setCell w p u g hp).trans h
theorem Blk.below {w w' : World} {g : Nat} {t : TypeId} {cs : Array Value} {B : Nat} (h : Blk w g t cs) (hb : Below B w w') (hg : g < B) : Blk w' g t cs := (hb.block g hg).trans h
theorem Blk.grown {w w' : World} {g : Nat} {t : TypeId} {cs : Array Value} {row : Option Nat} (h : Blk w g t cs) (hb : w.grownBy w' row) (hg : some g ≠ row) : Blk w' g t cs := (hb.block g h.lt hg).trans h

/-- A bool as a byte. -/
def b2i (b : Bool) : Int := if b then 1 else 0
theorem b2i_bd (b : Bool) : 0 ≤ b2i b ∧ b2i b ≤ 1 := by cases b <;> decide
def u8b (b : Bool) : Value := .int .u8 (b2i b)

theorem bit_is (b : Bool) (w : World) : Calls Try.prog 112 #[.bool b] w fun e w' => e = .returned (.int .i64 (b2i b)) ∧ w = w' := by
  cases b
  · go_enter Try.func112, Try.ntmps112
    go_wp2
    go_ret
    exact ⟨rfl, rfl⟩
  · go_enter Try.func112, Try.ntmps112
    go_wp2
    go_ret
    exact ⟨rfl, rfl⟩

set_option maxRecDepth 100000 in
set_option maxHeartbeats 400000 in
theorem newTable_any (vars N : Nat) (hN : N = 2 ^ vars) (fn : Nat) (first cap : Array Value) (h : Nat → Bool) (w : World) (hv : vars ≤ 13) (he : Enters Try.prog fn)
    (hcall : ∀ W c, Below w.heap.size w W → c < N → Calls Try.prog fn (first.push (.int .i64 (c : Int)) ++ cap) W fun e W' => e = .returned (.bool (h c)) ∧ Below W.heap.size W W') :
    Calls Try.prog 121 #[.int .i64 (vars : Int), .func (.func fn) first cap] w fun e w' => ∃ g, e = .returned (.slice (some ⟨g, 0, none⟩) N N) ∧ w.heap.size ≤ g ∧ Below w.heap.size w w' ∧ Blk w' g 5 (rowF (fun c => u8b (h c)) N) := by
  have hN' : N ≤ 8192 := by rw [hN]; exact Nat.pow_le_pow_right (by omega) hv
  have e1 : wrap64 (2 ^ vars) = (N : Int) := by
    have : ((2 : Int) ^ vars) = ((2 ^ vars : Nat) : Int) := by simp
    rw [this, ← hN]; unfold wrap64; omega
  clear hN
  have hmk := fun W => mk_table N (by omega) W
  have HC := Lib.hid hcall
  clear hcall
  have he' : ∀ (args : Array Value) (w : World), (callFunc fn args).run Try.prog w = .ok (.enter fn args) w := he
  clear he
  go_enter Try.func121, Try.ntmps121
  go_wp2_with fail
  clear e1 hmk
  go_loopw [12] (fun i wr => ∃ k : Nat, k ≤ N ∧ i = .int .i64 k ∧ Below w.heap.size w wr ∧ Blk wr w.heap.size 5 (rowF (fun c => if c < k then u8b (h c) else .int .u8 0) N)) (fun i _ => N - (intOf i).toNat)
  case atStart => exact ⟨0, by omega, rfl, (Below.refl _ _).alloc (Nat.le_refl _) _, by rw [made_rowF]; exact Blk.new _ _ _⟩
  case round =>
    obtain ⟨k, hk, rfl, hbw, hblk⟩ := hrel
    have HB := Lib.hid hblk
    clear hblk
    by_cases hlt : k < N
    · go_wp2_with fail
      refine (HC.out _ k hbw hlt).mono ?_
      rintro e w1 ⟨rfl, hb1⟩
      have hb2 := hbw.trans (hb1.mono hbw.size)
      have hblt := HB.out.lt
      have HB1 := (HB.out.below hb1 hblt)
      have hc0 : w1.cell? ⟨w.heap.size, k, none⟩ = some (if k < k then u8b (h k) else .int .u8 0) := by rw [HB1.cell, rowF_get _ _ _ hlt]
      have hf0 := HB1.frozen k
      have HB2 := Lib.hid HB1
      clear HB1
      obtain ⟨bd0, bd1⟩ := b2i_bd (h k)
      have hu : Hid (u8b (h k) = .int .u8 (b2i (h k))) := rfl
      go_wp2_with (go_at_call 112; refine (bit_is _ _).mono ?_; rintro e w' ⟨rfl, rfl⟩)
      go_roundw
      case rel =>
        refine ⟨k + 1, by omega, by go_num, hb2.setCell (Nat.le_refl _) _, ?_⟩
        have h3 := HB2.out.set_ k (.int .u8 (b2i (h k)))
        rw [rowF_set] at h3
        rw [rowF_congr (g := fun c => if c = k then Value.int .u8 (b2i (h k)) else if c < k then u8b (h c) else .int .u8 0)]
        · exact h3
        · intro i hi
          by_cases e : i = k
          · subst e; simp [u8b]
          · simp [e, show i < k + 1 ↔ i < k by omega]
      case measure => simp [intOf]; omega
    · go_wp2
      go_ret
      refine ⟨_, rfl, Nat.le_refl _, hbw, ?_⟩
      rw [show rowF (fun c => u8b (h c)) N = rowF (fun c => if c < k then u8b (h c) else .int .u8 0) N from rowF_congr fun i hi => by rw [if_pos (by omega)]]
      exact HB.out

end Go.Proofs.Ytffefegjnbfobaa
