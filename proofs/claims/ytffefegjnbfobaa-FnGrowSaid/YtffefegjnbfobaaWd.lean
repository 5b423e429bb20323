/- Words on memory: nodes of a diagram in a slice; small laws on numbers that the walks meet. -/
import Derived.Test.YtffefegjnbfobaaBddO
import Derived.WalkKit
import Derived.Lib.Hide
import Derived.Deep.QuietTactic
import Derived.BigQuiet
import Derived.Deep.Draws
namespace Go.Proofs.Ytffefegjnbfobaa
open Go.RowKit
open B

/-- The slice at A holds the nodes ns. -/
def NAt (w : World) (A : Option Addr) (ns : List Nd) : Prop :=
  0 < ns.length → ∃ b off, A = some ⟨b, off, none⟩ ∧ b < w.heap.size ∧ ∀ (k : Nat) (n : Nd), ns[k]? = some n →
    w.cell? ⟨b, off + k * 3, none⟩ = some (.int .i64 n.v) ∧ w.cell? ⟨b, off + k * 3 + 1, none⟩ = some (.int .i64 n.lo) ∧ w.cell? ⟨b, off + k * 3 + 2, none⟩ = some (.int .i64 n.hi)

theorem NAt.below {w w' : World} {A : Option Addr} {ns : List Nd} (h : NAt w A ns) (hb : Below w.heap.size w w') : NAt w' A ns := fun hn => by
  obtain ⟨b, off, rfl, hlt, hc⟩ := h hn
  refine ⟨b, off, rfl, Nat.lt_of_lt_of_le hlt hb.size, fun k n hk => ?_⟩
  obtain ⟨c1, c2, c3⟩ := hc k n hk
  exact ⟨(hb.cell (p := ⟨b, _, none⟩) hlt).trans c1, (hb.cell (p := ⟨b, _, none⟩) hlt).trans c2, (hb.cell (p := ⟨b, _, none⟩) hlt).trans c3⟩

/-- What a walk knows of one node: its cells, in a later world. -/
theorem NAt.get {w w' : World} {A : Option Addr} {ns : List Nd} (h : NAt w A ns) (hb : Below w.heap.size w w') {k : Nat} (hk : k < ns.length) :
    ∃ b off, A = some ⟨b, off, none⟩ ∧ w'.cell? ⟨b, off + k * 3, none⟩ = some (.int .i64 ns[k].v) ∧ w'.cell? ⟨b, off + k * 3 + 1, none⟩ = some (.int .i64 ns[k].lo) ∧ w'.cell? ⟨b, off + k * 3 + 2, none⟩ = some (.int .i64 ns[k].hi) := by
  obtain ⟨b, off, rfl, hlt, hc⟩ := (h.below hb) (by omega)
  exact ⟨b, off, rfl, hc k ns[k] (List.getElem?_eq_getElem hk)⟩

/-- .. by its place. -/
theorem NAt.nd {w w' : World} {A : Option Addr} {ns : List Nd} (h : NAt w A ns) (hb : Below w.heap.size w w') {p : Int} (h1 : 1 < p) (h2 : p ≤ ns.length + 1) :
    ∃ b off, A = some ⟨b, off, none⟩ ∧ w'.cell? ⟨b, off + (p - 2).toNat * 3, none⟩ = some (.int .i64 (nd ns p).v) ∧ w'.cell? ⟨b, off + (p - 2).toNat * 3 + 1, none⟩ = some (.int .i64 (nd ns p).lo) ∧ w'.cell? ⟨b, off + (p - 2).toNat * 3 + 2, none⟩ = some (.int .i64 (nd ns p).hi) := by
  obtain ⟨b, off, rfl, hlt, hc⟩ := (h.below hb) (by omega)
  exact ⟨b, off, rfl, hc _ _ (nd_get h1 h2)⟩

theorem below_drewN {B : Nat} {a w : World} (h : Below B a w) (n : Nat) : Below B a (w.drewN n) := ⟨h.os, h.tape, h.output, h.size, h.block⟩

/-- After a contract that ends in 'Below': all old cells and marks read as before. -/
theorem bcell {W w1 : World} (hb : Below W.heap.size W w1) : (∀ b o, b < W.heap.size → w1.cell? ⟨b, o, none⟩ = W.cell? ⟨b, o, none⟩) ∧ (∀ b o, b < W.heap.size → w1.frozen? ⟨b, o, none⟩ = W.frozen? ⟨b, o, none⟩) :=
  ⟨fun b o h => hb.cell (p := ⟨b, o, none⟩) h, fun b o h => hb.frozen (p := ⟨b, o, none⟩) h⟩

theorem ret_int {k : IntKind} {a b : Int} (h : a = b) : Ending.returned (.int k a) = .returned (.int k b) := by rw [h]
theorem ret_bool {a b : Bool} (h : a = b) : Ending.returned (.bool a) = .returned (.bool b) := by rw [h]

theorem ofInt_i64 (a : Nat) (ha : a < 9223372036854775808) : (BitVec.ofInt 64 (a : Int)).toNat = a := by
  rw [BitVec.ofInt_natCast, BitVec.toNat_ofNat]; exact Nat.mod_eq_of_lt (by omega)
theorem i64_and_nat (a b : Nat) (ha : a < 9223372036854775808) (hb : b < 9223372036854775808) : bits .and .i64 (a : Int) (b : Int) = ((a &&& b : Nat) : Int) := by
  have hx : a &&& b < 2 ^ 63 := Nat.and_lt_two_pow _ (by omega)
  show IntKind.i64.wrap ((BitVec.ofInt 64 (a : Int) &&& BitVec.ofInt 64 (b : Int)).toNat : Int) = _
  rw [BitVec.toNat_and, ofInt_i64 a ha, ofInt_i64 b hb, IntKind.wrap_i64]
  omega

/-- 'code >> v & 1'. -/
theorem bit_at (c v : Nat) (hc : c < 9223372036854775808) : bits .and .i64 ((c : Int) / 2 ^ v) 1 = if c.testBit v then 1 else 0 := by
  have e : ((c : Int) / 2 ^ v) = ((c / 2 ^ v : Nat) : Int) := by simp
  have hle : c / 2 ^ v ≤ c := Nat.div_le_self _ _
  have := i64_and_nat (c / 2 ^ v) 1 (by omega) (by omega)
  rw [e, show (1 : Int) = ((1 : Nat) : Int) from rfl, this, Nat.and_one_is_mod, Nat.testBit_eq_decide_div_mod_eq]
  by_cases h : c / 2 ^ v % 2 = 1
  · simp [h]
  · simp [h]; omega
theorem bit_yes {c v : Nat} (hc : c < 9223372036854775808) (h : c.testBit v = true) : (bits .and .i64 ((c : Int) / 2 ^ v) 1 == 1) = true := by rw [bit_at c v hc, h]; rfl
theorem bit_no {c v : Nat} (hc : c < 9223372036854775808) (h : c.testBit v = false) : (bits .and .i64 ((c : Int) / 2 ^ v) 1 == 1) = false := by rw [bit_at c v hc, h]; rfl

/-- A call that answers whether p. -/
def Says (p : Prop) (e : Ending) : Prop := (e = .returned (.bool true) ∧ p) ∨ (e = .returned (.bool false) ∧ ¬ p)
theorem Says.yes {p : Prop} (h : p) : Says p (.returned (.bool true)) := .inl ⟨rfl, h⟩
theorem Says.no {p : Prop} (h : ¬ p) : Says p (.returned (.bool false)) := .inr ⟨rfl, h⟩
theorem Says.of {p : Prop} {b : Bool} (h : b = true ↔ p) : Says p (.returned (.bool b)) := by
  cases b
  · exact .no (fun hp => by simpa using h.2 hp)
  · exact .yes (h.1 rfl)

section
variable {P : Program} {f : FuncId} {args : Array Value} {w : World} {v : Value}
theorem quiet_left (h : Calls P f args w fun e w' => e = .returned v ∧ w = w') : Calls P f args w fun e w'' => e = .returned v ∧ ∃ m, w'' = w.drewN m :=
  h.mono fun _ _ ⟨he, hm⟩ => ⟨he, 0, hm.symm⟩
theorem quiet_leftN {n : Nat} (h : Calls P f args (w.drewN n) fun e w' => e = .returned v ∧ w.drewN n = w') : Calls P f args (w.drewN n) fun e w'' => e = .returned v ∧ ∃ m, w'' = w.drewN m :=
  h.mono fun _ _ ⟨he, hm⟩ => ⟨he, n, hm.symm⟩
theorem quiet_addL {a n : Nat} (h : Calls P f args (w.drewN (a + n)) fun e w' => e = .returned v ∧ w.drewN (a + n) = w') :
    Calls P f args (w.drewN (a + n)) fun e w'' => e = .returned v ∧ ∃ m, w'' = w.drewN (a + m) :=
  h.mono fun _ _ ⟨he, hm⟩ => ⟨he, n, hm.symm⟩
end
theorem wrap_eq {n : Int} (h0 : -9223372036854775808 ≤ n) (h1 : n ≤ 9223372036854775807) : IntKind.i64.wrap n = n := by rw [IntKind.wrap_i64]; omega
end Go.Proofs.Ytffefegjnbfobaa
