/- What BddSome asks: one of a bit's values. -/
import Derived.Test.YtffefegjnbfobaaX1
namespace Go.Proofs.Ytffefegjnbfobaa
open Go.RowKit
open B

theorem some_eq (h : Nat → Bool) (i c : Nat) : (h c || h (c ^^^ 2 ^ i)) = (h (setb i false c) || h (setb i true c)) := by
  unfold setb
  cases hb : c.testBit i
  · simp
  · simp [Bool.or_comm]

/-- One of a bit's values is in the set. -/
def someF (ns : List Nd) (R : Int) (i c : Nat) : Bool := has ns R c || has ns R (c ^^^ 2 ^ i)

theorem xor_lt14 {c i : Nat} (hi : i ≤ 13) (hc : c < 16384) : c ^^^ 2 ^ i < 16384 := Nat.xor_lt_two_pow (n := 14) hc (Nat.pow_lt_pow_right (by omega) (by omega))
theorem xor_bits (c i : Nat) (hi : i ≤ 13) (hc : c < 16384) (p : Int) (hp : p = ((2 ^ i : Nat) : Int)) : bits .xor .i64 (c : Int) p = ((c ^^^ 2 ^ i : Nat) : Int) := by
  have h2 : 2 ^ i ≤ 8192 := Nat.pow_le_pow_right (n := 2) (by omega) hi
  subst hp
  show IntKind.i64.wrap ((BitVec.ofInt 64 (c : Int) ^^^ BitVec.ofInt 64 ((2 ^ i : Nat) : Int)).toNat : Int) = _
  rw [BitVec.toNat_xor, bv_nat c (by omega), bv_nat _ (by omega)]
  have hl := xor_lt14 hi hc
  rw [IntKind.wrap_i64]; omega

/-- What Fix hands back where the diagram is ok and the bit is there. -/
theorem fix_yes {V0 R0 x1 : Int} {ns0 : List Nd} {b2 : Bool} (hp : OkS V0 ns0 R0 ∧ 0 ≤ x1 ∧ x1 ≤ V0 - 1) {V' R' : Int} {ms : List Nd} {b : Bool}
    (h : MkV (OkS V0 ns0 R0 ∧ 0 ≤ x1 ∧ x1 ≤ V0 - 1) V0 (mk V0.toNat 0 (fun c => has ns0 R0 (setb x1.toNat b2 c)) []) V' R' ms b) :
    true = b ∧ V0 = V' ∧ OkS V0 ms R' ∧ ∀ c, c < 2 ^ V0.toNat → has ms R' c = has ns0 R0 (setb x1.toNat b2 c) := by
  obtain ⟨k, rfl, hk, hf, hR⟩ := OkS.nat hp.1
  have hl := fix_len hf hR x1.toNat b2
  have h6 : ns0.length ≤ 600 := hp.1.1.len
  have hkk : ((k : Nat) : Int).toNat = k := by omega
  rw [hkk] at h ⊢
  rcases h with ⟨_, hl', rfl, rfl, rfl, rfl⟩ | ⟨hn, _⟩
  · have hm := mk_ok hk hl'
    exact ⟨rfl, rfl, (okS_iff _ _ _).2 hm.1, hm.2⟩
  · exact (hn ⟨hp, by omega⟩).elim
end Go.Proofs.Ytffefegjnbfobaa
