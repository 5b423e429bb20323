/- Bits set in a number: what the program and the reference reckon. -/
import Derived.Test.YtffefegjnbfobaaQ3
import Derived.Test.YtffefegjnbfobaaS2
namespace Go.Proofs.Ytffefegjnbfobaa
open Go.RowKit
open B

theorem bv_nat (a : Nat) (ha : a < 9223372036854775808) : (BitVec.ofInt 64 (a : Int)).toNat = a := ofInt_i64 a ha

theorem setb_lt {i c : Nat} (b : Bool) (hi : i ≤ 13) (hc : c < 16384) : setb i b c < 16384 := by
  unfold setb
  split
  · exact hc
  · refine Nat.xor_lt_two_pow (n := 14) hc ?_
    exact Nat.pow_lt_pow_right (by omega) (by omega)
theorem tb_high {a t : Nat} (ha : a < 9223372036854775808) (ht : 63 ≤ t) : a.testBit t = false :=
  Nat.testBit_lt_two_pow (Nat.lt_of_lt_of_le ha (by show 2 ^ 63 ≤ 2 ^ t; exact Nat.pow_le_pow_right (by omega) ht))

/-- 'c &^ (1 << i) | bit(yes) << i'. -/
theorem fix_bits (c i : Nat) (y : Bool) (hi : i ≤ 13) (hc : c < 16384) (p q : Int) (hp : p = ((2 ^ i : Nat) : Int)) (hq : q = ((if y then 2 ^ i else 0 : Nat) : Int)) :
    bits .or .i64 (bits .andNot .i64 (c : Int) p) q = (setb i y c : Int) := by
  have h2 : 2 ^ i ≤ 8192 := Nat.pow_le_pow_right (n := 2) (by omega) hi
  subst hp hq
  obtain ⟨d, hd⟩ : ∃ d, d = 2 ^ i := ⟨_, rfl⟩
  have e1 : bits .andNot .i64 (c : Int) ((2 ^ i : Nat) : Int) = (((BitVec.ofInt 64 (c : Int) &&& ~~~ BitVec.ofInt 64 ((2 ^ i : Nat) : Int)).toNat : Nat) : Int) := by
    show IntKind.i64.wrap ((BitVec.ofInt 64 (c : Int) &&& ~~~ BitVec.ofInt 64 ((2 ^ i : Nat) : Int)).toNat : Int) = _
    have : (BitVec.ofInt 64 (c : Int) &&& ~~~ BitVec.ofInt 64 ((2 ^ i : Nat) : Int)).toNat ≤ c := by
      rw [BitVec.toNat_and, bv_nat c (by omega)]; exact Nat.and_le_left
    rw [IntKind.wrap_i64]; omega
  rw [e1]
  obtain ⟨n, hn⟩ : ∃ n, n = (BitVec.ofInt 64 (c : Int) &&& ~~~ BitVec.ofInt 64 ((2 ^ i : Nat) : Int)).toNat := ⟨_, rfl⟩
  have hnc : n ≤ c := by rw [hn, BitVec.toNat_and, bv_nat c (by omega)]; exact Nat.and_le_left
  have hnb : ∀ t, n.testBit t = (c.testBit t && !(decide (i = t))) := by
    intro t
    rw [hn, BitVec.toNat_and, Nat.testBit_and, bv_nat c (by omega), BitVec.toNat_not, bv_nat _ (by omega)]
    by_cases ht : t < 64
    · rw [show 2 ^ 64 - 1 - 2 ^ i = 2 ^ 64 - (2 ^ i + 1) by omega, Nat.testBit_two_pow_sub_succ (by omega), Nat.testBit_two_pow]
      simp [ht]
    · rw [tb_high (a := c) (by omega) (by omega)]; simp
  rw [← hn]
  obtain ⟨m, hm⟩ : ∃ m : Nat, m = if y then 2 ^ i else 0 := ⟨_, rfl⟩
  have hm2 : m ≤ 8192 := by rw [hm]; split <;> omega
  rw [← hm]
  show IntKind.i64.wrap ((BitVec.ofInt 64 (n : Int) ||| BitVec.ofInt 64 (m : Int)).toNat : Int) = _
  rw [BitVec.toNat_or, bv_nat n (by omega), bv_nat m (by omega)]
  have e : n ||| m = setb i y c := by
    apply Nat.eq_of_testBit_eq
    intro t
    rw [Nat.testBit_or, hnb, setb_bit, hm]
    by_cases ht : t = i
    · subst ht
      cases y <;> simp
    · cases y <;> simp [ht, Ne.symm ht]
  rw [e]
  have := setb_lt y hi hc
  rw [IntKind.wrap_i64]; omega

theorem half (c : Nat) : ∃ (d : Nat) (b : Bool), c = 2 * d + b.toNat := by
  refine ⟨c / 2, decide (c % 2 = 1), ?_⟩
  by_cases h : c % 2 = 1
  · simp [h]; omega
  · simp [h]; omega
theorem xor_add : ∀ (i c : Nat), c.testBit i = false → c ^^^ 2 ^ i = c + 2 ^ i := by
  intro i
  induction i with
  | zero =>
    intro c h
    obtain ⟨d, b, rfl⟩ := half c
    rw [tb_cons, if_pos rfl] at h
    subst h
    have e : 2 * d + (false : Bool).toNat + 2 ^ 0 = 2 * d + (true : Bool).toNat := by simp
    rw [e]
    apply Nat.eq_of_testBit_eq
    intro t
    rw [Nat.testBit_xor, Nat.testBit_two_pow, tb_cons, tb_cons]
    by_cases ht : t = 0
    · subst ht; simp
    · have h0 : ¬ 0 = t := fun h => ht h.symm
      simp [ht, h0]
  | succ i ih =>
    intro c h
    obtain ⟨d, b, rfl⟩ := half c
    rw [tb_cons, if_neg (by omega)] at h
    have h' := ih d (by simpa using h)
    have e : 2 * d + b.toNat + 2 ^ (i + 1) = 2 * (d + 2 ^ i) + b.toNat := by rw [Nat.pow_succ]; omega
    rw [e, ← h']
    apply Nat.eq_of_testBit_eq
    intro t
    rw [Nat.testBit_xor, Nat.testBit_two_pow, tb_cons, tb_cons]
    by_cases ht : t = 0
    · subst ht; simp
    · rw [if_neg ht, if_neg ht, Nat.testBit_xor, Nat.testBit_two_pow]
      congr 1
      by_cases e : i + 1 = t
      · subst e; simp
      · simp [e, show ¬ i = t - 1 by omega]
theorem xor_sub {c i : Nat} (h : c.testBit i = true) : (c ^^^ 2 ^ i) + 2 ^ i = c := by
  have e : (c ^^^ 2 ^ i).testBit i = false := by rw [Nat.testBit_xor, Nat.testBit_two_pow]; simp [h]
  rw [← xor_add i _ e, Nat.xor_assoc, Nat.xor_self, Nat.xor_zero]

/-- 'k + (yes - bit) << i'. -/
theorem fix_sum (c i : Nat) (y b : Bool) (hb : c.testBit i = b) : (c : Int) + ((if y then 1 else 0 : Int) - (if b then 1 else 0)) * ((2 ^ i : Nat) : Int) = (setb i y c : Int) := by
  unfold setb
  rw [hb]
  cases y <;> cases b
  · simp
  · have h := xor_sub hb
    generalize 2 ^ i = p at *
    generalize c ^^^ p = q at *
    simp; omega
  · have h := xor_add i c hb
    generalize 2 ^ i = p at *
    generalize c ^^^ p = q at *
    simp; omega
  · simp
theorem fix_go (c i : Nat) (y : Bool) (hi : i ≤ 13) (hc : c < 16384) :
    IntKind.i64.wrap ((c : Int) + IntKind.i64.wrap (IntKind.i64.wrap (b2i y - b2i (c.testBit i)) * 2 ^ min (IntKind.u64.wrap (i : Int)).toNat 64)) = (setb i y c : Int) := by
  have e0 : (IntKind.u64.wrap (i : Int)).toNat = i := by
    rw [IntKind.wrap_u64]; omega
  rw [e0, Nat.min_eq_left (by omega)]
  have h2 : 2 ^ i ≤ 8192 := Nat.pow_le_pow_right (n := 2) (by omega) hi
  have hs := fix_sum c i y _ rfl
  have hl := setb_lt y hi hc
  have e2 : ((2 : Int) ^ i) = ((2 ^ i : Nat) : Int) := by simp
  rw [e2]
  change (c : Int) + (b2i y - b2i (c.testBit i)) * ((2 ^ i : Nat) : Int) = _ at hs
  generalize setb i y c = z at *
  generalize 2 ^ i = p at *
  have hy := b2i_bd y
  have hb := b2i_bd (c.testBit i)
  generalize b2i y = Y at *
  generalize b2i (c.testBit i) = X at *
  rcases (show Y = 0 ∨ Y = 1 by omega) with rfl | rfl <;> rcases (show X = 0 ∨ X = 1 by omega) with rfl | rfl <;> simp only [IntKind.wrap_i64] <;> simp at hs ⊢ <;> omega
end Go.Proofs.Ytffefegjnbfobaa
