/- Helpers of the laws: ldByte; calls whose answer is known. -/
import Derived.Test.YtffefegjnbfobaaH
import Derived.Test.YtffefegjnbfobaaN
import Derived.Test.YtffefegjnbfobaaVI
namespace Go.Proofs.Ytffefegjnbfobaa
open Go.RowKit
open B

set_option maxRecDepth 100000 in
theorem byte_any (A : Option Addr) (n cap i : Nat) (w : World) (hA : BAt w A n) (hn : n ≤ 9223372036854775807) (hi : i ≤ 1000) :
    Calls Try.prog 26 #[.slice A n cap, .int .i64 (i : Int)] w fun e w' => In 0 255 e ∧ w = w' := by
  by_cases h : i < n
  · obtain ⟨b, off, rfl, hlt, f, hj⟩ := hA (by omega)
    obtain ⟨c0, c1, c2⟩ := hj i h
    clear hA hj
    go_enter Try.func26, Try.ntmps26
    go_wp2_with fail
    go_ret
    exact ⟨⟨_, rfl, c1, c2⟩, rfl⟩
  · clear hA
    go_enter Try.func26, Try.ntmps26
    go_wp2_with fail
    go_ret
    exact ⟨⟨_, rfl, by omega, by omega⟩, rfl⟩

theorem pow13 {k : Nat} (h : k ≤ 13) : 2 ^ k ≤ 8192 := Nat.pow_le_pow_right (n := 2) (j := 13) (by omega) h
theorem ok_t {V R : Int} {ns : List Nd} (A : Option Addr) (cap : Nat) (w : World) (h : OkI V ns R) (hA : NAt w A ns) (hn : ns.length ≤ 1048576) :
    Calls Try.prog 32 #[.agg #[.int .i64 V, .slice A ns.length cap, .int .i64 R]] w fun e w' => e = .returned (.bool true) ∧ Below w.heap.size w w' :=
  (bddOk_any V R A cap ns w hA hn).mono fun _ _ h' => ⟨h'.1.t h, h'.2⟩
theorem eval_b {V R : Int} {ns : List Nd} (x : Int) (c : Nat) (b : Bool) (A : Option Addr) (cap : Nat) (w : World) (h : OkI V ns R) (hx : x = (c : Int)) (hc : c < 2 ^ V.toNat) (hb : has ns R c = b) (hA : NAt w A ns) (hn : ns.length ≤ 1048576) :
    Calls Try.prog 18 #[.agg #[.int .i64 V, .slice A ns.length cap, .int .i64 R], .int .i64 x] w fun e w' => e = .returned (.bool b) ∧ Below w.heap.size w w' := by
  subst hx
  refine (implEval_any V R c A cap ns w hA hn).mono fun _ _ h' => ⟨?_, h'.2⟩
  have hr : 0 ≤ (c : Int) ∧ (c : Int) ≤ 2 ^ V.toNat - 1 := by
    have : ((2 : Int) ^ V.toNat) = ((2 ^ V.toNat : Nat) : Int) := by simp
    rw [this]; omega
  cases b with
  | true => exact h'.1.t ⟨h, hr, by simpa using hb⟩
  | false => exact h'.1.f fun q => by rw [show ((c : Nat) : Int).toNat = c by omega, hb] at q; exact absurd q.2.2 (by simp)
theorem count_t {V R : Int} {ns : List Nd} (x : Int) (A : Option Addr) (cap : Nat) (w : World) (h : OkI V ns R) (hx : ((codesF (has ns R) (2 ^ V.toNat)).length : Int) = x) (hA : NAt w A ns) (hn : ns.length ≤ 1048576) :
    Calls Try.prog 17 #[.agg #[.int .i64 V, .slice A ns.length cap, .int .i64 R]] w fun e w' => e = .returned (.int .i64 x) ∧ Below w.heap.size w w' := by
  subst hx
  exact (implCount_any V R A cap ns w hA hn).mono fun _ _ h' => ⟨by rcases h'.1 with h1 | h1; exact h1.2; exact (h1.1 h).elim, h'.2⟩

/-- What ldByte answers. -/
def bv (f : Nat → Int) (n i : Nat) : Int := if i < n then f i else (i : Int) * 37 % 251
set_option maxRecDepth 100000 in
theorem byte_is (f : Nat → Int) (A : Option Addr) (n cap i : Nat) (w : World) (hA : BAtF w A n f) (hn : n ≤ 9223372036854775807) (hi : i ≤ 1000) :
    Calls Try.prog 26 #[.slice A n cap, .int .i64 (i : Int)] w fun e w' => e = .returned (.int .i64 (bv f n i)) ∧ w = w' := by
  unfold bv
  by_cases h : i < n
  · rw [if_pos h]
    obtain ⟨b, off, rfl, hlt, hj⟩ := hA (by omega)
    obtain ⟨c0, c1, c2⟩ := hj i h
    clear hA hj
    go_enter Try.func26, Try.ntmps26
    go_wp2_with fail
    go_ret
    exact ⟨rfl, rfl⟩
  · rw [if_neg h]
    clear hA
    go_enter Try.func26, Try.ntmps26
    go_wp2_with fail
    go_ret
    exact ⟨rfl, rfl⟩
theorem byte_v (v : Int) (f : Nat → Int) (A : Option Addr) (n cap i : Nat) (w : World) (hA : BAtF w A n f) (hn : n ≤ 9223372036854775807) (hi : i ≤ 1000) (hv : v = bv f n i) :
    Calls Try.prog 26 #[.slice A n cap, .int .i64 (i : Int)] w fun e w' => e = .returned (.int .i64 v) ∧ w = w' := by
  subst hv; exact byte_is f A n cap i w hA hn hi
theorem bv_bd {w : World} {A : Option Addr} {n : Nat} {f : Nat → Int} (h : BAtF w A n f) (i : Nat) : 0 ≤ bv f n i ∧ bv f n i ≤ 255 := by
  unfold bv
  split
  · obtain ⟨b, off, rfl, hlt, hj⟩ := h (by omega)
    exact (hj i (by assumption)).2
  · omega

end Go.Proofs.Ytffefegjnbfobaa
