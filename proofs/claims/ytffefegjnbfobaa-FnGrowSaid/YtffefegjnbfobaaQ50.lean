/- Words for Not, And, Or of the reference. -/
import Derived.Test.YtffefegjnbfobaaQ4
namespace Go.Proofs.Ytffefegjnbfobaa
open Go.RowKit
open B

theorem nat_nil (w : World) (A : Option Addr) : NAt w A [] := fun h => absurd h (by simp)
theorem b2i_if (b : Bool) : b2i b = if b then 1 else 0 := rfl
theorem has_b2i (b : Bool) (c : Nat) : has [] (b2i b) c = b := has_const b c
theorem okS_const {V : Int} (h : 0 ≤ V ∧ V ≤ 13) (b : Bool) : OkS V [] (b2i b) := const_ok h.1 h.2 b
end Go.Proofs.Ytffefegjnbfobaa
