/- The reader of draws: words, walked. -/
import Derived.Test.YtffefegjnbfobaaH6
namespace Go.Proofs.Ytffefegjnbfobaa
open Go.RowKit
open B

/-- A diagram that was drawn: any; and a number. -/
def AnyDI (a b : Int) (B : Nat) (w' : World) (e : Ending) : Prop :=
  ∃ (V R : Int) (ms : List Nd) (A : Option Addr) (c : Nat) (i : Int), e = .returned (.tuple #[.agg #[.int .i64 V, .slice A ms.length c, .int .i64 R], .int .i64 i]) ∧ -1 ≤ V ∧ V ≤ 16 ∧ ms.length ≤ 601 ∧ a ≤ i ∧ i ≤ b ∧ w'.ownsRow B 89 3 (.slice A ms.length c) ms.length (ncells ms)
end Go.Proofs.Ytffefegjnbfobaa
