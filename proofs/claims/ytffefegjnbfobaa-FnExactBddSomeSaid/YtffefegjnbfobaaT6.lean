/- The two sides of Some are one. -/
import Derived.Test.YtffefegjnbfobaaT2
import Derived.Test.YtffefegjnbfobaaX7
import Derived.Test.YtffefegjnbfobaaX8
namespace Go.Proofs.Ytffefegjnbfobaa
open Go.RowKit
open B

theorem conv_some (V0 R0 : Int) (ns0 : List Nd) (x1 : Int) {V' R' : Int} {ms : List Nd} {b : Bool} (h : MkV (OkS V0 ns0 R0 ∧ 0 ≤ x1 ∧ x1 ≤ V0 - 1) V0 (mk V0.toNat 0 (someF ns0 R0 x1.toNat) []) V' R' ms b) :
    MkV (OkI V0 ns0 R0 ∧ 0 ≤ x1 ∧ x1 ≤ V0 - 1) V0 (mk V0.toNat 0 (someF ns0 R0 x1.toNat) []) V' R' ms b := MkV.conv h (by rw [okS_iff]) fun _ => rfl
end Go.Proofs.Ytffefegjnbfobaa
