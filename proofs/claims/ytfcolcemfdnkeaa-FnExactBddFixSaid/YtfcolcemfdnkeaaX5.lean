/- The two sides of Fix are one. -/
import Derived.Test.YtfcolcemfdnkeaaT2
import Derived.Test.YtfcolcemfdnkeaaX3
import Derived.Test.YtfcolcemfdnkeaaX4
namespace Go.Proofs.Ytfcolcemfdnkeaa
open Go.RowKit
open B

theorem conv_fix (V0 R0 : Int) (ns0 : List Nd) (x1 : Int) (b2 : Bool) {V' R' : Int} {ms : List Nd} {b : Bool} (h : MkV (OkS V0 ns0 R0 ∧ 0 ≤ x1 ∧ x1 ≤ V0 - 1) V0 (mk V0.toNat 0 (fun c => has ns0 R0 (setb x1.toNat b2 c)) []) V' R' ms b) :
    MkV (OkI V0 ns0 R0 ∧ 0 ≤ x1 ∧ x1 ≤ V0 - 1) V0 (mk V0.toNat 0 (fun c => has ns0 R0 (setb x1.toNat b2 c)) []) V' R' ms b := MkV.conv h (by rw [okS_iff]) fun _ => rfl
end Go.Proofs.Ytfcolcemfdnkeaa
