/- The two sides of If are one. -/
import Derived.Test.YtfcolcemfdnkeaaT2
import Derived.Test.YtfcolcemfdnkeaaQ4
import Derived.Deep.RegionHeld3
namespace Go.Proofs.Ytfcolcemfdnkeaa
open Go.RowKit
open B

/-- What the reference's If hands back. -/
def ifS (V0 R0 : Int) (ns0 : List Nd) (V1 R1 : Int) (ns1 : List Nd) (V2 R2 : Int) (ns2 : List Nd) (V' R' : Int) (ms : List Nd) (b : Bool) : Prop := MkV (OkS V0 ns0 R0 ∧ OkS V1 ns1 R1 ∧ OkS V2 ns2 R2 ∧ V1 = V0 ∧ V2 = V0) V0 (mk V0.toNat 0 (ifF ns0 R0 ns1 R1 ns2 R2) []) V' R' ms b
theorem conv_if (V0 R0 : Int) (ns0 : List Nd) (V1 R1 : Int) (ns1 : List Nd) (V2 R2 : Int) (ns2 : List Nd) {V' R' : Int} {ms : List Nd} {b : Bool} (h : ifS V0 R0 ns0 V1 R1 ns1 V2 R2 ns2 V' R' ms b) :
    MkV (OkI V0 ns0 R0 ∧ OkI V1 ns1 R1 ∧ OkI V2 ns2 R2 ∧ V1 = V0 ∧ V2 = V0) V0 (mk V0.toNat 0 (ifF ns0 R0 ns1 R1 ns2 R2) []) V' R' ms b :=
  MkV.conv h (by rw [okS_iff, okS_iff, okS_iff]) fun _ => rfl
end Go.Proofs.Ytfcolcemfdnkeaa
