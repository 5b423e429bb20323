/- The two sides of Not, And, Or are one. -/
import Derived.Test.YtfcolcemfdnkeaaT2
import Derived.Test.YtfcolcemfdnkeaaQ5
import Derived.Deep.RegionHeld3
namespace Go.Proofs.Ytfcolcemfdnkeaa
open Go.RowKit
open B

theorem conv_not (V0 R0 : Int) (ns0 : List Nd) {V' R' : Int} {ms : List Nd} {b : Bool} (h : MkV (OkS V0 ns0 R0) V0 (mk V0.toNat 0 (fun c => !has ns0 R0 c) []) V' R' ms b) :
    MkV (OkI V0 ns0 R0) V0 (mk V0.toNat 0 (fun c => !has ns0 R0 c) []) V' R' ms b := MkV.conv h (by rw [okS_iff]) fun _ => rfl

/-- What the reference hands back of two diagrams. -/
def twoS (op : Bool → Bool → Bool) (V0 R0 : Int) (ns0 : List Nd) (V1 R1 : Int) (ns1 : List Nd) (V' R' : Int) (ms : List Nd) (b : Bool) : Prop :=
  MkV (OkS V0 ns0 R0 ∧ OkS V1 ns1 R1 ∧ V0 = V1) V0 (mk V0.toNat 0 (fun c => op (has ns0 R0 c) (has ns1 R1 c)) []) V' R' ms b
theorem conv_two (op : Bool → Bool → Bool) (V0 R0 : Int) (ns0 : List Nd) (V1 R1 : Int) (ns1 : List Nd) {V' R' : Int} {ms : List Nd} {b : Bool} (h : twoS op V0 R0 ns0 V1 R1 ns1 V' R' ms b) :
    MkV (OkI V0 ns0 R0 ∧ OkI V1 ns1 R1 ∧ V0 = V1) V0 (mk V0.toNat 0 (fun c => op (has ns0 R0 c) (has ns1 R1 c)) []) V' R' ms b :=
  MkV.conv h (by rw [okS_iff, okS_iff]) fun _ => rfl
end Go.Proofs.Ytfcolcemfdnkeaa
