/- The two sides of Xor are one. -/
import Derived.Test.YtfcolcemfdnkeaaT4
import Derived.Test.YtfcolcemfdnkeaaQ6
namespace Go.Proofs.Ytfcolcemfdnkeaa
open Go.RowKit
open B

def xorS := twoS (fun x y => x != y)
theorem conv_xor (V0 R0 : Int) (ns0 : List Nd) (V1 R1 : Int) (ns1 : List Nd) {V' R' : Int} {ms : List Nd} {b : Bool} (h : xorS V0 R0 ns0 V1 R1 ns1 V' R' ms b) :
    MkV (OkI V0 ns0 R0 ∧ OkI V1 ns1 R1 ∧ V0 = V1) V0 (mk V0.toNat 0 (fun c => has ns0 R0 c != has ns1 R1 c) []) V' R' ms b := conv_two (fun x y => x != y) _ _ _ _ _ _ h
def andS := twoS (fun x y => x && y)
theorem conv_and (V0 R0 : Int) (ns0 : List Nd) (V1 R1 : Int) (ns1 : List Nd) {V' R' : Int} {ms : List Nd} {b : Bool} (h : andS V0 R0 ns0 V1 R1 ns1 V' R' ms b) :
    MkV (OkI V0 ns0 R0 ∧ OkI V1 ns1 R1 ∧ V0 = V1) V0 (mk V0.toNat 0 (fun c => has ns0 R0 c && has ns1 R1 c) []) V' R' ms b := conv_two (fun x y => x && y) _ _ _ _ _ _ h
def orS := twoS (fun x y => x || y)
theorem conv_or (V0 R0 : Int) (ns0 : List Nd) (V1 R1 : Int) (ns1 : List Nd) {V' R' : Int} {ms : List Nd} {b : Bool} (h : orS V0 R0 ns0 V1 R1 ns1 V' R' ms b) :
    MkV (OkI V0 ns0 R0 ∧ OkI V1 ns1 R1 ∧ V0 = V1) V0 (mk V0.toNat 0 (fun c => has ns0 R0 c || has ns1 R1 c) []) V' R' ms b := conv_two (fun x y => x || y) _ _ _ _ _ _ h
end Go.Proofs.Ytfcolcemfdnkeaa
