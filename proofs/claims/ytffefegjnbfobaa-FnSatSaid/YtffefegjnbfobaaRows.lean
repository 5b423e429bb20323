/-
  No cell of these rows narrows 'for every input' (looked for: loops, veiled, ifaces, maps, wideKeys, modest, calm, conditions, laid).
  DERIVED. THE GIVEN ROWS OF THIS SEAT. 9 by the template 'for every input the law returns true; each argument reads behind the call as it read before'; 0 by the template 'total and deterministic' (their statements: YtffefegjnbfobaaTotals.lean).
  GIVEN WITH THE SEED: the statements are not yours to turn. If you find one false, say at which input.
  Laid BY PROGRAM, IN A SANDBOX (cutbox-rows.mjs): the forced cells as the released guide's own fill.sh prints them over the translation 4ed7c9e60837b472… (all of the seat's roots in one cut). By AI agents, Wed Nov 11 2026. No macro, syntax, notation, axiom, sorry.
-/
import Derived.Test.YtffefegjnbfobaaChecked
import GoSem.Claim
import GoSem.ClaimJoined
import GoSem.ClaimMapViews
import Derived.JoinedTies
import Derived.KernelRfl
namespace Go.Proofs.Ytffefegjnbfobaa
/- THE CELL 'sum', in the pinned program and in every row, IS THE sha256 OF THE DUMP (.gsa) THAT YtffefegjnbfobaaProg.lean LOADS. Nothing in Lean hashes anything: it is a label: what it is worth is what the hold of that sum in a sandbox is worth. -/
noncomputable def Try.pinned : Pinned := { name := "ytffefegjnbfobaa", sum := "4ed7c9e60837b4720923f0adc09d8767645fad10fc9f645d9d1badc97f84da58", checked := Try.checked }
namespace Rows
def none {H : Type} : Left H := { results := [], args := [] }

/-- 'laws.FnNumbers': WHATEVER THE INPUT: true; the input reads as it did. -/
def fnNumbersSpec : ChangeSpec := { name := "fnNumbers", fn := fun _ => fun
  | [d] => { results := [.lit (.bool true)], args := [d] }
  | _ => none }
def fnNumbersRow : OpenClaim := { program := "ytffefegjnbfobaa", sum := "4ed7c9e60837b4720923f0adc09d8767645fad10fc9f645d9d1badc97f84da58", func := "loop.example/leadline/laws.FnNumbers", spec := "fnNumbers", unfollowed := true, recurses := true, plainKeys := false, apart := false }
def FnNumbersSaid : Prop := fnNumbersRow.holds Try.pinned (OpenSpec.ofChange fnNumbersSpec)

/-- ITS FALSE NEIGHBOUR: 'it returns false'. Refute it at one input. -/
def fnNumbersWrong : ChangeSpec := { name := "fnNumbers", fn := fun _ => fun
  | [d] => { results := [.lit (.bool false)], args := [d] }
  | _ => none }
def FnNumbersWrongFalsely : Prop := fnNumbersRow.holds Try.pinned (OpenSpec.ofChange fnNumbersWrong)

/-- 'laws.FnSat': WHATEVER THE INPUT: true; the input reads as it did. -/
def fnSatSpec : ChangeSpec := { name := "fnSat", fn := fun _ => fun
  | [d] => { results := [.lit (.bool true)], args := [d] }
  | _ => none }
def fnSatRow : OpenClaim := { program := "ytffefegjnbfobaa", sum := "4ed7c9e60837b4720923f0adc09d8767645fad10fc9f645d9d1badc97f84da58", func := "loop.example/leadline/laws.FnSat", spec := "fnSat", unfollowed := true, recurses := true, plainKeys := false, apart := false }
def FnSatSaid : Prop := fnSatRow.holds Try.pinned (OpenSpec.ofChange fnSatSpec)

/-- ITS FALSE NEIGHBOUR: 'it returns false'. Refute it at one input. -/
def fnSatWrong : ChangeSpec := { name := "fnSat", fn := fun _ => fun
  | [d] => { results := [.lit (.bool false)], args := [d] }
  | _ => none }
def FnSatWrongFalsely : Prop := fnSatRow.holds Try.pinned (OpenSpec.ofChange fnSatWrong)

/-- 'laws.FnDiagrams': WHATEVER THE INPUT: true; the input reads as it did. -/
def fnDiagramsSpec : ChangeSpec := { name := "fnDiagrams", fn := fun _ => fun
  | [d1, d2] => { results := [.lit (.bool true)], args := [d1, d2] }
  | _ => none }
def fnDiagramsRow : OpenClaim := { program := "ytffefegjnbfobaa", sum := "4ed7c9e60837b4720923f0adc09d8767645fad10fc9f645d9d1badc97f84da58", func := "loop.example/leadline/laws.FnDiagrams", spec := "fnDiagrams", unfollowed := true, recurses := true, plainKeys := false, apart := false }
def FnDiagramsSaid : Prop := fnDiagramsRow.holds Try.pinned (OpenSpec.ofChange fnDiagramsSpec)

/-- ITS FALSE NEIGHBOUR: 'it returns false'. Refute it at one input. -/
def fnDiagramsWrong : ChangeSpec := { name := "fnDiagrams", fn := fun _ => fun
  | [d1, d2] => { results := [.lit (.bool false)], args := [d1, d2] }
  | _ => none }
def FnDiagramsWrongFalsely : Prop := fnDiagramsRow.holds Try.pinned (OpenSpec.ofChange fnDiagramsWrong)

/-- 'laws.FnGrow': WHATEVER THE INPUT: true; the input reads as it did. -/
def fnGrowSpec : ChangeSpec := { name := "fnGrow", fn := fun _ => fun
  | [d] => { results := [.lit (.bool true)], args := [d] }
  | _ => none }
def fnGrowRow : OpenClaim := { program := "ytffefegjnbfobaa", sum := "4ed7c9e60837b4720923f0adc09d8767645fad10fc9f645d9d1badc97f84da58", func := "loop.example/leadline/laws.FnGrow", spec := "fnGrow", unfollowed := true, recurses := true, plainKeys := false, apart := false }
def FnGrowSaid : Prop := fnGrowRow.holds Try.pinned (OpenSpec.ofChange fnGrowSpec)

/-- ITS FALSE NEIGHBOUR: 'it returns false'. Refute it at one input. -/
def fnGrowWrong : ChangeSpec := { name := "fnGrow", fn := fun _ => fun
  | [d] => { results := [.lit (.bool false)], args := [d] }
  | _ => none }
def FnGrowWrongFalsely : Prop := fnGrowRow.holds Try.pinned (OpenSpec.ofChange fnGrowWrong)

/-- 'laws.FnPick': WHATEVER THE INPUT: true; the input reads as it did. -/
def fnPickSpec : ChangeSpec := { name := "fnPick", fn := fun _ => fun
  | [d1, d2] => { results := [.lit (.bool true)], args := [d1, d2] }
  | _ => none }
def fnPickRow : OpenClaim := { program := "ytffefegjnbfobaa", sum := "4ed7c9e60837b4720923f0adc09d8767645fad10fc9f645d9d1badc97f84da58", func := "loop.example/leadline/laws.FnPick", spec := "fnPick", unfollowed := true, recurses := true, plainKeys := false, apart := false }
def FnPickSaid : Prop := fnPickRow.holds Try.pinned (OpenSpec.ofChange fnPickSpec)

/-- ITS FALSE NEIGHBOUR: 'it returns false'. Refute it at one input. -/
def fnPickWrong : ChangeSpec := { name := "fnPick", fn := fun _ => fun
  | [d1, d2] => { results := [.lit (.bool false)], args := [d1, d2] }
  | _ => none }
def FnPickWrongFalsely : Prop := fnPickRow.holds Try.pinned (OpenSpec.ofChange fnPickWrong)

/-- 'laws.FnExactBddSome': WHATEVER THE INPUT: true; the input reads as it did. -/
def fnExactBddSomeSpec : ChangeSpec := { name := "fnExactBddSome", fn := fun _ => fun
  | [d1, d2] => { results := [.lit (.bool true)], args := [d1, d2] }
  | _ => none }
def fnExactBddSomeRow : OpenClaim := { program := "ytffefegjnbfobaa", sum := "4ed7c9e60837b4720923f0adc09d8767645fad10fc9f645d9d1badc97f84da58", func := "loop.example/leadline/laws.FnExactBddSome", spec := "fnExactBddSome", unfollowed := true, recurses := true, plainKeys := false, apart := false }
def FnExactBddSomeSaid : Prop := fnExactBddSomeRow.holds Try.pinned (OpenSpec.ofChange fnExactBddSomeSpec)

/-- ITS FALSE NEIGHBOUR: 'it returns false'. Refute it at one input. -/
def fnExactBddSomeWrong : ChangeSpec := { name := "fnExactBddSome", fn := fun _ => fun
  | [d1, d2] => { results := [.lit (.bool false)], args := [d1, d2] }
  | _ => none }
def FnExactBddSomeWrongFalsely : Prop := fnExactBddSomeRow.holds Try.pinned (OpenSpec.ofChange fnExactBddSomeWrong)

/-- 'laws.FnExactCnfOf': WHATEVER THE INPUT: true; the input reads as it did. -/
def fnExactCnfOfSpec : ChangeSpec := { name := "fnExactCnfOf", fn := fun _ => fun
  | [d] => { results := [.lit (.bool true)], args := [d] }
  | _ => none }
def fnExactCnfOfRow : OpenClaim := { program := "ytffefegjnbfobaa", sum := "4ed7c9e60837b4720923f0adc09d8767645fad10fc9f645d9d1badc97f84da58", func := "loop.example/leadline/laws.FnExactCnfOf", spec := "fnExactCnfOf", unfollowed := true, recurses := true, plainKeys := false, apart := false }
def FnExactCnfOfSaid : Prop := fnExactCnfOfRow.holds Try.pinned (OpenSpec.ofChange fnExactCnfOfSpec)

/-- ITS FALSE NEIGHBOUR: 'it returns false'. Refute it at one input. -/
def fnExactCnfOfWrong : ChangeSpec := { name := "fnExactCnfOf", fn := fun _ => fun
  | [d] => { results := [.lit (.bool false)], args := [d] }
  | _ => none }
def FnExactCnfOfWrongFalsely : Prop := fnExactCnfOfRow.holds Try.pinned (OpenSpec.ofChange fnExactCnfOfWrong)

/-- 'laws.FnQuantify': WHATEVER THE INPUT: true; the input reads as it did. -/
def fnQuantifySpec : ChangeSpec := { name := "fnQuantify", fn := fun _ => fun
  | [d] => { results := [.lit (.bool true)], args := [d] }
  | _ => none }
def fnQuantifyRow : OpenClaim := { program := "ytffefegjnbfobaa", sum := "4ed7c9e60837b4720923f0adc09d8767645fad10fc9f645d9d1badc97f84da58", func := "loop.example/leadline/laws.FnQuantify", spec := "fnQuantify", unfollowed := true, recurses := true, plainKeys := false, apart := false }
def FnQuantifySaid : Prop := fnQuantifyRow.holds Try.pinned (OpenSpec.ofChange fnQuantifySpec)

/-- ITS FALSE NEIGHBOUR: 'it returns false'. Refute it at one input. -/
def fnQuantifyWrong : ChangeSpec := { name := "fnQuantify", fn := fun _ => fun
  | [d] => { results := [.lit (.bool false)], args := [d] }
  | _ => none }
def FnQuantifyWrongFalsely : Prop := fnQuantifyRow.holds Try.pinned (OpenSpec.ofChange fnQuantifyWrong)

/-- 'laws.FnClauses': WHATEVER THE INPUT: true; the input reads as it did. -/
def fnClausesSpec : ChangeSpec := { name := "fnClauses", fn := fun _ => fun
  | [d] => { results := [.lit (.bool true)], args := [d] }
  | _ => none }
def fnClausesRow : OpenClaim := { program := "ytffefegjnbfobaa", sum := "4ed7c9e60837b4720923f0adc09d8767645fad10fc9f645d9d1badc97f84da58", func := "loop.example/leadline/laws.FnClauses", spec := "fnClauses", unfollowed := true, recurses := true, plainKeys := false, apart := false }
def FnClausesSaid : Prop := fnClausesRow.holds Try.pinned (OpenSpec.ofChange fnClausesSpec)

/-- ITS FALSE NEIGHBOUR: 'it returns false'. Refute it at one input. -/
def fnClausesWrong : ChangeSpec := { name := "fnClauses", fn := fun _ => fun
  | [d] => { results := [.lit (.bool false)], args := [d] }
  | _ => none }
def FnClausesWrongFalsely : Prop := fnClausesRow.holds Try.pinned (OpenSpec.ofChange fnClausesWrong)

/- THE SECOND FORM. 'bulk': how many values and letters a reading holds, each counted each time it is reached (what is shared counts as often as it is met; a slice's spare places count too). A statement '..UptoSaid' is the law's where the arguments, and the package variables that the reading takes, are together of bulk at most 1048576: NARROWER than '..Said'. Prove '..Said' where nothing that the law and all that it calls make is longer than what came in: it says more and counts as full. Else prove '..UptoSaid'. A law counts once. -/
mutual
def uptoBulk {H : Type} : DataW H → Nat
  | .lit (.string bytes) => bytes.length + 1
  | .lit _ => 1
  | .nil => 1
  | .ptr d => uptoBulk d + 1
  | .slice elems spare => uptoBulkAll elems + uptoBulkAll spare + 1
  | .agg parts => uptoBulkAll parts + 1
  | .iface _ d => uptoBulk d + 1
  | .map entries => uptoBulkEntries entries + 1
  | .held _ => 1
def uptoBulkAll {H : Type} : List (DataW H) → Nat
  | [] => 0
  | d :: r => uptoBulk d + uptoBulkAll r
def uptoBulkEntries {H : Type} : List (Lit × DataW H) → Nat
  | [] => 0
  | x :: r => uptoBulkEntry x + uptoBulkEntries r
def uptoBulkEntry {H : Type} : Lit × DataW H → Nat
  | (.string bytes, d) => bytes.length + uptoBulk d + 1
  | (_, d) => uptoBulk d + 1
 end
def uptoSmall : (H : Type) → List (DataW H) → Bool := fun _ ds => decide (uptoBulkAll ds ≤ 1048576)
def OpenSpec.upto (s : _root_.Go.ChangeSpec) : _root_.Go.OpenSpec := { _root_.Go.OpenSpec.ofChange s with cond := some uptoSmall }

/-- 'laws.FnNumbers', WHERE WHAT IT READS IS OF BULK AT MOST 1048576: true; the input reads as it did. -/
def fnNumbersUptoRow : OpenClaim := { program := "ytffefegjnbfobaa", sum := "4ed7c9e60837b4720923f0adc09d8767645fad10fc9f645d9d1badc97f84da58", func := "loop.example/leadline/laws.FnNumbers", spec := "fnNumbers", unfollowed := true, recurses := true, plainKeys := false, apart := false, narrowed := true }
def FnNumbersUptoSaid : Prop := fnNumbersUptoRow.holds Try.pinned (OpenSpec.upto fnNumbersSpec)

/-- 'laws.FnSat', WHERE WHAT IT READS IS OF BULK AT MOST 1048576: true; the input reads as it did. -/
def fnSatUptoRow : OpenClaim := { program := "ytffefegjnbfobaa", sum := "4ed7c9e60837b4720923f0adc09d8767645fad10fc9f645d9d1badc97f84da58", func := "loop.example/leadline/laws.FnSat", spec := "fnSat", unfollowed := true, recurses := true, plainKeys := false, apart := false, narrowed := true }
def FnSatUptoSaid : Prop := fnSatUptoRow.holds Try.pinned (OpenSpec.upto fnSatSpec)

/-- 'laws.FnDiagrams', WHERE WHAT IT READS IS OF BULK AT MOST 1048576: true; the input reads as it did. -/
def fnDiagramsUptoRow : OpenClaim := { program := "ytffefegjnbfobaa", sum := "4ed7c9e60837b4720923f0adc09d8767645fad10fc9f645d9d1badc97f84da58", func := "loop.example/leadline/laws.FnDiagrams", spec := "fnDiagrams", unfollowed := true, recurses := true, plainKeys := false, apart := false, narrowed := true }
def FnDiagramsUptoSaid : Prop := fnDiagramsUptoRow.holds Try.pinned (OpenSpec.upto fnDiagramsSpec)

/-- 'laws.FnGrow', WHERE WHAT IT READS IS OF BULK AT MOST 1048576: true; the input reads as it did. -/
def fnGrowUptoRow : OpenClaim := { program := "ytffefegjnbfobaa", sum := "4ed7c9e60837b4720923f0adc09d8767645fad10fc9f645d9d1badc97f84da58", func := "loop.example/leadline/laws.FnGrow", spec := "fnGrow", unfollowed := true, recurses := true, plainKeys := false, apart := false, narrowed := true }
def FnGrowUptoSaid : Prop := fnGrowUptoRow.holds Try.pinned (OpenSpec.upto fnGrowSpec)

/-- 'laws.FnPick', WHERE WHAT IT READS IS OF BULK AT MOST 1048576: true; the input reads as it did. -/
def fnPickUptoRow : OpenClaim := { program := "ytffefegjnbfobaa", sum := "4ed7c9e60837b4720923f0adc09d8767645fad10fc9f645d9d1badc97f84da58", func := "loop.example/leadline/laws.FnPick", spec := "fnPick", unfollowed := true, recurses := true, plainKeys := false, apart := false, narrowed := true }
def FnPickUptoSaid : Prop := fnPickUptoRow.holds Try.pinned (OpenSpec.upto fnPickSpec)

/-- 'laws.FnExactBddSome', WHERE WHAT IT READS IS OF BULK AT MOST 1048576: true; the input reads as it did. -/
def fnExactBddSomeUptoRow : OpenClaim := { program := "ytffefegjnbfobaa", sum := "4ed7c9e60837b4720923f0adc09d8767645fad10fc9f645d9d1badc97f84da58", func := "loop.example/leadline/laws.FnExactBddSome", spec := "fnExactBddSome", unfollowed := true, recurses := true, plainKeys := false, apart := false, narrowed := true }
def FnExactBddSomeUptoSaid : Prop := fnExactBddSomeUptoRow.holds Try.pinned (OpenSpec.upto fnExactBddSomeSpec)

/-- 'laws.FnExactCnfOf', WHERE WHAT IT READS IS OF BULK AT MOST 1048576: true; the input reads as it did. -/
def fnExactCnfOfUptoRow : OpenClaim := { program := "ytffefegjnbfobaa", sum := "4ed7c9e60837b4720923f0adc09d8767645fad10fc9f645d9d1badc97f84da58", func := "loop.example/leadline/laws.FnExactCnfOf", spec := "fnExactCnfOf", unfollowed := true, recurses := true, plainKeys := false, apart := false, narrowed := true }
def FnExactCnfOfUptoSaid : Prop := fnExactCnfOfUptoRow.holds Try.pinned (OpenSpec.upto fnExactCnfOfSpec)

/-- 'laws.FnQuantify', WHERE WHAT IT READS IS OF BULK AT MOST 1048576: true; the input reads as it did. -/
def fnQuantifyUptoRow : OpenClaim := { program := "ytffefegjnbfobaa", sum := "4ed7c9e60837b4720923f0adc09d8767645fad10fc9f645d9d1badc97f84da58", func := "loop.example/leadline/laws.FnQuantify", spec := "fnQuantify", unfollowed := true, recurses := true, plainKeys := false, apart := false, narrowed := true }
def FnQuantifyUptoSaid : Prop := fnQuantifyUptoRow.holds Try.pinned (OpenSpec.upto fnQuantifySpec)

/-- 'laws.FnClauses', WHERE WHAT IT READS IS OF BULK AT MOST 1048576: true; the input reads as it did. -/
def fnClausesUptoRow : OpenClaim := { program := "ytffefegjnbfobaa", sum := "4ed7c9e60837b4720923f0adc09d8767645fad10fc9f645d9d1badc97f84da58", func := "loop.example/leadline/laws.FnClauses", spec := "fnClauses", unfollowed := true, recurses := true, plainKeys := false, apart := false, narrowed := true }
def FnClausesUptoSaid : Prop := fnClausesUptoRow.holds Try.pinned (OpenSpec.upto fnClausesSpec)

end Rows
end Go.Proofs.Ytffefegjnbfobaa
