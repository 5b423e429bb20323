/-
  No cell of these rows narrows 'for every input' (looked for: loops, veiled, ifaces, maps, wideKeys, modest, calm, conditions, laid).
  DERIVED. THE GIVEN ROWS OF THIS SEAT. 8 by the template 'for every input the law returns true; each argument reads behind the call as it read before'; 0 by the template 'total and deterministic' (their statements: YtfcolcemfdnkeaaTotals.lean).
  GIVEN WITH THE SEED: the statements are not yours to turn. If you find one false, say at which input.
  Laid BY PROGRAM, IN A SANDBOX (cutbox-rows.mjs): the forced cells as the released guide's own fill.sh prints them over the translation 129d39620bf18651… (all of the seat's roots in one cut). By AI agents, Wed Nov 11 2026. No macro, syntax, notation, axiom, sorry.
-/
import Derived.Test.YtfcolcemfdnkeaaChecked
import GoSem.Claim
import GoSem.ClaimJoined
import GoSem.ClaimMapViews
import Derived.JoinedTies
import Derived.KernelRfl
namespace Go.Proofs.Ytfcolcemfdnkeaa
/- THE CELL 'sum', in the pinned program and in every row, IS THE sha256 OF THE DUMP (.gsa) THAT YtfcolcemfdnkeaaProg.lean LOADS. Nothing in Lean hashes anything: it is a label: what it is worth is what the hold of that sum in a sandbox is worth. -/
noncomputable def Try.pinned : Pinned := { name := "ytfcolcemfdnkeaa", sum := "129d39620bf186518208499c382857a20ec0ccb2d1f03cae155f099f6acb5b40", checked := Try.checked }
namespace Rows
def none {H : Type} : Left H := { results := [], args := [] }

/-- 'laws.FnExactBddCodes': WHATEVER THE INPUT: true; the input reads as it did. -/
def fnExactBddCodesSpec : ChangeSpec := { name := "fnExactBddCodes", fn := fun _ => fun
  | [d] => { results := [.lit (.bool true)], args := [d] }
  | _ => none }
def fnExactBddCodesRow : OpenClaim := { program := "ytfcolcemfdnkeaa", sum := "129d39620bf186518208499c382857a20ec0ccb2d1f03cae155f099f6acb5b40", func := "loop.example/leadline/laws.FnExactBddCodes", spec := "fnExactBddCodes", unfollowed := true, recurses := true, plainKeys := false, apart := false }
def FnExactBddCodesSaid : Prop := fnExactBddCodesRow.holds Try.pinned (OpenSpec.ofChange fnExactBddCodesSpec)

/-- ITS FALSE NEIGHBOUR: 'it returns false'. Refute it at one input. -/
def fnExactBddCodesWrong : ChangeSpec := { name := "fnExactBddCodes", fn := fun _ => fun
  | [d] => { results := [.lit (.bool false)], args := [d] }
  | _ => none }
def FnExactBddCodesWrongFalsely : Prop := fnExactBddCodesRow.holds Try.pinned (OpenSpec.ofChange fnExactBddCodesWrong)

/-- 'laws.FnExactBddGrow': WHATEVER THE INPUT: true; the input reads as it did. -/
def fnExactBddGrowSpec : ChangeSpec := { name := "fnExactBddGrow", fn := fun _ => fun
  | [d1, d2] => { results := [.lit (.bool true)], args := [d1, d2] }
  | _ => none }
def fnExactBddGrowRow : OpenClaim := { program := "ytfcolcemfdnkeaa", sum := "129d39620bf186518208499c382857a20ec0ccb2d1f03cae155f099f6acb5b40", func := "loop.example/leadline/laws.FnExactBddGrow", spec := "fnExactBddGrow", unfollowed := true, recurses := true, plainKeys := false, apart := false }
def FnExactBddGrowSaid : Prop := fnExactBddGrowRow.holds Try.pinned (OpenSpec.ofChange fnExactBddGrowSpec)

/-- ITS FALSE NEIGHBOUR: 'it returns false'. Refute it at one input. -/
def fnExactBddGrowWrong : ChangeSpec := { name := "fnExactBddGrow", fn := fun _ => fun
  | [d1, d2] => { results := [.lit (.bool false)], args := [d1, d2] }
  | _ => none }
def FnExactBddGrowWrongFalsely : Prop := fnExactBddGrowRow.holds Try.pinned (OpenSpec.ofChange fnExactBddGrowWrong)

/-- 'laws.FnExactBddFix': WHATEVER THE INPUT: true; the input reads as it did. -/
def fnExactBddFixSpec : ChangeSpec := { name := "fnExactBddFix", fn := fun _ => fun
  | [d1, d2, d3] => { results := [.lit (.bool true)], args := [d1, d2, d3] }
  | _ => none }
def fnExactBddFixRow : OpenClaim := { program := "ytfcolcemfdnkeaa", sum := "129d39620bf186518208499c382857a20ec0ccb2d1f03cae155f099f6acb5b40", func := "loop.example/leadline/laws.FnExactBddFix", spec := "fnExactBddFix", unfollowed := true, recurses := true, plainKeys := false, apart := false }
def FnExactBddFixSaid : Prop := fnExactBddFixRow.holds Try.pinned (OpenSpec.ofChange fnExactBddFixSpec)

/-- ITS FALSE NEIGHBOUR: 'it returns false'. Refute it at one input. -/
def fnExactBddFixWrong : ChangeSpec := { name := "fnExactBddFix", fn := fun _ => fun
  | [d1, d2, d3] => { results := [.lit (.bool false)], args := [d1, d2, d3] }
  | _ => none }
def FnExactBddFixWrongFalsely : Prop := fnExactBddFixRow.holds Try.pinned (OpenSpec.ofChange fnExactBddFixWrong)

/-- 'laws.FnExactBddIf': WHATEVER THE INPUT: true; the input reads as it did. -/
def fnExactBddIfSpec : ChangeSpec := { name := "fnExactBddIf", fn := fun _ => fun
  | [d1, d2, d3] => { results := [.lit (.bool true)], args := [d1, d2, d3] }
  | _ => none }
def fnExactBddIfRow : OpenClaim := { program := "ytfcolcemfdnkeaa", sum := "129d39620bf186518208499c382857a20ec0ccb2d1f03cae155f099f6acb5b40", func := "loop.example/leadline/laws.FnExactBddIf", spec := "fnExactBddIf", unfollowed := true, recurses := true, plainKeys := false, apart := false }
def FnExactBddIfSaid : Prop := fnExactBddIfRow.holds Try.pinned (OpenSpec.ofChange fnExactBddIfSpec)

/-- ITS FALSE NEIGHBOUR: 'it returns false'. Refute it at one input. -/
def fnExactBddIfWrong : ChangeSpec := { name := "fnExactBddIf", fn := fun _ => fun
  | [d1, d2, d3] => { results := [.lit (.bool false)], args := [d1, d2, d3] }
  | _ => none }
def FnExactBddIfWrongFalsely : Prop := fnExactBddIfRow.holds Try.pinned (OpenSpec.ofChange fnExactBddIfWrong)

/-- 'laws.FnExactBddXor': WHATEVER THE INPUT: true; the input reads as it did. -/
def fnExactBddXorSpec : ChangeSpec := { name := "fnExactBddXor", fn := fun _ => fun
  | [d1, d2] => { results := [.lit (.bool true)], args := [d1, d2] }
  | _ => none }
def fnExactBddXorRow : OpenClaim := { program := "ytfcolcemfdnkeaa", sum := "129d39620bf186518208499c382857a20ec0ccb2d1f03cae155f099f6acb5b40", func := "loop.example/leadline/laws.FnExactBddXor", spec := "fnExactBddXor", unfollowed := true, recurses := true, plainKeys := false, apart := false }
def FnExactBddXorSaid : Prop := fnExactBddXorRow.holds Try.pinned (OpenSpec.ofChange fnExactBddXorSpec)

/-- ITS FALSE NEIGHBOUR: 'it returns false'. Refute it at one input. -/
def fnExactBddXorWrong : ChangeSpec := { name := "fnExactBddXor", fn := fun _ => fun
  | [d1, d2] => { results := [.lit (.bool false)], args := [d1, d2] }
  | _ => none }
def FnExactBddXorWrongFalsely : Prop := fnExactBddXorRow.holds Try.pinned (OpenSpec.ofChange fnExactBddXorWrong)

/-- 'laws.FnExactBddNot': WHATEVER THE INPUT: true; the input reads as it did. -/
def fnExactBddNotSpec : ChangeSpec := { name := "fnExactBddNot", fn := fun _ => fun
  | [d] => { results := [.lit (.bool true)], args := [d] }
  | _ => none }
def fnExactBddNotRow : OpenClaim := { program := "ytfcolcemfdnkeaa", sum := "129d39620bf186518208499c382857a20ec0ccb2d1f03cae155f099f6acb5b40", func := "loop.example/leadline/laws.FnExactBddNot", spec := "fnExactBddNot", unfollowed := true, recurses := true, plainKeys := false, apart := false }
def FnExactBddNotSaid : Prop := fnExactBddNotRow.holds Try.pinned (OpenSpec.ofChange fnExactBddNotSpec)

/-- ITS FALSE NEIGHBOUR: 'it returns false'. Refute it at one input. -/
def fnExactBddNotWrong : ChangeSpec := { name := "fnExactBddNot", fn := fun _ => fun
  | [d] => { results := [.lit (.bool false)], args := [d] }
  | _ => none }
def FnExactBddNotWrongFalsely : Prop := fnExactBddNotRow.holds Try.pinned (OpenSpec.ofChange fnExactBddNotWrong)

/-- 'laws.FnExactBddAnd': WHATEVER THE INPUT: true; the input reads as it did. -/
def fnExactBddAndSpec : ChangeSpec := { name := "fnExactBddAnd", fn := fun _ => fun
  | [d1, d2] => { results := [.lit (.bool true)], args := [d1, d2] }
  | _ => none }
def fnExactBddAndRow : OpenClaim := { program := "ytfcolcemfdnkeaa", sum := "129d39620bf186518208499c382857a20ec0ccb2d1f03cae155f099f6acb5b40", func := "loop.example/leadline/laws.FnExactBddAnd", spec := "fnExactBddAnd", unfollowed := true, recurses := true, plainKeys := false, apart := false }
def FnExactBddAndSaid : Prop := fnExactBddAndRow.holds Try.pinned (OpenSpec.ofChange fnExactBddAndSpec)

/-- ITS FALSE NEIGHBOUR: 'it returns false'. Refute it at one input. -/
def fnExactBddAndWrong : ChangeSpec := { name := "fnExactBddAnd", fn := fun _ => fun
  | [d1, d2] => { results := [.lit (.bool false)], args := [d1, d2] }
  | _ => none }
def FnExactBddAndWrongFalsely : Prop := fnExactBddAndRow.holds Try.pinned (OpenSpec.ofChange fnExactBddAndWrong)

/-- 'laws.FnExactBddOr': WHATEVER THE INPUT: true; the input reads as it did. -/
def fnExactBddOrSpec : ChangeSpec := { name := "fnExactBddOr", fn := fun _ => fun
  | [d1, d2] => { results := [.lit (.bool true)], args := [d1, d2] }
  | _ => none }
def fnExactBddOrRow : OpenClaim := { program := "ytfcolcemfdnkeaa", sum := "129d39620bf186518208499c382857a20ec0ccb2d1f03cae155f099f6acb5b40", func := "loop.example/leadline/laws.FnExactBddOr", spec := "fnExactBddOr", unfollowed := true, recurses := true, plainKeys := false, apart := false }
def FnExactBddOrSaid : Prop := fnExactBddOrRow.holds Try.pinned (OpenSpec.ofChange fnExactBddOrSpec)

/-- ITS FALSE NEIGHBOUR: 'it returns false'. Refute it at one input. -/
def fnExactBddOrWrong : ChangeSpec := { name := "fnExactBddOr", fn := fun _ => fun
  | [d1, d2] => { results := [.lit (.bool false)], args := [d1, d2] }
  | _ => none }
def FnExactBddOrWrongFalsely : Prop := fnExactBddOrRow.holds Try.pinned (OpenSpec.ofChange fnExactBddOrWrong)

/- THE SECOND FORM. 'bulk': how many values and letters a reading holds, each counted each time it is reached (what is shared counts as often as it is met; a slice's spare places count too). A statement '..UptoSaid' is the law's where the arguments, and the package variables that the reading takes, are together of bulk at most 1048576: NARROWER than '..Said'. Prove '..Said' where nothing that the law and all that it calls make is longer than what came in: it says more and counts as full. Else prove '..UptoSaid'. A law counts once. -/
mutual
def uptoBulk {H : Type} : DataW H → Nat
  | .lit (.string bytes) => bytes.length + 1
  | .lit _ => 1
  | .nil => 1
  | .ptr d => uptoBulk d + 1
  | .slice elems spare => uptoBulkAll elems + uptoBulkAll spare + 1
  | .agg parts => uptoBulkAll parts + 1
  | .iface _ d => uptoBulk d + 1
  | .map entries => uptoBulkEntries entries + 1
  | .held _ => 1
def uptoBulkAll {H : Type} : List (DataW H) → Nat
  | [] => 0
  | d :: r => uptoBulk d + uptoBulkAll r
def uptoBulkEntries {H : Type} : List (Lit × DataW H) → Nat
  | [] => 0
  | x :: r => uptoBulkEntry x + uptoBulkEntries r
def uptoBulkEntry {H : Type} : Lit × DataW H → Nat
  | (.string bytes, d) => bytes.length + uptoBulk d + 1
  | (_, d) => uptoBulk d + 1
 end
def uptoSmall : (H : Type) → List (DataW H) → Bool := fun _ ds => decide (uptoBulkAll ds ≤ 1048576)
def OpenSpec.upto (s : _root_.Go.ChangeSpec) : _root_.Go.OpenSpec := { _root_.Go.OpenSpec.ofChange s with cond := some uptoSmall }

/-- 'laws.FnExactBddCodes', WHERE WHAT IT READS IS OF BULK AT MOST 1048576: true; the input reads as it did. -/
def fnExactBddCodesUptoRow : OpenClaim := { program := "ytfcolcemfdnkeaa", sum := "129d39620bf186518208499c382857a20ec0ccb2d1f03cae155f099f6acb5b40", func := "loop.example/leadline/laws.FnExactBddCodes", spec := "fnExactBddCodes", unfollowed := true, recurses := true, plainKeys := false, apart := false, narrowed := true }
def FnExactBddCodesUptoSaid : Prop := fnExactBddCodesUptoRow.holds Try.pinned (OpenSpec.upto fnExactBddCodesSpec)

/-- 'laws.FnExactBddGrow', WHERE WHAT IT READS IS OF BULK AT MOST 1048576: true; the input reads as it did. -/
def fnExactBddGrowUptoRow : OpenClaim := { program := "ytfcolcemfdnkeaa", sum := "129d39620bf186518208499c382857a20ec0ccb2d1f03cae155f099f6acb5b40", func := "loop.example/leadline/laws.FnExactBddGrow", spec := "fnExactBddGrow", unfollowed := true, recurses := true, plainKeys := false, apart := false, narrowed := true }
def FnExactBddGrowUptoSaid : Prop := fnExactBddGrowUptoRow.holds Try.pinned (OpenSpec.upto fnExactBddGrowSpec)

/-- 'laws.FnExactBddFix', WHERE WHAT IT READS IS OF BULK AT MOST 1048576: true; the input reads as it did. -/
def fnExactBddFixUptoRow : OpenClaim := { program := "ytfcolcemfdnkeaa", sum := "129d39620bf186518208499c382857a20ec0ccb2d1f03cae155f099f6acb5b40", func := "loop.example/leadline/laws.FnExactBddFix", spec := "fnExactBddFix", unfollowed := true, recurses := true, plainKeys := false, apart := false, narrowed := true }
def FnExactBddFixUptoSaid : Prop := fnExactBddFixUptoRow.holds Try.pinned (OpenSpec.upto fnExactBddFixSpec)

/-- 'laws.FnExactBddIf', WHERE WHAT IT READS IS OF BULK AT MOST 1048576: true; the input reads as it did. -/
def fnExactBddIfUptoRow : OpenClaim := { program := "ytfcolcemfdnkeaa", sum := "129d39620bf186518208499c382857a20ec0ccb2d1f03cae155f099f6acb5b40", func := "loop.example/leadline/laws.FnExactBddIf", spec := "fnExactBddIf", unfollowed := true, recurses := true, plainKeys := false, apart := false, narrowed := true }
def FnExactBddIfUptoSaid : Prop := fnExactBddIfUptoRow.holds Try.pinned (OpenSpec.upto fnExactBddIfSpec)

/-- 'laws.FnExactBddXor', WHERE WHAT IT READS IS OF BULK AT MOST 1048576: true; the input reads as it did. -/
def fnExactBddXorUptoRow : OpenClaim := { program := "ytfcolcemfdnkeaa", sum := "129d39620bf186518208499c382857a20ec0ccb2d1f03cae155f099f6acb5b40", func := "loop.example/leadline/laws.FnExactBddXor", spec := "fnExactBddXor", unfollowed := true, recurses := true, plainKeys := false, apart := false, narrowed := true }
def FnExactBddXorUptoSaid : Prop := fnExactBddXorUptoRow.holds Try.pinned (OpenSpec.upto fnExactBddXorSpec)

/-- 'laws.FnExactBddNot', WHERE WHAT IT READS IS OF BULK AT MOST 1048576: true; the input reads as it did. -/
def fnExactBddNotUptoRow : OpenClaim := { program := "ytfcolcemfdnkeaa", sum := "129d39620bf186518208499c382857a20ec0ccb2d1f03cae155f099f6acb5b40", func := "loop.example/leadline/laws.FnExactBddNot", spec := "fnExactBddNot", unfollowed := true, recurses := true, plainKeys := false, apart := false, narrowed := true }
def FnExactBddNotUptoSaid : Prop := fnExactBddNotUptoRow.holds Try.pinned (OpenSpec.upto fnExactBddNotSpec)

/-- 'laws.FnExactBddAnd', WHERE WHAT IT READS IS OF BULK AT MOST 1048576: true; the input reads as it did. -/
def fnExactBddAndUptoRow : OpenClaim := { program := "ytfcolcemfdnkeaa", sum := "129d39620bf186518208499c382857a20ec0ccb2d1f03cae155f099f6acb5b40", func := "loop.example/leadline/laws.FnExactBddAnd", spec := "fnExactBddAnd", unfollowed := true, recurses := true, plainKeys := false, apart := false, narrowed := true }
def FnExactBddAndUptoSaid : Prop := fnExactBddAndUptoRow.holds Try.pinned (OpenSpec.upto fnExactBddAndSpec)

/-- 'laws.FnExactBddOr', WHERE WHAT IT READS IS OF BULK AT MOST 1048576: true; the input reads as it did. -/
def fnExactBddOrUptoRow : OpenClaim := { program := "ytfcolcemfdnkeaa", sum := "129d39620bf186518208499c382857a20ec0ccb2d1f03cae155f099f6acb5b40", func := "loop.example/leadline/laws.FnExactBddOr", spec := "fnExactBddOr", unfollowed := true, recurses := true, plainKeys := false, apart := false, narrowed := true }
def FnExactBddOrUptoSaid : Prop := fnExactBddOrUptoRow.holds Try.pinned (OpenSpec.upto fnExactBddOrSpec)

end Rows
end Go.Proofs.Ytfcolcemfdnkeaa
