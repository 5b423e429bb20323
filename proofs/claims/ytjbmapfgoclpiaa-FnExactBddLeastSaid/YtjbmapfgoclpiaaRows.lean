/-
  No cell of these rows narrows 'for every input' (looked for: loops, veiled, ifaces, maps, wideKeys, modest, calm, conditions, laid).
  DERIVED. THE GIVEN ROWS OF THIS SEAT. 5 by the template 'for every input the law returns true; each argument reads behind the call as it read before'; 0 by the template 'total and deterministic' (their statements: YtjbmapfgoclpiaaTotals.lean).
  GIVEN WITH THE SEED: the statements are not yours to turn. If you find one false, say at which input.
  Laid BY PROGRAM, IN A SANDBOX (cutbox-rows.mjs): the forced cells as the released guide's own fill.sh prints them over the translation fef0568182dc7d44… (all of the seat's roots in one cut). By AI agents, Wed Nov 11 2026. No macro, syntax, notation, axiom, sorry.
-/
import Derived.Test.YtjbmapfgoclpiaaChecked
import GoSem.Claim
import GoSem.ClaimJoined
import GoSem.ClaimMapViews
import Derived.JoinedTies
import Derived.KernelRfl
namespace Go.Proofs.Ytjbmapfgoclpiaa
/- THE CELL 'sum', in the pinned program and in every row, IS THE sha256 OF THE DUMP (.gsa) THAT YtjbmapfgoclpiaaProg.lean LOADS. Nothing in Lean hashes anything: it is a label: what it is worth is what the hold of that sum in a sandbox is worth. -/
noncomputable def Try.pinned : Pinned := { name := "ytjbmapfgoclpiaa", sum := "fef0568182dc7d4422931b29e606813a98bf47076f3a17ceffbf030001579f4d", checked := Try.checked }
namespace Rows
def none {H : Type} : Left H := { results := [], args := [] }

/-- 'laws.FnExactBddOk': WHATEVER THE INPUT: true; the input reads as it did. -/
def fnExactBddOkSpec : ChangeSpec := { name := "fnExactBddOk", fn := fun _ => fun
  | [d] => { results := [.lit (.bool true)], args := [d] }
  | _ => none }
def fnExactBddOkRow : OpenClaim := { program := "ytjbmapfgoclpiaa", sum := "fef0568182dc7d4422931b29e606813a98bf47076f3a17ceffbf030001579f4d", func := "loop.example/leadline/laws.FnExactBddOk", spec := "fnExactBddOk", unfollowed := true, recurses := true, plainKeys := false, apart := false }
def FnExactBddOkSaid : Prop := fnExactBddOkRow.holds Try.pinned (OpenSpec.ofChange fnExactBddOkSpec)

/-- ITS FALSE NEIGHBOUR: 'it returns false'. Refute it at one input. -/
def fnExactBddOkWrong : ChangeSpec := { name := "fnExactBddOk", fn := fun _ => fun
  | [d] => { results := [.lit (.bool false)], args := [d] }
  | _ => none }
def FnExactBddOkWrongFalsely : Prop := fnExactBddOkRow.holds Try.pinned (OpenSpec.ofChange fnExactBddOkWrong)

/-- 'laws.FnExactBddEval': WHATEVER THE INPUT: true; the input reads as it did. -/
def fnExactBddEvalSpec : ChangeSpec := { name := "fnExactBddEval", fn := fun _ => fun
  | [d1, d2] => { results := [.lit (.bool true)], args := [d1, d2] }
  | _ => none }
def fnExactBddEvalRow : OpenClaim := { program := "ytjbmapfgoclpiaa", sum := "fef0568182dc7d4422931b29e606813a98bf47076f3a17ceffbf030001579f4d", func := "loop.example/leadline/laws.FnExactBddEval", spec := "fnExactBddEval", unfollowed := true, recurses := true, plainKeys := false, apart := false }
def FnExactBddEvalSaid : Prop := fnExactBddEvalRow.holds Try.pinned (OpenSpec.ofChange fnExactBddEvalSpec)

/-- ITS FALSE NEIGHBOUR: 'it returns false'. Refute it at one input. -/
def fnExactBddEvalWrong : ChangeSpec := { name := "fnExactBddEval", fn := fun _ => fun
  | [d1, d2] => { results := [.lit (.bool false)], args := [d1, d2] }
  | _ => none }
def FnExactBddEvalWrongFalsely : Prop := fnExactBddEvalRow.holds Try.pinned (OpenSpec.ofChange fnExactBddEvalWrong)

/-- 'laws.FnExactBddUses': WHATEVER THE INPUT: true; the input reads as it did. -/
def fnExactBddUsesSpec : ChangeSpec := { name := "fnExactBddUses", fn := fun _ => fun
  | [d1, d2] => { results := [.lit (.bool true)], args := [d1, d2] }
  | _ => none }
def fnExactBddUsesRow : OpenClaim := { program := "ytjbmapfgoclpiaa", sum := "fef0568182dc7d4422931b29e606813a98bf47076f3a17ceffbf030001579f4d", func := "loop.example/leadline/laws.FnExactBddUses", spec := "fnExactBddUses", unfollowed := true, recurses := true, plainKeys := false, apart := false }
def FnExactBddUsesSaid : Prop := fnExactBddUsesRow.holds Try.pinned (OpenSpec.ofChange fnExactBddUsesSpec)

/-- ITS FALSE NEIGHBOUR: 'it returns false'. Refute it at one input. -/
def fnExactBddUsesWrong : ChangeSpec := { name := "fnExactBddUses", fn := fun _ => fun
  | [d1, d2] => { results := [.lit (.bool false)], args := [d1, d2] }
  | _ => none }
def FnExactBddUsesWrongFalsely : Prop := fnExactBddUsesRow.holds Try.pinned (OpenSpec.ofChange fnExactBddUsesWrong)

/-- 'laws.FnExactBddLeast': WHATEVER THE INPUT: true; the input reads as it did. -/
def fnExactBddLeastSpec : ChangeSpec := { name := "fnExactBddLeast", fn := fun _ => fun
  | [d] => { results := [.lit (.bool true)], args := [d] }
  | _ => none }
def fnExactBddLeastRow : OpenClaim := { program := "ytjbmapfgoclpiaa", sum := "fef0568182dc7d4422931b29e606813a98bf47076f3a17ceffbf030001579f4d", func := "loop.example/leadline/laws.FnExactBddLeast", spec := "fnExactBddLeast", unfollowed := true, recurses := true, plainKeys := false, apart := false }
def FnExactBddLeastSaid : Prop := fnExactBddLeastRow.holds Try.pinned (OpenSpec.ofChange fnExactBddLeastSpec)

/-- ITS FALSE NEIGHBOUR: 'it returns false'. Refute it at one input. -/
def fnExactBddLeastWrong : ChangeSpec := { name := "fnExactBddLeast", fn := fun _ => fun
  | [d] => { results := [.lit (.bool false)], args := [d] }
  | _ => none }
def FnExactBddLeastWrongFalsely : Prop := fnExactBddLeastRow.holds Try.pinned (OpenSpec.ofChange fnExactBddLeastWrong)

/-- 'laws.FnExactBddCount': WHATEVER THE INPUT: true; the input reads as it did. -/
def fnExactBddCountSpec : ChangeSpec := { name := "fnExactBddCount", fn := fun _ => fun
  | [d] => { results := [.lit (.bool true)], args := [d] }
  | _ => none }
def fnExactBddCountRow : OpenClaim := { program := "ytjbmapfgoclpiaa", sum := "fef0568182dc7d4422931b29e606813a98bf47076f3a17ceffbf030001579f4d", func := "loop.example/leadline/laws.FnExactBddCount", spec := "fnExactBddCount", unfollowed := true, recurses := true, plainKeys := false, apart := false }
def FnExactBddCountSaid : Prop := fnExactBddCountRow.holds Try.pinned (OpenSpec.ofChange fnExactBddCountSpec)

/-- ITS FALSE NEIGHBOUR: 'it returns false'. Refute it at one input. -/
def fnExactBddCountWrong : ChangeSpec := { name := "fnExactBddCount", fn := fun _ => fun
  | [d] => { results := [.lit (.bool false)], args := [d] }
  | _ => none }
def FnExactBddCountWrongFalsely : Prop := fnExactBddCountRow.holds Try.pinned (OpenSpec.ofChange fnExactBddCountWrong)

/- THE SECOND FORM. 'bulk': how many values and letters a reading holds, each counted each time it is reached (what is shared counts as often as it is met; a slice's spare places count too). A statement '..UptoSaid' is the law's where the arguments, and the package variables that the reading takes, are together of bulk at most 1048576: NARROWER than '..Said'. Prove '..Said' where nothing that the law and all that it calls make is longer than what came in: it says more and counts as full. Else prove '..UptoSaid'. A law counts once. -/
mutual
def uptoBulk {H : Type} : DataW H → Nat
  | .lit (.string bytes) => bytes.length + 1
  | .lit _ => 1
  | .nil => 1
  | .ptr d => uptoBulk d + 1
  | .slice elems spare => uptoBulkAll elems + uptoBulkAll spare + 1
  | .agg parts => uptoBulkAll parts + 1
  | .iface _ d => uptoBulk d + 1
  | .map entries => uptoBulkEntries entries + 1
  | .held _ => 1
def uptoBulkAll {H : Type} : List (DataW H) → Nat
  | [] => 0
  | d :: r => uptoBulk d + uptoBulkAll r
def uptoBulkEntries {H : Type} : List (Lit × DataW H) → Nat
  | [] => 0
  | x :: r => uptoBulkEntry x + uptoBulkEntries r
def uptoBulkEntry {H : Type} : Lit × DataW H → Nat
  | (.string bytes, d) => bytes.length + uptoBulk d + 1
  | (_, d) => uptoBulk d + 1
 end
def uptoSmall : (H : Type) → List (DataW H) → Bool := fun _ ds => decide (uptoBulkAll ds ≤ 1048576)
def OpenSpec.upto (s : _root_.Go.ChangeSpec) : _root_.Go.OpenSpec := { _root_.Go.OpenSpec.ofChange s with cond := some uptoSmall }

/-- 'laws.FnExactBddOk', WHERE WHAT IT READS IS OF BULK AT MOST 1048576: true; the input reads as it did. -/
def fnExactBddOkUptoRow : OpenClaim := { program := "ytjbmapfgoclpiaa", sum := "fef0568182dc7d4422931b29e606813a98bf47076f3a17ceffbf030001579f4d", func := "loop.example/leadline/laws.FnExactBddOk", spec := "fnExactBddOk", unfollowed := true, recurses := true, plainKeys := false, apart := false, narrowed := true }
def FnExactBddOkUptoSaid : Prop := fnExactBddOkUptoRow.holds Try.pinned (OpenSpec.upto fnExactBddOkSpec)

/-- 'laws.FnExactBddEval', WHERE WHAT IT READS IS OF BULK AT MOST 1048576: true; the input reads as it did. -/
def fnExactBddEvalUptoRow : OpenClaim := { program := "ytjbmapfgoclpiaa", sum := "fef0568182dc7d4422931b29e606813a98bf47076f3a17ceffbf030001579f4d", func := "loop.example/leadline/laws.FnExactBddEval", spec := "fnExactBddEval", unfollowed := true, recurses := true, plainKeys := false, apart := false, narrowed := true }
def FnExactBddEvalUptoSaid : Prop := fnExactBddEvalUptoRow.holds Try.pinned (OpenSpec.upto fnExactBddEvalSpec)

/-- 'laws.FnExactBddUses', WHERE WHAT IT READS IS OF BULK AT MOST 1048576: true; the input reads as it did. -/
def fnExactBddUsesUptoRow : OpenClaim := { program := "ytjbmapfgoclpiaa", sum := "fef0568182dc7d4422931b29e606813a98bf47076f3a17ceffbf030001579f4d", func := "loop.example/leadline/laws.FnExactBddUses", spec := "fnExactBddUses", unfollowed := true, recurses := true, plainKeys := false, apart := false, narrowed := true }
def FnExactBddUsesUptoSaid : Prop := fnExactBddUsesUptoRow.holds Try.pinned (OpenSpec.upto fnExactBddUsesSpec)

/-- 'laws.FnExactBddLeast', WHERE WHAT IT READS IS OF BULK AT MOST 1048576: true; the input reads as it did. -/
def fnExactBddLeastUptoRow : OpenClaim := { program := "ytjbmapfgoclpiaa", sum := "fef0568182dc7d4422931b29e606813a98bf47076f3a17ceffbf030001579f4d", func := "loop.example/leadline/laws.FnExactBddLeast", spec := "fnExactBddLeast", unfollowed := true, recurses := true, plainKeys := false, apart := false, narrowed := true }
def FnExactBddLeastUptoSaid : Prop := fnExactBddLeastUptoRow.holds Try.pinned (OpenSpec.upto fnExactBddLeastSpec)

/-- 'laws.FnExactBddCount', WHERE WHAT IT READS IS OF BULK AT MOST 1048576: true; the input reads as it did. -/
def fnExactBddCountUptoRow : OpenClaim := { program := "ytjbmapfgoclpiaa", sum := "fef0568182dc7d4422931b29e606813a98bf47076f3a17ceffbf030001579f4d", func := "loop.example/leadline/laws.FnExactBddCount", spec := "fnExactBddCount", unfollowed := true, recurses := true, plainKeys := false, apart := false, narrowed := true }
def FnExactBddCountUptoSaid : Prop := fnExactBddCountUptoRow.holds Try.pinned (OpenSpec.upto fnExactBddCountSpec)

end Rows
end Go.Proofs.Ytjbmapfgoclpiaa
