/-
  No cell of these rows narrows 'for every input' (looked for: loops, veiled, ifaces, maps, wideKeys, modest, calm, conditions, laid).
  DERIVED. THE GIVEN ROWS OF THIS SEAT. 4 by the template 'for every input the law returns true; each argument reads behind the call as it read before'; 0 by the template 'total and deterministic' (their statements: YtmolbnghobfmoaaGreatTotals.lean).
  GIVEN WITH THE SEED: the statements are not yours to turn. If you find one false, say at which input.
  Laid BY PROGRAM, IN A SANDBOX (cutbox-rows.mjs): the forced cells as the released guide's own fill.sh prints them over the translation 38f99413993161da… (all of the seat's roots in one cut). By AI agents, Wed Nov 11 2026. No macro, syntax, notation, axiom, sorry.
-/
import Derived.Test.YtmolbnghobfmoaaGreatChecked
import GoSem.Claim
import GoSem.ClaimJoined
import GoSem.ClaimMapViews
import Derived.JoinedTies
import Derived.KernelRfl
namespace Go.Proofs.YtmolbnghobfmoaaGreat
/- THE CELL 'sum', in the pinned program and in every row, IS THE sha256 OF THE DUMP (.gsa) THAT YtmolbnghobfmoaaGreatProg.lean LOADS. Nothing in Lean hashes anything: it is a label: what it is worth is what the hold of that sum in a sandbox is worth. -/
noncomputable def Tryz.pinned : Pinned := { name := "ytmolbnghobfmoaagreat", sum := "38f99413993161daa064190e6ba62b9aaa2214fd34fd0b2d28eebb4ea89ce528", checked := Tryz.checked }
namespace Rows
def none {H : Type} : Left H := { results := [], args := [] }

/-- 'laws.FnExactModelFold': WHATEVER THE INPUT: true; the input reads as it did. -/
def fnExactModelFoldSpec : ChangeSpec := { name := "fnExactModelFold", fn := fun _ => fun
  | [d] => { results := [.lit (.bool true)], args := [d] }
  | _ => none }
def fnExactModelFoldRow : OpenClaim := { program := "ytmolbnghobfmoaagreat", sum := "38f99413993161daa064190e6ba62b9aaa2214fd34fd0b2d28eebb4ea89ce528", func := "loop.example/leadline/laws.FnExactModelFold", spec := "fnExactModelFold", unfollowed := true, recurses := true, apart := false }
def FnExactModelFoldSaid : Prop := fnExactModelFoldRow.holds Tryz.pinned (OpenSpec.ofChange fnExactModelFoldSpec)

/-- ITS FALSE NEIGHBOUR: 'it returns false'. Refute it at one input. -/
def fnExactModelFoldWrong : ChangeSpec := { name := "fnExactModelFold", fn := fun _ => fun
  | [d] => { results := [.lit (.bool false)], args := [d] }
  | _ => none }
def FnExactModelFoldWrongFalsely : Prop := fnExactModelFoldRow.holds Tryz.pinned (OpenSpec.ofChange fnExactModelFoldWrong)

/-- 'laws.FnTwins': WHATEVER THE INPUT: true; the input reads as it did. -/
def fnTwinsSpec : ChangeSpec := { name := "fnTwins", fn := fun _ => fun
  | [d1, d2] => { results := [.lit (.bool true)], args := [d1, d2] }
  | _ => none }
def fnTwinsRow : OpenClaim := { program := "ytmolbnghobfmoaagreat", sum := "38f99413993161daa064190e6ba62b9aaa2214fd34fd0b2d28eebb4ea89ce528", func := "loop.example/leadline/laws.FnTwins", spec := "fnTwins", unfollowed := true, recurses := true, apart := false }
def FnTwinsSaid : Prop := fnTwinsRow.holds Tryz.pinned (OpenSpec.ofChange fnTwinsSpec)

/-- ITS FALSE NEIGHBOUR: 'it returns false'. Refute it at one input. -/
def fnTwinsWrong : ChangeSpec := { name := "fnTwins", fn := fun _ => fun
  | [d1, d2] => { results := [.lit (.bool false)], args := [d1, d2] }
  | _ => none }
def FnTwinsWrongFalsely : Prop := fnTwinsRow.holds Tryz.pinned (OpenSpec.ofChange fnTwinsWrong)

/-- 'laws.FnFoldTwice': WHATEVER THE INPUT: true; the input reads as it did. -/
def fnFoldTwiceSpec : ChangeSpec := { name := "fnFoldTwice", fn := fun _ => fun
  | [d] => { results := [.lit (.bool true)], args := [d] }
  | _ => none }
def fnFoldTwiceRow : OpenClaim := { program := "ytmolbnghobfmoaagreat", sum := "38f99413993161daa064190e6ba62b9aaa2214fd34fd0b2d28eebb4ea89ce528", func := "loop.example/leadline/laws.FnFoldTwice", spec := "fnFoldTwice", unfollowed := true, recurses := true, apart := false }
def FnFoldTwiceSaid : Prop := fnFoldTwiceRow.holds Tryz.pinned (OpenSpec.ofChange fnFoldTwiceSpec)

/-- ITS FALSE NEIGHBOUR: 'it returns false'. Refute it at one input. -/
def fnFoldTwiceWrong : ChangeSpec := { name := "fnFoldTwice", fn := fun _ => fun
  | [d] => { results := [.lit (.bool false)], args := [d] }
  | _ => none }
def FnFoldTwiceWrongFalsely : Prop := fnFoldTwiceRow.holds Tryz.pinned (OpenSpec.ofChange fnFoldTwiceWrong)

/-- 'laws.FnFoldMeans': WHATEVER THE INPUT: true; the input reads as it did. -/
def fnFoldMeansSpec : ChangeSpec := { name := "fnFoldMeans", fn := fun _ => fun
  | [d1, d2] => { results := [.lit (.bool true)], args := [d1, d2] }
  | _ => none }
def fnFoldMeansRow : OpenClaim := { program := "ytmolbnghobfmoaagreat", sum := "38f99413993161daa064190e6ba62b9aaa2214fd34fd0b2d28eebb4ea89ce528", func := "loop.example/leadline/laws.FnFoldMeans", spec := "fnFoldMeans", unfollowed := true, recurses := true, apart := false }
def FnFoldMeansSaid : Prop := fnFoldMeansRow.holds Tryz.pinned (OpenSpec.ofChange fnFoldMeansSpec)

/-- ITS FALSE NEIGHBOUR: 'it returns false'. Refute it at one input. -/
def fnFoldMeansWrong : ChangeSpec := { name := "fnFoldMeans", fn := fun _ => fun
  | [d1, d2] => { results := [.lit (.bool false)], args := [d1, d2] }
  | _ => none }
def FnFoldMeansWrongFalsely : Prop := fnFoldMeansRow.holds Tryz.pinned (OpenSpec.ofChange fnFoldMeansWrong)

/- THE SECOND FORM. 'bulk': how many values and letters a reading holds, each counted each time it is reached (what is shared counts as often as it is met; a slice's spare places count too). A statement '..UptoSaid' is the law's where the arguments, and the package variables that the reading takes, are together of bulk at most 1048576: NARROWER than '..Said'. Prove '..Said' where nothing that the law and all that it calls make is longer than what came in: it says more and counts as full. Else prove '..UptoSaid'. A law counts once. -/
mutual
def uptoBulk {H : Type} : DataW H → Nat
  | .lit (.string bytes) => bytes.length + 1
  | .lit _ => 1
  | .nil => 1
  | .ptr d => uptoBulk d + 1
  | .slice elems spare => uptoBulkAll elems + uptoBulkAll spare + 1
  | .agg parts => uptoBulkAll parts + 1
  | .iface _ d => uptoBulk d + 1
  | .map entries => uptoBulkEntries entries + 1
  | .held _ => 1
def uptoBulkAll {H : Type} : List (DataW H) → Nat
  | [] => 0
  | d :: r => uptoBulk d + uptoBulkAll r
def uptoBulkEntries {H : Type} : List (Lit × DataW H) → Nat
  | [] => 0
  | x :: r => uptoBulkEntry x + uptoBulkEntries r
def uptoBulkEntry {H : Type} : Lit × DataW H → Nat
  | (.string bytes, d) => bytes.length + uptoBulk d + 1
  | (_, d) => uptoBulk d + 1
 end
def uptoSmall : (H : Type) → List (DataW H) → Bool := fun _ ds => decide (uptoBulkAll ds ≤ 1048576)
def OpenSpec.upto (s : _root_.Go.ChangeSpec) : _root_.Go.OpenSpec := { _root_.Go.OpenSpec.ofChange s with cond := some uptoSmall }

/-- 'laws.FnExactModelFold', WHERE WHAT IT READS IS OF BULK AT MOST 1048576: true; the input reads as it did. -/
def fnExactModelFoldUptoRow : OpenClaim := { program := "ytmolbnghobfmoaagreat", sum := "38f99413993161daa064190e6ba62b9aaa2214fd34fd0b2d28eebb4ea89ce528", func := "loop.example/leadline/laws.FnExactModelFold", spec := "fnExactModelFold", unfollowed := true, recurses := true, apart := false, narrowed := true }
def FnExactModelFoldUptoSaid : Prop := fnExactModelFoldUptoRow.holds Tryz.pinned (OpenSpec.upto fnExactModelFoldSpec)

/-- 'laws.FnTwins', WHERE WHAT IT READS IS OF BULK AT MOST 1048576: true; the input reads as it did. -/
def fnTwinsUptoRow : OpenClaim := { program := "ytmolbnghobfmoaagreat", sum := "38f99413993161daa064190e6ba62b9aaa2214fd34fd0b2d28eebb4ea89ce528", func := "loop.example/leadline/laws.FnTwins", spec := "fnTwins", unfollowed := true, recurses := true, apart := false, narrowed := true }
def FnTwinsUptoSaid : Prop := fnTwinsUptoRow.holds Tryz.pinned (OpenSpec.upto fnTwinsSpec)

/-- 'laws.FnFoldTwice', WHERE WHAT IT READS IS OF BULK AT MOST 1048576: true; the input reads as it did. -/
def fnFoldTwiceUptoRow : OpenClaim := { program := "ytmolbnghobfmoaagreat", sum := "38f99413993161daa064190e6ba62b9aaa2214fd34fd0b2d28eebb4ea89ce528", func := "loop.example/leadline/laws.FnFoldTwice", spec := "fnFoldTwice", unfollowed := true, recurses := true, apart := false, narrowed := true }
def FnFoldTwiceUptoSaid : Prop := fnFoldTwiceUptoRow.holds Tryz.pinned (OpenSpec.upto fnFoldTwiceSpec)

/-- 'laws.FnFoldMeans', WHERE WHAT IT READS IS OF BULK AT MOST 1048576: true; the input reads as it did. -/
def fnFoldMeansUptoRow : OpenClaim := { program := "ytmolbnghobfmoaagreat", sum := "38f99413993161daa064190e6ba62b9aaa2214fd34fd0b2d28eebb4ea89ce528", func := "loop.example/leadline/laws.FnFoldMeans", spec := "fnFoldMeans", unfollowed := true, recurses := true, apart := false, narrowed := true }
def FnFoldMeansUptoSaid : Prop := fnFoldMeansUptoRow.holds Tryz.pinned (OpenSpec.upto fnFoldMeansSpec)

end Rows
end Go.Proofs.YtmolbnghobfmoaaGreat
