/- A region that draws its order, whose operations read and whose callees may make memory of their own: one walk in the order of the text, in the class of the worlds that only grew. -/
import Derived.WalkKit
import Derived.Deep.QuietTactic
import Derived.BigQuiet
namespace Go.Proofs.Ytffefegjnbfobaa
open Go.RowKit

/-- The worlds that grew out of X. -/
def Ext (X : World) : Type := { w' : World // Below X.heap.size X w' }

instance (X : World) : Nonempty (Ext X) := ⟨⟨X, Below.refl _ _⟩⟩

section
variable {P : Program} {X : World}
theorem wp_region_ext {id : Nat} {Q : Exit → Act → World → Prop} {a : Act} {l : List Oper} (hm : P.follows .mixedOrders = true) (hB : Region.lexB .any l.toArray = true)
    (h : wpQuiet P l.toArray (fun w' => ∃ x : Ext X, w' = x.1) (fun a' => ∀ w', (∃ x : Ext X, w' = x.1) → Q .normal a' w') l a) : (Code.region id l.toArray true).wp P Q a X :=
  wp_region_quiet (C := fun w' => ∃ x : Ext X, w' = x.1) hm hB ⟨⟨_, (Below.refl X.heap.size X).drew⟩, rfl⟩ (by simpa using h)

theorem ext_same {f : FuncId} {args : Array Value} {v : Value} (x : Ext X) (h : Calls P f args x.1 fun e w' => e = .returned v ∧ x.1 = w') : Calls P f args x.1 fun e w'' => e = .returned v ∧ ∃ y : Ext X, w'' = y.1 :=
  h.mono fun _ _ ⟨he, hw⟩ => ⟨he, x, hw.symm⟩
theorem ext_below {f : FuncId} {args : Array Value} {v : Value} (x : Ext X) (h : Calls P f args x.1 fun e w' => e = .returned v ∧ Below x.1.heap.size x.1 w') : Calls P f args x.1 fun e w'' => e = .returned v ∧ ∃ y : Ext X, w'' = y.1 :=
  h.mono fun _ w'' ⟨he, hw⟩ => ⟨he, ⟨w'', x.2.trans (hw.mono x.2.size)⟩, rfl⟩
theorem ext_from {B : Nat} {w : World} (h : Below B w X) (hB : B ≤ X.heap.size) (x : Ext X) : Below B w x.1 := h.trans (x.2.mono hB)
theorem ext_cell {a : Addr} {v : Value} (h : X.cell? a = some v) (hb : a.block < X.heap.size) (x : Ext X) : x.1.cell? a = some v := (x.2.cell hb).trans h
end
end Go.Proofs.Ytffefegjnbfobaa
