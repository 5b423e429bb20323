/- How many numbers: words. -/
import Derived.Test.YtffefegjnbfobaaK
namespace Go.Proofs.Ytffefegjnbfobaa
open Go.RowKit
open B

/-- How many numbers a set has, where it is ok. -/
def Cnt (p : Prop) (V R : Int) (ns : List Nd) (e : Ending) : Prop := (p ∧ e = .returned (.int .i64 ((codesF (has ns R) (2 ^ V.toNat)).length : Int))) ∨ (¬ p ∧ e = .returned (.int .i64 0))

theorem Cnt.is {p : Prop} {V R : Int} {ns : List Nd} {e : Ending} (h : Cnt p V R ns e) : ∃ x : Int, e = .returned (.int .i64 x) ∧ Hid (Cnt p V R ns (.returned (.int .i64 x))) := by
  rcases h with ⟨hp, rfl⟩ | ⟨hp, rfl⟩
  · exact ⟨_, rfl, .inl ⟨hp, rfl⟩⟩
  · exact ⟨_, rfl, .inr ⟨hp, rfl⟩⟩
theorem Cnt.same {p q : Prop} {V R : Int} {ns : List Nd} {e : Ending} {x : Int} (h : Cnt p V R ns e) (hb : Cnt q V R ns (.returned (.int .i64 x))) (hpq : p ↔ q) : e = .returned (.int .i64 x) := by
  rcases h with ⟨hp, rfl⟩ | ⟨hp, rfl⟩ <;> rcases hb with ⟨hq, e⟩ | ⟨hq, e⟩
  · exact e.symm
  · exact (hq (hpq.1 hp)).elim
  · exact (hp (hpq.2 hq)).elim
  · exact e.symm
end Go.Proofs.Ytffefegjnbfobaa
