/- Ints in a slice. -/
import Derived.Test.YtffefegjnbfobaaS2
namespace Go.Proofs.Ytffefegjnbfobaa
open Go.RowKit
open B

/-- The slice at A holds the ints l. -/
def IAt (w : World) (A : Option Addr) (l : List Int) : Prop :=
  0 < l.length → ∃ g, A = some ⟨g, 0, none⟩ ∧ g < w.heap.size ∧ ∀ k (h : k < l.length), w.cell? ⟨g, k, none⟩ = some (.int .i64 l[k])
theorem IAt.of_own {w : World} {base : Nat} {A : Option Addr} {c : Nat} {l : List Int} (h : w.ownsRow base 3 1 (.slice A l.length c) l.length (l.map (.int .i64))) : IAt w A l := fun hp => by
  obtain ⟨g, rfl, hg, _, _⟩ := own_int h hp
  refine ⟨g, rfl, hg, fun k hk => ?_⟩
  obtain ⟨g', e, _, _, hc⟩ := own_int h hk
  injection e with e
  injection e with e
  subst e
  exact hc
theorem IAt.below {w w' : World} {A : Option Addr} {l : List Int} (h : IAt w A l) (hb : Below w.heap.size w w') : IAt w' A l := fun hp => by
  obtain ⟨g, rfl, hg, hc⟩ := h hp
  exact ⟨g, rfl, Nat.lt_of_lt_of_le hg hb.size, fun k hk => (hb.cell (p := ⟨g, k, none⟩) hg).trans (hc k hk)⟩
end Go.Proofs.Ytffefegjnbfobaa
