/- Words that the laws share. -/
import Derived.Test.YtffefegjnbfobaaD
import Derived.Test.YtffefegjnbfobaaS2
namespace Go.Proofs.Ytffefegjnbfobaa
open Go.RowKit
open B

theorem Says.is {p : Prop} {e : Ending} (h : Says p e) : ∃ b, e = .returned (.bool b) ∧ Hid (b = true ↔ p) := by
  rcases h with ⟨rfl, h⟩ | ⟨rfl, h⟩
  · exact ⟨true, rfl, ⟨fun _ => h, fun _ => rfl⟩⟩
  · exact ⟨false, rfl, ⟨fun h => (Bool.noConfusion h), fun g => (h g).elim⟩⟩
theorem Says.same {p q : Prop} {e : Ending} {b : Bool} (h : Says p e) (hb : b = true ↔ q) (hpq : p ↔ q) : e = .returned (.bool b) := by
  obtain ⟨c, rfl, hc⟩ := h.is
  rw [show c = b from by rw [Bool.eq_iff_iff, hb, ← hpq]; exact hc]

/-- The three cells of a diagram that lies in a block. -/
theorem Blk.three {w : World} {g : Nat} {t : TypeId} {x y z : Value} (h : Blk w g t #[x, y, z]) : w.cell? ⟨g, 0, none⟩ = some x ∧ w.cell? ⟨g, 1, none⟩ = some y ∧ w.cell? ⟨g, 2, none⟩ = some z := by
  rw [h.cell, h.cell, h.cell]; exact ⟨rfl, rfl, rfl⟩

theorem Says.t {p : Prop} {e : Ending} (h : Says p e) (hp : p) : e = .returned (.bool true) := by
  rcases h with ⟨rfl, _⟩ | ⟨rfl, h⟩
  · rfl
  · exact (h hp).elim
theorem Says.f {p : Prop} {e : Ending} (h : Says p e) (hp : ¬ p) : e = .returned (.bool false) := by
  rcases h with ⟨rfl, h⟩ | ⟨rfl, _⟩
  · exact (hp h).elim
  · rfl
theorem pow_le (k : Nat) (hk : k ≤ 13) : 1 ≤ (2 : Int) ^ k ∧ (2 : Int) ^ k ≤ 8192 := by
  have h1 : 1 ≤ 2 ^ k := Nat.one_le_two_pow
  have h2 : 2 ^ k ≤ 2 ^ 13 := Nat.pow_le_pow_right (by omega) hk
  have e : ((2 ^ k : Nat) : Int) = (2 : Int) ^ k := by simp
  omega
theorem last_is (k : Nat) (hk : k ≤ 13) : wrap64 (wrap64 ((2 : Int) ^ k) - 1) = 2 ^ k - 1 := by
  have := pow_le k hk
  generalize (2 : Int) ^ k = N at *
  unfold wrap64
  omega

end Go.Proofs.Ytffefegjnbfobaa
