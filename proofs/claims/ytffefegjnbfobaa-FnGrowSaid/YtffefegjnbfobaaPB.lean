/- A diagram of a call's own, marked and held. -/
import Derived.Test.YtffefegjnbfobaaP
import Derived.Test.YtffefegjnbfobaaF
namespace Go.Proofs.Ytffefegjnbfobaa
open Go.RowKit
open B

theorem ncells_set : ∀ (ns : List Nd) (k : Nat) (n : Nd), ((((ncells ns).set (k * 3) (.int .i64 n.v)).set (k * 3 + 1) (.int .i64 n.lo)).set (k * 3 + 2) (.int .i64 n.hi)) = ncells (ns.set k n)
  | [], k, n => by simp [ncells]
  | m :: ns, 0, n => by simp [ncells]
  | m :: ns, k + 1, n => by
    have ih := ncells_set ns k n
    have e : ∀ (x : Nd) (xs : List Nd), ncells (x :: xs) = .int .i64 x.v :: .int .i64 x.lo :: .int .i64 x.hi :: ncells xs := fun _ _ => rfl
    rw [List.set_cons_succ, e, e, ← ih, show (k + 1) * 3 = k * 3 + 1 + 1 + 1 by omega, show k * 3 + 1 + 1 + 1 + 1 = k * 3 + 1 + 1 + 1 + 1 from rfl, show k * 3 + 1 + 1 + 1 + 2 = k * 3 + 2 + 1 + 1 + 1 by omega]
    simp only [List.set_cons_succ]

theorem own_node {w : World} {base : Nat} {A : Option Addr} {c : Nat} {ns : List Nd} (h : w.ownsRow base 89 3 (.slice A ns.length c) ns.length (ncells ns)) {k : Nat} (hk : k < ns.length) :
    ∃ g, A = some ⟨g, 0, none⟩ ∧ base ≤ g ∧ (w.cell? ⟨g, k * 3, none⟩ = some (.int .i64 ns[k].v) ∧ w.cell? ⟨g, k * 3 + 1, none⟩ = some (.int .i64 ns[k].lo) ∧ w.cell? ⟨g, k * 3 + 2, none⟩ = some (.int .i64 ns[k].hi)) ∧ ∀ j, w.frozen? ⟨g, j, none⟩ = false := by
  obtain ⟨g, cap, h1, h2, h3⟩ := h.form (by omega)
  injection h1 with h1 _ _
  subst h1
  obtain ⟨e1, e2, e3⟩ := ncells_get ns k ns[k] (List.getElem?_eq_getElem hk)
  exact ⟨g, rfl, h2, ⟨by rw [h.cellAt _ (by omega)]; exact e1, by rw [h.cellAt _ (by omega)]; exact e2, by rw [h.cellAt _ (by omega)]; exact e3⟩, fun j => h.frozenAt j⟩

set_option maxRecDepth 100000 in
set_option maxHeartbeats 400000 in
theorem markNodes_own (base : Nat) (A : Option Addr) (cap : Nat) (ns : List Nd) (m : Int) (w : World) (hA : w.ownsRow base 89 3 (.slice A ns.length cap) ns.length (ncells ns)) (hm0 : 0 ≤ m) (hm : m ≤ 16777216) (hn : ns.length ≤ 1048576) :
    Calls Try.prog 103 #[.slice A ns.length cap, .int .i64 m] w fun e w' => e = .returned (.int .i64 (m + 3 * (ns.length : Int))) ∧ w'.ownsRow base 89 3 (.slice A ns.length cap) ns.length (ncells (markNds m ns.length)) ∧ w.grownBy w' (Value.slice A ns.length cap).ownBlock := by
  have HA := Lib.hid hA
  clear hA
  go_enter Try.func103, Try.ntmps103
  go_wp2_with fail
  go_loopw [1, 5] (fun v i wr => ∃ (k : Nat) (l : List Nd), k ≤ ns.length ∧ l.length = ns.length ∧ Hid (l.take k = markNds m k) ∧ Hid (wr.ownsRow base 89 3 (.slice A ns.length cap) ns.length (ncells l)) ∧ Hid (w.grownBy wr (Value.slice A ns.length cap).ownBlock) ∧ v = .int .i64 (m + 3 * (k : Int)) ∧ i = .int .i64 k) (fun _ i _ => ns.length - (intOf i).toNat)
  case atStart => exact ⟨0, ns, Nat.zero_le _, rfl, rfl, HA.out, World.grownBy.refl _ _, by simp, rfl⟩
  case round =>
    obtain ⟨k, l, hk, hl, hpre, ho, hg, rfl, rfl⟩ := hrel
    by_cases hlt : k < ns.length
    case neg =>
      obtain rfl : k = ns.length := by omega
      go_wp2_with fail
      go_ret
      have e : l = markNds m ns.length := by have := hpre.out; rw [← hl, List.take_length] at this; rw [this, hl]
      subst e
      exact ⟨rfl, ho.out, hg.out⟩
    have ho1 : wr.ownsRow base 89 3 (.slice A l.length cap) l.length (ncells l) := by rw [hl]; exact ho.out
    obtain ⟨g, rfl, hbg, ⟨c0, c1, c2⟩, hf⟩ := own_node ho1 (k := k) (by omega)
    have f0 := hf (k * 3)
    have f1 := hf (k * 3 + 1)
    have f2 := hf (k * 3 + 2)
    clear hf ho1
    generalize l[k] = x at c0 c1 c2
    have e1 : IntKind.i64.wrap ((k : Int) + 1) = (k : Int) + 1 := wrap_eq (by omega) (by omega)
    have hj0 : (0 : Int) ≤ k := by omega
    have hj1 : (k : Int) < (ns.length : Int) := by omega
    go_wp2_with fail
    go_roundw
    case rel =>
      have hg0 : w.grownBy wr (some g) := hg.out
      have t1 := ho.out.stored (k * 3) (.int .i64 (m + 3 * (k : Int)))
      have t2 := t1.1.stored (k * 3 + 1) (.int .i64 (m + 3 * (k : Int) + 1))
      have t3 := t2.1.stored (k * 3 + 2) (.int .i64 (m + 3 * (k : Int) + 1 + 1))
      have s3 := t3.1
      have hg3 : Hid (w.grownBy _ (some g)) := ((hg0.trans t1.2).trans t2.2).trans t3.2
      have e3 := ncells_set l k ⟨m + 3 * (k : Int), m + 3 * (k : Int) + 1, m + 3 * (k : Int) + 1 + 1⟩
      simp only at e3
      rw [e3] at s3
      refine ⟨k + 1, l.set k ⟨m + 3 * (k : Int), m + 3 * (k : Int) + 1, m + 3 * (k : Int) + 1 + 1⟩, by omega, by simpa using hl, ?_, s3, hg3, by go_num, by go_num⟩
      show (l.set k _).take (k + 1) = markNds m (k + 1)
      rw [List.take_add_one, List.take_set_of_le (Nat.le_refl _), hpre.out, List.getElem?_set_self (by omega)]
      simp [markNds, List.range_succ]
    case measure => simp [intOf]; omega

theorem markBdd_own (V R : Int) (base : Nat) (A : Option Addr) (cap : Nat) (ns : List Nd) (m : Int) (w : World) (hA : w.ownsRow base 89 3 (.slice A ns.length cap) ns.length (ncells ns)) (hm0 : 0 ≤ m) (hm : m ≤ 16777216) (hn : ns.length ≤ 1048576) :
    Calls Try.prog 48 #[.agg #[.int .i64 V, .slice A ns.length cap, .int .i64 R], .int .i64 m] w fun e w' => e = .returned (.int .i64 (m + 3 * (ns.length : Int))) ∧ w'.ownsRow base 89 3 (.slice A ns.length cap) ns.length (ncells (markNds m ns.length)) ∧ w.grownBy w' (Value.slice A ns.length cap).ownBlock := by
  have HA := Lib.hid (hA.alloc (.cells #[.int .i64 V, .slice A ns.length cap, .int .i64 R] 28))
  clear hA
  go_enter Try.func48, Try.ntmps48
  go_wp2_with (go_at_call 103; refine (markNodes_own base A cap ns m _ (by exact HA.out) hm0 hm hn).mono ?_; rintro e w1 ⟨rfl, ho1, hg1⟩)
  go_ret
  exact ⟨rfl, ho1, (World.grownBy_alloc _ _ _).trans hg1⟩

theorem heldBdd_any (V R : Int) (A : Option Addr) (cap : Nat) (m : Int) (n : Nat) (w : World) (hA : NAt w A (markNds m n)) (hm0 : 0 ≤ m) (hm : m ≤ 16777216) (hn : n ≤ 1048576) :
    Calls Try.prog 49 #[.agg #[.int .i64 V, .slice A n cap, .int .i64 R], .int .i64 m] w fun e w' => e = .returned (.int .i64 (m + 3 * (n : Int))) ∧ Below w.heap.size w w' := by
  have HA := Lib.hid (hA.below ((Below.refl w.heap.size w).alloc (Nat.le_refl _) (.cells #[.int .i64 V, .slice A n cap, .int .i64 R] 28)))
  have h0 : ¬ m + 3 * (n : Int) < 0 := by omega
  clear hA
  go_enter Try.func49, Try.ntmps49
  go_wp2_with (go_at_call 104; refine (heldNodes_any A cap m n _ (by exact HA.out) hm0 hm hn).mono ?_; rintro e w1 ⟨rfl, rfl⟩)
  go_ret
  exact ⟨rfl, (Below.refl w.heap.size w).alloc (Nat.le_refl _) _⟩
end Go.Proofs.Ytffefegjnbfobaa
