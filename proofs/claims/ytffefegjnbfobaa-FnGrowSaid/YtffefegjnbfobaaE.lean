/- Walks: slices.Equal at nodes, same, BddOk of the program. -/
import Derived.Test.YtffefegjnbfobaaD
namespace Go.Proofs.Ytffefegjnbfobaa
open Go.RowKit
open B

theorem guard_node : Try.prog.eqGuardType Try.prog.depth 89 = false := by kernel_rfl
theorem held_node : Try.prog.stoodInHeld 89 = false := by kernel_rfl

/-- Structs are compared field by field. -/
theorem equalIn_fields {P : Program} {w : World} {d : Nat} {t : TypeId} {fs : Array Field} {xs ys : Array Value} {r : Bool} (hu : P.underlying t = some (.struct fs)) (hp : P.stoodInHeld t = false) (h : (Op.eqFields d xs ys fs.toList).run P w = .ok r w) :
    (Op.equalIn (d + 1) t (.agg xs) (.agg ys)).run P w = .ok r w := by
  have hf : P.fieldsOf t = fs := by simp [Program.fieldsOf, hu]
  rw [run_equalIn_struct w d t xs ys (by rw [hf]; exact hu) hp, hf]
  exact h

theorem eqin_node (w : World) (x0 x1 x2 y0 y1 y2 : Int) : (Op.equalIn 10000 89 (.agg #[.int .i64 x0, .int .i64 x1, .int .i64 x2]) (.agg #[.int .i64 y0, .int .i64 y1, .int .i64 y2])).run Try.prog w = .ok (x0 == y0 && (x1 == y1 && x2 == y2)) w := by
  refine equalIn_fields (d := 9999) Try.underlying89 held_node ?_
  by_cases h0 : x0 = y0 <;> by_cases h1 : x1 = y1 <;> simp [Op.eqFields, go_sem, Try.underlying3, h0, h1]
  by_cases h2 : x2 = y2 <;> simp [h2]

set_option maxRecDepth 100000 in
set_option maxHeartbeats 400000 in
theorem equal_nodes (A A' : Option Addr) (c c' : Nat) (ns ms : List Nd) (w : World) (hA : NAt w A ns) (hA' : NAt w A' ms) (hn : ns.length ≤ 1048576) (_hm : ms.length ≤ 1048576) :
    Calls Try.prog 130 #[.slice A ns.length c, .slice A' ms.length c'] w fun e w' => Says (ns = ms) e ∧ Below w.heap.size w w' := by
  by_cases hl : ns.length = ms.length
  case neg =>
    have hne : Hid (¬ ns = ms) := fun e => hl (by rw [e])
    have d : ((ns.length : Int) != (ms.length : Int)) = true := by rw [bne_iff_ne]; omega
    clear hl
    go_enter Try.func130, Try.ntmps130
    go_wp2_with fail
    go_ret
    exact ⟨.no hne.out, Below.refl _ _⟩
  have d : ((ns.length : Int) != (ms.length : Int)) = false := by rw [bne_eq_false_iff_eq]; omega
  have Hl := Lib.hid hl
  clear hl
  go_enter Try.func130, Try.ntmps130
  go_wp2_with fail
  clear d
  go_loopw [13] (fun i wr => ∃ k : Nat, k ≤ ns.length ∧ Hid (∀ j, j < k → ns[j]? = ms[j]?) ∧ Below w.heap.size w wr ∧ i = .int .i64 k) (fun i _ => ns.length - (intOf i).toNat)
  case atStart => exact ⟨0, Nat.zero_le _, fun j hj => absurd hj (Nat.not_lt_zero _), Below.refl _ _, rfl⟩
  case round =>
    obtain ⟨k, hk, hsame, hbw, rfl⟩ := hrel
    by_cases hlt : k < ns.length
    · have hlm : k < ms.length := by have := Hl.out; omega
      obtain ⟨b, off, rfl, c1, c2, c3⟩ := hA.get hbw hlt
      obtain ⟨b', off', rfl, c4, c5, c6⟩ := hA'.get hbw hlm
      have h0 : (0 : Int) ≤ k := by omega
      have g0 : ns[k]? = some ns[k] := List.getElem?_eq_getElem hlt
      have g1 : ms[k]? = some ms[k] := List.getElem?_eq_getElem hlm
      generalize ns[k] = n at *
      generalize ms[k] = m at *
      have G0 := Lib.hid g0
      have G1 := Lib.hid g1
      clear g0 g1 hA hA'
      have l1 : (k : Int) < (ns.length : Int) := by omega
      have l2 : (k : Int) < (ms.length : Int) := by omega
      have q1 := guard_node
      have q2 := eqin_node
      obtain ⟨bb, e24, HBB⟩ : ∃ bb, (n.v == m.v && (n.lo == m.lo && n.hi == m.hi)) = bb ∧ Hid (bb = true ↔ n = m) := ⟨_, rfl, by
        cases n; cases m; simp [Hid]⟩
      go_wp2_with fail
      go_quiet (fail)
      clear e24
      cases bb with
      | true =>
        have hnm : Hid (n = m) := HBB.out.1 rfl
        go_wp2_with fail
        go_roundw
        case rel =>
          refine ⟨k + 1, by omega, fun j hj => ?_, below_drewN hbw _, by go_num⟩
          by_cases e : j = k
          · subst e; rw [G0.out, G1.out, hnm.out]
          · exact hsame.out j (by omega)
        case measure => simp [intOf]; omega
      | false =>
        have hno : Hid (¬ ns = ms) := fun e => by
          have := G0.out; rw [e, G1.out] at this
          injection this with this
          have := HBB.out.2 this.symm
          cases this
        go_wp2_with fail
        go_ret
        exact ⟨.no hno.out, below_drewN hbw _⟩
    · go_wp2
      go_ret
      refine ⟨.yes (List.ext_getElem? fun j => ?_), hbw⟩
      by_cases hj : j < k
      · exact hsame.out j hj
      · rw [List.getElem?_eq_none (by omega), List.getElem?_eq_none (by have := Hl.out; omega)]

/-- Two diagrams are the same. -/
def SameB (V V' R R' : Int) (ns ms : List Nd) : Prop := V = V' ∧ R = R' ∧ ns = ms

set_option maxRecDepth 100000 in
set_option maxHeartbeats 400000 in
theorem same_any (V V' R R' : Int) (A A' : Option Addr) (c c' : Nat) (ns ms : List Nd) (w : World) (hA : NAt w A ns) (hA' : NAt w A' ms) (hn : ns.length ≤ 1048576) (hm : ms.length ≤ 1048576) :
    Calls Try.prog 88 #[.agg #[.int .i64 V, .slice A ns.length c, .int .i64 R], .agg #[.int .i64 V', .slice A' ms.length c', .int .i64 R']] w fun e w' => Says (SameB V V' R R' ns ms) e ∧ Below w.heap.size w w' := by
  have HA := Lib.hid hA
  have HA' := Lib.hid hA'
  clear hA hA'
  have hb2 : ∀ o o' : Obj, Below w.heap.size w ((w.alloc o).alloc o') := fun o o' => ((Below.refl _ _).alloc (Nat.le_refl _) _).alloc (by simp) _
  have HB2 := Lib.hid hb2
  clear hb2
  by_cases hV : V = V'
  case neg =>
    have d : (V == V') = false := by simpa using hV
    have hno : Hid (¬ SameB V V' R R' ns ms) := fun h => hV h.1
    clear hV
    go_enter Try.func88, Try.ntmps88
    go_wp2_with fail
    go_ret
    exact ⟨.no hno.out, HB2.out _ _⟩
  subst hV
  by_cases hR : R = R'
  case neg =>
    have d : (R == R') = false := by simpa using hR
    have hno : Hid (¬ SameB V V R R' ns ms) := fun h => hR h.2.1
    clear hR
    go_enter Try.func88, Try.ntmps88
    go_wp2_with fail
    go_ret
    exact ⟨.no hno.out, HB2.out _ _⟩
  subst hR
  go_enter Try.func88, Try.ntmps88
  go_wp2_with fail
  refine (equal_nodes A A' c c' ns ms _ (HA.out.below (HB2.out _ _)) (HA'.out.below (HB2.out _ _)) hn hm).mono ?_
  rintro e w1 ⟨hs, hb⟩
  have HB := Lib.hid hb
  clear hb
  rcases hs with ⟨rfl, hs⟩ | ⟨rfl, hs⟩
  · have HS := Lib.hid hs
    clear hs
    go_wp2_with fail
    go_ret
    exact ⟨.yes ⟨rfl, rfl, HS.out⟩, (HB2.out _ _).trans (HB.out.mono (by simp; omega))⟩
  · have HS := Lib.hid hs
    clear hs
    go_wp2_with fail
    go_ret
    exact ⟨.no (fun h => HS.out h.2.2), (HB2.out _ _).trans (HB.out.mono (by simp; omega))⟩
end Go.Proofs.Ytffefegjnbfobaa
