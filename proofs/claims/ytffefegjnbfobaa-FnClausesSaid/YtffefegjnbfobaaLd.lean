/- ldBdd of the laws, walked. -/
import Derived.Test.YtffefegjnbfobaaD
import Derived.Test.YtffefegjnbfobaaL0
namespace Go.Proofs.Ytffefegjnbfobaa
open Go.RowKit
open B

set_option maxRecDepth 100000 in
set_option maxHeartbeats 800000 in
theorem ldBdd_any (V V' R R' : Int) (A A' : Option Addr) (c c' : Nat) (ns ms : List Nd) (w : World) (hA : NAt w A ns) (hA' : NAt w A' ms) (hn : ns.length ≤ 1048576) (_hm : ms.length ≤ 1048576) :
    Calls Try.prog 15 #[.agg #[.int .i64 V, .slice A ns.length c, .int .i64 R], .agg #[.int .i64 V', .slice A' ms.length c', .int .i64 R']] w fun e w' => Says (SameB V V' R R' ns ms) e ∧ Below w.heap.size w w' := by
  have HA := Lib.hid hA
  have HA' := Lib.hid hA'
  clear hA hA'
  have HB2 : Hid (Below w.heap.size w ((w.alloc (.cells #[.int .i64 V, .slice A ns.length c, .int .i64 R] 28)).alloc (.cells #[.int .i64 V', .slice A' ms.length c', .int .i64 R'] 28))) := ((Below.refl _ _).alloc (Nat.le_refl _) _).alloc (by simp) _
  have X0 : Hid (Blk ((w.alloc (.cells #[.int .i64 V, .slice A ns.length c, .int .i64 R] 28)).alloc (.cells #[.int .i64 V', .slice A' ms.length c', .int .i64 R'] 28)) w.heap.size 28 #[.int .i64 V, .slice A ns.length c, .int .i64 R]) := (Blk.new w _ _).alloc _
  have X1 : Hid (Blk ((w.alloc (.cells #[.int .i64 V, .slice A ns.length c, .int .i64 R] 28)).alloc (.cells #[.int .i64 V', .slice A' ms.length c', .int .i64 R'] 28)) (w.heap.size + 1) 28 #[.int .i64 V', .slice A' ms.length c', .int .i64 R']) := Blk.new_at _ _ _ (by simp)
  obtain ⟨x0, x1, x2⟩ := X0.out.three
  by_cases hV : V = V'
  case neg =>
    have d : (V != V') = true := by rw [bne_iff_ne]; exact hV
    have hno : Hid (¬ SameB V V' R R' ns ms) := fun h => hV h.1
    clear hV
    go_enter Try.func15, Try.ntmps15
    go_wp2_with fail
    go_ret
    exact ⟨.no hno.out, HB2.out⟩
  subst hV
  by_cases hR : R = R'
  case neg =>
    have d : (R != R') = true := by rw [bne_iff_ne]; exact hR
    have d0 : (V != V) = false := by simp
    have hno : Hid (¬ SameB V V R R' ns ms) := fun h => hR h.2.1
    clear hR
    go_enter Try.func15, Try.ntmps15
    go_wp2_with fail
    go_ret
    exact ⟨.no hno.out, HB2.out⟩
  subst hR
  by_cases hl : ns.length = ms.length
  case neg =>
    have hne : Hid (¬ SameB V V R R ns ms) := fun e => hl (by rw [e.2.2])
    have d : ((ns.length : Int) != (ms.length : Int)) = true := by rw [bne_iff_ne]; omega
    clear hl
    go_enter Try.func15, Try.ntmps15
    go_wp2_with fail
    go_ret
    exact ⟨.no hne.out, HB2.out⟩
  have d : ((ns.length : Int) != (ms.length : Int)) = false := by rw [bne_eq_false_iff_eq]; omega
  have Hl := Lib.hid hl
  clear hl
  go_enter Try.func15, Try.ntmps15
  go_wp2_with fail
  clear d x0 x1 x2
  go_loopw [5] (fun i wr => ∃ k : Nat, k ≤ ns.length ∧ Hid (∀ j, j < k → ns[j]? = ms[j]?) ∧ Hid (Below w.heap.size w wr) ∧ Hid (Blk wr w.heap.size 28 #[.int .i64 V, .slice A ns.length c, .int .i64 R]) ∧ Hid (Blk wr (w.heap.size + 1) 28 #[.int .i64 V, .slice A' ms.length c', .int .i64 R]) ∧ i = .int .i64 k) (fun i _ => ns.length - (intOf i).toNat)
  case atStart => exact ⟨0, Nat.zero_le _, fun j hj => absurd hj (Nat.not_lt_zero _), HB2, X0, X1, rfl⟩
  case round =>
    obtain ⟨k, hk, hsame, hbw, Y0, Y1, rfl⟩ := hrel
    obtain ⟨y0, y1, y2⟩ := Y0.out.three
    obtain ⟨z0, z1, z2⟩ := Y1.out.three
    by_cases hlt : k < ns.length
    · have hlm : k < ms.length := by have := Hl.out; omega
      obtain ⟨b, off, rfl, c1, c2, c3⟩ := HA.out.get hbw.out hlt
      obtain ⟨b', off', rfl, c4, c5, c6⟩ := HA'.out.get hbw.out hlm
      have h0 : (0 : Int) ≤ k := by omega
      have g0 : ns[k]? = some ns[k] := List.getElem?_eq_getElem hlt
      have g1 : ms[k]? = some ms[k] := List.getElem?_eq_getElem hlm
      generalize ns[k] = n at *
      generalize ms[k] = m at *
      have G0 := Lib.hid g0
      have G1 := Lib.hid g1
      clear g0 g1
      have l1 : (k : Int) < (ns.length : Int) := by omega
      have l2 : (k : Int) < (ms.length : Int) := by omega
      have q1 := guard_node
      have q2 := eqin_node
      obtain ⟨bb, e24, HBB⟩ : ∃ bb, (n.v == m.v && (n.lo == m.lo && n.hi == m.hi)) = bb ∧ Hid (bb = true ↔ n = m) := ⟨_, rfl, by
        cases n; cases m; simp [Hid]⟩
      go_wp2_with fail
      go_quiet (fail)
      clear e24
      cases bb with
      | true =>
        have hnm : Hid (n = m) := HBB.out.1 rfl
        go_wp2_with fail
        go_roundw
        case rel =>
          refine ⟨k + 1, by omega, fun j hj => ?_, below_drewN hbw.out _, Y0, Y1, by go_num⟩
          by_cases e : j = k
          · subst e; rw [G0.out, G1.out, hnm.out]
          · exact hsame.out j (by omega)
        case measure => simp [intOf]; omega
      | false =>
        have hno : Hid (¬ SameB V V R R ns ms) := fun e => by
          have := G0.out; rw [e.2.2, G1.out] at this
          injection this with this
          have := HBB.out.2 this.symm
          cases this
        go_wp2_with fail
        go_ret
        exact ⟨.no hno.out, below_drewN hbw.out _⟩
    · go_wp2
      go_ret
      refine ⟨.yes ⟨rfl, rfl, List.ext_getElem? fun j => ?_⟩, hbw.out⟩
      by_cases hj : j < k
      · exact hsame.out j hj
      · rw [List.getElem?_eq_none (by omega), List.getElem?_eq_none (by have := Hl.out; omega)]
end Go.Proofs.Ytffefegjnbfobaa
