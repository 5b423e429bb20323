/- Part 11 of what the row Row28 rests on: G8. -/
import Derived.Test.YtmolbnghobfmoaaGreatP10
set_option maxRecDepth 100000
set_option maxHeartbeats 16000000
set_option linter.unusedSimpArgs false
set_option linter.unusedVariables false
namespace Go.Proofs.YtmolbnghobfmoaaGreat
open Go.RowKit
def zAh (w : World) (A : Option Addr) (ss : List So) : Prop :=
 0 < ss.length → ∃ g, A = some ⟨g, 0, none⟩ ∧ g < w.heap.size ∧ ∀ k (h : k < ss.length), w.cell? ⟨g, k * 2, none⟩ = some (.int .i64 ss[k].i) ∧ w.cell? ⟨g, k * 2 + 1, none⟩ = some (.int .i64 ss[k].w)
structure RX (w : World) (cs r : Array Value) (W : World) : Prop where
 bel : Below w.heap.size w W
 b0 : Blk W w.heap.size 42 cs
 b1 : Blk W (w.heap.size + 1) 40 r
section
variable {w W W' : World} {cs : Array Value} {r : Array Value}
theorem RX.below (h : RX w cs r W) (hb : Below W.heap.size W W') : RX w cs r W' := ⟨h.bel.trans (hb.mono h.bel.size), h.b0.below hb h.b0.lt, h.b1.below hb h.b1.lt⟩
theorem RX.drew (h : RX w cs r W) : RX w cs r W.drew := h.below (Below.refl _ _).drew
theorem RX.put (h : RX w cs r W) {x0 y0 : Value} (e : r = #[x0, y0]) (x y : Value) : RX w cs #[x, y] ((W.setCell ⟨w.heap.size + 1, 0, none⟩ x).setCell ⟨w.heap.size + 1, 1, none⟩ y) := by
 subst e; have ne : w.heap.size ≠ w.heap.size + 1 := by omega
 exact ⟨zB2 h.bel (by omega) _ _, (h.b0.far (p := ⟨w.heap.size + 1, 0, none⟩) ne _).far (p := ⟨w.heap.size + 1, 1, none⟩) ne _, h.b1.put2 x y⟩
theorem RX.old (h : RX w cs r W) {g i : Nat} {v : Value} (hg : g < w.heap.size) (hc : w.cell? ⟨g, i, none⟩ = some v) : W.cell? ⟨g, i, none⟩ = some v := (h.bel.cell (p := ⟨g, i, none⟩) hg).trans hc
end
abbrev RXb (w : World) (cs : Array Value) (x y : Int) (r : Bool) (W : World) : Prop := RX w cs (if r = true then #[.int .i64 x, .int .i64 y] else #[.int .i64 0, .int .i64 0]) W
theorem RXb.store {w W : World} {cs : Array Value} {x y : Int} {r : Bool} (h : RXb w cs x y r W) : W.cell? ⟨w.heap.size + 1, 0, none⟩ = some (.int .i64 (if r = true then x else 0)) ∧ W.cell? ⟨w.heap.size + 1, 1, none⟩ = some (.int .i64 (if r = true then y else 0)) ∧
 W.frozen? ⟨w.heap.size + 1, 0, none⟩ = false ∧ W.frozen? ⟨w.heap.size + 1, 1, none⟩ = false ∧ RXb w cs x y true ((W.setCell ⟨w.heap.size + 1, 0, none⟩ (.int .i64 x)).setCell ⟨w.heap.size + 1, 1, none⟩ (.int .i64 y)) := by
 cases r
 · exact ⟨h.b1.two.1, h.b1.two.2, h.b1.frozen 0, h.b1.frozen 1, h.put rfl _ _⟩
 · exact ⟨h.b1.two.1, h.b1.two.2, h.b1.frozen 0, h.b1.frozen 1, h.put rfl _ _⟩
theorem RXb.some {w W : World} {cs : Array Value} {x y : Int} (h : RX w cs #[.int .i64 0, .int .i64 0] W) (r : Bool) : Nonempty (Cls (RXb w cs x y r)) := by
 cases r
 · exact ⟨⟨_, h⟩⟩
 · exact ⟨⟨_, h.put rfl (.int .i64 x) (.int .i64 y)⟩⟩
theorem zLi {P : Program} {w : World} {cs : Array Value} {s t : Int} {r : Bool} {f : FuncId} {args : Array Value} {v : Value} (x : Cls (RXb w cs s t r)) (h : Calls P f args x.1 fun e w' => e = .returned v ∧ Below x.1.heap.size x.1 w') :
 Calls P f args x.1 fun e w'' => e = .returned v ∧ ∃ y : Cls (RXb w cs s t r), w'' = y.1 :=
 h.mono fun _ w'' ⟨he, hw⟩ => ⟨he, ⟨w'', RX.below x.2 hw⟩, rfl⟩
theorem RX.made (w : World) (cs : Array Value) : RX w cs #[.int .i64 0, .int .i64 0] ((w.alloc (.cells cs 42)).alloc (.cells #[.int .i64 0, .int .i64 0] 40)) :=
 ⟨((Below.refl _ _).alloc (Nat.le_refl _) _).alloc (by simp) _, (Blk.new _ _ _).alloc _, Blk.new_at _ _ _ (by simp)⟩
theorem zGi (A : Option Addr) (cap : Nat) (na nb nc nn nm si sw : Int) (nt : ByteArray) (a b c : So) (w : World) (hS : zAh w A [a, b, c]) : Calls Tryz.prog 157 #[.agg #[.int .i64 33, .int .i64 na, .int .i64 nb, .int .i64 nc, .int .i64 nn, .int .i64 nm, .int .i64 si, .int .i64 sw, .string nt], .slice A 3 cap] w fun e w' => SoP (zNp ⟨33, na, nb, nc, nn, nm, ⟨si, sw⟩, nt⟩ a b c) w e w' := by
 obtain ⟨g, rfl, hg, hc⟩ := hS (by simp)
 obtain ⟨y0, y1⟩ := hc 0 (by simp)
 obtain ⟨y2, y3⟩ := hc 1 (by simp)
 obtain ⟨y4, y5⟩ := hc 2 (by simp)
 simp only [List.getElem_cons_zero, List.getElem_cons_succ, Nat.zero_mul, Nat.zero_add, Nat.one_mul, Nat.reduceMul, Nat.reduceAdd] at y0 y1 y2 y3 y4 y5; clear hc hS; have Y0 := Kh y0; have Y1 := Kh y1; have Y2 := Kh y2; have Y3 := Kh y3; have Y4 := Kh y4; have Y5 := Kh y5; clear y0 y1 y2 y3 y4 y5; obtain ⟨x0, h0⟩ : ∃ x, decide (a.i = 0 ∧ a.w = 1) = x := ⟨_, rfl⟩
 obtain ⟨x1, h1⟩ : ∃ x, decide (b.i = c.i ∧ b.w = c.w) = x := ⟨_, rfl⟩
 have HS : Hid (zNp ⟨33, na, nb, nc, nn, nm, ⟨si, sw⟩, nt⟩ a b c = if (x0 && x1) = true then some b else none) := Kh (by
  rw [← h0, ← h1]; unfold zNp; rw [if_neg (show ¬ ((33 : Int) = 35 ∨ (33 : Int) = 36) by decide), if_neg (show ¬ (33 : Int) = 34 by decide), if_pos rfl]; simp [So.ext_iff, wS])
 have q0 := fun w => zDq h0 w
 clear h0; have q1 := fun w => zDq h1 w
 clear h1
 cases x0
 case false =>
  have S0 := Kh (RX.made w #[.int .i64 33, .int .i64 na, .int .i64 nb, .int .i64 nc, .int .i64 nn, .int .i64 nm, .int .i64 si, .int .i64 sw, .string nt])
  go_enter Tryz.func157, Tryz.ntmps157
  go_wp2_with fail
  obtain ⟨wz, hwz⟩ : ∃ z, ((w.alloc (.cells #[.int .i64 33, .int .i64 na, .int .i64 nb, .int .i64 nc, .int .i64 nn, .int .i64 nm, .int .i64 si, .int .i64 sw, .string nt] 42)).alloc (.cells #[.int .i64 0, .int .i64 0] 40)) = z := ⟨_, rfl⟩
  rw [hwz] at S0 ⊢; clear hwz
  refine zR8 (D := RXb w #[.int .i64 33, .int .i64 na, .int .i64 nb, .int .i64 nc, .int .i64 nn, .int .i64 nm, .int .i64 si, .int .i64 sw, .string nt] (b.i) (b.w)) 17 rfl (by kernel_rfl) (by kernel_rfl) (by kernel_rfl) rfl rfl S0.out.drew ?_
  apply Exists.intro
  refine ⟨fun r K hK => ?_, fun r W hD => ?_, ?_, ?_⟩
  · have k0 := fun x : Cls (RXb w #[.int .i64 33, .int .i64 na, .int .i64 nb, .int .i64 nc, .int .i64 nn, .int .i64 nm, .int .i64 si, .int .i64 sw, .string nt] (b.i) (b.w) r) => x.2.old hg Y0.out
    have k1 := fun x : Cls (RXb w #[.int .i64 33, .int .i64 na, .int .i64 nb, .int .i64 nc, .int .i64 nn, .int .i64 nm, .int .i64 si, .int .i64 sw, .string nt] (b.i) (b.w) r) => x.2.old hg Y1.out
    have k2 := fun x : Cls (RXb w #[.int .i64 33, .int .i64 na, .int .i64 nb, .int .i64 nc, .int .i64 nn, .int .i64 nm, .int .i64 si, .int .i64 sw, .string nt] (b.i) (b.w) r) => x.2.old hg Y2.out
    have k3 := fun x : Cls (RXb w #[.int .i64 33, .int .i64 na, .int .i64 nb, .int .i64 nc, .int .i64 nn, .int .i64 nm, .int .i64 si, .int .i64 sw, .string nt] (b.i) (b.w) r) => x.2.old hg Y3.out
    have k4 := fun x : Cls (RXb w #[.int .i64 33, .int .i64 na, .int .i64 nb, .int .i64 nc, .int .i64 nn, .int .i64 nm, .int .i64 si, .int .i64 sw, .string nt] (b.i) (b.w) r) => x.2.old hg Y4.out
    have k5 := fun x : Cls (RXb w #[.int .i64 33, .int .i64 na, .int .i64 nb, .int .i64 nc, .int .i64 nn, .int .i64 nm, .int .i64 si, .int .i64 sw, .string nt] (b.i) (b.w) r) => x.2.old hg Y5.out
    have hne : Nonempty (Cls (RXb w #[.int .i64 33, .int .i64 na, .int .i64 nb, .int .i64 nc, .int .i64 nn, .int .i64 nm, .int .i64 si, .int .i64 sw, .string nt] (b.i) (b.w) r)) := RXb.some S0.out r; simp only [List.take_succ_cons, List.take_zero]
    repeat go_big_quiet_step ((go_at_call 104; exact zLi _ (zGo _ _)))
    exact wpQuiet_nil hK.out
  · obtain ⟨c0, c1, f0, f1, hD'⟩ := hD.store
    refine ⟨_, ?_, hD'⟩
    simp [execOp, go_sem, c0, c1, f0, f1]
  · kernel_rfl
  apply Exists.intro
  refine ⟨fun r K hK => ?_, fun W hD => ?_⟩
  · simp only [List.drop_succ_cons, List.drop_zero]
    have hne : Nonempty (Cls (RXb w #[.int .i64 33, .int .i64 na, .int .i64 nb, .int .i64 nc, .int .i64 nn, .int .i64 nm, .int .i64 si, .int .i64 sw, .string nt] (b.i) (b.w) r)) := RXb.some S0.out r
    repeat go_big_quiet_step (fail)
    exact wpQuiet_nil hK.out
  · go_wp2_with fail
    obtain ⟨u0, u1⟩ := hD.b1.two
    exact bodyPost_ret (v := .tuple #[.agg #[.int .i64 (b.i), .int .i64 (b.w)], .bool false]) (by simp [results, Tryz.results157, go_sem, u0, u1]) rfl ⟨⟨b.i, b.w⟩, false, rfl, HS.out.trans (by simp), hD.bel⟩
 case true =>
  have S0 := Kh (RX.made w #[.int .i64 33, .int .i64 na, .int .i64 nb, .int .i64 nc, .int .i64 nn, .int .i64 nm, .int .i64 si, .int .i64 sw, .string nt])
  go_enter Tryz.func157, Tryz.ntmps157
  go_wp2_with fail
  obtain ⟨wz, hwz⟩ : ∃ z, ((w.alloc (.cells #[.int .i64 33, .int .i64 na, .int .i64 nb, .int .i64 nc, .int .i64 nn, .int .i64 nm, .int .i64 si, .int .i64 sw, .string nt] 42)).alloc (.cells #[.int .i64 0, .int .i64 0] 40)) = z := ⟨_, rfl⟩
  rw [hwz] at S0 ⊢; clear hwz
  refine zR8 (D := RXb w #[.int .i64 33, .int .i64 na, .int .i64 nb, .int .i64 nc, .int .i64 nn, .int .i64 nm, .int .i64 si, .int .i64 sw, .string nt] (b.i) (b.w)) 17 rfl (by kernel_rfl) (by kernel_rfl) (by kernel_rfl) rfl rfl S0.out.drew ?_
  apply Exists.intro
  refine ⟨fun r K hK => ?_, fun r W hD => ?_, ?_, ?_⟩
  · have k0 := fun x : Cls (RXb w #[.int .i64 33, .int .i64 na, .int .i64 nb, .int .i64 nc, .int .i64 nn, .int .i64 nm, .int .i64 si, .int .i64 sw, .string nt] (b.i) (b.w) r) => x.2.old hg Y0.out
    have k1 := fun x : Cls (RXb w #[.int .i64 33, .int .i64 na, .int .i64 nb, .int .i64 nc, .int .i64 nn, .int .i64 nm, .int .i64 si, .int .i64 sw, .string nt] (b.i) (b.w) r) => x.2.old hg Y1.out
    have k2 := fun x : Cls (RXb w #[.int .i64 33, .int .i64 na, .int .i64 nb, .int .i64 nc, .int .i64 nn, .int .i64 nm, .int .i64 si, .int .i64 sw, .string nt] (b.i) (b.w) r) => x.2.old hg Y2.out
    have k3 := fun x : Cls (RXb w #[.int .i64 33, .int .i64 na, .int .i64 nb, .int .i64 nc, .int .i64 nn, .int .i64 nm, .int .i64 si, .int .i64 sw, .string nt] (b.i) (b.w) r) => x.2.old hg Y3.out
    have k4 := fun x : Cls (RXb w #[.int .i64 33, .int .i64 na, .int .i64 nb, .int .i64 nc, .int .i64 nn, .int .i64 nm, .int .i64 si, .int .i64 sw, .string nt] (b.i) (b.w) r) => x.2.old hg Y4.out
    have k5 := fun x : Cls (RXb w #[.int .i64 33, .int .i64 na, .int .i64 nb, .int .i64 nc, .int .i64 nn, .int .i64 nm, .int .i64 si, .int .i64 sw, .string nt] (b.i) (b.w) r) => x.2.old hg Y5.out
    have hne : Nonempty (Cls (RXb w #[.int .i64 33, .int .i64 na, .int .i64 nb, .int .i64 nc, .int .i64 nn, .int .i64 nm, .int .i64 si, .int .i64 sw, .string nt] (b.i) (b.w) r)) := RXb.some S0.out r; simp only [List.take_succ_cons, List.take_zero]
    repeat go_big_quiet_step ((go_at_call 104; exact zLi _ (zGo _ _)))
    exact wpQuiet_nil hK.out
  · obtain ⟨c0, c1, f0, f1, hD'⟩ := hD.store
    refine ⟨_, ?_, hD'⟩
    simp [execOp, go_sem, c0, c1, f0, f1]
  · kernel_rfl
  apply Exists.intro
  refine ⟨fun r K hK => ?_, fun W hD => ?_⟩
  · simp only [List.drop_succ_cons, List.drop_zero]
    have hne : Nonempty (Cls (RXb w #[.int .i64 33, .int .i64 na, .int .i64 nb, .int .i64 nc, .int .i64 nn, .int .i64 nm, .int .i64 si, .int .i64 sw, .string nt] (b.i) (b.w) r)) := RXb.some S0.out r
    repeat go_big_quiet_step (fail)
    exact wpQuiet_nil hK.out
  · go_wp2_with fail
    obtain ⟨u0, u1⟩ := hD.b1.two
    exact bodyPost_ret (v := .tuple #[.agg #[.int .i64 (b.i), .int .i64 (b.w)], .bool x1]) (by simp [results, Tryz.results157, go_sem, u0, u1]) rfl ⟨⟨b.i, b.w⟩, x1, rfl, HS.out.trans (by cases x1 <;> simp), hD.bel⟩
theorem zGj (A : Option Addr) (cap : Nat) (na nb nc nn nm si sw : Int) (nt : ByteArray) (a b : So) (w : World) (hS : zAh w A [a, b]) : Calls Tryz.prog 157 #[.agg #[.int .i64 37, .int .i64 na, .int .i64 nb, .int .i64 nc, .int .i64 nn, .int .i64 nm, .int .i64 si, .int .i64 sw, .string nt], .slice A 2 cap] w fun e w' => SoP (zNp ⟨37, na, nb, nc, nn, nm, ⟨si, sw⟩, nt⟩ a b ⟨0, 0⟩) w e w' := by
 obtain ⟨g, rfl, hg, hc⟩ := hS (by simp)
 obtain ⟨y0, y1⟩ := hc 0 (by simp)
 obtain ⟨y2, y3⟩ := hc 1 (by simp)
 simp only [List.getElem_cons_zero, List.getElem_cons_succ, Nat.zero_mul, Nat.zero_add, Nat.one_mul, Nat.reduceMul, Nat.reduceAdd] at y0 y1 y2 y3; clear hc hS; have Y0 := Kh y0; have Y1 := Kh y1; have Y2 := Kh y2; have Y3 := Kh y3; clear y0 y1 y2 y3; obtain ⟨x1, h1⟩ : ∃ x, decide (b.i = 0 ∧ b.w = a.i) = x := ⟨_, rfl⟩
 have q1 := fun w => zDq h1 w
 have HS : Hid (zNp ⟨37, na, nb, nc, nn, nm, ⟨si, sw⟩, nt⟩ a b ⟨0, 0⟩ = if (decide (0 < a.i) && x1) = true then some ⟨0, a.w⟩ else none) := Kh (by
  rw [← h1]; unfold zNp; rw [if_neg (show ¬ ((37 : Int) = 35 ∨ (37 : Int) = 36) by decide), if_neg (show ¬ (37 : Int) = 34 by decide), if_neg (show ¬ (37 : Int) = 33 by decide), if_neg (show ¬ (37 : Int) = 21 by decide), if_pos rfl]; simp [So.ext_iff, wS])
 clear h1
 by_cases ha : 0 < a.i
 case pos =>
  have d1 : decide (0 < a.i) = true := decide_eq_true ha; rw [d1] at HS; have S0 := Kh (RX.made w #[.int .i64 37, .int .i64 na, .int .i64 nb, .int .i64 nc, .int .i64 nn, .int .i64 nm, .int .i64 si, .int .i64 sw, .string nt])
  go_enter Tryz.func157, Tryz.ntmps157
  go_wp2_with fail
  obtain ⟨wz, hwz⟩ : ∃ z, ((w.alloc (.cells #[.int .i64 37, .int .i64 na, .int .i64 nb, .int .i64 nc, .int .i64 nn, .int .i64 nm, .int .i64 si, .int .i64 sw, .string nt] 42)).alloc (.cells #[.int .i64 0, .int .i64 0] 40)) = z := ⟨_, rfl⟩
  rw [hwz] at S0 ⊢; clear hwz
  refine zR8 (D := RXb w #[.int .i64 37, .int .i64 na, .int .i64 nb, .int .i64 nc, .int .i64 nn, .int .i64 nm, .int .i64 si, .int .i64 sw, .string nt] (0) (a.w)) 21 rfl (by kernel_rfl) (by kernel_rfl) (by kernel_rfl) rfl rfl S0.out.drew ?_
  apply Exists.intro
  refine ⟨fun r K hK => ?_, fun r W hD => ?_, ?_, ?_⟩
  · have k0 := fun x : Cls (RXb w #[.int .i64 37, .int .i64 na, .int .i64 nb, .int .i64 nc, .int .i64 nn, .int .i64 nm, .int .i64 si, .int .i64 sw, .string nt] (0) (a.w) r) => x.2.old hg Y0.out
    have k1 := fun x : Cls (RXb w #[.int .i64 37, .int .i64 na, .int .i64 nb, .int .i64 nc, .int .i64 nn, .int .i64 nm, .int .i64 si, .int .i64 sw, .string nt] (0) (a.w) r) => x.2.old hg Y1.out
    have k2 := fun x : Cls (RXb w #[.int .i64 37, .int .i64 na, .int .i64 nb, .int .i64 nc, .int .i64 nn, .int .i64 nm, .int .i64 si, .int .i64 sw, .string nt] (0) (a.w) r) => x.2.old hg Y2.out
    have k3 := fun x : Cls (RXb w #[.int .i64 37, .int .i64 na, .int .i64 nb, .int .i64 nc, .int .i64 nn, .int .i64 nm, .int .i64 si, .int .i64 sw, .string nt] (0) (a.w) r) => x.2.old hg Y3.out
    have hne : Nonempty (Cls (RXb w #[.int .i64 37, .int .i64 na, .int .i64 nb, .int .i64 nc, .int .i64 nn, .int .i64 nm, .int .i64 si, .int .i64 sw, .string nt] (0) (a.w) r)) := RXb.some S0.out r; simp only [List.take_succ_cons, List.take_zero]
    repeat go_big_quiet_step ((go_at_call 104; exact zLi _ (zGo _ _)))
    exact wpQuiet_nil hK.out
  · obtain ⟨c0, c1, f0, f1, hD'⟩ := hD.store
    refine ⟨_, ?_, hD'⟩
    simp [execOp, go_sem, c0, c1, f0, f1]
  · kernel_rfl
  apply Exists.intro
  refine ⟨fun r K hK => ?_, fun W hD => ?_⟩
  · simp only [List.drop_succ_cons, List.drop_zero]
    have hne : Nonempty (Cls (RXb w #[.int .i64 37, .int .i64 na, .int .i64 nb, .int .i64 nc, .int .i64 nn, .int .i64 nm, .int .i64 si, .int .i64 sw, .string nt] (0) (a.w) r)) := RXb.some S0.out r
    repeat go_big_quiet_step (fail)
    exact wpQuiet_nil hK.out
  · go_wp2_with fail
    obtain ⟨u0, u1⟩ := hD.b1.two
    exact bodyPost_ret (v := .tuple #[.agg #[.int .i64 (0), .int .i64 (a.w)], .bool x1]) (by simp [results, Tryz.results157, go_sem, u0, u1]) rfl ⟨⟨0, a.w⟩, x1, rfl, HS.out.trans (by cases x1 <;> simp), hD.bel⟩
 case neg =>
  have d1 : decide (0 < a.i) = false := decide_eq_false ha; rw [d1] at HS; have S0 := Kh (RX.made w #[.int .i64 37, .int .i64 na, .int .i64 nb, .int .i64 nc, .int .i64 nn, .int .i64 nm, .int .i64 si, .int .i64 sw, .string nt])
  go_enter Tryz.func157, Tryz.ntmps157
  go_wp2_with fail
  obtain ⟨wz, hwz⟩ : ∃ z, ((w.alloc (.cells #[.int .i64 37, .int .i64 na, .int .i64 nb, .int .i64 nc, .int .i64 nn, .int .i64 nm, .int .i64 si, .int .i64 sw, .string nt] 42)).alloc (.cells #[.int .i64 0, .int .i64 0] 40)) = z := ⟨_, rfl⟩
  rw [hwz] at S0 ⊢; clear hwz
  refine zR8 (D := RXb w #[.int .i64 37, .int .i64 na, .int .i64 nb, .int .i64 nc, .int .i64 nn, .int .i64 nm, .int .i64 si, .int .i64 sw, .string nt] (0) (a.w)) 21 rfl (by kernel_rfl) (by kernel_rfl) (by kernel_rfl) rfl rfl S0.out.drew ?_
  apply Exists.intro
  refine ⟨fun r K hK => ?_, fun r W hD => ?_, ?_, ?_⟩
  · have k0 := fun x : Cls (RXb w #[.int .i64 37, .int .i64 na, .int .i64 nb, .int .i64 nc, .int .i64 nn, .int .i64 nm, .int .i64 si, .int .i64 sw, .string nt] (0) (a.w) r) => x.2.old hg Y0.out
    have k1 := fun x : Cls (RXb w #[.int .i64 37, .int .i64 na, .int .i64 nb, .int .i64 nc, .int .i64 nn, .int .i64 nm, .int .i64 si, .int .i64 sw, .string nt] (0) (a.w) r) => x.2.old hg Y1.out
    have k2 := fun x : Cls (RXb w #[.int .i64 37, .int .i64 na, .int .i64 nb, .int .i64 nc, .int .i64 nn, .int .i64 nm, .int .i64 si, .int .i64 sw, .string nt] (0) (a.w) r) => x.2.old hg Y2.out
    have k3 := fun x : Cls (RXb w #[.int .i64 37, .int .i64 na, .int .i64 nb, .int .i64 nc, .int .i64 nn, .int .i64 nm, .int .i64 si, .int .i64 sw, .string nt] (0) (a.w) r) => x.2.old hg Y3.out
    have hne : Nonempty (Cls (RXb w #[.int .i64 37, .int .i64 na, .int .i64 nb, .int .i64 nc, .int .i64 nn, .int .i64 nm, .int .i64 si, .int .i64 sw, .string nt] (0) (a.w) r)) := RXb.some S0.out r; simp only [List.take_succ_cons, List.take_zero]
    repeat go_big_quiet_step ((go_at_call 104; exact zLi _ (zGo _ _)))
    exact wpQuiet_nil hK.out
  · obtain ⟨c0, c1, f0, f1, hD'⟩ := hD.store
    refine ⟨_, ?_, hD'⟩
    simp [execOp, go_sem, c0, c1, f0, f1]
  · kernel_rfl
  apply Exists.intro
  refine ⟨fun r K hK => ?_, fun W hD => ?_⟩
  · simp only [List.drop_succ_cons, List.drop_zero]
    have hne : Nonempty (Cls (RXb w #[.int .i64 37, .int .i64 na, .int .i64 nb, .int .i64 nc, .int .i64 nn, .int .i64 nm, .int .i64 si, .int .i64 sw, .string nt] (0) (a.w) r)) := RXb.some S0.out r
    repeat go_big_quiet_step (fail)
    exact wpQuiet_nil hK.out
  · go_wp2_with fail
    obtain ⟨u0, u1⟩ := hD.b1.two
    exact bodyPost_ret (v := .tuple #[.agg #[.int .i64 (0), .int .i64 (a.w)], .bool false]) (by simp [results, Tryz.results157, go_sem, u0, u1]) rfl ⟨⟨0, a.w⟩, false, rfl, HS.out.trans (by simp), hD.bel⟩
theorem zGk (A : Option Addr) (cap : Nat) (na nb nc nn nm si sw : Int) (nt : ByteArray) (a b c : So) (w : World) (hS : zAh w A [a, b, c]) : Calls Tryz.prog 157 #[.agg #[.int .i64 38, .int .i64 na, .int .i64 nb, .int .i64 nc, .int .i64 nn, .int .i64 nm, .int .i64 si, .int .i64 sw, .string nt], .slice A 3 cap] w fun e w' => SoP (zNp ⟨38, na, nb, nc, nn, nm, ⟨si, sw⟩, nt⟩ a b c) w e w' := by
 obtain ⟨g, rfl, hg, hc⟩ := hS (by simp)
 obtain ⟨y0, y1⟩ := hc 0 (by simp)
 obtain ⟨y2, y3⟩ := hc 1 (by simp)
 obtain ⟨y4, y5⟩ := hc 2 (by simp)
 simp only [List.getElem_cons_zero, List.getElem_cons_succ, Nat.zero_mul, Nat.zero_add, Nat.one_mul, Nat.reduceMul, Nat.reduceAdd] at y0 y1 y2 y3 y4 y5; clear hc hS; have Y0 := Kh y0; have Y1 := Kh y1; have Y2 := Kh y2; have Y3 := Kh y3; have Y4 := Kh y4; have Y5 := Kh y5; clear y0 y1 y2 y3 y4 y5; obtain ⟨x1, h1⟩ : ∃ x, decide (b.i = 0 ∧ b.w = a.i) = x := ⟨_, rfl⟩
 have q1 := fun w => zDq h1 w
 obtain ⟨x2, h2⟩ : ∃ x, decide (c.i = 0 ∧ c.w = a.w) = x := ⟨_, rfl⟩
 have q2 := fun w => zDq h2 w
 have HS : Hid (zNp ⟨38, na, nb, nc, nn, nm, ⟨si, sw⟩, nt⟩ a b c = if (decide (0 < a.i) && (x1 && x2)) = true then some a else none) := Kh (by
  rw [← h1, ← h2]; unfold zNp; rw [if_neg (show ¬ ((38 : Int) = 35 ∨ (38 : Int) = 36) by decide), if_neg (show ¬ (38 : Int) = 34 by decide), if_neg (show ¬ (38 : Int) = 33 by decide), if_neg (show ¬ (38 : Int) = 21 by decide), if_neg (show ¬ (38 : Int) = 37 by decide), if_pos rfl]; simp [So.ext_iff, wS])
 clear h1 h2
 by_cases ha : 0 < a.i
 case neg =>
  have d1 : decide (0 < a.i) = false := decide_eq_false ha; rw [d1] at HS; have S0 := Kh (RX.made w #[.int .i64 38, .int .i64 na, .int .i64 nb, .int .i64 nc, .int .i64 nn, .int .i64 nm, .int .i64 si, .int .i64 sw, .string nt])
  go_enter Tryz.func157, Tryz.ntmps157
  go_wp2_with fail
  obtain ⟨wz, hwz⟩ : ∃ z, ((w.alloc (.cells #[.int .i64 38, .int .i64 na, .int .i64 nb, .int .i64 nc, .int .i64 nn, .int .i64 nm, .int .i64 si, .int .i64 sw, .string nt] 42)).alloc (.cells #[.int .i64 0, .int .i64 0] 40)) = z := ⟨_, rfl⟩
  rw [hwz] at S0 ⊢; clear hwz
  refine zR8 (D := RXb w #[.int .i64 38, .int .i64 na, .int .i64 nb, .int .i64 nc, .int .i64 nn, .int .i64 nm, .int .i64 si, .int .i64 sw, .string nt] (a.i) (a.w)) 30 rfl (by kernel_rfl) (by kernel_rfl) (by kernel_rfl) rfl rfl S0.out.drew ?_
  apply Exists.intro
  refine ⟨fun r K hK => ?_, fun r W hD => ?_, ?_, ?_⟩
  · have k0 := fun x : Cls (RXb w #[.int .i64 38, .int .i64 na, .int .i64 nb, .int .i64 nc, .int .i64 nn, .int .i64 nm, .int .i64 si, .int .i64 sw, .string nt] (a.i) (a.w) r) => x.2.old hg Y0.out
    have k1 := fun x : Cls (RXb w #[.int .i64 38, .int .i64 na, .int .i64 nb, .int .i64 nc, .int .i64 nn, .int .i64 nm, .int .i64 si, .int .i64 sw, .string nt] (a.i) (a.w) r) => x.2.old hg Y1.out
    have k2 := fun x : Cls (RXb w #[.int .i64 38, .int .i64 na, .int .i64 nb, .int .i64 nc, .int .i64 nn, .int .i64 nm, .int .i64 si, .int .i64 sw, .string nt] (a.i) (a.w) r) => x.2.old hg Y2.out
    have k3 := fun x : Cls (RXb w #[.int .i64 38, .int .i64 na, .int .i64 nb, .int .i64 nc, .int .i64 nn, .int .i64 nm, .int .i64 si, .int .i64 sw, .string nt] (a.i) (a.w) r) => x.2.old hg Y3.out
    have k4 := fun x : Cls (RXb w #[.int .i64 38, .int .i64 na, .int .i64 nb, .int .i64 nc, .int .i64 nn, .int .i64 nm, .int .i64 si, .int .i64 sw, .string nt] (a.i) (a.w) r) => x.2.old hg Y4.out
    have k5 := fun x : Cls (RXb w #[.int .i64 38, .int .i64 na, .int .i64 nb, .int .i64 nc, .int .i64 nn, .int .i64 nm, .int .i64 si, .int .i64 sw, .string nt] (a.i) (a.w) r) => x.2.old hg Y5.out
    have hne : Nonempty (Cls (RXb w #[.int .i64 38, .int .i64 na, .int .i64 nb, .int .i64 nc, .int .i64 nn, .int .i64 nm, .int .i64 si, .int .i64 sw, .string nt] (a.i) (a.w) r)) := RXb.some S0.out r; simp only [List.take_succ_cons, List.take_zero]
    repeat go_big_quiet_step ((go_at_call 104; exact zLi _ (zGo _ _)))
    exact wpQuiet_nil hK.out
  · obtain ⟨c0, c1, f0, f1, hD'⟩ := hD.store
    refine ⟨_, ?_, hD'⟩
    simp [execOp, go_sem, c0, c1, f0, f1]
  · kernel_rfl
  apply Exists.intro
  refine ⟨fun r K hK => ?_, fun W hD => ?_⟩
  · simp only [List.drop_succ_cons, List.drop_zero]
    have hne : Nonempty (Cls (RXb w #[.int .i64 38, .int .i64 na, .int .i64 nb, .int .i64 nc, .int .i64 nn, .int .i64 nm, .int .i64 si, .int .i64 sw, .string nt] (a.i) (a.w) r)) := RXb.some S0.out r
    repeat go_big_quiet_step (fail)
    exact wpQuiet_nil hK.out
  · go_wp2_with fail
    obtain ⟨u0, u1⟩ := hD.b1.two
    exact bodyPost_ret (v := .tuple #[.agg #[.int .i64 (a.i), .int .i64 (a.w)], .bool false]) (by simp [results, Tryz.results157, go_sem, u0, u1]) rfl ⟨⟨a.i, a.w⟩, false, rfl, HS.out.trans (by simp), hD.bel⟩
 have d1 : decide (0 < a.i) = true := decide_eq_true ha; rw [d1] at HS
 cases x1
 case false =>
  have S0 := Kh (RX.made w #[.int .i64 38, .int .i64 na, .int .i64 nb, .int .i64 nc, .int .i64 nn, .int .i64 nm, .int .i64 si, .int .i64 sw, .string nt])
  go_enter Tryz.func157, Tryz.ntmps157
  go_wp2_with fail
  obtain ⟨wz, hwz⟩ : ∃ z, ((w.alloc (.cells #[.int .i64 38, .int .i64 na, .int .i64 nb, .int .i64 nc, .int .i64 nn, .int .i64 nm, .int .i64 si, .int .i64 sw, .string nt] 42)).alloc (.cells #[.int .i64 0, .int .i64 0] 40)) = z := ⟨_, rfl⟩
  rw [hwz] at S0 ⊢; clear hwz
  refine zR8 (D := RXb w #[.int .i64 38, .int .i64 na, .int .i64 nb, .int .i64 nc, .int .i64 nn, .int .i64 nm, .int .i64 si, .int .i64 sw, .string nt] (a.i) (a.w)) 30 rfl (by kernel_rfl) (by kernel_rfl) (by kernel_rfl) rfl rfl S0.out.drew ?_
  apply Exists.intro
  refine ⟨fun r K hK => ?_, fun r W hD => ?_, ?_, ?_⟩
  · have k0 := fun x : Cls (RXb w #[.int .i64 38, .int .i64 na, .int .i64 nb, .int .i64 nc, .int .i64 nn, .int .i64 nm, .int .i64 si, .int .i64 sw, .string nt] (a.i) (a.w) r) => x.2.old hg Y0.out
    have k1 := fun x : Cls (RXb w #[.int .i64 38, .int .i64 na, .int .i64 nb, .int .i64 nc, .int .i64 nn, .int .i64 nm, .int .i64 si, .int .i64 sw, .string nt] (a.i) (a.w) r) => x.2.old hg Y1.out
    have k2 := fun x : Cls (RXb w #[.int .i64 38, .int .i64 na, .int .i64 nb, .int .i64 nc, .int .i64 nn, .int .i64 nm, .int .i64 si, .int .i64 sw, .string nt] (a.i) (a.w) r) => x.2.old hg Y2.out
    have k3 := fun x : Cls (RXb w #[.int .i64 38, .int .i64 na, .int .i64 nb, .int .i64 nc, .int .i64 nn, .int .i64 nm, .int .i64 si, .int .i64 sw, .string nt] (a.i) (a.w) r) => x.2.old hg Y3.out
    have k4 := fun x : Cls (RXb w #[.int .i64 38, .int .i64 na, .int .i64 nb, .int .i64 nc, .int .i64 nn, .int .i64 nm, .int .i64 si, .int .i64 sw, .string nt] (a.i) (a.w) r) => x.2.old hg Y4.out
    have k5 := fun x : Cls (RXb w #[.int .i64 38, .int .i64 na, .int .i64 nb, .int .i64 nc, .int .i64 nn, .int .i64 nm, .int .i64 si, .int .i64 sw, .string nt] (a.i) (a.w) r) => x.2.old hg Y5.out
    have hne : Nonempty (Cls (RXb w #[.int .i64 38, .int .i64 na, .int .i64 nb, .int .i64 nc, .int .i64 nn, .int .i64 nm, .int .i64 si, .int .i64 sw, .string nt] (a.i) (a.w) r)) := RXb.some S0.out r; simp only [List.take_succ_cons, List.take_zero]
    repeat go_big_quiet_step ((go_at_call 104; exact zLi _ (zGo _ _)))
    exact wpQuiet_nil hK.out
  · obtain ⟨c0, c1, f0, f1, hD'⟩ := hD.store
    refine ⟨_, ?_, hD'⟩
    simp [execOp, go_sem, c0, c1, f0, f1]
  · kernel_rfl
  apply Exists.intro
  refine ⟨fun r K hK => ?_, fun W hD => ?_⟩
  · simp only [List.drop_succ_cons, List.drop_zero]
    have hne : Nonempty (Cls (RXb w #[.int .i64 38, .int .i64 na, .int .i64 nb, .int .i64 nc, .int .i64 nn, .int .i64 nm, .int .i64 si, .int .i64 sw, .string nt] (a.i) (a.w) r)) := RXb.some S0.out r
    repeat go_big_quiet_step (fail)
    exact wpQuiet_nil hK.out
  · go_wp2_with fail
    obtain ⟨u0, u1⟩ := hD.b1.two
    exact bodyPost_ret (v := .tuple #[.agg #[.int .i64 (a.i), .int .i64 (a.w)], .bool false]) (by simp [results, Tryz.results157, go_sem, u0, u1]) rfl ⟨⟨a.i, a.w⟩, false, rfl, HS.out.trans (by simp), hD.bel⟩
 case true =>
  have S0 := Kh (RX.made w #[.int .i64 38, .int .i64 na, .int .i64 nb, .int .i64 nc, .int .i64 nn, .int .i64 nm, .int .i64 si, .int .i64 sw, .string nt])
  go_enter Tryz.func157, Tryz.ntmps157
  go_wp2_with fail
  obtain ⟨wz, hwz⟩ : ∃ z, ((w.alloc (.cells #[.int .i64 38, .int .i64 na, .int .i64 nb, .int .i64 nc, .int .i64 nn, .int .i64 nm, .int .i64 si, .int .i64 sw, .string nt] 42)).alloc (.cells #[.int .i64 0, .int .i64 0] 40)) = z := ⟨_, rfl⟩
  rw [hwz] at S0 ⊢; clear hwz
  refine zR8 (D := RXb w #[.int .i64 38, .int .i64 na, .int .i64 nb, .int .i64 nc, .int .i64 nn, .int .i64 nm, .int .i64 si, .int .i64 sw, .string nt] (a.i) (a.w)) 30 rfl (by kernel_rfl) (by kernel_rfl) (by kernel_rfl) rfl rfl S0.out.drew ?_
  apply Exists.intro
  refine ⟨fun r K hK => ?_, fun r W hD => ?_, ?_, ?_⟩
  · have k0 := fun x : Cls (RXb w #[.int .i64 38, .int .i64 na, .int .i64 nb, .int .i64 nc, .int .i64 nn, .int .i64 nm, .int .i64 si, .int .i64 sw, .string nt] (a.i) (a.w) r) => x.2.old hg Y0.out
    have k1 := fun x : Cls (RXb w #[.int .i64 38, .int .i64 na, .int .i64 nb, .int .i64 nc, .int .i64 nn, .int .i64 nm, .int .i64 si, .int .i64 sw, .string nt] (a.i) (a.w) r) => x.2.old hg Y1.out
    have k2 := fun x : Cls (RXb w #[.int .i64 38, .int .i64 na, .int .i64 nb, .int .i64 nc, .int .i64 nn, .int .i64 nm, .int .i64 si, .int .i64 sw, .string nt] (a.i) (a.w) r) => x.2.old hg Y2.out
    have k3 := fun x : Cls (RXb w #[.int .i64 38, .int .i64 na, .int .i64 nb, .int .i64 nc, .int .i64 nn, .int .i64 nm, .int .i64 si, .int .i64 sw, .string nt] (a.i) (a.w) r) => x.2.old hg Y3.out
    have k4 := fun x : Cls (RXb w #[.int .i64 38, .int .i64 na, .int .i64 nb, .int .i64 nc, .int .i64 nn, .int .i64 nm, .int .i64 si, .int .i64 sw, .string nt] (a.i) (a.w) r) => x.2.old hg Y4.out
    have k5 := fun x : Cls (RXb w #[.int .i64 38, .int .i64 na, .int .i64 nb, .int .i64 nc, .int .i64 nn, .int .i64 nm, .int .i64 si, .int .i64 sw, .string nt] (a.i) (a.w) r) => x.2.old hg Y5.out
    have hne : Nonempty (Cls (RXb w #[.int .i64 38, .int .i64 na, .int .i64 nb, .int .i64 nc, .int .i64 nn, .int .i64 nm, .int .i64 si, .int .i64 sw, .string nt] (a.i) (a.w) r)) := RXb.some S0.out r; simp only [List.take_succ_cons, List.take_zero]
    repeat go_big_quiet_step ((go_at_call 104; exact zLi _ (zGo _ _)))
    exact wpQuiet_nil hK.out
  · obtain ⟨c0, c1, f0, f1, hD'⟩ := hD.store
    refine ⟨_, ?_, hD'⟩
    simp [execOp, go_sem, c0, c1, f0, f1]
  · kernel_rfl
  apply Exists.intro
  refine ⟨fun r K hK => ?_, fun W hD => ?_⟩
  · simp only [List.drop_succ_cons, List.drop_zero]
    have hne : Nonempty (Cls (RXb w #[.int .i64 38, .int .i64 na, .int .i64 nb, .int .i64 nc, .int .i64 nn, .int .i64 nm, .int .i64 si, .int .i64 sw, .string nt] (a.i) (a.w) r)) := RXb.some S0.out r
    repeat go_big_quiet_step (fail)
    exact wpQuiet_nil hK.out
  · go_wp2_with fail
    obtain ⟨u0, u1⟩ := hD.b1.two
    exact bodyPost_ret (v := .tuple #[.agg #[.int .i64 (a.i), .int .i64 (a.w)], .bool x2]) (by simp [results, Tryz.results157, go_sem, u0, u1]) rfl ⟨⟨a.i, a.w⟩, x2, rfl, HS.out.trans (by cases x2 <;> simp), hD.bel⟩
theorem zGc (A : Option Addr) (cap : Nat) (na nb nc nn nm si sw : Int) (nt : ByteArray) (a b : So) (w : World) (hS : zAh w A [a, b]) : Calls Tryz.prog 157 #[.agg #[.int .i64 21, .int .i64 na, .int .i64 nb, .int .i64 nc, .int .i64 nn, .int .i64 nm, .int .i64 si, .int .i64 sw, .string nt], .slice A 2 cap] w fun e w' => SoP (zNp ⟨21, na, nb, nc, nn, nm, ⟨si, sw⟩, nt⟩ a b ⟨0, 0⟩) w e w' := by
 obtain ⟨g, rfl, hg, hc⟩ := hS (by simp)
 obtain ⟨y0, y1⟩ := hc 0 (by simp)
 obtain ⟨y2, y3⟩ := hc 1 (by simp)
 simp only [List.getElem_cons_zero, List.getElem_cons_succ, Nat.zero_mul, Nat.zero_add, Nat.one_mul, Nat.reduceMul, Nat.reduceAdd] at y0 y1 y2 y3; clear hc hS; have Y0 := Kh y0; have Y1 := Kh y1; have Y2 := Kh y2; have Y3 := Kh y3; clear y0 y1 y2 y3; obtain ⟨x1, h1⟩ : ∃ x, decide (a.i = b.i ∧ a.w = b.w) = x := ⟨_, rfl⟩
 have q1 := fun w => zDq h1 w
 have HS : Hid (zNp ⟨21, na, nb, nc, nn, nm, ⟨si, sw⟩, nt⟩ a b ⟨0, 0⟩ = if x1 = true then some ⟨0, 1⟩ else none) := Kh (by
  rw [← h1]; unfold zNp; rw [if_neg (show ¬ ((21 : Int) = 35 ∨ (21 : Int) = 36) by decide), if_neg (show ¬ (21 : Int) = 34 by decide), if_neg (show ¬ (21 : Int) = 33 by decide), if_pos rfl]; simp [So.ext_iff, wS])
 clear h1; have S0 := Kh (RX.made w #[.int .i64 21, .int .i64 na, .int .i64 nb, .int .i64 nc, .int .i64 nn, .int .i64 nm, .int .i64 si, .int .i64 sw, .string nt])
 go_enter Tryz.func157, Tryz.ntmps157
 go_wp2_with fail
 obtain ⟨wz, hwz⟩ : ∃ z, ((w.alloc (.cells #[.int .i64 21, .int .i64 na, .int .i64 nb, .int .i64 nc, .int .i64 nn, .int .i64 nm, .int .i64 si, .int .i64 sw, .string nt] 42)).alloc (.cells #[.int .i64 0, .int .i64 0] 40)) = z := ⟨_, rfl⟩
 rw [hwz] at S0 ⊢; clear hwz
 refine zR8 (D := RXb w #[.int .i64 21, .int .i64 na, .int .i64 nb, .int .i64 nc, .int .i64 nn, .int .i64 nm, .int .i64 si, .int .i64 sw, .string nt] (0) (1)) 8 rfl (by kernel_rfl) (by kernel_rfl) (by kernel_rfl) rfl rfl S0.out.drew ?_
 apply Exists.intro
 refine ⟨fun r K hK => ?_, fun r W hD => ?_, ?_, ?_⟩
 · have k0 := fun x : Cls (RXb w #[.int .i64 21, .int .i64 na, .int .i64 nb, .int .i64 nc, .int .i64 nn, .int .i64 nm, .int .i64 si, .int .i64 sw, .string nt] (0) (1) r) => x.2.old hg Y0.out
   have k1 := fun x : Cls (RXb w #[.int .i64 21, .int .i64 na, .int .i64 nb, .int .i64 nc, .int .i64 nn, .int .i64 nm, .int .i64 si, .int .i64 sw, .string nt] (0) (1) r) => x.2.old hg Y1.out
   have k2 := fun x : Cls (RXb w #[.int .i64 21, .int .i64 na, .int .i64 nb, .int .i64 nc, .int .i64 nn, .int .i64 nm, .int .i64 si, .int .i64 sw, .string nt] (0) (1) r) => x.2.old hg Y2.out
   have k3 := fun x : Cls (RXb w #[.int .i64 21, .int .i64 na, .int .i64 nb, .int .i64 nc, .int .i64 nn, .int .i64 nm, .int .i64 si, .int .i64 sw, .string nt] (0) (1) r) => x.2.old hg Y3.out
   have hne : Nonempty (Cls (RXb w #[.int .i64 21, .int .i64 na, .int .i64 nb, .int .i64 nc, .int .i64 nn, .int .i64 nm, .int .i64 si, .int .i64 sw, .string nt] (0) (1) r)) := RXb.some S0.out r; simp only [List.take_succ_cons, List.take_zero]
   repeat go_big_quiet_step ((go_at_call 104; exact zLi _ (zGo _ _)))
   exact wpQuiet_nil hK.out
 · obtain ⟨c0, c1, f0, f1, hD'⟩ := hD.store
   refine ⟨_, ?_, hD'⟩
   simp [execOp, go_sem, c0, c1, f0, f1]
 · kernel_rfl
 apply Exists.intro
 refine ⟨fun r K hK => ?_, fun W hD => ?_⟩
 · simp only [List.drop_succ_cons, List.drop_zero]
   have hne : Nonempty (Cls (RXb w #[.int .i64 21, .int .i64 na, .int .i64 nb, .int .i64 nc, .int .i64 nn, .int .i64 nm, .int .i64 si, .int .i64 sw, .string nt] (0) (1) r)) := RXb.some S0.out r
   repeat go_big_quiet_step (fail)
   exact wpQuiet_nil hK.out
 · go_wp2_with fail
   obtain ⟨u0, u1⟩ := hD.b1.two
   exact bodyPost_ret (v := .tuple #[.agg #[.int .i64 (0), .int .i64 (1)], .bool x1]) (by simp [results, Tryz.results157, go_sem, u0, u1]) rfl ⟨⟨0, 1⟩, x1, rfl, HS.out, hD.bel⟩
end Go.Proofs.YtmolbnghobfmoaaGreat
