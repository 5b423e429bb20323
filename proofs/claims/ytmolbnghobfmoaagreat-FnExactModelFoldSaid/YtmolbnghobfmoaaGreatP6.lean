/- Part 6 of what the row Row28 rests on: F3 F3a. -/
import Derived.Test.YtmolbnghobfmoaaGreatP5
set_option maxRecDepth 100000
set_option maxHeartbeats 16000000
set_option linter.unusedSimpArgs false
set_option linter.unusedVariables false
namespace Go.Proofs.YtmolbnghobfmoaaGreat
open Go.RowKit
theorem So.ext_iff {a b : So} : a = b ↔ a.i = b.i ∧ a.w = b.w := by cases a; cases b; simp
def SoP (o : Option So) (w : World) (e : Ending) (w' : World) : Prop :=
 ∃ (s : So) (ok : Bool), e = .returned (.tuple #[.agg #[.int .i64 s.i, .int .i64 s.w], .bool ok]) ∧ (o = if ok = true then some s else none) ∧ Below w.heap.size w w'
structure SR (w : World) (g : Nat) (cs : Array Value) (a b c : So) (r : Array Value) (W : World) : Prop where
 b0 : Blk W g 42 cs
 b1 : Blk W (g + 1) 40 #[.int .i64 a.i, .int .i64 a.w]
 b2 : Blk W (g + 1 + 1) 40 #[.int .i64 b.i, .int .i64 b.w]
 b3 : Blk W (g + 1 + 1 + 1) 40 #[.int .i64 c.i, .int .i64 c.w]
 b4 : Blk W (g + 1 + 1 + 1 + 1) 40 r
 lo : w.heap.size ≤ g
 bel : Below w.heap.size w W
section
variable {w W W' : World} {g : Nat} {cs : Array Value} {a b c : So} {r : Array Value}
theorem SR.below (h : SR w g cs a b c r W) (hb : Below W.heap.size W W') : SR w g cs a b c r W' :=
 ⟨h.b0.below hb h.b0.lt, h.b1.below hb h.b1.lt, h.b2.below hb h.b2.lt, h.b3.below hb h.b3.lt, h.b4.below hb h.b4.lt, h.lo, h.bel.trans (hb.mono h.bel.size)⟩
theorem SR.drew (h : SR w g cs a b c r W) : SR w g cs a b c r W.drew := h.below (Below.refl _ _).drew
theorem SR.put (h : SR w g cs a b c r W) {x0 y0 : Value} (e : r = #[x0, y0]) (x y : Value) : SR w g cs a b c #[x, y] ((W.setCell ⟨g + 1 + 1 + 1 + 1, 0, none⟩ x).setCell ⟨g + 1 + 1 + 1 + 1, 1, none⟩ y) := by
 subst e; have ne : ∀ k, k < g + 1 + 1 + 1 + 1 → k ≠ g + 1 + 1 + 1 + 1 := fun k h => by omega
 exact ⟨(h.b0.far (p := ⟨g + 1 + 1 + 1 + 1, 0, none⟩) (ne _ (by omega)) _).far (p := ⟨g + 1 + 1 + 1 + 1, 1, none⟩) (ne _ (by omega)) _, (h.b1.far (p := ⟨g + 1 + 1 + 1 + 1, 0, none⟩) (ne _ (by omega)) _).far (p := ⟨g + 1 + 1 + 1 + 1, 1, none⟩) (ne _ (by omega)) _,
  (h.b2.far (p := ⟨g + 1 + 1 + 1 + 1, 0, none⟩) (ne _ (by omega)) _).far (p := ⟨g + 1 + 1 + 1 + 1, 1, none⟩) (ne _ (by omega)) _, (h.b3.far (p := ⟨g + 1 + 1 + 1 + 1, 0, none⟩) (ne _ (by omega)) _).far (p := ⟨g + 1 + 1 + 1 + 1, 1, none⟩) (ne _ (by omega)) _,
  h.b4.put2 x y, h.lo, zB2 h.bel (by have := h.lo; omega) _ _⟩
theorem SR.cells {k na nb nc nn nm si sw : Int} {nt : ByteArray} (h : SR w g #[.int .i64 k, .int .i64 na, .int .i64 nb, .int .i64 nc, .int .i64 nn, .int .i64 nm, .int .i64 si, .int .i64 sw, .string nt] a b c r W) : W.cell? ⟨g + 1, 0, none⟩ = some (.int .i64 a.i) ∧ W.cell? ⟨g + 1, 1, none⟩ = some (.int .i64 a.w) ∧ W.cell? ⟨g + 1 + 1, 0, none⟩ = some (.int .i64 b.i) ∧ W.cell? ⟨g + 1 + 1, 1, none⟩ = some (.int .i64 b.w) ∧ W.cell? ⟨g + 1 + 1 + 1, 0, none⟩ = some (.int .i64 c.i) ∧ W.cell? ⟨g + 1 + 1 + 1, 1, none⟩ = some (.int .i64 c.w) ∧ W.cell? ⟨g, 4, none⟩ = some (.int .i64 nn) ∧ W.cell? ⟨g, 5, none⟩ = some (.int .i64 nm) ∧ W.cell? ⟨g, 6, none⟩ = some (.int .i64 si) ∧ W.cell? ⟨g, 7, none⟩ = some (.int .i64 sw) :=
 ⟨h.b1.two.1, h.b1.two.2, h.b2.two.1, h.b2.two.2, h.b3.two.1, h.b3.two.2, by rw [h.b0.cell]; rfl, by rw [h.b0.cell]; rfl, by rw [h.b0.cell]; rfl, by rw [h.b0.cell]; rfl⟩
end
theorem SR.zero (w : World) (k na nb nc nn nm si sw : Int) (nt : ByteArray) (a b c : So) : SR w w.heap.size #[.int .i64 k, .int .i64 na, .int .i64 nb, .int .i64 nc, .int .i64 nn, .int .i64 nm, .int .i64 si, .int .i64 sw, .string nt] a b c #[.int .i64 0, .int .i64 0] (((((w.alloc (.cells #[.int .i64 k, .int .i64 na, .int .i64 nb, .int .i64 nc, .int .i64 nn, .int .i64 nm, .int .i64 si, .int .i64 sw, .string nt] 42)).alloc (.cells #[.int .i64 a.i, .int .i64 a.w] 40)).alloc (.cells #[.int .i64 b.i, .int .i64 b.w] 40)).alloc (.cells #[.int .i64 c.i, .int .i64 c.w] 40)).alloc (.cells #[.int .i64 0, .int .i64 0] 40)) :=
 ⟨((((Blk.new _ _ _).alloc _).alloc _).alloc _).alloc _, (((Blk.new_at _ _ _ (by simp)).alloc _).alloc _).alloc _, ((Blk.new_at _ _ _ (by simp)).alloc _).alloc _, (Blk.new_at _ _ _ (by simp)).alloc _, Blk.new_at _ _ _ (by simp), Nat.le_refl _,
  (((((Below.refl _ _).alloc (Nat.le_refl _) _).alloc (by simp) _).alloc (by simp; omega) _).alloc (by simp; omega) _).alloc (by simp; omega) _⟩
theorem zDp (a b c d : Int) (w : World) : (binOp .eql 40 (.agg #[.int .i64 a, .int .i64 b]) (.agg #[.int .i64 c, .int .i64 d])).run Tryz.prog w = .ok (.bool (decide (a = c ∧ b = d))) w := by
 by_cases h1 : a = c
 · subst h1
   by_cases h2 : b = d
   · subst h2; simp [go_sem]
   · have : (b == d) = false := by simpa using h2
     simp [go_sem, h2, this]
 · have : (a == c) = false := by simpa using h1
   simp [go_sem, h1, this]
theorem zDq {a b c d : Int} {x : Bool} (h : decide (a = c ∧ b = d) = x) (w : World) : (binOp .eql 40 (.agg #[.int .i64 a, .int .i64 b]) (.agg #[.int .i64 c, .int .i64 d])).run Tryz.prog w = .ok (.bool x) w := by subst h; exact zDp _ _ _ _ _
theorem SR.res {w W : World} {g : Nat} {cs : Array Value} {a b c : So} {r : Array Value} (h : SR w g cs a b c r W) (x y : Value) (e : r = #[x, y]) : W.cell? ⟨g + 1 + 1 + 1 + 1, 0, none⟩ = some x ∧ W.cell? ⟨g + 1 + 1 + 1 + 1, 1, none⟩ = some y := by
 subst e; exact h.b4.two
abbrev SRb (w : World) (g : Nat) (cs : Array Value) (a b c : So) (x y : Int) (r : Bool) (W : World) : Prop := SR w g cs a b c (if r = true then #[.int .i64 x, .int .i64 y] else #[.int .i64 0, .int .i64 0]) W
theorem SRb.store {w W : World} {g : Nat} {cs : Array Value} {a b c : So} {x y : Int} {r : Bool} (h : SRb w g cs a b c x y r W) : W.cell? ⟨g + 1 + 1 + 1 + 1, 0, none⟩ = some (.int .i64 (if r = true then x else 0)) ∧ W.cell? ⟨g + 1 + 1 + 1 + 1, 1, none⟩ = some (.int .i64 (if r = true then y else 0)) ∧
 W.frozen? ⟨g + 1 + 1 + 1 + 1, 0, none⟩ = false ∧ W.frozen? ⟨g + 1 + 1 + 1 + 1, 1, none⟩ = false ∧ SRb w g cs a b c x y true ((W.setCell ⟨g + 1 + 1 + 1 + 1, 0, none⟩ (.int .i64 x)).setCell ⟨g + 1 + 1 + 1 + 1, 1, none⟩ (.int .i64 y)) := by
 cases r
 · exact ⟨h.b4.two.1, h.b4.two.2, h.b4.frozen 0, h.b4.frozen 1, h.put rfl _ _⟩
 · exact ⟨h.b4.two.1, h.b4.two.2, h.b4.frozen 0, h.b4.frozen 1, h.put rfl _ _⟩
theorem SRb.some {w W : World} {g : Nat} {cs : Array Value} {a b c : So} {x y : Int} (h : SR w g cs a b c #[.int .i64 0, .int .i64 0] W) (r : Bool) : Nonempty (Cls (SRb w g cs a b c x y r)) := by
 cases r
 · exact ⟨⟨_, h⟩⟩
 · exact ⟨⟨_, h.put rfl (.int .i64 x) (.int .i64 y)⟩⟩
theorem zCr {P : Program} {D : World → Prop} {f : FuncId} {args : Array Value} {v : Value} (x : Cls D) (h : Calls P f args x.1 fun e w' => e = .returned v ∧ x.1 = w') : Calls P f args x.1 fun e w'' => e = .returned v ∧ ∃ y : Cls D, w'' = y.1 :=
 h.mono fun _ _ ⟨he, hw⟩ => ⟨he, x, hw.symm⟩
theorem zOb {P : Program} {w : World} {g : Nat} {cs : Array Value} {a b c : So} {s t : Int} {r : Bool} {f : FuncId} {args : Array Value} {v : Value} (x : Cls (SRb w g cs a b c s t r)) (h : Calls P f args x.1 fun e w' => e = .returned v ∧ Below x.1.heap.size x.1 w') :
 Calls P f args x.1 fun e w'' => e = .returned v ∧ ∃ y : Cls (SRb w g cs a b c s t r), w'' = y.1 :=
 h.mono fun _ w'' ⟨he, hw⟩ => ⟨he, ⟨w'', SR.below x.2 hw⟩, rfl⟩
theorem zQr (x y : Int) (h : x = y) (w : World) : Calls Tryz.prog 93 #[.int .i64 x] w fun e w' => e = .returned (.agg #[.int .i64 0, .int .i64 y]) ∧ Below w.heap.size w w' := by subst h; exact zQs x w
theorem zEw (n lo hi hi' : Int) (b : Bool) (e : hi = hi') (h : decide (lo ≤ n ∧ n ≤ hi') = b) (w : World) : Calls Tryz.prog 143 #[.int .i64 n, .int .i64 lo, .int .i64 hi] w fun e w' => e = .returned (.bool b) ∧ w = w' := by subst e; exact zEx n lo hi b h w
theorem SR.made (w : World) (k na nb nc nn nm si sw : Int) (nt : ByteArray) (a b c : So) (r : Array Value) : SR w w.heap.size #[.int .i64 k, .int .i64 na, .int .i64 nb, .int .i64 nc, .int .i64 nn, .int .i64 nm, .int .i64 si, .int .i64 sw, .string nt] a b c r (((((w.alloc (.cells #[.int .i64 k, .int .i64 na, .int .i64 nb, .int .i64 nc, .int .i64 nn, .int .i64 nm, .int .i64 si, .int .i64 sw, .string nt] 42)).alloc (.cells #[.int .i64 a.i, .int .i64 a.w] 40)).alloc (.cells #[.int .i64 b.i, .int .i64 b.w] 40)).alloc (.cells #[.int .i64 c.i, .int .i64 c.w] 40)).alloc (.cells r 40)) :=
 ⟨((((Blk.new _ _ _).alloc _).alloc _).alloc _).alloc _, (((Blk.new_at _ _ _ (by simp)).alloc _).alloc _).alloc _, ((Blk.new_at _ _ _ (by simp)).alloc _).alloc _, (Blk.new_at _ _ _ (by simp)).alloc _, Blk.new_at _ _ _ (by simp), Nat.le_refl _,
  (((((Below.refl _ _).alloc (Nat.le_refl _) _).alloc (by simp) _).alloc (by simp; omega) _).alloc (by simp; omega) _).alloc (by simp; omega) _⟩
end Go.Proofs.YtmolbnghobfmoaaGreat
namespace Go.Proofs.YtmolbnghobfmoaaGreat
open Go.RowKit
theorem zNy (na nb nc nn nm si sw : Int) (nt : ByteArray) (a b c : So) (w : World) : Calls Tryz.prog 179 #[.agg #[.int .i64 33, .int .i64 na, .int .i64 nb, .int .i64 nc, .int .i64 nn, .int .i64 nm, .int .i64 si, .int .i64 sw, .string nt], .agg #[.int .i64 a.i, .int .i64 a.w], .agg #[.int .i64 b.i, .int .i64 b.w], .agg #[.int .i64 c.i, .int .i64 c.w]] w
 fun e w' => SoP (zNp ⟨33, na, nb, nc, nn, nm, ⟨si, sw⟩, nt⟩ a b c) w e w' := by
 have hs : zNp ⟨33, na, nb, nc, nn, nm, ⟨si, sw⟩, nt⟩ a b c = if (decide (a.i = 0 ∧ a.w = 1) && decide (b.i = c.i ∧ b.w = c.w)) = true then some b else none := by
  unfold zNp; rw [if_neg (show ¬ ((33 : Int) = 35 ∨ (33 : Int) = 36) by decide), if_neg (show ¬ (33 : Int) = 34 by decide), if_pos rfl]; simp [So.ext_iff, wS]
 obtain ⟨x0, h0⟩ : ∃ x, decide (a.i = 0 ∧ a.w = 1) = x := ⟨_, rfl⟩
 obtain ⟨x1, h1⟩ : ∃ x, decide (b.i = c.i ∧ b.w = c.w) = x := ⟨_, rfl⟩
 rw [h0, h1] at hs; have HS := Kh hs; clear hs; have q0 := fun w => zDq h0 w
 clear h0; have q1 := fun w => zDq h1 w
 clear h1
 cases x0
 case false =>
  have S0 := Kh (SR.zero w 33 na nb nc nn nm si sw nt a b c)
  go_enter Tryz.func179, Tryz.ntmps179
  go_wp2_with fail
  generalize (((((w.alloc (.cells #[.int .i64 33, .int .i64 na, .int .i64 nb, .int .i64 nc, .int .i64 nn, .int .i64 nm, .int .i64 si, .int .i64 sw, .string nt] 42)).alloc (.cells #[.int .i64 a.i, .int .i64 a.w] 40)).alloc (.cells #[.int .i64 b.i, .int .i64 b.w] 40)).alloc (.cells #[.int .i64 c.i, .int .i64 c.w] 40)).alloc (.cells #[.int .i64 0, .int .i64 0] 40)) = X at S0 ⊢
  refine zR8 (D := SRb w w.heap.size #[.int .i64 33, .int .i64 na, .int .i64 nb, .int .i64 nc, .int .i64 nn, .int .i64 nm, .int .i64 si, .int .i64 sw, .string nt] a b c (b.i) (b.w)) 9 rfl (by kernel_rfl) (by kernel_rfl) (by kernel_rfl) rfl rfl S0.out.drew ?_
  apply Exists.intro
  refine ⟨fun r K hK => ?_, fun r W hD => ?_, ?_, ?_⟩
  · have K0 := fun x : Cls (SRb w w.heap.size #[.int .i64 33, .int .i64 na, .int .i64 nb, .int .i64 nc, .int .i64 nn, .int .i64 nm, .int .i64 si, .int .i64 sw, .string nt] a b c (b.i) (b.w) r) => x.2.cells
    have hne : Nonempty (Cls (SRb w w.heap.size #[.int .i64 33, .int .i64 na, .int .i64 nb, .int .i64 nc, .int .i64 nn, .int .i64 nm, .int .i64 si, .int .i64 sw, .string nt] a b c (b.i) (b.w) r)) := SRb.some S0.out r; simp only [List.take_succ_cons, List.take_zero]
    repeat go_big_quiet_step ((first | (go_at_call 93; exact zOb _ (zQs _ _))))
    exact wpQuiet_nil hK.out
  · obtain ⟨c0, c1, f0, f1, hD'⟩ := hD.store
    refine ⟨_, ?_, hD'⟩
    simp [execOp, go_sem, c0, c1, f0, f1]
  · kernel_rfl
  apply Exists.intro
  refine ⟨fun r K hK => ?_, fun W hD => ?_⟩
  · simp only [List.drop_succ_cons, List.drop_zero]
    have hne : Nonempty (Cls (SRb w w.heap.size #[.int .i64 33, .int .i64 na, .int .i64 nb, .int .i64 nc, .int .i64 nn, .int .i64 nm, .int .i64 si, .int .i64 sw, .string nt] a b c (b.i) (b.w) r)) := SRb.some S0.out r
    repeat go_big_quiet_step (fail)
    exact wpQuiet_nil hK.out
  · go_wp2_with fail
    obtain ⟨u0, u1⟩ := SR.res (hD) (.int .i64 b.i) (.int .i64 b.w) rfl
    exact bodyPost_ret (v := .tuple #[.agg #[.int .i64 b.i, .int .i64 b.w], .bool false]) (by simp [results, Tryz.results179, go_sem, u0, u1]) rfl ⟨⟨b.i, b.w⟩, false, rfl, HS.out.trans (by simp), (hD).bel⟩
 case true =>
  have S0 := Kh (SR.zero w 33 na nb nc nn nm si sw nt a b c)
  go_enter Tryz.func179, Tryz.ntmps179
  go_wp2_with fail
  generalize (((((w.alloc (.cells #[.int .i64 33, .int .i64 na, .int .i64 nb, .int .i64 nc, .int .i64 nn, .int .i64 nm, .int .i64 si, .int .i64 sw, .string nt] 42)).alloc (.cells #[.int .i64 a.i, .int .i64 a.w] 40)).alloc (.cells #[.int .i64 b.i, .int .i64 b.w] 40)).alloc (.cells #[.int .i64 c.i, .int .i64 c.w] 40)).alloc (.cells #[.int .i64 0, .int .i64 0] 40)) = X at S0 ⊢
  refine zR8 (D := SRb w w.heap.size #[.int .i64 33, .int .i64 na, .int .i64 nb, .int .i64 nc, .int .i64 nn, .int .i64 nm, .int .i64 si, .int .i64 sw, .string nt] a b c (b.i) (b.w)) 9 rfl (by kernel_rfl) (by kernel_rfl) (by kernel_rfl) rfl rfl S0.out.drew ?_
  apply Exists.intro
  refine ⟨fun r K hK => ?_, fun r W hD => ?_, ?_, ?_⟩
  · have K0 := fun x : Cls (SRb w w.heap.size #[.int .i64 33, .int .i64 na, .int .i64 nb, .int .i64 nc, .int .i64 nn, .int .i64 nm, .int .i64 si, .int .i64 sw, .string nt] a b c (b.i) (b.w) r) => x.2.cells
    have hne : Nonempty (Cls (SRb w w.heap.size #[.int .i64 33, .int .i64 na, .int .i64 nb, .int .i64 nc, .int .i64 nn, .int .i64 nm, .int .i64 si, .int .i64 sw, .string nt] a b c (b.i) (b.w) r)) := SRb.some S0.out r; simp only [List.take_succ_cons, List.take_zero]
    repeat go_big_quiet_step ((first | (go_at_call 93; exact zOb _ (zQs _ _))))
    exact wpQuiet_nil hK.out
  · obtain ⟨c0, c1, f0, f1, hD'⟩ := hD.store
    refine ⟨_, ?_, hD'⟩
    simp [execOp, go_sem, c0, c1, f0, f1]
  · kernel_rfl
  apply Exists.intro
  refine ⟨fun r K hK => ?_, fun W hD => ?_⟩
  · simp only [List.drop_succ_cons, List.drop_zero]
    have hne : Nonempty (Cls (SRb w w.heap.size #[.int .i64 33, .int .i64 na, .int .i64 nb, .int .i64 nc, .int .i64 nn, .int .i64 nm, .int .i64 si, .int .i64 sw, .string nt] a b c (b.i) (b.w) r)) := SRb.some S0.out r
    repeat go_big_quiet_step (fail)
    exact wpQuiet_nil hK.out
  · go_wp2_with fail
    obtain ⟨u0, u1⟩ := SR.res (hD) (.int .i64 b.i) (.int .i64 b.w) rfl
    exact bodyPost_ret (v := .tuple #[.agg #[.int .i64 b.i, .int .i64 b.w], .bool x1]) (by simp [results, Tryz.results179, go_sem, u0, u1]) rfl ⟨⟨b.i, b.w⟩, x1, rfl, HS.out.trans (by simp), (hD).bel⟩
theorem zNs (na nb nc nn nm si sw : Int) (nt : ByteArray) (a b c : So) (w : World) : Calls Tryz.prog 179 #[.agg #[.int .i64 21, .int .i64 na, .int .i64 nb, .int .i64 nc, .int .i64 nn, .int .i64 nm, .int .i64 si, .int .i64 sw, .string nt], .agg #[.int .i64 a.i, .int .i64 a.w], .agg #[.int .i64 b.i, .int .i64 b.w], .agg #[.int .i64 c.i, .int .i64 c.w]] w
 fun e w' => SoP (zNp ⟨21, na, nb, nc, nn, nm, ⟨si, sw⟩, nt⟩ a b c) w e w' := by
 have hs : zNp ⟨21, na, nb, nc, nn, nm, ⟨si, sw⟩, nt⟩ a b c = if (decide (a.i = b.i ∧ a.w = b.w)) = true then some (wS 1) else none := by
  unfold zNp; rw [if_neg (show ¬ ((21 : Int) = 35 ∨ (21 : Int) = 36) by decide), if_neg (show ¬ (21 : Int) = 34 by decide), if_neg (show ¬ (21 : Int) = 33 by decide), if_pos rfl]; simp [So.ext_iff]
 obtain ⟨x0, h0⟩ : ∃ x, decide (a.i = b.i ∧ a.w = b.w) = x := ⟨_, rfl⟩
 rw [h0] at hs; have HS := Kh hs; clear hs; have q0 := fun w => zDq h0 w
 clear h0; have S0 := Kh (SR.zero w 21 na nb nc nn nm si sw nt a b c)
 go_enter Tryz.func179, Tryz.ntmps179
 go_wp2_with fail
 generalize (((((w.alloc (.cells #[.int .i64 21, .int .i64 na, .int .i64 nb, .int .i64 nc, .int .i64 nn, .int .i64 nm, .int .i64 si, .int .i64 sw, .string nt] 42)).alloc (.cells #[.int .i64 a.i, .int .i64 a.w] 40)).alloc (.cells #[.int .i64 b.i, .int .i64 b.w] 40)).alloc (.cells #[.int .i64 c.i, .int .i64 c.w] 40)).alloc (.cells #[.int .i64 0, .int .i64 0] 40)) = X at S0 ⊢
 refine zR8 (D := SRb w w.heap.size #[.int .i64 21, .int .i64 na, .int .i64 nb, .int .i64 nc, .int .i64 nn, .int .i64 nm, .int .i64 si, .int .i64 sw, .string nt] a b c (0) (1)) 4 rfl (by kernel_rfl) (by kernel_rfl) (by kernel_rfl) rfl rfl S0.out.drew ?_
 apply Exists.intro
 refine ⟨fun r K hK => ?_, fun r W hD => ?_, ?_, ?_⟩
 · have K0 := fun x : Cls (SRb w w.heap.size #[.int .i64 21, .int .i64 na, .int .i64 nb, .int .i64 nc, .int .i64 nn, .int .i64 nm, .int .i64 si, .int .i64 sw, .string nt] a b c (0) (1) r) => x.2.cells
   have hne : Nonempty (Cls (SRb w w.heap.size #[.int .i64 21, .int .i64 na, .int .i64 nb, .int .i64 nc, .int .i64 nn, .int .i64 nm, .int .i64 si, .int .i64 sw, .string nt] a b c (0) (1) r)) := SRb.some S0.out r; simp only [List.take_succ_cons, List.take_zero]
   repeat go_big_quiet_step ((first | (go_at_call 93; exact zOb _ (zQs _ _))))
   exact wpQuiet_nil hK.out
 · obtain ⟨c0, c1, f0, f1, hD'⟩ := hD.store
   refine ⟨_, ?_, hD'⟩
   simp [execOp, go_sem, c0, c1, f0, f1]
 · kernel_rfl
 apply Exists.intro
 refine ⟨fun r K hK => ?_, fun W hD => ?_⟩
 · simp only [List.drop_succ_cons, List.drop_zero]
   have hne : Nonempty (Cls (SRb w w.heap.size #[.int .i64 21, .int .i64 na, .int .i64 nb, .int .i64 nc, .int .i64 nn, .int .i64 nm, .int .i64 si, .int .i64 sw, .string nt] a b c (0) (1) r)) := SRb.some S0.out r
   repeat go_big_quiet_step (fail)
   exact wpQuiet_nil hK.out
 · go_wp2_with fail
   obtain ⟨u0, u1⟩ := SR.res (hD) (.int .i64 0) (.int .i64 1) rfl
   exact bodyPost_ret (v := .tuple #[.agg #[.int .i64 0, .int .i64 1], .bool x0]) (by simp [results, Tryz.results179, go_sem, u0, u1]) rfl ⟨⟨0, 1⟩, x0, rfl, HS.out.trans (by simp [wS]), (hD).bel⟩
theorem zO3 (na nb nc nn nm si sw : Int) (nt : ByteArray) (a b c : So) (w : World) : Calls Tryz.prog 179 #[.agg #[.int .i64 37, .int .i64 na, .int .i64 nb, .int .i64 nc, .int .i64 nn, .int .i64 nm, .int .i64 si, .int .i64 sw, .string nt], .agg #[.int .i64 a.i, .int .i64 a.w], .agg #[.int .i64 b.i, .int .i64 b.w], .agg #[.int .i64 c.i, .int .i64 c.w]] w
 fun e w' => SoP (zNp ⟨37, na, nb, nc, nn, nm, ⟨si, sw⟩, nt⟩ a b c) w e w' := by
 have hs : zNp ⟨37, na, nb, nc, nn, nm, ⟨si, sw⟩, nt⟩ a b c = if (decide (0 < a.i) && decide (b.i = 0 ∧ b.w = a.i)) = true then some (wS a.w) else none := by
  unfold zNp; rw [if_neg (show ¬ ((37 : Int) = 35 ∨ (37 : Int) = 36) by decide), if_neg (show ¬ (37 : Int) = 34 by decide), if_neg (show ¬ (37 : Int) = 33 by decide), if_neg (show ¬ (37 : Int) = 21 by decide), if_pos rfl]; simp [So.ext_iff, wS]
 obtain ⟨x0, h0⟩ : ∃ x, decide (0 < a.i) = x := ⟨_, rfl⟩
 obtain ⟨x1, h1⟩ : ∃ x, decide (b.i = 0 ∧ b.w = a.i) = x := ⟨_, rfl⟩
 rw [h0, h1] at hs; have HS := Kh hs; clear hs; have q1 := fun w => zDq h1 w
 clear h1
 cases x0
 case false =>
  have S0 := Kh (SR.zero w 37 na nb nc nn nm si sw nt a b c)
  go_enter Tryz.func179, Tryz.ntmps179
  go_wp2_with fail
  generalize (((((w.alloc (.cells #[.int .i64 37, .int .i64 na, .int .i64 nb, .int .i64 nc, .int .i64 nn, .int .i64 nm, .int .i64 si, .int .i64 sw, .string nt] 42)).alloc (.cells #[.int .i64 a.i, .int .i64 a.w] 40)).alloc (.cells #[.int .i64 b.i, .int .i64 b.w] 40)).alloc (.cells #[.int .i64 c.i, .int .i64 c.w] 40)).alloc (.cells #[.int .i64 0, .int .i64 0] 40)) = X at S0 ⊢
  refine zR8 (D := SRb w w.heap.size #[.int .i64 37, .int .i64 na, .int .i64 nb, .int .i64 nc, .int .i64 nn, .int .i64 nm, .int .i64 si, .int .i64 sw, .string nt] a b c (0) (a.w)) 13 rfl (by kernel_rfl) (by kernel_rfl) (by kernel_rfl) rfl rfl S0.out.drew ?_
  apply Exists.intro
  refine ⟨fun r K hK => ?_, fun r W hD => ?_, ?_, ?_⟩
  · have K0 := fun x : Cls (SRb w w.heap.size #[.int .i64 37, .int .i64 na, .int .i64 nb, .int .i64 nc, .int .i64 nn, .int .i64 nm, .int .i64 si, .int .i64 sw, .string nt] a b c (0) (a.w) r) => x.2.cells
    have hne : Nonempty (Cls (SRb w w.heap.size #[.int .i64 37, .int .i64 na, .int .i64 nb, .int .i64 nc, .int .i64 nn, .int .i64 nm, .int .i64 si, .int .i64 sw, .string nt] a b c (0) (a.w) r)) := SRb.some S0.out r; simp only [List.take_succ_cons, List.take_zero]
    repeat go_big_quiet_step ((first | (go_at_call 93; exact zOb _ (zQs _ _))))
    exact wpQuiet_nil hK.out
  · obtain ⟨c0, c1, f0, f1, hD'⟩ := hD.store
    refine ⟨_, ?_, hD'⟩
    simp [execOp, go_sem, c0, c1, f0, f1]
  · kernel_rfl
  apply Exists.intro
  refine ⟨fun r K hK => ?_, fun W hD => ?_⟩
  · simp only [List.drop_succ_cons, List.drop_zero]
    have hne : Nonempty (Cls (SRb w w.heap.size #[.int .i64 37, .int .i64 na, .int .i64 nb, .int .i64 nc, .int .i64 nn, .int .i64 nm, .int .i64 si, .int .i64 sw, .string nt] a b c (0) (a.w) r)) := SRb.some S0.out r
    repeat go_big_quiet_step (fail)
    exact wpQuiet_nil hK.out
  · go_wp2_with fail
    obtain ⟨u0, u1⟩ := SR.res (hD) (.int .i64 0) (.int .i64 a.w) rfl
    exact bodyPost_ret (v := .tuple #[.agg #[.int .i64 0, .int .i64 a.w], .bool false]) (by simp [results, Tryz.results179, go_sem, u0, u1]) rfl ⟨⟨0, a.w⟩, false, rfl, HS.out.trans (by simp), (hD).bel⟩
 case true =>
  have S0 := Kh (SR.zero w 37 na nb nc nn nm si sw nt a b c)
  go_enter Tryz.func179, Tryz.ntmps179
  go_wp2_with fail
  generalize (((((w.alloc (.cells #[.int .i64 37, .int .i64 na, .int .i64 nb, .int .i64 nc, .int .i64 nn, .int .i64 nm, .int .i64 si, .int .i64 sw, .string nt] 42)).alloc (.cells #[.int .i64 a.i, .int .i64 a.w] 40)).alloc (.cells #[.int .i64 b.i, .int .i64 b.w] 40)).alloc (.cells #[.int .i64 c.i, .int .i64 c.w] 40)).alloc (.cells #[.int .i64 0, .int .i64 0] 40)) = X at S0 ⊢
  refine zR8 (D := SRb w w.heap.size #[.int .i64 37, .int .i64 na, .int .i64 nb, .int .i64 nc, .int .i64 nn, .int .i64 nm, .int .i64 si, .int .i64 sw, .string nt] a b c (0) (a.w)) 13 rfl (by kernel_rfl) (by kernel_rfl) (by kernel_rfl) rfl rfl S0.out.drew ?_
  apply Exists.intro
  refine ⟨fun r K hK => ?_, fun r W hD => ?_, ?_, ?_⟩
  · have K0 := fun x : Cls (SRb w w.heap.size #[.int .i64 37, .int .i64 na, .int .i64 nb, .int .i64 nc, .int .i64 nn, .int .i64 nm, .int .i64 si, .int .i64 sw, .string nt] a b c (0) (a.w) r) => x.2.cells
    have hne : Nonempty (Cls (SRb w w.heap.size #[.int .i64 37, .int .i64 na, .int .i64 nb, .int .i64 nc, .int .i64 nn, .int .i64 nm, .int .i64 si, .int .i64 sw, .string nt] a b c (0) (a.w) r)) := SRb.some S0.out r; simp only [List.take_succ_cons, List.take_zero]
    repeat go_big_quiet_step ((first | (go_at_call 93; exact zOb _ (zQs _ _))))
    exact wpQuiet_nil hK.out
  · obtain ⟨c0, c1, f0, f1, hD'⟩ := hD.store
    refine ⟨_, ?_, hD'⟩
    simp [execOp, go_sem, c0, c1, f0, f1]
  · kernel_rfl
  apply Exists.intro
  refine ⟨fun r K hK => ?_, fun W hD => ?_⟩
  · simp only [List.drop_succ_cons, List.drop_zero]
    have hne : Nonempty (Cls (SRb w w.heap.size #[.int .i64 37, .int .i64 na, .int .i64 nb, .int .i64 nc, .int .i64 nn, .int .i64 nm, .int .i64 si, .int .i64 sw, .string nt] a b c (0) (a.w) r)) := SRb.some S0.out r
    repeat go_big_quiet_step (fail)
    exact wpQuiet_nil hK.out
  · go_wp2_with fail
    obtain ⟨u0, u1⟩ := SR.res (hD) (.int .i64 0) (.int .i64 a.w) rfl
    exact bodyPost_ret (v := .tuple #[.agg #[.int .i64 0, .int .i64 a.w], .bool x1]) (by simp [results, Tryz.results179, go_sem, u0, u1]) rfl ⟨⟨0, a.w⟩, x1, rfl, HS.out.trans (by simp [wS]), (hD).bel⟩
theorem zO4 (na nb nc nn nm si sw : Int) (nt : ByteArray) (a b c : So) (w : World) : Calls Tryz.prog 179 #[.agg #[.int .i64 38, .int .i64 na, .int .i64 nb, .int .i64 nc, .int .i64 nn, .int .i64 nm, .int .i64 si, .int .i64 sw, .string nt], .agg #[.int .i64 a.i, .int .i64 a.w], .agg #[.int .i64 b.i, .int .i64 b.w], .agg #[.int .i64 c.i, .int .i64 c.w]] w
 fun e w' => SoP (zNp ⟨38, na, nb, nc, nn, nm, ⟨si, sw⟩, nt⟩ a b c) w e w' := by
 have hs : zNp ⟨38, na, nb, nc, nn, nm, ⟨si, sw⟩, nt⟩ a b c = if (decide (0 < a.i) && (decide (b.i = 0 ∧ b.w = a.i) && decide (c.i = 0 ∧ c.w = a.w))) = true then some a else none := by
  unfold zNp; rw [if_neg (show ¬ ((38 : Int) = 35 ∨ (38 : Int) = 36) by decide), if_neg (show ¬ (38 : Int) = 34 by decide), if_neg (show ¬ (38 : Int) = 33 by decide), if_neg (show ¬ (38 : Int) = 21 by decide), if_neg (show ¬ (38 : Int) = 37 by decide), if_pos rfl]; simp [So.ext_iff, wS]
 obtain ⟨x0, h0⟩ : ∃ x, decide (0 < a.i) = x := ⟨_, rfl⟩
 obtain ⟨x1, h1⟩ : ∃ x, decide (b.i = 0 ∧ b.w = a.i) = x := ⟨_, rfl⟩
 obtain ⟨x2, h2⟩ : ∃ x, decide (c.i = 0 ∧ c.w = a.w) = x := ⟨_, rfl⟩
 rw [h0, h1, h2] at hs; have HS := Kh hs; clear hs; have q1 := fun w => zDq h1 w
 clear h1; have q2 := fun w => zDq h2 w
 clear h2
 cases x0
 case false =>
  have S0 := Kh (SR.zero w 38 na nb nc nn nm si sw nt a b c)
  go_enter Tryz.func179, Tryz.ntmps179
  go_wp2_with fail
  generalize (((((w.alloc (.cells #[.int .i64 38, .int .i64 na, .int .i64 nb, .int .i64 nc, .int .i64 nn, .int .i64 nm, .int .i64 si, .int .i64 sw, .string nt] 42)).alloc (.cells #[.int .i64 a.i, .int .i64 a.w] 40)).alloc (.cells #[.int .i64 b.i, .int .i64 b.w] 40)).alloc (.cells #[.int .i64 c.i, .int .i64 c.w] 40)).alloc (.cells #[.int .i64 0, .int .i64 0] 40)) = X at S0 ⊢
  refine zR8 (D := SRb w w.heap.size #[.int .i64 38, .int .i64 na, .int .i64 nb, .int .i64 nc, .int .i64 nn, .int .i64 nm, .int .i64 si, .int .i64 sw, .string nt] a b c (a.i) (a.w)) 18 rfl (by kernel_rfl) (by kernel_rfl) (by kernel_rfl) rfl rfl S0.out.drew ?_
  apply Exists.intro
  refine ⟨fun r K hK => ?_, fun r W hD => ?_, ?_, ?_⟩
  · have K0 := fun x : Cls (SRb w w.heap.size #[.int .i64 38, .int .i64 na, .int .i64 nb, .int .i64 nc, .int .i64 nn, .int .i64 nm, .int .i64 si, .int .i64 sw, .string nt] a b c (a.i) (a.w) r) => x.2.cells
    have hne : Nonempty (Cls (SRb w w.heap.size #[.int .i64 38, .int .i64 na, .int .i64 nb, .int .i64 nc, .int .i64 nn, .int .i64 nm, .int .i64 si, .int .i64 sw, .string nt] a b c (a.i) (a.w) r)) := SRb.some S0.out r; simp only [List.take_succ_cons, List.take_zero]
    repeat go_big_quiet_step ((first | (go_at_call 93; exact zOb _ (zQs _ _))))
    exact wpQuiet_nil hK.out
  · obtain ⟨c0, c1, f0, f1, hD'⟩ := hD.store
    refine ⟨_, ?_, hD'⟩
    simp [execOp, go_sem, c0, c1, f0, f1]
  · kernel_rfl
  apply Exists.intro
  refine ⟨fun r K hK => ?_, fun W hD => ?_⟩
  · simp only [List.drop_succ_cons, List.drop_zero]
    have hne : Nonempty (Cls (SRb w w.heap.size #[.int .i64 38, .int .i64 na, .int .i64 nb, .int .i64 nc, .int .i64 nn, .int .i64 nm, .int .i64 si, .int .i64 sw, .string nt] a b c (a.i) (a.w) r)) := SRb.some S0.out r
    repeat go_big_quiet_step (fail)
    exact wpQuiet_nil hK.out
  · go_wp2_with fail
    obtain ⟨u0, u1⟩ := SR.res (hD) (.int .i64 a.i) (.int .i64 a.w) rfl
    exact bodyPost_ret (v := .tuple #[.agg #[.int .i64 a.i, .int .i64 a.w], .bool false]) (by simp [results, Tryz.results179, go_sem, u0, u1]) rfl ⟨⟨a.i, a.w⟩, false, rfl, HS.out.trans (by simp), (hD).bel⟩
 case true =>
  cases x1
  case false =>
   have S0 := Kh (SR.zero w 38 na nb nc nn nm si sw nt a b c)
   go_enter Tryz.func179, Tryz.ntmps179
   go_wp2_with fail
   generalize (((((w.alloc (.cells #[.int .i64 38, .int .i64 na, .int .i64 nb, .int .i64 nc, .int .i64 nn, .int .i64 nm, .int .i64 si, .int .i64 sw, .string nt] 42)).alloc (.cells #[.int .i64 a.i, .int .i64 a.w] 40)).alloc (.cells #[.int .i64 b.i, .int .i64 b.w] 40)).alloc (.cells #[.int .i64 c.i, .int .i64 c.w] 40)).alloc (.cells #[.int .i64 0, .int .i64 0] 40)) = X at S0 ⊢
   refine zR8 (D := SRb w w.heap.size #[.int .i64 38, .int .i64 na, .int .i64 nb, .int .i64 nc, .int .i64 nn, .int .i64 nm, .int .i64 si, .int .i64 sw, .string nt] a b c (a.i) (a.w)) 18 rfl (by kernel_rfl) (by kernel_rfl) (by kernel_rfl) rfl rfl S0.out.drew ?_
   apply Exists.intro
   refine ⟨fun r K hK => ?_, fun r W hD => ?_, ?_, ?_⟩
   · have K0 := fun x : Cls (SRb w w.heap.size #[.int .i64 38, .int .i64 na, .int .i64 nb, .int .i64 nc, .int .i64 nn, .int .i64 nm, .int .i64 si, .int .i64 sw, .string nt] a b c (a.i) (a.w) r) => x.2.cells
     have hne : Nonempty (Cls (SRb w w.heap.size #[.int .i64 38, .int .i64 na, .int .i64 nb, .int .i64 nc, .int .i64 nn, .int .i64 nm, .int .i64 si, .int .i64 sw, .string nt] a b c (a.i) (a.w) r)) := SRb.some S0.out r; simp only [List.take_succ_cons, List.take_zero]
     repeat go_big_quiet_step ((first | (go_at_call 93; exact zOb _ (zQs _ _))))
     exact wpQuiet_nil hK.out
   · obtain ⟨c0, c1, f0, f1, hD'⟩ := hD.store
     refine ⟨_, ?_, hD'⟩
     simp [execOp, go_sem, c0, c1, f0, f1]
   · kernel_rfl
   apply Exists.intro
   refine ⟨fun r K hK => ?_, fun W hD => ?_⟩
   · simp only [List.drop_succ_cons, List.drop_zero]
     have hne : Nonempty (Cls (SRb w w.heap.size #[.int .i64 38, .int .i64 na, .int .i64 nb, .int .i64 nc, .int .i64 nn, .int .i64 nm, .int .i64 si, .int .i64 sw, .string nt] a b c (a.i) (a.w) r)) := SRb.some S0.out r
     repeat go_big_quiet_step (fail)
     exact wpQuiet_nil hK.out
   · go_wp2_with fail
     obtain ⟨u0, u1⟩ := SR.res (hD) (.int .i64 a.i) (.int .i64 a.w) rfl
     exact bodyPost_ret (v := .tuple #[.agg #[.int .i64 a.i, .int .i64 a.w], .bool false]) (by simp [results, Tryz.results179, go_sem, u0, u1]) rfl ⟨⟨a.i, a.w⟩, false, rfl, HS.out.trans (by simp), (hD).bel⟩
  case true =>
   have S0 := Kh (SR.zero w 38 na nb nc nn nm si sw nt a b c)
   go_enter Tryz.func179, Tryz.ntmps179
   go_wp2_with fail
   generalize (((((w.alloc (.cells #[.int .i64 38, .int .i64 na, .int .i64 nb, .int .i64 nc, .int .i64 nn, .int .i64 nm, .int .i64 si, .int .i64 sw, .string nt] 42)).alloc (.cells #[.int .i64 a.i, .int .i64 a.w] 40)).alloc (.cells #[.int .i64 b.i, .int .i64 b.w] 40)).alloc (.cells #[.int .i64 c.i, .int .i64 c.w] 40)).alloc (.cells #[.int .i64 0, .int .i64 0] 40)) = X at S0 ⊢
   refine zR8 (D := SRb w w.heap.size #[.int .i64 38, .int .i64 na, .int .i64 nb, .int .i64 nc, .int .i64 nn, .int .i64 nm, .int .i64 si, .int .i64 sw, .string nt] a b c (a.i) (a.w)) 18 rfl (by kernel_rfl) (by kernel_rfl) (by kernel_rfl) rfl rfl S0.out.drew ?_
   apply Exists.intro
   refine ⟨fun r K hK => ?_, fun r W hD => ?_, ?_, ?_⟩
   · have K0 := fun x : Cls (SRb w w.heap.size #[.int .i64 38, .int .i64 na, .int .i64 nb, .int .i64 nc, .int .i64 nn, .int .i64 nm, .int .i64 si, .int .i64 sw, .string nt] a b c (a.i) (a.w) r) => x.2.cells
     have hne : Nonempty (Cls (SRb w w.heap.size #[.int .i64 38, .int .i64 na, .int .i64 nb, .int .i64 nc, .int .i64 nn, .int .i64 nm, .int .i64 si, .int .i64 sw, .string nt] a b c (a.i) (a.w) r)) := SRb.some S0.out r; simp only [List.take_succ_cons, List.take_zero]
     repeat go_big_quiet_step ((first | (go_at_call 93; exact zOb _ (zQs _ _))))
     exact wpQuiet_nil hK.out
   · obtain ⟨c0, c1, f0, f1, hD'⟩ := hD.store
     refine ⟨_, ?_, hD'⟩
     simp [execOp, go_sem, c0, c1, f0, f1]
   · kernel_rfl
   apply Exists.intro
   refine ⟨fun r K hK => ?_, fun W hD => ?_⟩
   · simp only [List.drop_succ_cons, List.drop_zero]
     have hne : Nonempty (Cls (SRb w w.heap.size #[.int .i64 38, .int .i64 na, .int .i64 nb, .int .i64 nc, .int .i64 nn, .int .i64 nm, .int .i64 si, .int .i64 sw, .string nt] a b c (a.i) (a.w) r)) := SRb.some S0.out r
     repeat go_big_quiet_step (fail)
     exact wpQuiet_nil hK.out
   · go_wp2_with fail
     obtain ⟨u0, u1⟩ := SR.res (hD) (.int .i64 a.i) (.int .i64 a.w) rfl
     exact bodyPost_ret (v := .tuple #[.agg #[.int .i64 a.i, .int .i64 a.w], .bool x2]) (by simp [results, Tryz.results179, go_sem, u0, u1]) rfl ⟨⟨a.i, a.w⟩, x2, rfl, HS.out.trans (by simp), (hD).bel⟩
theorem zNz (na nb nc nn nm si sw : Int) (nt : ByteArray) (a b c : So) (w : World) : Calls Tryz.prog 179 #[.agg #[.int .i64 34, .int .i64 na, .int .i64 nb, .int .i64 nc, .int .i64 nn, .int .i64 nm, .int .i64 si, .int .i64 sw, .string nt], .agg #[.int .i64 a.i, .int .i64 a.w], .agg #[.int .i64 b.i, .int .i64 b.w], .agg #[.int .i64 c.i, .int .i64 c.w]] w
 fun e w' => SoP (zNp ⟨34, na, nb, nc, nn, nm, ⟨si, sw⟩, nt⟩ a b c) w e w' := by
 have hs : zNp ⟨34, na, nb, nc, nn, nm, ⟨si, sw⟩, nt⟩ a b c = if (decide (si = 0) && decide (zQi sw nn)) = true then some ⟨si, sw⟩ else none := by
  unfold zNp; rw [if_neg (show ¬ ((34 : Int) = 35 ∨ (34 : Int) = 36) by decide), if_pos rfl]; simp
 obtain ⟨x0, h0⟩ : ∃ x, decide (si = 0) = x := ⟨_, rfl⟩
 obtain ⟨x1, h1⟩ : ∃ x, decide (zQi sw nn) = x := ⟨_, rfl⟩
 rw [h0, h1] at hs; have HS := Kh hs; clear hs; have H1 := Kh h1; clear h1
 cases x0
 case false =>
  have z0 : (si == 0) = false := by simpa using h0
  clear h0; have S0 := Kh (SR.zero w 34 na nb nc nn nm si sw nt a b c)
  go_enter Tryz.func179, Tryz.ntmps179
  go_wp2_with fail
  generalize (((((w.alloc (.cells #[.int .i64 34, .int .i64 na, .int .i64 nb, .int .i64 nc, .int .i64 nn, .int .i64 nm, .int .i64 si, .int .i64 sw, .string nt] 42)).alloc (.cells #[.int .i64 a.i, .int .i64 a.w] 40)).alloc (.cells #[.int .i64 b.i, .int .i64 b.w] 40)).alloc (.cells #[.int .i64 c.i, .int .i64 c.w] 40)).alloc (.cells #[.int .i64 0, .int .i64 0] 40)) = X at S0 ⊢
  refine zR8 (D := SRb w w.heap.size #[.int .i64 34, .int .i64 na, .int .i64 nb, .int .i64 nc, .int .i64 nn, .int .i64 nm, .int .i64 si, .int .i64 sw, .string nt] a b c (si) (sw)) 14 rfl (by kernel_rfl) (by kernel_rfl) (by kernel_rfl) rfl rfl S0.out.drew ?_
  apply Exists.intro
  refine ⟨fun r K hK => ?_, fun r W hD => ?_, ?_, ?_⟩
  · have K0 := fun x : Cls (SRb w w.heap.size #[.int .i64 34, .int .i64 na, .int .i64 nb, .int .i64 nc, .int .i64 nn, .int .i64 nm, .int .i64 si, .int .i64 sw, .string nt] a b c (si) (sw) r) => x.2.cells
    have hne : Nonempty (Cls (SRb w w.heap.size #[.int .i64 34, .int .i64 na, .int .i64 nb, .int .i64 nc, .int .i64 nn, .int .i64 nm, .int .i64 si, .int .i64 sw, .string nt] a b c (si) (sw) r)) := SRb.some S0.out r; simp only [List.take_succ_cons, List.take_zero]
    repeat go_big_quiet_step ((first | fail))
    exact wpQuiet_nil hK.out
  · obtain ⟨c0, c1, f0, f1, hD'⟩ := hD.store
    refine ⟨_, ?_, hD'⟩
    simp [execOp, go_sem, c0, c1, f0, f1]
  · kernel_rfl
  apply Exists.intro
  refine ⟨fun r K hK => ?_, fun W hD => ?_⟩
  · simp only [List.drop_succ_cons, List.drop_zero]
    have hne : Nonempty (Cls (SRb w w.heap.size #[.int .i64 34, .int .i64 na, .int .i64 nb, .int .i64 nc, .int .i64 nn, .int .i64 nm, .int .i64 si, .int .i64 sw, .string nt] a b c (si) (sw) r)) := SRb.some S0.out r
    repeat go_big_quiet_step (fail)
    exact wpQuiet_nil hK.out
  · go_wp2_with fail
    obtain ⟨u0, u1⟩ := SR.res (hD) (.int .i64 si) (.int .i64 sw) rfl
    exact bodyPost_ret (v := .tuple #[.agg #[.int .i64 si, .int .i64 sw], .bool false]) (by simp [results, Tryz.results179, go_sem, u0, u1]) rfl ⟨⟨si, sw⟩, false, rfl, HS.out.trans (by simp), (hD).bel⟩
 case true =>
  have z0 : si = 0 := by simpa using h0
  clear h0; subst z0; have S0 := Kh (SR.zero w 34 na nb nc nn nm 0 sw nt a b c)
  go_enter Tryz.func179, Tryz.ntmps179
  go_wp2_with fail
  generalize (((((w.alloc (.cells #[.int .i64 34, .int .i64 na, .int .i64 nb, .int .i64 nc, .int .i64 nn, .int .i64 nm, .int .i64 0, .int .i64 sw, .string nt] 42)).alloc (.cells #[.int .i64 a.i, .int .i64 a.w] 40)).alloc (.cells #[.int .i64 b.i, .int .i64 b.w] 40)).alloc (.cells #[.int .i64 c.i, .int .i64 c.w] 40)).alloc (.cells #[.int .i64 0, .int .i64 0] 40)) = X at S0 ⊢
  refine zR8 (D := SRb w w.heap.size #[.int .i64 34, .int .i64 na, .int .i64 nb, .int .i64 nc, .int .i64 nn, .int .i64 nm, .int .i64 0, .int .i64 sw, .string nt] a b c (0) (sw)) 14 rfl (by kernel_rfl) (by kernel_rfl) (by kernel_rfl) rfl rfl S0.out.drew ?_
  apply Exists.intro
  refine ⟨fun r K hK => ?_, fun r W hD => ?_, ?_, ?_⟩
  · have K0 := fun x : Cls (SRb w w.heap.size #[.int .i64 34, .int .i64 na, .int .i64 nb, .int .i64 nc, .int .i64 nn, .int .i64 nm, .int .i64 0, .int .i64 sw, .string nt] a b c (0) (sw) r) => x.2.cells
    have hne : Nonempty (Cls (SRb w w.heap.size #[.int .i64 34, .int .i64 na, .int .i64 nb, .int .i64 nc, .int .i64 nn, .int .i64 nm, .int .i64 0, .int .i64 sw, .string nt] a b c (0) (sw) r)) := SRb.some S0.out r; simp only [List.take_succ_cons, List.take_zero]
    repeat go_big_quiet_step ((first | (go_at_call 197; exact zCr _ (zQj sw nn x1 H1.out _))))
    exact wpQuiet_nil hK.out
  · obtain ⟨c0, c1, f0, f1, hD'⟩ := hD.store
    refine ⟨_, ?_, hD'⟩
    simp [execOp, go_sem, c0, c1, f0, f1]
  · kernel_rfl
  apply Exists.intro
  refine ⟨fun r K hK => ?_, fun W hD => ?_⟩
  · simp only [List.drop_succ_cons, List.drop_zero]
    have hne : Nonempty (Cls (SRb w w.heap.size #[.int .i64 34, .int .i64 na, .int .i64 nb, .int .i64 nc, .int .i64 nn, .int .i64 nm, .int .i64 0, .int .i64 sw, .string nt] a b c (0) (sw) r)) := SRb.some S0.out r
    repeat go_big_quiet_step (fail)
    exact wpQuiet_nil hK.out
  · go_wp2_with fail
    obtain ⟨u0, u1⟩ := SR.res (hD) (.int .i64 0) (.int .i64 sw) rfl
    exact bodyPost_ret (v := .tuple #[.agg #[.int .i64 0, .int .i64 sw], .bool x1]) (by simp [results, Tryz.results179, go_sem, u0, u1]) rfl ⟨⟨0, sw⟩, x1, rfl, HS.out.trans (by simp), (hD).bel⟩
theorem zO0 (na nb nc nn nm si sw : Int) (nt : ByteArray) (a b c : So) (w : World) : Calls Tryz.prog 179 #[.agg #[.int .i64 35, .int .i64 na, .int .i64 nb, .int .i64 nc, .int .i64 nn, .int .i64 nm, .int .i64 si, .int .i64 sw, .string nt], .agg #[.int .i64 a.i, .int .i64 a.w], .agg #[.int .i64 b.i, .int .i64 b.w], .agg #[.int .i64 c.i, .int .i64 c.w]] w
 fun e w' => SoP (zNp ⟨35, na, nb, nc, nn, nm, ⟨si, sw⟩, nt⟩ a b c) w e w' := by
 have hs : zNp ⟨35, na, nb, nc, nn, nm, ⟨si, sw⟩, nt⟩ a b c = if (decide (sortOk ⟨si, sw⟩)) = true then some ⟨si, sw⟩ else none := by
  unfold zNp; rw [if_pos (show (35 : Int) = 35 ∨ (35 : Int) = 36 by decide)]; simp
 obtain ⟨x0, h0⟩ : ∃ x, decide (sortOk ⟨si, sw⟩) = x := ⟨_, rfl⟩
 rw [h0] at hs; have HS := Kh hs; clear hs; have H0 := Kh h0; clear h0; have S0 := Kh (SR.zero w 35 na nb nc nn nm si sw nt a b c)
 go_enter Tryz.func179, Tryz.ntmps179
 go_wp2_with fail
 generalize (((((w.alloc (.cells #[.int .i64 35, .int .i64 na, .int .i64 nb, .int .i64 nc, .int .i64 nn, .int .i64 nm, .int .i64 si, .int .i64 sw, .string nt] 42)).alloc (.cells #[.int .i64 a.i, .int .i64 a.w] 40)).alloc (.cells #[.int .i64 b.i, .int .i64 b.w] 40)).alloc (.cells #[.int .i64 c.i, .int .i64 c.w] 40)).alloc (.cells #[.int .i64 0, .int .i64 0] 40)) = X at S0 ⊢
 refine zR8 (D := SRb w w.heap.size #[.int .i64 35, .int .i64 na, .int .i64 nb, .int .i64 nc, .int .i64 nn, .int .i64 nm, .int .i64 si, .int .i64 sw, .string nt] a b c (si) (sw)) 5 rfl (by kernel_rfl) (by kernel_rfl) (by kernel_rfl) rfl rfl S0.out.drew ?_
 apply Exists.intro
 refine ⟨fun r K hK => ?_, fun r W hD => ?_, ?_, ?_⟩
 · have K0 := fun x : Cls (SRb w w.heap.size #[.int .i64 35, .int .i64 na, .int .i64 nb, .int .i64 nc, .int .i64 nn, .int .i64 nm, .int .i64 si, .int .i64 sw, .string nt] a b c (si) (sw) r) => x.2.cells
   have hne : Nonempty (Cls (SRb w w.heap.size #[.int .i64 35, .int .i64 na, .int .i64 nb, .int .i64 nc, .int .i64 nn, .int .i64 nm, .int .i64 si, .int .i64 sw, .string nt] a b c (si) (sw) r)) := SRb.some S0.out r; simp only [List.take_succ_cons, List.take_zero]
   repeat go_big_quiet_step ((first | (go_at_call 178; exact zOb _ (zO8 ⟨si, sw⟩ x0 H0.out _))))
   exact wpQuiet_nil hK.out
 · obtain ⟨c0, c1, f0, f1, hD'⟩ := hD.store
   refine ⟨_, ?_, hD'⟩
   simp [execOp, go_sem, c0, c1, f0, f1]
 · kernel_rfl
 apply Exists.intro
 refine ⟨fun r K hK => ?_, fun W hD => ?_⟩
 · simp only [List.drop_succ_cons, List.drop_zero]
   have hne : Nonempty (Cls (SRb w w.heap.size #[.int .i64 35, .int .i64 na, .int .i64 nb, .int .i64 nc, .int .i64 nn, .int .i64 nm, .int .i64 si, .int .i64 sw, .string nt] a b c (si) (sw) r)) := SRb.some S0.out r
   repeat go_big_quiet_step (fail)
   exact wpQuiet_nil hK.out
 · go_wp2_with fail
   obtain ⟨u0, u1⟩ := SR.res (hD) (.int .i64 si) (.int .i64 sw) rfl
   exact bodyPost_ret (v := .tuple #[.agg #[.int .i64 si, .int .i64 sw], .bool x0]) (by simp [results, Tryz.results179, go_sem, u0, u1]) rfl ⟨⟨si, sw⟩, x0, rfl, HS.out.trans (by simp), (hD).bel⟩
theorem zO2 (na nb nc nn nm si sw : Int) (nt : ByteArray) (a b c : So) (w : World) : Calls Tryz.prog 179 #[.agg #[.int .i64 36, .int .i64 na, .int .i64 nb, .int .i64 nc, .int .i64 nn, .int .i64 nm, .int .i64 si, .int .i64 sw, .string nt], .agg #[.int .i64 a.i, .int .i64 a.w], .agg #[.int .i64 b.i, .int .i64 b.w], .agg #[.int .i64 c.i, .int .i64 c.w]] w
 fun e w' => SoP (zNp ⟨36, na, nb, nc, nn, nm, ⟨si, sw⟩, nt⟩ a b c) w e w' := by
 have hs : zNp ⟨36, na, nb, nc, nn, nm, ⟨si, sw⟩, nt⟩ a b c = if (decide (sortOk ⟨si, sw⟩)) = true then some ⟨si, sw⟩ else none := by
  unfold zNp; rw [if_pos (show (36 : Int) = 35 ∨ (36 : Int) = 36 by decide)]; simp
 obtain ⟨x0, h0⟩ : ∃ x, decide (sortOk ⟨si, sw⟩) = x := ⟨_, rfl⟩
 rw [h0] at hs; have HS := Kh hs; clear hs; have H0 := Kh h0; clear h0; have S0 := Kh (SR.zero w 36 na nb nc nn nm si sw nt a b c)
 go_enter Tryz.func179, Tryz.ntmps179
 go_wp2_with fail
 generalize (((((w.alloc (.cells #[.int .i64 36, .int .i64 na, .int .i64 nb, .int .i64 nc, .int .i64 nn, .int .i64 nm, .int .i64 si, .int .i64 sw, .string nt] 42)).alloc (.cells #[.int .i64 a.i, .int .i64 a.w] 40)).alloc (.cells #[.int .i64 b.i, .int .i64 b.w] 40)).alloc (.cells #[.int .i64 c.i, .int .i64 c.w] 40)).alloc (.cells #[.int .i64 0, .int .i64 0] 40)) = X at S0 ⊢
 refine zR8 (D := SRb w w.heap.size #[.int .i64 36, .int .i64 na, .int .i64 nb, .int .i64 nc, .int .i64 nn, .int .i64 nm, .int .i64 si, .int .i64 sw, .string nt] a b c (si) (sw)) 5 rfl (by kernel_rfl) (by kernel_rfl) (by kernel_rfl) rfl rfl S0.out.drew ?_
 apply Exists.intro
 refine ⟨fun r K hK => ?_, fun r W hD => ?_, ?_, ?_⟩
 · have K0 := fun x : Cls (SRb w w.heap.size #[.int .i64 36, .int .i64 na, .int .i64 nb, .int .i64 nc, .int .i64 nn, .int .i64 nm, .int .i64 si, .int .i64 sw, .string nt] a b c (si) (sw) r) => x.2.cells
   have hne : Nonempty (Cls (SRb w w.heap.size #[.int .i64 36, .int .i64 na, .int .i64 nb, .int .i64 nc, .int .i64 nn, .int .i64 nm, .int .i64 si, .int .i64 sw, .string nt] a b c (si) (sw) r)) := SRb.some S0.out r; simp only [List.take_succ_cons, List.take_zero]
   repeat go_big_quiet_step ((first | (go_at_call 178; exact zOb _ (zO8 ⟨si, sw⟩ x0 H0.out _))))
   exact wpQuiet_nil hK.out
 · obtain ⟨c0, c1, f0, f1, hD'⟩ := hD.store
   refine ⟨_, ?_, hD'⟩
   simp [execOp, go_sem, c0, c1, f0, f1]
 · kernel_rfl
 apply Exists.intro
 refine ⟨fun r K hK => ?_, fun W hD => ?_⟩
 · simp only [List.drop_succ_cons, List.drop_zero]
   have hne : Nonempty (Cls (SRb w w.heap.size #[.int .i64 36, .int .i64 na, .int .i64 nb, .int .i64 nc, .int .i64 nn, .int .i64 nm, .int .i64 si, .int .i64 sw, .string nt] a b c (si) (sw) r)) := SRb.some S0.out r
   repeat go_big_quiet_step (fail)
   exact wpQuiet_nil hK.out
 · go_wp2_with fail
   obtain ⟨u0, u1⟩ := SR.res (hD) (.int .i64 si) (.int .i64 sw) rfl
   exact bodyPost_ret (v := .tuple #[.agg #[.int .i64 si, .int .i64 sw], .bool x0]) (by simp [results, Tryz.results179, go_sem, u0, u1]) rfl ⟨⟨si, sw⟩, x0, rfl, HS.out.trans (by simp), (hD).bel⟩
end Go.Proofs.YtmolbnghobfmoaaGreat
