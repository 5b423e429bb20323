/- Part 37 of what the row Row28 rests on: Zb Zc. -/
import Derived.Test.YtmolbnghobfmoaaGreatP35
set_option maxRecDepth 100000
set_option maxHeartbeats 16000000
set_option linter.unusedSimpArgs false
set_option linter.unusedVariables false
namespace Go.Proofs.YtmolbnghobfmoaaGreat
open Go.RowKit
theorem zPg (s : So) (w : World) : Calls Tryz.prog 138 #[.agg #[.int .i64 s.i, .int .i64 s.w]] w fun e w' => e = .returned (.agg #[.int .i64 s.i, .int .i64 s.w]) ∧ Below w.heap.size w w' := by
 go_enter Tryz.func138, Tryz.ntmps138
 go_wp2_with fail
 exact bodyPost_ret (v := .agg #[.int .i64 s.i, .int .i64 s.w]) (by simp [results, Tryz.results138, go_sem]) rfl ⟨rfl, by first | exact (((Below.refl _ _).alloc (Nat.le_refl _) _).alloc (by simp) _).alloc (by simp; omega) _ | exact zB2 ((((Below.refl _ _).alloc (Nat.le_refl _) _).alloc (by simp) _).alloc (by simp; omega) _) (by omega) _ _⟩
theorem zPd (n : No) (w : World) : Calls Tryz.prog 80 #[.agg #[.int .i64 n.k, .int .i64 n.a, .int .i64 n.b, .int .i64 n.c, .int .i64 n.n, .int .i64 n.m, .int .i64 n.s.i, .int .i64 n.s.w, .string n.t]] w fun e w' => e = .returned (.agg #[.int .i64 n.k, .int .i64 n.a, .int .i64 n.b, .int .i64 n.c, .int .i64 n.n, .int .i64 n.m, .int .i64 n.s.i, .int .i64 n.s.w, .string n.t]) ∧ Below w.heap.size w w' := by
 have B1 : Hid (Below w.heap.size w (((w.alloc (.cells #[.int .i64 n.k, .int .i64 n.a, .int .i64 n.b, .int .i64 n.c, .int .i64 n.n, .int .i64 n.m, .int .i64 n.s.i, .int .i64 n.s.w, .string n.t] 101)).alloc (.cells #[.int .i64 0, .int .i64 0, .int .i64 0, .int .i64 0, .int .i64 0, .int .i64 0, .int .i64 0, .int .i64 0, .string ByteArray.empty] 42)).alloc (.cells #[.int .i64 n.k, .int .i64 n.a, .int .i64 n.b, .int .i64 n.c, .int .i64 n.n, .int .i64 n.m, .int .i64 0, .int .i64 0, .string ByteArray.empty] 42))) := (((Below.refl _ _).alloc (Nat.le_refl _) _).alloc (by simp) _).alloc (by simp; omega) _
 have X1 : Hid (Blk (((w.alloc (.cells #[.int .i64 n.k, .int .i64 n.a, .int .i64 n.b, .int .i64 n.c, .int .i64 n.n, .int .i64 n.m, .int .i64 n.s.i, .int .i64 n.s.w, .string n.t] 101)).alloc (.cells #[.int .i64 0, .int .i64 0, .int .i64 0, .int .i64 0, .int .i64 0, .int .i64 0, .int .i64 0, .int .i64 0, .string ByteArray.empty] 42)).alloc (.cells #[.int .i64 n.k, .int .i64 n.a, .int .i64 n.b, .int .i64 n.c, .int .i64 n.n, .int .i64 n.m, .int .i64 0, .int .i64 0, .string ByteArray.empty] 42)) w.heap.size 101 #[.int .i64 n.k, .int .i64 n.a, .int .i64 n.b, .int .i64 n.c, .int .i64 n.n, .int .i64 n.m, .int .i64 n.s.i, .int .i64 n.s.w, .string n.t]) := ((Blk.new _ _ _).alloc _).alloc _; have R1 : Hid (Blk (((w.alloc (.cells #[.int .i64 n.k, .int .i64 n.a, .int .i64 n.b, .int .i64 n.c, .int .i64 n.n, .int .i64 n.m, .int .i64 n.s.i, .int .i64 n.s.w, .string n.t] 101)).alloc (.cells #[.int .i64 0, .int .i64 0, .int .i64 0, .int .i64 0, .int .i64 0, .int .i64 0, .int .i64 0, .int .i64 0, .string ByteArray.empty] 42)).alloc (.cells #[.int .i64 n.k, .int .i64 n.a, .int .i64 n.b, .int .i64 n.c, .int .i64 n.n, .int .i64 n.m, .int .i64 0, .int .i64 0, .string ByteArray.empty] 42)) (w.heap.size + 1) 42 #[.int .i64 0, .int .i64 0, .int .i64 0, .int .i64 0, .int .i64 0, .int .i64 0, .int .i64 0, .int .i64 0, .string ByteArray.empty]) := (Blk.new_at _ _ _ (by simp)).alloc _
 have O1 : Hid (Blk (((w.alloc (.cells #[.int .i64 n.k, .int .i64 n.a, .int .i64 n.b, .int .i64 n.c, .int .i64 n.n, .int .i64 n.m, .int .i64 n.s.i, .int .i64 n.s.w, .string n.t] 101)).alloc (.cells #[.int .i64 0, .int .i64 0, .int .i64 0, .int .i64 0, .int .i64 0, .int .i64 0, .int .i64 0, .int .i64 0, .string ByteArray.empty] 42)).alloc (.cells #[.int .i64 n.k, .int .i64 n.a, .int .i64 n.b, .int .i64 n.c, .int .i64 n.n, .int .i64 n.m, .int .i64 0, .int .i64 0, .string ByteArray.empty] 42)) (w.heap.size + 1 + 1) 42 #[.int .i64 n.k, .int .i64 n.a, .int .i64 n.b, .int .i64 n.c, .int .i64 n.n, .int .i64 n.m, .int .i64 0, .int .i64 0, .string ByteArray.empty]) := Blk.new_at _ _ _ (by simp)
 go_enter Tryz.func80, Tryz.ntmps80
 go_wp2_with (go_at_call 138; refine (zPg n.s _).mono ?_; rintro e w3 ⟨rfl, hb3⟩; have B3 := Kh (B1.out.trans (hb3.mono B1.out.size)); have X3 := Kh (X1.out.below hb3 X1.out.lt); have R3 := Kh (R1.out.below hb3 R1.out.lt); have O3 := Kh (O1.out.below hb3 O1.out.lt); obtain ⟨x0, x1, x2, x3, x4, x5, x6, x7, x8⟩ := X3.out.nine; obtain ⟨z0, z1, z2, z3, z4, z5, z6, z7, z8⟩ := R3.out.nine; obtain ⟨y0, y1, y2, y3, y4, y5, y6, y7, y8⟩ := O3.out.nine; have g6 := O3.out.frozen 6; have g7 := O3.out.frozen 7; have g8 := O3.out.frozen 8; have f0 := R3.out.frozen 0; have f1 := R3.out.frozen 1; have f2 := R3.out.frozen 2; have f3 := R3.out.frozen 3; have f4 := R3.out.frozen 4; have f5 := R3.out.frozen 5; have f6 := R3.out.frozen 6; have f7 := R3.out.frozen 7; have f8 := R3.out.frozen 8; clear hb3)
 exact bodyPost_ret (v := .agg #[.int .i64 n.k, .int .i64 n.a, .int .i64 n.b, .int .i64 n.c, .int .i64 n.n, .int .i64 n.m, .int .i64 n.s.i, .int .i64 n.s.w, .string n.t]) (by simp [results, Tryz.results80, go_sem, z0, z1, z2, z3, z4, z5, z6, z7, z8]) rfl ⟨rfl, zB4 (((B3.out.setCell (p := ⟨w.heap.size + 1 + 1, 6, none⟩) (by show w.heap.size ≤ w.heap.size + 1 + 1; omega) _).setCell (p := ⟨w.heap.size + 1 + 1, 7, none⟩) (by show w.heap.size ≤ w.heap.size + 1 + 1; omega) _).setCell (p := ⟨w.heap.size + 1 + 1, 8, none⟩) (by show w.heap.size ≤ w.heap.size + 1 + 1; omega) _) (by omega) _ _ _ _ _ _ _ _ _⟩
theorem zP9 (b : Bi) (w : World) : Calls Tryz.prog 81 #[.agg #[.int .i64 b.st, .int .i64 b.nd]] w fun e w' => e = .returned (.agg #[.int .i64 b.st, .int .i64 b.nd]) ∧ Below w.heap.size w w' := by
 go_enter Tryz.func81, Tryz.ntmps81
 go_wp2_with fail
 exact bodyPost_ret (v := .agg #[.int .i64 b.st, .int .i64 b.nd]) (by simp [results, Tryz.results81, go_sem]) rfl ⟨rfl, by first | exact (((Below.refl _ _).alloc (Nat.le_refl _) _).alloc (by simp) _).alloc (by simp; omega) _ | exact zB2 ((((Below.refl _ _).alloc (Nat.le_refl _) _).alloc (by simp) _).alloc (by simp; omega) _) (by omega) _ _⟩
theorem zH4 (z : Array Value) (n i : Nat) (h : i < n) (hz : 0 < z.size) : (madeCells z n)[i]? = z[i % z.size]? := by
 have hm : i % z.size < z.size := Nat.mod_lt _ hz; rw [Array.getElem?_eq_getElem (by rw [size_madeCells]; exact h), Array.getElem?_eq_getElem hm]
 simp [madeCells, hm]
theorem zH8 (n : Nat) : madeCells #[.int .i64 0, .int .i64 0, .int .i64 0, .int .i64 0, .int .i64 0, .int .i64 0, .int .i64 0, .int .i64 0, .string ByteArray.empty] (n * 9) = (zC6 (List.replicate n (default : No))).toArray := by
 apply Array.ext_getElem?
 intro i
 by_cases h : i < n * 9
 · refine (zH4 _ _ _ h (by decide)).trans (Eq.trans ?_ List.getElem?_toArray.symm)
   have hk : i / 9 < (List.replicate n (default : No)).length := by rw [List.length_replicate]; omega
   have := zC8 hk (j := i % 9) (by omega)
   rw [show i / 9 * 9 + i % 9 = i by omega] at this
   rw [this, List.getElem_replicate]; rfl
 · rw [Array.getElem?_eq_none (by rw [size_madeCells]; omega), List.getElem?_toArray, List.getElem?_eq_none (by rw [zC9, List.length_replicate]; omega)]
theorem zH3 (n : Nat) : madeCells #[.int .i64 0, .int .i64 0] (n * 2) = (zC0 (List.replicate n (⟨0, 0⟩ : Bi))).toArray := by
 apply Array.ext_getElem?
 intro i
 by_cases h : i < n * 2
 · refine (zH4 _ _ _ h (by decide)).trans (Eq.trans ?_ List.getElem?_toArray.symm)
   have hk : i / 2 < (List.replicate n (⟨0, 0⟩ : Bi)).length := by rw [List.length_replicate]; omega
   have := zC1 hk (j := i % 2) (by omega)
   rw [show i / 2 * 2 + i % 2 = i by omega] at this
   rw [this, List.getElem_replicate]; rfl
 · rw [Array.getElem?_eq_none (by rw [size_madeCells]; omega), List.getElem?_toArray, List.getElem?_eq_none (by rw [zC2, List.length_replicate]; omega)]
theorem zH7 (n : Nat) : madeCells #[.int .i64 0] n = Array.replicate n (Value.int .i64 0) := by
 apply Array.ext_getElem?
 intro i
 by_cases h : i < n
 · rw [zH4 _ _ _ h (by decide), Array.getElem?_replicate, if_pos h, show i % (#[Value.int .i64 0]).size = 0 from Nat.mod_one i]
   rfl
 · rw [Array.getElem?_eq_none (by rw [size_madeCells]; omega), Array.getElem?_eq_none (by simp; omega)]
theorem zHs (n : Nat) (hn : n ≤ 1048576) (w : World) :
 (Instr.makeSlice 28 (.int .i64 (n : Int)) (.int .i64 (n : Int))).run Tryz.prog w = .ok (.slice (some ⟨w.heap.size, 0, none⟩) n n) (w.alloc (.cells (zC6 (List.replicate n (default : No))).toArray 42)) := by
 obtain ⟨i, hi, hz0, hz1, hz2⟩ := info_parts zF5; have := zLg (P := Tryz.prog) 28 42 i _ Tryz.underlying28 hi hz0 .i64 .i64 n n (Nat.le_refl _) (by rw [hz2]; omega) (by omega) w
 rw [hz1] at this; rw [← zH8]
 exact this
theorem zHq (n : Nat) (hn : n ≤ 1048576) (w : World) :
 (Instr.makeSlice 29 (.int .i64 (n : Int)) (.int .i64 (n : Int))).run Tryz.prog w = .ok (.slice (some ⟨w.heap.size, 0, none⟩) n n) (w.alloc (.cells (zC0 (List.replicate n (⟨0, 0⟩ : Bi))).toArray 55)) := by
 obtain ⟨i, hi, hz0, hz1, hz2⟩ := info_parts zF3; have := zLg (P := Tryz.prog) 29 55 i _ Tryz.underlying29 hi hz0 .i64 .i64 n n (Nat.le_refl _) (by rw [hz2]; omega) (by omega) w
 rw [hz1] at this; rw [← zH3]
 exact this
theorem mk_ints (n : Nat) (hn : n ≤ 1048576) (w : World) :
 (Instr.makeSlice 24 (.int .i64 (n : Int)) (.int .i64 (n : Int))).run Tryz.prog w = .ok (.slice (some ⟨w.heap.size, 0, none⟩) n n) (w.alloc (.cells (Array.replicate n (Value.int .i64 0)) 3)) := by
 obtain ⟨i, hi, hz0, hz1, hz2⟩ := info_parts zF2; have := zLg (P := Tryz.prog) 24 3 i _ Tryz.underlying24 hi hz0 .i64 .i64 n n (Nat.le_refl _) (by rw [hz2]; omega) (by omega) w
 rw [hz1, Nat.mul_one] at this; rw [← zH7]
 exact this
theorem zCc (l : List No) (i : Nat) (n : No) : (((((((((zC6 l).set (i * 9) (.int .i64 n.k)).set (i * 9 + 1) (.int .i64 n.a)).set (i * 9 + 2) (.int .i64 n.b)).set (i * 9 + 3) (.int .i64 n.c)).set (i * 9 + 4) (.int .i64 n.n)).set (i * 9 + 5) (.int .i64 n.m)).set (i * 9 + 6) (.int .i64 n.s.i)).set (i * 9 + 7) (.int .i64 n.s.w)).set (i * 9 + 8) (.string n.t) = zC6 (l.set i n) := by
 induction l generalizing i with
 | nil => simp [zC6]
 | cons x t ih =>
  cases i with
  | zero => simp [zC6, cN]
  | succ i =>
   have e : zC6 (x :: t) = .int .i64 x.k :: .int .i64 x.a :: .int .i64 x.b :: .int .i64 x.c :: .int .i64 x.n :: .int .i64 x.m :: .int .i64 x.s.i :: .int .i64 x.s.w :: .string x.t :: zC6 t := by simp [zC6, cN]
   have k : ∀ (j : Nat) (a b c d e f g h p : Value) (l : List Value) (u : Value), (a :: b :: c :: d :: e :: f :: g :: h :: p :: l).set ((i + 1) * 9 + j) u = a :: b :: c :: d :: e :: f :: g :: h :: p :: l.set (i * 9 + j) u := fun j a b c d e f g h p l u => by
    rw [show (i + 1) * 9 + j = (i * 9 + j) + 1 + 1 + 1 + 1 + 1 + 1 + 1 + 1 + 1 by omega]; rfl
   have k0 := k 0; simp only [Nat.add_zero] at k0; rw [e, k0, k, k, k, k, k, k, k, k, ih, List.set_cons_succ]; simp [zC6, cN]
theorem zJo {w : World} {B g c : Nat} {l : List No} (h : w.ownsRow B 42 9 (.slice (some ⟨g, 0, none⟩) l.length c) l.length (zC6 l)) (i : Nat) (n : No) :
 (((((((((w.setCell ⟨g, i * 9, none⟩ (.int .i64 n.k)).setCell ⟨g, i * 9 + 1, none⟩ (.int .i64 n.a)).setCell ⟨g, i * 9 + 2, none⟩ (.int .i64 n.b)).setCell ⟨g, i * 9 + 3, none⟩ (.int .i64 n.c)).setCell ⟨g, i * 9 + 4, none⟩ (.int .i64 n.n)).setCell ⟨g, i * 9 + 5, none⟩ (.int .i64 n.m)).setCell ⟨g, i * 9 + 6, none⟩ (.int .i64 n.s.i)).setCell ⟨g, i * 9 + 7, none⟩ (.int .i64 n.s.w)).setCell ⟨g, i * 9 + 8, none⟩ (.string n.t)).ownsRow B 42 9 (.slice (some ⟨g, 0, none⟩) (l.set i n).length c) (l.set i n).length (zC6 (l.set i n)) := by
 rw [List.length_set, ← zCc]
 exact ((((((((h.stored (i * 9) (.int .i64 n.k)).1.stored (i * 9 + 1) (.int .i64 n.a)).1.stored (i * 9 + 2) (.int .i64 n.b)).1.stored (i * 9 + 3) (.int .i64 n.c)).1.stored (i * 9 + 4) (.int .i64 n.n)).1.stored (i * 9 + 5) (.int .i64 n.m)).1.stored (i * 9 + 6) (.int .i64 n.s.i)).1.stored (i * 9 + 7) (.int .i64 n.s.w)).1.stored (i * 9 + 8) (.string n.t) |>.1
theorem zB5 {B : Nat} {w w' : World} (h : Below B w w') {g i : Nat} (hg : B ≤ g) (v0 v1 v2 v3 v4 v5 v6 v7 v8 : Value) :
 Below B w (((((((((w'.setCell ⟨g, i * 9, none⟩ v0).setCell ⟨g, i * 9 + 1, none⟩ v1).setCell ⟨g, i * 9 + 2, none⟩ v2).setCell ⟨g, i * 9 + 3, none⟩ v3).setCell ⟨g, i * 9 + 4, none⟩ v4).setCell ⟨g, i * 9 + 5, none⟩ v5).setCell ⟨g, i * 9 + 6, none⟩ v6).setCell ⟨g, i * 9 + 7, none⟩ v7).setCell ⟨g, i * 9 + 8, none⟩ v8) :=
 ((((((((h.setCell (p := ⟨g, i * 9, none⟩) hg _).setCell (p := ⟨g, i * 9 + 1, none⟩) hg _).setCell (p := ⟨g, i * 9 + 2, none⟩) hg _).setCell (p := ⟨g, i * 9 + 3, none⟩) hg _).setCell (p := ⟨g, i * 9 + 4, none⟩) hg _).setCell (p := ⟨g, i * 9 + 5, none⟩) hg _).setCell (p := ⟨g, i * 9 + 6, none⟩) hg _).setCell (p := ⟨g, i * 9 + 7, none⟩) hg _).setCell (p := ⟨g, i * 9 + 8, none⟩) hg _
theorem zJi {w : World} {B c : Nat} {A : Option Addr} {l : List No} (h : w.ownsRow B 42 9 (.slice A l.length c) l.length (zC6 l)) : zA9 w A l := fun hp => by
 obtain ⟨g, cap, e1, hge, hlt⟩ := h.form hp; injection e1 with e1 _ e2
 subst e1; subst e2
 refine ⟨g, rfl, hlt, fun k hk => ?_⟩
 have key : ∀ j, j < 9 → w.cell? ⟨g, k * 9 + j, none⟩ = (cN l[k])[j]? := fun j hj => by rw [h.cellAt (k * 9 + j) (by omega), zC8 hk hj]
 exact ⟨key 0 (by omega), key 1 (by omega), key 2 (by omega), key 3 (by omega), key 4 (by omega), key 5 (by omega), key 6 (by omega), key 7 (by omega), key 8 (by omega)⟩
theorem zN4 {α : Type} {l l' : List α} {r : Nat} {x : α} (hl : l'.length = l.length) (hr : r < l.length) (h : l'.take r = l.take r) (hx : l[r] = x) : (l'.set r x).take (r + 1) = l.take (r + 1) := by
 rw [List.take_add_one, List.take_set_of_le (Nat.le_refl _), h, List.getElem?_set_self (by omega), List.take_add_one, List.getElem?_eq_getElem hr, hx]
theorem zPe (A : Option Addr) (cap : Nat) (l : List No) (w : World) (hA : zA8 w A l) (hn : l.length ≤ 1048576) :
 Calls Tryz.prog 32 #[.slice A l.length cap] w fun e w' => ∃ g, e = .returned (.slice (some ⟨g, 0, none⟩) l.length l.length) ∧ w'.ownsRow w.heap.size 42 9 (.slice (some ⟨g, 0, none⟩) l.length l.length) l.length (zC6 l) ∧ Below w.heap.size w w' := by
 have HA := Kh hA; clear hA; have hmk := zHs l.length hn; have B1 := bx w (zC6 (List.replicate l.length (default : No))).toArray 42
 have O1 : Hid ((w.alloc (.cells (zC6 (List.replicate l.length (default : No))).toArray 42)).ownsRow w.heap.size 42 9 (.slice (some ⟨w.heap.size, 0, none⟩) l.length l.length) l.length (zC6 (List.replicate l.length (default : No)))) :=
  World.ownsRow_lit w (zC6 (List.replicate l.length (default : No))).toArray l.length (Nat.le_refl _) (by unfold maxLen; omega) (by rw [List.size_toArray, zC9, List.length_replicate])
 go_enter Tryz.func32, Tryz.ntmps32
 go_wp2_with fail
 obtain ⟨wa, hwa⟩ : ∃ z, w.alloc (.cells (zC6 (List.replicate l.length (default : No))).toArray 42) = z := ⟨_, rfl⟩
 rw [hwa] at B1 O1 ⊢; clear hwa hmk
 go_loopw [4] (fun i wr => ∃ (r : Nat) (l' : List No), r ≤ l.length ∧ l'.length = l.length ∧ Hid (l'.take r = l.take r) ∧ Hid (Below w.heap.size w wr) ∧ Hid (wr.ownsRow w.heap.size 42 9 (.slice (some ⟨w.heap.size, 0, none⟩) l'.length l.length) l'.length (zC6 l')) ∧ i = .int .i64 (r : Int)) (fun i _ => l.length - (intOf i).toNat)
 case atStart => exact ⟨0, _, Nat.zero_le _, List.length_replicate, Kh (by simp), B1, by rw [List.length_replicate]; exact O1, rfl⟩
 case round =>
  obtain ⟨wz, rfl⟩ : ∃ x : World, x = wr := ⟨_, rfl⟩
  clear B1 O1; obtain ⟨r, l', hr, hl', HT, HB, HO, rfl⟩ := hrel
  by_cases hlt : r < l.length
  case neg =>
   obtain rfl : r = l.length := by omega
   obtain rfl : l' = l := by have := HT.out; rwa [List.take_length, ← hl', List.take_length] at this
   go_wp2_with fail
   go_ret
   exact ⟨w.heap.size, rfl, HO.out, HB.out⟩
  obtain ⟨b, off, rfl, hg, hc⟩ := (HA.out.below HB.out) (by omega)
  obtain ⟨⟨y0, y1, y2, y3, y4, y5, y6, y7, y8⟩, -⟩ := hc r hlt; clear hc; have e1 := wr1 (r := r) (by omega)
  have hj0 : (0 : Int) ≤ (r : Int) := by omega
  have hj1 : (r : Int) < (l.length : Int) := by omega
  have HT2 : Hid ((l'.set r l[r]).take (r + 1) = l.take (r + 1)) := Kh (zN4 hl' hlt HT.out rfl); have hr' : r < l'.length := by omega
  generalize l[r] = n at *
  go_wp2_with (go_at_call 80; refine (zPd n _).mono ?_; rintro e w3 ⟨rfl, hb3⟩; have HB3 := Kh (HB.out.trans (hb3.mono HB.out.size)); have HO3 := Kh (zJ9 HO.out hb3); obtain ⟨gg, e9, hgg, hcc⟩ := zJi HO3.out (by omega); obtain ⟨z0, z1, z2, z3, z4, z5, z6, z7, z8⟩ := hcc r hr'; cases e9; have fz := fun j => HO3.out.frozenAt j; clear hcc hb3)
  go_roundw
  case rel => exact ⟨r + 1, l'.set r n, by omega, by simpa using hl', HT2, zB5 HB3.out (Nat.le_refl _) _ _ _ _ _ _ _ _ _, zJo HO3.out r n, by go_num⟩
  case measure => simp [intOf]; omega
theorem zPa (A : Option Addr) (cap : Nat) (l : List Bi) (w : World) (hA : zA0 w A l) (hn : l.length ≤ 1048576) :
 Calls Tryz.prog 33 #[.slice A l.length cap] w fun e w' => ∃ g, e = .returned (.slice (some ⟨g, 0, none⟩) l.length l.length) ∧ w'.ownsRow w.heap.size 55 2 (.slice (some ⟨g, 0, none⟩) l.length l.length) l.length (zC0 l) ∧ Below w.heap.size w w' := by
 have HA := Kh hA; clear hA; have hmk := zHq l.length hn; have B1 := bx w (zC0 (List.replicate l.length (⟨0, 0⟩ : Bi))).toArray 55
 have O1 : Hid ((w.alloc (.cells (zC0 (List.replicate l.length (⟨0, 0⟩ : Bi))).toArray 55)).ownsRow w.heap.size 55 2 (.slice (some ⟨w.heap.size, 0, none⟩) l.length l.length) l.length (zC0 (List.replicate l.length (⟨0, 0⟩ : Bi)))) :=
  World.ownsRow_lit w (zC0 (List.replicate l.length (⟨0, 0⟩ : Bi))).toArray l.length (Nat.le_refl _) (by unfold maxLen; omega) (by rw [List.size_toArray, zC2, List.length_replicate])
 go_enter Tryz.func33, Tryz.ntmps33
 go_wp2_with fail
 obtain ⟨wa, hwa⟩ : ∃ z, w.alloc (.cells (zC0 (List.replicate l.length (⟨0, 0⟩ : Bi))).toArray 55) = z := ⟨_, rfl⟩
 rw [hwa] at B1 O1 ⊢; clear hwa hmk
 go_loopw [4] (fun i wr => ∃ (r : Nat) (l' : List Bi), r ≤ l.length ∧ l'.length = l.length ∧ Hid (l'.take r = l.take r) ∧ Hid (Below w.heap.size w wr) ∧ Hid (wr.ownsRow w.heap.size 55 2 (.slice (some ⟨w.heap.size, 0, none⟩) l'.length l.length) l'.length (zC0 l')) ∧ i = .int .i64 (r : Int)) (fun i _ => l.length - (intOf i).toNat)
 case atStart => exact ⟨0, _, Nat.zero_le _, List.length_replicate, Kh (by simp), B1, by rw [List.length_replicate]; exact O1, rfl⟩
 case round =>
  obtain ⟨wz, rfl⟩ : ∃ x : World, x = wr := ⟨_, rfl⟩
  clear B1 O1; obtain ⟨r, l', hr, hl', HT, HB, HO, rfl⟩ := hrel
  by_cases hlt : r < l.length
  case neg =>
   obtain rfl : r = l.length := by omega
   obtain rfl : l' = l := by have := HT.out; rwa [List.take_length, ← hl', List.take_length] at this
   go_wp2_with fail
   go_ret
   exact ⟨w.heap.size, rfl, HO.out, HB.out⟩
  obtain ⟨b, off, rfl, hg, hc⟩ := (HA.out.below HB.out) (by omega)
  obtain ⟨y0, y1⟩ := hc r hlt; clear hc; have e1 := wr1 (r := r) (by omega)
  have hj0 : (0 : Int) ≤ (r : Int) := by omega
  have hj1 : (r : Int) < (l.length : Int) := by omega
  have HT2 : Hid ((l'.set r l[r]).take (r + 1) = l.take (r + 1)) := Kh (zN4 hl' hlt HT.out rfl); have hr' : r < l'.length := by omega
  generalize l[r] = n at *
  go_wp2_with (go_at_call 81; refine (zP9 n _).mono ?_; rintro e w3 ⟨rfl, hb3⟩; have HB3 := Kh (HB.out.trans (hb3.mono HB.out.size)); have HO3 := Kh (zJ9 HO.out hb3); obtain ⟨gg, e9, hgg, hcc⟩ := zBd HO3.out (by omega); obtain ⟨z0, z1⟩ := hcc r hr'; cases e9; have fz := fun j => HO3.out.frozenAt j; clear hcc hb3)
  go_roundw
  case rel =>
   refine ⟨r + 1, l'.set r n, by omega, by simpa using hl', HT2, (HB3.out.setCell (p := ⟨w.heap.size, r * 2, none⟩) (Nat.le_refl _) _).setCell (p := ⟨w.heap.size, r * 2 + 1, none⟩) (Nat.le_refl _) _, ?_, by go_num⟩
   show World.ownsRow _ _ _ _ _ _ _
   rw [List.length_set, ← zC4]
   exact ((HO3.out.stored (r * 2) (.int .i64 n.st)).1.stored (r * 2 + 1) (.int .i64 n.nd)).1
  case measure => simp [intOf]; omega
theorem zPb (A : Option Addr) (cap : Nat) (l : List Int) (w : World) (hA : IArg w A l) (hn : l.length ≤ 1048576) :
 Calls Tryz.prog 34 #[.slice A l.length cap] w fun e w' => ∃ g, e = .returned (.slice (some ⟨g, 0, none⟩) l.length l.length) ∧ w'.ownsRow w.heap.size 3 1 (.slice (some ⟨g, 0, none⟩) l.length l.length) l.length (l.map (.int .i64)) ∧ Below w.heap.size w w' := by
 have HA := Kh hA; clear hA; have hmk := mk_ints l.length hn; have B1 := bx w (Array.replicate l.length (Value.int .i64 0)) 3
 have O1 : Hid ((w.alloc (.cells (Array.replicate l.length (Value.int .i64 0)) 3)).ownsRow w.heap.size 3 1 (.slice (some ⟨w.heap.size, 0, none⟩) l.length l.length) l.length (List.replicate l.length (Value.int .i64 0))) :=
  Kh (by have := World.ownsRow_lit (base := w.heap.size) (e := 3) (size := 1) w (Array.replicate l.length (Value.int .i64 0)) l.length (Nat.le_refl _) (by unfold maxLen; omega) (by simp); rwa [Array.toList_replicate] at this)
 go_enter Tryz.func34, Tryz.ntmps34
 go_wp2_with fail
 obtain ⟨wa, hwa⟩ : ∃ z, w.alloc (.cells (Array.replicate l.length (Value.int .i64 0)) 3) = z := ⟨_, rfl⟩
 rw [hwa] at B1 O1 ⊢; clear hwa hmk
 go_loopw [4] (fun i wr => ∃ (r : Nat) (l' : List Int), r ≤ l.length ∧ l'.length = l.length ∧ Hid (l'.take r = l.take r) ∧ Hid (Below w.heap.size w wr) ∧ Hid (wr.ownsRow w.heap.size 3 1 (.slice (some ⟨w.heap.size, 0, none⟩) l'.length l.length) l'.length (l'.map (.int .i64))) ∧ i = .int .i64 (r : Int)) (fun i _ => l.length - (intOf i).toNat)
 case atStart => exact ⟨0, List.replicate l.length 0, Nat.zero_le _, List.length_replicate, Kh (by simp), B1, by rw [List.length_replicate, List.map_replicate]; exact O1, rfl⟩
 case round =>
  obtain ⟨wz, rfl⟩ : ∃ x : World, x = wr := ⟨_, rfl⟩
  clear B1 O1; obtain ⟨r, l', hr, hl', HT, HB, HO, rfl⟩ := hrel
  by_cases hlt : r < l.length
  case neg =>
   obtain rfl : r = l.length := by omega
   obtain rfl : l' = l := by have := HT.out; rwa [List.take_length, ← hl', List.take_length] at this
   go_wp2_with fail
   go_ret
   exact ⟨w.heap.size, rfl, HO.out, HB.out⟩
  obtain ⟨b, off, rfl, hg, hc⟩ := (HA.out.below HB.out) (by omega)
  have y0 := hc r hlt; clear hc; have e1 := wr1 (r := r) (by omega)
  have hj0 : (0 : Int) ≤ (r : Int) := by omega
  have hj1 : (r : Int) < (l.length : Int) := by omega
  have HT2 : Hid ((l'.set r l[r]).take (r + 1) = l.take (r + 1)) := Kh (zN4 hl' hlt HT.out rfl); have hr' : r < l'.length := by omega
  generalize l[r] = n at *; obtain ⟨gg, e9, hgg, hcc⟩ := IAt.of_own HO.out (by omega)
  have z0 := hcc r hr'
  cases e9
  have fz := fun j => HO.out.frozenAt j
  clear hcc
  go_wp2_with fail
  go_roundw
  case rel =>
   refine ⟨r + 1, l'.set r n, by omega, by simpa using hl', HT2, HB.out.setCell (p := ⟨w.heap.size, r, none⟩) (Nat.le_refl _) _, ?_, by go_num⟩
   show World.ownsRow _ _ _ _ _ _ _
   rw [List.length_set, List.map_set]
   exact (HO.out.stored r (.int .i64 n)).1
  case measure => simp [intOf]; omega
def MTo (w : World) (m : Mo) (e : Ending) (w' : World) : Prop :=
 ∃ A0 A1 A2 A3 A4 c0 c1 c2 c3 c4, e = .returned (.agg #[.slice A0 m.ns.length c0, .slice A1 m.ins.length c1, .slice A2 m.nxs.length c2, .slice A3 m.bads.length c3, .slice A4 m.hols.length c4]) ∧ MoNew w' w.heap.size A0 A1 A2 A3 A4 c0 c1 c2 c3 c4 m ∧ MoArg w' A0 A1 A2 A3 A4 c0 c1 c2 c3 c4 m ∧ Below w.heap.size w w'
theorem MoNew.arg {w : World} {B : Nat} {A0 A1 A2 A3 A4 : Option Addr} {c0 c1 c2 c3 c4 : Nat} {m : Mo} (h : MoNew w B A0 A1 A2 A3 A4 c0 c1 c2 c3 c4 m) (hc : m.ns.length ≤ c0) (hl : m.ns.length ≤ 1048576 ∧ m.ins.length ≤ 1048576 ∧ m.nxs.length ≤ 1048576 ∧ m.bads.length ≤ 1048576 ∧ m.hols.length ≤ 1048576) (hnm : ∀ n ∈ m.ns, n.t.size ≤ 1048576) (ha : ∀ b ∈ m.ins, zEo b.st) (hb : ∀ b ∈ m.nxs, zEo b.st) : MoArg w A0 A1 A2 A3 A4 c0 c1 c2 c3 c4 m :=
 ⟨⟨zJi h.ns, zBd h.ins, zBd h.nxs, IAt.of_own h.bads, IAt.of_own h.hols, hc, zJh h.bads, zJh h.hols, hl, hnm, ha, hb⟩, ⟨zJh h.ns, zJh h.ins, zJh h.nxs, zJh h.bads, zJh h.hols⟩⟩
theorem zPc (A0 A1 A2 A3 A4 : Option Addr) (c0 c1 c2 c3 c4 : Nat) (m : Mo) (w : World) (hM : MArg w A0 A1 A2 A3 A4 m) (hl : m.ns.length ≤ 1048576 ∧ m.ins.length ≤ 1048576 ∧ m.nxs.length ≤ 1048576 ∧ m.bads.length ≤ 1048576 ∧ m.hols.length ≤ 1048576) (hnm : ∀ n ∈ m.ns, n.t.size ≤ 1048576) :
 Calls Tryz.prog 9 #[.agg #[.slice A0 m.ns.length c0, .slice A1 m.ins.length c1, .slice A2 m.nxs.length c2, .slice A3 m.bads.length c3, .slice A4 m.hols.length c4]] w fun e w' => MTo w m e w' := by
 have HM := Kh hM; have HNM := Kh hnm; clear hM hnm; obtain ⟨l0, l1, l2, l3, l4⟩ := hl; have B0 : Hid (Below w.heap.size w (((w.alloc (.cells #[.slice A0 m.ns.length c0, .slice A1 m.ins.length c1, .slice A2 m.nxs.length c2, .slice A3 m.bads.length c3, .slice A4 m.hols.length c4] 26)).alloc (.cells #[.slice none 0 0, .slice none 0 0, .slice none 0 0, .slice none 0 0, .slice none 0 0] 31)).alloc (.cells #[.slice none 0 0, .slice none 0 0, .slice none 0 0, .slice none 0 0, .slice none 0 0] 31))) := (((Below.refl _ _).alloc (Nat.le_refl _) _).alloc (by simp) _).alloc (by simp; omega) _
 have X0 : Hid (Blk (((w.alloc (.cells #[.slice A0 m.ns.length c0, .slice A1 m.ins.length c1, .slice A2 m.nxs.length c2, .slice A3 m.bads.length c3, .slice A4 m.hols.length c4] 26)).alloc (.cells #[.slice none 0 0, .slice none 0 0, .slice none 0 0, .slice none 0 0, .slice none 0 0] 31)).alloc (.cells #[.slice none 0 0, .slice none 0 0, .slice none 0 0, .slice none 0 0, .slice none 0 0] 31)) w.heap.size 26 #[.slice A0 m.ns.length c0, .slice A1 m.ins.length c1, .slice A2 m.nxs.length c2, .slice A3 m.bads.length c3, .slice A4 m.hols.length c4]) := ((Blk.new _ _ _).alloc _).alloc _; have R0 : Hid (Blk (((w.alloc (.cells #[.slice A0 m.ns.length c0, .slice A1 m.ins.length c1, .slice A2 m.nxs.length c2, .slice A3 m.bads.length c3, .slice A4 m.hols.length c4] 26)).alloc (.cells #[.slice none 0 0, .slice none 0 0, .slice none 0 0, .slice none 0 0, .slice none 0 0] 31)).alloc (.cells #[.slice none 0 0, .slice none 0 0, .slice none 0 0, .slice none 0 0, .slice none 0 0] 31)) (w.heap.size + 1) 31 #[.slice none 0 0, .slice none 0 0, .slice none 0 0, .slice none 0 0, .slice none 0 0]) := (Blk.new_at _ _ _ (by simp)).alloc _
 have O0 : Hid (Blk (((w.alloc (.cells #[.slice A0 m.ns.length c0, .slice A1 m.ins.length c1, .slice A2 m.nxs.length c2, .slice A3 m.bads.length c3, .slice A4 m.hols.length c4] 26)).alloc (.cells #[.slice none 0 0, .slice none 0 0, .slice none 0 0, .slice none 0 0, .slice none 0 0] 31)).alloc (.cells #[.slice none 0 0, .slice none 0 0, .slice none 0 0, .slice none 0 0, .slice none 0 0] 31)) (w.heap.size + 1 + 1) 31 #[.slice none 0 0, .slice none 0 0, .slice none 0 0, .slice none 0 0, .slice none 0 0]) := Blk.new_at _ _ _ (by simp)
 go_enter Tryz.func9, Tryz.ntmps9
 go_wp2_with (first | (go_at_call 32; refine (zPe A0 c0 m.ns _ (by exact (HM.out.below B0.out).ns) l0).mono ?_; rintro e w1 ⟨g1, rfl, ho1, hb1⟩; have Bw := Kh (B0.out.trans (hb1.mono B0.out.size)); have Xw := Kh (X0.out.below hb1 X0.out.lt); have Rw := Kh (R0.out.below hb1 R0.out.lt); have Ow := Kh (O0.out.below hb1 O0.out.lt); have Q1 := Kh (zJf ho1 B0.out.size); have Q1 := Kh (zJb (p := ⟨w.heap.size + 1 + 1, 0, none⟩) Q1.out (zJg Q1.out Ow.out (by decide)) (.slice (some ⟨g1, 0, none⟩) m.ns.length m.ns.length)); obtain ⟨x0, x1, x2, x3, x4⟩ := Xw.out.five; obtain ⟨o0, o1, o2, o3, o4⟩ := Ow.out.five; obtain ⟨z0, z1, z2, z3, z4⟩ := Rw.out.five; have fo := Ow.out.frozen 0; have B1 := Kh (Bw.out.setCell (p := ⟨w.heap.size + 1 + 1, 0, none⟩) (by show w.heap.size ≤ w.heap.size + 1 + 1; omega) (.slice (some ⟨g1, 0, none⟩) m.ns.length m.ns.length)); have X1 := Kh (Xw.out.far (p := ⟨w.heap.size + 1 + 1, 0, none⟩) (by show w.heap.size ≠ w.heap.size + 1 + 1; omega) (.slice (some ⟨g1, 0, none⟩) m.ns.length m.ns.length)); have R1 := Kh (Rw.out.far (p := ⟨w.heap.size + 1 + 1, 0, none⟩) (by show w.heap.size + 1 ≠ w.heap.size + 1 + 1; omega) (.slice (some ⟨g1, 0, none⟩) m.ns.length m.ns.length)); have O1 : Hid (Blk (w1.setCell ⟨w.heap.size + 1 + 1, 0, none⟩ (.slice (some ⟨g1, 0, none⟩) m.ns.length m.ns.length)) (w.heap.size + 1 + 1) 31 #[(.slice (some ⟨g1, 0, none⟩) m.ns.length m.ns.length), .slice none 0 0, .slice none 0 0, .slice none 0 0, .slice none 0 0]) := Kh (Ow.out.set_ 0 (.slice (some ⟨g1, 0, none⟩) m.ns.length m.ns.length)); clear hb1 ho1) | (go_at_call 33; (with_reducible show Calls _ _ #[.slice A1 m.ins.length _] _ _); refine (zPa A1 c1 m.ins _ (by exact (HM.out.below B1.out).ins) l1).mono ?_; rintro e w2 ⟨g2, rfl, ho2, hb2⟩; have Bw := Kh (B1.out.trans (hb2.mono B1.out.size)); have Xw := Kh (X1.out.below hb2 X1.out.lt); have Rw := Kh (R1.out.below hb2 R1.out.lt); have Ow := Kh (O1.out.below hb2 O1.out.lt); have Q1 := Kh (zJ9 Q1.out hb2); have Q2 := Kh (zJf ho2 B1.out.size); have Q1 := Kh (zJb (p := ⟨w.heap.size + 1 + 1, 1, none⟩) Q1.out (zJg Q1.out Ow.out (by decide)) (.slice (some ⟨g2, 0, none⟩) m.ins.length m.ins.length)); have Q2 := Kh (zJb (p := ⟨w.heap.size + 1 + 1, 1, none⟩) Q2.out (zJg Q2.out Ow.out (by decide)) (.slice (some ⟨g2, 0, none⟩) m.ins.length m.ins.length)); obtain ⟨x0, x1, x2, x3, x4⟩ := Xw.out.five; obtain ⟨o0, o1, o2, o3, o4⟩ := Ow.out.five; obtain ⟨z0, z1, z2, z3, z4⟩ := Rw.out.five; have fo := Ow.out.frozen 1; have B2 := Kh (Bw.out.setCell (p := ⟨w.heap.size + 1 + 1, 1, none⟩) (by show w.heap.size ≤ w.heap.size + 1 + 1; omega) (.slice (some ⟨g2, 0, none⟩) m.ins.length m.ins.length)); have X2 := Kh (Xw.out.far (p := ⟨w.heap.size + 1 + 1, 1, none⟩) (by show w.heap.size ≠ w.heap.size + 1 + 1; omega) (.slice (some ⟨g2, 0, none⟩) m.ins.length m.ins.length)); have R2 := Kh (Rw.out.far (p := ⟨w.heap.size + 1 + 1, 1, none⟩) (by show w.heap.size + 1 ≠ w.heap.size + 1 + 1; omega) (.slice (some ⟨g2, 0, none⟩) m.ins.length m.ins.length)); have O2 : Hid (Blk (w2.setCell ⟨w.heap.size + 1 + 1, 1, none⟩ (.slice (some ⟨g2, 0, none⟩) m.ins.length m.ins.length)) (w.heap.size + 1 + 1) 31 #[(.slice (some ⟨g1, 0, none⟩) m.ns.length m.ns.length), (.slice (some ⟨g2, 0, none⟩) m.ins.length m.ins.length), .slice none 0 0, .slice none 0 0, .slice none 0 0]) := Kh (Ow.out.set_ 1 (.slice (some ⟨g2, 0, none⟩) m.ins.length m.ins.length)); clear hb2 ho2) | (go_at_call 33; (with_reducible show Calls _ _ #[.slice A2 m.nxs.length _] _ _); refine (zPa A2 c2 m.nxs _ (by exact (HM.out.below B2.out).nxs) l2).mono ?_; rintro e w3 ⟨g3, rfl, ho3, hb3⟩; have Bw := Kh (B2.out.trans (hb3.mono B2.out.size)); have Xw := Kh (X2.out.below hb3 X2.out.lt); have Rw := Kh (R2.out.below hb3 R2.out.lt); have Ow := Kh (O2.out.below hb3 O2.out.lt); have AP1 := Kh (zJ8 Q2.out ho3 (Nat.le_refl _)); have Q1 := Kh (zJ9 Q1.out hb3); have Q2 := Kh (zJ9 Q2.out hb3); have Q3 := Kh (zJf ho3 B2.out.size); have Q1 := Kh (zJb (p := ⟨w.heap.size + 1 + 1, 2, none⟩) Q1.out (zJg Q1.out Ow.out (by decide)) (.slice (some ⟨g3, 0, none⟩) m.nxs.length m.nxs.length)); have Q2 := Kh (zJb (p := ⟨w.heap.size + 1 + 1, 2, none⟩) Q2.out (zJg Q2.out Ow.out (by decide)) (.slice (some ⟨g3, 0, none⟩) m.nxs.length m.nxs.length)); have Q3 := Kh (zJb (p := ⟨w.heap.size + 1 + 1, 2, none⟩) Q3.out (zJg Q3.out Ow.out (by decide)) (.slice (some ⟨g3, 0, none⟩) m.nxs.length m.nxs.length)); obtain ⟨x0, x1, x2, x3, x4⟩ := Xw.out.five; obtain ⟨o0, o1, o2, o3, o4⟩ := Ow.out.five; obtain ⟨z0, z1, z2, z3, z4⟩ := Rw.out.five; have fo := Ow.out.frozen 2; have B3 := Kh (Bw.out.setCell (p := ⟨w.heap.size + 1 + 1, 2, none⟩) (by show w.heap.size ≤ w.heap.size + 1 + 1; omega) (.slice (some ⟨g3, 0, none⟩) m.nxs.length m.nxs.length)); have X3 := Kh (Xw.out.far (p := ⟨w.heap.size + 1 + 1, 2, none⟩) (by show w.heap.size ≠ w.heap.size + 1 + 1; omega) (.slice (some ⟨g3, 0, none⟩) m.nxs.length m.nxs.length)); have R3 := Kh (Rw.out.far (p := ⟨w.heap.size + 1 + 1, 2, none⟩) (by show w.heap.size + 1 ≠ w.heap.size + 1 + 1; omega) (.slice (some ⟨g3, 0, none⟩) m.nxs.length m.nxs.length)); have O3 : Hid (Blk (w3.setCell ⟨w.heap.size + 1 + 1, 2, none⟩ (.slice (some ⟨g3, 0, none⟩) m.nxs.length m.nxs.length)) (w.heap.size + 1 + 1) 31 #[(.slice (some ⟨g1, 0, none⟩) m.ns.length m.ns.length), (.slice (some ⟨g2, 0, none⟩) m.ins.length m.ins.length), (.slice (some ⟨g3, 0, none⟩) m.nxs.length m.nxs.length), .slice none 0 0, .slice none 0 0]) := Kh (Ow.out.set_ 2 (.slice (some ⟨g3, 0, none⟩) m.nxs.length m.nxs.length)); clear hb3 ho3) | (go_at_call 34; (with_reducible show Calls _ _ #[.slice A3 m.bads.length _] _ _); refine (zPb A3 c3 m.bads _ (by exact (HM.out.below B3.out).bads) l3).mono ?_; rintro e w4 ⟨g4, rfl, ho4, hb4⟩; have Bw := Kh (B3.out.trans (hb4.mono B3.out.size)); have Xw := Kh (X3.out.below hb4 X3.out.lt); have Rw := Kh (R3.out.below hb4 R3.out.lt); have Ow := Kh (O3.out.below hb4 O3.out.lt); have Q1 := Kh (zJ9 Q1.out hb4); have Q2 := Kh (zJ9 Q2.out hb4); have Q3 := Kh (zJ9 Q3.out hb4); have Q4 := Kh (zJf ho4 B3.out.size); have Q1 := Kh (zJb (p := ⟨w.heap.size + 1 + 1, 3, none⟩) Q1.out (zJg Q1.out Ow.out (by decide)) (.slice (some ⟨g4, 0, none⟩) m.bads.length m.bads.length)); have Q2 := Kh (zJb (p := ⟨w.heap.size + 1 + 1, 3, none⟩) Q2.out (zJg Q2.out Ow.out (by decide)) (.slice (some ⟨g4, 0, none⟩) m.bads.length m.bads.length)); have Q3 := Kh (zJb (p := ⟨w.heap.size + 1 + 1, 3, none⟩) Q3.out (zJg Q3.out Ow.out (by decide)) (.slice (some ⟨g4, 0, none⟩) m.bads.length m.bads.length)); have Q4 := Kh (zJb (p := ⟨w.heap.size + 1 + 1, 3, none⟩) Q4.out (zJg Q4.out Ow.out (by decide)) (.slice (some ⟨g4, 0, none⟩) m.bads.length m.bads.length)); obtain ⟨x0, x1, x2, x3, x4⟩ := Xw.out.five; obtain ⟨o0, o1, o2, o3, o4⟩ := Ow.out.five; obtain ⟨z0, z1, z2, z3, z4⟩ := Rw.out.five; have fo := Ow.out.frozen 3; have B4 := Kh (Bw.out.setCell (p := ⟨w.heap.size + 1 + 1, 3, none⟩) (by show w.heap.size ≤ w.heap.size + 1 + 1; omega) (.slice (some ⟨g4, 0, none⟩) m.bads.length m.bads.length)); have X4 := Kh (Xw.out.far (p := ⟨w.heap.size + 1 + 1, 3, none⟩) (by show w.heap.size ≠ w.heap.size + 1 + 1; omega) (.slice (some ⟨g4, 0, none⟩) m.bads.length m.bads.length)); have R4 := Kh (Rw.out.far (p := ⟨w.heap.size + 1 + 1, 3, none⟩) (by show w.heap.size + 1 ≠ w.heap.size + 1 + 1; omega) (.slice (some ⟨g4, 0, none⟩) m.bads.length m.bads.length)); have O4 : Hid (Blk (w4.setCell ⟨w.heap.size + 1 + 1, 3, none⟩ (.slice (some ⟨g4, 0, none⟩) m.bads.length m.bads.length)) (w.heap.size + 1 + 1) 31 #[(.slice (some ⟨g1, 0, none⟩) m.ns.length m.ns.length), (.slice (some ⟨g2, 0, none⟩) m.ins.length m.ins.length), (.slice (some ⟨g3, 0, none⟩) m.nxs.length m.nxs.length), (.slice (some ⟨g4, 0, none⟩) m.bads.length m.bads.length), .slice none 0 0]) := Kh (Ow.out.set_ 3 (.slice (some ⟨g4, 0, none⟩) m.bads.length m.bads.length)); clear hb4 ho4) | (go_at_call 34; (with_reducible show Calls _ _ #[.slice A4 m.hols.length _] _ _); refine (zPb A4 c4 m.hols _ (by exact (HM.out.below B4.out).hols) l4).mono ?_; rintro e w5 ⟨g5, rfl, ho5, hb5⟩; have Bw := Kh (B4.out.trans (hb5.mono B4.out.size)); have Xw := Kh (X4.out.below hb5 X4.out.lt); have Rw := Kh (R4.out.below hb5 R4.out.lt); have Ow := Kh (O4.out.below hb5 O4.out.lt); have AP2 := Kh (zJ8 Q4.out ho5 (Nat.le_refl _)); have Q1 := Kh (zJ9 Q1.out hb5); have Q2 := Kh (zJ9 Q2.out hb5); have Q3 := Kh (zJ9 Q3.out hb5); have Q4 := Kh (zJ9 Q4.out hb5); have Q5 := Kh (zJf ho5 B4.out.size); have Q1 := Kh (zJb (p := ⟨w.heap.size + 1 + 1, 4, none⟩) Q1.out (zJg Q1.out Ow.out (by decide)) (.slice (some ⟨g5, 0, none⟩) m.hols.length m.hols.length)); have Q2 := Kh (zJb (p := ⟨w.heap.size + 1 + 1, 4, none⟩) Q2.out (zJg Q2.out Ow.out (by decide)) (.slice (some ⟨g5, 0, none⟩) m.hols.length m.hols.length)); have Q3 := Kh (zJb (p := ⟨w.heap.size + 1 + 1, 4, none⟩) Q3.out (zJg Q3.out Ow.out (by decide)) (.slice (some ⟨g5, 0, none⟩) m.hols.length m.hols.length)); have Q4 := Kh (zJb (p := ⟨w.heap.size + 1 + 1, 4, none⟩) Q4.out (zJg Q4.out Ow.out (by decide)) (.slice (some ⟨g5, 0, none⟩) m.hols.length m.hols.length)); have Q5 := Kh (zJb (p := ⟨w.heap.size + 1 + 1, 4, none⟩) Q5.out (zJg Q5.out Ow.out (by decide)) (.slice (some ⟨g5, 0, none⟩) m.hols.length m.hols.length)); obtain ⟨x0, x1, x2, x3, x4⟩ := Xw.out.five; obtain ⟨o0, o1, o2, o3, o4⟩ := Ow.out.five; obtain ⟨z0, z1, z2, z3, z4⟩ := Rw.out.five; have fo := Ow.out.frozen 4; have f0 := Rw.out.frozen 0; have f1 := Rw.out.frozen 1; have f2 := Rw.out.frozen 2; have f3 := Rw.out.frozen 3; have f4 := Rw.out.frozen 4; have B5 := Kh (Bw.out.setCell (p := ⟨w.heap.size + 1 + 1, 4, none⟩) (by show w.heap.size ≤ w.heap.size + 1 + 1; omega) (.slice (some ⟨g5, 0, none⟩) m.hols.length m.hols.length)); have X5 := Kh (Xw.out.far (p := ⟨w.heap.size + 1 + 1, 4, none⟩) (by show w.heap.size ≠ w.heap.size + 1 + 1; omega) (.slice (some ⟨g5, 0, none⟩) m.hols.length m.hols.length)); have R5 := Kh (Rw.out.far (p := ⟨w.heap.size + 1 + 1, 4, none⟩) (by show w.heap.size + 1 ≠ w.heap.size + 1 + 1; omega) (.slice (some ⟨g5, 0, none⟩) m.hols.length m.hols.length)); have O5 : Hid (Blk (w5.setCell ⟨w.heap.size + 1 + 1, 4, none⟩ (.slice (some ⟨g5, 0, none⟩) m.hols.length m.hols.length)) (w.heap.size + 1 + 1) 31 #[(.slice (some ⟨g1, 0, none⟩) m.ns.length m.ns.length), (.slice (some ⟨g2, 0, none⟩) m.ins.length m.ins.length), (.slice (some ⟨g3, 0, none⟩) m.nxs.length m.nxs.length), (.slice (some ⟨g4, 0, none⟩) m.bads.length m.bads.length), (.slice (some ⟨g5, 0, none⟩) m.hols.length m.hols.length)]) := Kh (Ow.out.set_ 4 (.slice (some ⟨g5, 0, none⟩) m.hols.length m.hols.length)); clear hb5 ho5))
 have HN : Hid (MoNew (w5.setCell ⟨w.heap.size + 1 + 1, 4, none⟩ (.slice (some ⟨g5, 0, none⟩) m.hols.length m.hols.length)) w.heap.size (some ⟨g1, 0, none⟩) (some ⟨g2, 0, none⟩) (some ⟨g3, 0, none⟩) (some ⟨g4, 0, none⟩) (some ⟨g5, 0, none⟩) m.ns.length m.ins.length m.nxs.length m.bads.length m.hols.length m) := Kh ⟨Q1.out, Q2.out, Q3.out, Q4.out, Q5.out, AP1.out, AP2.out⟩
 exact bodyPost_ret (v := .agg #[.slice (some ⟨g1, 0, none⟩) m.ns.length m.ns.length, .slice (some ⟨g2, 0, none⟩) m.ins.length m.ins.length, .slice (some ⟨g3, 0, none⟩) m.nxs.length m.nxs.length, .slice (some ⟨g4, 0, none⟩) m.bads.length m.bads.length, .slice (some ⟨g5, 0, none⟩) m.hols.length m.hols.length]) (by simp [results, Tryz.results9, go_sem, z0, z1, z2, z3, z4]) rfl
  ⟨some ⟨g1, 0, none⟩, some ⟨g2, 0, none⟩, some ⟨g3, 0, none⟩, some ⟨g4, 0, none⟩, some ⟨g5, 0, none⟩, m.ns.length, m.ins.length, m.nxs.length, m.bads.length, m.hols.length, rfl, HN.out.put5 R5.out _ _ _ _ _, (HN.out.put5 R5.out _ _ _ _ _).arg (Nat.le_refl _) ⟨l0, l1, l2, l3, l4⟩ HNM.out HM.out.i64a HM.out.i64b, zB3 B5.out (by omega) _ _ _ _ _⟩
def zDa (k : Nat) : UInt8 := UInt8.ofNat (48 + k % 10)
def digs : Nat → Nat → ByteArray → ByteArray
 | 0, _, acc => acc
 | f + 1, k, acc => if k = 0 then acc else digs f (k / 10) (⟨#[zDa k]⟩ ++ acc)
def mtxt (k : Nat) : ByteArray := if k = 0 then ⟨#[109, 48]⟩ else ⟨#[109]⟩ ++ digs (k + 1) k ByteArray.empty
theorem zDc (f : Nat) (acc : ByteArray) : digs f 0 acc = acc := by cases f <;> rfl
theorem zLf (w : World) (j : Nat) : (convert 37 9 (.slice (some ⟨w.heap.size, 0, none⟩) 1 1)).run Tryz.prog (w.alloc (.cells #[.int .u8 (48 + (j : Int) % 10)] 5)) =
 .ok (.string ⟨#[zDa j]⟩) (w.alloc (.cells #[.int .u8 (48 + (j : Int) % 10)] 5)) := by
 have hb : ((zDa j).toNat : Int) = 48 + (j : Int) % 10 := by
  unfold zDa; rw [UInt8.toNat_ofNat']; omega
 have := run_convert_bytes_back (P := Tryz.prog) (w.alloc (.cells #[.int .u8 (48 + (j : Int) % 10)] 5)) 37 9 5 ⟨w.heap.size, 0, none⟩ 1 [zDa j] Tryz.underlying37 Tryz.underlying5 Tryz.underlying9 (fun i hi => by
  obtain rfl : i = 0 := by simp at hi; omega
  rw [show (⟨w.heap.size, 0, none⟩ : Addr).add 0 = ⟨w.heap.size, 0, none⟩ from rfl, (Blk.new w 5 _).cell]
  simp [hb])
 simpa using this
theorem zHe (k : Nat) (hk : 0 < k) (h : k ≤ 1048576000) (w : World) : Calls Tryz.prog 103 #[.int .i64 (k : Int)] w fun e w' => e = .returned (.string (mtxt k)) ∧ Below w.heap.size w w' := by
 have d0 : decide ((k : Int) ≤ 0) = false := decide_eq_false (by omega)
 obtain ⟨T, hT⟩ : ∃ T, digs (k + 1) k ByteArray.empty = T := ⟨_, rfl⟩
 have eT : mtxt k = ⟨#[109]⟩ ++ T := by unfold mtxt; rw [if_neg (by omega), hT]
 rw [eT]; have HT := Kh hT; clear hT eT
 go_enter Tryz.func103, Tryz.ntmps103
 go_wp2_with fail
 go_loopw [0, 3] (fun v t wr => ∃ (j f : Nat) (o : ByteArray), Hid (digs f j o = T) ∧ j < f ∧ o.size + j ≤ k ∧ Hid (Below w.heap.size w wr) ∧ v = .int .i64 (j : Int) ∧ t = .string o) (fun v _ _ => (intOf v).toNat)
 case atStart => exact ⟨k, k + 1, ByteArray.empty, HT, by omega, by simp, Below.refl _ _, rfl, rfl⟩
 case round =>
  obtain ⟨wz, rfl⟩ : ∃ x : World, x = wr := ⟨_, rfl⟩
  clear HT; obtain ⟨j, f, o, HD, hf, ho, HB, rfl, rfl⟩ := hrel
  by_cases hz : j = 0
  · subst hz
    obtain rfl : o = T := by have := HD.out; rwa [zDc] at this
    have hs2 : ¬ ((⟨#[109]⟩ : ByteArray).size + o.size > 9223372036854775807) := by rw [show (⟨#[109]⟩ : ByteArray).size = 1 from rfl]; omega
    go_wp2_with fail
    go_ret
    exact ⟨rfl, HB.out⟩
  obtain ⟨f, rfl⟩ : ∃ g, f = g + 1 := ⟨f - 1, by omega⟩
  have HD2 : Hid (digs f (j / 10) (⟨#[zDa j]⟩ ++ o) = T) := Kh (by rw [← HD.out, digs, if_neg hz])
  have d : decide ((0 : Int) < (j : Int)) = true := decide_eq_true (by omega)
  have hcv := zLf wz j; have hs1 : ¬ ((⟨#[zDa j]⟩ : ByteArray).size + o.size > 9223372036854775807) := by rw [show (⟨#[zDa j]⟩ : ByteArray).size = 1 from rfl]; omega
  have hsz : ((⟨#[zDa j]⟩ : ByteArray) ++ o).size = 1 + o.size := by rw [ByteArray.size_append]; rfl
  have HSZ := Kh hsz; clear hsz; have t0 : (0 : Int) ≤ (j : Int) := by omega
  have t1 : (j : Int) ≤ 1048576000 := by omega
  go_wp2_with fail
  go_roundw
  case rel => exact ⟨j / 10, f, ⟨#[zDa j]⟩ ++ o, HD2, by omega, by rw [HSZ.out]; omega, HB.out.alloc HB.out.size _, by go_num, rfl⟩
  case measure => simp [intOf]; omega
end Go.Proofs.YtmolbnghobfmoaaGreat
