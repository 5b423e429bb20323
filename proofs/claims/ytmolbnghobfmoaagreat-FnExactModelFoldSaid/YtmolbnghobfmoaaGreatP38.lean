/- Part 38 of what the row Row28 rests on: Zd Ze. -/
import Derived.Test.YtmolbnghobfmoaaGreatP37
set_option maxRecDepth 100000
set_option maxHeartbeats 16000000
set_option linter.unusedSimpArgs false
set_option linter.unusedVariables false
namespace Go.Proofs.YtmolbnghobfmoaaGreat
open Go.RowKit
theorem zDi (A B : Option Addr) (cap cap' : Nat) (l : List Int) (w : World) (hA : IAt w A l) (hB : IAt w B l) (hn : l.length ≤ 1048576) :
 Calls Tryz.prog 42 #[.slice A l.length cap, .slice B l.length cap'] w fun e w' => e = .returned (.bool true) ∧ Below w.heap.size w w' := by
 have HA := Kh hA; have HB := Kh hB; clear hA hB
 go_enter Tryz.func42, Tryz.ntmps42
 go_wp2_with fail
 go_loopw [5] (fun i wr => ∃ k : Nat, k ≤ l.length ∧ Below w.heap.size w wr ∧ i = .int .i64 k) (fun i _ => l.length - (intOf i).toNat)
 case atStart => exact ⟨0, Nat.zero_le _, Below.refl _ _, rfl⟩
 case round =>
  obtain ⟨k, hk, hbw, rfl⟩ := hrel
  by_cases hlt : k < l.length
  case neg =>
   obtain rfl : k = l.length := by omega
   go_wp2_with fail
   go_ret
   exact ⟨rfl, hbw⟩
  obtain ⟨g, rfl, hg, hc⟩ := (HA.out.below hbw) (by omega)
  obtain ⟨g', rfl, hg', hc'⟩ := (HB.out.below hbw) (by omega)
  have c1 := hc k hlt; have c2 := hc' k hlt; clear hc hc'; generalize l[k] = n at c1 c2; have e1 := wr1 (r := k) (by omega)
  have hj0 : (0 : Int) ≤ k := by omega
  have hj1 : (k : Int) < (l.length : Int) := by omega
  go_wp2_with fail
  go_quiet (fail)
  go_wp2_with fail
  go_roundw
  case rel => exact ⟨k + 1, by omega, zB1 hbw _, by go_num⟩
  case measure => simp [intOf]; omega
theorem zEi (w : World) (a : Addr) (u : Value) : w.grownBy (w.setCell a u) (some a.block) :=
 ⟨rfl, rfl, rfl, by simp, fun k _ hne => Below.heap_setCell w a u k (by intro e; subst e; exact hne rfl)⟩
def zHg (m : Int) (n : Nat) : List Int := (List.range n).map fun (i : Nat) => m + (i : Int)
theorem zHn (m : Int) (n : Nat) : (zHg m n).length = n := by simp [zHg]
theorem zEl (A : Option Addr) (cap : Nat) (m : Int) (n : Nat) (w : World) (hA : IAt w A (zHg m n)) (hm0 : 0 ≤ m) (hm : m ≤ 1048576000) (hn : n ≤ 1048576) :
 Calls Tryz.prog 48 #[.slice A n cap, .int .i64 m] w fun e w' => e = .returned (.int .i64 (m + n)) ∧ w = w' := by
 have HA := Kh hA; clear hA
 go_enter Tryz.func48, Tryz.ntmps48
 go_wp2_with fail
 go_loop [1, 5] (fun v i => ∃ k : Nat, k ≤ n ∧ v = .int .i64 (m + k) ∧ i = .int .i64 k) (fun _ i => n - (intOf i).toNat)
 case atStart => exact ⟨0, Nat.zero_le _, by simp, rfl⟩
 case round =>
  obtain ⟨k, hk, rfl, rfl⟩ := hrel
  by_cases hlt : k < n
  case neg =>
   obtain rfl : k = n := by omega
   go_wp2_with fail
   go_ret
   exact ⟨rfl, rfl⟩
  obtain ⟨g, rfl, hg, hc⟩ := HA.out (by rw [zHn]; omega)
  have c1 : w.cell? ⟨g, k, none⟩ = some (.int .i64 (m + k)) := by rw [hc k (by rw [zHn]; exact hlt)]; simp [zHg]
  clear hc; have e1 := wr1 (r := k) (by omega)
  have e2 : IntKind.i64.wrap (m + (k : Int) + 1) = m + (k : Int) + 1 := zRa (by omega) (by omega)
  have hj0 : (0 : Int) ≤ k := by omega
  have hj1 : (k : Int) < (n : Int) := by omega
  go_wp2_with fail
  go_roundw
  case rel => exact ⟨k + 1, by omega, by go_num, by go_num⟩
  case measure => simp [intOf]; omega
theorem zHb (base : Nat) (A : Option Addr) (cap : Nat) (l : List Int) (m : Int) (w : World) (hA : w.ownsRow base 3 1 (.slice A l.length cap) l.length (l.map (.int .i64))) (hm0 : 0 ≤ m) (hm : m ≤ 1048576000) (hn : l.length ≤ 1048576) :
 Calls Tryz.prog 45 #[.slice A l.length cap, .int .i64 m] w fun e w' => e = .returned (.int .i64 (m + l.length)) ∧ w'.ownsRow base 3 1 (.slice A l.length cap) l.length ((zHg m l.length).map (.int .i64)) ∧ w.grownBy w' (Value.slice A l.length cap).ownBlock := by
 have HA := Kh hA; clear hA
 go_enter Tryz.func45, Tryz.ntmps45
 go_wp2_with fail
 go_loopw [1, 5] (fun v i wr => ∃ (k : Nat) (l' : List Int), k ≤ l.length ∧ l'.length = l.length ∧ Hid (l'.take k = zHg m k) ∧ Hid (wr.ownsRow base 3 1 (.slice A l.length cap) l.length (l'.map (.int .i64))) ∧ Hid (w.grownBy wr (Value.slice A l.length cap).ownBlock) ∧ v = .int .i64 (m + k) ∧ i = .int .i64 k) (fun _ i _ => l.length - (intOf i).toNat)
 case atStart => exact ⟨0, l, Nat.zero_le _, rfl, rfl, HA.out, World.grownBy.refl _ _, by simp, rfl⟩
 case round =>
  obtain ⟨k, l', hk, hl', hpre, ho, hg, rfl, rfl⟩ := hrel
  by_cases hlt : k < l.length
  case neg =>
   obtain rfl : k = l.length := by omega
   go_wp2_with fail
   go_ret; have e : l' = zHg m l.length := by have := hpre.out; rw [← hl', List.take_length] at this; rw [this, hl']
   subst e
   exact ⟨rfl, ho.out, hg.out⟩
  have ho1 : wr.ownsRow base 3 1 (.slice A l'.length cap) l'.length (l'.map (.int .i64)) := by rw [hl']; exact ho.out
  obtain ⟨g, rfl, hgl, hbg, hc⟩ := zJd ho1 (k := k) (by omega)
  have hfz : wr.frozen? ⟨g, k, none⟩ = false := ho.out.frozenAt k; clear ho1; generalize l'[k] = x at hc; have e1 := wr1 (r := k) (by omega)
  have e2 : IntKind.i64.wrap (m + (k : Int) + 1) = m + (k : Int) + 1 := zRa (by omega) (by omega)
  have hj0 : (0 : Int) ≤ k := by omega
  have hj1 : (k : Int) < (l.length : Int) := by omega
  go_wp2_with fail
  go_roundw
  case rel =>
   refine ⟨k + 1, l'.set k (m + k), by omega, by simpa using hl', ?_, ?_, ?_, by go_num, by go_num⟩
   · show (l'.set k (m + k)).take (k + 1) = zHg m (k + 1)
     rw [List.take_add_one, List.take_set_of_le (Nat.le_refl _), hpre.out, List.getElem?_set_self (by omega)]
     simp [zHg, List.range_succ]
   · show World.ownsRow _ _ _ _ _ _ _
     rw [List.map_set]
     exact (ho.out.stored k _).1
   · exact hg.out.trans (zEi _ ⟨g, k, none⟩ _)
  case measure => simp [intOf]; omega
theorem zDm (s : So) (w : World) : Calls Tryz.prog 152 #[.agg #[.int .i64 s.i, .int .i64 s.w], .agg #[.int .i64 s.i, .int .i64 s.w]] w fun e w' => e = .returned (.bool true) ∧ Below w.heap.size w w' := by
 go_enter Tryz.func152, Tryz.ntmps152
 go_wp2_with fail
 go_ret
 exact ⟨rfl, ((Below.refl _ _).alloc (Nat.le_refl _) _).alloc (by simp) _⟩
theorem zDk (n : No) (w : World) : Calls Tryz.prog 101 #[.agg #[.int .i64 n.k, .int .i64 n.a, .int .i64 n.b, .int .i64 n.c, .int .i64 n.n, .int .i64 n.m, .int .i64 n.s.i, .int .i64 n.s.w, .string n.t], .agg #[.int .i64 n.k, .int .i64 n.a, .int .i64 n.b, .int .i64 n.c, .int .i64 n.n, .int .i64 n.m, .int .i64 n.s.i, .int .i64 n.s.w, .string n.t]] w fun e w' => e = .returned (.bool true) ∧ Below w.heap.size w w' := by
 have B1 : Hid (Below w.heap.size w ((w.alloc (.cells #[.int .i64 n.k, .int .i64 n.a, .int .i64 n.b, .int .i64 n.c, .int .i64 n.n, .int .i64 n.m, .int .i64 n.s.i, .int .i64 n.s.w, .string n.t] 42)).alloc (.cells #[.int .i64 n.k, .int .i64 n.a, .int .i64 n.b, .int .i64 n.c, .int .i64 n.n, .int .i64 n.m, .int .i64 n.s.i, .int .i64 n.s.w, .string n.t] 42))) := ((Below.refl _ _).alloc (Nat.le_refl _) _).alloc (by simp) _
 have X1 : Hid (Blk ((w.alloc (.cells #[.int .i64 n.k, .int .i64 n.a, .int .i64 n.b, .int .i64 n.c, .int .i64 n.n, .int .i64 n.m, .int .i64 n.s.i, .int .i64 n.s.w, .string n.t] 42)).alloc (.cells #[.int .i64 n.k, .int .i64 n.a, .int .i64 n.b, .int .i64 n.c, .int .i64 n.n, .int .i64 n.m, .int .i64 n.s.i, .int .i64 n.s.w, .string n.t] 42)) w.heap.size 42 #[.int .i64 n.k, .int .i64 n.a, .int .i64 n.b, .int .i64 n.c, .int .i64 n.n, .int .i64 n.m, .int .i64 n.s.i, .int .i64 n.s.w, .string n.t]) := (Blk.new _ _ _).alloc _; have Y1 : Hid (Blk ((w.alloc (.cells #[.int .i64 n.k, .int .i64 n.a, .int .i64 n.b, .int .i64 n.c, .int .i64 n.n, .int .i64 n.m, .int .i64 n.s.i, .int .i64 n.s.w, .string n.t] 42)).alloc (.cells #[.int .i64 n.k, .int .i64 n.a, .int .i64 n.b, .int .i64 n.c, .int .i64 n.n, .int .i64 n.m, .int .i64 n.s.i, .int .i64 n.s.w, .string n.t] 42)) (w.heap.size + 1) 42 #[.int .i64 n.k, .int .i64 n.a, .int .i64 n.b, .int .i64 n.c, .int .i64 n.n, .int .i64 n.m, .int .i64 n.s.i, .int .i64 n.s.w, .string n.t]) := Blk.new_at _ _ _ (by simp)
 go_enter Tryz.func101, Tryz.ntmps101
 go_wp2_with (go_at_call 152; refine (zDm n.s _).mono ?_; rintro e w3 ⟨rfl, hb3⟩; have B3 := Kh (B1.out.trans (hb3.mono B1.out.size)); have x8 := (X1.out.below hb3 X1.out.lt).nine.2.2.2.2.2.2.2.2; have y8 := (Y1.out.below hb3 Y1.out.lt).nine.2.2.2.2.2.2.2.2; clear hb3)
 go_ret
 exact ⟨rfl, B3.out⟩
theorem zDg (b : Bi) (w : World) : Calls Tryz.prog 102 #[.agg #[.int .i64 b.st, .int .i64 b.nd], .agg #[.int .i64 b.st, .int .i64 b.nd]] w fun e w' => e = .returned (.bool true) ∧ Below w.heap.size w w' := by
 go_enter Tryz.func102, Tryz.ntmps102
 go_wp2_with fail
 go_ret
 exact ⟨rfl, ((Below.refl _ _).alloc (Nat.le_refl _) _).alloc (by simp) _⟩
theorem zDl (A B : Option Addr) (c d : Nat) (l : List No) (w : World) (hA : zA9 w A l) (hB : zA9 w B l) (hl : l.length ≤ 1048576) :
 Calls Tryz.prog 40 #[.slice A l.length c, .slice B l.length d] w fun e w' => e = .returned (.bool true) ∧ Below w.heap.size w w' := by
 have HA := Kh hA; have HB := Kh hB; clear hA hB
 go_enter Tryz.func40, Tryz.ntmps40
 go_wp2_with fail
 go_loopw [5] (fun i wr => ∃ r : Nat, r ≤ l.length ∧ Hid (Below w.heap.size w wr) ∧ i = .int .i64 (r : Int)) (fun i _ => l.length - (intOf i).toNat)
 case atStart => exact ⟨0, Nat.zero_le _, Below.refl _ _, rfl⟩
 case round =>
  obtain ⟨wz, rfl⟩ : ∃ x : World, x = wr := ⟨_, rfl⟩
  obtain ⟨r, hr, HW, rfl⟩ := hrel
  by_cases hlt : r < l.length
  case neg =>
   obtain rfl : r = l.length := by omega
   go_wp2_with fail
   go_ret
   exact ⟨rfl, HW.out⟩
  obtain ⟨g, rfl, hg, hc⟩ := (HA.out.below HW.out) (by omega)
  obtain ⟨h, rfl, hh, hd⟩ := (HB.out.below HW.out) (by omega)
  obtain ⟨y0, y1, y2, y3, y4, y5, y6, y7, y8⟩ := hc r hlt; obtain ⟨z0, z1, z2, z3, z4, z5, z6, z7, z8⟩ := hd r hlt; clear hc hd; generalize l[r] = n at *; have k0 := fun x : Ext wz => zDt y0 hg x
  have j0 := fun x : Ext wz => zDt z0 hh x
  have k1 := fun x : Ext wz => zDt y1 hg x
  have j1 := fun x : Ext wz => zDt z1 hh x
  have k2 := fun x : Ext wz => zDt y2 hg x
  have j2 := fun x : Ext wz => zDt z2 hh x
  have k3 := fun x : Ext wz => zDt y3 hg x
  have j3 := fun x : Ext wz => zDt z3 hh x
  have k4 := fun x : Ext wz => zDt y4 hg x
  have j4 := fun x : Ext wz => zDt z4 hh x
  have k5 := fun x : Ext wz => zDt y5 hg x
  have j5 := fun x : Ext wz => zDt z5 hh x
  have k6 := fun x : Ext wz => zDt y6 hg x
  have j6 := fun x : Ext wz => zDt z6 hh x
  have k7 := fun x : Ext wz => zDt y7 hg x
  have j7 := fun x : Ext wz => zDt z7 hh x
  have k8 := fun x : Ext wz => zDt y8 hg x
  have j8 := fun x : Ext wz => zDt z8 hh x
  have T := Kh (fun x : Ext wz => zDk n x.1)
  have e1 := wr1 (r := r) (by omega)
  have hj0 : (0 : Int) ≤ (r : Int) := by omega
  have hj1 : (r : Int) < (l.length : Int) := by omega
  go_wp2_with fail
  refine zR4 (by kernel_rfl) (by kernel_rfl) ?_
  repeat go_big_quiet_step ((go_at_call 101; exact zDs _ (T.out _)))
  refine wpQuiet_nil ?_
  intro wt hwt; obtain ⟨x, hwx⟩ := hwt; subst hwx; have BX := Kh (HW.out.trans (x.2.mono HW.out.size)); clear k0 j0 k1 j1 k2 j2 k3 j3 k4 j4 k5 j5 k6 j6 k7 j7 k8 j8 T
  go_wp2_with fail
  go_roundw
  case rel => exact ⟨r + 1, by omega, BX, by go_num⟩
  case measure => simp [intOf]; omega
theorem zDh (A B : Option Addr) (c d : Nat) (l : List Bi) (w : World) (hA : zA1 w A l) (hB : zA1 w B l) (hl : l.length ≤ 1048576) :
 Calls Tryz.prog 41 #[.slice A l.length c, .slice B l.length d] w fun e w' => e = .returned (.bool true) ∧ Below w.heap.size w w' := by
 have HA := Kh hA; have HB := Kh hB; clear hA hB
 go_enter Tryz.func41, Tryz.ntmps41
 go_wp2_with fail
 go_loopw [5] (fun i wr => ∃ r : Nat, r ≤ l.length ∧ Hid (Below w.heap.size w wr) ∧ i = .int .i64 (r : Int)) (fun i _ => l.length - (intOf i).toNat)
 case atStart => exact ⟨0, Nat.zero_le _, Below.refl _ _, rfl⟩
 case round =>
  obtain ⟨wz, rfl⟩ : ∃ x : World, x = wr := ⟨_, rfl⟩
  obtain ⟨r, hr, HW, rfl⟩ := hrel
  by_cases hlt : r < l.length
  case neg =>
   obtain rfl : r = l.length := by omega
   go_wp2_with fail
   go_ret
   exact ⟨rfl, HW.out⟩
  obtain ⟨g, rfl, hg, hc⟩ := (HA.out.below HW.out) (by omega)
  obtain ⟨h, rfl, hh, hd⟩ := (HB.out.below HW.out) (by omega)
  obtain ⟨y0, y1⟩ := hc r hlt; obtain ⟨z0, z1⟩ := hd r hlt; clear hc hd; generalize l[r] = n at *; have k0 := fun x : Ext wz => zDt y0 hg x
  have j0 := fun x : Ext wz => zDt z0 hh x
  have k1 := fun x : Ext wz => zDt y1 hg x
  have j1 := fun x : Ext wz => zDt z1 hh x
  have T := Kh (fun x : Ext wz => zDg n x.1)
  have e1 := wr1 (r := r) (by omega)
  have hj0 : (0 : Int) ≤ (r : Int) := by omega
  have hj1 : (r : Int) < (l.length : Int) := by omega
  go_wp2_with fail
  refine zR4 (by kernel_rfl) (by kernel_rfl) ?_
  repeat go_big_quiet_step ((go_at_call 102; exact zDs _ (T.out _)))
  refine wpQuiet_nil ?_
  intro wt hwt; obtain ⟨x, hwx⟩ := hwt; subst hwx; have BX := Kh (HW.out.trans (x.2.mono HW.out.size)); clear k0 j0 k1 j1 T
  go_wp2_with fail
  go_roundw
  case rel => exact ⟨r + 1, by omega, BX, by go_num⟩
  case measure => simp [intOf]; omega
theorem zDj (A0 A1 A2 A3 A4 C0 C1 C2 C3 C4 : Option Addr) (c0 c1 c2 c3 c4 d0 d1 d2 d3 d4 : Nat) (m : Mo) (w : World) (hA : MoR w A0 A1 A2 A3 A4 m) (hC : MoR w C0 C1 C2 C3 C4 m) :
 Calls Tryz.prog 11 #[.agg #[.slice A0 m.ns.length c0, .slice A1 m.ins.length c1, .slice A2 m.nxs.length c2, .slice A3 m.bads.length c3, .slice A4 m.hols.length c4], .agg #[.slice C0 m.ns.length d0, .slice C1 m.ins.length d1, .slice C2 m.nxs.length d2, .slice C3 m.bads.length d3, .slice C4 m.hols.length d4]] w fun e w' => e = .returned (.bool true) ∧ Below w.heap.size w w' := by
 have hl := hA.len; have HA := Kh hA; have HC := Kh hC; clear hA hC; have B0 : Hid (Below w.heap.size w ((w.alloc (.cells #[.slice A0 m.ns.length c0, .slice A1 m.ins.length c1, .slice A2 m.nxs.length c2, .slice A3 m.bads.length c3, .slice A4 m.hols.length c4] 31)).alloc (.cells #[.slice C0 m.ns.length d0, .slice C1 m.ins.length d1, .slice C2 m.nxs.length d2, .slice C3 m.bads.length d3, .slice C4 m.hols.length d4] 31))) := ((Below.refl _ _).alloc (Nat.le_refl _) _).alloc (by simp) _
 have X : Hid (Blk ((w.alloc (.cells #[.slice A0 m.ns.length c0, .slice A1 m.ins.length c1, .slice A2 m.nxs.length c2, .slice A3 m.bads.length c3, .slice A4 m.hols.length c4] 31)).alloc (.cells #[.slice C0 m.ns.length d0, .slice C1 m.ins.length d1, .slice C2 m.nxs.length d2, .slice C3 m.bads.length d3, .slice C4 m.hols.length d4] 31)) w.heap.size 31 #[.slice A0 m.ns.length c0, .slice A1 m.ins.length c1, .slice A2 m.nxs.length c2, .slice A3 m.bads.length c3, .slice A4 m.hols.length c4]) := (Blk.new _ _ _).alloc _; have Y : Hid (Blk ((w.alloc (.cells #[.slice A0 m.ns.length c0, .slice A1 m.ins.length c1, .slice A2 m.nxs.length c2, .slice A3 m.bads.length c3, .slice A4 m.hols.length c4] 31)).alloc (.cells #[.slice C0 m.ns.length d0, .slice C1 m.ins.length d1, .slice C2 m.nxs.length d2, .slice C3 m.bads.length d3, .slice C4 m.hols.length d4] 31)) (w.heap.size + 1) 31 #[.slice C0 m.ns.length d0, .slice C1 m.ins.length d1, .slice C2 m.nxs.length d2, .slice C3 m.bads.length d3, .slice C4 m.hols.length d4]) := Blk.new_at _ _ _ (by simp)
 go_enter Tryz.func11, Tryz.ntmps11
 go_wp2_with (first | (go_at_call 40; (with_reducible show Calls _ _ #[.slice A0 m.ns.length c0, _] _ _); refine (zDl A0 C0 c0 d0 m.ns _ (by exact (HA.out.below B0.out).ns) (by exact (HC.out.below B0.out).ns) hl.1).mono ?_; rintro e w1 ⟨rfl, hb1⟩; have B1 := Kh (B0.out.trans (hb1.mono B0.out.size)); have X := Kh (X.out.below hb1 X.out.lt); have Y := Kh (Y.out.below hb1 Y.out.lt); obtain ⟨x0, x1, x2, x3, x4⟩ := X.out.five; obtain ⟨y0, y1, y2, y3, y4⟩ := Y.out.five; clear hb1) | (go_at_call 41; (with_reducible show Calls _ _ #[.slice A1 m.ins.length c1, _] _ _); refine (zDh A1 C1 c1 d1 m.ins _ (by exact (HA.out.below B1.out).ins) (by exact (HC.out.below B1.out).ins) hl.2.1).mono ?_; rintro e w2 ⟨rfl, hb2⟩; have B2 := Kh (B1.out.trans (hb2.mono B1.out.size)); have X := Kh (X.out.below hb2 X.out.lt); have Y := Kh (Y.out.below hb2 Y.out.lt); obtain ⟨x0, x1, x2, x3, x4⟩ := X.out.five; obtain ⟨y0, y1, y2, y3, y4⟩ := Y.out.five; clear hb2) | (go_at_call 41; (with_reducible show Calls _ _ #[.slice A2 m.nxs.length c2, _] _ _); refine (zDh A2 C2 c2 d2 m.nxs _ (by exact (HA.out.below B2.out).nxs) (by exact (HC.out.below B2.out).nxs) hl.2.2.1).mono ?_; rintro e w3 ⟨rfl, hb3⟩; have B3 := Kh (B2.out.trans (hb3.mono B2.out.size)); have X := Kh (X.out.below hb3 X.out.lt); have Y := Kh (Y.out.below hb3 Y.out.lt); obtain ⟨x0, x1, x2, x3, x4⟩ := X.out.five; obtain ⟨y0, y1, y2, y3, y4⟩ := Y.out.five; clear hb3) | (go_at_call 42; (with_reducible show Calls _ _ #[.slice A3 m.bads.length c3, _] _ _); refine (zDi A3 C3 c3 d3 m.bads _ (by exact (HA.out.below B3.out).bads) (by exact (HC.out.below B3.out).bads) hl.2.2.2.1).mono ?_; rintro e w4 ⟨rfl, hb4⟩; have B4 := Kh (B3.out.trans (hb4.mono B3.out.size)); have X := Kh (X.out.below hb4 X.out.lt); have Y := Kh (Y.out.below hb4 Y.out.lt); obtain ⟨x0, x1, x2, x3, x4⟩ := X.out.five; obtain ⟨y0, y1, y2, y3, y4⟩ := Y.out.five; clear hb4) | (go_at_call 42; (with_reducible show Calls _ _ #[.slice A4 m.hols.length c4, _] _ _); refine (zDi A4 C4 c4 d4 m.hols _ (by exact (HA.out.below B4.out).hols) (by exact (HC.out.below B4.out).hols) hl.2.2.2.2).mono ?_; rintro e w5 ⟨rfl, hb5⟩; have B5 := Kh (B4.out.trans (hb5.mono B4.out.size)); have X := Kh (X.out.below hb5 X.out.lt); have Y := Kh (Y.out.below hb5 Y.out.lt); obtain ⟨x0, x1, x2, x3, x4⟩ := X.out.five; obtain ⟨y0, y1, y2, y3, y4⟩ := Y.out.five; clear hb5))
 go_ret
 exact ⟨rfl, B5.out⟩
def mkN (x : Int) : No := ⟨x, x + 1, x + 1 + 1, x + 1 + 1 + 1, x + 1 + 1 + 1 + 1, x + 1 + 1 + 1 + 1 + 1, ⟨x + 1 + 1 + 1 + 1 + 1 + 1, x + 1 + 1 + 1 + 1 + 1 + 1 + 1⟩, mtxt (x + 1 + 1 + 1 + 1 + 1 + 1 + 1 + 1).toNat⟩
def zHk (k : Int) (n : Nat) : List No := (List.range n).map fun (i : Nat) => mkN (k + 9 * (i : Int))
theorem zHm (k : Int) (n : Nat) : (zHk k n).length = n := by simp [zHk]
theorem zHl (k : Int) (n r : Nat) (h : r < (zHk k n).length) : (zHk k n)[r] = mkN (k + 9 * (r : Int)) := by simp [zHk]
def mkB (x : Int) : Bi := ⟨x, x + 1⟩
def zHh (k : Int) (n : Nat) : List Bi := (List.range n).map fun (i : Nat) => mkB (k + 2 * (i : Int))
theorem zHj (k : Int) (n : Nat) : (zHh k n).length = n := by simp [zHh]
theorem zHi (k : Int) (n r : Nat) (h : r < (zHh k n).length) : (zHh k n)[r] = mkB (k + 2 * (r : Int)) := by simp [zHh]
theorem zP0 {α : Type} {l M : List α} {n : Nat} (h1 : l.length = n) (h2 : M.length = n) (h : l.take n = M.take n) : l = M := by rwa [List.take_of_length_le (by omega), List.take_of_length_le (by omega)] at h
theorem zHf (x : Int) (hx : 0 < x) (h : x ≤ 1048576000) (w : World) : Calls Tryz.prog 103 #[.int .i64 x] w fun e w' => e = .returned (.string (mtxt x.toNat)) ∧ Below w.heap.size w w' := by
 have := zHe x.toNat (by omega) (by omega) w
 rwa [show ((x.toNat : Nat) : Int) = x by omega] at this
theorem zJa {w : World} {B g c : Nat} {e : TypeId} {size n : Nat} {xs : List Value} (h : w.ownsRow B e size (.slice (some ⟨g, 0, none⟩) n c) n xs) {j : Nat} (hj : j < n * size) : ∃ v, w.cell? ⟨g, j, none⟩ = some v := by
 have h1 := h.cellAt j hj; have h2 : j < xs.length := by rw [h.1]; exact hj
 exact ⟨xs[j], by rw [h1, List.getElem?_eq_getElem h2]⟩
theorem zEh {w w' : World} (h : Below w.heap.size w w') (row : Option Nat) : w.grownBy w' row := ⟨h.os, h.tape, h.output, h.size, fun k hk _ => h.block k hk⟩
theorem zHd (base : Nat) (A : Option Addr) (cap : Nat) (l : List No) (k : Int) (w : World) (hA : w.ownsRow base 42 9 (.slice A l.length cap) l.length (zC6 l)) (hk0 : 0 < k) (hk : k ≤ 104857600) (hn : l.length ≤ 1048576) :
 Calls Tryz.prog 43 #[.slice A l.length cap, .int .i64 k] w fun e w' => e = .returned (.int .i64 (k + 9 * (l.length : Int))) ∧ w'.ownsRow base 42 9 (.slice A l.length cap) l.length (zC6 (zHk k l.length)) ∧ w.grownBy w' (Value.slice A l.length cap).ownBlock := by
 have HA := Kh hA; clear hA
 go_enter Tryz.func43, Tryz.ntmps43
 go_wp2_with fail
 go_loopw [1, 5] (fun v i wr => ∃ (r : Nat) (l' : List No), r ≤ l.length ∧ l'.length = l.length ∧ Hid (l'.take r = (zHk k l.length).take r) ∧ Hid (wr.ownsRow base 42 9 (.slice A l'.length cap) l'.length (zC6 l')) ∧ Hid (w.grownBy wr (Value.slice A l.length cap).ownBlock) ∧ v = .int .i64 (k + 9 * (r : Int)) ∧ i = .int .i64 (r : Int)) (fun _ i _ => l.length - (intOf i).toNat)
 case atStart => exact ⟨0, l, Nat.zero_le _, rfl, rfl, HA, World.grownBy.refl _ _, by simp, rfl⟩
 case round =>
  obtain ⟨wz, rfl⟩ : ∃ x : World, x = wr := ⟨_, rfl⟩
  obtain ⟨r, l', hr, hl', HT, HO, HG, rfl, rfl⟩ := hrel
  by_cases hlt : r < l.length
  case neg =>
   obtain rfl : r = l.length := by omega
   go_wp2_with fail
   go_ret; have e : l' = zHk k l.length := zP0 hl' (zHm _ _) HT.out; have h := HO.out; rw [hl', e] at h
   exact ⟨rfl, h, HG.out⟩
  obtain ⟨g, rfl, hg, hc⟩ := zJi HO.out (by omega)
  have HT2 : Hid ((l'.set r (mkN (k + 9 * (r : Int)))).take (r + 1) = (zHk k l.length).take (r + 1)) := Kh (zN4 (by rw [zHm]; exact hl') (by rw [zHm]; exact hlt) HT.out (zHl _ _ _ _))
  obtain ⟨y0, y1, y2, y3, y4, y5, y6, y7, y8⟩ := hc r (by omega)
  clear hc; have fz := fun j => HO.out.frozenAt j
  have e1 := wr1 (r := r) (by omega)
  have hj0 : (0 : Int) ≤ (r : Int) := by omega
  have hj1 : (r : Int) < (l.length : Int) := by omega
  obtain ⟨x, hx⟩ : ∃ x : Int, k + 9 * (r : Int) = x := ⟨_, rfl⟩
  have HX := Kh hx; rw [hx] at HT2; have hx0 : (0 : Int) < x := by omega
  have hx1 : x ≤ 104857600 + 9437184 := by omega
  rw [hx]; clear hx; have O8 := Kh (((((((((HO.out.stored (r * 9) (.int .i64 x)).1.stored (r * 9 + 1) (.int .i64 (x + 1))).1.stored (r * 9 + 2) (.int .i64 (x + 1 + 1))).1.stored (r * 9 + 3) (.int .i64 (x + 1 + 1 + 1))).1.stored (r * 9 + 4) (.int .i64 (x + 1 + 1 + 1 + 1))).1.stored (r * 9 + 5) (.int .i64 (x + 1 + 1 + 1 + 1 + 1))).1.stored (r * 9 + 6) (.int .i64 (x + 1 + 1 + 1 + 1 + 1 + 1))).1.stored (r * 9 + 7) (.int .i64 (x + 1 + 1 + 1 + 1 + 1 + 1 + 1))).1); have G8 := Kh (((((((((HG.out.trans (zEi _ ⟨g, r * 9, none⟩ (.int .i64 x))).trans (zEi _ ⟨g, r * 9 + 1, none⟩ (.int .i64 (x + 1)))).trans (zEi _ ⟨g, r * 9 + 2, none⟩ (.int .i64 (x + 1 + 1)))).trans (zEi _ ⟨g, r * 9 + 3, none⟩ (.int .i64 (x + 1 + 1 + 1)))).trans (zEi _ ⟨g, r * 9 + 4, none⟩ (.int .i64 (x + 1 + 1 + 1 + 1)))).trans (zEi _ ⟨g, r * 9 + 5, none⟩ (.int .i64 (x + 1 + 1 + 1 + 1 + 1)))).trans (zEi _ ⟨g, r * 9 + 6, none⟩ (.int .i64 (x + 1 + 1 + 1 + 1 + 1 + 1)))).trans (zEi _ ⟨g, r * 9 + 7, none⟩ (.int .i64 (x + 1 + 1 + 1 + 1 + 1 + 1 + 1)))))
  go_wp2_with (go_at_call 103; refine (zHf _ (by omega) (by omega) _).mono ?_; rintro e w3 ⟨rfl, hb3⟩; have P8 := Kh (zJ9 O8.out hb3); have Q8 := Kh (G8.out.trans (zEh hb3 _)); obtain ⟨v8, z8⟩ := zJa P8.out (j := r * 9 + 8) (by omega); have f8 := P8.out.frozenAt (r * 9 + 8); clear hb3 y0 y1 y2 y3 y4 y5 y6 y7 y8 fz)
  go_roundw
  case rel =>
   refine ⟨r + 1, l'.set r (mkN x), by omega, by simpa using hl', HT2, ?_, Q8.out.trans (zEi _ ⟨g, r * 9 + 8, none⟩ _), by rw [← HX.out]; go_num, by go_num⟩
   show World.ownsRow _ _ _ _ _ _ _
   rw [List.length_set, ← zCc]
   exact (P8.out.stored (r * 9 + 8) _).1
  case measure => simp [intOf]; omega
theorem zEn (A : Option Addr) (cap : Nat) (n : Nat) (k : Int) (w : World) (hA : zA9 w A (zHk k n)) (hk0 : 0 < k) (hk : k ≤ 104857600) (hn : n ≤ 1048576) :
 Calls Tryz.prog 46 #[.slice A n cap, .int .i64 k] w fun e w' => e = .returned (.int .i64 (k + 9 * (n : Int))) ∧ Below w.heap.size w w' := by
 have HA := Kh hA; clear hA
 go_enter Tryz.func46, Tryz.ntmps46
 go_wp2_with fail
 go_loopw [1, 5] (fun v i wr => ∃ r : Nat, r ≤ n ∧ Hid (Below w.heap.size w wr) ∧ v = .int .i64 (k + 9 * (r : Int)) ∧ i = .int .i64 (r : Int)) (fun _ i _ => n - (intOf i).toNat)
 case atStart => exact ⟨0, Nat.zero_le _, Below.refl _ _, by simp, rfl⟩
 case round =>
  obtain ⟨wz, rfl⟩ : ∃ x : World, x = wr := ⟨_, rfl⟩
  obtain ⟨r, hr, HW, rfl, rfl⟩ := hrel
  by_cases hlt : r < n
  case neg =>
   obtain rfl : r = n := by omega
   go_wp2_with fail
   go_ret
   exact ⟨rfl, HW.out⟩
  obtain ⟨g, rfl, hg, hc⟩ := (HA.out.below HW.out) (by rw [zHm]; omega)
  have hc := hc r (by rw [zHm]; exact hlt)
  rw [zHl] at hc; obtain ⟨y0, y1, y2, y3, y4, y5, y6, y7, y8⟩ := hc; simp only [mkN] at y0 y1 y2 y3 y4 y5 y6 y7 y8; have e1 := wr1 (r := r) (by omega)
  have hj0 : (0 : Int) ≤ (r : Int) := by omega
  have hj1 : (r : Int) < (n : Int) := by omega
  obtain ⟨x, hx⟩ : ∃ x : Int, k + 9 * (r : Int) = x := ⟨_, rfl⟩
  have HX := Kh hx; have hx0 : (0 : Int) < x := by omega
  have hx1 : x ≤ 104857600 + 9437184 := by omega
  rw [hx] at y0 y1 y2 y3 y4 y5 y6 y7 y8 ⊢; clear hx; have k8 := fun x : Ext wz => zDt y8 hg x
  have T := Kh (fun (y : Ext wz) => zHf (x + 1 + 1 + 1 + 1 + 1 + 1 + 1 + 1) (by omega) (by omega) y.1)
  go_wp2_with fail
  refine zR4 (by kernel_rfl) (by kernel_rfl) ?_
  repeat go_big_quiet_step ((go_at_call 103; exact zDs _ (T.out _)))
  refine wpQuiet_nil ?_
  intro wt hwt; obtain ⟨y, hwx⟩ := hwt; subst hwx; have BX := Kh (HW.out.trans (y.2.mono HW.out.size)); clear k8 T
  go_wp2_with fail
  go_roundw
  case rel => exact ⟨r + 1, by omega, BX, by rw [← HX.out]; go_num, by go_num⟩
  case measure => simp [intOf]; omega
theorem zHa (base : Nat) (A : Option Addr) (cap : Nat) (l : List Bi) (k : Int) (w : World) (hA : w.ownsRow base 55 2 (.slice A l.length cap) l.length (zC0 l)) (hk0 : 0 < k) (hk : k ≤ 104857600) (hn : l.length ≤ 1048576) :
 Calls Tryz.prog 44 #[.slice A l.length cap, .int .i64 k] w fun e w' => e = .returned (.int .i64 (k + 2 * (l.length : Int))) ∧ w'.ownsRow base 55 2 (.slice A l.length cap) l.length (zC0 (zHh k l.length)) ∧ w.grownBy w' (Value.slice A l.length cap).ownBlock := by
 have HA := Kh hA; clear hA
 go_enter Tryz.func44, Tryz.ntmps44
 go_wp2_with fail
 go_loopw [1, 5] (fun v i wr => ∃ (r : Nat) (l' : List Bi), r ≤ l.length ∧ l'.length = l.length ∧ Hid (l'.take r = (zHh k l.length).take r) ∧ Hid (wr.ownsRow base 55 2 (.slice A l'.length cap) l'.length (zC0 l')) ∧ Hid (w.grownBy wr (Value.slice A l.length cap).ownBlock) ∧ v = .int .i64 (k + 2 * (r : Int)) ∧ i = .int .i64 (r : Int)) (fun _ i _ => l.length - (intOf i).toNat)
 case atStart => exact ⟨0, l, Nat.zero_le _, rfl, rfl, HA, World.grownBy.refl _ _, by simp, rfl⟩
 case round =>
  obtain ⟨wz, rfl⟩ : ∃ x : World, x = wr := ⟨_, rfl⟩
  obtain ⟨r, l', hr, hl', HT, HO, HG, rfl, rfl⟩ := hrel
  by_cases hlt : r < l.length
  case neg =>
   obtain rfl : r = l.length := by omega
   go_wp2_with fail
   go_ret; have e : l' = zHh k l.length := zP0 hl' (zHj _ _) HT.out; have h := HO.out; rw [hl', e] at h
   exact ⟨rfl, h, HG.out⟩
  obtain ⟨g, rfl, hg, hc⟩ := zBd HO.out (by omega)
  have HT2 : Hid ((l'.set r (mkB (k + 2 * (r : Int)))).take (r + 1) = (zHh k l.length).take (r + 1)) := Kh (zN4 (by rw [zHj]; exact hl') (by rw [zHj]; exact hlt) HT.out (zHi _ _ _ _))
  obtain ⟨y0, y1⟩ := hc r (by omega)
  clear hc; have fz := fun j => HO.out.frozenAt j
  have e1 := wr1 (r := r) (by omega)
  have hj0 : (0 : Int) ≤ (r : Int) := by omega
  have hj1 : (r : Int) < (l.length : Int) := by omega
  obtain ⟨x, hx⟩ : ∃ x : Int, k + 2 * (r : Int) = x := ⟨_, rfl⟩
  have HX := Kh hx; rw [hx] at HT2; have hx0 : (0 : Int) < x := by omega
  have hx1 : x ≤ 104857600 + 9437184 := by omega
  rw [hx]; clear hx
  go_wp2_with fail
  go_roundw
  case rel =>
   refine ⟨r + 1, l'.set r (mkB x), by omega, by simpa using hl', HT2, ?_, (HG.out.trans (zEi _ ⟨g, r * 2, none⟩ _)).trans (zEi _ ⟨g, r * 2 + 1, none⟩ _), by rw [← HX.out]; go_num, by go_num⟩
   show World.ownsRow _ _ _ _ _ _ _
   rw [List.length_set, ← zC4]
   exact ((HO.out.stored (r * 2) _).1.stored (r * 2 + 1) _).1
  case measure => simp [intOf]; omega
theorem zEk (A : Option Addr) (cap : Nat) (n : Nat) (k : Int) (w : World) (hA : zA1 w A (zHh k n)) (hk0 : 0 < k) (hk : k ≤ 104857600) (hn : n ≤ 1048576) :
 Calls Tryz.prog 47 #[.slice A n cap, .int .i64 k] w fun e w' => e = .returned (.int .i64 (k + 2 * (n : Int))) ∧ w = w' := by
 have HA := Kh hA; clear hA
 go_enter Tryz.func47, Tryz.ntmps47
 go_wp2_with fail
 go_loop [1, 5] (fun v i => ∃ r : Nat, r ≤ n ∧ v = .int .i64 (k + 2 * (r : Int)) ∧ i = .int .i64 (r : Int)) (fun _ i => n - (intOf i).toNat)
 case atStart => exact ⟨0, Nat.zero_le _, by simp, rfl⟩
 case round =>
  obtain ⟨r, hr, rfl, rfl⟩ := hrel
  by_cases hlt : r < n
  case neg =>
   obtain rfl : r = n := by omega
   go_wp2_with fail
   go_ret
   exact ⟨rfl, rfl⟩
  obtain ⟨g, rfl, hg, hc⟩ := HA.out (by rw [zHj]; omega)
  have hc := hc r (by rw [zHj]; exact hlt)
  rw [zHi] at hc; obtain ⟨y0, y1⟩ := hc; simp only [mkB] at y0 y1; have e1 := wr1 (r := r) (by omega)
  have hj0 : (0 : Int) ≤ (r : Int) := by omega
  have hj1 : (r : Int) < (n : Int) := by omega
  obtain ⟨x, hx⟩ : ∃ x : Int, k + 2 * (r : Int) = x := ⟨_, rfl⟩
  have HX := Kh hx; have hx0 : (0 : Int) < x := by omega
  have hx1 : x ≤ 104857600 + 9437184 := by omega
  rw [hx] at y0 y1 ⊢; clear hx
  go_wp2_with fail
  go_roundw
  case rel => exact ⟨r + 1, by omega, by rw [← HX.out]; go_num, by go_num⟩
  case measure => simp [intOf]; omega
structure Only (w w' : World) (P : Nat → Prop) : Prop where
 os : w'.os = w.os
 tape : w'.tape = w.tape
 output : w'.output = w.output
 size : w.heap.size ≤ w'.heap.size
 block : ∀ k, k < w.heap.size → ¬ P k → w'.heap[k]? = w.heap[k]?
theorem Only.refl (w : World) (P : Nat → Prop) : Only w w P := ⟨rfl, rfl, rfl, Nat.le_refl _, fun _ _ _ => rfl⟩
theorem Only.step {w w1 w' : World} {P : Nat → Prop} {row : Option Nat} (h : Only w w1 P) (hg : w1.grownBy w' row) (hr : ∀ k, some k = row → P k) : Only w w' P :=
 ⟨hg.os.trans h.os, hg.tape.trans h.tape, hg.output.trans h.output, Nat.le_trans h.size hg.size, fun k hk hp => (hg.block k (Nat.lt_of_lt_of_le hk h.size) (fun e => hp (hr k e))).trans (h.block k hk hp)⟩
theorem Only.ahead {w w1 w' : World} {P : Nat → Prop} (h : Below w.heap.size w w1) (hg : Only w1 w' P) : Only w w' P :=
 ⟨hg.os.trans h.os, hg.tape.trans h.tape, hg.output.trans h.output, Nat.le_trans h.size hg.size, fun k hk hp => (hg.block k (Nat.lt_of_lt_of_le hk h.size) hp).trans (h.block k hk)⟩
theorem Only.below {w w' : World} {P : Nat → Prop} {B : Nat} (h : Only w w' P) (hB : B ≤ w.heap.size) (hp : ∀ k, P k → B ≤ k) : Below B w w' :=
 ⟨h.os, h.tape, h.output, h.size, fun k hk => h.block k (by omega) (fun e => by have := hp k e; omega)⟩
theorem zJ7 {w w2 : World} {b B : Nat} {e e2 : TypeId} {s s2 n n2 c c2 : Nat} {A A2 : Option Addr} {xs xs2 : List Value} (h : w.ownsRow b e s (.slice A n c) n xs) (h2 : w2.ownsRow B e2 s2 (.slice A2 n2 c2) n2 xs2) (ha : A = none ∨ A ≠ A2) : (Value.slice A n c).ownBlock = none ∨ (Value.slice A n c).ownBlock ≠ (Value.slice A2 n2 c2).ownBlock := by
 rcases ha with rfl | ha
 · exact .inl rfl
 · rcases h.2 with ⟨hv, _⟩ | ⟨g, cap, cur, hv, _⟩
   · injection hv with hv; subst hv; exact .inl rfl
   · injection hv with hv
     subst hv
     refine .inr (fun e => ?_)
     rcases h2.2 with ⟨hv2, _⟩ | ⟨g2, cap2, cur2, hv2, _⟩
     · injection hv2 with hv2; subst hv2; cases e
     · injection hv2 with hv2
       subst hv2; injection e with e
       have e : g = g2 := e; subst e
       exact ha rfl
theorem zAz {a b : Option Nat} (h : a = none ∨ a ≠ b) : b = none ∨ b ≠ a := by
 rcases h with rfl | h
 · cases b with
   | none => exact .inl rfl
   | some x => exact .inr (fun e => by cases e)
 · exact .inr (fun e => h e.symm)
def totM (m : Mo) : Int := 1 + 9 * (m.ns.length : Int) + 2 * (m.ins.length : Int) + 2 * (m.nxs.length : Int) + (m.bads.length : Int) + (m.hols.length : Int)
def zEv (A0 A1 A2 A3 A4 : Option Addr) (c0 c1 c2 c3 c4 : Nat) (m : Mo) (k : Nat) : Prop := some k = (Value.slice A0 m.ns.length c0).ownBlock ∨ some k = (Value.slice A1 m.ins.length c1).ownBlock ∨ some k = (Value.slice A2 m.nxs.length c2).ownBlock ∨ some k = (Value.slice A3 m.bads.length c3).ownBlock ∨ some k = (Value.slice A4 m.hols.length c4).ownBlock
structure MkR (w : World) (A0 A1 A2 A3 A4 : Option Addr) (m : Mo) : Prop where
 ns : zA9 w A0 (zHk 1 m.ns.length)
 ins : zA1 w A1 (zHh (1 + 9 * (m.ns.length : Int)) m.ins.length)
 nxs : zA1 w A2 (zHh (1 + 9 * (m.ns.length : Int) + 2 * (m.ins.length : Int)) m.nxs.length)
 bads : IAt w A3 (zHg (1 + 9 * (m.ns.length : Int) + 2 * (m.ins.length : Int) + 2 * (m.nxs.length : Int)) m.bads.length)
 hols : IAt w A4 (zHg (1 + 9 * (m.ns.length : Int) + 2 * (m.ins.length : Int) + 2 * (m.nxs.length : Int) + (m.bads.length : Int)) m.hols.length)
theorem MkR.below {w w' : World} {A0 A1 A2 A3 A4 : Option Addr} {m : Mo} (h : MkR w A0 A1 A2 A3 A4 m) (hb : Below w.heap.size w w') : MkR w' A0 A1 A2 A3 A4 m :=
 ⟨h.ns.below hb, h.ins.below hb, h.nxs.below hb, h.bads.below hb, h.hols.below hb⟩
theorem zF8 {w : World} {B c n : Nat} {A : Option Addr} {l : List Int} (h : w.ownsRow B 3 1 (.slice A n c) n (l.map (.int .i64))) (hl : l.length = n) : IAt w A l := by subst hl; exact IAt.of_own h
theorem zIj {w : World} {B c n : Nat} {A : Option Addr} {l : List No} (h : w.ownsRow B 42 9 (.slice A n c) n (zC6 l)) (hl : l.length = n) : zA9 w A l := by subst hl; exact zJi h
theorem zBi {w : World} {B c n : Nat} {A : Option Addr} {l : List Bi} (h : w.ownsRow B 55 2 (.slice A n c) n (zC0 l)) (hl : l.length = n) : zA1 w A l := by subst hl; exact zBd h
theorem zHc (B : Nat) (A0 A1 A2 A3 A4 : Option Addr) (c0 c1 c2 c3 c4 : Nat) (m : Mo) (w : World) (hM : MoNew w B A0 A1 A2 A3 A4 c0 c1 c2 c3 c4 m) (hl : m.ns.length ≤ 1048576 ∧ m.ins.length ≤ 1048576 ∧ m.nxs.length ≤ 1048576 ∧ m.bads.length ≤ 1048576 ∧ m.hols.length ≤ 1048576) :
 Calls Tryz.prog 12 #[.agg #[.slice A0 m.ns.length c0, .slice A1 m.ins.length c1, .slice A2 m.nxs.length c2, .slice A3 m.bads.length c3, .slice A4 m.hols.length c4], .int .i64 1] w fun e w' => e = .returned (.int .i64 (totM m)) ∧ MkR w' A0 A1 A2 A3 A4 m ∧ Only w w' (zEv A0 A1 A2 A3 A4 c0 c1 c2 c3 c4 m) := by
 obtain ⟨hl0, hl1, hl2, hl3, hl4⟩ := hl; have P01 : Hid ((Value.slice A0 m.ns.length c0).ownBlock = none ∨ (Value.slice A0 m.ns.length c0).ownBlock ≠ (Value.slice A1 m.ins.length c1).ownBlock) := Kh (zJm hM.ns hM.ins (by decide))
 have P02 : Hid ((Value.slice A0 m.ns.length c0).ownBlock = none ∨ (Value.slice A0 m.ns.length c0).ownBlock ≠ (Value.slice A2 m.nxs.length c2).ownBlock) := Kh (zJm hM.ns hM.nxs (by decide))
 have P03 : Hid ((Value.slice A0 m.ns.length c0).ownBlock = none ∨ (Value.slice A0 m.ns.length c0).ownBlock ≠ (Value.slice A3 m.bads.length c3).ownBlock) := Kh (zJm hM.ns hM.bads (by decide))
 have P04 : Hid ((Value.slice A0 m.ns.length c0).ownBlock = none ∨ (Value.slice A0 m.ns.length c0).ownBlock ≠ (Value.slice A4 m.hols.length c4).ownBlock) := Kh (zJm hM.ns hM.hols (by decide))
 have P10 : Hid ((Value.slice A1 m.ins.length c1).ownBlock = none ∨ (Value.slice A1 m.ins.length c1).ownBlock ≠ (Value.slice A0 m.ns.length c0).ownBlock) := Kh (zJm hM.ins hM.ns (by decide))
 have P12 : Hid ((Value.slice A1 m.ins.length c1).ownBlock = none ∨ (Value.slice A1 m.ins.length c1).ownBlock ≠ (Value.slice A2 m.nxs.length c2).ownBlock) := Kh (zJ7 hM.ins hM.nxs hM.apB); have P13 : Hid ((Value.slice A1 m.ins.length c1).ownBlock = none ∨ (Value.slice A1 m.ins.length c1).ownBlock ≠ (Value.slice A3 m.bads.length c3).ownBlock) := Kh (zJm hM.ins hM.bads (by decide))
 have P14 : Hid ((Value.slice A1 m.ins.length c1).ownBlock = none ∨ (Value.slice A1 m.ins.length c1).ownBlock ≠ (Value.slice A4 m.hols.length c4).ownBlock) := Kh (zJm hM.ins hM.hols (by decide))
 have P20 : Hid ((Value.slice A2 m.nxs.length c2).ownBlock = none ∨ (Value.slice A2 m.nxs.length c2).ownBlock ≠ (Value.slice A0 m.ns.length c0).ownBlock) := Kh (zJm hM.nxs hM.ns (by decide))
 have P21 : Hid ((Value.slice A2 m.nxs.length c2).ownBlock = none ∨ (Value.slice A2 m.nxs.length c2).ownBlock ≠ (Value.slice A1 m.ins.length c1).ownBlock) := Kh (zAz (zJ7 hM.ins hM.nxs hM.apB)); have P23 : Hid ((Value.slice A2 m.nxs.length c2).ownBlock = none ∨ (Value.slice A2 m.nxs.length c2).ownBlock ≠ (Value.slice A3 m.bads.length c3).ownBlock) := Kh (zJm hM.nxs hM.bads (by decide))
 have P24 : Hid ((Value.slice A2 m.nxs.length c2).ownBlock = none ∨ (Value.slice A2 m.nxs.length c2).ownBlock ≠ (Value.slice A4 m.hols.length c4).ownBlock) := Kh (zJm hM.nxs hM.hols (by decide))
 have P30 : Hid ((Value.slice A3 m.bads.length c3).ownBlock = none ∨ (Value.slice A3 m.bads.length c3).ownBlock ≠ (Value.slice A0 m.ns.length c0).ownBlock) := Kh (zJm hM.bads hM.ns (by decide))
 have P31 : Hid ((Value.slice A3 m.bads.length c3).ownBlock = none ∨ (Value.slice A3 m.bads.length c3).ownBlock ≠ (Value.slice A1 m.ins.length c1).ownBlock) := Kh (zJm hM.bads hM.ins (by decide))
 have P32 : Hid ((Value.slice A3 m.bads.length c3).ownBlock = none ∨ (Value.slice A3 m.bads.length c3).ownBlock ≠ (Value.slice A2 m.nxs.length c2).ownBlock) := Kh (zJm hM.bads hM.nxs (by decide))
 have P34 : Hid ((Value.slice A3 m.bads.length c3).ownBlock = none ∨ (Value.slice A3 m.bads.length c3).ownBlock ≠ (Value.slice A4 m.hols.length c4).ownBlock) := Kh (zJ7 hM.bads hM.hols hM.apI); have P40 : Hid ((Value.slice A4 m.hols.length c4).ownBlock = none ∨ (Value.slice A4 m.hols.length c4).ownBlock ≠ (Value.slice A0 m.ns.length c0).ownBlock) := Kh (zJm hM.hols hM.ns (by decide))
 have P41 : Hid ((Value.slice A4 m.hols.length c4).ownBlock = none ∨ (Value.slice A4 m.hols.length c4).ownBlock ≠ (Value.slice A1 m.ins.length c1).ownBlock) := Kh (zJm hM.hols hM.ins (by decide))
 have P42 : Hid ((Value.slice A4 m.hols.length c4).ownBlock = none ∨ (Value.slice A4 m.hols.length c4).ownBlock ≠ (Value.slice A2 m.nxs.length c2).ownBlock) := Kh (zJm hM.hols hM.nxs (by decide))
 have P43 : Hid ((Value.slice A4 m.hols.length c4).ownBlock = none ∨ (Value.slice A4 m.hols.length c4).ownBlock ≠ (Value.slice A3 m.bads.length c3).ownBlock) := Kh (zAz (zJ7 hM.bads hM.hols hM.apI)); have Z0 : Hid (some w.heap.size ≠ (Value.slice A0 m.ns.length c0).ownBlock) := Kh (fun e => by have := (hM.ns.lt _ e.symm).2; omega)
 have Z1 : Hid (some w.heap.size ≠ (Value.slice A1 m.ins.length c1).ownBlock) := Kh (fun e => by have := (hM.ins.lt _ e.symm).2; omega)
 have Z2 : Hid (some w.heap.size ≠ (Value.slice A2 m.nxs.length c2).ownBlock) := Kh (fun e => by have := (hM.nxs.lt _ e.symm).2; omega)
 have Z3 : Hid (some w.heap.size ≠ (Value.slice A3 m.bads.length c3).ownBlock) := Kh (fun e => by have := (hM.bads.lt _ e.symm).2; omega)
 have Z4 : Hid (some w.heap.size ≠ (Value.slice A4 m.hols.length c4).ownBlock) := Kh (fun e => by have := (hM.hols.lt _ e.symm).2; omega)
 have HM := Kh hM; clear hM; have X := nx w #[.slice A0 m.ns.length c0, .slice A1 m.ins.length c1, .slice A2 m.nxs.length c2, .slice A3 m.bads.length c3, .slice A4 m.hols.length c4] 31; have OO : Hid (Only w (w.alloc (.cells #[.slice A0 m.ns.length c0, .slice A1 m.ins.length c1, .slice A2 m.nxs.length c2, .slice A3 m.bads.length c3, .slice A4 m.hols.length c4] 31)) (zEv A0 A1 A2 A3 A4 c0 c1 c2 c3 c4 m)) := Kh (Only.ahead ((Below.refl _ _).alloc (Nat.le_refl _) _) (Only.refl _ _)); have N0 := Kh (HM.out.ns.alloc (.cells #[.slice A0 m.ns.length c0, .slice A1 m.ins.length c1, .slice A2 m.nxs.length c2, .slice A3 m.bads.length c3, .slice A4 m.hols.length c4] 31)); have N1 := Kh (HM.out.ins.alloc (.cells #[.slice A0 m.ns.length c0, .slice A1 m.ins.length c1, .slice A2 m.nxs.length c2, .slice A3 m.bads.length c3, .slice A4 m.hols.length c4] 31)); have N2 := Kh (HM.out.nxs.alloc (.cells #[.slice A0 m.ns.length c0, .slice A1 m.ins.length c1, .slice A2 m.nxs.length c2, .slice A3 m.bads.length c3, .slice A4 m.hols.length c4] 31)); have N3 := Kh (HM.out.bads.alloc (.cells #[.slice A0 m.ns.length c0, .slice A1 m.ins.length c1, .slice A2 m.nxs.length c2, .slice A3 m.bads.length c3, .slice A4 m.hols.length c4] 31)); have N4 := Kh (HM.out.hols.alloc (.cells #[.slice A0 m.ns.length c0, .slice A1 m.ins.length c1, .slice A2 m.nxs.length c2, .slice A3 m.bads.length c3, .slice A4 m.hols.length c4] 31))
 go_enter Tryz.func12, Tryz.ntmps12
 go_wp2_with (first | (go_at_call 43; (with_reducible show Calls _ _ #[.slice A0 m.ns.length c0, _] _ _); refine (zHd B A0 c0 m.ns (1) _ (by exact N0.out) (by omega) (by omega) hl0).mono ?_; rintro e w1 ⟨rfl, ho, hg⟩; have N1 := Kh (N1.out.kept hg P10.out); have N2 := Kh (N2.out.kept hg P20.out); have N3 := Kh (N3.out.kept hg P30.out); have N4 := Kh (N4.out.kept hg P40.out); have N0 := Kh ho; have OO := Kh (OO.out.step hg (fun k e => Or.inl e)); have X := Kh (X.out.grown hg (Z0.out)); obtain ⟨x0, x1, x2, x3, x4⟩ := X.out.five; clear ho hg) | (go_at_call 44; (with_reducible show Calls _ _ #[.slice A1 m.ins.length c1, _] _ _); refine (zHa B A1 c1 m.ins (1 + 9 * (m.ns.length : Int)) _ (by exact N1.out) (by omega) (by omega) hl1).mono ?_; rintro e w2 ⟨rfl, ho, hg⟩; have N0 := Kh (N0.out.kept hg P01.out); have N2 := Kh (N2.out.kept hg P21.out); have N3 := Kh (N3.out.kept hg P31.out); have N4 := Kh (N4.out.kept hg P41.out); have N1 := Kh ho; have OO := Kh (OO.out.step hg (fun k e => Or.inr (Or.inl e))); have X := Kh (X.out.grown hg (Z1.out)); obtain ⟨x0, x1, x2, x3, x4⟩ := X.out.five; clear ho hg) | (go_at_call 44; (with_reducible show Calls _ _ #[.slice A2 m.nxs.length c2, _] _ _); refine (zHa B A2 c2 m.nxs (1 + 9 * (m.ns.length : Int) + 2 * (m.ins.length : Int)) _ (by exact N2.out) (by omega) (by omega) hl2).mono ?_; rintro e w3 ⟨rfl, ho, hg⟩; have N0 := Kh (N0.out.kept hg P02.out); have N1 := Kh (N1.out.kept hg P12.out); have N3 := Kh (N3.out.kept hg P32.out); have N4 := Kh (N4.out.kept hg P42.out); have N2 := Kh ho; have OO := Kh (OO.out.step hg (fun k e => Or.inr (Or.inr (Or.inl e)))); have X := Kh (X.out.grown hg (Z2.out)); obtain ⟨x0, x1, x2, x3, x4⟩ := X.out.five; clear ho hg) | (go_at_call 45; (with_reducible show Calls _ _ #[.slice A3 m.bads.length c3, _] _ _); refine (zHb B A3 c3 m.bads (1 + 9 * (m.ns.length : Int) + 2 * (m.ins.length : Int) + 2 * (m.nxs.length : Int)) _ (by exact N3.out) (by omega) (by omega) hl3).mono ?_; rintro e w4 ⟨rfl, ho, hg⟩; have N0 := Kh (N0.out.kept hg P03.out); have N1 := Kh (N1.out.kept hg P13.out); have N2 := Kh (N2.out.kept hg P23.out); have N4 := Kh (N4.out.kept hg P43.out); have N3 := Kh ho; have OO := Kh (OO.out.step hg (fun k e => Or.inr (Or.inr (Or.inr (Or.inl e))))); have X := Kh (X.out.grown hg (Z3.out)); obtain ⟨x0, x1, x2, x3, x4⟩ := X.out.five; clear ho hg) | (go_at_call 45; (with_reducible show Calls _ _ #[.slice A4 m.hols.length c4, _] _ _); refine (zHb B A4 c4 m.hols (1 + 9 * (m.ns.length : Int) + 2 * (m.ins.length : Int) + 2 * (m.nxs.length : Int) + (m.bads.length : Int)) _ (by exact N4.out) (by omega) (by omega) hl4).mono ?_; rintro e w5 ⟨rfl, ho, hg⟩; have N0 := Kh (N0.out.kept hg P04.out); have N1 := Kh (N1.out.kept hg P14.out); have N2 := Kh (N2.out.kept hg P24.out); have N3 := Kh (N3.out.kept hg P34.out); have N4 := Kh ho; have OO := Kh (OO.out.step hg (fun k e => Or.inr (Or.inr (Or.inr (Or.inr e))))); have X := Kh (X.out.grown hg (Z4.out)); obtain ⟨x0, x1, x2, x3, x4⟩ := X.out.five; clear ho hg))
 go_ret
 exact ⟨rfl, ⟨zIj N0.out (zHm _ _), zBi N1.out (zHj _ _), zBi N2.out (zHj _ _), zF8 N3.out (zHn _ _), zF8 N4.out (zHn _ _)⟩, OO.out⟩
theorem zEm (A0 A1 A2 A3 A4 : Option Addr) (c0 c1 c2 c3 c4 : Nat) (m : Mo) (w : World) (hM : MkR w A0 A1 A2 A3 A4 m) (hl : m.ns.length ≤ 1048576 ∧ m.ins.length ≤ 1048576 ∧ m.nxs.length ≤ 1048576 ∧ m.bads.length ≤ 1048576 ∧ m.hols.length ≤ 1048576) :
 Calls Tryz.prog 13 #[.agg #[.slice A0 m.ns.length c0, .slice A1 m.ins.length c1, .slice A2 m.nxs.length c2, .slice A3 m.bads.length c3, .slice A4 m.hols.length c4], .int .i64 1] w fun e w' => e = .returned (.int .i64 (totM m)) ∧ Below w.heap.size w w' := by
 obtain ⟨hl0, hl1, hl2, hl3, hl4⟩ := hl; have HM := Kh hM; clear hM; have B1 := bx w #[.slice A0 m.ns.length c0, .slice A1 m.ins.length c1, .slice A2 m.nxs.length c2, .slice A3 m.bads.length c3, .slice A4 m.hols.length c4] 31; have X := nx w #[.slice A0 m.ns.length c0, .slice A1 m.ins.length c1, .slice A2 m.nxs.length c2, .slice A3 m.bads.length c3, .slice A4 m.hols.length c4] 31; have T0 := Kh (fun (W : World) (hW : Below w.heap.size w W) => zEn A0 c0 m.ns.length (1) W (HM.out.below hW).ns (by omega) (by omega) hl0)
 have T1 := Kh (fun (W : World) (hW : Below w.heap.size w W) => zEk A1 c1 m.ins.length (1 + 9 * (m.ns.length : Int)) W (HM.out.below hW).ins (by omega) (by omega) hl1)
 have T2 := Kh (fun (W : World) (hW : Below w.heap.size w W) => zEk A2 c2 m.nxs.length (1 + 9 * (m.ns.length : Int) + 2 * (m.ins.length : Int)) W (HM.out.below hW).nxs (by omega) (by omega) hl2)
 have T3 := Kh (fun (W : World) (hW : Below w.heap.size w W) => zEl A3 c3 (1 + 9 * (m.ns.length : Int) + 2 * (m.ins.length : Int) + 2 * (m.nxs.length : Int)) m.bads.length W (HM.out.below hW).bads (by omega) (by omega) hl3)
 have T4 := Kh (fun (W : World) (hW : Below w.heap.size w W) => zEl A4 c4 (1 + 9 * (m.ns.length : Int) + 2 * (m.ins.length : Int) + 2 * (m.nxs.length : Int) + (m.bads.length : Int)) m.hols.length W (HM.out.below hW).hols (by omega) (by omega) hl4)
 show Calls _ _ _ _ fun e w' => e = .returned (.int .i64 (1 + 9 * (m.ns.length : Int) + 2 * (m.ins.length : Int) + 2 * (m.nxs.length : Int) + (m.bads.length : Int) + (m.hols.length : Int))) ∧ Below w.heap.size w w'
 obtain ⟨K1, hK1⟩ : ∃ K : Int, 1 + 9 * (m.ns.length : Int) = K := ⟨_, rfl⟩
 simp only [hK1] at T0 T1 T2 T3 T4 ⊢; have d1 : decide (K1 < 0) = false := decide_eq_false (by omega)
 obtain ⟨K2, hK2⟩ : ∃ K : Int, K1 + 2 * (m.ins.length : Int) = K := ⟨_, rfl⟩
 simp only [hK2] at T1 T2 T3 T4 ⊢; have d2 : decide (K2 < 0) = false := decide_eq_false (by omega)
 obtain ⟨K3, hK3⟩ : ∃ K : Int, K2 + 2 * (m.nxs.length : Int) = K := ⟨_, rfl⟩
 simp only [hK3] at T2 T3 T4 ⊢; have d3 : decide (K3 < 0) = false := decide_eq_false (by omega)
 obtain ⟨K4, hK4⟩ : ∃ K : Int, K3 + (m.bads.length : Int) = K := ⟨_, rfl⟩
 simp only [hK4] at T3 T4 ⊢; have d4 : decide (K4 < 0) = false := decide_eq_false (by omega)
 obtain ⟨K5, hK5⟩ : ∃ K : Int, K4 + (m.hols.length : Int) = K := ⟨_, rfl⟩
 simp only [hK5] at T4 ⊢; have d5 : decide (K5 < 0) = false := decide_eq_false (by omega)
 clear hK1 hK2 hK3 hK4 hK5
 go_enter Tryz.func13, Tryz.ntmps13
 go_wp2_with (first | (go_at_call 46; (with_reducible show Calls _ _ #[.slice A0 m.ns.length c0, _] _ _); refine (T0.out _ (by exact B1.out)).mono ?_; rintro e w2 ⟨rfl, hb2⟩; have B2 := Kh (B1.out.trans (hb2.mono B1.out.size)); have X := Kh (X.out.below hb2 X.out.lt); obtain ⟨x0, x1, x2, x3, x4⟩ := X.out.five; clear hb2) | (go_at_call 47; (with_reducible show Calls _ _ #[.slice A1 m.ins.length c1, _] _ _); refine (T1.out _ (by exact B2.out)).mono ?_; rintro e wk ⟨rfl, rfl⟩) | (go_at_call 47; (with_reducible show Calls _ _ #[.slice A2 m.nxs.length c2, _] _ _); refine (T2.out _ (by exact B2.out)).mono ?_; rintro e wk ⟨rfl, rfl⟩) | (go_at_call 48; (with_reducible show Calls _ _ #[.slice A3 m.bads.length c3, _] _ _); refine (T3.out _ (by exact B2.out)).mono ?_; rintro e wk ⟨rfl, rfl⟩) | (go_at_call 48; (with_reducible show Calls _ _ #[.slice A4 m.hols.length c4, _] _ _); refine (T4.out _ (by exact B2.out)).mono ?_; rintro e wk ⟨rfl, rfl⟩))
 go_ret
 exact ⟨rfl, B2.out⟩
end Go.Proofs.YtmolbnghobfmoaaGreat
