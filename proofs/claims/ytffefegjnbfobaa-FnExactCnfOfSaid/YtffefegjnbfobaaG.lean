/- The laws' own helpers: how big a diagram is, a diagram made over, two diagrams that are the same. -/
import Derived.Test.YtffefegjnbfobaaS2
namespace Go.Proofs.Ytffefegjnbfobaa
open Go.RowKit
open B

theorem infoN : (Try.prog.info? 89).map (fun i => (i.zero, i.size, i.bytes)) = some (some (.agg #[.int .i64 0, .int .i64 0, .int .i64 0]), 3, 24) := by kernel_rfl

/-- make([]BddNode, n) -/
theorem mk_nodes (n : Nat) (hn : n ≤ 1048576) (w : World) :
    (Instr.makeSlice 26 (.int .i64 (n : Int)) (.int .i64 (n : Int))).run Try.prog w = .ok (.slice (some ⟨w.heap.size, 0, none⟩) n n) (w.alloc (.cells (madeCells #[.int .i64 0, .int .i64 0, .int .i64 0] (n * 3)) 89)) := by
  obtain ⟨i, hi, hz0, hz1, hz2⟩ := info_parts infoN
  have := run_make_rowN (P := Try.prog) 26 89 i _ Try.underlying26 hi hz0 .i64 .i64 n n (Nat.le_refl _) (by rw [hz2]; omega) (by omega) w
  rw [hz1] at this
  exact this

/-- Left over of 'left' after the diagram's nodes. -/
def leftOf (n : Nat) (left : Int) : Int := if left < n then -1 else left - n

theorem szNodes_is (A : Option Addr) (cap n : Nat) (left : Int) (w : World) (hl0 : 0 ≤ left) (hl : left ≤ 1048576) (hn : n ≤ 9223372036854775807) :
    Calls Try.prog 96 #[.slice A n cap, .int .i64 left] w fun e w' => e = .returned (.int .i64 (leftOf n left)) ∧ w = w' := by
  have e1 : IntKind.i64.wrap (left - (n : Int)) = left - n := wrap_eq (by omega) (by omega)
  by_cases h : left < n
  · have e2 : leftOf n left = -1 := if_pos h
    have h' : left - n < 0 := by omega
    go_enter Try.func96, Try.ntmps96
    go_wp2
    go_ret
    exact ⟨by simp [e2], rfl⟩
  · have e2 : leftOf n left = left - n := if_neg h
    have h' : ¬ left - n < 0 := by omega
    rw [e2]
    go_enter Try.func96, Try.ntmps96
    go_wp2
    go_ret
    exact ⟨by simp, rfl⟩

set_option maxRecDepth 100000 in
theorem szBdd_is (V R : Int) (A : Option Addr) (cap n : Nat) (left : Int) (w : World) (hl0 : 0 ≤ left) (hl : left ≤ 1048576) (hn : n ≤ 9223372036854775807) :
    Calls Try.prog 43 #[.agg #[.int .i64 V, .slice A n cap, .int .i64 R], .int .i64 left] w fun e w' => e = .returned (.int .i64 (leftOf n left)) ∧ Below w.heap.size w w' := by
  have hb1 : ∀ o : Obj, Below w.heap.size w (w.alloc o) := fun o => (Below.refl _ _).alloc (Nat.le_refl _) _
  by_cases h : left < n
  · have e2 : leftOf n left = -1 := if_pos h
    have h' : leftOf n left < 0 := by omega
    go_enter Try.func43, Try.ntmps43
    go_wp2_with (go_at_call 96; refine (szNodes_is A cap n left _ hl0 hl hn).mono ?_; rintro e w' ⟨rfl, rfl⟩)
    go_ret
    exact ⟨by simp [e2], hb1 _⟩
  · have e2 : leftOf n left = left - n := if_neg h
    have h' : ¬ leftOf n left < 0 := by omega
    go_enter Try.func43, Try.ntmps43
    go_wp2_with (go_at_call 96; refine (szNodes_is A cap n left _ hl0 hl hn).mono ?_; rintro e w' ⟨rfl, rfl⟩)
    go_ret
    exact ⟨by simp [e2], hb1 _⟩

set_option maxRecDepth 100000 in
theorem toNode_is (x y z : Int) (w : World) : Calls Try.prog 136 #[.agg #[.int .i64 x, .int .i64 y, .int .i64 z]] w fun e w' => e = .returned (.agg #[.int .i64 x, .int .i64 y, .int .i64 z]) ∧ Below w.heap.size w w' := by
  go_enter Try.func136, Try.ntmps136
  go_wp2_with fail
  refine bodyPost_ret (v := .agg #[.int .i64 x, .int .i64 y, .int .i64 z]) (by simp [results, Try.results136, go_sem]) rfl ⟨rfl, ?_⟩
  exact (((Below.refl w.heap.size w).alloc (Nat.le_refl _) _).alloc (by simp) _).alloc (by simp; omega) _

/-- The copy is k nodes on its way. -/
def Part (w : World) (g : Nat) (ns : List Nd) (k : Nat) : Prop := ∃ cs, Blk w g 89 cs ∧ cs.size = ns.length * 3 ∧
  ∀ (j : Nat) (n : Nd), j < k → ns[j]? = some n → cs[j * 3]? = some (.int .i64 n.v) ∧ cs[j * 3 + 1]? = some (.int .i64 n.lo) ∧ cs[j * 3 + 2]? = some (.int .i64 n.hi)

theorem Part.nat {w : World} {g : Nat} {ns : List Nd} (h : Part w g ns ns.length) : NAt w (some ⟨g, 0, none⟩) ns := fun _ => by
  obtain ⟨cs, hbl, hsz, hc⟩ := h
  refine ⟨_, _, rfl, hbl.lt, fun j n hj => ?_⟩
  obtain ⟨c1, c2, c3⟩ := hc j n (List.getElem?_eq_some_iff.1 hj).1 hj
  rw [hbl.cell, hbl.cell, hbl.cell]
  exact ⟨by rw [Nat.zero_add]; exact c1, by rw [Nat.zero_add]; exact c2, by rw [Nat.zero_add]; exact c3⟩
theorem Part.far {w : World} {g k : Nat} {ns : List Nd} (h : Part w g ns k) {p : Addr} (hp : g ≠ p.block) (u : Value) : Part (w.setCell p u) g ns k := by
  obtain ⟨cs, hbl, hsz, hc⟩ := h
  exact ⟨cs, hbl.far hp u, hsz, hc⟩
theorem Part.below {w w' : World} {g k B : Nat} {ns : List Nd} (h : Part w g ns k) (hb : Below B w w') (hg : g < B) : Part w' g ns k := by
  obtain ⟨cs, hbl, hsz, hc⟩ := h
  exact ⟨cs, hbl.below hb hg, hsz, hc⟩
theorem Part.lt {w : World} {g k : Nat} {ns : List Nd} (h : Part w g ns k) : g < w.heap.size := by
  obtain ⟨cs, hbl, hsz, hc⟩ := h
  exact hbl.lt

set_option maxRecDepth 100000 in
theorem toNodes_any (A : Option Addr) (cap : Nat) (ns : List Nd) (w : World) (hA : NAt w A ns) (hn : ns.length ≤ 1048576) :
    Calls Try.prog 99 #[.slice A ns.length cap] w fun e w' => e = .returned (.slice (some ⟨w.heap.size, 0, none⟩) ns.length ns.length) ∧ Part w' w.heap.size ns ns.length ∧ Below w.heap.size w w' := by
  have hm := mk_nodes ns.length hn
  have HA := Lib.hid hA
  clear hA
  go_enter Try.func99, Try.ntmps99
  go_wp2_with fail
  go_loopw [4] (fun i wr => ∃ k : Nat, k ≤ ns.length ∧ Below w.heap.size w wr ∧ Hid (Part wr w.heap.size ns k) ∧ i = .int .i64 k) (fun i _ => ns.length - (intOf i).toNat)
  case atStart => exact ⟨0, Nat.zero_le _, (Below.refl _ _).alloc (Nat.le_refl _) _, ⟨_, Blk.new _ _ _, size_madeCells _ _, fun j n hj => absurd hj (Nat.not_lt_zero _)⟩, rfl⟩
  case round =>
    obtain ⟨k, hk, hbw, hpt, rfl⟩ := hrel
    by_cases hlt : k < ns.length
    case neg =>
      obtain rfl : k = ns.length := by omega
      go_wp2_with fail
      go_ret
      exact ⟨rfl, hpt.out, hbw⟩
    obtain ⟨b, off, rfl, c1, c2, c3⟩ := HA.out.get hbw hlt
    have hget : ns[k]? = some ns[k] := List.getElem?_eq_getElem hlt
    generalize hnk : ns[k] = n at c1 c2 c3 hget
    have Hget := Lib.hid hget
    clear hget hnk
    have e1 : IntKind.i64.wrap ((k : Int) + 1) = (k : Int) + 1 := wrap_eq (by omega) (by omega)
    have hj1 : (k : Int) < (ns.length : Int) := by omega
    obtain ⟨cs, hbl, hsz, hc⟩ := hpt.out
    have k0 : cs[k * 3]? = some cs[k * 3] := Array.getElem?_eq_getElem (by omega)
    have k1 : cs[k * 3 + 1]? = some cs[k * 3 + 1] := Array.getElem?_eq_getElem (by omega)
    have k2 : cs[k * 3 + 2]? = some cs[k * 3 + 2] := Array.getElem?_eq_getElem (by omega)
    generalize hx0 : cs[k * 3] = x0 at k0
    generalize hx1 : cs[k * 3 + 1] = x1 at k1
    generalize hx2 : cs[k * 3 + 2] = x2 at k2
    have HBL := Lib.hid hbl
    have HC := Lib.hid hc
    have K0 := Lib.hid k0
    have K1 := Lib.hid k1
    have K2 := Lib.hid k2
    clear hx0 hx1 hx2 hbl hc k0 k1 k2
    go_wp2_with (go_at_call 136; refine (toNode_is _ _ _ _).mono ?_; rintro e w1 ⟨rfl, hb1⟩; have hbl1 := Lib.hid (HBL.out.below hb1 HBL.out.lt); have f0 := hbl1.out.frozen (k * 3); have f1 := hbl1.out.frozen (k * 3 + 1); have f2 := hbl1.out.frozen (k * 3 + 2); have g0 := (hbl1.out.cell (k * 3)).trans K0.out; have g1 := (hbl1.out.cell (k * 3 + 1)).trans K1.out; have g2 := (hbl1.out.cell (k * 3 + 2)).trans K2.out)
    go_roundw
    case rel =>
      refine ⟨k + 1, by omega, ?_, ?_, by go_num⟩
      · exact (((hbw.trans (hb1.mono hbw.size)).setCell (p := ⟨w.heap.size, _, none⟩) (Nat.le_refl _) _).setCell (p := ⟨w.heap.size, _, none⟩) (Nat.le_refl _) _).setCell (p := ⟨w.heap.size, _, none⟩) (Nat.le_refl _) _
      · refine ⟨_, ((hbl1.out.set_ (k * 3) (.int .i64 n.v)).set_ (k * 3 + 1) (.int .i64 n.lo)).set_ (k * 3 + 2) (.int .i64 n.hi), by simpa using hsz, fun j m hj hm => ?_⟩
        by_cases e : j = k
        · subst e
          have := Hget.out.symm.trans hm
          injection this with this
          subst this
          simp [Array.getElem?_setIfInBounds, hsz]
          omega
        · obtain ⟨q0, q1, q2⟩ := HC.out j m (by omega) hm
          refine ⟨?_, ?_, ?_⟩
          · rw [Array.getElem?_setIfInBounds_ne (by omega), Array.getElem?_setIfInBounds_ne (by omega), Array.getElem?_setIfInBounds_ne (by omega)]; exact q0
          · rw [Array.getElem?_setIfInBounds_ne (by omega), Array.getElem?_setIfInBounds_ne (by omega), Array.getElem?_setIfInBounds_ne (by omega)]; exact q1
          · rw [Array.getElem?_setIfInBounds_ne (by omega), Array.getElem?_setIfInBounds_ne (by omega), Array.getElem?_setIfInBounds_ne (by omega)]; exact q2
    case measure => simp [intOf]; omega

set_option maxRecDepth 100000 in
theorem eqNode_is (n m : Nd) (b : Bool) (hb : b = true ↔ n = m) (w : World) : Calls Try.prog 137 #[.agg #[.int .i64 n.v, .int .i64 n.lo, .int .i64 n.hi], .agg #[.int .i64 m.v, .int .i64 m.lo, .int .i64 m.hi]] w fun e w' => e = .returned (.bool b) ∧ Below w.heap.size w w' := by
  have hb1 : ∀ o o' : Obj, Below w.heap.size w ((w.alloc o).alloc o') := fun o o' => ((Below.refl _ _).alloc (Nat.le_refl _) _).alloc (by simp) _
  have HB1 := Lib.hid hb1
  obtain rfl : b = (n.v == m.v && n.lo == m.lo && n.hi == m.hi) := by
    rw [Bool.eq_iff_iff, hb]; cases n; cases m; simp [and_assoc]
  clear hb1 hb
  go_enter Try.func137, Try.ntmps137
  go_wp2_with fail
  all_goals go_ret
  all_goals refine ⟨?_, HB1.out _ _⟩
  all_goals simp_all

set_option maxRecDepth 100000 in
theorem toBdd_any (V R : Int) (A : Option Addr) (cap : Nat) (ns : List Nd) (w : World) (hA : NAt w A ns) (hn : ns.length ≤ 1048576) :
    Calls Try.prog 45 #[.agg #[.int .i64 V, .slice A ns.length cap, .int .i64 R]] w fun e w' => ∃ g, w.heap.size ≤ g ∧ e = .returned (.agg #[.int .i64 V, .slice (some ⟨g, 0, none⟩) ns.length ns.length, .int .i64 R]) ∧ Part w' g ns ns.length ∧ Below w.heap.size w w' := by
  have HA := Lib.hid hA
  clear hA
  go_enter Try.func45, Try.ntmps45
  go_wp2_with (go_at_call 99; refine (toNodes_any A cap ns _ (by exact HA.out.below ((((Below.refl w.heap.size w).alloc (Nat.le_refl _) _).alloc (by simp) _).alloc (by simp; omega) _)) hn).mono ?_; rintro e w1 ⟨rfl, hpt, hb1⟩; have B0 : Hid (Blk w1 w.heap.size 65 #[.int .i64 V, .slice A ns.length cap, .int .i64 R]) := ((((Blk.new w _ _).alloc _).alloc _).below hb1 (by simp; omega)); have B1 : Hid (Blk w1 (w.heap.size + 1) 28 #[.int .i64 0, .slice none 0 0, .int .i64 0]) := (((Blk.new_at _ _ _ (by simp)).alloc _).below hb1 (by simp)); have B2 : Hid (Blk w1 (w.heap.size + 1 + 1) 28 #[.int .i64 V, .slice none 0 0, .int .i64 0]) := ((Blk.new_at _ _ _ (by simp)).below hb1 (by simp)); have x2 := B0.out.cell 2; have y0 := B1.out.cell 0; have y1 := B1.out.cell 1; have y2 := B1.out.cell 2; have z0 := B2.out.cell 0; have z1 := B2.out.cell 1; have z2 := B2.out.cell 2; have f0 := B1.out.frozen 0; have f1 := B1.out.frozen 1; have f2 := B1.out.frozen 2; have h0 := B2.out.frozen 0; have h1 := B2.out.frozen 1; have h2 := B2.out.frozen 2; simp only [List.getElem?_toArray, List.getElem?_cons_zero, List.getElem?_cons_succ] at x2 y0 y1 y2 z0 z1 z2)
  have b3 : Blk (w1.setCell ⟨w.heap.size + 1 + 1, 1, none⟩ (.slice (some ⟨w.heap.size + 1 + 1 + 1, 0, none⟩) ns.length ns.length)) (w.heap.size + 1) 28 _ := B1.out.far (p := ⟨w.heap.size + 1 + 1, 1, none⟩) (by show w.heap.size + 1 ≠ w.heap.size + 1 + 1; omega) _
  have b4 := (((b3.far (p := ⟨w.heap.size + 1 + 1, 2, none⟩) (by show w.heap.size + 1 ≠ w.heap.size + 1 + 1; omega) (.int .i64 R)).set_ 0 (.int .i64 V)).set_ 1 (.slice (some ⟨w.heap.size + 1 + 1 + 1, 0, none⟩) ns.length ns.length)).set_ 2 (.int .i64 R)
  have u0 := b4.cell 0
  have u1 := b4.cell 1
  have u2 := b4.cell 2
  simp only [List.setIfInBounds_toArray, List.set_cons_zero, List.set_cons_succ, List.getElem?_toArray, List.getElem?_cons_zero, List.getElem?_cons_succ] at u0 u1 u2
  refine bodyPost_ret (v := .agg #[.int .i64 V, .slice (some ⟨w.heap.size + 1 + 1 + 1, 0, none⟩) ns.length ns.length, .int .i64 R]) (by simp [results, Try.results45, go_sem, u0, u1, u2]) rfl ⟨w.heap.size + 1 + 1 + 1, by omega, rfl, ?_, ?_⟩
  · have hpt' : Part w1 (w.heap.size + 1 + 1 + 1) ns ns.length := by simpa using hpt
    exact ((((hpt'.far (p := ⟨w.heap.size + 1 + 1, 1, none⟩) (by show w.heap.size + 1 + 1 + 1 ≠ w.heap.size + 1 + 1; omega) _).far (p := ⟨w.heap.size + 1 + 1, 2, none⟩) (by show w.heap.size + 1 + 1 + 1 ≠ w.heap.size + 1 + 1; omega) _).far (p := ⟨w.heap.size + 1, 0, none⟩) (by show w.heap.size + 1 + 1 + 1 ≠ w.heap.size + 1; omega) _).far (p := ⟨w.heap.size + 1, 1, none⟩) (by show w.heap.size + 1 + 1 + 1 ≠ w.heap.size + 1; omega) _).far (p := ⟨w.heap.size + 1, 2, none⟩) (by show w.heap.size + 1 + 1 + 1 ≠ w.heap.size + 1; omega) _
  · have hb : Below w.heap.size w w1 := ((((Below.refl w.heap.size w).alloc (Nat.le_refl _) _).alloc (by simp) _).alloc (by simp; omega) _).trans (hb1.mono (by simp; omega))
    exact ((((hb.setCell (p := ⟨w.heap.size + 1 + 1, 1, none⟩) (by show w.heap.size ≤ w.heap.size + 1 + 1; omega) _).setCell (p := ⟨w.heap.size + 1 + 1, 2, none⟩) (by show w.heap.size ≤ w.heap.size + 1 + 1; omega) _).setCell (p := ⟨w.heap.size + 1, 0, none⟩) (Nat.le_succ _) _).setCell (p := ⟨w.heap.size + 1, 1, none⟩) (Nat.le_succ _) _).setCell (p := ⟨w.heap.size + 1, 2, none⟩) (Nat.le_succ _) _

set_option maxRecDepth 100000 in
/-- Two slices that hold the same nodes: yes. -/
theorem eqNodes_yes (A B : Option Addr) (cap cap' : Nat) (ns : List Nd) (w : World) (hA : NAt w A ns) (hB : NAt w B ns) (hn : ns.length ≤ 1048576) :
    Calls Try.prog 102 #[.slice A ns.length cap, .slice B ns.length cap'] w fun e w' => e = .returned (.bool true) ∧ Below w.heap.size w w' := by
  have HA := Lib.hid hA
  have HB := Lib.hid hB
  clear hA hB
  go_enter Try.func102, Try.ntmps102
  go_wp2_with fail
  go_loopw [5] (fun i wr => ∃ k : Nat, k ≤ ns.length ∧ Below w.heap.size w wr ∧ i = .int .i64 k) (fun i _ => ns.length - (intOf i).toNat)
  case atStart => exact ⟨0, Nat.zero_le _, Below.refl _ _, rfl⟩
  case round =>
    obtain ⟨k, hk, hbw, rfl⟩ := hrel
    by_cases hlt : k < ns.length
    case neg =>
      obtain rfl : k = ns.length := by omega
      go_wp2_with fail
      go_ret
      exact ⟨rfl, hbw⟩
    obtain ⟨b, off, rfl, c1, c2, c3⟩ := HA.out.get hbw hlt
    obtain ⟨b', off', rfl, x1, x2, x3⟩ := HB.out.get hbw hlt
    obtain ⟨_, _, hE, hlA, -⟩ := (HA.out.below hbw) (by omega)
    obtain ⟨rfl, rfl⟩ : b = _ ∧ off = _ := by simpa using hE
    obtain ⟨_, _, hE', hlB, -⟩ := (HB.out.below hbw) (by omega)
    obtain ⟨rfl, rfl⟩ : b' = _ ∧ off' = _ := by simpa using hE'
    clear hE hE'
    generalize ns[k] = n at c1 c2 c3 x1 x2 x3
    have e1 : IntKind.i64.wrap ((k : Int) + 1) = (k : Int) + 1 := wrap_eq (by omega) (by omega)
    have hj0 : (0 : Int) ≤ k := by omega
    have hj1 : (k : Int) < (ns.length : Int) := by omega
    have K1 := fun x : Ext wr => ext_cell c1 (by exact hlA) x
    have K2 := fun x : Ext wr => ext_cell c2 (by exact hlA) x
    have K3 := fun x : Ext wr => ext_cell c3 (by exact hlA) x
    have K4 := fun x : Ext wr => ext_cell x1 (by exact hlB) x
    have K5 := fun x : Ext wr => ext_cell x2 (by exact hlB) x
    have K6 := fun x : Ext wr => ext_cell x3 (by exact hlB) x
    clear c1 c2 c3 x1 x2 x3
    go_wp2_with fail
    refine wp_region_ext (by kernel_rfl) (by kernel_rfl) ?_
    repeat go_big_quiet_step ((go_at_call 137; exact ext_below _ (eqNode_is n n true (by simp) _)))
    refine wpQuiet_nil ?_
    intro _ hw'
    obtain ⟨x, hw''⟩ := hw'
    subst hw''
    go_wp2_with fail
    go_roundw
    case rel => exact ⟨k + 1, by omega, hbw.trans (x.2.mono hbw.size), by go_num⟩
    case measure => simp [intOf]; omega

set_option maxRecDepth 100000 in
theorem eqBdd_yes (V R : Int) (A B : Option Addr) (cap cap' : Nat) (ns : List Nd) (w : World) (hA : NAt w A ns) (hB : NAt w B ns) (hn : ns.length ≤ 1048576) :
    Calls Try.prog 47 #[.agg #[.int .i64 V, .slice A ns.length cap, .int .i64 R], .agg #[.int .i64 V, .slice B ns.length cap', .int .i64 R]] w fun e w' => e = .returned (.bool true) ∧ Below w.heap.size w w' := by
  have HA := Lib.hid hA
  have HB := Lib.hid hB
  clear hA hB
  go_enter Try.func47, Try.ntmps47
  go_wp2_with (go_at_call 102; refine (eqNodes_yes A B cap cap' ns _ (by exact HA.out.below (((Below.refl w.heap.size w).alloc (Nat.le_refl _) _).alloc (by simp) _)) (by exact HB.out.below (((Below.refl w.heap.size w).alloc (Nat.le_refl _) _).alloc (by simp) _)) hn).mono ?_; rintro e w1 ⟨rfl, hb1⟩; have B0 : Hid (Blk w1 w.heap.size 28 #[.int .i64 V, .slice A ns.length cap, .int .i64 R]) := (((Blk.new w _ _).alloc _).below hb1 (by simp; omega)); have B1 : Hid (Blk w1 (w.heap.size + 1) 28 #[.int .i64 V, .slice B ns.length cap', .int .i64 R]) := ((Blk.new_at _ _ _ (by simp)).below hb1 (by simp)); have x2 := B0.out.cell 2; have y2 := B1.out.cell 2; simp only [List.getElem?_toArray, List.getElem?_cons_zero, List.getElem?_cons_succ] at x2 y2)
  go_ret
  exact ⟨rfl, (((Below.refl w.heap.size w).alloc (Nat.le_refl _) _).alloc (by simp) _).trans (hb1.mono (by simp; omega))⟩
end Go.Proofs.Ytffefegjnbfobaa
