/- Part 15 of what the row Row28 rests on: F8 F9 G11. -/
import Derived.Deep.RegionHeld3
import Derived.Test.YtmolbnghobfmoaaGreatP13
import Derived.Test.YtmolbnghobfmoaaGreatP14
set_option maxRecDepth 100000
set_option maxHeartbeats 16000000
set_option linter.unusedSimpArgs false
set_option linter.unusedVariables false
namespace Go.Proofs.YtmolbnghobfmoaaGreat
open Go.RowKit
theorem zF4 : (Tryz.prog.info? 4).map (fun i => (i.zero, i.size, i.bytes)) = some (some (.bool false), 1, 1) := by kernel_rfl
theorem zHr (n : Nat) (hn : n ≤ 1048576) (w : World) :
 (Instr.makeSlice 85 (.int .i64 (n : Int)) (.int .i64 (n : Int))).run Tryz.prog w = .ok (.slice (some ⟨w.heap.size, 0, none⟩) n n) (w.alloc (.cells (zL2 (fun _ => .bool false) n) 4)) := by
 obtain ⟨i, hi, hz0, hz1, hz2⟩ := info_parts zF4; have := zLg (P := Tryz.prog) 85 4 i _ Tryz.underlying85 hi hz0 .i64 .i64 n n (Nat.le_refl _) (by rw [hz2]; omega) (by omega) w
 rw [hz1, Nat.mul_one] at this; rw [← zH9]
 exact this
theorem zH5 {l : List No} (hl : zAb l) {r : Nat} (h : r < l.length) : Made l r ↔ zI6 l[r].k ∨ (0 < zK1 l[r].k ∧ Made l l[r].a.toNat) ∨ (1 < zK1 l[r].k ∧ Made l l[r].b.toNat) ∨ (2 < zK1 l[r].k ∧ Made l l[r].c.toNat) := by
 have e := zIb h; constructor
 · intro hm
   cases hm with
   | self h1 h2 => rw [e] at h2; exact .inl h2
   | a h1 h2 h3 => rw [e] at h2 h3; exact .inr (.inl ⟨h2, h3⟩)
   | b h1 h2 h3 => rw [e] at h2 h3; exact .inr (.inr (.inl ⟨h2, h3⟩))
   | c h1 h2 h3 => rw [e] at h2 h3; exact .inr (.inr (.inr ⟨h2, h3⟩))
 · rintro (h2 | ⟨h2, h3⟩ | ⟨h2, h3⟩ | ⟨h2, h3⟩)
   · exact .self h (by rw [e]; exact h2)
   · exact .a h (by rw [e]; exact h2) (by rw [e]; exact h3)
   · exact .b h (by rw [e]; exact h2) (by rw [e]; exact h3)
   · exact .c h (by rw [e]; exact h2) (by rw [e]; exact h3)
open Classical in
theorem zH2 (A : Option Addr) (ci : Nat) (l : List No) (x1 x2 x3 x4 : Value) (w : World) (hA : zA9 w A l) (hl : l.length ≤ 60) (hok : zAb l) :
    Calls Tryz.prog 84 #[.agg #[.slice A l.length ci, x1, x2, x3, x4]] w fun e w' => ∃ g, e = .returned (.slice (some ⟨g, 0, none⟩) l.length l.length) ∧ w.heap.size ≤ g ∧ Blk w' g 4 (zL2 (fun j => .bool (decide (Made l j))) l.length) ∧ Below w.heap.size w w' := by
 have HA := Kh hA; have HOK := Kh hok; clear hA hok; have HB0 : Hid (Below w.heap.size w ((w.alloc (.cells #[.slice A l.length ci, x1, x2, x3, x4] 31)).alloc (.cells (zL2 (fun _ => .bool false) l.length) 4))) := ((Below.refl _ _).alloc (Nat.le_refl _) _).alloc (by simp) _
 have HX0 : Hid (Blk ((w.alloc (.cells #[.slice A l.length ci, x1, x2, x3, x4] 31)).alloc (.cells (zL2 (fun _ => .bool false) l.length) 4)) w.heap.size 31 #[.slice A l.length ci, x1, x2, x3, x4]) := (Blk.new _ _ _).alloc _
 have HO0 : Hid (Blk ((w.alloc (.cells #[.slice A l.length ci, x1, x2, x3, x4] 31)).alloc (.cells (zL2 (fun _ => .bool false) l.length) 4)) (w.heap.size + 1) 4 (zL2 (fun j => .bool (decide (j < 0 ∧ Made l j))) l.length)) := by
  have : zL2 (fun _ => .bool false) l.length = zL2 (fun j => .bool (decide (j < 0 ∧ Made l j))) l.length := zL3 fun i _ => by simp
  rw [this]; exact Blk.new_at _ _ _ (by simp)
 have hmk := zHr l.length (by omega)
 go_enter Tryz.func84, Tryz.ntmps84
 go_wp2_with fail
 go_loopw [15] (fun i wr => ∃ r : Nat, r ≤ l.length ∧ Hid (Below w.heap.size w wr) ∧ Hid (Blk wr w.heap.size 31 #[.slice A l.length ci, x1, x2, x3, x4]) ∧ Hid (Blk wr (w.heap.size + 1) 4 (zL2 (fun j => .bool (decide (j < r ∧ Made l j))) l.length)) ∧ i = .int .i64 (r : Int)) (fun i _ => l.length - (intOf i).toNat)
 case atStart => exact ⟨0, Nat.zero_le _, HB0, HX0, HO0, rfl⟩
 case round =>
  obtain ⟨wz, rfl⟩ : ∃ x : World, x = wr := ⟨_, rfl⟩
  obtain ⟨r, hr, HBr, HXr, HOr, rfl⟩ := hrel
  by_cases hlt : r < l.length
  case neg =>
   obtain rfl : r = l.length := by omega
   go_wp2_with fail
   go_ret
   refine ⟨w.heap.size + 1, rfl, by omega, ?_, HBr.out⟩
   have : zL2 (fun j => .bool (decide (Made l j))) l.length = zL2 (fun j => .bool (decide (j < l.length ∧ Made l j))) l.length := zL3 fun i hi => by simp [hi]
   rw [this]; exact HOr.out
  have hj0 : (0 : Int) ≤ (r : Int) := by omega
  have hj1 : (r : Int) < (l.length : Int) := by omega
  have e1 := wr1 (r := r) (by omega)
  obtain ⟨g, rfl, hg, hc⟩ := (HA.out.below HBr.out) (by omega)
  obtain ⟨y0, y1, y2, y3, y4, y5, y6, y7, y8⟩ := hc r hlt; have hmi := Kh (zH5 HOK.out hlt); have hpar := HOK.out.part (p := (r : Int)) hj0 hj1; have hpk := (HOK.out r hlt).out.2.1.1; rw [zIb hlt] at hpar; clear hc; generalize l[r] = n at *; have HPar := Kh hpar; obtain ⟨M, hM⟩ : ∃ m : Nat, zK1 n.k = (m : Int) := ⟨(zK1 n.k).toNat, by omega⟩
  have HM := Kh hM; have hM3 : M ≤ 3 := by have := zK2 n.k; omega
  have hM3' : (M : Int) ≤ 3 := by omega
  have hM0 : (0 : Int) ≤ (M : Int) := by omega
  clear hM hpar hpk; have BN : Hid (Blk ((wz.setCell ⟨w.heap.size + 1, r, none⟩ (.bool (decide (zI6 n.k)))).alloc (.cells #[.int .i64 n.k, .int .i64 n.a, .int .i64 n.b, .int .i64 n.c, .int .i64 n.n, .int .i64 n.m, .int .i64 n.s.i, .int .i64 n.s.w, .string n.t] 42)) wz.heap.size 42 #[.int .i64 n.k, .int .i64 n.a, .int .i64 n.b, .int .i64 n.c, .int .i64 n.n, .int .i64 n.m, .int .i64 n.s.i, .int .i64 n.s.w, .string n.t]) := Blk.new_at _ _ _ (by simp)
  have BM : Hid (Blk ((wz.setCell ⟨w.heap.size + 1, r, none⟩ (.bool (decide (zI6 n.k)))).alloc (.cells #[.int .i64 n.k, .int .i64 n.a, .int .i64 n.b, .int .i64 n.c, .int .i64 n.n, .int .i64 n.m, .int .i64 n.s.i, .int .i64 n.s.w, .string n.t] 42)) w.heap.size 31 #[.slice (some ⟨g, 0, none⟩) l.length ci, x1, x2, x3, x4]) := (HXr.out.far (p := ⟨w.heap.size + 1, r, none⟩) (by show w.heap.size ≠ w.heap.size + 1; omega) _).alloc _
  have BO : Hid (Blk ((wz.setCell ⟨w.heap.size + 1, r, none⟩ (.bool (decide (zI6 n.k)))).alloc (.cells #[.int .i64 n.k, .int .i64 n.a, .int .i64 n.b, .int .i64 n.c, .int .i64 n.n, .int .i64 n.m, .int .i64 n.s.i, .int .i64 n.s.w, .string n.t] 42)) (w.heap.size + 1) 4 (zL2 (fun j => .bool (if j = r then decide (zI6 n.k ∨ (0 < 0 ∧ Made l n.a.toNat) ∨ (1 < 0 ∧ Made l n.b.toNat) ∨ (2 < 0 ∧ Made l n.c.toNat)) else decide (j < r ∧ Made l j))) l.length)) := Kh (by
   have := HOr.out.set_ r (.bool (decide (zI6 n.k))); rw [zL5] at this
   have e : (fun c => if c = r then (.bool (decide (zI6 n.k)) : Value) else .bool (decide (c < r ∧ Made l c))) = (fun j => .bool (if j = r then decide (zI6 n.k ∨ (0 < 0 ∧ Made l n.a.toNat) ∨ (1 < 0 ∧ Made l n.b.toNat) ∨ (2 < 0 ∧ Made l n.c.toNat)) else decide (j < r ∧ Made l j))) := by
    funext c; split <;> simp
   rw [e] at this
   exact this.alloc _)
  have BZ : Hid (Below w.heap.size w ((wz.setCell ⟨w.heap.size + 1, r, none⟩ (.bool (decide (zI6 n.k)))).alloc (.cells #[.int .i64 n.k, .int .i64 n.a, .int .i64 n.b, .int .i64 n.c, .int .i64 n.n, .int .i64 n.m, .int .i64 n.s.i, .int .i64 n.s.w, .string n.t] 42))) := (HBr.out.setCell (p := ⟨w.heap.size + 1, r, none⟩) (by show w.heap.size ≤ w.heap.size + 1; omega) _).alloc (by simp; exact HBr.out.size) _
  have b0 : wz.cell? ⟨w.heap.size + 1, r, none⟩ = some (.bool (decide (r < r ∧ Made l r))) := by rw [HOr.out.cell, zL4 _ _ _ hlt]
  have b1 := HOr.out.frozen r; have b2 : (wz.alloc (.cells #[.int .i64 n.k, .int .i64 n.a, .int .i64 n.b, .int .i64 n.c, .int .i64 n.n, .int .i64 n.m, .int .i64 n.s.i, .int .i64 n.s.w, .string n.t] 42)).cell? ⟨w.heap.size + 1, r, none⟩ = some (.bool (decide (r < r ∧ Made l r))) := by rw [(HOr.out.alloc _).cell, zL4 _ _ _ hlt]
  have b3 := (HOr.out.alloc (.cells #[.int .i64 n.k, .int .i64 n.a, .int .i64 n.b, .int .i64 n.c, .int .i64 n.n, .int .i64 n.m, .int .i64 n.s.i, .int .i64 n.s.w, .string n.t] 42)).frozen r; have hsz : wz.heap.size < ((wz.setCell ⟨w.heap.size + 1, r, none⟩ (.bool (decide (zI6 n.k)))).alloc (.cells #[.int .i64 n.k, .int .i64 n.a, .int .i64 n.b, .int .i64 n.c, .int .i64 n.n, .int .i64 n.m, .int .i64 n.s.i, .int .i64 n.s.w, .string n.t] 42)).heap.size := BN.out.lt; have hwz : w.heap.size + 1 < wz.heap.size := HOr.out.lt
  go_wp2_with (go_at_call 140; refine (zI8 _ _).mono ?_; rintro e wI ⟨rfl, rfl⟩)
  generalize ((wz.setCell ⟨w.heap.size + 1, r, none⟩ (.bool (decide (zI6 n.k)))).alloc (.cells #[.int .i64 n.k, .int .i64 n.a, .int .i64 n.b, .int .i64 n.c, .int .i64 n.n, .int .i64 n.m, .int .i64 n.s.i, .int .i64 n.s.w, .string n.t] 42)) = X at BN BM BO BZ hsz ⊢; obtain ⟨c0, c1, c2, c3, c4, c5, c6, c7, c8⟩ := BN.out.nine; clear b0 b1 b2 b3
  go_cut [36, 37, 38] (fun s36 s37 s38 wc => ∃ gs : Nat, s36 = .slice (some ⟨gs, 0, none⟩) M 3 ∧ s37 = .int .i64 (M : Int) ∧ s38 = .int .i64 0 ∧ Hid (Below w.heap.size w wc) ∧ Hid (Blk wc (w.heap.size + 1) 4 (zL2 (fun j => .bool (if j = r then decide (zI6 n.k ∨ (0 < 0 ∧ Made l n.a.toNat) ∨ (1 < 0 ∧ Made l n.b.toNat) ∨ (2 < 0 ∧ Made l n.c.toNat)) else decide (j < r ∧ Made l j))) l.length)) ∧ Hid (Blk wc gs 3 #[.int .i64 n.a, .int .i64 n.b, .int .i64 n.c]) ∧ Hid (Blk wc w.heap.size 31 #[.slice (some ⟨g, 0, none⟩) l.length ci, x1, x2, x3, x4]) ∧ Hid (w.heap.size + 1 < gs))
  case first =>
   (go_region_held3 (fun W => W.cell? ⟨wz.heap.size, 0, none⟩ = some (.int .i64 n.k) ∧ W.cell? ⟨wz.heap.size, 1, none⟩ = some (.int .i64 n.a) ∧ W.cell? ⟨wz.heap.size, 2, none⟩ = some (.int .i64 n.b) ∧ W.cell? ⟨wz.heap.size, 3, none⟩ = some (.int .i64 n.c))
    (first | (have g := BN.out.nine; exact ⟨g.1, g.2.1, g.2.2.1, g.2.2.2.1⟩) | (have g := BN.out.drew.nine; exact ⟨g.1, g.2.1, g.2.2.1, g.2.2.2.1⟩) | (have g := (BN.out.drew.alloc (.cells #[.int .i64 n.a, .int .i64 n.b, .int .i64 n.c] 3)).nine; exact ⟨g.1, g.2.1, g.2.2.1, g.2.2.2.1⟩)) (first
    | (go_at_call 98; refine (zK5 n.k M HM.out _).mono ?_; rintro e wI ⟨rfl, rfl⟩)))
   all_goals
    go_wp2_with fail
    go_meet
    case rel => exact ⟨X.heap.size, rfl, rfl, rfl, BZ.out.drew.alloc BZ.out.size _, BO.out.drew.alloc _, Blk.new _ _ _, BM.out.drew.alloc _, Kh (by omega)⟩
  case rest =>
   obtain ⟨gs, rfl, rfl, rfl, HBc, BOc, BPc, BMc, HGS⟩ := hcut
   go_wp2_with fail
   go_loopw [38] (fun i wr => ∃ s : Nat, s ≤ M ∧ Hid (Below w.heap.size w wr) ∧ Hid (Blk wr (w.heap.size + 1) 4 (zL2 (fun j => .bool (if j = r then decide (zI6 n.k ∨ (0 < s ∧ Made l n.a.toNat) ∨ (1 < s ∧ Made l n.b.toNat) ∨ (2 < s ∧ Made l n.c.toNat)) else decide (j < r ∧ Made l j))) l.length)) ∧ Hid (Blk wr gs 3 #[.int .i64 n.a, .int .i64 n.b, .int .i64 n.c]) ∧ Hid (Blk wr w.heap.size 31 #[.slice (some ⟨g, 0, none⟩) l.length ci, x1, x2, x3, x4]) ∧ i = .int .i64 (s : Int)) (fun i _ => M - (intOf i).toNat)
   case atStart => exact ⟨0, Nat.zero_le _, HBc, BOc, BPc, BMc, rfl⟩
   case round =>
    obtain ⟨wy, rfl⟩ : ∃ x : World, x = wr := ⟨_, rfl⟩
    obtain ⟨s, hs, HBs, BOs, BPs, BMs, rfl⟩ := hrel
    by_cases hsM : s < M
    case neg =>
     obtain rfl : s = M := by omega
     have HB2 : Hid (Blk wy (w.heap.size + 1) 4 (zL2 (fun j => .bool (decide (j < r + 1 ∧ Made l j))) l.length)) := Kh (by
      have : zL2 (fun j => .bool (decide (j < r + 1 ∧ Made l j))) l.length = (zL2 (fun j => .bool (if j = r then decide (zI6 n.k ∨ (0 < s ∧ Made l n.a.toNat) ∨ (1 < s ∧ Made l n.b.toNat) ∨ (2 < s ∧ Made l n.c.toNat)) else decide (j < r ∧ Made l j))) l.length) := zL3 fun i hi => by
       by_cases e : i = r
       · subst e; rw [if_pos rfl, decide_eq_decide.2]
         have h := hmi.out; rw [HM.out] at h; simp only [Int.natCast_pos] at h; rw [and_iff_right (by omega), h]
         have c1 : ((1 : Int) < (s : Int)) ↔ 1 < s := by omega
         have c2 : ((2 : Int) < (s : Int)) ↔ 2 < s := by omega
         rw [c1, c2]
       · rw [if_neg e, decide_eq_decide.2 (by rw [show i < r + 1 ↔ i < r from by omega])]
      rw [this]; exact BOs.out)
     go_wp2_with fail
     go_roundw
     case rel => exact ⟨r + 1, by omega, HBs, BMs, HB2, by go_num⟩
     case measure => simp [intOf]; omega
    rcases (show s = 0 ∨ s = 1 ∨ s = 2 by omega) with rfl | rfl | rfl
    · have hlt2 : (0 : Int) < (M : Int) := by omega
      obtain ⟨t0, t1, t2⟩ := BPs.out.three; have hp := HPar.out.1 (by rw [HM.out]; exact hlt2)
      obtain ⟨q, hq⟩ : ∃ q : Nat, n.a = (q : Int) := ⟨n.a.toNat, by omega⟩
      have hqr : q < r := by omega
      have hq0 : (0 : Int) ≤ (q : Int) := by omega
      have hq1 : (q : Int) < (l.length : Int) := by omega
      have HQ := Kh hq; have b0 : wy.cell? ⟨w.heap.size + 1, r, none⟩ = some (.bool (decide (zI6 n.k ∨ (0 < 0 ∧ Made l n.a.toNat) ∨ (1 < 0 ∧ Made l n.b.toNat) ∨ (2 < 0 ∧ Made l n.c.toNat)))) := by rw [BOs.out.cell, zL4 _ _ _ hlt, if_pos rfl]
      have b1 : wy.cell? ⟨w.heap.size + 1, q, none⟩ = some (.bool (decide (Made l n.a.toNat))) := by rw [BOs.out.cell, zL4 _ _ _ (by omega), if_neg (by omega), show n.a.toNat = q by omega, decide_eq_decide.2 (by simp [hqr] : (q < r ∧ Made l q) ↔ Made l q)]
      have b2 := BOs.out.frozen r; rw [hq] at t0
      have step : ∀ (z : Bool), (decide (zI6 n.k ∨ (0 < 0 ∧ Made l n.a.toNat) ∨ (1 < 0 ∧ Made l n.b.toNat) ∨ (2 < 0 ∧ Made l n.c.toNat)) || z) = decide (zI6 n.k ∨ (0 < 1 ∧ Made l n.a.toNat) ∨ (1 < 1 ∧ Made l n.b.toNat) ∨ (2 < 1 ∧ Made l n.c.toNat)) → Hid (Blk (wy.setCell ⟨w.heap.size + 1, r, none⟩ (.bool (decide (zI6 n.k ∨ (0 < 0 ∧ Made l n.a.toNat) ∨ (1 < 0 ∧ Made l n.b.toNat) ∨ (2 < 0 ∧ Made l n.c.toNat)) || z))) (w.heap.size + 1) 4 (zL2 (fun j => .bool (if j = r then decide (zI6 n.k ∨ (0 < 1 ∧ Made l n.a.toNat) ∨ (1 < 1 ∧ Made l n.b.toNat) ∨ (2 < 1 ∧ Made l n.c.toNat)) else decide (j < r ∧ Made l j))) l.length)) := fun z hz => Kh (by
       have := BOs.out.set_ r (.bool (decide (zI6 n.k ∨ (0 < 0 ∧ Made l n.a.toNat) ∨ (1 < 0 ∧ Made l n.b.toNat) ∨ (2 < 0 ∧ Made l n.c.toNat)) || z))
       rw [zL5] at this; rw [hz] at this ⊢
       have e : (fun c => if c = r then (.bool (decide (zI6 n.k ∨ (0 < 1 ∧ Made l n.a.toNat) ∨ (1 < 1 ∧ Made l n.b.toNat) ∨ (2 < 1 ∧ Made l n.c.toNat))) : Value) else .bool (if c = r then decide (zI6 n.k ∨ (0 < 0 ∧ Made l n.a.toNat) ∨ (1 < 0 ∧ Made l n.b.toNat) ∨ (2 < 0 ∧ Made l n.c.toNat)) else decide (c < r ∧ Made l c))) = (fun j => .bool (if j = r then decide (zI6 n.k ∨ (0 < 1 ∧ Made l n.a.toNat) ∨ (1 < 1 ∧ Made l n.b.toNat) ∨ (2 < 1 ∧ Made l n.c.toNat)) else decide (j < r ∧ Made l j))) := by
        funext c; split <;> simp_all
       rw [e] at this
       exact this)
      have or1 : (decide (zI6 n.k ∨ (0 < 0 ∧ Made l n.a.toNat) ∨ (1 < 0 ∧ Made l n.b.toNat) ∨ (2 < 0 ∧ Made l n.c.toNat)) || decide (Made l n.a.toNat)) = decide (zI6 n.k ∨ (0 < 1 ∧ Made l n.a.toNat) ∨ (1 < 1 ∧ Made l n.b.toNat) ∨ (2 < 1 ∧ Made l n.c.toNat)) := by
       rw [Bool.eq_iff_iff]; simp only [Bool.or_eq_true, decide_eq_true_eq]; constructor
       · rintro ((h | ⟨h0, h⟩ | ⟨h0, h⟩ | ⟨h0, h⟩) | h) <;> first | (exfalso; omega) | simp [h]
       · rintro (h | ⟨h0, h⟩ | ⟨h0, h⟩ | ⟨h0, h⟩) <;> first | (exfalso; omega) | simp [h]
      have hS := step _ or1; have HS2 : Hid (∀ z, Below w.heap.size w (wy.setCell ⟨w.heap.size + 1, r, none⟩ z)) := Kh (fun z => HBs.out.setCell (p := ⟨w.heap.size + 1, r, none⟩) (by show w.heap.size ≤ w.heap.size + 1; omega) z)
      have HS3 : Hid (∀ z, Blk (wy.setCell ⟨w.heap.size + 1, r, none⟩ z) gs 3 #[.int .i64 n.a, .int .i64 n.b, .int .i64 n.c]) := Kh (fun z => BPs.out.far (p := ⟨w.heap.size + 1, r, none⟩) (by show gs ≠ w.heap.size + 1; have := HGS.out; omega) z)
      have HS4 : Hid (∀ z, Blk (wy.setCell ⟨w.heap.size + 1, r, none⟩ z) w.heap.size 31 #[.slice (some ⟨g, 0, none⟩) l.length ci, x1, x2, x3, x4]) := Kh (fun z => BMs.out.far (p := ⟨w.heap.size + 1, r, none⟩) (by show w.heap.size ≠ w.heap.size + 1; omega) z)
      clear step or1; generalize decide (zI6 n.k ∨ (0 < 0 ∧ Made l n.a.toNat) ∨ (1 < 0 ∧ Made l n.b.toNat) ∨ (2 < 0 ∧ Made l n.c.toNat)) = X at *; generalize decide (Made l n.a.toNat) = Y at *; clear hq
      cases X
      · go_wp2_with fail
        go_roundw
        case rel => exact ⟨1, by omega, HS2.out _, Kh (by have := hS.out; simp only [Bool.false_or, Bool.true_or] at this; exact this), HS3.out _, HS4.out _, by rfl⟩
        case measure => simp [intOf]; omega
      · go_wp2_with fail
        go_roundw
        case rel => exact ⟨1, by omega, HS2.out _, Kh (by have := hS.out; simp only [Bool.false_or, Bool.true_or] at this; exact this), HS3.out _, HS4.out _, by rfl⟩
        case measure => simp [intOf]; omega
    · have hlt2 : (1 : Int) < (M : Int) := by omega
      obtain ⟨t0, t1, t2⟩ := BPs.out.three; have hp := HPar.out.2.1 (by rw [HM.out]; exact hlt2)
      obtain ⟨q, hq⟩ : ∃ q : Nat, n.b = (q : Int) := ⟨n.b.toNat, by omega⟩
      have hqr : q < r := by omega
      have hq0 : (0 : Int) ≤ (q : Int) := by omega
      have hq1 : (q : Int) < (l.length : Int) := by omega
      have HQ := Kh hq; have b0 : wy.cell? ⟨w.heap.size + 1, r, none⟩ = some (.bool (decide (zI6 n.k ∨ (0 < 1 ∧ Made l n.a.toNat) ∨ (1 < 1 ∧ Made l n.b.toNat) ∨ (2 < 1 ∧ Made l n.c.toNat)))) := by rw [BOs.out.cell, zL4 _ _ _ hlt, if_pos rfl]
      have b1 : wy.cell? ⟨w.heap.size + 1, q, none⟩ = some (.bool (decide (Made l n.b.toNat))) := by rw [BOs.out.cell, zL4 _ _ _ (by omega), if_neg (by omega), show n.b.toNat = q by omega, decide_eq_decide.2 (by simp [hqr] : (q < r ∧ Made l q) ↔ Made l q)]
      have b2 := BOs.out.frozen r; rw [hq] at t1
      have step : ∀ (z : Bool), (decide (zI6 n.k ∨ (0 < 1 ∧ Made l n.a.toNat) ∨ (1 < 1 ∧ Made l n.b.toNat) ∨ (2 < 1 ∧ Made l n.c.toNat)) || z) = decide (zI6 n.k ∨ (0 < 2 ∧ Made l n.a.toNat) ∨ (1 < 2 ∧ Made l n.b.toNat) ∨ (2 < 2 ∧ Made l n.c.toNat)) → Hid (Blk (wy.setCell ⟨w.heap.size + 1, r, none⟩ (.bool (decide (zI6 n.k ∨ (0 < 1 ∧ Made l n.a.toNat) ∨ (1 < 1 ∧ Made l n.b.toNat) ∨ (2 < 1 ∧ Made l n.c.toNat)) || z))) (w.heap.size + 1) 4 (zL2 (fun j => .bool (if j = r then decide (zI6 n.k ∨ (0 < 2 ∧ Made l n.a.toNat) ∨ (1 < 2 ∧ Made l n.b.toNat) ∨ (2 < 2 ∧ Made l n.c.toNat)) else decide (j < r ∧ Made l j))) l.length)) := fun z hz => Kh (by
       have := BOs.out.set_ r (.bool (decide (zI6 n.k ∨ (0 < 1 ∧ Made l n.a.toNat) ∨ (1 < 1 ∧ Made l n.b.toNat) ∨ (2 < 1 ∧ Made l n.c.toNat)) || z))
       rw [zL5] at this; rw [hz] at this ⊢
       have e : (fun c => if c = r then (.bool (decide (zI6 n.k ∨ (0 < 2 ∧ Made l n.a.toNat) ∨ (1 < 2 ∧ Made l n.b.toNat) ∨ (2 < 2 ∧ Made l n.c.toNat))) : Value) else .bool (if c = r then decide (zI6 n.k ∨ (0 < 1 ∧ Made l n.a.toNat) ∨ (1 < 1 ∧ Made l n.b.toNat) ∨ (2 < 1 ∧ Made l n.c.toNat)) else decide (c < r ∧ Made l c))) = (fun j => .bool (if j = r then decide (zI6 n.k ∨ (0 < 2 ∧ Made l n.a.toNat) ∨ (1 < 2 ∧ Made l n.b.toNat) ∨ (2 < 2 ∧ Made l n.c.toNat)) else decide (j < r ∧ Made l j))) := by
        funext c; split <;> simp_all
       rw [e] at this
       exact this)
      have or1 : (decide (zI6 n.k ∨ (0 < 1 ∧ Made l n.a.toNat) ∨ (1 < 1 ∧ Made l n.b.toNat) ∨ (2 < 1 ∧ Made l n.c.toNat)) || decide (Made l n.b.toNat)) = decide (zI6 n.k ∨ (0 < 2 ∧ Made l n.a.toNat) ∨ (1 < 2 ∧ Made l n.b.toNat) ∨ (2 < 2 ∧ Made l n.c.toNat)) := by
       rw [Bool.eq_iff_iff]; simp only [Bool.or_eq_true, decide_eq_true_eq]; constructor
       · rintro ((h | ⟨h0, h⟩ | ⟨h0, h⟩ | ⟨h0, h⟩) | h) <;> first | (exfalso; omega) | simp [h]
       · rintro (h | ⟨h0, h⟩ | ⟨h0, h⟩ | ⟨h0, h⟩) <;> first | (exfalso; omega) | simp [h]
      have hS := step _ or1; have HS2 : Hid (∀ z, Below w.heap.size w (wy.setCell ⟨w.heap.size + 1, r, none⟩ z)) := Kh (fun z => HBs.out.setCell (p := ⟨w.heap.size + 1, r, none⟩) (by show w.heap.size ≤ w.heap.size + 1; omega) z)
      have HS3 : Hid (∀ z, Blk (wy.setCell ⟨w.heap.size + 1, r, none⟩ z) gs 3 #[.int .i64 n.a, .int .i64 n.b, .int .i64 n.c]) := Kh (fun z => BPs.out.far (p := ⟨w.heap.size + 1, r, none⟩) (by show gs ≠ w.heap.size + 1; have := HGS.out; omega) z)
      have HS4 : Hid (∀ z, Blk (wy.setCell ⟨w.heap.size + 1, r, none⟩ z) w.heap.size 31 #[.slice (some ⟨g, 0, none⟩) l.length ci, x1, x2, x3, x4]) := Kh (fun z => BMs.out.far (p := ⟨w.heap.size + 1, r, none⟩) (by show w.heap.size ≠ w.heap.size + 1; omega) z)
      clear step or1; generalize decide (zI6 n.k ∨ (0 < 1 ∧ Made l n.a.toNat) ∨ (1 < 1 ∧ Made l n.b.toNat) ∨ (2 < 1 ∧ Made l n.c.toNat)) = X at *; generalize decide (Made l n.b.toNat) = Y at *; clear hq
      cases X
      · go_wp2_with fail
        go_roundw
        case rel => exact ⟨2, by omega, HS2.out _, Kh (by have := hS.out; simp only [Bool.false_or, Bool.true_or] at this; exact this), HS3.out _, HS4.out _, by rfl⟩
        case measure => simp [intOf]; omega
      · go_wp2_with fail
        go_roundw
        case rel => exact ⟨2, by omega, HS2.out _, Kh (by have := hS.out; simp only [Bool.false_or, Bool.true_or] at this; exact this), HS3.out _, HS4.out _, by rfl⟩
        case measure => simp [intOf]; omega
    · have hlt2 : (2 : Int) < (M : Int) := by omega
      obtain ⟨t0, t1, t2⟩ := BPs.out.three; have hp := HPar.out.2.2 (by rw [HM.out]; exact hlt2)
      obtain ⟨q, hq⟩ : ∃ q : Nat, n.c = (q : Int) := ⟨n.c.toNat, by omega⟩
      have hqr : q < r := by omega
      have hq0 : (0 : Int) ≤ (q : Int) := by omega
      have hq1 : (q : Int) < (l.length : Int) := by omega
      have HQ := Kh hq; have b0 : wy.cell? ⟨w.heap.size + 1, r, none⟩ = some (.bool (decide (zI6 n.k ∨ (0 < 2 ∧ Made l n.a.toNat) ∨ (1 < 2 ∧ Made l n.b.toNat) ∨ (2 < 2 ∧ Made l n.c.toNat)))) := by rw [BOs.out.cell, zL4 _ _ _ hlt, if_pos rfl]
      have b1 : wy.cell? ⟨w.heap.size + 1, q, none⟩ = some (.bool (decide (Made l n.c.toNat))) := by rw [BOs.out.cell, zL4 _ _ _ (by omega), if_neg (by omega), show n.c.toNat = q by omega, decide_eq_decide.2 (by simp [hqr] : (q < r ∧ Made l q) ↔ Made l q)]
      have b2 := BOs.out.frozen r; rw [hq] at t2
      have step : ∀ (z : Bool), (decide (zI6 n.k ∨ (0 < 2 ∧ Made l n.a.toNat) ∨ (1 < 2 ∧ Made l n.b.toNat) ∨ (2 < 2 ∧ Made l n.c.toNat)) || z) = decide (zI6 n.k ∨ (0 < 3 ∧ Made l n.a.toNat) ∨ (1 < 3 ∧ Made l n.b.toNat) ∨ (2 < 3 ∧ Made l n.c.toNat)) → Hid (Blk (wy.setCell ⟨w.heap.size + 1, r, none⟩ (.bool (decide (zI6 n.k ∨ (0 < 2 ∧ Made l n.a.toNat) ∨ (1 < 2 ∧ Made l n.b.toNat) ∨ (2 < 2 ∧ Made l n.c.toNat)) || z))) (w.heap.size + 1) 4 (zL2 (fun j => .bool (if j = r then decide (zI6 n.k ∨ (0 < 3 ∧ Made l n.a.toNat) ∨ (1 < 3 ∧ Made l n.b.toNat) ∨ (2 < 3 ∧ Made l n.c.toNat)) else decide (j < r ∧ Made l j))) l.length)) := fun z hz => Kh (by
       have := BOs.out.set_ r (.bool (decide (zI6 n.k ∨ (0 < 2 ∧ Made l n.a.toNat) ∨ (1 < 2 ∧ Made l n.b.toNat) ∨ (2 < 2 ∧ Made l n.c.toNat)) || z))
       rw [zL5] at this; rw [hz] at this ⊢
       have e : (fun c => if c = r then (.bool (decide (zI6 n.k ∨ (0 < 3 ∧ Made l n.a.toNat) ∨ (1 < 3 ∧ Made l n.b.toNat) ∨ (2 < 3 ∧ Made l n.c.toNat))) : Value) else .bool (if c = r then decide (zI6 n.k ∨ (0 < 2 ∧ Made l n.a.toNat) ∨ (1 < 2 ∧ Made l n.b.toNat) ∨ (2 < 2 ∧ Made l n.c.toNat)) else decide (c < r ∧ Made l c))) = (fun j => .bool (if j = r then decide (zI6 n.k ∨ (0 < 3 ∧ Made l n.a.toNat) ∨ (1 < 3 ∧ Made l n.b.toNat) ∨ (2 < 3 ∧ Made l n.c.toNat)) else decide (j < r ∧ Made l j))) := by
        funext c; split <;> simp_all
       rw [e] at this
       exact this)
      have or1 : (decide (zI6 n.k ∨ (0 < 2 ∧ Made l n.a.toNat) ∨ (1 < 2 ∧ Made l n.b.toNat) ∨ (2 < 2 ∧ Made l n.c.toNat)) || decide (Made l n.c.toNat)) = decide (zI6 n.k ∨ (0 < 3 ∧ Made l n.a.toNat) ∨ (1 < 3 ∧ Made l n.b.toNat) ∨ (2 < 3 ∧ Made l n.c.toNat)) := by
       rw [Bool.eq_iff_iff]; simp only [Bool.or_eq_true, decide_eq_true_eq]; constructor
       · rintro ((h | ⟨h0, h⟩ | ⟨h0, h⟩ | ⟨h0, h⟩) | h) <;> first | (exfalso; omega) | simp [h]
       · rintro (h | ⟨h0, h⟩ | ⟨h0, h⟩ | ⟨h0, h⟩) <;> first | (exfalso; omega) | simp [h]
      have hS := step _ or1; have HS2 : Hid (∀ z, Below w.heap.size w (wy.setCell ⟨w.heap.size + 1, r, none⟩ z)) := Kh (fun z => HBs.out.setCell (p := ⟨w.heap.size + 1, r, none⟩) (by show w.heap.size ≤ w.heap.size + 1; omega) z)
      have HS3 : Hid (∀ z, Blk (wy.setCell ⟨w.heap.size + 1, r, none⟩ z) gs 3 #[.int .i64 n.a, .int .i64 n.b, .int .i64 n.c]) := Kh (fun z => BPs.out.far (p := ⟨w.heap.size + 1, r, none⟩) (by show gs ≠ w.heap.size + 1; have := HGS.out; omega) z)
      have HS4 : Hid (∀ z, Blk (wy.setCell ⟨w.heap.size + 1, r, none⟩ z) w.heap.size 31 #[.slice (some ⟨g, 0, none⟩) l.length ci, x1, x2, x3, x4]) := Kh (fun z => BMs.out.far (p := ⟨w.heap.size + 1, r, none⟩) (by show w.heap.size ≠ w.heap.size + 1; omega) z)
      clear step or1; generalize decide (zI6 n.k ∨ (0 < 2 ∧ Made l n.a.toNat) ∨ (1 < 2 ∧ Made l n.b.toNat) ∨ (2 < 2 ∧ Made l n.c.toNat)) = X at *; generalize decide (Made l n.c.toNat) = Y at *; clear hq
      cases X
      · go_wp2_with fail
        go_roundw
        case rel => exact ⟨3, by omega, HS2.out _, Kh (by have := hS.out; simp only [Bool.false_or, Bool.true_or] at this; exact this), HS3.out _, HS4.out _, by rfl⟩
        case measure => simp [intOf]; omega
      · go_wp2_with fail
        go_roundw
        case rel => exact ⟨3, by omega, HS2.out _, Kh (by have := hS.out; simp only [Bool.false_or, Bool.true_or] at this; exact this), HS3.out _, HS4.out _, by rfl⟩
        case measure => simp [intOf]; omega
theorem Blk.five {w : World} {g : Nat} {t : TypeId} {a b c d e : Value} (h : Blk w g t #[a, b, c, d, e]) : w.cell? ⟨g, 0, none⟩ = some a ∧ w.cell? ⟨g, 1, none⟩ = some b ∧ w.cell? ⟨g, 2, none⟩ = some c ∧ w.cell? ⟨g, 3, none⟩ = some d ∧ w.cell? ⟨g, 4, none⟩ = some e :=
 ⟨by rw [h.cell]; rfl, by rw [h.cell]; rfl, by rw [h.cell]; rfl, by rw [h.cell]; rfl, by rw [h.cell]; rfl⟩
theorem zBo (s : So) : 0 ≤ zBn s ∧ zBn s ≤ 64 := by
 have hc := zCj s; unfold zBn; have h1 : 0 ≤ max 0 (min 16 s.w) ∧ max 0 (min 16 s.w) ≤ 16 := by omega
 generalize max 0 (min 16 s.w) = y at *
 rcases (show cellsOf s = 0 ∨ cellsOf s = 1 ∨ cellsOf s = 2 ∨ cellsOf s = 3 ∨ cellsOf s = 4 by omega) with e | e | e | e | e <;> rw [e] <;> omega
theorem zBm {l : List No} (k : Int) {r : Nat} (h : r < l.length) : zBk (l.take (r + 1)) k = zBk (l.take r) k + (if l[r].k = k then zBn l[r].s else 0) := by
 unfold zBk; rw [List.take_succ_eq_append_getElem h, List.map_append, List.sum_append]; simp
theorem zBl (l : List No) (k : Int) : ∀ r, r ≤ l.length → 0 ≤ zBk (l.take r) k ∧ zBk (l.take r) k ≤ 64 * (r : Int) := by
 intro r
 induction r with
 | zero => intro _; simp [zBk]
 | succ r ih =>
  intro h; have := ih (by omega)
  rw [zBm k (by omega)]
  have := zBo (l[r]'(by omega)).s
  split <;> omega
theorem zBq (A : Option Addr) (ci : Nat) (l : List No) (x1 x2 x3 x4 : Value) (k : Int) (w : World) (hA : zA9 w A l) (hl : l.length ≤ 60) :
 Calls Tryz.prog 94 #[.agg #[.slice A l.length ci, x1, x2, x3, x4], .int .i64 k] w fun e w' => e = .returned (.int .i64 (zBk l k)) ∧ Below w.heap.size w w' := by
 have HA := Kh hA; clear hA; have HB0 := bx w #[.slice A l.length ci, x1, x2, x3, x4] 31
 go_enter Tryz.func94, Tryz.ntmps94
 go_wp2_with fail
 go_loopw [5, 11] (fun s i wr => ∃ r : Nat, r ≤ l.length ∧ s = .int .i64 (zBk (l.take r) k) ∧ Hid (Below w.heap.size w wr) ∧ i = .int .i64 (r : Int)) (fun _ i _ => l.length - (intOf i).toNat)
 case atStart => exact ⟨0, Nat.zero_le _, by simp [zBk], HB0, rfl⟩
 case round =>
  obtain ⟨wz, rfl⟩ : ∃ x : World, x = wr := ⟨_, rfl⟩
  obtain ⟨r, hr, rfl, HBr, rfl⟩ := hrel
  by_cases hlt : r < l.length
  case neg =>
   obtain rfl : r = l.length := by omega
   rw [List.take_length]
   go_wp2_with fail
   go_ret
   exact ⟨rfl, HBr.out⟩
  have hj0 : (0 : Int) ≤ (r : Int) := by omega
  have hj1 : (r : Int) < (l.length : Int) := by omega
  have e1 := wr1 (r := r) (by omega)
  have hb1 := zBl l k r hr; have ht := zBm k hlt; have hbn := zBo l[r].s; obtain ⟨g, rfl, hg, hc⟩ := (HA.out.below HBr.out) (by omega)
  obtain ⟨y0, y1, y2, y3, y4, y5, y6, y7, y8⟩ := hc r hlt; clear hc; generalize l[r] = n at *; generalize zBk (l.take r) k = X at *; have HT := Kh ht; clear ht; have HB1 := Kh (HBr.out.alloc HBr.out.size (.cells #[.int .i64 n.k, .int .i64 n.a, .int .i64 n.b, .int .i64 n.c, .int .i64 n.n, .int .i64 n.m, .int .i64 n.s.i, .int .i64 n.s.w, .string n.t] 42))
  by_cases hk : n.k = k
  · have z : (n.k == k) = true := by simpa using hk
    have HT2 : Hid (X + zBn n.s = zBk (l.take (r + 1)) k) := Kh (by rw [HT.out, if_pos hk])
    have e2 : IntKind.i64.wrap (X + zBn n.s) = X + zBn n.s := zRa (by omega) (by omega)
    subst hk
    go_wp2_with (go_at_call 144; refine (zNm n.s _).mono ?_; rintro e w2 ⟨rfl, hb2⟩; have HB2 := Kh (HB1.out.trans (hb2.mono HB1.out.size)); clear hb2)
    go_roundw
    case rel => exact ⟨r + 1, by omega, by rw [HT2.out], HB2, by go_num⟩
    case measure => simp [intOf]; omega
  · have z : (n.k == k) = false := by simpa using hk
    have HT2 : Hid (X = zBk (l.take (r + 1)) k) := Kh (by rw [HT.out, if_neg hk, Int.add_zero])
    clear hk
    go_wp2_with fail
    go_roundw
    case rel => exact ⟨r + 1, by omega, by rw [HT2.out], HB1, by go_num⟩
    case measure => simp [intOf]; omega
theorem zFl (A : Option Addr) (ci : Nat) (l : List No) (x1 x2 x3 x4 : Value) (p : Int) (b : Bool) (w : World) (hl : l.length ≤ 1048576) (h : decide (0 ≤ p ∧ p ≤ (l.length : Int) - 1) = b) :
 Calls Tryz.prog 92 #[.agg #[.slice A l.length ci, x1, x2, x3, x4], .int .i64 p] w fun e w' => e = .returned (.bool b) ∧ Below w.heap.size w w' := by
 have HB0 := bx w #[.slice A l.length ci, x1, x2, x3, x4] 31; have e0 : IntKind.i64.wrap ((l.length : Int) - 1) = (l.length : Int) - 1 := zRa (by omega) (by omega)
 have H := Kh h; clear h
 go_enter Tryz.func92, Tryz.ntmps92
 go_wp2_with (go_at_call 143; refine (zEx _ _ _ b H.out _).mono ?_; rintro e wI ⟨rfl, rfl⟩)
 go_ret
 exact ⟨rfl, HB0.out⟩
theorem zEy (A : Option Addr) (cap : Nat) (l : List Bi) (fn : Nat) (first capA : Array Value) (q : Bi → Bool) (w : World) (hA : zA1 w A l) (hn : l.length ≤ 1048576) (he : Enters Tryz.prog fn)
 (hcall : ∀ W x, Below w.heap.size w W → x ∈ l → Calls Tryz.prog fn (first.push (.agg #[.int .i64 x.st, .int .i64 x.nd]) ++ capA) W fun e W' => e = .returned (.bool (q x)) ∧ Below W.heap.size W W') :
    Calls Tryz.prog 117 #[.slice A l.length cap, .func (.func fn) first capA] w fun e w' => ∃ r : Int, e = .returned (.int .i64 r) ∧ (0 ≤ r ↔ l.any q = true) ∧ Below w.heap.size w w' := by
 have zAw : ∀ (k : Nat) (h : k < l.length), (l.take (k + 1)).any q = ((l.take k).any q || q l[k]) := fun k h => by
  rw [List.take_add_one, List.getElem?_eq_getElem h, List.any_append]
  show (_ || (q _ || false)) = _
  rw [Bool.or_false]
 have HA := Kh hA; have HC := Kh hcall; have HAT := Kh zAw; clear hA hcall zAw; have he' : ∀ (args : Array Value) (w : World), (callFunc fn args).run Tryz.prog w = .ok (.enter fn args) w := he
 clear he
 go_enter Tryz.func117, Tryz.ntmps117
 go_wp2_with fail
 go_loopw [8] (fun j wr => ∃ k : Nat, k ≤ l.length ∧ Hid ((l.take k).any q = false) ∧ Hid (Below w.heap.size w wr) ∧ j = .int .i64 k) (fun j _ => l.length - (intOf j).toNat)
 case atStart => exact ⟨0, Nat.zero_le _, by simp [Hid], Below.refl _ _, rfl⟩
 case round =>
  obtain ⟨k, hk, hno, hbw, rfl⟩ := hrel
  by_cases hlt : k < l.length
  case neg =>
   obtain rfl : k = l.length := by omega
   rw [List.take_length] at hno
   go_wp2_with fail
   go_ret
   exact ⟨-1, rfl, ⟨fun h => absurd h (by omega), fun h => by rw [hno.out] at h; cases h⟩, hbw.out⟩
  obtain ⟨g, rfl, hg, hc⟩ := (HA.out.below hbw.out) (by omega)
  obtain ⟨c0, c1⟩ := hc k hlt; have HM := Kh (List.getElem_mem hlt); have Htk : Hid ((l.take (k + 1)).any q = ((l.take k).any q || q l[k])) := HAT.out k hlt
  have HY : Hid (q l[k] = true → l.any q = true) := fun h => List.any_eq_true.2 ⟨_, List.getElem_mem hlt, h⟩
  clear hc; generalize l[k] = x at *; have e1 := wr1 (r := k) (by omega)
  have hj0 : (0 : Int) ≤ k := by omega
  have hj1 : (k : Int) < (l.length : Int) := by omega
  go_wp2_with fail
  refine (HC.out _ x hbw.out HM.out).mono ?_
  rintro e w1 ⟨rfl, hb1⟩; have HB1 : Hid (Below w.heap.size w w1) := hbw.out.trans (hb1.mono hbw.out.size); clear hb1
  cases hq : q x
  · go_wp2_with fail
    go_roundw
    case rel => exact ⟨k + 1, by omega, Kh (by rw [Htk.out, hno.out, hq]; rfl), HB1, by go_num⟩
    case measure => simp [intOf]; omega
  · have HYY := Kh (HY.out hq)
    go_wp2_with fail
    go_ret
    exact ⟨k, rfl, ⟨fun _ => HYY.out, fun _ => by omega⟩, HB1.out⟩
theorem zD4 (A : Option Addr) (cap : Nat) (l : List Bi) (fn : Nat) (first capA : Array Value) (q : Bi → Bool) (w : World) (hA : zA1 w A l) (hn : l.length ≤ 1048576) (he : Enters Tryz.prog fn)
 (hcall : ∀ W x, Below w.heap.size w W → x ∈ l → Calls Tryz.prog fn (first.push (.agg #[.int .i64 x.st, .int .i64 x.nd]) ++ capA) W fun e W' => e = .returned (.bool (q x)) ∧ Below W.heap.size W W') :
    Calls Tryz.prog 85 #[.slice A l.length cap, .func (.func fn) first capA] w fun e w' => e = .returned (.bool (l.any q)) ∧ Below w.heap.size w w' := by
 have HX := Kh (zEy A cap l fn first capA q w hA hn he hcall); clear hcall hA he
 go_enter Tryz.func85, Tryz.ntmps85
 go_wp2_with (go_at_call 117; refine HX.out.mono ?_; rintro e w1 ⟨r, rfl, hr, hb1⟩; have HR := Kh hr; clear hr)
 go_ret
 refine ⟨?_, hb1⟩
 have := HR.out
 cases hq : l.any q with
 | true => rw [hq] at this; simp [this.2 rfl]
 | false => rw [hq] at this; have : ¬ 0 ≤ r := fun h => absurd (this.1 h) (by decide)
            simp [this]
theorem zM5 {l : List No} {i : Nat} (h : i < l.length) (A : Option Addr) (ci : Nat) (w : World) (hA : zA9 w A l) (hl : l.length ≤ 1048576) (ht : (l[i]).t.size ≤ 1048576) :
 Calls Tryz.prog 109 #[.slice A i ci, .agg #[.int .i64 (l[i]).k, .int .i64 (l[i]).a, .int .i64 (l[i]).b, .int .i64 (l[i]).c, .int .i64 (l[i]).n, .int .i64 (l[i]).m, .int .i64 (l[i]).s.i, .int .i64 (l[i]).s.w, .string (l[i]).t]] w fun e w' => NsP (zIe (l.take i) l[i]) w e w' := by
 have := zM4 A ci (l.take i) (l[i]).k (l[i]).a (l[i]).b (l[i]).c (l[i]).n (l[i]).m (l[i]).s.i (l[i]).s.w (l[i]).t w (hA.take i) (by rw [List.length_take]; omega) ht
 rw [List.length_take, Nat.min_eq_left (by omega)] at this
 exact this
theorem zG7 (A : Option Addr) (ci : Nat) (l : List No) (x1 x2 x3 x4 : Value) (w : World) (hA : zA9 w A l) (hl : l.length ≤ 1048576) (hci : l.length ≤ ci) (ht : ∀ n ∈ l, n.t.size ≤ 1048576) :
 Calls Tryz.prog 55 #[.agg #[.slice A l.length ci, x1, x2, x3, x4]] w fun e w' => zAg (zAb l) e ∧ Below w.heap.size w w' := by
 have HA := Kh hA; have HT := Kh ht; clear hA ht; have HB0 := bx w #[.slice A l.length ci, x1, x2, x3, x4] 31; have HX0 := nx w #[.slice A l.length ci, x1, x2, x3, x4] 31
 go_enter Tryz.func55, Tryz.ntmps55
 go_wp2_with fail
 go_loopw [3] (fun i wr => ∃ r : Nat, r ≤ l.length ∧ Hid (∀ j (h : j < l.length), j < r → zAa (l.take j) l[j]) ∧ Hid (Below w.heap.size w wr) ∧ Hid (Blk wr w.heap.size 31 #[.slice A l.length ci, x1, x2, x3, x4]) ∧ i = .int .i64 (r : Int)) (fun i _ => l.length - (intOf i).toNat)
 case atStart => exact ⟨0, Nat.zero_le _, fun j h hj => absurd hj (by omega), HB0, HX0, rfl⟩
 case round =>
  obtain ⟨wz, rfl⟩ : ∃ x : World, x = wr := ⟨_, rfl⟩
  clear HB0 HX0; obtain ⟨r, hr, HSo, HBr, HXr, rfl⟩ := hrel; have z0 : wz.cell? ⟨w.heap.size, 0, none⟩ = some (.slice A l.length ci) := by rw [HXr.out.cell]; rfl
  by_cases hlt : r < l.length
  case neg =>
   obtain rfl : r = l.length := by omega
   have HOK : Hid (zAb l) := Kh (fun i hi => HSo.out i hi hi)
   go_wp2_with fail
   go_ret
   exact ⟨.yes HOK.out, HBr.out⟩
  have hj0 : (0 : Int) ≤ (r : Int) := by omega
  have hj1 : (r : Int) < (l.length : Int) := by omega
  have hj2 : (r : Int) ≤ (ci : Int) := by omega
  have e1 := wr1 (r := r) (by omega)
  obtain ⟨g, rfl, hg, hc⟩ := (HA.out.below HBr.out) (by omega)
  have hc := hc r hlt; obtain ⟨n, hn⟩ : ∃ n, l[r] = n := ⟨_, rfl⟩
  obtain ⟨S, B, HSB, T⟩ : ∃ (S : So) (B : Bool), Hid (zIe (l.take r) n = if B = true then some S else none) ∧ Hid (∀ W, Below wz.heap.size wz W → Calls Tryz.prog 109 #[.slice (some ⟨g, 0, none⟩) r ci, .agg #[.int .i64 n.k, .int .i64 n.a, .int .i64 n.b, .int .i64 n.c, .int .i64 n.n, .int .i64 n.m, .int .i64 n.s.i, .int .i64 n.s.w, .string n.t]] W fun e w' => e = .returned (.tuple #[.agg #[.int .i64 S.i, .int .i64 S.w], .bool B]) ∧ Below W.heap.size W w') := by
   have T := fun W (hb : Below wz.heap.size wz W) => zM5 hlt (some ⟨g, 0, none⟩) ci W ((HA.out.below HBr.out).below hb) hl (HT.out _ (List.getElem_mem hlt))
   rw [hn] at T
   cases ho : zIe (l.take r) n with
   | some s => exact ⟨s, true, Kh rfl, Kh (fun W hb => (T W hb).mono fun e w' ⟨h1, h2⟩ => by
       rcases h1 with ⟨s', h3, h4⟩ | ⟨h3, _⟩
       · rw [ho] at h3; injection h3 with h3; subst h3; exact ⟨h4, h2⟩
       · rw [ho] at h3; cases h3)⟩
   | none => exact ⟨⟨0, 0⟩, false, Kh rfl, Kh (fun W hb => (T W hb).mono fun e w' ⟨h1, h2⟩ => by
       rcases h1 with ⟨s', h3, _⟩ | ⟨_, h4⟩
       · rw [ho] at h3; cases h3
       · exact ⟨h4, h2⟩)⟩
  have HNE := Kh hn; rw [hn] at hc
  have key : ∀ (W : World), Below wz.heap.size wz W → W.cell? ⟨w.heap.size, 0, none⟩ = some (.slice (some ⟨g, 0, none⟩) l.length ci) ∧ W.cell? ⟨g, r * 9, none⟩ = some (.int .i64 n.k) ∧ W.cell? ⟨g, r * 9 + 1, none⟩ = some (.int .i64 n.a) ∧ W.cell? ⟨g, r * 9 + 2, none⟩ = some (.int .i64 n.b) ∧ W.cell? ⟨g, r * 9 + 3, none⟩ = some (.int .i64 n.c) ∧ W.cell? ⟨g, r * 9 + 4, none⟩ = some (.int .i64 n.n) ∧ W.cell? ⟨g, r * 9 + 5, none⟩ = some (.int .i64 n.m) ∧ W.cell? ⟨g, r * 9 + 6, none⟩ = some (.int .i64 n.s.i) ∧ W.cell? ⟨g, r * 9 + 7, none⟩ = some (.int .i64 n.s.w) ∧ W.cell? ⟨g, r * 9 + 8, none⟩ = some (.string n.t) := fun W h => by
   have f : ∀ j, W.cell? ⟨g, j, none⟩ = wz.cell? ⟨g, j, none⟩ := fun j => h.cell (p := ⟨g, j, none⟩) hg
   rw [f, f, f, f, f, f, f, f, f]
   exact ⟨(h.cell (p := ⟨w.heap.size, 0, none⟩) HXr.out.lt).trans z0, hc⟩
  have KEY := Kh key; clear key hc hn
  go_wp2_with fail
  have HW : Hid (Below wz.heap.size wz wz.drew) := Kh (Below.refl _ _).drew
  go_cut [4, 5] (fun s4 s5 wc => ∃ gb : Nat, s4 = .pointer (some ⟨gb, 0, none⟩) ∧ s5 = .bool B ∧ Hid (Blk wc gb 40 #[.int .i64 S.i, .int .i64 S.w]) ∧ Hid (Below wz.heap.size wz wc))
  case first =>
   (go_region_held3 (fun W => W.cell? ⟨w.heap.size, 0, none⟩ = some (.slice (some ⟨g, 0, none⟩) l.length ci) ∧ W.cell? ⟨g, r * 9, none⟩ = some (.int .i64 n.k) ∧ W.cell? ⟨g, r * 9 + 1, none⟩ = some (.int .i64 n.a) ∧ W.cell? ⟨g, r * 9 + 2, none⟩ = some (.int .i64 n.b) ∧ W.cell? ⟨g, r * 9 + 3, none⟩ = some (.int .i64 n.c) ∧ W.cell? ⟨g, r * 9 + 4, none⟩ = some (.int .i64 n.n) ∧ W.cell? ⟨g, r * 9 + 5, none⟩ = some (.int .i64 n.m) ∧ W.cell? ⟨g, r * 9 + 6, none⟩ = some (.int .i64 n.s.i) ∧ W.cell? ⟨g, r * 9 + 7, none⟩ = some (.int .i64 n.s.w) ∧ W.cell? ⟨g, r * 9 + 8, none⟩ = some (.string n.t)) (first
    | exact KEY.out _ HW.out
    | exact KEY.out _ (HW.out.alloc HW.out.size _)
    | exact KEY.out _ ((HW.out.setCell (p := ⟨wz.heap.size, 0, none⟩) (Nat.le_refl _) _).setCell (p := ⟨wz.heap.size, 1, none⟩) (Nat.le_refl _) _)) (first
    | (go_at_call 109; refine (T.out wz.drew HW.out).mono ?_; rintro e w3 ⟨rfl, hb3⟩; have HW := Kh (HW.out.trans hb3); clear hb3)
    | (go_at_call 109; refine (T.out (wz.drew.alloc (.cells #[.int .i64 0, .int .i64 0] 40)) (HW.out.alloc HW.out.size _)).mono ?_; rintro e w3 ⟨rfl, hb3⟩; have HW := Kh ((HW.out.alloc HW.out.size (.cells #[.int .i64 0, .int .i64 0] 40)).trans (hb3.mono (by simp))); have Z3 : Hid (Blk w3 wz.heap.size 40 #[.int .i64 0, .int .i64 0]) := (Blk.new wz.drew _ _).below hb3 (by simp); obtain ⟨q0, q1⟩ := Z3.out.two; have q2 := Z3.out.frozen 0; have q3 := Z3.out.frozen 1; clear hb3)))
   all_goals
    go_wp2_with fail
    go_meet
    case rel =>
     first
      | exact ⟨wz.heap.size, rfl, rfl, Z3.out.put2 _ _, (HW.out.setCell (p := ⟨wz.heap.size, 0, none⟩) (Nat.le_refl _) _).setCell (p := ⟨wz.heap.size, 1, none⟩) (Nat.le_refl _) _⟩
      | exact ⟨w3.heap.size, rfl, rfl, Blk.new w3 _ _, HW.out.alloc HW.out.size _⟩
  case rest =>
   obtain ⟨gb, rfl, rfl, BG, BC⟩ := hcut; obtain ⟨v0, v1⟩ := BG.out.two; have HBc := Kh (HBr.out.trans (BC.out.mono HBr.out.size)); have HXc := Kh (HXr.out.below BC.out HXr.out.lt); obtain ⟨k0, c0, c1, c2, c3, c4, c5, c6, c7, c8⟩ := KEY.out _ BC.out; clear z0
   cases B with
   | false =>
    have HNO : Hid (¬ zAb l) := Kh (fun h => by have g1 := h r hlt; have g2 := HSB.out; rw [HNE.out] at g1; unfold zAa at g1; rw [g1] at g2; cases g2)
    go_wp2_with fail
    go_quiet (fail); have HE := Kh (zB1 HBc.out)
    go_wp2_with fail
    go_ret
    exact ⟨.no HNO.out, HE.out _⟩
   | true =>
    obtain ⟨x, hx⟩ : ∃ x, decide (S.i = n.s.i ∧ S.w = n.s.w) = x := ⟨_, rfl⟩
    have q := fun w => zI9 hx w
    have HXX := Kh hx; clear hx
    cases x with
    | true =>
     have HI : Hid (∀ j (h : j < l.length), j < r + 1 → zAa (l.take j) l[j]) := Kh (fun j h hj => by
      by_cases e : j = r
      · subst e; rw [HNE.out]; unfold zAa; rw [HSB.out, if_pos rfl, So.ext_iff.2 (of_decide_eq_true HXX.out)]
      · exact HSo.out j h (by omega))
     go_wp2_with fail
     go_quiet (fail); have HE := Kh (zB1 HBc.out); have HD := Kh (fun m => HXc.out.below (zB1 (Below.refl _ wc) m) HXc.out.lt)
     go_wp2_with fail
     go_roundw
     case rel => exact ⟨r + 1, by omega, HI, Kh (HE.out _), Kh (HD.out _), by go_num⟩
     case measure => simp [intOf]; omega
    | false =>
     have HNO : Hid (¬ zAb l) := Kh (fun h => by have g1 := h r hlt; have g2 := HSB.out; rw [HNE.out] at g1; unfold zAa at g1; rw [g1, if_pos rfl] at g2; injection g2 with g2; exact of_decide_eq_false HXX.out (by rw [g2]; exact ⟨rfl, rfl⟩))
     go_wp2_with fail
     go_quiet (fail); have HE := Kh (zB1 HBc.out)
     go_wp2_with fail
     go_ret
     exact ⟨.no HNO.out, HE.out _⟩
theorem zG0 (A : Option Addr) (ci : Nat) (l : List No) (x1 x2 x3 x4 : Value) (k : Int) (w : World) (hA : zA9 w A l) (hl : l.length ≤ 60) :
 Calls Tryz.prog 59 #[.agg #[.slice A l.length ci, x1, x2, x3, x4], .int .i64 k] w fun e w' => e = .returned (.int .i64 (zBk l k)) ∧ Below w.heap.size w w' := by
 have HA := Kh hA; clear hA; have HB0 := bx w #[.slice A l.length ci, x1, x2, x3, x4] 31; have HX0 := nx w #[.slice A l.length ci, x1, x2, x3, x4] 31
 go_enter Tryz.func59, Tryz.ntmps59
 go_wp2_with fail
 go_loopw [5, 6] (fun s i wr => ∃ r : Nat, r ≤ l.length ∧ Hid (Below w.heap.size w wr) ∧ Hid (Blk wr w.heap.size 31 #[.slice A l.length ci, x1, x2, x3, x4]) ∧ s = .int .i64 (zBk (l.take r) k) ∧ i = .int .i64 (r : Int)) (fun _ i _ => l.length - (intOf i).toNat)
 case atStart => exact ⟨0, Nat.zero_le _, HB0, HX0, by simp [zBk], rfl⟩
 case round =>
  obtain ⟨wz, rfl⟩ : ∃ x : World, x = wr := ⟨_, rfl⟩
  clear HB0 HX0; obtain ⟨r, hr, HBr, HXr, rfl, rfl⟩ := hrel; have z0 : wz.cell? ⟨w.heap.size, 0, none⟩ = some (.slice A l.length ci) := by rw [HXr.out.cell]; rfl
  by_cases hlt : r < l.length
  case neg =>
   obtain rfl : r = l.length := by omega
   rw [List.take_length]
   go_wp2_with fail
   go_ret
   exact ⟨rfl, HBr.out⟩
  have hj0 : (0 : Int) ≤ (r : Int) := by omega
  have hj1 : (r : Int) < (l.length : Int) := by omega
  have e1 := wr1 (r := r) (by omega)
  obtain ⟨g, rfl, hg, hc⟩ := (HA.out.below HBr.out) (by omega)
  obtain ⟨y0, -, -, -, -, -, y6, y7, -⟩ := hc r hlt; clear hc; have hs := zBm k hlt; have hb1 := zBl l k r hr; have hb2 := zBo l[r].s; have HS := Kh hs; clear hs; generalize zBk (l.take r) k = v at *; generalize l[r] = n at *
  by_cases hk : n.k = k
  · have dk : (n.k == k) = true := by simpa using hk
    have HK : Hid (zBk (l.take (r + 1)) k = v + zBn n.s) := Kh (by rw [HS.out, if_pos hk])
    have T := Kh (fun W => zMi n.s W)
    generalize zBn n.s = bb at *; have e2 : IntKind.i64.wrap (v + bb) = v + bb := zRa (by omega) (by omega)
    clear hk
    go_wp2_with (go_at_call 114; refine (T.out _).mono ?_; rintro e w3 ⟨rfl, hb3⟩; have HB3 := Kh (HBr.out.trans (hb3.mono HBr.out.size)); have HX3 := Kh (HXr.out.below hb3 HXr.out.lt); clear hb3)
    go_roundw
    case rel => exact ⟨r + 1, by omega, HB3, HX3, by rw [HK.out], by go_num⟩
    case measure => simp [intOf]; omega
  · have dk : (n.k == k) = false := by simpa using hk
    have HK : Hid (zBk (l.take (r + 1)) k = v) := Kh (by rw [HS.out, if_neg hk, Int.add_zero])
    clear hk
    go_wp2_with fail
    go_roundw
    case rel => exact ⟨r + 1, by omega, HBr, HXr, by rw [HK.out], by go_num⟩
    case measure => simp [intOf]; omega
end Go.Proofs.YtmolbnghobfmoaaGreat
