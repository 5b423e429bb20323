/- Part 9 of what the row Row28 rests on: F5 G6. -/
import Derived.Test.YtmolbnghobfmoaaGreatP5
import Derived.Test.YtmolbnghobfmoaaGreatP6
import Derived.Test.YtmolbnghobfmoaaGreatP7
import Derived.Test.YtmolbnghobfmoaaGreatP8
set_option maxRecDepth 100000
set_option maxHeartbeats 16000000
set_option linter.unusedSimpArgs false
set_option linter.unusedVariables false
namespace Go.Proofs.YtmolbnghobfmoaaGreat
open Go.RowKit
theorem zO6 (k na nb nc nn nm si sw : Int) (nt : ByteArray) (a b c : So) (w : World) (hk : 1 ≤ k ∧ k ≤ 38) (hw : (0 ≤ a.w ∧ a.w ≤ 16) ∧ 0 ≤ b.w ∧ b.w ≤ 16) : Calls Tryz.prog 179 #[.agg #[.int .i64 k, .int .i64 na, .int .i64 nb, .int .i64 nc, .int .i64 nn, .int .i64 nm, .int .i64 si, .int .i64 sw, .string nt], .agg #[.int .i64 a.i, .int .i64 a.w], .agg #[.int .i64 b.i, .int .i64 b.w], .agg #[.int .i64 c.i, .int .i64 c.w]] w
 fun e w' => SoP (zNp ⟨k, na, nb, nc, nn, nm, ⟨si, sw⟩, nt⟩ a b c) w e w' := by
 by_cases h35 : k = 35
 · subst h35; exact zO0 na nb nc nn nm si sw nt a b c w
 by_cases h36 : k = 36
 · subst h36; exact zO2 na nb nc nn nm si sw nt a b c w
 by_cases h34 : k = 34
 · subst h34; exact zNz na nb nc nn nm si sw nt a b c w
 by_cases h33 : k = 33
 · subst h33; exact zNy na nb nc nn nm si sw nt a b c w
 by_cases h21 : k = 21
 · subst h21; exact zNs na nb nc nn nm si sw nt a b c w
 by_cases h37 : k = 37
 · subst h37; exact zO3 na nb nc nn nm si sw nt a b c w
 by_cases h38 : k = 38
 · subst h38; exact zO4 na nb nc nn nm si sw nt a b c w
 by_cases hi : a.i ≠ 0 ∨ b.i ≠ 0
 · exact zO7 k na nb nc nn nm si sw nt a b c w (by omega) hi
 have hi : a.i = 0 ∧ b.i = 0 := by omega
 by_cases h1 : k = 1
 · subst h1; exact zNq na nb nc nn nm si sw nt a b c w hw hi
 by_cases h2 : k = 2
 · subst h2; exact zNr na nb nc nn nm si sw nt a b c w hw hi
 by_cases h3 : 3 ≤ k ∧ k ≤ 5
 · exact zO1 k na nb nc nn nm si sw nt a b c w h3 hw hi
 by_cases h30 : k = 30
 · subst h30; exact zNv na nb nc nn nm si sw nt a b c w hw hi
 by_cases h31 : k = 31
 · subst h31; exact zNw na nb nc nn nm si sw nt a b c w hw hi
 by_cases h32 : k = 32
 · subst h32; exact zNx na nb nc nn nm si sw nt a b c w hw hi
 by_cases h29 : k = 29
 · subst h29; exact zNu na nb nc nn nm si sw nt a b c w hw hi
 by_cases h22 : 22 ≤ k ∧ k ≤ 28
 · exact zNt k na nb nc nn nm si sw nt a b c w h22 hw hi
 · exact zO5 k na nb nc nn nm si sw nt a b c w (by omega) hw hi
def zA9 (w : World) (A : Option Addr) (l : List No) : Prop :=
 0 < l.length → ∃ g, A = some ⟨g, 0, none⟩ ∧ g < w.heap.size ∧ ∀ k (h : k < l.length),
  w.cell? ⟨g, k * 9, none⟩ = some (.int .i64 l[k].k) ∧ w.cell? ⟨g, k * 9 + 1, none⟩ = some (.int .i64 l[k].a) ∧ w.cell? ⟨g, k * 9 + 2, none⟩ = some (.int .i64 l[k].b) ∧ w.cell? ⟨g, k * 9 + 3, none⟩ = some (.int .i64 l[k].c) ∧
  w.cell? ⟨g, k * 9 + 4, none⟩ = some (.int .i64 l[k].n) ∧ w.cell? ⟨g, k * 9 + 5, none⟩ = some (.int .i64 l[k].m) ∧ w.cell? ⟨g, k * 9 + 6, none⟩ = some (.int .i64 l[k].s.i) ∧ w.cell? ⟨g, k * 9 + 7, none⟩ = some (.int .i64 l[k].s.w) ∧
  w.cell? ⟨g, k * 9 + 8, none⟩ = some (.string l[k].t)
theorem zA9.below {w w' : World} {A : Option Addr} {l : List No} (h : zA9 w A l) (hb : Below w.heap.size w w') : zA9 w' A l := fun hp => by
 obtain ⟨g, rfl, hg, hc⟩ := h hp
 refine ⟨g, rfl, Nat.lt_of_lt_of_le hg hb.size, fun k hk => ?_⟩
 have e : ∀ j, w'.cell? ⟨g, j, none⟩ = w.cell? ⟨g, j, none⟩ := fun j => hb.cell (p := ⟨g, j, none⟩) hg
 rw [e, e, e, e, e, e, e, e, e]
 exact hc k hk
theorem zA9.take {w : World} {A : Option Addr} {l : List No} (h : zA9 w A l) (i : Nat) : zA9 w A (l.take i) := fun hp => by
 obtain ⟨g, rfl, hg, hc⟩ := h (by rw [List.length_take] at hp; omega)
 refine ⟨g, rfl, hg, fun k hk => ?_⟩
 rw [List.getElem_take]
 exact hc k (by rw [List.length_take] at hk; omega)
theorem zE7 (k na nb nc nn nm si sw : Int) (nt : ByteArray) (bh : Nat) (b : Bool) (hb : bh ≤ 1048576) (ht : nt.size ≤ 1048576) (h : decide (zE5 bh ⟨k, na, nb, nc, nn, nm, ⟨si, sw⟩, nt⟩) = b) (w : World) : Calls Tryz.prog 177 #[.agg #[.int .i64 k, .int .i64 na, .int .i64 nb, .int .i64 nc, .int .i64 nn, .int .i64 nm, .int .i64 si, .int .i64 sw, .string nt], .int .i64 (bh : Int)] w
 fun e w' => e = .returned (.bool b) ∧ Below w.heap.size w w' := by subst h; exact zE6 k na nb nc nn nm si sw nt bh w hb ht
def NsP (o : Option So) (w : World) (e : Ending) (w' : World) : Prop :=
 ((∃ s, o = some s ∧ e = .returned (.tuple #[.agg #[.int .i64 s.i, .int .i64 s.w], .bool true])) ∨ (o = none ∧ e = .returned (.tuple #[.agg #[.int .i64 0, .int .i64 0], .bool false]))) ∧ Below w.heap.size w w'
structure NSR (w : World) (ga gs : Nat) (cs : Array Value) (ps : Array Value) (sc : Array Value) (r : Array Value) (W : World) : Prop where
 b0 : Blk W w.heap.size 42 cs
 b1 : Blk W (w.heap.size + 1) 40 r
 b2 : Blk W ga 177 sc
 b3 : Blk W gs 3 ps
 bel : Below w.heap.size w W
 lo : w.heap.size + 1 < ga ∧ ga < gs
section
variable {w W W' : World} {ga gs : Nat} {cs ps sc r : Array Value}
theorem NSR.below (h : NSR w ga gs cs ps sc r W) (hb : Below W.heap.size W W') : NSR w ga gs cs ps sc r W' :=
 ⟨h.b0.below hb h.b0.lt, h.b1.below hb h.b1.lt, h.b2.below hb h.b2.lt, h.b3.below hb h.b3.lt, h.bel.trans (hb.mono h.bel.size), h.lo⟩
theorem NSR.set (h : NSR w ga gs cs ps sc r W) (i : Nat) (u : Value) : NSR w ga gs cs ps (sc.setIfInBounds i u) r (W.setCell ⟨ga, i, none⟩ u) :=
 ⟨h.b0.far (p := ⟨ga, i, none⟩) (by have := h.lo; show w.heap.size ≠ ga; omega) u, h.b1.far (p := ⟨ga, i, none⟩) (by have := h.lo; show w.heap.size + 1 ≠ ga; omega) u, h.b2.set_ i u, h.b3.far (p := ⟨ga, i, none⟩) (by have := h.lo; show gs ≠ ga; omega) u, h.bel.setCell (p := ⟨ga, i, none⟩) (by have := h.lo; show w.heap.size ≤ ga; omega) u, h.lo⟩
theorem Blk.six {w : World} {g : Nat} {t : TypeId} {a b c d e f : Value} (h : Blk w g t #[a, b, c, d, e, f]) : w.cell? ⟨g, 0, none⟩ = some a ∧ w.cell? ⟨g, 1, none⟩ = some b ∧ w.cell? ⟨g, 2, none⟩ = some c ∧ w.cell? ⟨g, 3, none⟩ = some d ∧ w.cell? ⟨g, 4, none⟩ = some e ∧ w.cell? ⟨g, 5, none⟩ = some f :=
 ⟨by rw [h.cell]; rfl, by rw [h.cell]; rfl, by rw [h.cell]; rfl, by rw [h.cell]; rfl, by rw [h.cell]; rfl, by rw [h.cell]; rfl⟩
end
def upS (i j : Nat) (s : So) : So := if j < i then s else ⟨0, 0⟩
def sixC (a b c : So) : Array Value := #[.int .i64 a.i, .int .i64 a.w, .int .i64 b.i, .int .i64 b.w, .int .i64 c.i, .int .i64 c.w]
theorem zIf (A : Option Addr) (ci : Nat) (l : List No) (k na nb nc nn nm si sw : Int) (nt : ByteArray) (w : World) (hA : zA9 w A l) (hl : l.length ≤ 1048576) (ht : nt.size ≤ 1048576) :
 Calls Tryz.prog 139 #[.slice A l.length ci, .agg #[.int .i64 k, .int .i64 na, .int .i64 nb, .int .i64 nc, .int .i64 nn, .int .i64 nm, .int .i64 si, .int .i64 sw, .string nt]] w fun e w' => NsP (zIe l ⟨k, na, nb, nc, nn, nm, ⟨si, sw⟩, nt⟩) w e w' := by
 have HA := Kh hA; clear hA; obtain ⟨o, ho⟩ : ∃ o, zIe l ⟨k, na, nb, nc, nn, nm, ⟨si, sw⟩, nt⟩ = o := ⟨_, rfl⟩
 rw [ho]; have HOo := Kh ho; clear ho; have HB0 : Hid (Below w.heap.size w ((w.alloc (.cells #[.int .i64 k, .int .i64 na, .int .i64 nb, .int .i64 nc, .int .i64 nn, .int .i64 nm, .int .i64 si, .int .i64 sw, .string nt] 42)).alloc (.cells #[.int .i64 0, .int .i64 0] 40))) := ((Below.refl _ _).alloc (Nat.le_refl _) _).alloc (by simp) _
 by_cases h60 : l.length ≤ 60
 case neg =>
  obtain rfl : o = none := by rw [← HOo.out]; unfold zIe; rw [if_neg (fun h => h60 h.1)]
  have d1 : decide ((60 : Int) < (l.length : Int)) = true := decide_eq_true (by omega)
  have d2 : decide (60 < l.length) = true := decide_eq_true (by omega)
  go_enter Tryz.func139, Tryz.ntmps139
  go_wp2_with fail
  exact bodyPost_ret (v := .tuple #[.agg #[.int .i64 0, .int .i64 0], .bool false]) (by simp [results, Tryz.results139, go_sem]) rfl ⟨.inr ⟨rfl, rfl⟩, HB0.out⟩
 have d1 : decide ((60 : Int) < (l.length : Int)) = false := decide_eq_false (by omega)
 have d2 : decide (60 < l.length) = false := decide_eq_false (by omega)
 have HX0 : Hid (Blk ((w.alloc (.cells #[.int .i64 k, .int .i64 na, .int .i64 nb, .int .i64 nc, .int .i64 nn, .int .i64 nm, .int .i64 si, .int .i64 sw, .string nt] 42)).alloc (.cells #[.int .i64 0, .int .i64 0] 40)) w.heap.size 42 #[.int .i64 k, .int .i64 na, .int .i64 nb, .int .i64 nc, .int .i64 nn, .int .i64 nm, .int .i64 si, .int .i64 sw, .string nt]) := (Blk.new _ _ _).alloc _; have HR0 : Hid (Blk ((w.alloc (.cells #[.int .i64 k, .int .i64 na, .int .i64 nb, .int .i64 nc, .int .i64 nn, .int .i64 nm, .int .i64 si, .int .i64 sw, .string nt] 42)).alloc (.cells #[.int .i64 0, .int .i64 0] 40)) (w.heap.size + 1) 40 #[.int .i64 0, .int .i64 0]) := Blk.new_at _ _ _ (by simp)
 by_cases hf : zE5 l.length ⟨k, na, nb, nc, nn, nm, ⟨si, sw⟩, nt⟩
 case neg =>
  obtain rfl : o = none := by rw [← HOo.out]; unfold zIe; rw [if_neg (fun h => hf h.2.1)]
  have HD := Kh (decide_eq_false hf); clear hf
  go_enter Tryz.func139, Tryz.ntmps139
  go_wp2_with (go_at_call 177; refine (zE7 k na nb nc nn nm si sw nt l.length false (by omega) ht HD.out _).mono ?_; rintro e w1 ⟨rfl, hb1⟩; have HB1 := Kh (HB0.out.trans (hb1.mono HB0.out.size)); have HR1 := Kh (HR0.out.below hb1 HR0.out.lt); obtain ⟨r0, r1⟩ := HR1.out.two; have f0 := HR1.out.frozen 0; have f1 := HR1.out.frozen 1; clear hb1)
  obtain ⟨u0, u1⟩ := (HR1.out.put2 (.int .i64 0) (.int .i64 0)).two
  exact bodyPost_ret (v := .tuple #[.agg #[.int .i64 0, .int .i64 0], .bool false]) (by simp [results, Tryz.results139, go_sem, u0, u1]) rfl ⟨.inr ⟨rfl, rfl⟩, zB2 HB1.out (by omega) _ _⟩
 have HD := Kh (decide_eq_true hf); have HFm := Kh hf; clear hf
 go_enter Tryz.func139, Tryz.ntmps139
 go_wp2_with (go_at_call 177; refine (zE7 k na nb nc nn nm si sw nt l.length true (by omega) ht HD.out _).mono ?_; rintro e w1 ⟨rfl, hb1⟩; have HB1 := Kh (HB0.out.trans (hb1.mono HB0.out.size)); have HR1 := Kh (HR0.out.below hb1 HR0.out.lt); have HX1 := Kh (HX0.out.below hb1 HX0.out.lt); obtain ⟨r0, r1⟩ := HR1.out.two; obtain ⟨c0, c1, c2, c3, c4, c5, c6, c7, c8⟩ := HX1.out.nine; clear hb1)
 obtain ⟨M, hM⟩ : ∃ m : Nat, zK1 k = (m : Int) := ⟨(zK1 k).toNat, by have := HFm.out.1; simp only at this; omega⟩
 have HM := Kh hM; have hM3 : M ≤ 3 := by have := zK2 k; omega
 have hM3' : (M : Int) ≤ 3 := by omega
 have hM0 : (0 : Int) ≤ (M : Int) := by omega
 have HKK : Hid (1 ≤ k ∧ k ≤ 38) := Kh (zK3 (by omega))
 clear hM
 go_cut [32, 33, 34] (fun s32 s33 s34 wc => ∃ gs : Nat, s32 = .slice (some ⟨gs, 0, none⟩) M 3 ∧ s33 = .int .i64 (M : Int) ∧ s34 = .int .i64 0 ∧ Hid (NSR w w1.heap.size gs #[.int .i64 k, .int .i64 na, .int .i64 nb, .int .i64 nc, .int .i64 nn, .int .i64 nm, .int .i64 si, .int .i64 sw, .string nt] #[.int .i64 na, .int .i64 nb, .int .i64 nc] (sixC ⟨0, 0⟩ ⟨0, 0⟩ ⟨0, 0⟩) #[.int .i64 0, .int .i64 0] wc))
 case first =>
  first | (go_region_held3 (fun W => W.cell? ⟨w.heap.size, 0, none⟩ = some (.int .i64 k) ∧ W.cell? ⟨w.heap.size, 1, none⟩ = some (.int .i64 na) ∧ W.cell? ⟨w.heap.size, 2, none⟩ = some (.int .i64 nb) ∧ W.cell? ⟨w.heap.size, 3, none⟩ = some (.int .i64 nc))
   (first | (have g := (HX1.out.alloc (.cells #[.int .i64 0, .int .i64 0, .int .i64 0, .int .i64 0, .int .i64 0, .int .i64 0] 177)).nine; exact ⟨g.1, g.2.1, g.2.2.1, g.2.2.2.1⟩) | (have g := ((HX1.out.alloc (.cells #[.int .i64 0, .int .i64 0, .int .i64 0, .int .i64 0, .int .i64 0, .int .i64 0] 177)).drew.alloc (.cells #[.int .i64 na, .int .i64 nb, .int .i64 nc] 3)).nine; exact ⟨g.1, g.2.1, g.2.2.1, g.2.2.2.1⟩)) (first
   | (go_at_call 98; refine (zK5 k M HM.out _).mono ?_; rintro e wI ⟨rfl, rfl⟩))) | fail
  all_goals
   go_wp2_with fail
   go_meet
   case rel =>
    have hs := HB1.out.size
    exact ⟨w1.heap.size + 1, rfl, rfl, rfl, Kh ⟨(HX1.out.alloc _).drew.alloc _, (HR1.out.alloc _).drew.alloc _, (Blk.new _ _ _).drew.alloc _, Blk.new_at _ _ _ (by simp), ((HB1.out.alloc (by omega) _).drew).alloc (by simp; omega) _, ⟨HR1.out.lt, by omega⟩⟩⟩
 case rest =>
  obtain ⟨gs, rfl, rfl, rfl, S0⟩ := hcut
  go_wp2_with fail
  go_loopw [34] (fun i wr => ∃ r : Nat, r ≤ M ∧ Hid ((0 < r → sortOk (noAt l na).s) ∧ (1 < r → sortOk (noAt l nb).s) ∧ (2 < r → sortOk (noAt l nc).s)) ∧ Hid (NSR w w1.heap.size gs #[.int .i64 k, .int .i64 na, .int .i64 nb, .int .i64 nc, .int .i64 nn, .int .i64 nm, .int .i64 si, .int .i64 sw, .string nt] #[.int .i64 na, .int .i64 nb, .int .i64 nc] (sixC (upS r 0 (noAt l na).s) (upS r 1 (noAt l nb).s) (upS r 2 (noAt l nc).s)) #[.int .i64 0, .int .i64 0] wr) ∧ i = .int .i64 (r : Int)) (fun i _ => M - (intOf i).toNat)
  case atStart => exact ⟨0, Nat.zero_le _, ⟨fun h => absurd h (by omega), fun h => absurd h (by omega), fun h => absurd h (by omega)⟩, S0, rfl⟩
  case round =>
   obtain ⟨wz, rfl⟩ : ∃ x : World, x = wr := ⟨_, rfl⟩
   obtain ⟨r, hr, HSo, HSr, rfl⟩ := hrel
   by_cases hrM : r < M
   case neg =>
    obtain rfl : r = M := by omega
    obtain ⟨y0, y1, y2, y3, y4, y5⟩ := HSr.out.b2.six; obtain ⟨c0, c1, c2, c3, c4, c5, c6, c7, c8⟩ := HSr.out.b0.nine; obtain ⟨r0, r1⟩ := HSr.out.b1.two; have f0 := HSr.out.b1.frozen 0; have f1 := HSr.out.b1.frozen 1; have HP : Hid (zK4 l ⟨k, na, nb, nc, nn, nm, ⟨si, sw⟩, nt⟩) := Kh ⟨fun h => HSo.out.1 (by simp only at h; rw [HM.out] at h; omega), fun h => HSo.out.2.1 (by simp only at h; rw [HM.out] at h; omega), fun h => HSo.out.2.2 (by simp only at h; rw [HM.out] at h; omega)⟩
    have HE : Hid (o = zNp ⟨k, na, nb, nc, nn, nm, ⟨si, sw⟩, nt⟩ (upS r 0 (noAt l na).s) (upS r 1 (noAt l nb).s) (upS r 2 (noAt l nc).s)) := Kh (by
     rw [← HOo.out]; unfold zIe; rw [if_pos ⟨h60, HFm.out, HP.out⟩]
     have e : ∀ (j : Nat) (p : Int), zJu l ⟨k, na, nb, nc, nn, nm, ⟨si, sw⟩, nt⟩ (j : Int) p = upS r j (noAt l p).s := fun j p => by
      unfold zJu upS; simp only; rw [HM.out]
      by_cases h : j < r
      · rw [if_pos (by omega), if_pos h]
      · rw [if_neg (by omega), if_neg h]
     exact congr (congr (congrArg _ (e 0 na)) (e 1 nb)) (e 2 nc))
    have up : ∀ (j : Nat) (s : So), (j < r → sortOk s) → 0 ≤ (upS r j s).w ∧ (upS r j s).w ≤ 16 := fun j s h => by
     unfold upS; split
     · rename_i h1; have := (h h1).2; omega
     · simp
    have HU : Hid ((0 ≤ (upS r 0 (noAt l na).s).w ∧ (upS r 0 (noAt l na).s).w ≤ 16) ∧ 0 ≤ (upS r 1 (noAt l nb).s).w ∧ (upS r 1 (noAt l nb).s).w ≤ 16) := Kh ⟨up 0 _ HSo.out.1, up 1 _ HSo.out.2.1⟩; clear up; generalize upS r 0 (noAt l na).s = s0 at *; generalize upS r 1 (noAt l nb).s = s1 at *; generalize upS r 2 (noAt l nc).s = s2 at *; have T : Hid (∀ W, Calls Tryz.prog 179 #[.agg #[.int .i64 k, .int .i64 na, .int .i64 nb, .int .i64 nc, .int .i64 nn, .int .i64 nm, .int .i64 si, .int .i64 sw, .string nt], .agg #[.int .i64 s0.i, .int .i64 s0.w], .agg #[.int .i64 s1.i, .int .i64 s1.w], .agg #[.int .i64 s2.i, .int .i64 s2.w]] W fun e w' => SoP o W e w') := Kh (fun W => by have := zO6 k na nb nc nn nm si sw nt s0 s1 s2 W HKK.out HU.out; rwa [← HE.out] at this)
    go_wp2_with (go_at_call 179; refine (T.out _).mono ?_; rintro e w2 ⟨s, ok, rfl, ho, hb2⟩; have HO := Kh ho; have S2 := Kh (HSr.out.below hb2); have S3 := Kh (S2.out.below ((Below.refl _ _).alloc (Nat.le_refl _) (.cells #[.int .i64 s.i, .int .i64 s.w] 40))); have HN3 : Hid (Blk (w2.alloc (.cells #[.int .i64 s.i, .int .i64 s.w] 40)) w2.heap.size 40 #[.int .i64 s.i, .int .i64 s.w]) := Blk.new _ _ _; clear ho hb2 y0 y1 y2 y3 y4 y5 c0 c1 c2 c3 c4 c5 c6 c7 c8 r0 r1 f0 f1; obtain ⟨r0, r1⟩ := S3.out.b1.two; obtain ⟨v0, v1⟩ := HN3.out.two; have f0 := S3.out.b1.frozen 0; have f1 := S3.out.b1.frozen 1; cases ok)
    · obtain ⟨u0, u1⟩ := (S3.out.b1.put2 (.int .i64 0) (.int .i64 0)).two
      exact bodyPost_ret (v := .tuple #[.agg #[.int .i64 0, .int .i64 0], .bool false]) (by simp [results, Tryz.results139, go_sem, u0, u1]) rfl ⟨.inr ⟨by simpa using HO.out, rfl⟩, zB2 S3.out.bel (by omega) _ _⟩
    · obtain ⟨u0, u1⟩ := (S3.out.b1.put2 (.int .i64 s.i) (.int .i64 s.w)).two
      exact bodyPost_ret (v := .tuple #[.agg #[.int .i64 s.i, .int .i64 s.w], .bool true]) (by simp [results, Tryz.results139, go_sem, u0, u1]) rfl ⟨.inl ⟨s, by simpa using HO.out, rfl⟩, zB2 S3.out.bel (by omega) _ _⟩
   rcases (show r = 0 ∨ r = 1 ∨ r = 2 by omega) with rfl | rfl | rfl
   · have hlt : (0 : Int) < (M : Int) := by omega
     have hp := HFm.out.2.1.1; unfold zJt at hp; rw [if_pos (by simp only; rw [HM.out]; exact hlt)] at hp
     simp only at hp; obtain ⟨q, hq⟩ : ∃ q : Nat, na = (q : Int) := ⟨na.toNat, by omega⟩
     have hql : q < l.length := by omega
     have hq0 : (0 : Int) ≤ (q : Int) := by omega
     have hq1 : (q : Int) < (l.length : Int) := by omega
     have HQ := Kh hq; have e0 : noAt l (q : Int) = l[q] := zIb hql; obtain ⟨g, rfl, hg, hc⟩ := HA.out (by omega)
     have hcq := hc q hql; have hs6 := (HSr.out.bel.cell (p := ⟨g, q * 9 + 6, none⟩) hg).trans hcq.2.2.2.2.2.2.1; have hs7 := (HSr.out.bel.cell (p := ⟨g, q * 9 + 7, none⟩) hg).trans hcq.2.2.2.2.2.2.2.1; rw [← e0, ← hq] at hs6 hs7; obtain ⟨t0, t1, t2⟩ := HSr.out.b3.three; rw [hq] at t0; have z0 := HSr.out.b2.frozen 0; have z1 := HSr.out.b2.frozen 1; obtain ⟨y0, y1, y2, y3, y4, y5⟩ := HSr.out.b2.six; have Sn : Hid (NSR w w1.heap.size gs #[.int .i64 k, .int .i64 na, .int .i64 nb, .int .i64 nc, .int .i64 nn, .int .i64 nm, .int .i64 si, .int .i64 sw, .string nt] #[.int .i64 na, .int .i64 nb, .int .i64 nc] (sixC (upS 1 0 (noAt l na).s) (upS 1 1 (noAt l nb).s) (upS 1 2 (noAt l nc).s)) #[.int .i64 0, .int .i64 0] ((wz.setCell ⟨w1.heap.size, 0, none⟩ (.int .i64 (noAt l na).s.i)).setCell ⟨w1.heap.size, 1, none⟩ (.int .i64 (noAt l na).s.w))) := (HSr.out.set 0 _).set 1 _; clear hc hcq hp e0 hq hql; obtain ⟨so, hso⟩ : ∃ x, (noAt l na).s = x := ⟨_, rfl⟩
     rw [hso] at hs6 hs7; have HSO := Kh hso; have Sn := Kh (show NSR _ _ _ _ _ _ _ ((wz.setCell ⟨w1.heap.size, 0, none⟩ (.int .i64 so.i)).setCell ⟨w1.heap.size, 1, none⟩ (.int .i64 so.w)) from (by have := Sn.out; rw [hso] at this; exact this))
     clear hso
     by_cases hok : sortOk so
     · have HOK := Kh hok
       clear hok; have HG := Kh (show (0 < 1 → sortOk (noAt l na).s) ∧ (1 < 1 → sortOk (noAt l nb).s) ∧ (2 < 1 → sortOk (noAt l nc).s) from ⟨fun _ => (by rw [HSO.out]; exact HOK.out), fun h => absurd h (by omega), fun h => absurd h (by omega)⟩)
       go_wp2_with (go_at_call 178; refine (zO8 so true (by exact decide_eq_true HOK.out) _).mono ?_; rintro e w2 ⟨rfl, hb2⟩; have S2 := Kh (Sn.out.below hb2); clear hb2)
       go_roundw
       case rel => exact ⟨1, by omega, HG, (by rw [HSO.out]; exact S2), by rfl⟩
       case measure => simp [intOf]; omega
     · have HOK := Kh hok
       have HN : Hid (o = none) := Kh (by rw [← HOo.out]; unfold zIe; rw [if_neg]; rintro ⟨-, -, g0, g1, g2⟩; simp only at g0; rw [HM.out, HSO.out] at g0; exact hok (g0 (by omega)))
       clear hok
       go_wp2_with (go_at_call 178; refine (zO8 so false (by exact decide_eq_false HOK.out) _).mono ?_; rintro e w2 ⟨rfl, hb2⟩; have S2 := Kh (Sn.out.below hb2); obtain ⟨r0, r1⟩ := S2.out.b1.two; have f0 := S2.out.b1.frozen 0; have f1 := S2.out.b1.frozen 1; clear hb2)
       obtain ⟨u0, u1⟩ := (S2.out.b1.put2 (.int .i64 0) (.int .i64 0)).two
       exact bodyPost_ret (v := .tuple #[.agg #[.int .i64 0, .int .i64 0], .bool false]) (by simp [results, Tryz.results139, go_sem, u0, u1]) rfl ⟨.inr ⟨HN.out, rfl⟩, zB2 S2.out.bel (by omega) _ _⟩
   · have hlt : (1 : Int) < (M : Int) := by omega
     have hp := HFm.out.2.1.2.1; unfold zJt at hp; rw [if_pos (by simp only; rw [HM.out]; exact hlt)] at hp
     simp only at hp; obtain ⟨q, hq⟩ : ∃ q : Nat, nb = (q : Int) := ⟨nb.toNat, by omega⟩
     have hql : q < l.length := by omega
     have hq0 : (0 : Int) ≤ (q : Int) := by omega
     have hq1 : (q : Int) < (l.length : Int) := by omega
     have HQ := Kh hq; have e0 : noAt l (q : Int) = l[q] := zIb hql; obtain ⟨g, rfl, hg, hc⟩ := HA.out (by omega)
     have hcq := hc q hql; have hs6 := (HSr.out.bel.cell (p := ⟨g, q * 9 + 6, none⟩) hg).trans hcq.2.2.2.2.2.2.1; have hs7 := (HSr.out.bel.cell (p := ⟨g, q * 9 + 7, none⟩) hg).trans hcq.2.2.2.2.2.2.2.1; rw [← e0, ← hq] at hs6 hs7; obtain ⟨t0, t1, t2⟩ := HSr.out.b3.three; rw [hq] at t1; have z0 := HSr.out.b2.frozen 2; have z1 := HSr.out.b2.frozen 3; obtain ⟨y0, y1, y2, y3, y4, y5⟩ := HSr.out.b2.six; have Sn : Hid (NSR w w1.heap.size gs #[.int .i64 k, .int .i64 na, .int .i64 nb, .int .i64 nc, .int .i64 nn, .int .i64 nm, .int .i64 si, .int .i64 sw, .string nt] #[.int .i64 na, .int .i64 nb, .int .i64 nc] (sixC (upS 2 0 (noAt l na).s) (upS 2 1 (noAt l nb).s) (upS 2 2 (noAt l nc).s)) #[.int .i64 0, .int .i64 0] ((wz.setCell ⟨w1.heap.size, 2, none⟩ (.int .i64 (noAt l nb).s.i)).setCell ⟨w1.heap.size, 3, none⟩ (.int .i64 (noAt l nb).s.w))) := (HSr.out.set 2 _).set 3 _; clear hc hcq hp e0 hq hql; obtain ⟨so, hso⟩ : ∃ x, (noAt l nb).s = x := ⟨_, rfl⟩
     rw [hso] at hs6 hs7; have HSO := Kh hso; have Sn := Kh (show NSR _ _ _ _ _ _ _ ((wz.setCell ⟨w1.heap.size, 2, none⟩ (.int .i64 so.i)).setCell ⟨w1.heap.size, 3, none⟩ (.int .i64 so.w)) from (by have := Sn.out; rw [hso] at this; exact this))
     clear hso
     by_cases hok : sortOk so
     · have HOK := Kh hok
       clear hok; have HG := Kh (show (0 < 2 → sortOk (noAt l na).s) ∧ (1 < 2 → sortOk (noAt l nb).s) ∧ (2 < 2 → sortOk (noAt l nc).s) from ⟨fun _ => HSo.out.1 (by omega), fun _ => (by rw [HSO.out]; exact HOK.out), fun h => absurd h (by omega)⟩)
       go_wp2_with (go_at_call 178; refine (zO8 so true (by exact decide_eq_true HOK.out) _).mono ?_; rintro e w2 ⟨rfl, hb2⟩; have S2 := Kh (Sn.out.below hb2); clear hb2)
       go_roundw
       case rel => exact ⟨2, by omega, HG, (by rw [HSO.out]; exact S2), by rfl⟩
       case measure => simp [intOf]; omega
     · have HOK := Kh hok
       have HN : Hid (o = none) := Kh (by rw [← HOo.out]; unfold zIe; rw [if_neg]; rintro ⟨-, -, g0, g1, g2⟩; simp only at g1; rw [HM.out, HSO.out] at g1; exact hok (g1 (by omega)))
       clear hok
       go_wp2_with (go_at_call 178; refine (zO8 so false (by exact decide_eq_false HOK.out) _).mono ?_; rintro e w2 ⟨rfl, hb2⟩; have S2 := Kh (Sn.out.below hb2); obtain ⟨r0, r1⟩ := S2.out.b1.two; have f0 := S2.out.b1.frozen 0; have f1 := S2.out.b1.frozen 1; clear hb2)
       obtain ⟨u0, u1⟩ := (S2.out.b1.put2 (.int .i64 0) (.int .i64 0)).two
       exact bodyPost_ret (v := .tuple #[.agg #[.int .i64 0, .int .i64 0], .bool false]) (by simp [results, Tryz.results139, go_sem, u0, u1]) rfl ⟨.inr ⟨HN.out, rfl⟩, zB2 S2.out.bel (by omega) _ _⟩
   · have hlt : (2 : Int) < (M : Int) := by omega
     have hp := HFm.out.2.1.2.2; unfold zJt at hp; rw [if_pos (by simp only; rw [HM.out]; exact hlt)] at hp
     simp only at hp; obtain ⟨q, hq⟩ : ∃ q : Nat, nc = (q : Int) := ⟨nc.toNat, by omega⟩
     have hql : q < l.length := by omega
     have hq0 : (0 : Int) ≤ (q : Int) := by omega
     have hq1 : (q : Int) < (l.length : Int) := by omega
     have HQ := Kh hq; have e0 : noAt l (q : Int) = l[q] := zIb hql; obtain ⟨g, rfl, hg, hc⟩ := HA.out (by omega)
     have hcq := hc q hql; have hs6 := (HSr.out.bel.cell (p := ⟨g, q * 9 + 6, none⟩) hg).trans hcq.2.2.2.2.2.2.1; have hs7 := (HSr.out.bel.cell (p := ⟨g, q * 9 + 7, none⟩) hg).trans hcq.2.2.2.2.2.2.2.1; rw [← e0, ← hq] at hs6 hs7; obtain ⟨t0, t1, t2⟩ := HSr.out.b3.three; rw [hq] at t2; have z0 := HSr.out.b2.frozen 4; have z1 := HSr.out.b2.frozen 5; obtain ⟨y0, y1, y2, y3, y4, y5⟩ := HSr.out.b2.six; have Sn : Hid (NSR w w1.heap.size gs #[.int .i64 k, .int .i64 na, .int .i64 nb, .int .i64 nc, .int .i64 nn, .int .i64 nm, .int .i64 si, .int .i64 sw, .string nt] #[.int .i64 na, .int .i64 nb, .int .i64 nc] (sixC (upS 3 0 (noAt l na).s) (upS 3 1 (noAt l nb).s) (upS 3 2 (noAt l nc).s)) #[.int .i64 0, .int .i64 0] ((wz.setCell ⟨w1.heap.size, 4, none⟩ (.int .i64 (noAt l nc).s.i)).setCell ⟨w1.heap.size, 5, none⟩ (.int .i64 (noAt l nc).s.w))) := (HSr.out.set 4 _).set 5 _; clear hc hcq hp e0 hq hql; obtain ⟨so, hso⟩ : ∃ x, (noAt l nc).s = x := ⟨_, rfl⟩
     rw [hso] at hs6 hs7; have HSO := Kh hso; have Sn := Kh (show NSR _ _ _ _ _ _ _ ((wz.setCell ⟨w1.heap.size, 4, none⟩ (.int .i64 so.i)).setCell ⟨w1.heap.size, 5, none⟩ (.int .i64 so.w)) from (by have := Sn.out; rw [hso] at this; exact this))
     clear hso
     by_cases hok : sortOk so
     · have HOK := Kh hok
       clear hok; have HG := Kh (show (0 < 3 → sortOk (noAt l na).s) ∧ (1 < 3 → sortOk (noAt l nb).s) ∧ (2 < 3 → sortOk (noAt l nc).s) from ⟨fun _ => HSo.out.1 (by omega), fun _ => HSo.out.2.1 (by omega), fun _ => (by rw [HSO.out]; exact HOK.out)⟩)
       go_wp2_with (go_at_call 178; refine (zO8 so true (by exact decide_eq_true HOK.out) _).mono ?_; rintro e w2 ⟨rfl, hb2⟩; have S2 := Kh (Sn.out.below hb2); clear hb2)
       go_roundw
       case rel => exact ⟨3, by omega, HG, (by rw [HSO.out]; exact S2), by rfl⟩
       case measure => simp [intOf]; omega
     · have HOK := Kh hok
       have HN : Hid (o = none) := Kh (by rw [← HOo.out]; unfold zIe; rw [if_neg]; rintro ⟨-, -, g0, g1, g2⟩; simp only at g2; rw [HM.out, HSO.out] at g2; exact hok (g2 (by omega)))
       clear hok
       go_wp2_with (go_at_call 178; refine (zO8 so false (by exact decide_eq_false HOK.out) _).mono ?_; rintro e w2 ⟨rfl, hb2⟩; have S2 := Kh (Sn.out.below hb2); obtain ⟨r0, r1⟩ := S2.out.b1.two; have f0 := S2.out.b1.frozen 0; have f1 := S2.out.b1.frozen 1; clear hb2)
       obtain ⟨u0, u1⟩ := (S2.out.b1.put2 (.int .i64 0) (.int .i64 0)).two
       exact bodyPost_ret (v := .tuple #[.agg #[.int .i64 0, .int .i64 0], .bool false]) (by simp [results, Tryz.results139, go_sem, u0, u1]) rfl ⟨.inr ⟨HN.out, rfl⟩, zB2 S2.out.bel (by omega) _ _⟩
end Go.Proofs.YtmolbnghobfmoaaGreat
namespace Go.Proofs.YtmolbnghobfmoaaGreat
open Go.RowKit
theorem zMl (s : So) (b : Bool) (h : decide (sortOk s) = b) (w : World) : Calls Tryz.prog 155 #[.agg #[.int .i64 s.i, .int .i64 s.w]] w fun e w' => e = .returned (.bool b) ∧ Below w.heap.size w w' := by
 have HB := bx w #[.int .i64 s.i, .int .i64 s.w] 40; subst h
 by_cases h1 : 0 ≤ s.i ∧ s.i ≤ 2
 · by_cases h2 : 1 ≤ s.w ∧ s.w ≤ 16
   · have e : decide (sortOk s) = true := decide_eq_true ⟨h1, h2⟩
     rw [e]
     go_enter Tryz.func155, Tryz.ntmps155
     go_wp2_with (first | (go_at_call 111; (first | refine (zFx _ _ _ true (decide_eq_true (by omega)) _).mono ?_ | refine (zFx _ _ _ false (decide_eq_false (by omega)) _).mono ?_); rintro e wI ⟨rfl, rfl⟩) | (go_at_call 186; refine (zFy _ true (decide_eq_true h2) _).mono ?_; rintro e w1 ⟨rfl, rfl⟩))
     go_ret
     exact ⟨rfl, HB.out⟩
   · have e : decide (sortOk s) = false := decide_eq_false (fun h => h2 h.2)
     rw [e]
     go_enter Tryz.func155, Tryz.ntmps155
     go_wp2_with (first | (go_at_call 111; (first | refine (zFx _ _ _ true (decide_eq_true (by omega)) _).mono ?_ | refine (zFx _ _ _ false (decide_eq_false (by omega)) _).mono ?_); rintro e wI ⟨rfl, rfl⟩) | (go_at_call 186; refine (zFy _ false (decide_eq_false h2) _).mono ?_; rintro e w1 ⟨rfl, rfl⟩))
     go_ret
     exact ⟨rfl, HB.out⟩
 · have e : decide (sortOk s) = false := decide_eq_false (fun h => h1 h.1)
   rw [e]
   go_enter Tryz.func155, Tryz.ntmps155
   go_wp2_with (go_at_call 111; (first | refine (zFx _ _ _ true (decide_eq_true (by omega)) _).mono ?_ | refine (zFx _ _ _ false (decide_eq_false (by omega)) _).mono ?_); rintro e wI ⟨rfl, rfl⟩)
   go_ret
   exact ⟨rfl, HB.out⟩
theorem zMk (s : So) (w : World) : Calls Tryz.prog 159 #[.agg #[.int .i64 s.i, .int .i64 s.w]] w fun e w' => e = .returned (.int .i64 (cellsOf s : Int)) ∧ Below w.heap.size w w' := by
 obtain ⟨i, wd⟩ := s
 rcases zCk ⟨i, wd⟩ with ⟨h1, h2⟩ | ⟨h1, h2, h3⟩ | ⟨h1, h2, h3⟩ | ⟨h1, h2, h3⟩
 · rw [h2]
   have HI := Kh h1; clear h1 h2; have HB := bx w #[.int .i64 i, .int .i64 wd] 40; have HC := nx w #[.int .i64 i, .int .i64 wd] 40
   go_enter Tryz.func159, Tryz.ntmps159
   go_wp2_with (go_at_call 155; refine (zMl ⟨i, wd⟩ false (by exact decide_eq_false HI.out) _).mono ?_; rintro e w1 ⟨rfl, hb1⟩; have HB1 := Kh (HB.out.trans (hb1.mono HB.out.size)); have HC1 := Kh (HC.out.below hb1 HC.out.lt); obtain ⟨c0, c1⟩ := HC1.out.two; clear hb1)
   go_ret
   exact ⟨rfl, HB1.out⟩
 · obtain rfl : i = 0 := h2
   rw [h3]; have HI := Kh h1; clear h1 h3; have HB := bx w #[.int .i64 0, .int .i64 wd] 40; have HC := nx w #[.int .i64 0, .int .i64 wd] 40
   go_enter Tryz.func159, Tryz.ntmps159
   go_wp2_with (go_at_call 155; refine (zMl ⟨0, wd⟩ true (by exact decide_eq_true HI.out) _).mono ?_; rintro e w1 ⟨rfl, hb1⟩; have HB1 := Kh (HB.out.trans (hb1.mono HB.out.size)); have HC1 := Kh (HC.out.below hb1 HC.out.lt); obtain ⟨c0, c1⟩ := HC1.out.two; clear hb1)
   go_ret
   exact ⟨rfl, HB1.out⟩
 · obtain rfl : i = 1 := h2
   rw [h3]; have HI := Kh h1; clear h1 h3; have HB := bx w #[.int .i64 1, .int .i64 wd] 40; have HC := nx w #[.int .i64 1, .int .i64 wd] 40
   go_enter Tryz.func159, Tryz.ntmps159
   go_wp2_with (go_at_call 155; refine (zMl ⟨1, wd⟩ true (by exact decide_eq_true HI.out) _).mono ?_; rintro e w1 ⟨rfl, hb1⟩; have HB1 := Kh (HB.out.trans (hb1.mono HB.out.size)); have HC1 := Kh (HC.out.below hb1 HC.out.lt); obtain ⟨c0, c1⟩ := HC1.out.two; clear hb1)
   go_ret
   exact ⟨rfl, HB1.out⟩
 · obtain rfl : i = 2 := h2
   rw [h3]; have HI := Kh h1; clear h1 h3; have HB := bx w #[.int .i64 2, .int .i64 wd] 40; have HC := nx w #[.int .i64 2, .int .i64 wd] 40
   go_enter Tryz.func159, Tryz.ntmps159
   go_wp2_with (go_at_call 155; refine (zMl ⟨2, wd⟩ true (by exact decide_eq_true HI.out) _).mono ?_; rintro e w1 ⟨rfl, hb1⟩; have HB1 := Kh (HB.out.trans (hb1.mono HB.out.size)); have HC1 := Kh (HC.out.below hb1 HC.out.lt); obtain ⟨c0, c1⟩ := HC1.out.two; clear hb1)
   go_ret
   exact ⟨rfl, HB1.out⟩
theorem zMj (s : So) (x : Nat) (h : cellsOf s = x) (w : World) : Calls Tryz.prog 159 #[.agg #[.int .i64 s.i, .int .i64 s.w]] w fun e w' => e = .returned (.int .i64 (x : Int)) ∧ Below w.heap.size w w' := by
 subst h; exact zMk s w
theorem zMi (s : So) (w : World) : Calls Tryz.prog 114 #[.agg #[.int .i64 s.i, .int .i64 s.w]] w fun e w' => e = .returned (.int .i64 (zBn s)) ∧ Below w.heap.size w w' := by
 have HB := bx w #[.int .i64 s.i, .int .i64 s.w] 40; have hc := zCj s; obtain ⟨x, hx⟩ : ∃ x : Nat, cellsOf s = x := ⟨_, rfl⟩
 have e : zBn s = (x : Int) * s.w := by
  unfold zBn; rw [hx]
  by_cases h : sortOk s
  · have := h.2; congr 1; omega
  · have h0 : cellsOf s = 0 := by unfold cellsOf; rw [if_neg h]
    rw [← hx, h0]; simp
 have hw : x = 0 ∨ (1 ≤ s.w ∧ s.w ≤ 16) := by
  by_cases h : sortOk s
  · exact .inr h.2
  · exact .inl (by rw [← hx]; unfold cellsOf; rw [if_neg h])
 rw [e]; have HX := Kh hx; clear hx e; have HC := nx w #[.int .i64 s.i, .int .i64 s.w] 40; have K1 := fun x : Ext (w.alloc (.cells #[.int .i64 s.i, .int .i64 s.w] 40)) => zDt HC.out.two.1 (by have h := HC.out.lt; exact h) x
 have K2 := fun x : Ext (w.alloc (.cells #[.int .i64 s.i, .int .i64 s.w] 40)) => zDt HC.out.two.2 (by have h := HC.out.lt; exact h) x
 go_enter Tryz.func114, Tryz.ntmps114
 go_wp2_with fail
 refine zR4 (by kernel_rfl) (by kernel_rfl) ?_
 repeat go_big_quiet_step ((go_at_call 159; exact zDs _ (zMj s x HX.out _)))
 refine wpQuiet_nil ?_
 intro _ hw'; obtain ⟨xx, hw''⟩ := hw'; subst hw''
 go_wp2_with fail
 all_goals
  go_ret
  refine ⟨zKv ?_, zDu HB.out (by simp) xx⟩
  rcases (show x = 0 ∨ x = 1 ∨ x = 2 ∨ x = 3 ∨ x = 4 by have := HX.out; omega) with rfl | rfl | rfl | rfl | rfl <;> unfold wrap64 <;> omega
theorem zGo (x : Int) (w : World) : Calls Tryz.prog 104 #[.int .i64 x] w fun e w' => e = .returned (.agg #[.int .i64 0, .int .i64 x]) ∧ Below w.heap.size w w' := by
 go_enter Tryz.func104, Tryz.ntmps104
 go_wp2_with fail
 exact bodyPost_ret (v := .agg #[.int .i64 0, .int .i64 x]) (by simp [results, Tryz.results104, go_sem]) rfl ⟨rfl, (Below.refl _ _).alloc (Nat.le_refl _) _⟩
theorem zG8 (k : Int) (w : World) : Calls Tryz.prog 79 #[.int .i64 k] w fun e w' => e = .returned (.int .i64 (zK1 k)) ∧ w = w' := by
 by_cases h1 : 1 ≤ k ∧ k ≤ 5
 · have e := Kh (zJy (.inl h1))
   obtain ⟨k8, k9⟩ := h1
   go_enter Tryz.func79, Tryz.ntmps79
   go_wp2_with fail
   go_ret
   exact ⟨by rw [e.out]; rfl, rfl⟩
 by_cases h2 : 30 ≤ k ∧ k ≤ 32
 · have e := Kh (zJy (.inr h2))
   have g0 : decide (k ≤ 5) = false := decide_eq_false (by omega)
   have k1 : 1 ≤ k := by omega
   obtain ⟨k8, k9⟩ := h2
   go_enter Tryz.func79, Tryz.ntmps79
   go_wp2_with fail
   go_ret
   exact ⟨by rw [e.out]; rfl, rfl⟩
 by_cases h3 : 6 ≤ k ∧ k ≤ 29
 · have e := Kh (zJz (.inl h3))
   have g0 : decide (k ≤ 5) = false := decide_eq_false (by omega)
   have g1 : decide (30 ≤ k) = false := decide_eq_false (by omega)
   have k1 : 1 ≤ k := by omega
   obtain ⟨k8, k9⟩ := h3
   go_enter Tryz.func79, Tryz.ntmps79
   go_wp2_with fail
   go_ret
   exact ⟨by rw [e.out]; rfl, rfl⟩
 by_cases h4 : k = 37
 · subst h4
   go_enter Tryz.func79, Tryz.ntmps79
   go_wp2_with fail
   go_ret
   exact ⟨rfl, rfl⟩
 by_cases h5 : k = 33
 · subst h5
   go_enter Tryz.func79, Tryz.ntmps79
   go_wp2_with fail
   go_ret
   exact ⟨rfl, rfl⟩
 by_cases h6 : k = 38
 · subst h6
   go_enter Tryz.func79, Tryz.ntmps79
   go_wp2_with fail
   go_ret
   exact ⟨rfl, rfl⟩
 have d4 : (k == 37) = false := by simpa using h4
 have d5 : (k == 33) = false := by simpa using h5
 have d6 : (k == 38) = false := by simpa using h6
 by_cases h7 : 34 ≤ k ∧ k ≤ 36
 · have e := Kh (zJx h7)
   have g0 : decide (k ≤ 5) = false := decide_eq_false (by omega)
   have g1 : decide (k ≤ 32) = false := decide_eq_false (by omega)
   have g2 : decide (k ≤ 29) = false := decide_eq_false (by omega)
   have k1 : 1 ≤ k := by omega
   have k2 : 30 ≤ k := by omega
   have k3 : 6 ≤ k := by omega
   obtain ⟨k8, k9⟩ := h7
   go_enter Tryz.func79, Tryz.ntmps79
   go_wp2_with fail
   go_ret
   exact ⟨by rw [e.out]; rfl, rfl⟩
 · have e : Hid (zK1 k = -1) := Kh (by unfold zK1; rw [if_neg (by omega), if_neg (by omega), if_neg (by omega), if_neg (by omega)])
   by_cases hlo : k < 1
   · have g1 : decide (1 ≤ k) = false := decide_eq_false (by omega)
     have g2 : decide (30 ≤ k) = false := decide_eq_false (by omega)
     have g3 : decide (6 ≤ k) = false := decide_eq_false (by omega)
     have g4 : decide (34 ≤ k) = false := decide_eq_false (by omega)
     clear h1 h2 h3 h4 h5 h6 h7
     go_enter Tryz.func79, Tryz.ntmps79
     go_wp2_with fail
     go_ret
     exact ⟨by rw [e.out]; rfl, rfl⟩
   · have g1 : decide (k ≤ 5) = false := decide_eq_false (by omega)
     have g2 : decide (k ≤ 32) = false := decide_eq_false (by omega)
     have g3 : decide (k ≤ 29) = false := decide_eq_false (by omega)
     have g4 : decide (k ≤ 36) = false := decide_eq_false (by omega)
     have k1 : 1 ≤ k := by omega
     have k2 : 30 ≤ k := by omega
     have k3 : 6 ≤ k := by omega
     have k4 : 34 ≤ k := by omega
     clear h1 h2 h3 h4 h5 h6 h7 hlo
     go_enter Tryz.func79, Tryz.ntmps79
     go_wp2_with fail
     go_ret
     exact ⟨by rw [e.out]; rfl, rfl⟩
end Go.Proofs.YtmolbnghobfmoaaGreat
