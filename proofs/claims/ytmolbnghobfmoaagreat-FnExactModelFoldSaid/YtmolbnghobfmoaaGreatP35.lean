/- Part 35 of what the row Row28 rests on: G34 Za. -/
import Derived.Test.YtmolbnghobfmoaaGreatP34
set_option maxRecDepth 100000
set_option maxHeartbeats 16000000
set_option linter.unusedSimpArgs false
set_option linter.unusedVariables false
namespace Go.Proofs.YtmolbnghobfmoaaGreat
open Go.RowKit
theorem zM0 (B gf : Nat) (A : Option Addr) (c : Nat) (L : List No) (n : No) (w : World) (h : SRIn w B gf A c L n) :
 Calls Tryz.prog 28 #[.pointer (some ⟨gf, 0, none⟩), .agg #[.int .i64 n.k, .int .i64 n.a, .int .i64 n.b, .int .i64 n.c, .int .i64 n.n, .int .i64 n.m, .int .i64 n.s.i, .int .i64 n.s.w, .string n.t]] w fun e w' => zAe w B gf A c L (zGt L n).1 (zGt L n).2 e w' := by
 have H := Kh h; have hB := h.base; clear h; have B1 := bx w (nC n) 42; have N1 := nx w (nC n) 42; have TR := Kh (zLt B gf A c L n _ (H.out.below B1.out)); have TP := Kh (fun (W : World) (hW : Below w.heap.size w W) => zM9 B gf A c L (zOm n) W (H.out.fold.below hW) (by have := H.out.few; omega))
 obtain ⟨kn, hkn⟩ : ∃ kn, zFu L n = kn := ⟨_, rfl⟩
 rw [hkn] at TR; have HK := Kh hkn; clear hkn
 cases kn with
 | «at» p =>
  rw [zGu HK.out]; have hp0 : (0 : Int) ≤ p := (zFv H.out.ok H.out.few H.out.inn HK.out).1.1; have dp : decide ((0 : Int) ≤ p) = true := decide_eq_true hp0; clear TP HK; obtain ⟨k, na, nb, nc, nn, nm, ⟨si, sw⟩, nt⟩ := n; simp only [nC] at B1 N1 TR ⊢
  go_enter Tryz.func28, Tryz.ntmps28
  go_wp2_with (go_at_call 76; refine TR.out.mono ?_; rintro e w2 hk2; obtain ⟨rfl, hb2⟩ := hk2; have B2 := Kh (B1.out.trans (hb2.mono B1.out.size)); clear hb2)
  go_ret
  exact ⟨A, c, rfl, H.out.fold.below B2.out, B2.out.mono hB, zA5.of_below B2.out _ _⟩
 | con wd v =>
  rw [zGv HK.out]; have hp0 := zKn L (zD0 wd v); have dp : decide ((0 : Int) ≤ (zKm L (zD0 wd v)).2) = true := decide_eq_true hp0; clear TP HK; obtain ⟨k, na, nb, nc, nn, nm, ⟨si, sw⟩, nt⟩ := n; simp only [nC] at B1 N1 TR ⊢
  go_enter Tryz.func28, Tryz.ntmps28
  go_wp2_with (go_at_call 76; refine TR.out.mono ?_; rintro e w2 hk2; obtain ⟨A', c', rfl, h1, h2, h3⟩ := zAe.from hk2 B1.out hB; have F4 := Kh h1; have B4 := Kh h2; have H4 := Kh h3; clear h1 h2 h3 hk2)
  go_ret
  exact ⟨A', c', rfl, F4.out, B4.out, H4.out⟩
 | no =>
  rw [zGw HK.out]; clear HK; obtain ⟨k, na, nb, nc, nn, nm, ⟨si, sw⟩, nt⟩ := n; simp only [nC] at B1 N1 TR ⊢
  by_cases hs : zPq k ∧ nb < na
  · have es : zOm ⟨k, na, nb, nc, nn, nm, ⟨si, sw⟩, nt⟩ = ⟨k, nb, na, nc, nn, nm, ⟨si, sw⟩, nt⟩ := by unfold zOm; rw [if_pos hs]
    rw [es] at TP ⊢; generalize (zKm L ⟨k, nb, na, nc, nn, nm, ⟨si, sw⟩, nt⟩).1 = L' at *; generalize (zKm L ⟨k, nb, na, nc, nn, nm, ⟨si, sw⟩, nt⟩).2 = p' at *; simp only [cN] at TP; have S := Kh (fun W => zLq k true (decide_eq_true hs.1) W)
    have hlt := hs.2; clear es hs
    go_enter Tryz.func28, Tryz.ntmps28
    go_wp2_with (first | (go_at_call 76; refine TR.out.mono ?_; rintro e w2 hk2; obtain ⟨rfl, hb2⟩ := hk2; have B2 := Kh (B1.out.trans (hb2.mono B1.out.size)); have N2 := Kh (N1.out.below hb2 N1.out.lt); obtain ⟨y0, y1, y2, y3, y4, y5, y6, y7, y8⟩ := N2.out.nine; have f1 := N2.out.frozen 1; have f2 := N2.out.frozen 2; clear hb2) | (go_at_call 77; refine (S.out _).mono ?_; rintro e w3 ⟨rfl, rfl⟩) | (go_at_call 78; refine (TP.out _ (by exact ((B2.out.setCell (p := ⟨w.heap.size, 1, none⟩) (Nat.le_refl _) _).setCell (p := ⟨w.heap.size, 2, none⟩) (Nat.le_refl _) _))).mono ?_; rintro e w4 ⟨A', c', rfl, h1, h2, h3⟩))
    go_ret; have B4 := Kh ((B2.out.setCell (p := ⟨w.heap.size, 1, none⟩) (Nat.le_refl _) (.int .i64 nb)).setCell (p := ⟨w.heap.size, 2, none⟩) (Nat.le_refl _) (.int .i64 na))
    exact ⟨A', c', rfl, h1, (B4.out.mono hB).trans h2, fun k hk a b => (h3 k (Nat.lt_of_lt_of_le hk B4.out.size) a b).trans (B4.out.block k hk)⟩
  · have es : zOm ⟨k, na, nb, nc, nn, nm, ⟨si, sw⟩, nt⟩ = ⟨k, na, nb, nc, nn, nm, ⟨si, sw⟩, nt⟩ := by unfold zOm; rw [if_neg hs]
    rw [es] at TP ⊢; generalize (zKm L ⟨k, na, nb, nc, nn, nm, ⟨si, sw⟩, nt⟩).1 = L' at *; generalize (zKm L ⟨k, na, nb, nc, nn, nm, ⟨si, sw⟩, nt⟩).2 = p' at *; simp only [cN] at TP; obtain ⟨b, hb⟩ : ∃ b, decide (zPq k) = b := ⟨_, rfl⟩
    have S := Kh (fun W => zLq k b hb W)
    have hd : b = false ∨ (b = true ∧ decide (nb < na) = false) := by
     cases b with
     | false => exact .inl rfl
     | true => exact .inr ⟨rfl, decide_eq_false (fun h => hs ⟨of_decide_eq_true hb, h⟩)⟩
    clear es hs hb
    rcases hd with rfl | ⟨rfl, hd⟩
    all_goals
     go_enter Tryz.func28, Tryz.ntmps28
     go_wp2_with (first | (go_at_call 76; refine TR.out.mono ?_; rintro e w2 hk2; obtain ⟨rfl, hb2⟩ := hk2; have B2 := Kh (B1.out.trans (hb2.mono B1.out.size)); have N2 := Kh (N1.out.below hb2 N1.out.lt); obtain ⟨y0, y1, y2, y3, y4, y5, y6, y7, y8⟩ := N2.out.nine; have f1 := N2.out.frozen 1; have f2 := N2.out.frozen 2; clear hb2) | (go_at_call 77; refine (S.out _).mono ?_; rintro e w3 ⟨rfl, rfl⟩) | (go_at_call 78; refine (TP.out _ (by exact B2.out)).mono ?_; rintro e w4 ⟨A', c', rfl, h1, h2, h3⟩))
     go_ret
     exact ⟨A', c', rfl, h1, (B2.out.mono hB).trans h2, fun k hk a b => (h3 k (Nat.lt_of_lt_of_le hk B2.out.size) a b).trans (B2.out.block k hk)⟩
structure SFdAt (w : World) (gf : Nat) (A : Option Addr) (c : Nat) (AT : Option Addr) (cT : Nat) (l : List No) (r : Nat) (L : List No) (T : List Int) (mm zz : Array Value) (W : World) : Prop where
 bel : Below w.heap.size w W
 plain : Fold l r L T
 fold : SFoldAt W w.heap.size gf A c L
 row : W.ownsRow w.heap.size 3 1 (.slice AT T.length cT) T.length (T.map (.int .i64))
 box : Blk W w.heap.size 31 mm
 res : Blk W (w.heap.size + 1) 31 zz
theorem SFdAt.below {w W W' : World} {gf : Nat} {A : Option Addr} {c : Nat} {AT : Option Addr} {cT : Nat} {l : List No} {r : Nat} {L : List No} {T : List Int} {mm zz : Array Value} (h : SFdAt w gf A c AT cT l r L T mm zz W) (hb : Below W.heap.size W W') : SFdAt w gf A c AT cT l r L T mm zz W' :=
 ⟨h.bel.trans (hb.mono h.bel.size), h.plain, h.fold.below hb, zJ9 h.row hb, h.box.below hb h.box.lt, h.res.below hb h.res.lt⟩
structure SFdLaid (w : World) (gf : Nat) (A : Option Addr) (c : Nat) (AT : Option Addr) (cT : Nat) (l : List No) (r : Nat) (L : List No) (T : List Int) (p : Int) (mm zz : Array Value) (W : World) : Prop where
 bel : Below w.heap.size w W
 plain : Fold l (r + 1) L (T ++ [p])
 fold : SFoldAt W w.heap.size gf A c L
 row : W.ownsRow w.heap.size 3 1 (.slice AT T.length cT) T.length (T.map (.int .i64))
 box : Blk W w.heap.size 31 mm
 res : Blk W (w.heap.size + 1) 31 zz
theorem SFdAt.laid {w W W' : World} {gf : Nat} {A : Option Addr} {c : Nat} {AT : Option Addr} {cT : Nat} {l : List No} {r : Nat} {L : List No} {T : List Int} {mm zz : Array Value} (h : SFdAt w gf A c AT cT l r L T mm zz W) (hr : r < l.length) (h60 : l.length ≤ 60) (hl : zAb l) {A' : Option Addr} {c' : Nat}
 (hf : SFoldAt W' w.heap.size gf A' c' (zGt L (zJv T l[r])).1) (hb : Below w.heap.size W W') (hh : zA5 W W' gf (Value.slice A L.length c).ownBlock) :
    SFdLaid w gf A' c' AT cT l r (zGt L (zJv T l[r])).1 T (zGt L (zJv T l[r])).2 mm zz W' := by
 have keep : ∀ {g : Nat} {t : TypeId} {cs : Array Value}, t ≠ 61 → t ≠ 42 → Blk W g t cs → W'.heap[g]? = W.heap[g]? := fun {g t cs} h1 h2 hB => by
  refine hh g hB.lt (fun e => ?_) (fun e => zJg h.fold.own hB (fun e => h2 e.symm) e.symm)
  subst e
  exact Blk.ne hB h.fold.blk h1 rfl
 refine ⟨h.bel.trans hb, h.plain.succ hr h60 hl, hf, zJk h.row (fun g hg => ?_), (keep (by decide) (by decide) h.box).trans h.box, (keep (by decide) (by decide) h.res).trans h.res⟩
 have hlt := h.row.lt g hg
 refine hh g hlt.2 (fun e => ?_) (fun e => ?_)
 · subst e; exact zJg h.row h.fold.blk (by decide) hg
 · rcases zJm h.row h.fold.own (by decide) with h1 | h1
   · rw [hg] at h1; cases h1
   · exact h1 (hg.trans e)
theorem SFdLaid.below {w W W' : World} {gf : Nat} {A : Option Addr} {c : Nat} {AT : Option Addr} {cT : Nat} {l : List No} {r : Nat} {L : List No} {T : List Int} {p : Int} {mm zz : Array Value} (h : SFdLaid w gf A c AT cT l r L T p mm zz W) (hb : Below W.heap.size W W') : SFdLaid w gf A c AT cT l r L T p mm zz W' :=
 ⟨h.bel.trans (hb.mono h.bel.size), h.plain, h.fold.below hb, zJ9 h.row hb, h.box.below hb h.box.lt, h.res.below hb h.res.lt⟩
theorem SFdLaid.app {w W W' : World} {gf : Nat} {A : Option Addr} {c : Nat} {AT AT' : Option Addr} {cT cT' : Nat} {l : List No} {r : Nat} {L : List No} {T : List Int} {p : Int} {mm zz : Array Value} (h : SFdLaid w gf A c AT cT l r L T p mm zz W)
 (ho : W'.ownsRow w.heap.size 3 1 (.slice AT' (T.length + 1) cT') (T.length + 1) (T.map (.int .i64) ++ [.int .i64 p])) (hg : W.grownBy W' (Value.slice AT T.length cT).ownBlock) : SFdAt w gf A c AT' cT' l (r + 1) L (T ++ [p]) mm zz W' := by
 have hb : Below w.heap.size w W' := h.bel.grown hg h.bel.size (fun k e => (h.row.lt k e).1)
 refine ⟨hb, h.plain, ⟨h.fold.blk.grown hg (fun e => zJg h.row h.fold.blk (by decide) e.symm), ?_, h.fold.base⟩, ?_, h.box.grown hg (fun e => zJg h.row h.box (by decide) e.symm), h.res.grown hg (fun e => zJg h.row h.res (by decide) e.symm)⟩
 · refine zJk h.fold.own (fun g hgo => ?_)
   exact hg.block g (h.fold.own.lt g hgo).2 (fun e => by
    rcases zJm h.row h.fold.own (by decide) with h1 | h1
    · rw [← e] at h1; cases h1
    · exact h1 (e.symm.trans hgo.symm))
 · rw [List.map_append, show (T ++ [p]).length = T.length + 1 by simp]; exact ho
theorem SFdAt.six {w W : World} {gf : Nat} {A : Option Addr} {c : Nat} {AT : Option Addr} {cT : Nat} {l : List No} {r : Nat} {L : List No} {T : List Int} {v0 v1 v2 v3 v4 : Value} {zz : Array Value} (h : SFdAt w gf A c AT cT l r L T #[v0, v1, v2, v3, v4] zz W) :
 W.cell? ⟨w.heap.size, 0, none⟩ = some v0 ∧ W.cell? ⟨w.heap.size, 1, none⟩ = some v1 ∧ W.cell? ⟨w.heap.size, 2, none⟩ = some v2 ∧ W.cell? ⟨w.heap.size, 3, none⟩ = some v3 ∧ W.cell? ⟨w.heap.size, 4, none⟩ = some v4 ∧ W.cell? ⟨gf, 0, none⟩ = some (.slice A L.length c) :=
 ⟨h.box.five.1, h.box.five.2.1, h.box.five.2.2.1, h.box.five.2.2.2.1, h.box.five.2.2.2.2, by rw [h.fold.blk.cell]; rfl⟩
theorem SFdAt.put5 {w W : World} {gf : Nat} {A : Option Addr} {c : Nat} {AT : Option Addr} {cT : Nat} {l : List No} {r : Nat} {L : List No} {T : List Int} {v0 v1 v2 v3 v4 a b c' d e : Value} (h : SFdAt w gf A c AT cT l r L T #[v0, v1, v2, v3, v4] #[a, b, c', d, e] W) (z0 z1 z2 z3 z4 : Value) :
 SFdAt w gf A c AT cT l r L T #[v0, v1, v2, v3, v4] #[z0, z1, z2, z3, z4] (((((W.setCell ⟨w.heap.size + 1, 0, none⟩ z0).setCell ⟨w.heap.size + 1, 1, none⟩ z1).setCell ⟨w.heap.size + 1, 2, none⟩ z2).setCell ⟨w.heap.size + 1, 3, none⟩ z3).setCell ⟨w.heap.size + 1, 4, none⟩ z4) :=
 ⟨zB3 h.bel (by omega) _ _ _ _ _, h.plain, ⟨h.fold.blk.far5 (Blk.ne h.fold.blk h.res (by decide)) _ _ _ _ _, zJn h.fold.own (zJg h.fold.own h.res (by decide)) _ _ _ _ _, h.fold.base⟩, zJn h.row (zJg h.row h.res (by decide)) _ _ _ _ _,
  h.box.far5 (by omega) _ _ _ _ _, h.res.put5 _ _ _ _ _⟩
def SMoTo (w : World) (m : Mo) (e : Ending) (w' : World) : Prop :=
 ∃ A0 A1 A2 A3 A4 c0 c1 c2 c3 c4, e = .returned (.agg #[.slice A0 m.ns.length c0, .slice A1 m.ins.length c1, .slice A2 m.nxs.length c2, .slice A3 m.bads.length c3, .slice A4 m.hols.length c4]) ∧ MoR w' A0 A1 A2 A3 A4 m ∧ Below w.heap.size w w'
theorem zLl {T : List Int} {l : List Bi} (h : ∀ b ∈ l, 0 ≤ toP T b.st) : zLk T l = l.map (mvB T) := by
 unfold zLk; rw [List.filter_eq_self.2 (fun b hb => by simpa using h b hb)]
theorem smo_end {w W : World} {gf : Nat} {A AT : Option Addr} {c cT : Nat} {m : Mo} {L : List No} {T : List Int} {r0 r1 r2 r3 r4 : Value} {B1 B2 B3 B4 : Option Addr} {d1 d2 d3 d4 v1 v2 v3 v4 : Nat} {a0 a1 a2 a3 a4 z0 z1 z2 z3 z4 : Value} (hF : SFdAt w gf A c AT cT m.ns m.ns.length L T #[r0, r1, r2, r3, r4] #[a0, a1, a2, a3, a4] W) (hL : L.length ≤ 60)
 (hlen : m.ns.length ≤ 1048576 ∧ m.ins.length ≤ 1048576 ∧ m.nxs.length ≤ 1048576 ∧ m.bads.length ≤ 1048576 ∧ m.hols.length ≤ 1048576) (e1 : zLk T m.ins = m.ins.map (mvB T)) (e2 : zLk T m.nxs = m.nxs.map (mvB T))
    (o1 : W.ownsRow v1 55 2 (.slice B1 (zLk T m.ins).length d1) (zLk T m.ins).length (zC0 (zLk T m.ins))) (o2 : W.ownsRow v2 55 2 (.slice B2 (zLk T m.nxs).length d2) (zLk T m.nxs).length (zC0 (zLk T m.nxs)))
    (o3 : W.ownsRow v3 3 1 (.slice B3 (m.bads.map (toP T)).length d3) (m.bads.map (toP T)).length ((m.bads.map (toP T)).map (.int .i64))) (o4 : W.ownsRow v4 3 1 (.slice B4 (m.hols.map (toP T)).length d4) (m.hols.map (toP T)).length ((m.hols.map (toP T)).map (.int .i64))) :
    SMoTo w (zHy m L T) (.returned (.agg #[.slice A L.length c, .slice B1 (zLk T m.ins).length d1, .slice B2 (zLk T m.nxs).length d2, .slice B3 (m.bads.map (toP T)).length d3, .slice B4 (m.hols.map (toP T)).length d4])) (((((W.setCell ⟨w.heap.size + 1, 0, none⟩ z0).setCell ⟨w.heap.size + 1, 1, none⟩ z1).setCell ⟨w.heap.size + 1, 2, none⟩ z2).setCell ⟨w.heap.size + 1, 3, none⟩ z3).setCell ⟨w.heap.size + 1, 4, none⟩ z4) := by
 rw [e1] at o1; rw [e2] at o2; rw [e1, e2]; have hF2 := hF.put5 z0 z1 z2 z3 z4; have p1 := zJn o1 (zJg o1 hF.res (by decide)) z0 z1 z2 z3 z4
 have p2 := zJn o2 (zJg o2 hF.res (by decide)) z0 z1 z2 z3 z4
 have p3 := zJn o3 (zJg o3 hF.res (by decide)) z0 z1 z2 z3 z4
 have p4 := zJn o4 (zJg o4 hF.res (by decide)) z0 z1 z2 z3 z4
 exact ⟨A, B1, B2, B3, B4, c, d1, d2, d3, d4, rfl, ⟨hF2.fold.noAt, zBd p1, zBd p2, IAt.of_own p3, IAt.of_own p4, by simp only [zHy, List.length_map]; omega⟩, hF2.bel⟩
theorem zM2 (A0 A1 A2 A3 A4 : Option Addr) (c0 c1 c2 c3 c4 : Nat) (m : Mo) (w : World) (hM : MoArg w A0 A1 A2 A3 A4 c0 c1 c2 c3 c4 m) :
 Calls Tryz.prog 8 #[.agg #[.slice A0 m.ns.length c0, .slice A1 m.ins.length c1, .slice A2 m.nxs.length c2, .slice A3 m.bads.length c3, .slice A4 m.hols.length c4]] w fun e w' => SMoTo w (zE1 m) e w' := by
 have HM := Kh hM; clear hM; have B2 : Hid (Below w.heap.size w ((w.alloc (.cells #[.slice A0 m.ns.length c0, .slice A1 m.ins.length c1, .slice A2 m.nxs.length c2, .slice A3 m.bads.length c3, .slice A4 m.hols.length c4] 31)).alloc (.cells #[.slice none 0 0, .slice none 0 0, .slice none 0 0, .slice none 0 0, .slice none 0 0] 31))) := ((Below.refl _ _).alloc (Nat.le_refl _) _).alloc (by simp) _
 have X1 : Hid (Blk ((w.alloc (.cells #[.slice A0 m.ns.length c0, .slice A1 m.ins.length c1, .slice A2 m.nxs.length c2, .slice A3 m.bads.length c3, .slice A4 m.hols.length c4] 31)).alloc (.cells #[.slice none 0 0, .slice none 0 0, .slice none 0 0, .slice none 0 0, .slice none 0 0] 31)) w.heap.size 31 #[.slice A0 m.ns.length c0, .slice A1 m.ins.length c1, .slice A2 m.nxs.length c2, .slice A3 m.bads.length c3, .slice A4 m.hols.length c4]) := (Blk.new _ _ _).alloc _; have R1 : Hid (Blk ((w.alloc (.cells #[.slice A0 m.ns.length c0, .slice A1 m.ins.length c1, .slice A2 m.nxs.length c2, .slice A3 m.bads.length c3, .slice A4 m.hols.length c4] 31)).alloc (.cells #[.slice none 0 0, .slice none 0 0, .slice none 0 0, .slice none 0 0, .slice none 0 0] 31)) (w.heap.size + 1) 31 #[.slice none 0 0, .slice none 0 0, .slice none 0 0, .slice none 0 0, .slice none 0 0]) := Blk.new_at _ _ _ (by simp)
 have TC := Kh (zM1 A0 A1 A2 A3 A4 c0 c1 c2 c3 c4 m ((w.alloc (.cells #[.slice A0 m.ns.length c0, .slice A1 m.ins.length c1, .slice A2 m.nxs.length c2, .slice A3 m.bads.length c3, .slice A4 m.hols.length c4] 31)).alloc (.cells #[.slice none 0 0, .slice none 0 0, .slice none 0 0, .slice none 0 0, .slice none 0 0] 31)) (HM.out.below B2.out).at)
 by_cases hok : MoOk m
 case neg =>
  have h0 : ¬ zHv m = 0 := fun e => hok ((zHu m).2 e)
  rw [zE2 hok]; generalize zHv m = mc at *; have d0 : (mc == 0) = false := by simpa using h0
  have d1 : (mc != 0) = true := by simpa using h0
  clear hok
  go_enter Tryz.func8, Tryz.ntmps8
  go_wp2_with (go_at_call 17; refine TC.out.mono ?_; rintro e w1 ⟨rfl, hb1⟩; have W1 := Kh (B2.out.trans (hb1.mono B2.out.size)); have R3 := Kh (R1.out.below hb1 R1.out.lt); have f0 := R3.out.frozen 0; have f1 := R3.out.frozen 1; have f2 := R3.out.frozen 2; have f3 := R3.out.frozen 3; have f4 := R3.out.frozen 4; obtain ⟨z0, z1, z2, z3, z4⟩ := R3.out.five; clear hb1)
  exact bodyPost_ret (v := .agg #[.slice none 0 0, .slice none 0 0, .slice none 0 0, .slice none 0 0, .slice none 0 0]) (by simp [results, Tryz.results8, go_sem, z0, z1, z2, z3, z4]) rfl
   ⟨none, none, none, none, none, 0, 0, 0, 0, 0, rfl, ⟨fun h => (by cases h), fun h => (by cases h), fun h => (by cases h), fun h => (by cases h), fun h => (by cases h), by decide⟩, zB3 W1.out (by omega) _ _ _ _ _⟩
 have hc0 := (zHu m).1 hok; rw [hc0] at TC; rw [zE3 hok]; obtain ⟨⟨L9, T9⟩, h9⟩ : ∃ X, zE0 m.ns = X := ⟨_, rfl⟩
 rw [h9]; have H9 := Kh h9; clear h9; dsimp only; have h60 := hok.few; have HO := Kh hok; clear hc0 hok
 go_enter Tryz.func8, Tryz.ntmps8
 go_wp2_with (go_at_call 17; refine TC.out.mono ?_; rintro e w1 ⟨rfl, hb1⟩; have W1 := Kh (B2.out.trans (hb1.mono B2.out.size)); have R3 := Kh (R1.out.below hb1 R1.out.lt); have X3 := Kh (X1.out.below hb1 X1.out.lt); clear hb1)
 have F0 : Hid (SFdAt w w1.heap.size none 0 none 0 m.ns 0 [] [] #[.slice A0 m.ns.length c0, .slice A1 m.ins.length c1, .slice A2 m.nxs.length c2, .slice A3 m.bads.length c3, .slice A4 m.hols.length c4] #[.slice none 0 0, .slice none 0 0, .slice none 0 0, .slice none 0 0, .slice none 0 0] (w1.alloc (.cells #[.slice none 0 0] 61))) :=
  ⟨W1.out.alloc W1.out.size _, Fold.zero _, ⟨Blk.new _ _ _, World.ownsRow_nil _ _ _ _, W1.out.size⟩, World.ownsRow_nil _ _ _ _, X3.out.alloc _, R3.out.alloc _⟩
 obtain ⟨wz, hwz⟩ : ∃ z, w1.alloc (.cells #[.slice none 0 0] 61) = z := ⟨_, rfl⟩
 rw [hwz] at F0 ⊢; clear hwz W1 R3 X3 TC B2 X1 R1; generalize w1.heap.size = gf at *; obtain ⟨i3, hi, hz0, hz1, hz2⟩ := info_parts zF2
 go_loopw [4, 5] (fun t j wr => ∃ (r : Nat) (L : List No) (T : List Int) (A : Option Addr) (c : Nat) (AT : Option Addr) (cT : Nat), r ≤ m.ns.length ∧ Hid (SFdAt w gf A c AT cT m.ns r L T #[.slice A0 m.ns.length c0, .slice A1 m.ins.length c1, .slice A2 m.nxs.length c2, .slice A3 m.bads.length c3, .slice A4 m.hols.length c4] #[.slice none 0 0, .slice none 0 0, .slice none 0 0, .slice none 0 0, .slice none 0 0] wr) ∧ t = .slice AT T.length cT ∧ j = .int .i64 (r : Int)) (fun _ j _ => m.ns.length - (intOf j).toNat)
 case atStart => exact ⟨0, [], [], none, 0, none, 0, Nat.zero_le _, F0, rfl, rfl⟩
 case round =>
  obtain ⟨wx, rfl⟩ : ∃ x : World, x = wr := ⟨_, rfl⟩
  clear F0; obtain ⟨r, L, T, A, c, AT, cT, hr, F1, rfl, rfl⟩ := hrel; have hTl := F1.out.plain.len; have hLl := F1.out.plain.few; obtain ⟨m0, m1, m2, m3, m4⟩ := F1.out.box.five
  by_cases hlt : r < m.ns.length
  case neg =>
   obtain rfl : r = m.ns.length := by omega
   obtain ⟨rfl, rfl⟩ : L = L9 ∧ T = T9 := by
    have e := F1.out.plain.all.symm.trans H9.out; injection e with e1 e2
    exact ⟨e1, e2⟩
   have HI : Hid (BiIn m.ins T.length) := fun b hb => by
    have := HO.out.inits b hb; obtain ⟨p1, p2, -⟩ := this; unfold zFk at p1 p2; rw [hTl]; omega
   have HX : Hid (BiIn m.nxs T.length) := fun b hb => by
    have := HO.out.nexts b hb; obtain ⟨p1, p2, -⟩ := this; unfold zFk at p1 p2; rw [hTl]; omega
   have HBd : Hid (IIn m.bads T.length) := fun b hb => by
    have := (HO.out.bad b hb).1; unfold zFk at this; rw [hTl]; omega
   have HHo : Hid (IIn m.hols T.length) := fun b hb => by
    have := (HO.out.hold b hb).1; unfold zFk at this; rw [hTl]; omega
   have hI6 := HM.out.at.len.2.1; have hX6 := HM.out.at.len.2.2.1; have hB6 := HM.out.at.len.2.2.2.1; have hH6 := HM.out.at.len.2.2.2.2; have hT6 : T.length ≤ 1048576 := by omega
   have hL60 : L.length ≤ 60 := by omega
   have E1 : Hid (zLk T m.ins = m.ins.map (mvB T)) := Kh (zLl (fun b hb => by
    have := HI.out b hb
    exact (F1.out.plain.place b.st this.1.1 (by omega)).1))
   have E2 : Hid (zLk T m.nxs = m.nxs.map (mvB T)) := Kh (zLl (fun b hb => by
    have := HX.out b hb
    exact (F1.out.plain.place b.st this.1.1 (by omega)).1))
   have HTl := Kh hTl; clear hTl
   go_wp2_with fail
   have F := Kh (F1.out.below (Below.refl _ _).drew); clear F1 m0 m1 m2 m3 m4; have f0 := F.out.res.frozen 0; have f1 := F.out.res.frozen 1; have f2 := F.out.res.frozen 2; have f3 := F.out.res.frozen 3; have f4 := F.out.res.frozen 4; obtain ⟨x0, x1, x2, x3, x4⟩ := F.out.res.five
   go_region_held3 (fun W => W.cell? ⟨w.heap.size, 0, none⟩ = some (.slice A0 m.ns.length c0) ∧ W.cell? ⟨w.heap.size, 1, none⟩ = some (.slice A1 m.ins.length c1) ∧ W.cell? ⟨w.heap.size, 2, none⟩ = some (.slice A2 m.nxs.length c2) ∧ W.cell? ⟨w.heap.size, 3, none⟩ = some (.slice A3 m.bads.length c3) ∧ W.cell? ⟨w.heap.size, 4, none⟩ = some (.slice A4 m.hols.length c4) ∧ W.cell? ⟨gf, 0, none⟩ = some (.slice A L.length c)) (first | with_reducible exact F.out.six | with_reducible exact (F.out.put5 _ _ _ _ _).six) (first
    | (go_at_call 30; with_reducible show Calls _ _ #[.slice A1 m.ins.length c1, _] _ _; refine (zLm A1 AT c1 cT m.ins T _ (by exact (HM.out.below F.out.bel).at.ins) (by exact IAt.of_own F.out.row) hI6 hT6 HI.out).mono ?_; rintro e v1 ⟨B1, d1, rfl, ho, hb⟩; have F := Kh (F.out.below hb); have O1 := Kh ho; clear ho hb; clear f0 f1 f2 f3 f4 x0 x1 x2 x3 x4; have f0 := F.out.res.frozen 0; have f1 := F.out.res.frozen 1; have f2 := F.out.res.frozen 2; have f3 := F.out.res.frozen 3; have f4 := F.out.res.frozen 4; obtain ⟨x0, x1, x2, x3, x4⟩ := F.out.res.five)
    | (go_at_call 30; with_reducible show Calls _ _ #[.slice A2 m.nxs.length c2, _] _ _; refine (zLm A2 AT c2 cT m.nxs T _ (by exact (HM.out.below F.out.bel).at.nxs) (by exact IAt.of_own F.out.row) hX6 hT6 HX.out).mono ?_; rintro e v2 ⟨B2, d2, rfl, ho, hb⟩; have F := Kh (F.out.below hb); have O1 := Kh (zJ9 O1.out hb); have O2 := Kh ho; clear ho hb; clear f0 f1 f2 f3 f4 x0 x1 x2 x3 x4; have f0 := F.out.res.frozen 0; have f1 := F.out.res.frozen 1; have f2 := F.out.res.frozen 2; have f3 := F.out.res.frozen 3; have f4 := F.out.res.frozen 4; obtain ⟨x0, x1, x2, x3, x4⟩ := F.out.res.five)
    | (go_at_call 31; with_reducible show Calls _ _ #[.slice A3 m.bads.length c3, _] _ _; refine (zM3 A3 AT c3 cT m.bads T _ (by exact (HM.out.below F.out.bel).at.bads) (by exact IAt.of_own F.out.row) hB6 hT6 HBd.out).mono ?_; rintro e v3 ⟨B3, d3, rfl, ho, hb⟩; have F := Kh (F.out.below hb); have O1 := Kh (zJ9 O1.out hb); have O2 := Kh (zJ9 O2.out hb); have O3 := Kh ho; clear ho hb; clear f0 f1 f2 f3 f4 x0 x1 x2 x3 x4; have f0 := F.out.res.frozen 0; have f1 := F.out.res.frozen 1; have f2 := F.out.res.frozen 2; have f3 := F.out.res.frozen 3; have f4 := F.out.res.frozen 4; obtain ⟨x0, x1, x2, x3, x4⟩ := F.out.res.five)
    | (go_at_call 31; with_reducible show Calls _ _ #[.slice A4 m.hols.length c4, _] _ _; refine (zM3 A4 AT c4 cT m.hols T _ (by exact (HM.out.below F.out.bel).at.hols) (by exact IAt.of_own F.out.row) hH6 hT6 HHo.out).mono ?_; rintro e v4 ⟨B4, d4, rfl, ho, hb⟩; have F := Kh (F.out.below hb); have O1 := Kh (zJ9 O1.out hb); have O2 := Kh (zJ9 O2.out hb); have O3 := Kh (zJ9 O3.out hb); have O4 := Kh ho; clear ho hb; clear f0 f1 f2 f3 f4 x0 x1 x2 x3 x4; have f0 := F.out.res.frozen 0; have f1 := F.out.res.frozen 1; have f2 := F.out.res.frozen 2; have f3 := F.out.res.frozen 3; have f4 := F.out.res.frozen 4; obtain ⟨x0, x1, x2, x3, x4⟩ := F.out.res.five))
   all_goals
    go_wp2_with fail
    exact bodyPost_ret (v := .agg #[.slice A L.length c, .slice B1 (zLk T m.ins).length d1, .slice B2 (zLk T m.nxs).length d2, .slice B3 (m.bads.map (toP T)).length d3, .slice B4 (m.hols.map (toP T)).length d4]) (by simp [results, Tryz.results8, go_sem, x0, x1, x2, x3, x4]) rfl
     (smo_end F.out hL60 HM.out.at.len E1.out E2.out O1.out O2.out O3.out O4.out)
  have HN := Kh (F1.out.plain.parted hlt h60 HO.out.nodes)
  have HP : Hid (zAd m.ns[r] T.length) := by
   have hn := HO.out.nodes r hlt; have hl : (m.ns.take r).length = T.length := by simp; omega
   exact ⟨fun h => by have := (hn.a h).1; rwa [hl] at this, fun h => by have := (hn.b h).1; rwa [hl] at this, fun h => by have := (hn.c h).1; rwa [hl] at this⟩
  have HK0 : Hid (0 ≤ zK1 m.ns[r].k) := Kh (HO.out.nodes r hlt).out.2.1.1; obtain ⟨g, rfl, hg, hc⟩ := (HM.out.below F1.out.bel).at.ns (by omega)
  obtain ⟨y0, y1, y2, y3, y4, y5, y6, y7, y8⟩ := hc r hlt; clear hc; have hj0 : (0 : Int) ≤ (r : Int) := by omega
  have hj1 : (r : Int) < (m.ns.length : Int) := by omega
  have e1 := wr1 (r := r) (by omega)
  have hT6 : T.length ≤ 1048576 := by omega
  have hL6 : L.length ≤ 60 := by omega
  have HTl := Kh hTl; clear hTl
  go_wp2_with (first
   | (go_at_call 29; refine (zM8 AT cT T m.ns[r] _ (by exact IAt.of_own F1.out.row) hT6 HK0.out HP.out).mono ?_; rintro e w3 ⟨rfl, hb3⟩; have F3 := Kh (F1.out.below hb3); clear hb3)
   | (go_at_call 28; refine (zM0 w.heap.size gf A c L (zJv T m.ns[r]) _ ⟨F3.out.fold, hL6, F3.out.plain.ok, HN.out⟩).mono ?_; rintro e w4 ⟨A', c', rfl, hf, hb, hh⟩; have F4 := Kh (F3.out.laid hlt h60 HO.out.nodes hf hb hh); clear hf hb hh; have F5 := Kh (F4.out.below ((Below.refl _ _).alloc (Nat.le_refl _) (.cells #[.int .i64 (zGt L (zJv T m.ns[r])).2] 3))))
   | (at_builtin; refine zR2 rfl _ _ 24 rfl w.heap.size 3 i3 (.int .i64 0) 1 8 Tryz.underlying24 hi hz0 hz1 hz2 rfl (by decide) _ T.length (T.map (.int .i64)) rfl (by exact F5.out.row) (some ⟨w4.heap.size, 0, none⟩) 1 1 [.int .i64 (zGt L (zJv T m.ns[r])).2] rfl (by exact .inr ⟨_, rfl, Blk.news (Blk.new_at _ 3 #[.int .i64 (zGt L (zJv T m.ns[r])).2] rfl)⟩) rfl (by simp [Value.oneCell']) (by unfold maxLen; omega) (by omega) (by exact F5.out.bel.size) ?_; intro A5 c5 w5 ho5 hg5 hor5; have F6 := Kh (F5.out.app ho5 ⟨hg5.os, hg5.tape, hg5.output, hg5.size, hg5.block⟩); clear ho5 hg5 hor5))
  go_roundw
  case rel => exact ⟨r + 1, _, _, A', c', A5, c5, by omega, F6, by simp, by go_num⟩
  case measure => simp [intOf]; omega
def IArg (w : World) (A : Option Addr) (l : List Int) : Prop :=
 0 < l.length → ∃ b off, A = some ⟨b, off, none⟩ ∧ b < w.heap.size ∧ ∀ k (h : k < l.length), w.cell? ⟨b, off + k, none⟩ = some (.int .i64 l[k])
theorem IArg.below {w w' : World} {A : Option Addr} {l : List Int} (h : IArg w A l) (hb : Below w.heap.size w w') : IArg w' A l := fun hp => by
 obtain ⟨b, off, rfl, hg, hc⟩ := h hp
 exact ⟨b, off, rfl, Nat.lt_of_lt_of_le hg hb.size, fun k hk => (hb.cell (p := ⟨b, off + k, none⟩) hg).trans (hc k hk)⟩
def zA0 (w : World) (A : Option Addr) (l : List Bi) : Prop :=
 0 < l.length → ∃ b off, A = some ⟨b, off, none⟩ ∧ b < w.heap.size ∧ ∀ k (h : k < l.length), w.cell? ⟨b, off + k * 2, none⟩ = some (.int .i64 l[k].st) ∧ w.cell? ⟨b, off + k * 2 + 1, none⟩ = some (.int .i64 l[k].nd)
theorem zA0.below {w w' : World} {A : Option Addr} {l : List Bi} (h : zA0 w A l) (hb : Below w.heap.size w w') : zA0 w' A l := fun hp => by
 obtain ⟨b, off, rfl, hg, hc⟩ := h hp; have e : ∀ j, w'.cell? ⟨b, j, none⟩ = w.cell? ⟨b, j, none⟩ := fun j => hb.cell (p := ⟨b, j, none⟩) hg
 exact ⟨b, off, rfl, Nat.lt_of_lt_of_le hg hb.size, fun k hk => by rw [e, e]; exact hc k hk⟩
def zA8 (w : World) (A : Option Addr) (l : List No) : Prop :=
 0 < l.length → ∃ b off, A = some ⟨b, off, none⟩ ∧ b < w.heap.size ∧ ∀ k (h : k < l.length), (w.cell? ⟨b, off + k * 9, none⟩ = some (.int .i64 l[k].k) ∧ w.cell? ⟨b, off + k * 9 + 1, none⟩ = some (.int .i64 l[k].a) ∧ w.cell? ⟨b, off + k * 9 + 2, none⟩ = some (.int .i64 l[k].b) ∧
  w.cell? ⟨b, off + k * 9 + 3, none⟩ = some (.int .i64 l[k].c) ∧ w.cell? ⟨b, off + k * 9 + 4, none⟩ = some (.int .i64 l[k].n) ∧ w.cell? ⟨b, off + k * 9 + 5, none⟩ = some (.int .i64 l[k].m) ∧ w.cell? ⟨b, off + k * 9 + 6, none⟩ = some (.int .i64 l[k].s.i) ∧
  w.cell? ⟨b, off + k * 9 + 7, none⟩ = some (.int .i64 l[k].s.w) ∧ w.cell? ⟨b, off + k * 9 + 8, none⟩ = some (.string l[k].t)) ∧ l[k].t.size ≤ 9223372036854775807
theorem zA8.below {w w' : World} {A : Option Addr} {l : List No} (h : zA8 w A l) (hb : Below w.heap.size w w') : zA8 w' A l := fun hp => by
 obtain ⟨b, off, rfl, hg, hc⟩ := h hp; have e : ∀ j, w'.cell? ⟨b, j, none⟩ = w.cell? ⟨b, j, none⟩ := fun j => hb.cell (p := ⟨b, j, none⟩) hg
 exact ⟨b, off, rfl, Nat.lt_of_lt_of_le hg hb.size, fun k hk => by rw [e, e, e, e, e, e, e, e, e]; exact hc k hk⟩
structure MArg (w : World) (A0 A1 A2 A3 A4 : Option Addr) (m : Mo) : Prop where
 ns : zA8 w A0 m.ns
 ins : zA0 w A1 m.ins
 nxs : zA0 w A2 m.nxs
 bads : IArg w A3 m.bads
 hols : IArg w A4 m.hols
 len : m.ns.length ≤ 9223372036854775807 ∧ m.ins.length ≤ 9223372036854775807 ∧ m.nxs.length ≤ 9223372036854775807 ∧ m.bads.length ≤ 9223372036854775807 ∧ m.hols.length ≤ 9223372036854775807
 i64a : ∀ b ∈ m.ins, zEo b.st
 i64b : ∀ b ∈ m.nxs, zEo b.st
theorem MArg.below {w w' : World} {A0 A1 A2 A3 A4 : Option Addr} {m : Mo} (h : MArg w A0 A1 A2 A3 A4 m) (hb : Below w.heap.size w w') : MArg w' A0 A1 A2 A3 A4 m :=
 ⟨h.ns.below hb, h.ins.below hb, h.nxs.below hb, h.bads.below hb, h.hols.below hb, h.len, h.i64a, h.i64b⟩
theorem zOs (A : Option Addr) (n cap : Nat) (left : Int) (w : World) (h0 : 0 ≤ left) (h1 : left ≤ 1048576) (hn : n ≤ 9223372036854775807) :
 Calls Tryz.prog 27 #[.slice A n cap, .int .i64 left] w fun e w' => e = .returned (.int .i64 (zGy n left)) ∧ w = w' := by
 unfold zGy; have e1 : IntKind.i64.wrap (left - (n : Int)) = left - n := zRa (by omega) (by omega)
 by_cases h : left < n
 · have d : decide (left - (n : Int) < 0) = true := decide_eq_true (by omega)
   rw [if_pos h]
   go_enter Tryz.func27, Tryz.ntmps27
   go_wp2_with fail
   go_ret
   exact ⟨rfl, rfl⟩
 · have d : decide (left - (n : Int) < 0) = false := decide_eq_false (by omega)
   rw [if_neg h]
   go_enter Tryz.func27, Tryz.ntmps27
   go_wp2_with fail
   go_ret
   exact ⟨rfl, rfl⟩
theorem zOr (A : Option Addr) (n cap : Nat) (left : Int) (w : World) (h0 : 0 ≤ left) (h1 : left ≤ 1048576) (hn : n ≤ 9223372036854775807) :
 Calls Tryz.prog 26 #[.slice A n cap, .int .i64 left] w fun e w' => e = .returned (.int .i64 (zGy n left)) ∧ w = w' := by
 unfold zGy; have e1 : IntKind.i64.wrap (left - (n : Int)) = left - n := zRa (by omega) (by omega)
 by_cases h : left < n
 · have d : decide (left - (n : Int) < 0) = true := decide_eq_true (by omega)
   rw [if_pos h]
   go_enter Tryz.func26, Tryz.ntmps26
   go_wp2_with fail
   go_ret
   exact ⟨rfl, rfl⟩
 · have d : decide (left - (n : Int) < 0) = false := decide_eq_false (by omega)
   rw [if_neg h]
   go_enter Tryz.func26, Tryz.ntmps26
   go_wp2_with fail
   go_ret
   exact ⟨rfl, rfl⟩
theorem zOx (n : No) (left : Int) (w : World) (h0 : 0 ≤ left) (h1 : left ≤ 1048576) (hn : n.t.size ≤ 9223372036854775807) :
 Calls Tryz.prog 75 #[.agg #[.int .i64 n.k, .int .i64 n.a, .int .i64 n.b, .int .i64 n.c, .int .i64 n.n, .int .i64 n.m, .int .i64 n.s.i, .int .i64 n.s.w, .string n.t], .int .i64 left] w fun e w' => e = .returned (.int .i64 (zGy n.t.size left)) ∧ Below w.heap.size w w' := by
 have B1 := bx w #[.int .i64 n.k, .int .i64 n.a, .int .i64 n.b, .int .i64 n.c, .int .i64 n.n, .int .i64 n.m, .int .i64 n.s.i, .int .i64 n.s.w, .string n.t] 101; unfold zGy; have e1 : IntKind.i64.wrap (left - (n.t.size : Int)) = left - n.t.size := zRa (by omega) (by omega)
 by_cases h : left < n.t.size
 · have d : decide (left - (n.t.size : Int) < 0) = true := decide_eq_true (by omega)
   rw [if_pos h]
   go_enter Tryz.func75, Tryz.ntmps75
   go_wp2_with fail
   go_ret
   exact ⟨rfl, B1.out⟩
 · have d : decide (left - (n.t.size : Int) < 0) = false := decide_eq_false (by omega)
   rw [if_neg h]
   go_enter Tryz.func75, Tryz.ntmps75
   go_wp2_with fail
   go_ret
   exact ⟨rfl, B1.out⟩
def zOt : List No → Int → Int
 | [], x => x
 | n :: t, x => if zGy n.t.size x < 0 then -1 else zOt t (zGy n.t.size x)
theorem zOu (l : List No) (x : Int) (h : 0 ≤ x) : -1 ≤ zOt l x ∧ zOt l x ≤ x := by
 induction l generalizing x with
 | nil => exact ⟨by simp [zOt]; omega, Int.le_refl _⟩
 | cons n t ih =>
  unfold zOt; have hl : zGy n.t.size x ≤ x := by unfold zGy; split <;> omega
  split
  · omega
  · have := ih (zGy n.t.size x) (by omega); omega
theorem zOv (l : List No) (x : Int) (h : 0 ≤ x) (hx : x ≤ 1048576) (hs : 0 ≤ zOt l x) : ∀ n ∈ l, n.t.size ≤ 1048576 := by
 induction l generalizing x with
 | nil => intro n hn; cases hn
 | cons n t ih =>
  unfold zOt at hs; have hl : zGy n.t.size x ≤ x ∧ (0 ≤ zGy n.t.size x → n.t.size ≤ 1048576) := by unfold zGy; split <;> omega
  split at hs
  · omega
  · intro k hk
    rcases List.mem_cons.1 hk with rfl | hk
    · exact hl.2 (by omega)
    · exact ih (zGy n.t.size x) (by omega) (by omega) hs k hk
theorem zOy (A : Option Addr) (cap : Nat) (l : List No) (left : Int) (w : World) (hA : zA8 w A l) (h0 : 0 ≤ left) (h1 : left ≤ 1048576) (hn : l.length ≤ 9223372036854775807) :
 Calls Tryz.prog 25 #[.slice A l.length cap, .int .i64 left] w fun e w' => e = .returned (.int .i64 (if zGy l.length left < 0 then -1 else zOt l (zGy l.length left))) ∧ Below w.heap.size w w' := by
 have HA := Kh hA; clear hA; unfold zGy; have e1 : IntKind.i64.wrap (left - (l.length : Int)) = left - l.length := zRa (by omega) (by omega)
 by_cases h : left < l.length
 · have d : decide (left - (l.length : Int) < 0) = true := decide_eq_true (by omega)
   rw [if_pos h, if_pos (by omega)]
   go_enter Tryz.func25, Tryz.ntmps25
   go_wp2_with fail
   go_ret
   exact ⟨rfl, Below.refl _ _⟩
 have d : decide (left - (l.length : Int) < 0) = false := decide_eq_false (by omega)
 rw [if_neg h, if_neg (by omega)]
 obtain ⟨x0, hx0⟩ : ∃ x0, left - (l.length : Int) = x0 := ⟨_, rfl⟩
 rw [hx0] at e1 d ⊢; have hx1 : 0 ≤ x0 := by omega
 have hx2 : x0 ≤ 1048576 := by omega
 have hl20 : l.length ≤ 1048576 := by omega
 obtain ⟨V, hV⟩ : ∃ V, zOt l x0 = V := ⟨_, rfl⟩
 rw [hV]; have HV : Hid (zOt (l.drop 0) x0 = V) := Kh (by rw [List.drop_zero]; exact hV)
 clear hV h h0 h1
 go_enter Tryz.func25, Tryz.ntmps25
 go_wp2_with fail
 go_loopw [1, 5] (fun v i wr => ∃ (r : Nat) (x : Int), r ≤ l.length ∧ 0 ≤ x ∧ x ≤ 1048576 ∧ Hid (zOt (l.drop r) x = V) ∧ Hid (Below w.heap.size w wr) ∧ v = .int .i64 x ∧ i = .int .i64 (r : Int)) (fun _ i _ => l.length - (intOf i).toNat)
 case atStart => exact ⟨0, x0, Nat.zero_le _, hx1, hx2, HV, Below.refl _ _, by simp [hx0], rfl⟩
 case round =>
  obtain ⟨wz, rfl⟩ : ∃ x : World, x = wr := ⟨_, rfl⟩
  clear HV hx1 hx2 hx0 e1 d; obtain ⟨r, x, hr, h0, h1, HV, HB, rfl, rfl⟩ := hrel
  by_cases hlt : r < l.length
  case neg =>
   obtain rfl : r = l.length := by omega
   obtain rfl : x = V := by have := HV.out; rw [List.drop_length] at this; exact this
   go_wp2_with fail
   go_ret
   exact ⟨rfl, HB.out⟩
  obtain ⟨b, off, rfl, hg, hc⟩ := (HA.out.below HB.out) (by omega)
  obtain ⟨⟨y0, y1, y2, y3, y4, y5, y6, y7, y8⟩, hts⟩ := hc r hlt; clear hc; have e1 := wr1 (r := r) (by omega)
  have hj0 : (0 : Int) ≤ (r : Int) := by omega
  have hj1 : (r : Int) < (l.length : Int) := by omega
  have T := Kh (fun W => zOx l[r] x W h0 h1 hts)
  have HS : Hid ((if zGy l[r].t.size x < 0 then -1 else zOt (l.drop (r + 1)) (zGy l[r].t.size x)) = V) := Kh (by rw [← HV.out, List.drop_eq_getElem_cons hlt]; rfl)
  have hlo : zGy l[r].t.size x ≤ x := by unfold zGy; split <;> omega
  generalize zGy l[r].t.size x = y at *; clear hts HV
  by_cases hy : y < 0
  · have d : decide (y < 0) = true := decide_eq_true hy
    obtain rfl : -1 = V := by have := HS.out; rwa [if_pos hy] at this
    go_wp2_with (go_at_call 75; refine (T.out _).mono ?_; rintro e w3 ⟨rfl, hb3⟩; have HB3 := Kh (HB.out.trans (hb3.mono HB.out.size)); clear hb3)
    go_ret
    exact ⟨rfl, HB3.out⟩
  · have d : decide (y < 0) = false := decide_eq_false hy
    have HV : Hid (zOt (l.drop (r + 1)) y = V) := Kh (by have := HS.out; rwa [if_neg hy] at this)
    go_wp2_with (go_at_call 75; refine (T.out _).mono ?_; rintro e w3 ⟨rfl, hb3⟩; have HB3 := Kh (HB.out.trans (hb3.mono HB.out.size)); clear hb3)
    go_roundw
    case rel => exact ⟨r + 1, y, by omega, by omega, by omega, HV, HB3, rfl, by go_num⟩
    case measure => simp [intOf]; omega
theorem zGz (n : Nat) (x : Int) (h : 0 ≤ x) (h1 : x ≤ 1048576) : -1 ≤ zGy n x ∧ zGy n x ≤ x ∧ (0 ≤ zGy n x → n ≤ 1048576) := by unfold zGy; split <;> omega
theorem zOw (A0 A1 A2 A3 A4 : Option Addr) (c0 c1 c2 c3 c4 : Nat) (m : Mo) (w : World) (hM : MArg w A0 A1 A2 A3 A4 m) :
 (∀ W, Below w.heap.size w W → Calls Tryz.prog 7 #[.agg #[.slice A0 m.ns.length c0, .slice A1 m.ins.length c1, .slice A2 m.nxs.length c2, .slice A3 m.bads.length c3, .slice A4 m.hols.length c4], .int .i64 1048576] W fun e w' => e = .returned (.int .i64 (-1)) ∧ Below W.heap.size W w') ∨
    ((m.ns.length ≤ 1048576 ∧ m.ins.length ≤ 1048576 ∧ m.nxs.length ≤ 1048576 ∧ m.bads.length ≤ 1048576 ∧ m.hols.length ≤ 1048576) ∧ (∀ n ∈ m.ns, n.t.size ≤ 1048576) ∧ ∃ r : Int, 0 ≤ r ∧ ∀ W, Below w.heap.size w W → Calls Tryz.prog 7 #[.agg #[.slice A0 m.ns.length c0, .slice A1 m.ins.length c1, .slice A2 m.nxs.length c2, .slice A3 m.bads.length c3, .slice A4 m.hols.length c4], .int .i64 1048576] W fun e w' => e = .returned (.int .i64 r) ∧ Below W.heap.size W w') := by
 have HM := Kh hM; obtain ⟨l0, l1, l2, l3, l4⟩ := hM.len; clear hM; have b0 := zGz m.ns.length 1048576 (by omega) (by omega)
 have T0 := Kh (fun (W : World) (hW : Below w.heap.size w W) => zOy A0 c0 m.ns 1048576 W (HM.out.ns.below hW) (by omega) (by omega) l0)
 have b1 : -1 ≤ (if zGy m.ns.length 1048576 < 0 then -1 else zOt m.ns (zGy m.ns.length 1048576)) ∧ (if zGy m.ns.length 1048576 < 0 then -1 else zOt m.ns (zGy m.ns.length 1048576)) ≤ 1048576 ∧ (0 ≤ (if zGy m.ns.length 1048576 < 0 then -1 else zOt m.ns (zGy m.ns.length 1048576)) → m.ns.length ≤ 1048576) := by
  split
  · omega
  · have := zOu m.ns (zGy m.ns.length 1048576) (by omega); omega
 have hnm : 0 ≤ (if zGy m.ns.length 1048576 < 0 then -1 else zOt m.ns (zGy m.ns.length 1048576)) → ∀ n ∈ m.ns, n.t.size ≤ 1048576 := fun h => by
  split at h
  · omega
  · exact zOv m.ns _ (by omega) (by omega) h
 have HNM := Kh hnm; clear hnm; generalize (if zGy m.ns.length 1048576 < 0 then -1 else zOt m.ns (zGy m.ns.length 1048576)) = r0 at *
 clear b0; have BN : Hid (∀ W : World, Below W.heap.size W (W.alloc (.cells #[.slice A0 m.ns.length c0, .slice A1 m.ins.length c1, .slice A2 m.nxs.length c2, .slice A3 m.bads.length c3, .slice A4 m.hols.length c4] 26))) := Kh (fun W => (Below.refl _ _).alloc (Nat.le_refl _) _)
 have KN : Hid (∀ W : World, Blk (W.alloc (.cells #[.slice A0 m.ns.length c0, .slice A1 m.ins.length c1, .slice A2 m.nxs.length c2, .slice A3 m.bads.length c3, .slice A4 m.hols.length c4] 26)) W.heap.size 26 #[.slice A0 m.ns.length c0, .slice A1 m.ins.length c1, .slice A2 m.nxs.length c2, .slice A3 m.bads.length c3, .slice A4 m.hols.length c4]) := Kh (fun W => Blk.new _ _ _)
 by_cases h0 : r0 < 0
 · obtain rfl : r0 = -1 := by omega
   left
   intro W hW
   go_enter Tryz.func7, Tryz.ntmps7
   go_wp2_with (go_at_call 25; refine (T0.out _ (hW.trans ((BN.out W).mono hW.size))).mono ?_; rintro e w3 ⟨rfl, hb3⟩; have HB3 := Kh ((BN.out W).trans (hb3.mono (BN.out W).size)); clear hb3)
   go_ret
   exact ⟨rfl, HB3.out⟩
 have d0 : decide (r0 < 0) = false := decide_eq_false h0; have T1 := Kh (fun (W : World) => zOr A1 m.ins.length c1 r0 W (by omega) (by omega) l1)
 have b2 := zGz m.ins.length r0 (by omega) (by omega)
 generalize zGy m.ins.length r0 = r1 at *
 by_cases h1 : r1 < 0
 · obtain rfl : r1 = -1 := by omega
   left
   intro W hW
   go_enter Tryz.func7, Tryz.ntmps7
   go_wp2_with (first | (go_at_call 25; refine (T0.out _ (hW.trans ((BN.out W).mono hW.size))).mono ?_; rintro e w3 ⟨rfl, hb3⟩; have HB3 := Kh ((BN.out W).trans (hb3.mono (BN.out W).size)); have K3 := Kh ((KN.out W).below hb3 (KN.out W).lt); obtain ⟨x0, x1, x2, x3, x4⟩ := K3.out.five; clear hb3) | (go_at_call 26; with_reducible show Calls _ _ #[.slice A1 m.ins.length _, _] _ _; refine (T1.out _).mono ?_; rintro e wk1 ⟨rfl, rfl⟩))
   go_ret
   exact ⟨rfl, HB3.out⟩
 have d1 : decide (r1 < 0) = false := decide_eq_false h1; have T2 := Kh (fun (W : World) => zOr A2 m.nxs.length c2 r1 W (by omega) (by omega) l2)
 have b3 := zGz m.nxs.length r1 (by omega) (by omega)
 generalize zGy m.nxs.length r1 = r2 at *
 by_cases h2 : r2 < 0
 · obtain rfl : r2 = -1 := by omega
   left
   intro W hW
   go_enter Tryz.func7, Tryz.ntmps7
   go_wp2_with (first | (go_at_call 25; refine (T0.out _ (hW.trans ((BN.out W).mono hW.size))).mono ?_; rintro e w3 ⟨rfl, hb3⟩; have HB3 := Kh ((BN.out W).trans (hb3.mono (BN.out W).size)); have K3 := Kh ((KN.out W).below hb3 (KN.out W).lt); obtain ⟨x0, x1, x2, x3, x4⟩ := K3.out.five; clear hb3) | (go_at_call 26; with_reducible show Calls _ _ #[.slice A1 m.ins.length _, _] _ _; refine (T1.out _).mono ?_; rintro e wk1 ⟨rfl, rfl⟩) | (go_at_call 26; with_reducible show Calls _ _ #[.slice A2 m.nxs.length _, _] _ _; refine (T2.out _).mono ?_; rintro e wk2 ⟨rfl, rfl⟩))
   go_ret
   exact ⟨rfl, HB3.out⟩
 have d2 : decide (r2 < 0) = false := decide_eq_false h2; have T3 := Kh (fun (W : World) => zOs A3 m.bads.length c3 r2 W (by omega) (by omega) l3)
 have b4 := zGz m.bads.length r2 (by omega) (by omega)
 generalize zGy m.bads.length r2 = r3 at *
 by_cases h3 : r3 < 0
 · obtain rfl : r3 = -1 := by omega
   left
   intro W hW
   go_enter Tryz.func7, Tryz.ntmps7
   go_wp2_with (first | (go_at_call 25; refine (T0.out _ (hW.trans ((BN.out W).mono hW.size))).mono ?_; rintro e w3 ⟨rfl, hb3⟩; have HB3 := Kh ((BN.out W).trans (hb3.mono (BN.out W).size)); have K3 := Kh ((KN.out W).below hb3 (KN.out W).lt); obtain ⟨x0, x1, x2, x3, x4⟩ := K3.out.five; clear hb3) | (go_at_call 26; with_reducible show Calls _ _ #[.slice A1 m.ins.length _, _] _ _; refine (T1.out _).mono ?_; rintro e wk1 ⟨rfl, rfl⟩) | (go_at_call 26; with_reducible show Calls _ _ #[.slice A2 m.nxs.length _, _] _ _; refine (T2.out _).mono ?_; rintro e wk2 ⟨rfl, rfl⟩) | (go_at_call 27; with_reducible show Calls _ _ #[.slice A3 m.bads.length _, _] _ _; refine (T3.out _).mono ?_; rintro e wk3 ⟨rfl, rfl⟩))
   go_ret
   exact ⟨rfl, HB3.out⟩
 have d3 : decide (r3 < 0) = false := decide_eq_false h3; have T4 := Kh (fun (W : World) => zOs A4 m.hols.length c4 r3 W (by omega) (by omega) l4)
 have b5 := zGz m.hols.length r3 (by omega) (by omega)
 generalize zGy m.hols.length r3 = r4 at *
 by_cases h4 : r4 < 0
 · obtain rfl : r4 = -1 := by omega
   left
   intro W hW
   go_enter Tryz.func7, Tryz.ntmps7
   go_wp2_with (first | (go_at_call 25; refine (T0.out _ (hW.trans ((BN.out W).mono hW.size))).mono ?_; rintro e w3 ⟨rfl, hb3⟩; have HB3 := Kh ((BN.out W).trans (hb3.mono (BN.out W).size)); have K3 := Kh ((KN.out W).below hb3 (KN.out W).lt); obtain ⟨x0, x1, x2, x3, x4⟩ := K3.out.five; clear hb3) | (go_at_call 26; with_reducible show Calls _ _ #[.slice A1 m.ins.length _, _] _ _; refine (T1.out _).mono ?_; rintro e wk1 ⟨rfl, rfl⟩) | (go_at_call 26; with_reducible show Calls _ _ #[.slice A2 m.nxs.length _, _] _ _; refine (T2.out _).mono ?_; rintro e wk2 ⟨rfl, rfl⟩) | (go_at_call 27; with_reducible show Calls _ _ #[.slice A3 m.bads.length _, _] _ _; refine (T3.out _).mono ?_; rintro e wk3 ⟨rfl, rfl⟩) | (go_at_call 27; with_reducible show Calls _ _ #[.slice A4 m.hols.length _, _] _ _; refine (T4.out _).mono ?_; rintro e wk4 ⟨rfl, rfl⟩))
   go_ret
   exact ⟨rfl, HB3.out⟩
 have d4 : decide (r4 < 0) = false := decide_eq_false h4; right
 refine ⟨⟨by omega, by omega, by omega, by omega, by omega⟩, HNM.out (by omega), r4, by omega, ?_⟩
 intro W hW
 go_enter Tryz.func7, Tryz.ntmps7
 go_wp2_with (first | (go_at_call 25; refine (T0.out _ (hW.trans ((BN.out W).mono hW.size))).mono ?_; rintro e w3 ⟨rfl, hb3⟩; have HB3 := Kh ((BN.out W).trans (hb3.mono (BN.out W).size)); have K3 := Kh ((KN.out W).below hb3 (KN.out W).lt); obtain ⟨x0, x1, x2, x3, x4⟩ := K3.out.five; clear hb3) | (go_at_call 26; with_reducible show Calls _ _ #[.slice A1 m.ins.length _, _] _ _; refine (T1.out _).mono ?_; rintro e wk1 ⟨rfl, rfl⟩) | (go_at_call 26; with_reducible show Calls _ _ #[.slice A2 m.nxs.length _, _] _ _; refine (T2.out _).mono ?_; rintro e wk2 ⟨rfl, rfl⟩) | (go_at_call 27; with_reducible show Calls _ _ #[.slice A3 m.bads.length _, _] _ _; refine (T3.out _).mono ?_; rintro e wk3 ⟨rfl, rfl⟩) | (go_at_call 27; with_reducible show Calls _ _ #[.slice A4 m.hols.length _, _] _ _; refine (T4.out _).mono ?_; rintro e wk4 ⟨rfl, rfl⟩))
 go_ret
 exact ⟨rfl, HB3.out⟩
end Go.Proofs.YtmolbnghobfmoaaGreat
