/- Part 29 of what the row Row28 rests on: F34 G19. -/
import Derived.Test.YtmolbnghobfmoaaGreatP20
import Derived.Test.YtmolbnghobfmoaaGreatP23
import Derived.Test.YtmolbnghobfmoaaGreatP28
set_option maxRecDepth 100000
set_option maxHeartbeats 16000000
set_option linter.unusedSimpArgs false
set_option linter.unusedVariables false
namespace Go.Proofs.YtmolbnghobfmoaaGreat
open Go.RowKit
theorem zJk {w w' : World} {base : Nat} {e : TypeId} {size n : Nat} {v : Value} {xs : List Value} (h : w.ownsRow base e size v n xs) (hb : ∀ g, v.ownBlock = some g → w'.heap[g]? = w.heap[g]?) : w'.ownsRow base e size v n xs := by
 refine ⟨h.1, ?_⟩
 rcases h.2 with h2 | ⟨g, cap, cur, hv, hg, hh, r⟩
 · exact .inl h2
 · exact .inr ⟨g, cap, cur, hv, hg, (hb g (by rw [hv]; rfl)).trans hh, r⟩
structure MoArg (w : World) (A0 A1 A2 A3 A4 : Option Addr) (c0 c1 c2 c3 c4 : Nat) (m : Mo) : Prop where
 «at» : MoAt w A0 A1 A2 A3 A4 c0 c3 c4 m
 nil : MoNil A0 A1 A2 A3 A4 c0 c1 c2 c3 c4
theorem MoArg.below {w w' : World} {A0 A1 A2 A3 A4 : Option Addr} {c0 c1 c2 c3 c4 : Nat} {m : Mo} (h : MoArg w A0 A1 A2 A3 A4 c0 c1 c2 c3 c4 m) (hb : Below w.heap.size w w') : MoArg w' A0 A1 A2 A3 A4 c0 c1 c2 c3 c4 m := ⟨h.at.below hb, h.nil⟩
theorem MoArg.read {w : World} {A0 A1 A2 A3 A4 : Option Addr} {c0 c1 c2 c3 c4 : Nat} {m : Mo} (h : MoArg w A0 A1 A2 A3 A4 c0 c1 c2 c3 c4 m) : MoR w A0 A1 A2 A3 A4 m := ⟨h.at.ns, h.at.ins, h.at.nxs, h.at.bads, h.at.hols, h.at.len⟩
theorem MoNew.nil (w : World) (B : Nat) : MoNew w B none none none none none 0 0 0 0 0 nilM :=
 ⟨World.ownsRow_nil _ _ _ _, World.ownsRow_nil _ _ _ _, World.ownsRow_nil _ _ _ _, World.ownsRow_nil _ _ _ _, World.ownsRow_nil _ _ _ _, .inl rfl, .inl rfl⟩
structure FdAt (w : World) (gf : Nat) (A : Option Addr) (c : Nat) (AT : Option Addr) (cT : Nat) (l : List No) (r : Nat) (L : List No) (T : List Int) (mm zz : Array Value) (W : World) : Prop where
 bel : Below w.heap.size w W
 plain : Fold l r L T
 fold : FoldAt W w.heap.size gf A c L
 row : W.ownsRow w.heap.size 3 1 (.slice AT T.length cT) T.length (T.map (.int .i64))
 box : Blk W w.heap.size 31 mm
 res : Blk W (w.heap.size + 1) 31 zz
theorem FdAt.below {w W W' : World} {gf : Nat} {A : Option Addr} {c : Nat} {AT : Option Addr} {cT : Nat} {l : List No} {r : Nat} {L : List No} {T : List Int} {mm zz : Array Value} (h : FdAt w gf A c AT cT l r L T mm zz W) (hb : Below W.heap.size W W') : FdAt w gf A c AT cT l r L T mm zz W' :=
 ⟨h.bel.trans (hb.mono h.bel.size), h.plain, h.fold.below hb, zJ9 h.row hb, h.box.below hb h.box.lt, h.res.below hb h.res.lt⟩
structure FdLaid (w : World) (gf : Nat) (A : Option Addr) (c : Nat) (AT : Option Addr) (cT : Nat) (l : List No) (r : Nat) (L : List No) (T : List Int) (p : Int) (mm zz : Array Value) (W : World) : Prop where
 bel : Below w.heap.size w W
 plain : Fold l (r + 1) L (T ++ [p])
 fold : FoldAt W w.heap.size gf A c L
 row : W.ownsRow w.heap.size 3 1 (.slice AT T.length cT) T.length (T.map (.int .i64))
 box : Blk W w.heap.size 31 mm
 res : Blk W (w.heap.size + 1) 31 zz
theorem FdAt.laid {w W W' : World} {gf : Nat} {A : Option Addr} {c : Nat} {AT : Option Addr} {cT : Nat} {l : List No} {r : Nat} {L : List No} {T : List Int} {mm zz : Array Value} (h : FdAt w gf A c AT cT l r L T mm zz W) (hr : r < l.length) (h60 : l.length ≤ 60) (hl : zAb l) {A' : Option Addr} {c' : Nat}
 (hf : FoldAt W' w.heap.size gf A' c' (zGt L (zJv T l[r])).1) (hb : Below w.heap.size W W') (hh : zA5 W W' gf (Value.slice A L.length c).ownBlock) :
    FdLaid w gf A' c' AT cT l r (zGt L (zJv T l[r])).1 T (zGt L (zJv T l[r])).2 mm zz W' := by
 have keep : ∀ {g : Nat} {t : TypeId} {cs : Array Value}, t ≠ 71 → t ≠ 42 → Blk W g t cs → W'.heap[g]? = W.heap[g]? := fun {g t cs} h1 h2 hB => by
  refine hh g hB.lt (fun e => ?_) (fun e => zJg h.fold.own hB (fun e => h2 e.symm) e.symm)
  subst e
  exact Blk.ne hB h.fold.blk h1 rfl
 refine ⟨h.bel.trans hb, h.plain.succ hr h60 hl, hf, zJk h.row (fun g hg => ?_), (keep (by decide) (by decide) h.box).trans h.box, (keep (by decide) (by decide) h.res).trans h.res⟩
 have hlt := h.row.lt g hg
 refine hh g hlt.2 (fun e => ?_) (fun e => ?_)
 · subst e; exact zJg h.row h.fold.blk (by decide) hg
 · rcases zJm h.row h.fold.own (by decide) with h1 | h1
   · rw [hg] at h1; cases h1
   · exact h1 (hg.trans e)
theorem FdLaid.below {w W W' : World} {gf : Nat} {A : Option Addr} {c : Nat} {AT : Option Addr} {cT : Nat} {l : List No} {r : Nat} {L : List No} {T : List Int} {p : Int} {mm zz : Array Value} (h : FdLaid w gf A c AT cT l r L T p mm zz W) (hb : Below W.heap.size W W') : FdLaid w gf A c AT cT l r L T p mm zz W' :=
 ⟨h.bel.trans (hb.mono h.bel.size), h.plain, h.fold.below hb, zJ9 h.row hb, h.box.below hb h.box.lt, h.res.below hb h.res.lt⟩
theorem FdLaid.app {w W W' : World} {gf : Nat} {A : Option Addr} {c : Nat} {AT AT' : Option Addr} {cT cT' : Nat} {l : List No} {r : Nat} {L : List No} {T : List Int} {p : Int} {mm zz : Array Value} (h : FdLaid w gf A c AT cT l r L T p mm zz W)
 (ho : W'.ownsRow w.heap.size 3 1 (.slice AT' (T.length + 1) cT') (T.length + 1) (T.map (.int .i64) ++ [.int .i64 p])) (hg : W.grownBy W' (Value.slice AT T.length cT).ownBlock) : FdAt w gf A c AT' cT' l (r + 1) L (T ++ [p]) mm zz W' := by
 have hb : Below w.heap.size w W' := h.bel.grown hg h.bel.size (fun k e => (h.row.lt k e).1)
 refine ⟨hb, h.plain, ⟨h.fold.blk.grown hg (fun e => zJg h.row h.fold.blk (by decide) e.symm), ?_, h.fold.base⟩, ?_, h.box.grown hg (fun e => zJg h.row h.box (by decide) e.symm), h.res.grown hg (fun e => zJg h.row h.res (by decide) e.symm)⟩
 · refine zJk h.fold.own (fun g hgo => ?_)
   exact hg.block g (h.fold.own.lt g hgo).2 (fun e => by
    rcases zJm h.row h.fold.own (by decide) with h1 | h1
    · rw [← e] at h1; cases h1
    · exact h1 (e.symm.trans hgo.symm))
 · rw [List.map_append, show (T ++ [p]).length = T.length + 1 by simp]; exact ho
theorem FdAt.six {w W : World} {gf : Nat} {A : Option Addr} {c : Nat} {AT : Option Addr} {cT : Nat} {l : List No} {r : Nat} {L : List No} {T : List Int} {v0 v1 v2 v3 v4 : Value} {zz : Array Value} (h : FdAt w gf A c AT cT l r L T #[v0, v1, v2, v3, v4] zz W) :
 W.cell? ⟨w.heap.size, 0, none⟩ = some v0 ∧ W.cell? ⟨w.heap.size, 1, none⟩ = some v1 ∧ W.cell? ⟨w.heap.size, 2, none⟩ = some v2 ∧ W.cell? ⟨w.heap.size, 3, none⟩ = some v3 ∧ W.cell? ⟨w.heap.size, 4, none⟩ = some v4 ∧ W.cell? ⟨gf, 0, none⟩ = some (.slice A L.length c) :=
 ⟨h.box.five.1, h.box.five.2.1, h.box.five.2.2.1, h.box.five.2.2.2.1, h.box.five.2.2.2.2, by rw [h.fold.blk.cell]; rfl⟩
theorem Blk.put5 {w : World} {g : Nat} {t : TypeId} {a b c d e : Value} (h : Blk w g t #[a, b, c, d, e]) (v0 v1 v2 v3 v4 : Value) :
 Blk (((((w.setCell ⟨g, 0, none⟩ v0).setCell ⟨g, 1, none⟩ v1).setCell ⟨g, 2, none⟩ v2).setCell ⟨g, 3, none⟩ v3).setCell ⟨g, 4, none⟩ v4) g t #[v0, v1, v2, v3, v4] := by
 have := ((((h.set_ 0 v0).set_ 1 v1).set_ 2 v2).set_ 3 v3).set_ 4 v4; simpa only [List.setIfInBounds_toArray, List.set_cons_zero, List.set_cons_succ] using this
theorem FdAt.put5 {w W : World} {gf : Nat} {A : Option Addr} {c : Nat} {AT : Option Addr} {cT : Nat} {l : List No} {r : Nat} {L : List No} {T : List Int} {v0 v1 v2 v3 v4 a b c' d e : Value} (h : FdAt w gf A c AT cT l r L T #[v0, v1, v2, v3, v4] #[a, b, c', d, e] W) (z0 z1 z2 z3 z4 : Value) :
 FdAt w gf A c AT cT l r L T #[v0, v1, v2, v3, v4] #[z0, z1, z2, z3, z4] (((((W.setCell ⟨w.heap.size + 1, 0, none⟩ z0).setCell ⟨w.heap.size + 1, 1, none⟩ z1).setCell ⟨w.heap.size + 1, 2, none⟩ z2).setCell ⟨w.heap.size + 1, 3, none⟩ z3).setCell ⟨w.heap.size + 1, 4, none⟩ z4) :=
 ⟨zB3 h.bel (by omega) _ _ _ _ _, h.plain, ⟨h.fold.blk.far5 (Blk.ne h.fold.blk h.res (by decide)) _ _ _ _ _, zJn h.fold.own (zJg h.fold.own h.res (by decide)) _ _ _ _ _, h.fold.base⟩, zJn h.row (zJg h.row h.res (by decide)) _ _ _ _ _,
  h.box.far5 (by omega) _ _ _ _ _, h.res.put5 _ _ _ _ _⟩
theorem MoNew.mono {w : World} {B B' : Nat} {A0 A1 A2 A3 A4 : Option Addr} {c0 c1 c2 c3 c4 : Nat} {m : Mo} (h : MoNew w B A0 A1 A2 A3 A4 c0 c1 c2 c3 c4 m) (hB : B' ≤ B) : MoNew w B' A0 A1 A2 A3 A4 c0 c1 c2 c3 c4 m :=
 ⟨zJf h.ns hB, zJf h.ins hB, zJf h.nxs hB, zJf h.bads hB, zJf h.hols hB, h.apB, h.apI⟩
theorem zJh {w : World} {B : Nat} {e : TypeId} {s n c : Nat} {A : Option Addr} {xs : List Value} (h : w.ownsRow B e s (.slice A n c) n xs) (hA : A = none) : c = 0 := by
 subst hA
 rcases h.2 with ⟨hv, _⟩ | ⟨g, cap, cur, hv, _⟩
 · injection hv
 · injection hv with hv; cases hv
theorem zBd {w : World} {B c : Nat} {A : Option Addr} {l : List Bi} (h : w.ownsRow B 55 2 (.slice A l.length c) l.length (zC0 l)) : zA1 w A l := fun hp => by
 obtain ⟨g, cap, e1, hge, hlt⟩ := h.form hp; injection e1 with e1 _ e2
 subst e1; subst e2
 refine ⟨g, rfl, hlt, fun k hk => ⟨?_, ?_⟩⟩
 · rw [show k * 2 = k * 2 + 0 from rfl, h.cellAt (k * 2 + 0) (by omega), zC1 hk (by decide)]; rfl
 · rw [h.cellAt (k * 2 + 1) (by omega), zC1 hk (by decide)]; rfl
theorem zCq {w W0 W : World} {gf : Nat} {A : Option Addr} {c : Nat} {L : List No} {T : List Int} {m : Mo} {B1 B2 B3 B4 : Option Addr} {d1 d2 d3 d4 : Nat} (hL6 : L.length ≤ 1048576) (hf : FoldAt W w.heap.size gf A c L)
 (hv : MvTo W0 B1 B2 B3 B4 d1 d2 d3 d4 (m.ins.map (mvB T)) (m.nxs.map (mvB T)) (m.bads.map (toP T)) (m.hols.map (toP T)) W) (hl : m.ns.length ≤ 1048576 ∧ m.ins.length ≤ 1048576 ∧ m.nxs.length ≤ 1048576 ∧ m.bads.length ≤ 1048576 ∧ m.hols.length ≤ 1048576) :
    Calls Tryz.prog 39 #[.agg #[.slice A L.length c, .slice B1 m.ins.length d1, .slice B2 m.nxs.length d2, .slice B3 m.bads.length d3, .slice B4 m.hols.length d4]] W fun e w' => MoTo W (zHy m L T) e w' := by
 have := zCp A B1 B2 B3 B4 c d1 d2 d3 d4 (zHy m L T) W ⟨hf.noAt, zBd hv.r1, zBd hv.r2, IAt.of_own hv.r3, IAt.of_own hv.r4, by simp only [zHy, List.length_map]; exact ⟨hL6, hl.2⟩⟩
  ⟨zJh hf.own, zJh hv.r1, zJh hv.r2, zJh hv.r3, zJh hv.r4⟩
 simp only [zHy, List.length_map] at this
 exact this
theorem zHx (A0 A1 A2 A3 A4 : Option Addr) (c0 c1 c2 c3 c4 : Nat) (m : Mo) (w : World) (hM : MoArg w A0 A1 A2 A3 A4 c0 c1 c2 c3 c4 m) :
 Calls Tryz.prog 10 #[.agg #[.slice A0 m.ns.length c0, .slice A1 m.ins.length c1, .slice A2 m.nxs.length c2, .slice A3 m.bads.length c3, .slice A4 m.hols.length c4]] w fun e w' => MoTo w (zE1 m) e w' := by
 have HM := Kh hM; clear hM; have B2 : Hid (Below w.heap.size w ((w.alloc (.cells #[.slice A0 m.ns.length c0, .slice A1 m.ins.length c1, .slice A2 m.nxs.length c2, .slice A3 m.bads.length c3, .slice A4 m.hols.length c4] 31)).alloc (.cells #[.slice none 0 0, .slice none 0 0, .slice none 0 0, .slice none 0 0, .slice none 0 0] 31))) := ((Below.refl _ _).alloc (Nat.le_refl _) _).alloc (by simp) _
 have X1 : Hid (Blk ((w.alloc (.cells #[.slice A0 m.ns.length c0, .slice A1 m.ins.length c1, .slice A2 m.nxs.length c2, .slice A3 m.bads.length c3, .slice A4 m.hols.length c4] 31)).alloc (.cells #[.slice none 0 0, .slice none 0 0, .slice none 0 0, .slice none 0 0, .slice none 0 0] 31)) w.heap.size 31 #[.slice A0 m.ns.length c0, .slice A1 m.ins.length c1, .slice A2 m.nxs.length c2, .slice A3 m.bads.length c3, .slice A4 m.hols.length c4]) := (Blk.new _ _ _).alloc _; have R1 : Hid (Blk ((w.alloc (.cells #[.slice A0 m.ns.length c0, .slice A1 m.ins.length c1, .slice A2 m.nxs.length c2, .slice A3 m.bads.length c3, .slice A4 m.hols.length c4] 31)).alloc (.cells #[.slice none 0 0, .slice none 0 0, .slice none 0 0, .slice none 0 0, .slice none 0 0] 31)) (w.heap.size + 1) 31 #[.slice none 0 0, .slice none 0 0, .slice none 0 0, .slice none 0 0, .slice none 0 0]) := Blk.new_at _ _ _ (by simp)
 have TC := Kh (zHw A0 A1 A2 A3 A4 c0 c1 c2 c3 c4 m ((w.alloc (.cells #[.slice A0 m.ns.length c0, .slice A1 m.ins.length c1, .slice A2 m.nxs.length c2, .slice A3 m.bads.length c3, .slice A4 m.hols.length c4] 31)).alloc (.cells #[.slice none 0 0, .slice none 0 0, .slice none 0 0, .slice none 0 0, .slice none 0 0] 31)) (HM.out.below B2.out).at)
 by_cases hok : MoOk m
 case neg =>
  have h0 : ¬ zHv m = 0 := fun e => hok ((zHu m).2 e)
  rw [zE2 hok]; generalize zHv m = mc at *; have d0 : (mc == 0) = false := by simpa using h0
  have d1 : (mc != 0) = true := by simpa using h0
  clear hok
  go_enter Tryz.func10, Tryz.ntmps10
  go_wp2_with (go_at_call 35; refine TC.out.mono ?_; rintro e w1 ⟨rfl, hb1⟩; have W1 := Kh (B2.out.trans (hb1.mono B2.out.size)); have R3 := Kh (R1.out.below hb1 R1.out.lt); have f0 := R3.out.frozen 0; have f1 := R3.out.frozen 1; have f2 := R3.out.frozen 2; have f3 := R3.out.frozen 3; have f4 := R3.out.frozen 4; obtain ⟨z0, z1, z2, z3, z4⟩ := R3.out.five; clear hb1)
  exact bodyPost_ret (v := .agg #[.slice none 0 0, .slice none 0 0, .slice none 0 0, .slice none 0 0, .slice none 0 0]) (by simp [results, Tryz.results10, go_sem, z0, z1, z2, z3, z4]) rfl
   ⟨none, none, none, none, none, 0, 0, 0, 0, 0, rfl, MoNew.nil _ _, zB3 W1.out (by omega) _ _ _ _ _⟩
 have hc0 := (zHu m).1 hok; rw [hc0] at TC; rw [zE3 hok]; obtain ⟨⟨L9, T9⟩, h9⟩ : ∃ X, zE0 m.ns = X := ⟨_, rfl⟩
 rw [h9]; have H9 := Kh h9; clear h9; dsimp only; have h60 := hok.few; have HO := Kh hok; clear hc0 hok
 go_enter Tryz.func10, Tryz.ntmps10
 go_wp2_with (go_at_call 35; refine TC.out.mono ?_; rintro e w1 ⟨rfl, hb1⟩; have W1 := Kh (B2.out.trans (hb1.mono B2.out.size)); have R3 := Kh (R1.out.below hb1 R1.out.lt); have X3 := Kh (X1.out.below hb1 X1.out.lt); obtain ⟨x0, x1, x2, x3, x4⟩ := X3.out.five; have hz := X3.out.lt; clear hb1)
 clear x0 x1 x2 x3 x4 hz
 have F0 : Hid (FdAt w w1.heap.size none 0 none 0 m.ns 0 [] [] #[.slice A0 m.ns.length c0, .slice A1 m.ins.length c1, .slice A2 m.nxs.length c2, .slice A3 m.bads.length c3, .slice A4 m.hols.length c4] #[.slice none 0 0, .slice none 0 0, .slice none 0 0, .slice none 0 0, .slice none 0 0] (w1.alloc (.cells #[.slice none 0 0] 71))) :=
  ⟨W1.out.alloc W1.out.size _, Fold.zero _, ⟨Blk.new _ _ _, World.ownsRow_nil _ _ _ _, W1.out.size⟩, World.ownsRow_nil _ _ _ _, X3.out.alloc _, R3.out.alloc _⟩
 obtain ⟨wz, hwz⟩ : ∃ z, w1.alloc (.cells #[.slice none 0 0] 71) = z := ⟨_, rfl⟩
 rw [hwz] at F0 ⊢; clear hwz W1 R3 X3 TC B2 X1 R1; generalize w1.heap.size = gf at *; obtain ⟨i3, hi, hz0, hz1, hz2⟩ := info_parts zF2
 go_loopw [4, 16] (fun t j wr => ∃ (r : Nat) (L : List No) (T : List Int) (A : Option Addr) (c : Nat) (AT : Option Addr) (cT : Nat), r ≤ m.ns.length ∧ Hid (FdAt w gf A c AT cT m.ns r L T #[.slice A0 m.ns.length c0, .slice A1 m.ins.length c1, .slice A2 m.nxs.length c2, .slice A3 m.bads.length c3, .slice A4 m.hols.length c4] #[.slice none 0 0, .slice none 0 0, .slice none 0 0, .slice none 0 0, .slice none 0 0] wr) ∧ t = .slice AT T.length cT ∧ j = .int .i64 (r : Int)) (fun _ j _ => m.ns.length - (intOf j).toNat)
 case atStart => exact ⟨0, [], [], none, 0, none, 0, Nat.zero_le _, F0, rfl, rfl⟩
 case round =>
  obtain ⟨wx, rfl⟩ : ∃ x : World, x = wr := ⟨_, rfl⟩
  clear F0; obtain ⟨r, L, T, A, c, AT, cT, hr, F1, rfl, rfl⟩ := hrel; have hTl := F1.out.plain.len; have hLl := F1.out.plain.few
  by_cases hlt : r < m.ns.length
  case neg =>
   obtain rfl : r = m.ns.length := by omega
   obtain ⟨rfl, rfl⟩ : L = L9 ∧ T = T9 := by
    have e := F1.out.plain.all.symm.trans H9.out; injection e with e1 e2
    exact ⟨e1, e2⟩
   have HI : Hid (BiIn m.ins T.length) := fun b hb => by
    have := HO.out.inits b hb; obtain ⟨p1, p2, -⟩ := this; unfold zFk at p1 p2; rw [hTl]; omega
   have HX : Hid (BiIn m.nxs T.length) := fun b hb => by
    have := HO.out.nexts b hb; obtain ⟨p1, p2, -⟩ := this; unfold zFk at p1 p2; rw [hTl]; omega
   have HBd : Hid (IIn m.bads T.length) := fun b hb => by
    have := (HO.out.bad b hb).1; unfold zFk at this; rw [hTl]; omega
   have HHo : Hid (IIn m.hols T.length) := fun b hb => by
    have := (HO.out.hold b hb).1; unfold zFk at this; rw [hTl]; omega
   have hT6 : T.length ≤ 1048576 := by omega
   have hL6 : L.length ≤ 1048576 := by omega
   have HTl := Kh hTl; clear hTl
   go_wp2_with fail
   have HNE : Hid (w.heap.size ≠ w.heap.size + 1) := Kh (by omega)
   have F := Kh (F1.out.below (Below.refl _ _).drew); clear F1; have f0 := F.out.res.frozen 0; have f1 := F.out.res.frozen 1; have f2 := F.out.res.frozen 2; have f3 := F.out.res.frozen 3; have f4 := F.out.res.frozen 4; obtain ⟨x0, x1, x2, x3, x4⟩ := F.out.res.five
   go_region_held3 (fun W => W.cell? ⟨w.heap.size, 0, none⟩ = some (.slice A0 m.ns.length c0) ∧ W.cell? ⟨w.heap.size, 1, none⟩ = some (.slice A1 m.ins.length c1) ∧ W.cell? ⟨w.heap.size, 2, none⟩ = some (.slice A2 m.nxs.length c2) ∧ W.cell? ⟨w.heap.size, 3, none⟩ = some (.slice A3 m.bads.length c3) ∧ W.cell? ⟨w.heap.size, 4, none⟩ = some (.slice A4 m.hols.length c4) ∧ W.cell? ⟨gf, 0, none⟩ = some (.slice A L.length c)) (first | with_reducible exact F.out.six | with_reducible exact (F.out.put5 _ _ _ _ _).six) (first
    | (go_at_call 38; refine (zHz A0 A1 A2 A3 A4 A AT c0 c1 c2 c3 c4 L.length c cT m T _ (by exact (HM.out.below F.out.bel).read) HM.out.nil (by exact IAt.of_own F.out.row) hT6 HI.out HX.out HBd.out HHo.out).mono ?_; rintro e w3 ⟨B1, B2, B3, B4, d1, d2, d3, d4, rfl, hmv⟩; have F := Kh (F.out.below hmv.bel); have HV := Kh hmv; have TC := Kh (zCq hL6 F.out.fold HV.out HM.out.at.len); clear hmv f0 f1 f2 f3 f4 x0 x1 x2 x3 x4; have f0 := F.out.res.frozen 0; have f1 := F.out.res.frozen 1; have f2 := F.out.res.frozen 2; have f3 := F.out.res.frozen 3; have f4 := F.out.res.frozen 4; obtain ⟨x0, x1, x2, x3, x4⟩ := F.out.res.five)
    | (go_at_call 39; refine TC.out.mono ?_; rintro e w4 ⟨E0, E1, E2, E3, E4, u0, u1, u2, u3, u4, rfl, hn, hb⟩; have hs3 := F.out.bel.size; have F := Kh (F.out.below hb); have HV := Kh (hn.mono hs3); clear hn hb hs3 f0 f1 f2 f3 f4 x0 x1 x2 x3 x4; have f0 := F.out.res.frozen 0; have f1 := F.out.res.frozen 1; have f2 := F.out.res.frozen 2; have f3 := F.out.res.frozen 3; have f4 := F.out.res.frozen 4; obtain ⟨x0, x1, x2, x3, x4⟩ := F.out.res.five))
   all_goals
    go_wp2_with fail
    have hw1 : w.heap.size ≤ w.heap.size + 1 := by omega
    exact bodyPost_ret (v := .agg #[.slice E0 (zHy m L T).ns.length u0, .slice E1 (zHy m L T).ins.length u1, .slice E2 (zHy m L T).nxs.length u2, .slice E3 (zHy m L T).bads.length u3, .slice E4 (zHy m L T).hols.length u4]) (by simp [results, Tryz.results10, go_sem, x0, x1, x2, x3, x4]) rfl
     ⟨E0, E1, E2, E3, E4, u0, u1, u2, u3, u4, rfl, MoNew.put5 HV.out F.out.res _ _ _ _ _, zB3 F.out.bel hw1 _ _ _ _ _⟩
  have HN := Kh (F1.out.plain.parted hlt h60 HO.out.nodes)
  have HP : Hid (zAd m.ns[r] T.length) := by
   have hn := HO.out.nodes r hlt; have hl : (m.ns.take r).length = T.length := by simp; omega
   exact ⟨fun h => by have := (hn.a h).1; rwa [hl] at this, fun h => by have := (hn.b h).1; rwa [hl] at this, fun h => by have := (hn.c h).1; rwa [hl] at this⟩
  obtain ⟨g, rfl, hg, hc⟩ := (HM.out.below F1.out.bel).at.ns (by omega)
  obtain ⟨y0, y1, y2, y3, y4, y5, y6, y7, y8⟩ := hc r hlt; clear hc; have hj0 : (0 : Int) ≤ (r : Int) := by omega
  have hj1 : (r : Int) < (m.ns.length : Int) := by omega
  have e1 := wr1 (r := r) (by omega)
  have BX : Hid (Below wx.heap.size wx (wx.alloc (.cells (cN m.ns[r]) 42))) := (Below.refl _ _).alloc (Nat.le_refl _) _; have F2 := Kh (F1.out.below BX.out); simp only [cN] at F2; have hT6 : T.length ≤ 1048576 := by omega
  have hL6 : L.length ≤ 60 := by omega
  have HTl := Kh hTl; clear hTl BX
  go_wp2_with (first
   | (go_at_call 37; refine (zJw AT cT T m.ns[r] _ (by exact IAt.of_own F2.out.row) hT6 HP.out).mono ?_; rintro e w3 ⟨rfl, hb3⟩; have F3 := Kh (F2.out.below hb3); clear hb3)
   | (go_at_call 36; refine (lay_any w.heap.size gf A c L (zJv T m.ns[r]) _ ⟨F3.out.fold, hL6, F3.out.plain.ok, HN.out⟩).mono ?_; rintro e w4 ⟨A', c', rfl, hf, hb, hh⟩; have F4 := Kh (F3.out.laid hlt h60 HO.out.nodes hf hb hh); clear hf hb hh; have F5 := Kh (F4.out.below ((Below.refl _ _).alloc (Nat.le_refl _) (.cells #[.int .i64 (zGt L (zJv T m.ns[r])).2] 3))))
   | (at_builtin; refine zR2 rfl _ _ 24 rfl w.heap.size 3 i3 (.int .i64 0) 1 8 Tryz.underlying24 hi hz0 hz1 hz2 rfl (by decide) _ T.length (T.map (.int .i64)) rfl (by exact F5.out.row) (some ⟨w4.heap.size, 0, none⟩) 1 1 [.int .i64 (zGt L (zJv T m.ns[r])).2] rfl (by exact .inr ⟨_, rfl, Blk.news (Blk.new_at _ 3 #[.int .i64 (zGt L (zJv T m.ns[r])).2] rfl)⟩) rfl (by simp [Value.oneCell']) (by unfold maxLen; omega) (by omega) (by exact F5.out.bel.size) ?_; intro A5 c5 w5 ho5 hg5 hor5; have F6 := Kh (F5.out.app ho5 ⟨hg5.os, hg5.tape, hg5.output, hg5.size, hg5.block⟩); clear ho5 hg5 hor5))
  go_roundw
  case rel => exact ⟨r + 1, _, _, A', c', A5, c5, by omega, F6, by simp, by go_num⟩
  case measure => simp [intOf]; omega
structure CpX (w : World) (v : Value) (l : List Int) (r : Nat) (A1 : Option Addr) (c1 : Nat) (W : World) : Prop where
 bel : Below w.heap.size w W
 row : W.ownsRow (w.heap.size + 3) 3 1 (.slice A1 r c1) r ((l.take r).map (.int .i64))
 box : Blk W w.heap.size 53 #[v]
 res : Blk W (w.heap.size + 1) 53 #[.slice none 0 0]
 out : Blk W (w.heap.size + 1 + 1) 53 #[.slice A1 r c1]
theorem CpX.below {w W W' : World} {v : Value} {l : List Int} {r : Nat} {A1 : Option Addr} {c1 : Nat} (h : CpX w v l r A1 c1 W) (hb : Below W.heap.size W W') : CpX w v l r A1 c1 W' :=
 ⟨h.bel.trans (hb.mono h.bel.size), zJ9 h.row hb, h.box.below hb h.box.lt, h.res.below hb h.res.lt, h.out.below hb h.out.lt⟩
theorem CpX.app {w W W' : World} {v : Value} {l : List Int} {r : Nat} {A1 A2 : Option Addr} {c1 c2 : Nat} {x : Int} (hr : r < l.length) (hx : l[r] = x) (h : CpX w v l r A1 c1 W) (ho : W'.ownsRow (w.heap.size + 3) 3 1 (.slice A2 (r + 1) c2) (r + 1) ((l.take r).map (.int .i64) ++ [.int .i64 x])) (hg : W.grownBy W' (Value.slice A1 r c1).ownBlock) :
 CpX w v l (r + 1) A2 c2 (W'.setCell ⟨w.heap.size + 1 + 1, 0, none⟩ (.slice A2 (r + 1) c2)) := by
 have ne : ∀ g, g < w.heap.size + 3 → some g ≠ (Value.slice A1 r c1).ownBlock := fun g hg e => by
  have := (h.row.lt g e.symm).1; omega
 have ne2 : ∀ g, g < w.heap.size + 3 → (Value.slice A2 (r + 1) c2).ownBlock ≠ some g := fun g hg e => by
  have := (ho.lt g e).1; omega
 have hb : Below w.heap.size w W' := h.bel.grown hg h.bel.size (fun k e => by have := (h.row.lt k e).1; omega)
 have hw2 : w.heap.size ≤ w.heap.size + 1 + 1 := by omega
 refine ⟨hb.setCell (p := ⟨w.heap.size + 1 + 1, 0, none⟩) hw2 _, ?_, (h.box.grown hg (ne _ (by omega))).far (p := ⟨w.heap.size + 1 + 1, 0, none⟩) (by show w.heap.size ≠ w.heap.size + 1 + 1; omega) _, (h.res.grown hg (ne _ (by omega))).far (p := ⟨w.heap.size + 1 + 1, 0, none⟩) (by show w.heap.size + 1 ≠ w.heap.size + 1 + 1; omega) _, (h.out.grown hg (ne _ (by omega))).set_ 0 _⟩
 rw [List.take_succ_eq_append_getElem hr, List.map_append, hx]
 exact zJb (p := ⟨w.heap.size + 1 + 1, 0, none⟩) ho (ne2 _ (by show w.heap.size + 1 + 1 < _; omega)) _
theorem CpX.outAt {w W W' : World} {v : Value} {l : List Int} {r n : Nat} {A1 A2 : Option Addr} {c1 c2 : Nat} {xs : List Value} (h : CpX w v l r A1 c1 W) (_ho : W'.ownsRow (w.heap.size + 3) 3 1 (.slice A2 n c2) n xs) (hg : W.grownBy W' (Value.slice A1 r c1).ownBlock) :
 Blk W' (w.heap.size + 1 + 1) 53 #[.slice A1 r c1] := h.out.grown hg (fun e => by have := (h.row.lt _ e.symm).1; omega)
theorem zGp (A : Option Addr) (c : Nat) (l : List Int) (w : World) (hA : IAt w A l) (hl : l.length ≤ 1048576) :
 Calls Tryz.prog 124 #[.agg #[.slice A l.length c]] w fun e w' => ∃ A' c', e = .returned (.agg #[.slice A' l.length c']) ∧ w'.ownsRow w.heap.size 3 1 (.slice A' l.length c') l.length (l.map (.int .i64)) ∧ Below w.heap.size w w' := by
 have HA := Kh hA; clear hA; obtain ⟨i3, hi, hz0, hz1, hz2⟩ := info_parts zF2; have HI := Kh hi; have HZ0 := Kh hz0; have HZ1 := Kh hz1; have HZ2 := Kh hz2; clear hi hz0 hz1 hz2
 have HC0 : Hid (CpX w (.slice A l.length c) l 0 none 0 (((w.alloc (.cells #[.slice A l.length c] 53)).alloc (.cells #[.slice none 0 0] 53)).alloc (.cells #[.slice none 0 0] 53))) := Lib.hid
  ⟨(((Below.refl _ _).alloc (Nat.le_refl _) _).alloc (by simp) _).alloc (by simp; omega) _, World.ownsRow_nil _ _ _ _, ((Blk.new _ _ _).alloc _).alloc _, (Blk.new_at _ _ _ (by simp)).alloc _, Blk.new_at _ _ _ (by simp)⟩
 go_enter Tryz.func124, Tryz.ntmps124
 go_wp2_with fail
 go_loopw [4] (fun i wr => ∃ (r : Nat) (A1 : Option Addr) (c1 : Nat), r ≤ l.length ∧ Hid (CpX w (.slice A l.length c) l r A1 c1 wr) ∧ i = .int .i64 (r : Int)) (fun i _ => l.length - (intOf i).toNat)
 case atStart => exact ⟨0, none, 0, Nat.zero_le _, HC0, rfl⟩
 case round =>
  obtain ⟨wz, rfl⟩ : ∃ x : World, x = wr := ⟨_, rfl⟩
  clear HC0; obtain ⟨r, A1, c1, hr, C1, rfl⟩ := hrel; have x0 : wz.cell? ⟨w.heap.size, 0, none⟩ = some (.slice A l.length c) := by rw [C1.out.box.cell]; rfl
  have y0 : wz.cell? ⟨w.heap.size + 1 + 1, 0, none⟩ = some (.slice A1 r c1) := by rw [C1.out.out.cell]; rfl
  have r0 : wz.cell? ⟨w.heap.size + 1, 0, none⟩ = some (.slice none 0 0) := by rw [C1.out.res.cell]; rfl
  by_cases hlt : r < l.length
  case neg =>
   obtain rfl : r = l.length := by omega
   have HR : Hid ((wz.setCell ⟨w.heap.size + 1, 0, none⟩ (.slice A1 l.length c1)).ownsRow w.heap.size 3 1 (.slice A1 l.length c1) l.length (l.map (.int .i64))) := Kh (by
    have h := C1.out.row; rw [List.take_length] at h
    exact zJf (zJb (p := ⟨w.heap.size + 1, 0, none⟩) h (fun e => by have := (h.lt _ e).1; simp at this) _) (by omega))
   have HB : Hid (Below w.heap.size w (wz.setCell ⟨w.heap.size + 1, 0, none⟩ (.slice A1 l.length c1))) := Kh (C1.out.bel.setCell (p := ⟨w.heap.size + 1, 0, none⟩) (by show w.heap.size ≤ w.heap.size + 1; omega) _)
   have f0 := C1.out.res.frozen 0
   go_wp2_with fail
   exact bodyPost_ret (v := .agg #[.slice A1 l.length c1]) (by simp [results, Tryz.results124, go_sem, r0]) rfl ⟨A1, c1, rfl, HR.out, HB.out⟩
  have hj0 : (0 : Int) ≤ (r : Int) := by omega
  have hj1 : (r : Int) < (l.length : Int) := by omega
  have e1 := wr1 (r := r) (by omega)
  obtain ⟨ga, rfl, hga, hca⟩ := (HA.out.below C1.out.bel) (by omega)
  have z0 := hca r hlt; clear hca; obtain ⟨x, hx⟩ : ∃ x, l[r] = x := ⟨_, rfl⟩
  rw [hx] at z0; have HX := Kh hx; clear hx; have C2 : Hid (CpX w (.slice (some ⟨ga, 0, none⟩) l.length c) l r A1 c1 (wz.drew.alloc (.cells #[.int .i64 x] 3))) := Kh (C1.out.below ((Below.refl _ _).drew.alloc (Nat.le_refl _) _)); have KEY : Hid (∀ W, CpX w (.slice (some ⟨ga, 0, none⟩) l.length c) l r A1 c1 W → Below wz.heap.size wz W → W.cell? ⟨w.heap.size, 0, none⟩ = some (.slice (some ⟨ga, 0, none⟩) l.length c) ∧ W.cell? ⟨ga, r, none⟩ = some (.int .i64 x)) := Kh (fun W h hb => ⟨by rw [h.box.cell]; rfl, (hb.cell (p := ⟨ga, r, none⟩) hga).trans z0⟩)
  have hr6 : r ≤ 1048576 := by omega
  have HSZ : Hid (w.heap.size + 3 ≤ (wz.drew.alloc (.cells #[.int .i64 x] 3)).heap.size) := Kh (by have := C2.out.out.lt; omega)
  have f0 := C2.out.out.frozen 0; have y1 : (wz.drew.alloc (.cells #[.int .i64 x] 3)).cell? ⟨w.heap.size + 1 + 1, 0, none⟩ = some (.slice A1 r c1) := by rw [C2.out.out.cell]; rfl
  have kY : ∀ Y, (wz.alloc Y).cell? ⟨w.heap.size + 1 + 1, 0, none⟩ = some (.slice A1 r c1) := fun Y => by rw [(C1.out.out.alloc Y).cell]; rfl
  have kZ : ∀ k Y, ((wz.drewN k).alloc Y).cell? ⟨w.heap.size + 1 + 1, 0, none⟩ = some (.slice A1 r c1) := fun k Y => kY Y
  have hi := HI.out; have hz0 := HZ0.out; have hz1 := HZ1.out; have hz2 := HZ2.out; clear f0 y1 r0
  go_wp2_with fail
  go_region_law (refine zOl rfl (.tmp 13) (.tmp 19) 24 rfl (w.heap.size + 3) 3 i3 (.int .i64 0) 1 8 Tryz.underlying24 hi hz0 hz1 hz2 rfl (by decide) _ r ((l.take r).map (.int .i64)) rfl (by exact C2.out.row) (some ⟨wz.heap.size, 0, none⟩) 1 1 [.int .i64 x] rfl (by exact .inr ⟨_, rfl, Blk.news (Blk.new_at _ 3 #[.int .i64 x] rfl)⟩) rfl (by simp [Value.oneCell']) (by unfold maxLen; omega) (by omega) (by exact HSZ.out) ?_; intro A3 c3 w3 ho3 hg3 hor3; have C3 := Kh (C2.out.app hlt HX.out ho3 ⟨hg3.os, hg3.tape, hg3.output, hg3.size, hg3.block⟩); have y3 := C2.out.outAt ho3 ⟨hg3.os, hg3.tape, hg3.output, hg3.size, hg3.block⟩; have f3 := y3.frozen 0; have s3 : w3.cell? ⟨w.heap.size + 1 + 1, 0, none⟩ = some (.slice A1 r c1) := (by rw [y3.cell]; rfl); clear hor3 ho3 hg3 y3)
  all_goals
   go_wp2_with fail
   go_roundw
   case rel => exact ⟨r + 1, A3, c3, by omega, C3, by go_num⟩
   case measure => simp [intOf]; omega
end Go.Proofs.YtmolbnghobfmoaaGreat
