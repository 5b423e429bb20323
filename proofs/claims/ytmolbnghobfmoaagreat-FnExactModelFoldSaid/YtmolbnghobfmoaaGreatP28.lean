/- Part 28 of what the row Row28 rests on: F33. -/
import Derived.Test.YtmolbnghobfmoaaGreatP27
set_option maxRecDepth 100000
set_option maxHeartbeats 16000000
set_option linter.unusedSimpArgs false
set_option linter.unusedVariables false
namespace Go.Proofs.YtmolbnghobfmoaaGreat
open Go.RowKit
structure MvTo (w : World) (B1 B2 B3 B4 : Option Addr) (d1 d2 d3 d4 : Nat) (x1 x2 : List Bi) (x3 x4 : List Int) (W : World) : Prop where
 bel : Below w.heap.size w W
 r1 : W.ownsRow w.heap.size 55 2 (.slice B1 x1.length d1) x1.length (zC0 x1)
 r2 : W.ownsRow w.heap.size 55 2 (.slice B2 x2.length d2) x2.length (zC0 x2)
 r3 : W.ownsRow w.heap.size 3 1 (.slice B3 x3.length d3) x3.length (x3.map (.int .i64))
 r4 : W.ownsRow w.heap.size 3 1 (.slice B4 x4.length d4) x4.length (x4.map (.int .i64))
def pre {α : Type} (f : α → α) (l : List α) (i : Nat) : List α := (l.take i).map f ++ l.drop i
theorem zKd {α : Type} (f : α → α) (l : List α) : pre f l 0 = l := by simp [pre]
theorem zKe {α : Type} (f : α → α) (l : List α) : pre f l l.length = l.map f := by simp [pre]
theorem zKg {α : Type} (f : α → α) (l : List α) (i : Nat) : (pre f l i).length = l.length := by simp [pre]; omega
theorem zKf {α : Type} (f : α → α) (l : List α) {i : Nat} (h : i < l.length) : (pre f l i)[i]'(by rw [zKg]; exact h) = l[i] := by
 simp only [pre]; rw [List.getElem_append_right (by simp; omega)]
 simp [show min i l.length = i by omega]
theorem zKh {α : Type} (f : α → α) (l : List α) {i : Nat} (h : i < l.length) : (pre f l i).set i (f l[i]) = pre f l (i + 1) := by
 apply List.ext_getElem?
 intro k; rw [List.getElem?_set, zKg]
 have e : ∀ n, (pre f l n)[k]? = if k < n then l[k]?.map f else l[k]? := fun n => by
  unfold pre
  by_cases hk : k < n
  · rw [if_pos hk]
    by_cases hl : k < l.length
    · rw [List.getElem?_append_left (by simp; omega), List.getElem?_map, List.getElem?_take_of_lt hk]
    · rw [List.getElem?_append_right (by simp; omega), List.getElem?_eq_none (by simp; omega), List.getElem?_eq_none (by omega)]; rfl
  · rw [if_neg hk]
    by_cases hl : k < l.length
    · rw [List.getElem?_append_right (by simp; omega), List.getElem?_drop]; congr 1; simp; omega
    · rw [List.getElem?_append_right (by simp; omega), List.getElem?_eq_none (by simp; omega), List.getElem?_eq_none (by omega)]
 rw [e, e]
 by_cases hk : i = k
 · subst hk; rw [if_pos rfl, if_pos h, if_pos (by omega), List.getElem?_eq_getElem h]; rfl
 · rw [if_neg hk]
   by_cases h1 : k < i
   · rw [if_pos h1, if_pos (by omega)]
   · rw [if_neg h1, if_neg (by omega)]
theorem zC4 (l : List Bi) (i : Nat) (b : Bi) : ((zC0 l).set (i * 2) (.int .i64 b.st)).set (i * 2 + 1) (.int .i64 b.nd) = zC0 (l.set i b) := by
 induction l generalizing i with
 | nil => simp [zC0]
 | cons x t ih =>
  cases i with
  | zero => simp [zC0, cB]
  | succ i =>
   have e : zC0 (x :: t) = .int .i64 x.st :: .int .i64 x.nd :: zC0 t := by simp [zC0, cB]
   rw [e, show (i + 1) * 2 = i * 2 + 1 + 1 by omega, List.set_cons_succ, List.set_cons_succ, List.set_cons_succ, List.set_cons_succ, ih, List.set_cons_succ]
   simp [zC0, cB]
def mvB (T : List Int) (b : Bi) : Bi := ⟨toP T b.st, toP T b.nd⟩
def BiIn (l : List Bi) (len : Nat) : Prop := ∀ b ∈ l, (0 ≤ b.st ∧ b.st < (len : Int)) ∧ 0 ≤ b.nd ∧ b.nd < (len : Int)
def IIn (l : List Int) (len : Nat) : Prop := ∀ p ∈ l, 0 ≤ p ∧ p < (len : Int)
structure Mv (w : World) (go : Nat) (AL : Value) (B1 B2 B3 B4 : Option Addr) (d1 d2 d3 d4 n1 n2 n3 n4 : Nat) (x1 x2 : List Bi) (x3 x4 : List Int) (W : World) : Prop where
 bel : Below w.heap.size w W
 r1 : W.ownsRow w.heap.size 55 2 (.slice B1 n1 d1) n1 (zC0 x1)
 r2 : W.ownsRow w.heap.size 55 2 (.slice B2 n2 d2) n2 (zC0 x2)
 r3 : W.ownsRow w.heap.size 3 1 (.slice B3 n3 d3) n3 (x3.map (.int .i64))
 r4 : W.ownsRow w.heap.size 3 1 (.slice B4 n4 d4) n4 (x4.map (.int .i64))
 box : Blk W go 31 #[AL, .slice B1 n1 d1, .slice B2 n2 d2, .slice B3 n3 d3, .slice B4 n4 d4]
 res : Blk W (w.heap.size + 1) 31 #[.slice none 0 0, .slice none 0 0, .slice none 0 0, .slice none 0 0, .slice none 0 0]
theorem Mv.below {w W W' : World} {go : Nat} {AL : Value} {B1 B2 B3 B4 : Option Addr} {d1 d2 d3 d4 n1 n2 n3 n4 : Nat} {x1 x2 : List Bi} {x3 x4 : List Int} (h : Mv w go AL B1 B2 B3 B4 d1 d2 d3 d4 n1 n2 n3 n4 x1 x2 x3 x4 W) (hb : Below W.heap.size W W') :
 Mv w go AL B1 B2 B3 B4 d1 d2 d3 d4 n1 n2 n3 n4 x1 x2 x3 x4 W' :=
 ⟨h.bel.trans (hb.mono h.bel.size), zJ9 h.r1 hb, zJ9 h.r2 hb, zJ9 h.r3 hb, zJ9 h.r4 hb, h.box.below hb h.box.lt, h.res.below hb h.res.lt⟩
theorem zJl {w : World} {b b' : Nat} {e e' : TypeId} {s s' n n' : Nat} {v v' : Value} {xs xs' : List Value} (h : w.ownsRow b e s v n xs) (h' : w.ownsRow b' e' s' v' n' xs') (hne : e ≠ e') {g : Nat} (hg : v'.ownBlock = some g) : v.ownBlock ≠ some g := by
 rcases zJm h h' hne with h | h
 · rw [h]; exact fun e => by cases e
 · rw [← hg]; exact h
theorem zAx {A A' : Option Addr} {n' c' g : Nat} (h : A = none ∨ A ≠ A') (hA : A = some ⟨g, 0, none⟩) (w : World) {b : Nat} {e : TypeId} {s : Nat} {xs : List Value} (ho : w.ownsRow b e s (.slice A' n' c') n' xs) : (Value.slice A' n' c').ownBlock ≠ some g := by
 subst hA
 rcases h with h | h
 · cases h
 · rcases ho.2 with ⟨hv, _⟩ | ⟨g', cap, cur, hv, _⟩
   · rw [hv]; exact fun e => by cases e
   · injection hv with hv
     subst hv; intro e1; have e1 : g' = g := by simpa [Value.ownBlock] using e1
     exact h (by rw [e1])
theorem zAy {A A' : Option Addr} {n c g : Nat} (h : A = none ∨ A ≠ A') (hA : A' = some ⟨g, 0, none⟩) (w : World) {b : Nat} {e : TypeId} {s : Nat} {xs : List Value} (ho : w.ownsRow b e s (.slice A n c) n xs) : (Value.slice A n c).ownBlock ≠ some g := by
 subst hA
 rcases ho.2 with ⟨hv, _⟩ | ⟨g', cap, cur, hv, _⟩
 · rw [hv]; exact fun e => by cases e
 · injection hv with hv
   subst hv; intro e1; have e1 : g' = g := by simpa [Value.ownBlock] using e1
   rcases h with h | h
   · cases h
   · exact h (by rw [e1])
theorem Blk.putB {w : World} {g g' : Nat} {t : TypeId} {cs : Array Value} (h : Blk w g' t cs) (hne : g' ≠ g) {i j : Nat} (u v : Value) : Blk ((w.setCell ⟨g, i, none⟩ u).setCell ⟨g, j, none⟩ v) g' t cs :=
 (h.far (p := ⟨g, i, none⟩) hne _).far (p := ⟨g, j, none⟩) hne _
theorem Blk.ne' {w : World} {B g g' : Nat} {e t : TypeId} {s n c : Nat} {A : Option Addr} {xs : List Value} {cs : Array Value} (ho : w.ownsRow B e s (.slice A n c) n xs) (hA : A = some ⟨g, 0, none⟩) (h : Blk w g' t cs) (hne : e ≠ t) : g' ≠ g := fun e1 =>
 zJg ho h hne (by subst hA; rw [e1]; rfl)
theorem zJc {w : World} {B : Nat} {e : TypeId} {s n c g : Nat} {A : Option Addr} {xs : List Value} (ho : w.ownsRow B e s (.slice A n c) n xs) (hA : A = some ⟨g, 0, none⟩) : B ≤ g := by
 subst hA; exact (ho.lt g rfl).1
theorem Mv.drew {w W : World} {go : Nat} {AL : Value} {B1 B2 B3 B4 : Option Addr} {d1 d2 d3 d4 n1 n2 n3 n4 : Nat} {x1 x2 : List Bi} {x3 x4 : List Int} (h : Mv w go AL B1 B2 B3 B4 d1 d2 d3 d4 n1 n2 n3 n4 x1 x2 x3 x4 W) : Mv w go AL B1 B2 B3 B4 d1 d2 d3 d4 n1 n2 n3 n4 x1 x2 x3 x4 W.drew := h.below (Below.refl _ _).drew
theorem Mv.put1 {w W : World} {go : Nat} {AL : Value} {B1 B2 B3 B4 : Option Addr} {d1 d2 d3 d4 n1 n2 n3 n4 : Nat} {x1 x2 : List Bi} {x3 x4 : List Int} (h : Mv w go AL B1 B2 B3 B4 d1 d2 d3 d4 n1 n2 n3 n4 x1 x2 x3 x4 W) {g : Nat} (hD : B1 = some ⟨g, 0, none⟩) (hap : B1 = none ∨ B1 ≠ B2) (i : Nat) (b : Bi) :
 Mv w go AL B1 B2 B3 B4 d1 d2 d3 d4 n1 n2 n3 n4 (x1.set i b) x2 x3 x4 ((W.setCell ⟨g, i * 2, none⟩ (.int .i64 b.st)).setCell ⟨g, i * 2 + 1, none⟩ (.int .i64 b.nd)) := by
 have hge := zJc h.r1 hD; subst hD
 exact ⟨(h.bel.setCell (p := ⟨g, i * 2, none⟩) hge _).setCell (p := ⟨g, i * 2 + 1, none⟩) hge _, by have := ((h.r1.stored (i * 2) (.int .i64 b.st)).1.stored (i * 2 + 1) (.int .i64 b.nd)).1; rwa [zC4] at this, zJb (zJb h.r2 (p := ⟨g, i * 2, none⟩) (zAx hap rfl W h.r2) _) (p := ⟨g, i * 2 + 1, none⟩) (zAx hap rfl W h.r2) _, zJb (zJb h.r3 (p := ⟨g, i * 2, none⟩) (zJl h.r3 h.r1 (by decide) rfl) _) (p := ⟨g, i * 2 + 1, none⟩) (zJl h.r3 h.r1 (by decide) rfl) _, zJb (zJb h.r4 (p := ⟨g, i * 2, none⟩) (zJl h.r4 h.r1 (by decide) rfl) _) (p := ⟨g, i * 2 + 1, none⟩) (zJl h.r4 h.r1 (by decide) rfl) _, h.box.putB (Blk.ne' h.r1 rfl h.box (by decide)) _ _, h.res.putB (Blk.ne' h.r1 rfl h.res (by decide)) _ _⟩
theorem Mv.put2 {w W : World} {go : Nat} {AL : Value} {B1 B2 B3 B4 : Option Addr} {d1 d2 d3 d4 n1 n2 n3 n4 : Nat} {x1 x2 : List Bi} {x3 x4 : List Int} (h : Mv w go AL B1 B2 B3 B4 d1 d2 d3 d4 n1 n2 n3 n4 x1 x2 x3 x4 W) {g : Nat} (hD : B2 = some ⟨g, 0, none⟩) (hap : B1 = none ∨ B1 ≠ B2) (i : Nat) (b : Bi) :
 Mv w go AL B1 B2 B3 B4 d1 d2 d3 d4 n1 n2 n3 n4 x1 (x2.set i b) x3 x4 ((W.setCell ⟨g, i * 2, none⟩ (.int .i64 b.st)).setCell ⟨g, i * 2 + 1, none⟩ (.int .i64 b.nd)) := by
 have hge := zJc h.r2 hD; subst hD
 exact ⟨(h.bel.setCell (p := ⟨g, i * 2, none⟩) hge _).setCell (p := ⟨g, i * 2 + 1, none⟩) hge _, zJb (zJb h.r1 (p := ⟨g, i * 2, none⟩) (zAy hap rfl W h.r1) _) (p := ⟨g, i * 2 + 1, none⟩) (zAy hap rfl W h.r1) _, by have := ((h.r2.stored (i * 2) (.int .i64 b.st)).1.stored (i * 2 + 1) (.int .i64 b.nd)).1; rwa [zC4] at this, zJb (zJb h.r3 (p := ⟨g, i * 2, none⟩) (zJl h.r3 h.r2 (by decide) rfl) _) (p := ⟨g, i * 2 + 1, none⟩) (zJl h.r3 h.r2 (by decide) rfl) _, zJb (zJb h.r4 (p := ⟨g, i * 2, none⟩) (zJl h.r4 h.r2 (by decide) rfl) _) (p := ⟨g, i * 2 + 1, none⟩) (zJl h.r4 h.r2 (by decide) rfl) _, h.box.putB (Blk.ne' h.r2 rfl h.box (by decide)) _ _, h.res.putB (Blk.ne' h.r2 rfl h.res (by decide)) _ _⟩
theorem Mv.put3 {w W : World} {go : Nat} {AL : Value} {B1 B2 B3 B4 : Option Addr} {d1 d2 d3 d4 n1 n2 n3 n4 : Nat} {x1 x2 : List Bi} {x3 x4 : List Int} (h : Mv w go AL B1 B2 B3 B4 d1 d2 d3 d4 n1 n2 n3 n4 x1 x2 x3 x4 W) {g : Nat} (hD : B3 = some ⟨g, 0, none⟩) (hap : B3 = none ∨ B3 ≠ B4) (i : Nat) (p : Int) :
 Mv w go AL B1 B2 B3 B4 d1 d2 d3 d4 n1 n2 n3 n4 x1 x2 (x3.set i p) x4 (W.setCell ⟨g, i, none⟩ (.int .i64 p)) := by
 have hge := zJc h.r3 hD; subst hD
 exact ⟨h.bel.setCell (p := ⟨g, i, none⟩) hge _, zJb h.r1 (p := ⟨g, i, none⟩) (zJl h.r1 h.r3 (by decide) rfl) _, zJb h.r2 (p := ⟨g, i, none⟩) (zJl h.r2 h.r3 (by decide) rfl) _, by have := (h.r3.stored i (.int .i64 p)).1; rwa [← List.map_set] at this, zJb h.r4 (p := ⟨g, i, none⟩) (zAx hap rfl W h.r4) _, h.box.far (p := ⟨g, i, none⟩) (Blk.ne' h.r3 rfl h.box (by decide)) _, h.res.far (p := ⟨g, i, none⟩) (Blk.ne' h.r3 rfl h.res (by decide)) _⟩
theorem Mv.put4 {w W : World} {go : Nat} {AL : Value} {B1 B2 B3 B4 : Option Addr} {d1 d2 d3 d4 n1 n2 n3 n4 : Nat} {x1 x2 : List Bi} {x3 x4 : List Int} (h : Mv w go AL B1 B2 B3 B4 d1 d2 d3 d4 n1 n2 n3 n4 x1 x2 x3 x4 W) {g : Nat} (hD : B4 = some ⟨g, 0, none⟩) (hap : B3 = none ∨ B3 ≠ B4) (i : Nat) (p : Int) :
 Mv w go AL B1 B2 B3 B4 d1 d2 d3 d4 n1 n2 n3 n4 x1 x2 x3 (x4.set i p) (W.setCell ⟨g, i, none⟩ (.int .i64 p)) := by
 have hge := zJc h.r4 hD; subst hD
 exact ⟨h.bel.setCell (p := ⟨g, i, none⟩) hge _, zJb h.r1 (p := ⟨g, i, none⟩) (zJl h.r1 h.r4 (by decide) rfl) _, zJb h.r2 (p := ⟨g, i, none⟩) (zJl h.r2 h.r4 (by decide) rfl) _, zJb h.r3 (p := ⟨g, i, none⟩) (zAy hap rfl W h.r3) _, by have := (h.r4.stored i (.int .i64 p)).1; rwa [← List.map_set] at this, h.box.far (p := ⟨g, i, none⟩) (Blk.ne' h.r4 rfl h.box (by decide)) _, h.res.far (p := ⟨g, i, none⟩) (Blk.ne' h.r4 rfl h.res (by decide)) _⟩
theorem Mv.to {w W : World} {go : Nat} {AL : Value} {B1 B2 B3 B4 : Option Addr} {d1 d2 d3 d4 n1 n2 n3 n4 : Nat} {x1 x2 : List Bi} {x3 x4 : List Int} (h : Mv w go AL B1 B2 B3 B4 d1 d2 d3 d4 n1 n2 n3 n4 x1 x2 x3 x4 W) (h1 : n1 = x1.length) (h2 : n2 = x2.length) (h3 : n3 = x3.length) (h4 : n4 = x4.length) : MvTo w B1 B2 B3 B4 d1 d2 d3 d4 x1 x2 x3 x4 W := by
 subst h1 h2 h3 h4
 exact ⟨h.bel, h.r1, h.r2, h.r3, h.r4⟩
theorem MvTo.put5 {w W : World} {B1 B2 B3 B4 : Option Addr} {d1 d2 d3 d4 : Nat} {x1 x2 : List Bi} {x3 x4 : List Int} (h : MvTo w B1 B2 B3 B4 d1 d2 d3 d4 x1 x2 x3 x4 W) {g : Nat} {cs : Array Value} (hg : Blk W g 31 cs) (hw : w.heap.size ≤ g) (v0 v1 v2 v3 v4 : Value) :
 MvTo w B1 B2 B3 B4 d1 d2 d3 d4 x1 x2 x3 x4 (((((W.setCell ⟨g, 0, none⟩ v0).setCell ⟨g, 1, none⟩ v1).setCell ⟨g, 2, none⟩ v2).setCell ⟨g, 3, none⟩ v3).setCell ⟨g, 4, none⟩ v4) :=
 ⟨zB3 h.bel hw _ _ _ _ _, zJn h.r1 (zJg h.r1 hg (by decide)) _ _ _ _ _, zJn h.r2 (zJg h.r2 hg (by decide)) _ _ _ _ _, zJn h.r3 (zJg h.r3 hg (by decide)) _ _ _ _ _, zJn h.r4 (zJg h.r4 hg (by decide)) _ _ _ _ _⟩
theorem zHz (A0 A1 A2 A3 A4 AL AT : Option Addr) (c0 c1 c2 c3 c4 nL cL cT : Nat) (m : Mo) (T : List Int) (w : World) (hM : MoR w A0 A1 A2 A3 A4 m) (hN : MoNil A0 A1 A2 A3 A4 c0 c1 c2 c3 c4) (hT : IAt w AT T) (hTl : T.length ≤ 1048576)
 (hi : BiIn m.ins T.length) (hx : BiIn m.nxs T.length) (hb : IIn m.bads T.length) (hh : IIn m.hols T.length) :
    Calls Tryz.prog 38 #[.agg #[.slice A0 m.ns.length c0, .slice A1 m.ins.length c1, .slice A2 m.nxs.length c2, .slice A3 m.bads.length c3, .slice A4 m.hols.length c4], .slice AL nL cL, .slice AT T.length cT] w fun e w' => ∃ B1 B2 B3 B4 d1 d2 d3 d4, e = .returned (.agg #[.slice AL nL cL, .slice B1 m.ins.length d1, .slice B2 m.nxs.length d2, .slice B3 m.bads.length d3, .slice B4 m.hols.length d4]) ∧
     MvTo w B1 B2 B3 B4 d1 d2 d3 d4 (m.ins.map (mvB T)) (m.nxs.map (mvB T)) (m.bads.map (toP T)) (m.hols.map (toP T)) w' := by
 have HM := Kh hM; have HN := Kh hN; have HT := Kh hT; have HI := Kh hi; have HX := Kh hx; have HBd := Kh hb; have HHo := Kh hh; obtain ⟨l0, l1, l2, l3, l4⟩ := hM.len; clear hM hN hT hi hx hb hh; have B2 : Hid (Below w.heap.size w ((w.alloc (.cells #[.slice A0 m.ns.length c0, .slice A1 m.ins.length c1, .slice A2 m.nxs.length c2, .slice A3 m.bads.length c3, .slice A4 m.hols.length c4] 31)).alloc (.cells #[.slice none 0 0, .slice none 0 0, .slice none 0 0, .slice none 0 0, .slice none 0 0] 31))) := ((Below.refl _ _).alloc (Nat.le_refl _) _).alloc (by simp) _
 have R2 : Hid (Blk ((w.alloc (.cells #[.slice A0 m.ns.length c0, .slice A1 m.ins.length c1, .slice A2 m.nxs.length c2, .slice A3 m.bads.length c3, .slice A4 m.hols.length c4] 31)).alloc (.cells #[.slice none 0 0, .slice none 0 0, .slice none 0 0, .slice none 0 0, .slice none 0 0] 31)) (w.heap.size + 1) 31 #[.slice none 0 0, .slice none 0 0, .slice none 0 0, .slice none 0 0, .slice none 0 0]) := Blk.new_at _ _ _ (by simp)
 have TC := Kh (zCp A0 A1 A2 A3 A4 c0 c1 c2 c3 c4 m ((w.alloc (.cells #[.slice A0 m.ns.length c0, .slice A1 m.ins.length c1, .slice A2 m.nxs.length c2, .slice A3 m.bads.length c3, .slice A4 m.hols.length c4] 31)).alloc (.cells #[.slice none 0 0, .slice none 0 0, .slice none 0 0, .slice none 0 0, .slice none 0 0] 31)) (HM.out.below B2.out) HN.out)
 go_enter Tryz.func38, Tryz.ntmps38
 go_wp2_with (go_at_call 39; refine TC.out.mono ?_; rintro e w1 ⟨D0, D1, D2, D3, D4, d0, d1, d2, d3, d4, rfl, hn, hbb⟩; have N1 := Kh hn; have BB := Kh hbb; clear hn hbb)
 have BW : Hid (Below w.heap.size w w1) := B2.out.trans (BB.out.mono B2.out.size); have Z1 := Kh (R2.out.below BB.out R2.out.lt); have AP1 := Kh N1.out.apB; have AP3 := Kh N1.out.apI; have hs2 : w.heap.size ≤ ((w.alloc (.cells #[.slice A0 m.ns.length c0, .slice A1 m.ins.length c1, .slice A2 m.nxs.length c2, .slice A3 m.bads.length c3, .slice A4 m.hols.length c4] 31)).alloc (.cells #[.slice none 0 0, .slice none 0 0, .slice none 0 0, .slice none 0 0, .slice none 0 0] 31)).heap.size := B2.out.size; have B3 : Hid (Below w1.heap.size w1 ((w1.alloc (.cells #[.slice AL nL cL, .slice D1 m.ins.length d1, .slice D2 m.nxs.length d2, .slice D3 m.bads.length d3, .slice D4 m.hols.length d4] 31)).alloc (.cells #[.slice D1 m.ins.length d1, .slice D2 m.nxs.length d2] 29))) := ((Below.refl _ _).alloc (Nat.le_refl _) _).alloc (by simp) _
 have V0 : Hid (Mv w w1.heap.size (.slice AL nL cL) D1 D2 D3 D4 d1 d2 d3 d4 m.ins.length m.nxs.length m.bads.length m.hols.length (pre (mvB T) m.ins 0) (pre (mvB T) m.nxs 0) (pre (toP T) m.bads 0) (pre (toP T) m.hols 0) ((w1.alloc (.cells #[.slice AL nL cL, .slice D1 m.ins.length d1, .slice D2 m.nxs.length d2, .slice D3 m.bads.length d3, .slice D4 m.hols.length d4] 31)).alloc (.cells #[.slice D1 m.ins.length d1, .slice D2 m.nxs.length d2] 29))) := by
  rw [zKd, zKd, zKd, zKd]
  exact ⟨BW.out.trans (B3.out.mono BW.out.size), zJ9 (zJf N1.out.ins hs2) B3.out, zJ9 (zJf N1.out.nxs hs2) B3.out, zJ9 (zJf N1.out.bads hs2) B3.out, zJ9 (zJf N1.out.hols hs2) B3.out, (Blk.new _ _ _).alloc _, Z1.out.below B3.out Z1.out.lt⟩
 have P0 : Hid (Blk ((w1.alloc (.cells #[.slice AL nL cL, .slice D1 m.ins.length d1, .slice D2 m.nxs.length d2, .slice D3 m.bads.length d3, .slice D4 m.hols.length d4] 31)).alloc (.cells #[.slice D1 m.ins.length d1, .slice D2 m.nxs.length d2] 29)) (w1.heap.size + 1) 29 #[.slice D1 m.ins.length d1, .slice D2 m.nxs.length d2]) := Blk.new_at _ _ _ (by simp)
 have hgo : w.heap.size ≤ w1.heap.size := BW.out.size; obtain ⟨wz, hwz⟩ : ∃ z, ((w1.alloc (.cells #[.slice AL nL cL, .slice D1 m.ins.length d1, .slice D2 m.nxs.length d2, .slice D3 m.bads.length d3, .slice D4 m.hols.length d4] 31)).alloc (.cells #[.slice D1 m.ins.length d1, .slice D2 m.nxs.length d2] 29)) = z := ⟨_, rfl⟩
 rw [hwz] at V0 P0 ⊢; clear hwz B3 Z1 BB BW N1 hs2 B2 R2 TC; generalize w1.heap.size = go at *
 go_loopw [26] (fun j wr => ∃ r a b : Nat, ((r = 0 ∧ a = 0 ∧ b = 0) ∨ (r = 1 ∧ a = m.ins.length ∧ b = 0) ∨ (r = 2 ∧ a = m.ins.length ∧ b = m.nxs.length)) ∧ Hid (Mv w go (.slice AL nL cL) D1 D2 D3 D4 d1 d2 d3 d4 m.ins.length m.nxs.length m.bads.length m.hols.length (pre (mvB T) m.ins a) (pre (mvB T) m.nxs b) (pre (toP T) m.bads 0) (pre (toP T) m.hols 0) wr) ∧ Hid (Blk wr (go + 1) 29 #[.slice D1 m.ins.length d1, .slice D2 m.nxs.length d2]) ∧ j = .int .i64 (r : Int)) (fun j _ => 2 - (intOf j).toNat)
 case atStart => exact ⟨0, 0, 0, .inl ⟨rfl, rfl, rfl⟩, V0, P0, rfl⟩
 case round =>
  obtain ⟨wy, rfl⟩ : ∃ x : World, x = wr := ⟨_, rfl⟩
  clear V0 P0; obtain ⟨r, a, b, hr, V1, P1, rfl⟩ := hrel; have p0 := P1.out.cell 0; have p1 := P1.out.cell 1; simp only [List.getElem?_toArray, List.getElem?_cons_zero, List.getElem?_cons_succ] at p0 p1
  rcases hr with ⟨rfl, rfl, rfl⟩ | ⟨rfl, rfl, rfl⟩ | ⟨rfl, rfl, rfl⟩
  ·
   go_wp2_with fail
   go_loopw [32] (fun j wr => ∃ i : Nat, i ≤ m.ins.length ∧ Hid (Mv w go (.slice AL nL cL) D1 D2 D3 D4 d1 d2 d3 d4 m.ins.length m.nxs.length m.bads.length m.hols.length (pre (mvB T) m.ins i) (pre (mvB T) m.nxs 0) (pre (toP T) m.bads 0) (pre (toP T) m.hols 0) wr) ∧ Hid (Blk wr (go + 1) 29 #[.slice D1 m.ins.length d1, .slice D2 m.nxs.length d2]) ∧ j = .int .i64 (i : Int)) (fun j _ => m.ins.length - (intOf j).toNat)
   case atStart => exact ⟨0, Nat.zero_le _, V1, P1, rfl⟩
   case round =>
    obtain ⟨wx, rfl⟩ : ∃ x : World, x = wr := ⟨_, rfl⟩
    clear V1 P1 p0 p1; obtain ⟨i, hi, V2, P2, rfl⟩ := hrel
    by_cases hlt : i < m.ins.length
    case neg =>
     obtain rfl : i = m.ins.length := by omega
     go_wp2_with fail
     go_roundw
     case rel => exact ⟨1, m.ins.length, 0, .inr (.inl ⟨rfl, rfl, rfl⟩), V2, P2, rfl⟩
     case measure => simp [intOf]
    obtain ⟨g, cap, hD, hg, hg'⟩ := V2.out.r1.form (by omega)
    injection hD with hD hD1 hD2
    subst hD; subst hD2; have y0 := V2.out.r1.cellAt (i * 2) (by omega)
    have y1 := V2.out.r1.cellAt (i * 2 + 1) (by omega)
    rw [show i * 2 = i * 2 + 0 from rfl, zC1 (by rw [zKg]; exact hlt) (by decide), zKf _ _ hlt] at y0
    rw [zC1 (by rw [zKg]; exact hlt) (by decide), zKf _ _ hlt] at y1
    obtain ⟨⟨hs0, hs1⟩, hn0, hn1⟩ := HI.out _ (List.getElem_mem hlt)
    have HS : Hid (∀ W, Mv w go (.slice AL nL cL) (some ⟨g, 0, none⟩) D2 D3 D4 d1 d2 d3 d4 m.ins.length m.nxs.length m.bads.length m.hols.length (pre (mvB T) m.ins i) (pre (mvB T) m.nxs 0) (pre (toP T) m.bads 0) (pre (toP T) m.hols 0) W → Mv w go (.slice AL nL cL) (some ⟨g, 0, none⟩) D2 D3 D4 d1 d2 d3 d4 m.ins.length m.nxs.length m.bads.length m.hols.length (pre (mvB T) m.ins (i + 1)) (pre (mvB T) m.nxs 0) (pre (toP T) m.bads 0) (pre (toP T) m.hols 0) ((W.setCell ⟨g, i * 2, none⟩ (.int .i64 (toP T m.ins[i].st))).setCell ⟨g, i * 2 + 1, none⟩ (.int .i64 (toP T m.ins[i].nd)))) := fun W hW => by
     have := hW.put1 rfl AP1.out i (mvB T m.ins[i]); rw [zKh _ _ hlt] at this
     exact this
    generalize m.ins[i] = bb at *; obtain ⟨bs, bn⟩ := bb; dsimp only [cB] at y0 y1 hs0 hs1 hn0 hn1 HS; simp only [List.getElem?_toArray, List.getElem?_cons_zero, List.getElem?_cons_succ, Nat.add_zero] at y0 y1
    obtain ⟨q1, rfl⟩ : ∃ q : Nat, bs = (q : Int) := ⟨bs.toNat, by omega⟩
    obtain ⟨q2, rfl⟩ : ∃ q : Nat, bn = (q : Int) := ⟨bn.toNat, by omega⟩
    have hq1 : q1 < T.length := by omega
    have hq2 : q2 < T.length := by omega
    rw [zPf hq1, zPf hq2] at HS; have hj0 : (0 : Int) ≤ (i : Int) := by omega
    have hj1 : (i : Int) < (m.ins.length : Int) := by omega
    have e1 := wr1 (r := i) (by omega)
    go_wp2_with fail
    have BB : Hid (Below wx.heap.size wx (wx.alloc (.cells #[.int .i64 (q1 : Int), .int .i64 (q2 : Int)] 55))) := (Below.refl _ _).alloc (Nat.le_refl _) _; have BK : Hid (Blk (wx.alloc (.cells #[.int .i64 (q1 : Int), .int .i64 (q2 : Int)] 55)) wx.heap.size 55 #[.int .i64 (q1 : Int), .int .i64 (q2 : Int)]) := Blk.new _ _ _; have hgx : g < wx.heap.size := zBx y0; have V3 := Kh (V2.out.below BB.out); have P3 := Kh (P2.out.below BB.out P2.out.lt); obtain ⟨wv, hwv⟩ : ∃ z, wx.alloc (.cells #[.int .i64 (q1 : Int), .int .i64 (q2 : Int)] 55) = z := ⟨_, rfl⟩
    rw [hwv] at BB BK V3 P3 ⊢; clear hwv y0 y1; obtain ⟨y0, y1⟩ := BK.out.two; have z0 := V3.out.r1.cellAt (i * 2) (by omega)
    have z1 := V3.out.r1.cellAt (i * 2 + 1) (by omega)
    rw [show i * 2 = i * 2 + 0 from rfl, zC1 (by rw [zKg]; exact hlt) (by decide), zKf _ _ hlt] at z0
    rw [zC1 (by rw [zKg]; exact hlt) (by decide), zKf _ _ hlt] at z1
    simp only [cB, List.getElem?_toArray, List.getElem?_cons_zero, List.getElem?_cons_succ, Nat.add_zero] at z0 z1
    have f0 := V3.out.r1.frozenAt (i * 2); have f1 := V3.out.r1.frozenAt (i * 2 + 1); obtain ⟨gT, rfl, hgT, hcT⟩ := (HT.out.below (V3.out.bel)) (by omega)
    have t1 := hcT q1 hq1; have t2 := hcT q2 hq2; clear hcT; have h10 : (0 : Int) ≤ (q1 : Int) := by omega
    have h11 : (q1 : Int) < (T.length : Int) := by omega
    have h20 : (0 : Int) ≤ (q2 : Int) := by omega
    have h21 : (q2 : Int) < (T.length : Int) := by omega
    go_still_tail 14, (by kernel_rfl)
    go_wp2_with fail
    go_roundw
    case rel => ((repeat apply Exists.intro); (refine ⟨⟨i + 1, by omega, HS.out _ V3.out.drew, P3.out.putB (Blk.ne' V3.out.r1 rfl P3.out (by decide)) _ _, ?_⟩, rfl⟩); go_num)
    case measure => simp [intOf]; omega
  ·
   go_wp2_with fail
   go_loopw [32] (fun j wr => ∃ i : Nat, i ≤ m.nxs.length ∧ Hid (Mv w go (.slice AL nL cL) D1 D2 D3 D4 d1 d2 d3 d4 m.ins.length m.nxs.length m.bads.length m.hols.length (pre (mvB T) m.ins m.ins.length) (pre (mvB T) m.nxs i) (pre (toP T) m.bads 0) (pre (toP T) m.hols 0) wr) ∧ Hid (Blk wr (go + 1) 29 #[.slice D1 m.ins.length d1, .slice D2 m.nxs.length d2]) ∧ j = .int .i64 (i : Int)) (fun j _ => m.nxs.length - (intOf j).toNat)
   case atStart => exact ⟨0, Nat.zero_le _, V1, P1, rfl⟩
   case round =>
    obtain ⟨wx, rfl⟩ : ∃ x : World, x = wr := ⟨_, rfl⟩
    clear V1 P1 p0 p1; obtain ⟨i, hi, V2, P2, rfl⟩ := hrel
    by_cases hlt : i < m.nxs.length
    case neg =>
     obtain rfl : i = m.nxs.length := by omega
     go_wp2_with fail
     go_roundw
     case rel => exact ⟨2, m.ins.length, m.nxs.length, .inr (.inr ⟨rfl, rfl, rfl⟩), V2, P2, rfl⟩
     case measure => simp [intOf]
    obtain ⟨g, cap, hD, hg, hg'⟩ := V2.out.r2.form (by omega)
    injection hD with hD hD1 hD2
    subst hD; subst hD2; have y0 := V2.out.r2.cellAt (i * 2) (by omega)
    have y1 := V2.out.r2.cellAt (i * 2 + 1) (by omega)
    rw [show i * 2 = i * 2 + 0 from rfl, zC1 (by rw [zKg]; exact hlt) (by decide), zKf _ _ hlt] at y0
    rw [zC1 (by rw [zKg]; exact hlt) (by decide), zKf _ _ hlt] at y1
    obtain ⟨⟨hs0, hs1⟩, hn0, hn1⟩ := HX.out _ (List.getElem_mem hlt)
    have HS : Hid (∀ W, Mv w go (.slice AL nL cL) D1 (some ⟨g, 0, none⟩) D3 D4 d1 d2 d3 d4 m.ins.length m.nxs.length m.bads.length m.hols.length (pre (mvB T) m.ins m.ins.length) (pre (mvB T) m.nxs i) (pre (toP T) m.bads 0) (pre (toP T) m.hols 0) W → Mv w go (.slice AL nL cL) D1 (some ⟨g, 0, none⟩) D3 D4 d1 d2 d3 d4 m.ins.length m.nxs.length m.bads.length m.hols.length (pre (mvB T) m.ins m.ins.length) (pre (mvB T) m.nxs (i + 1)) (pre (toP T) m.bads 0) (pre (toP T) m.hols 0) ((W.setCell ⟨g, i * 2, none⟩ (.int .i64 (toP T m.nxs[i].st))).setCell ⟨g, i * 2 + 1, none⟩ (.int .i64 (toP T m.nxs[i].nd)))) := fun W hW => by
     have := hW.put2 rfl AP1.out i (mvB T m.nxs[i]); rw [zKh _ _ hlt] at this
     exact this
    generalize m.nxs[i] = bb at *; obtain ⟨bs, bn⟩ := bb; dsimp only [cB] at y0 y1 hs0 hs1 hn0 hn1 HS; simp only [List.getElem?_toArray, List.getElem?_cons_zero, List.getElem?_cons_succ, Nat.add_zero] at y0 y1
    obtain ⟨q1, rfl⟩ : ∃ q : Nat, bs = (q : Int) := ⟨bs.toNat, by omega⟩
    obtain ⟨q2, rfl⟩ : ∃ q : Nat, bn = (q : Int) := ⟨bn.toNat, by omega⟩
    have hq1 : q1 < T.length := by omega
    have hq2 : q2 < T.length := by omega
    rw [zPf hq1, zPf hq2] at HS; have hj0 : (0 : Int) ≤ (i : Int) := by omega
    have hj1 : (i : Int) < (m.nxs.length : Int) := by omega
    have e1 := wr1 (r := i) (by omega)
    go_wp2_with fail
    have BB : Hid (Below wx.heap.size wx (wx.alloc (.cells #[.int .i64 (q1 : Int), .int .i64 (q2 : Int)] 55))) := (Below.refl _ _).alloc (Nat.le_refl _) _; have BK : Hid (Blk (wx.alloc (.cells #[.int .i64 (q1 : Int), .int .i64 (q2 : Int)] 55)) wx.heap.size 55 #[.int .i64 (q1 : Int), .int .i64 (q2 : Int)]) := Blk.new _ _ _; have hgx : g < wx.heap.size := zBx y0; have V3 := Kh (V2.out.below BB.out); have P3 := Kh (P2.out.below BB.out P2.out.lt); obtain ⟨wv, hwv⟩ : ∃ z, wx.alloc (.cells #[.int .i64 (q1 : Int), .int .i64 (q2 : Int)] 55) = z := ⟨_, rfl⟩
    rw [hwv] at BB BK V3 P3 ⊢; clear hwv y0 y1; obtain ⟨y0, y1⟩ := BK.out.two; have z0 := V3.out.r2.cellAt (i * 2) (by omega)
    have z1 := V3.out.r2.cellAt (i * 2 + 1) (by omega)
    rw [show i * 2 = i * 2 + 0 from rfl, zC1 (by rw [zKg]; exact hlt) (by decide), zKf _ _ hlt] at z0
    rw [zC1 (by rw [zKg]; exact hlt) (by decide), zKf _ _ hlt] at z1
    simp only [cB, List.getElem?_toArray, List.getElem?_cons_zero, List.getElem?_cons_succ, Nat.add_zero] at z0 z1
    have f0 := V3.out.r2.frozenAt (i * 2); have f1 := V3.out.r2.frozenAt (i * 2 + 1); obtain ⟨gT, rfl, hgT, hcT⟩ := (HT.out.below (V3.out.bel)) (by omega)
    have t1 := hcT q1 hq1; have t2 := hcT q2 hq2; clear hcT; have h10 : (0 : Int) ≤ (q1 : Int) := by omega
    have h11 : (q1 : Int) < (T.length : Int) := by omega
    have h20 : (0 : Int) ≤ (q2 : Int) := by omega
    have h21 : (q2 : Int) < (T.length : Int) := by omega
    go_still_tail 14, (by kernel_rfl)
    go_wp2_with fail
    go_roundw
    case rel => ((repeat apply Exists.intro); (refine ⟨⟨i + 1, by omega, HS.out _ V3.out.drew, P3.out.putB (Blk.ne' V3.out.r2 rfl P3.out (by decide)) _ _, ?_⟩, rfl⟩); go_num)
    case measure => simp [intOf]; omega
  ·
   obtain ⟨x0, x1, x2, x3, x4⟩ := V1.out.box.five
   go_wp2_with fail
   clear x0 x1 x2 x3 x4 p0 p1; have B4 : Hid (Below wy.heap.size wy (wy.alloc (.cells #[.slice D3 m.bads.length d3, .slice D4 m.hols.length d4] 24))) := (Below.refl _ _).alloc (Nat.le_refl _) _; have V4 := Kh (V1.out.below B4.out); have P4 : Hid (Blk (wy.alloc (.cells #[.slice D3 m.bads.length d3, .slice D4 m.hols.length d4] 24)) wy.heap.size 24 #[.slice D3 m.bads.length d3, .slice D4 m.hols.length d4]) := Blk.new _ _ _; obtain ⟨wz, hwz⟩ : ∃ z, (wy.alloc (.cells #[.slice D3 m.bads.length d3, .slice D4 m.hols.length d4] 24)) = z := ⟨_, rfl⟩
   rw [hwz] at V4 P4 ⊢; clear hwz B4 V1 P1; generalize wy.heap.size = gq at *
   go_loopw [59] (fun j wr => ∃ r a b : Nat, ((r = 0 ∧ a = 0 ∧ b = 0) ∨ (r = 1 ∧ a = m.bads.length ∧ b = 0) ∨ (r = 2 ∧ a = m.bads.length ∧ b = m.hols.length)) ∧ Hid (Mv w go (.slice AL nL cL) D1 D2 D3 D4 d1 d2 d3 d4 m.ins.length m.nxs.length m.bads.length m.hols.length (pre (mvB T) m.ins m.ins.length) (pre (mvB T) m.nxs m.nxs.length) (pre (toP T) m.bads a) (pre (toP T) m.hols b) wr) ∧ Hid (Blk wr gq 24 #[.slice D3 m.bads.length d3, .slice D4 m.hols.length d4]) ∧ j = .int .i64 (r : Int)) (fun j _ => 2 - (intOf j).toNat)
   case atStart => exact ⟨0, 0, 0, .inl ⟨rfl, rfl, rfl⟩, V4, P4, rfl⟩
   case round =>
    obtain ⟨wy, rfl⟩ : ∃ x : World, x = wr := ⟨_, rfl⟩
    clear V4 P4; obtain ⟨r, a, b, hr, V1, P1, rfl⟩ := hrel; have p0 := P1.out.cell 0; have p1 := P1.out.cell 1; simp only [List.getElem?_toArray, List.getElem?_cons_zero, List.getElem?_cons_succ] at p0 p1
    rcases hr with ⟨rfl, rfl, rfl⟩ | ⟨rfl, rfl, rfl⟩ | ⟨rfl, rfl, rfl⟩
    ·
     go_wp2_with fail
     go_loopw [65] (fun j wr => ∃ i : Nat, i ≤ m.bads.length ∧ Hid (Mv w go (.slice AL nL cL) D1 D2 D3 D4 d1 d2 d3 d4 m.ins.length m.nxs.length m.bads.length m.hols.length (pre (mvB T) m.ins m.ins.length) (pre (mvB T) m.nxs m.nxs.length) (pre (toP T) m.bads i) (pre (toP T) m.hols 0) wr) ∧ Hid (Blk wr gq 24 #[.slice D3 m.bads.length d3, .slice D4 m.hols.length d4]) ∧ j = .int .i64 (i : Int)) (fun j _ => m.bads.length - (intOf j).toNat)
     case atStart => exact ⟨0, Nat.zero_le _, V1, P1, rfl⟩
     case round =>
      obtain ⟨wx, rfl⟩ : ∃ x : World, x = wr := ⟨_, rfl⟩
      clear V1 P1 p0 p1; obtain ⟨i, hi, V2, P2, rfl⟩ := hrel
      by_cases hlt : i < m.bads.length
      case neg =>
       obtain rfl : i = m.bads.length := by omega
       go_wp2_with fail
       go_roundw
       case rel => exact ⟨1, m.bads.length, 0, .inr (.inl ⟨rfl, rfl, rfl⟩), V2, P2, rfl⟩
       case measure => simp [intOf]
      obtain ⟨g, cap, hD, hg, hg'⟩ := V2.out.r3.form (by omega)
      injection hD with hD hD1 hD2
      subst hD; subst hD2; have y0 := V2.out.r3.cellAt i (by omega)
      rw [List.getElem?_map, List.getElem?_eq_getElem (by rw [zKg]; exact hlt), zKf _ _ hlt, Option.map_some] at y0
      obtain ⟨hs0, hs1⟩ := HBd.out _ (List.getElem_mem hlt)
      have HS : Hid (∀ W, Mv w go (.slice AL nL cL) D1 D2 (some ⟨g, 0, none⟩) D4 d1 d2 d3 d4 m.ins.length m.nxs.length m.bads.length m.hols.length (pre (mvB T) m.ins m.ins.length) (pre (mvB T) m.nxs m.nxs.length) (pre (toP T) m.bads i) (pre (toP T) m.hols 0) W → Mv w go (.slice AL nL cL) D1 D2 (some ⟨g, 0, none⟩) D4 d1 d2 d3 d4 m.ins.length m.nxs.length m.bads.length m.hols.length (pre (mvB T) m.ins m.ins.length) (pre (mvB T) m.nxs m.nxs.length) (pre (toP T) m.bads (i + 1)) (pre (toP T) m.hols 0) (W.setCell ⟨g, i, none⟩ (.int .i64 (toP T m.bads[i])))) := fun W hW => by
       have := hW.put3 rfl AP3.out i (toP T m.bads[i]); rw [zKh _ _ hlt] at this
       exact this
      generalize m.bads[i] = bs at *; obtain ⟨q1, rfl⟩ : ∃ q : Nat, bs = (q : Int) := ⟨bs.toNat, by omega⟩
      have hq1 : q1 < T.length := by omega
      rw [zPf hq1] at HS; have hj0 : (0 : Int) ≤ (i : Int) := by omega
      have hj1 : (i : Int) < (m.bads.length : Int) := by omega
      have e1 := wr1 (r := i) (by omega)
      have f0 := V2.out.r3.frozenAt i; obtain ⟨gT, rfl, hgT, hcT⟩ := (HT.out.below (V2.out.bel)) (by omega)
      have t1 := hcT q1 hq1; clear hcT; have h10 : (0 : Int) ≤ (q1 : Int) := by omega
      have h11 : (q1 : Int) < (T.length : Int) := by omega
      go_wp2_with fail
      go_roundw
      case rel => exact ⟨i + 1, by omega, HS.out _ V2.out, P2.out.far (p := ⟨g, i, none⟩) (Blk.ne' V2.out.r3 rfl P2.out (by decide)) _, by go_num⟩
      case measure => simp [intOf]; omega
    ·
     go_wp2_with fail
     go_loopw [65] (fun j wr => ∃ i : Nat, i ≤ m.hols.length ∧ Hid (Mv w go (.slice AL nL cL) D1 D2 D3 D4 d1 d2 d3 d4 m.ins.length m.nxs.length m.bads.length m.hols.length (pre (mvB T) m.ins m.ins.length) (pre (mvB T) m.nxs m.nxs.length) (pre (toP T) m.bads m.bads.length) (pre (toP T) m.hols i) wr) ∧ Hid (Blk wr gq 24 #[.slice D3 m.bads.length d3, .slice D4 m.hols.length d4]) ∧ j = .int .i64 (i : Int)) (fun j _ => m.hols.length - (intOf j).toNat)
     case atStart => exact ⟨0, Nat.zero_le _, V1, P1, rfl⟩
     case round =>
      obtain ⟨wx, rfl⟩ : ∃ x : World, x = wr := ⟨_, rfl⟩
      clear V1 P1 p0 p1; obtain ⟨i, hi, V2, P2, rfl⟩ := hrel
      by_cases hlt : i < m.hols.length
      case neg =>
       obtain rfl : i = m.hols.length := by omega
       go_wp2_with fail
       go_roundw
       case rel => exact ⟨2, m.bads.length, m.hols.length, .inr (.inr ⟨rfl, rfl, rfl⟩), V2, P2, rfl⟩
       case measure => simp [intOf]
      obtain ⟨g, cap, hD, hg, hg'⟩ := V2.out.r4.form (by omega)
      injection hD with hD hD1 hD2
      subst hD; subst hD2; have y0 := V2.out.r4.cellAt i (by omega)
      rw [List.getElem?_map, List.getElem?_eq_getElem (by rw [zKg]; exact hlt), zKf _ _ hlt, Option.map_some] at y0
      obtain ⟨hs0, hs1⟩ := HHo.out _ (List.getElem_mem hlt)
      have HS : Hid (∀ W, Mv w go (.slice AL nL cL) D1 D2 D3 (some ⟨g, 0, none⟩) d1 d2 d3 d4 m.ins.length m.nxs.length m.bads.length m.hols.length (pre (mvB T) m.ins m.ins.length) (pre (mvB T) m.nxs m.nxs.length) (pre (toP T) m.bads m.bads.length) (pre (toP T) m.hols i) W → Mv w go (.slice AL nL cL) D1 D2 D3 (some ⟨g, 0, none⟩) d1 d2 d3 d4 m.ins.length m.nxs.length m.bads.length m.hols.length (pre (mvB T) m.ins m.ins.length) (pre (mvB T) m.nxs m.nxs.length) (pre (toP T) m.bads m.bads.length) (pre (toP T) m.hols (i + 1)) (W.setCell ⟨g, i, none⟩ (.int .i64 (toP T m.hols[i])))) := fun W hW => by
       have := hW.put4 rfl AP3.out i (toP T m.hols[i]); rw [zKh _ _ hlt] at this
       exact this
      generalize m.hols[i] = bs at *; obtain ⟨q1, rfl⟩ : ∃ q : Nat, bs = (q : Int) := ⟨bs.toNat, by omega⟩
      have hq1 : q1 < T.length := by omega
      rw [zPf hq1] at HS; have hj0 : (0 : Int) ≤ (i : Int) := by omega
      have hj1 : (i : Int) < (m.hols.length : Int) := by omega
      have e1 := wr1 (r := i) (by omega)
      have f0 := V2.out.r4.frozenAt i; obtain ⟨gT, rfl, hgT, hcT⟩ := (HT.out.below (V2.out.bel)) (by omega)
      have t1 := hcT q1 hq1; clear hcT; have h10 : (0 : Int) ≤ (q1 : Int) := by omega
      have h11 : (q1 : Int) < (T.length : Int) := by omega
      go_wp2_with fail
      go_roundw
      case rel => exact ⟨i + 1, by omega, HS.out _ V2.out, P2.out.far (p := ⟨g, i, none⟩) (Blk.ne' V2.out.r4 rfl P2.out (by decide)) _, by go_num⟩
      case measure => simp [intOf]; omega
    ·
     obtain ⟨x0, x1, x2, x3, x4⟩ := V1.out.box.five; have f0 := V1.out.res.frozen 0; have f1 := V1.out.res.frozen 1; have f2 := V1.out.res.frozen 2; have f3 := V1.out.res.frozen 3; have f4 := V1.out.res.frozen 4; obtain ⟨z0, z1, z2, z3, z4⟩ := V1.out.res.five; clear p0 p1; have hres := V1.out.res; have HR := Kh (fun v0 v1 v2 v3 v4 => MvTo.put5 (V1.out.to (by rw [zKe, List.length_map]) (by rw [zKe, List.length_map]) (by rw [zKe, List.length_map]) (by rw [zKe, List.length_map])) hres (by omega) v0 v1 v2 v3 v4)
     rw [zKe, zKe, zKe, zKe] at HR; clear hres
     go_wp2_with fail
     exact bodyPost_ret (v := .agg #[.slice AL nL cL, .slice D1 m.ins.length d1, .slice D2 m.nxs.length d2, .slice D3 m.bads.length d3, .slice D4 m.hols.length d4]) (by simp [results, Tryz.results38, go_sem, z0, z1, z2, z3, z4]) rfl ⟨D1, D2, D3, D4, d1, d2, d3, d4, rfl, HR.out _ _ _ _ _⟩
end Go.Proofs.YtmolbnghobfmoaaGreat
