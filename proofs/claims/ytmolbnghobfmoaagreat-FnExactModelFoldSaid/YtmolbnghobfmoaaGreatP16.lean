/- Part 16 of what the row Row28 rests on: G12 G13 G14 F10. -/
import Derived.StillTailTactics
import Derived.Test.YtmolbnghobfmoaaGreatP14
import Derived.Test.YtmolbnghobfmoaaGreatP15
set_option maxRecDepth 100000
set_option maxHeartbeats 16000000
set_option linter.unusedSimpArgs false
set_option linter.unusedVariables false
namespace Go.Proofs.YtmolbnghobfmoaaGreat
open Go.RowKit
theorem zEa {l : List Bi} {k : Nat} (h : k < l.length) : l.getD k default = l[k] := by rw [List.getD_eq_getElem?_getD, List.getElem?_eq_getElem h]; rfl
theorem txt_eq (a b : ByteArray) : (a.toList == b.toList) = decide (a = b) := by
 rw [Bool.eq_iff_iff]; simp only [beq_iff_eq, decide_eq_true_eq]; rw [ByteArray.toList_eq, ByteArray.toList_eq]; constructor
 · intro h; cases a; cases b; simp only at h; rw [Array.toList_inj.1 h]
 · rintro rfl; rfl
theorem zFz (A : Option Addr) (cap : Nat) (l : List Bi) (w : World) (hA : zA1 w A l) (hl : l.length ≤ 1048576) :
 Calls Tryz.prog 110 #[.slice A l.length cap] w fun e w' => zAg (zOk l) e ∧ Below w.heap.size w w' := by
 have HA := Kh hA; clear hA
 go_enter Tryz.func110, Tryz.ntmps110
 go_wp2_with fail
 go_loopw [3] (fun i wr => ∃ r : Nat, r ≤ l.length ∧ Hid (∀ i j : Nat, j < i → i < r → (l.getD i default).st ≠ (l.getD j default).st) ∧ Hid (Below w.heap.size w wr) ∧ i = .int .i64 (r : Int)) (fun i _ => l.length - (intOf i).toNat)
 case atStart => exact ⟨0, Nat.zero_le _, fun i j _ h => absurd h (by omega), Below.refl _ _, rfl⟩
 case round =>
  obtain ⟨wz, rfl⟩ : ∃ x : World, x = wr := ⟨_, rfl⟩
  obtain ⟨r, hr, HNo, HBr, rfl⟩ := hrel
  by_cases hlt : r < l.length
  case neg =>
   obtain rfl : r = l.length := by omega
   have HN : Hid (¬ zOk l) := Kh (fun ⟨i, j, h1, h2, h3⟩ => HNo.out i j h1 h2 h3)
   go_wp2_with fail
   go_ret
   exact ⟨.no HN.out, HBr.out⟩
  have e1 := wr1 (r := r) (by omega)
  go_wp2_with fail
  go_loopw [4] (fun j wr => ∃ q : Nat, q ≤ r ∧ Hid (∀ j : Nat, j < q → (l.getD r default).st ≠ (l.getD j default).st) ∧ Hid (Below w.heap.size w wr) ∧ j = .int .i64 (q : Int)) (fun j _ => r - (intOf j).toNat)
  case atStart => exact ⟨0, Nat.zero_le _, fun j h => absurd h (by omega), HBr, rfl⟩
  case round =>
   obtain ⟨wy, rfl⟩ : ∃ x : World, x = wr := ⟨_, rfl⟩
   clear HBr; obtain ⟨q, hq, HNj, HBq, rfl⟩ := hrel
   by_cases hqr : q < r
   case neg =>
    obtain rfl : q = r := by omega
    have HS : Hid (∀ i j : Nat, j < i → i < q + 1 → (l.getD i default).st ≠ (l.getD j default).st) := Kh (fun i j h1 h2 => by
     by_cases e : i = q
     · subst e; exact HNj.out j h1
     · exact HNo.out i j h1 (by omega))
    go_wp2_with fail
    go_roundw
    case rel => exact ⟨q + 1, by omega, HS, HBq, by go_num⟩
    case measure => simp [intOf]; omega
   have e2 := wr1 (r := q) (by omega)
   have hj0 : (0 : Int) ≤ (r : Int) := by omega
   have hj1 : (r : Int) < (l.length : Int) := by omega
   have hk0 : (0 : Int) ≤ (q : Int) := by omega
   have hk1 : (q : Int) < (l.length : Int) := by omega
   have hql : q < l.length := by omega
   obtain ⟨g, rfl, hg, hc⟩ := (HA.out.below HBq.out) (by omega)
   have y0 := (hc r hlt).1; have z0 := (hc q hql).1; clear hc; have HR := Kh (zEa hlt); have HQ := Kh (zEa hql)
   by_cases he : l[r].st = l[q].st
   · have HT : Hid (zOk l) := Kh ⟨r, q, hqr, hlt, by rw [HR.out, HQ.out]; exact he⟩
     rw [he] at y0; clear he
     go_wp2_with fail
     go_quiet (fail); have HE := Kh (zB1 HBq.out)
     go_wp2_with fail
     go_ret
     exact ⟨.yes HT.out, HE.out _⟩
   · have HS : Hid (∀ j : Nat, j < q + 1 → (l.getD r default).st ≠ (l.getD j default).st) := Kh (fun j h1 => by
       by_cases e : j = q
       · subst e; rw [HR.out, HQ.out]; exact he
       · exact HNj.out j (by omega))
     have de : (l[r].st == l[q].st) = false := by simpa using he
     clear he
     go_wp2_with fail
     go_quiet (fail); have HE := Kh (zB1 HBq.out)
     go_wp2_with fail
     go_roundw
     case rel => exact ⟨q + 1, by omega, HS, Kh (HE.out _), by go_num⟩
     case measure => simp [intOf]; omega
theorem zAg.bool {P : Program} {f : FuncId} {args : Array Value} {w : World} {p : Prop} {b : Bool} (h : Calls P f args w fun e w' => zAg p e ∧ Below w.heap.size w w') (hb : b = true ↔ p) : Calls P f args w fun e w' => e = .returned (.bool b) ∧ Below w.heap.size w w' :=
 h.mono fun _ _ ⟨h1, h2⟩ => ⟨h1.same hb Iff.rfl, h2⟩
open Classical in
theorem zGn (A0 A1 A2 : Option Addr) (c0 c1 c2 : Nat) (l : List No) (l1 l2 : List Bi) (x3 x4 : Value) (w : World) (hA : zA9 w A0 l) (h1 : zA1 w A1 l1) (h2 : zA1 w A2 l2) (hl : l.length ≤ 1048576) (hl1 : l1.length ≤ 1048576) (hl2 : l2.length ≤ 1048576) :
    Calls Tryz.prog 56 #[.agg #[.slice A0 l.length c0, .slice A1 l1.length c1, .slice A2 l2.length c2, x3, x4]] w fun e w' => zAg (zI5 l ∨ zOk l1 ∨ zOk l2) e ∧ Below w.heap.size w w' := by
 have HA := Kh hA; have HA1 := Kh h1; have HA2 := Kh h2; clear hA h1 h2; have HB0 := bx w #[.slice A0 l.length c0, .slice A1 l1.length c1, .slice A2 l2.length c2, x3, x4] 31; have HX0 := nx w #[.slice A0 l.length c0, .slice A1 l1.length c1, .slice A2 l2.length c2, x3, x4] 31
 go_enter Tryz.func56, Tryz.ntmps56
 go_wp2_with fail
 go_loopw [3] (fun i wr => ∃ r : Nat, r ≤ l.length ∧ Hid (∀ i j : Nat, j < i → i < r → ¬ ((noAt l i).t.size ≠ 0 ∧ (noAt l i).t = (noAt l j).t)) ∧ Hid (Below w.heap.size w wr) ∧ Hid (Blk wr w.heap.size 31 #[.slice A0 l.length c0, .slice A1 l1.length c1, .slice A2 l2.length c2, x3, x4]) ∧ i = .int .i64 (r : Int)) (fun i _ => l.length - (intOf i).toNat)
 case atStart => exact ⟨0, Nat.zero_le _, fun i j _ h => absurd h (by omega), HB0, HX0, rfl⟩
 case round =>
  obtain ⟨wz, rfl⟩ : ∃ x : World, x = wr := ⟨_, rfl⟩
  clear HB0 HX0; obtain ⟨r, hr, HNo, HBr, HXr, rfl⟩ := hrel; obtain ⟨m0, m1, m2, m3, m4⟩ := HXr.out.five
  by_cases hlt : r < l.length
  case neg =>
   obtain rfl : r = l.length := by omega
   have HN : Hid (¬ zI5 l) := Kh (fun ⟨i, j, h1, h2, h3⟩ => HNo.out i j h1 h2 h3)
   have T1 := fun b (hb : b = true ↔ zOk l1) W (hW : Below w.heap.size w W) => zAg.bool (zFz A1 c1 l1 W (HA1.out.below hW) hl1) hb
   have T2 := fun b (hb : b = true ↔ zOk l2) W (hW : Below w.heap.size w W) => zAg.bool (zFz A2 c2 l2 W (HA2.out.below hW) hl2) hb
   by_cases s1 : zOk l1
   · have T := Kh (T1 true (by simp [s1]))
     have HY := Kh s1; clear T1 T2 s1
     go_wp2_with (go_at_call 110; refine (T.out _ HBr.out).mono ?_; rintro e w3 ⟨rfl, hb3⟩; have HB3 := Kh (HBr.out.trans (hb3.mono HBr.out.size)); clear hb3)
     go_ret
     exact ⟨.yes (.inr (.inl HY.out)), HB3.out⟩
   have T := Kh (T1 false (by simp [s1]))
   obtain ⟨b, hb⟩ : ∃ b, decide (zOk l2) = b := ⟨_, rfl⟩
   have U := Kh (T2 b (by rw [← hb]; exact decide_eq_true_iff))
   have HY : Hid (b = true ↔ zOk l2) := Kh (by rw [← hb]; exact decide_eq_true_iff)
   have H1 := Kh s1; clear T1 T2 s1 hb
   go_wp2_with (first | ((with_reducible show Calls _ _ _ wz _); go_at_call 110; refine (T.out _ HBr.out).mono ?_; rintro e w3 ⟨rfl, hb3⟩; have HB3 := Kh (HBr.out.trans (hb3.mono HBr.out.size)); have HX3 := Kh (HXr.out.below hb3 HXr.out.lt); obtain ⟨n0, n1, n2, n3, n4⟩ := HX3.out.five; clear hb3) | ((with_reducible show Calls _ _ _ w3 _); go_at_call 110; refine (U.out _ HB3.out).mono ?_; rintro e w4 ⟨rfl, hb4⟩; have HB4 := Kh (HB3.out.trans (hb4.mono HB3.out.size)); clear hb4))
   go_ret
   exact ⟨zAg.of ⟨fun h => .inr (.inr (HY.out.1 h)), fun h => HY.out.2 (by rcases h with h | h | h; exact absurd h HN.out; exact absurd h H1.out; exact h)⟩, HB4.out⟩
  have e1 := wr1 (r := r) (by omega)
  go_wp2_with fail
  clear m0 m1 m2 m3 m4
  go_loopw [4] (fun j wr => ∃ q : Nat, q ≤ r ∧ Hid (∀ j : Nat, j < q → ¬ ((noAt l r).t.size ≠ 0 ∧ (noAt l r).t = (noAt l j).t)) ∧ Hid (Below w.heap.size w wr) ∧ Hid (Blk wr w.heap.size 31 #[.slice A0 l.length c0, .slice A1 l1.length c1, .slice A2 l2.length c2, x3, x4]) ∧ j = .int .i64 (q : Int)) (fun j _ => r - (intOf j).toNat)
  case atStart => exact ⟨0, Nat.zero_le _, fun j h => absurd h (by omega), HBr, HXr, rfl⟩
  case round =>
   obtain ⟨wy, rfl⟩ : ∃ x : World, x = wr := ⟨_, rfl⟩
   clear HBr HXr; obtain ⟨q, hq, HNj, HBq, HXq, rfl⟩ := hrel
   by_cases hqr : q < r
   case neg =>
    obtain rfl : q = r := by omega
    have HS : Hid (∀ i j : Nat, j < i → i < q + 1 → ¬ ((noAt l i).t.size ≠ 0 ∧ (noAt l i).t = (noAt l j).t)) := Kh (fun i j h1 h2 => by
     by_cases e : i = q
     · subst e; exact HNj.out j h1
     · exact HNo.out i j h1 (by omega))
    go_wp2_with fail
    go_roundw
    case rel => exact ⟨q + 1, by omega, HS, HBq, HXq, by go_num⟩
    case measure => simp [intOf]; omega
   have e2 := wr1 (r := q) (by omega)
   have hj0 : (0 : Int) ≤ (r : Int) := by omega
   have hj1 : (r : Int) < (l.length : Int) := by omega
   have hk0 : (0 : Int) ≤ (q : Int) := by omega
   have hk1 : (q : Int) < (l.length : Int) := by omega
   have hql : q < l.length := by omega
   obtain ⟨g, rfl, hg, hc⟩ := (HA.out.below HBq.out) (by omega)
   have y0 := (hc r hlt).2.2.2.2.2.2.2.2; have z0 := (hc q hql).2.2.2.2.2.2.2.2; rw [← zIb hlt] at y0; rw [← zIb hql] at z0; clear hc; obtain ⟨m0, m1, m2, m3, m4⟩ := HXq.out.five
   have HSt : Hid (¬ ((noAt l r).t.size ≠ 0 ∧ (noAt l r).t = (noAt l q).t) → ∀ j : Nat, j < q + 1 → ¬ ((noAt l r).t.size ≠ 0 ∧ (noAt l r).t = (noAt l j).t)) := Kh (fun h j h1 => by
    by_cases e : j = q
    · subst e; exact h
    · exact HNj.out j (by omega))
   have HTw : Hid ((noAt l r).t.size ≠ 0 ∧ (noAt l r).t = (noAt l q).t → zI5 l) := Kh (fun h => ⟨r, q, hqr, hlt, h⟩)
   generalize (noAt l (r : Int)).t = t1 at *; generalize (noAt l (q : Int)).t = t2 at *
   by_cases hz : t1.size = 0
   · have y1 : (t1.toList == []) = true := (zDf t1).2 hz
     have y2 : t1.toList = [] := by simpa using y1
     have y3 : (t1.toList != []) = false := by simpa using y2
     have y4 : (!t1.toList.isEmpty) = false := by simpa using y2
     have HS := Kh (HSt.out (fun h => h.1 hz))
     clear HSt HTw hz
     go_wp2_with fail
     go_quiet (fail); have HE := Kh (zB1 HBq.out); have HD := Kh (fun m => HXq.out.below (zB1 (Below.refl _ wy) m) HXq.out.lt)
     go_wp2_with fail
     go_roundw
     case rel => exact ⟨q + 1, by omega, HS, Kh (HE.out _), Kh (HD.out _), by go_num⟩
     case measure => simp [intOf]; omega
   have y1 : (t1.toList == []) = false := by rw [Bool.eq_false_iff]; exact fun h => hz ((zDf t1).1 h)
   have y2 : ¬ t1.toList = [] := by simpa using y1
   have y3 : (t1.toList != []) = true := by simpa using y1
   have y4 : (!t1.toList.isEmpty) = true := by simpa using y2
   by_cases he : t1 = t2
   · have HT := Kh (HTw.out ⟨hz, he⟩)
     subst he; clear HSt HTw hz
     go_wp2_with fail
     go_quiet (fail); have HE := Kh (zB1 HBq.out)
     go_wp2_with fail
     go_ret
     exact ⟨.yes (.inl HT.out), HE.out _⟩
   · have HS := Kh (HSt.out (fun h => he h.2))
     have y5 : (t1.toList == t2.toList) = false := by rw [txt_eq]; exact decide_eq_false he
     have y6 : ¬ t1.toList = t2.toList := by simpa using y5
     clear HSt HTw hz he
     go_wp2_with fail
     go_quiet (fail); have HE := Kh (zB1 HBq.out); have HD := Kh (fun m => HXq.out.below (zB1 (Below.refl _ wy) m) HXq.out.lt)
     go_wp2_with fail
     go_roundw
     case rel => exact ⟨q + 1, by omega, HS, Kh (HE.out _), Kh (HD.out _), by go_num⟩
     case measure => simp [intOf]; omega
def zAc (l : List No) (i j : Nat) : Prop := i < l.length ∧ ((0 < zK1 (noAt l i).k ∧ (noAt l i).a = (j : Int)) ∨ (1 < zK1 (noAt l i).k ∧ (noAt l i).b = (j : Int)) ∨ (2 < zK1 (noAt l i).k ∧ (noAt l i).c = (j : Int)))
inductive Of (l : List No) (p : Nat) : Nat → Prop
 | self : Of l p p
 | step {i j : Nat} (h : Of l p i) (hp : zAc l i j) : Of l p j
theorem zAc.lt {l : List No} (hl : zAb l) {i j : Nat} (h : zAc l i j) : j < i := by
 obtain ⟨hi, h⟩ := h; have := hl.part (p := (i : Int)) (by omega) (by omega)
 rcases h with ⟨h1, h2⟩ | ⟨h1, h2⟩ | ⟨h1, h2⟩
 · have := this.1 h1; omega
 · have := this.2.1 h1; omega
 · have := this.2.2 h1; omega
theorem Of.le {l : List No} (hl : zAb l) {p j : Nat} (h : Of l p j) : j ≤ p := by
 induction h with
 | self => exact Nat.le_refl _
 | step h hp ih => have := hp.lt hl; omega
theorem Of.head {l : List No} {p q j : Nat} (hp : zAc l p q) (h : Of l q j) : Of l p j := by
 induction h with
 | self => exact .step .self hp
 | step h hp' ih => exact .step ih hp'
theorem made_of {l : List No} (hl : zAb l) {p : Nat} (h : Made l p) : ∃ j, Of l p j ∧ j < l.length ∧ zI6 (noAt l j).k := by
 induction h with
 | self h hk => exact ⟨_, .self, h, hk⟩
 | @a i h hp hm ih =>
  obtain ⟨j, h1, h2⟩ := ih; have := (hl.part (p := (i : Int)) (by omega) (by omega)).1 hp
  exact ⟨j, h1.head ⟨h, .inl ⟨hp, by omega⟩⟩, h2⟩
 | @b i h hp hm ih =>
  obtain ⟨j, h1, h2⟩ := ih; have := (hl.part (p := (i : Int)) (by omega) (by omega)).2.1 hp
  exact ⟨j, h1.head ⟨h, .inr (.inl ⟨hp, by omega⟩)⟩, h2⟩
 | @c i h hp hm ih =>
  obtain ⟨j, h1, h2⟩ := ih; have := (hl.part (p := (i : Int)) (by omega) (by omega)).2.2 hp
  exact ⟨j, h1.head ⟨h, .inr (.inr ⟨hp, by omega⟩)⟩, h2⟩
theorem zIu {l : List No} {p j : Nat} (h : Of l p j) (hm : Made l j) : Made l p := by
 induction h with
 | self => exact hm
 | @step i j h hp ih =>
  apply ih
  obtain ⟨hi, hp⟩ := hp
  rcases hp with ⟨h1, h2⟩ | ⟨h1, h2⟩ | ⟨h1, h2⟩
  · exact .a hi h1 (by rw [h2]; exact hm)
  · exact .b hi h1 (by rw [h2]; exact hm)
  · exact .c hi h1 (by rw [h2]; exact hm)
theorem zH6 {l : List No} (hl : zAb l) {p : Nat} (hp : p < l.length) : Made l p ↔ ∃ j, j ≤ p ∧ Of l p j ∧ zI6 (noAt l j).k := by
 constructor
 · intro h; obtain ⟨j, h1, _, h3⟩ := made_of hl h; exact ⟨j, h1.le hl, h1, h3⟩
 · rintro ⟨j, h0, h1, h3⟩; exact zIu h1 (.self (by omega) h3)
def OfF (l : List No) (p r j : Nat) : Prop := j = p ∨ ∃ i, r ≤ i ∧ Of l p i ∧ zAc l i j
theorem OfF.start {l : List No} (hl : zAb l) {p j : Nat} : OfF l p (p + 1) j ↔ j = p := by
 constructor
 · rintro (h | ⟨i, h1, h2, _⟩)
   · exact h
   · have := h2.le hl; omega
 · exact .inl
theorem OfF.all {l : List No} {p j : Nat} : OfF l p 0 j ↔ Of l p j := by
 constructor
 · rintro (h | ⟨i, _, h2, h3⟩)
   · subst h; exact .self
   · exact .step h2 h3
 · intro h
   cases h with
   | self => exact .inl rfl
   | step h hp => exact .inr ⟨_, Nat.zero_le _, h, hp⟩
theorem OfF.at {l : List No} (hl : zAb l) {p r : Nat} : OfF l p (r + 1) r ↔ Of l p r := by
 constructor
 · rintro (h | ⟨i, _, h2, h3⟩)
   · subst h; exact .self
   · exact .step h2 h3
 · intro h
   cases h with
   | self => exact .inl rfl
   | step h hp => exact .inr ⟨_, by have := hp.lt hl; omega, h, hp⟩
theorem OfF.skip {l : List No} {p r j : Nat} (h : ¬ Of l p r) : OfF l p r j ↔ OfF l p (r + 1) j := by
 constructor
 · rintro (h1 | ⟨i, h1, h2, h3⟩)
   · exact .inl h1
   · exact .inr ⟨i, by rcases Nat.lt_or_eq_of_le h1 with h4 | h4; omega; subst h4; exact absurd h2 h, h2, h3⟩
 · rintro (h1 | ⟨i, h1, h2, h3⟩)
   · exact .inl h1
   · exact .inr ⟨i, by omega, h2, h3⟩
theorem OfF.take {l : List No} {p r j : Nat} (h : Of l p r) : OfF l p r j ↔ OfF l p (r + 1) j ∨ zAc l r j := by
 constructor
 · rintro (h1 | ⟨i, h1, h2, h3⟩)
   · exact .inl (.inl h1)
   · rcases Nat.lt_or_eq_of_le h1 with h4 | h4
     · exact .inl (.inr ⟨i, by omega, h2, h3⟩)
     · subst h4; exact .inr h3
 · rintro ((h1 | ⟨i, h1, h2, h3⟩) | h1)
   · exact .inl h1
   · exact .inr ⟨i, by omega, h2, h3⟩
   · exact .inr ⟨r, Nat.le_refl _, h, h1⟩
def zA2 (n : No) (k j : Nat) : Prop := (0 < k ∧ n.a = (j : Int)) ∨ (1 < k ∧ n.b = (j : Int)) ∨ (2 < k ∧ n.c = (j : Int))
theorem zA2.all {l : List No} {r j k : Nat} (hr : r < l.length) (hk : (k : Int) = zK1 (noAt l r).k) : zA2 (noAt l r) k j ↔ zAc l r j := by
 unfold zA2 zAc; rw [← hk]; constructor
 · rintro (⟨h1, h2⟩ | ⟨h1, h2⟩ | ⟨h1, h2⟩)
   · exact ⟨hr, .inl ⟨by omega, h2⟩⟩
   · exact ⟨hr, .inr (.inl ⟨by omega, h2⟩)⟩
   · exact ⟨hr, .inr (.inr ⟨by omega, h2⟩)⟩
 · rintro ⟨-, ⟨h1, h2⟩ | ⟨h1, h2⟩ | ⟨h1, h2⟩⟩
   · exact .inl ⟨by omega, h2⟩
   · exact .inr (.inl ⟨by omega, h2⟩)
   · exact .inr (.inr ⟨by omega, h2⟩)
def prtN (n : No) (r : Nat) : Int := if r = 0 then n.a else if r = 1 then n.b else n.c
theorem zA2.succ {n : No} {k j q : Nat} (hk : k < 3) (hq : prtN n k = (q : Int)) : zA2 n (k + 1) j ↔ zA2 n k j ∨ j = q := by
 unfold zA2 prtN at *
 rcases (show k = 0 ∨ k = 1 ∨ k = 2 by omega) with rfl | rfl | rfl
 · rw [if_pos rfl] at hq
   constructor
   · rintro (h | h | h) <;> omega
   · rintro ((h | h | h) | h) <;> omega
 · rw [if_neg (by decide), if_pos rfl] at hq
   constructor
   · rintro (h | h | h) <;> omega
   · rintro ((h | h | h) | h) <;> omega
 · rw [if_neg (by decide), if_neg (by decide)] at hq
   constructor
   · rintro (h | h | h) <;> omega
   · rintro ((h | h | h) | h) <;> omega
open Classical in
noncomputable def zIq (n : Nat) (f : Nat → Prop) : Array Value := zL2 (fun j => .bool (decide (f j))) n
open Classical in
theorem zIr {n : Nat} {f g : Nat → Prop} (h : ∀ j, f j ↔ g j) : zIq n f = zIq n g := by
 unfold zIq
 exact zL3 (fun i _ => by rw [decide_eq_decide.2 (h i)])
open Classical in
theorem zIt {n q : Nat} {f : Nat → Prop} : (zIq n f).setIfInBounds q (.bool true) = zIq n (fun j => f j ∨ j = q) := by
 unfold zIq; rw [zL5]
 refine zL3 (fun i _ => ?_)
 by_cases h : i = q
 · simp [h]
 · simp [h]
open Classical in
theorem zIs {n j : Nat} {f : Nat → Prop} (h : j < n) : (zIq n f)[j]? = some (.bool (decide (f j))) := zL4 _ _ _ h
structure MdX (w : World) (go : Nat) (n : Nat) (f : Nat → Prop) (W : World) : Prop where
 bel : Below w.heap.size w W
 row : Blk W go 4 (zIq n f)
 lo : w.heap.size ≤ go
theorem MdX.below {w W W' : World} {go n : Nat} {f : Nat → Prop} (h : MdX w go n f W) (hb : Below W.heap.size W W') : MdX w go n f W' := ⟨h.bel.trans (hb.mono h.bel.size), h.row.below hb h.row.lt, h.lo⟩
theorem MdX.set {w W : World} {go n : Nat} {f : Nat → Prop} (h : MdX w go n f W) (q : Nat) : MdX w go n (fun j => f j ∨ j = q) (W.setCell ⟨go, q, none⟩ (.bool true)) :=
 ⟨h.bel.setCell (p := ⟨go, q, none⟩) h.lo _, by rw [← zIt]; exact h.row.set_ q _, h.lo⟩
theorem MdX.congr {w W : World} {go n : Nat} {f g : Nat → Prop} (h : MdX w go n f W) (he : ∀ j, f j ↔ g j) : MdX w go n g W := ⟨h.bel, by rw [← zIr he]; exact h.row, h.lo⟩
open Classical in
theorem zG5 (A : Option Addr) (ci : Nat) (l : List No) (p : Nat) (w : World) (hA : zA9 w A l) (hl : l.length ≤ 60) (hok : zAb l) (hp : p < l.length) :
    Calls Tryz.prog 158 #[.slice A l.length ci, .int .i64 (p : Int)] w fun e w' => ∃ g, e = .returned (.slice (some ⟨g, 0, none⟩) l.length l.length) ∧ MdX w g l.length (Of l p) w' := by
 have HA := Kh hA; have HOK := Kh hok; clear hA hok; have hmk := zHr l.length (by omega)
 have M0 : Hid (MdX w w.heap.size l.length (fun _ => False) (w.alloc (.cells (zL2 (fun _ => .bool false) l.length) 4))) := Kh ⟨(Below.refl _ _).alloc (Nat.le_refl _) _, by
  have e : zIq l.length (fun _ => False) = zL2 (fun _ => .bool false) l.length := zL3 (fun i _ => by simp)
  rw [e]; exact Blk.new _ _ _, Nat.le_refl _⟩
 have M1 : Hid (MdX w w.heap.size l.length (OfF l p (p + 1)) (w.alloc (.cells ((zL2 (fun _ => .bool false) l.length).setIfInBounds p (.bool true)) 4))) := Kh ⟨(Below.refl _ _).alloc (Nat.le_refl _) _, by
  have e : zIq l.length (fun _ => False) = zL2 (fun _ => .bool false) l.length := zL3 (fun i _ => by simp)
  rw [← e, zIt, zIr (g := OfF l p (p + 1)) (fun j => by rw [OfF.start HOK.out]; simp)]
  exact Blk.new _ _ _, Nat.le_refl _⟩
 have hp0 : (0 : Int) ≤ (p : Int) := by omega
 have hp1 : (p : Int) < (l.length : Int) := by omega
 have c0 := M0.out.row.cell p; rw [zIs hp] at c0; have f0 := M0.out.row.frozen p
 go_enter Tryz.func158, Tryz.ntmps158
 go_wp2_with fail
 obtain ⟨wz, hwz⟩ : ∃ z, w.alloc (.cells ((zL2 (fun _ => .bool false) l.length).setIfInBounds p (.bool true)) 4) = z := ⟨_, rfl⟩
 rw [hwz] at M1 ⊢; clear hwz M0 c0 f0 hmk; generalize w.heap.size = go at *
 go_loopw [6] (fun i wr => ∃ r : Nat, r ≤ p + 1 ∧ Hid (MdX w go l.length (OfF l p r) wr) ∧ i = .int .i64 ((r : Int) - 1)) (fun i _ => (intOf i + 1).toNat)
 case atStart => exact ⟨p + 1, Nat.le_refl _, M1, by congr 1; omega⟩
 case round =>
  obtain ⟨wy, rfl⟩ : ∃ x : World, x = wr := ⟨_, rfl⟩
  clear M1; obtain ⟨r1, hr1, M2, rfl⟩ := hrel
  by_cases hz : r1 = 0
  · subst hz
    have MF := Kh (M2.out.congr (fun j => OfF.all))
    go_wp2_with fail
    go_ret
    exact ⟨go, rfl, MF.out⟩
  obtain ⟨r, rfl⟩ : ∃ r, r1 = r + 1 := ⟨r1 - 1, by omega⟩
  have er : ((r + 1 : Nat) : Int) - 1 = (r : Int) := by omega
  rw [er]; have hrl : r < l.length := by omega
  have hj0 : (0 : Int) ≤ (r : Int) := by omega
  have hj1 : (r : Int) < (l.length : Int) := by omega
  have e1 : IntKind.i64.wrap ((r : Int) - 1) = (r : Int) - 1 := zRa (by omega) (by omega)
  have c0 := M2.out.row.cell r; rw [zIs hrl] at c0
  by_cases ho : Of l p r
  case neg =>
   rw [decide_eq_false (fun h => ho ((OfF.at HOK.out).1 h))] at c0
   have M3 := Kh (M2.out.congr (fun j => (OfF.skip ho).symm))
   clear ho
   go_wp2_with fail
   go_roundw
   case rel => exact ⟨r, by omega, M3, rfl⟩
   case measure => simp [intOf]; try omega
  rw [decide_eq_true ((OfF.at HOK.out).2 ho)] at c0; have HO := Kh ho; clear ho; obtain ⟨g, rfl, hg, hc⟩ := HA.out (by omega)
  have CE : Hid (∀ W, Below w.heap.size w W → W.cell? ⟨g, r * 9, none⟩ = some (.int .i64 (noAt l (r : Int)).k) ∧ W.cell? ⟨g, r * 9 + 1, none⟩ = some (.int .i64 (noAt l (r : Int)).a) ∧ W.cell? ⟨g, r * 9 + 2, none⟩ = some (.int .i64 (noAt l (r : Int)).b) ∧ W.cell? ⟨g, r * 9 + 3, none⟩ = some (.int .i64 (noAt l (r : Int)).c)) := Kh (fun W h => by
   obtain ⟨y0, y1, y2, y3, -⟩ := hc r hrl; rw [← zIb hrl] at y0 y1 y2 y3; have f : ∀ j, W.cell? ⟨g, j, none⟩ = w.cell? ⟨g, j, none⟩ := fun j => h.cell (p := ⟨g, j, none⟩) hg
   rw [f, f, f, f]
   exact ⟨y0, y1, y2, y3⟩)
  clear hc; have hpt := HOK.out.part (p := (r : Int)) (by omega) (by omega)
  have HPT := Kh hpt; have hk3 := zK2 (noAt l (r : Int)).k; have hk0 : 0 ≤ zK1 (noAt l (r : Int)).k := (HOK.out.at (p := (r : Int)) (by omega) (by omega)).out.2.1.1
  obtain ⟨P, hP⟩ : ∃ P : Nat, zK1 (noAt l (r : Int)).k = (P : Int) := ⟨(zK1 (noAt l (r : Int)).k).toNat, by omega⟩
  have PT := Kh (fun W => zG8 (noAt l (r : Int)).k W)
  rw [hP] at PT; have HP := Kh hP; have hP3 : P ≤ 3 := by omega
  clear hpt hk3 hk0 hP; have HN : Hid (∃ n, noAt l (r : Int) = n) := Kh ⟨_, rfl⟩
  obtain ⟨n, hn⟩ := HN.out; rw [hn] at CE PT HP HPT; have HN := Kh hn; clear hn; obtain ⟨y0, y1, y2, y3⟩ := CE.out _ M2.out.bel; have HFA : Hid (∀ j, zA2 n P j ↔ zAc l r j) := Kh (fun j => by rw [← HN.out]; exact zA2.all hrl (by rw [HN.out]; exact HP.out.symm))
  go_wp2_with fail
  go_still_tail 15, (by kernel_rfl)
  clear y0 y1 y2 y3 c0; have HB1 : Hid (Below wy.heap.size wy (wy.alloc (.cells #[.int .i64 n.a, .int .i64 n.b, .int .i64 n.c] 3)).drew) := Kh ((Below.refl _ _).alloc (Nat.le_refl _) _).drew; have BP : Hid (Blk (wy.alloc (.cells #[.int .i64 n.a, .int .i64 n.b, .int .i64 n.c] 3)).drew wy.heap.size 3 #[.int .i64 n.a, .int .i64 n.b, .int .i64 n.c]) := Kh (Blk.new _ _ _); have M3 : Hid (MdX w go l.length (fun j => OfF l p (r + 1) j ∨ zA2 n 0 j) (wy.alloc (.cells #[.int .i64 n.a, .int .i64 n.b, .int .i64 n.c] 3)).drew) := Kh ((M2.out.below HB1.out).congr (fun j => by unfold zA2; simp))
  go_wp2_with fail
  obtain ⟨wv, hwv⟩ : ∃ z, (wy.alloc (.cells #[.int .i64 n.a, .int .i64 n.b, .int .i64 n.c] 3)).drew = z := ⟨_, rfl⟩
  rw [hwv] at M3 BP ⊢; have hgp : go < wy.heap.size := M2.out.row.lt; clear hwv HB1 M2; generalize wy.heap.size = gp at *
  go_loopw [8] (fun k wr => ∃ q : Nat, q ≤ P ∧ Hid (MdX w go l.length (fun j => OfF l p (r + 1) j ∨ zA2 n q j) wr) ∧ Hid (Blk wr gp 3 #[.int .i64 n.a, .int .i64 n.b, .int .i64 n.c]) ∧ k = .int .i64 (q : Int)) (fun k _ => P - (intOf k).toNat)
  case atStart => exact ⟨0, Nat.zero_le _, M3, BP, rfl⟩
  case round =>
   obtain ⟨wu, rfl⟩ : ∃ x : World, x = wr := ⟨_, rfl⟩
   clear M3 BP; obtain ⟨q, hq, M4, BP, rfl⟩ := hrel; obtain ⟨y0, -, -, -⟩ := CE.out _ M4.out.bel
   by_cases hqP : q < P
   case neg =>
    obtain rfl : q = P := by omega
    have M5 : Hid (MdX w go l.length (OfF l p r) wu) := Kh (M4.out.congr (fun j => by rw [OfF.take HO.out, HFA.out j]))
    go_wp2_with (go_at_call 79; refine (PT.out _).mono ?_; rintro e w1 ⟨rfl, rfl⟩)
    go_roundw
    case rel => exact ⟨r, by omega, M5, rfl⟩
    case measure => simp [intOf]; try omega
   have e2 := wr1 (r := q) (by omega)
   have HT : Hid (∃ t : Nat, prtN n q = (t : Int) ∧ t < l.length) := Kh (by
    have h := HPT.out; rw [HP.out] at h; unfold prtN
    rcases (show q = 0 ∨ q = 1 ∨ q = 2 by omega) with rfl | rfl | rfl
    · have := h.1 (by omega); exact ⟨n.a.toNat, by rw [if_pos rfl]; omega, by omega⟩
    · have := h.2.1 (by omega); exact ⟨n.b.toNat, by rw [if_neg (by decide), if_pos rfl]; omega, by omega⟩
    · have := h.2.2 (by omega); exact ⟨n.c.toNat, by rw [if_neg (by decide), if_neg (by decide)]; omega, by omega⟩)
   obtain ⟨t, ht, htl⟩ := HT.out
   have z0 : wu.cell? ⟨gp, q, none⟩ = some (.int .i64 (t : Int)) := by
    rw [BP.out.cell, ← ht]; unfold prtN
    rcases (show q = 0 ∨ q = 1 ∨ q = 2 by omega) with rfl | rfl | rfl <;> rfl
   have M5 : Hid (MdX w go l.length (fun j => OfF l p (r + 1) j ∨ zA2 n (q + 1) j) (wu.setCell ⟨go, t, none⟩ (.bool true))) := Kh ((M4.out.set t).congr (fun j => by rw [zA2.succ (by omega) ht, or_assoc]))
   have f0 := M4.out.row.frozen t; have c1 := M4.out.row.cell t; rw [zIs htl] at c1; have BP2 := Kh (BP.out.far (p := ⟨go, t, none⟩) (by show gp ≠ go; omega) (.bool true))
   have hk0 : (0 : Int) ≤ (q : Int) := by omega
   have hk1 : (q : Int) < 3 := by omega
   have hk2 : q < 3 := by omega
   have ht0 : (0 : Int) ≤ (t : Int) := by omega
   have ht1 : (t : Int) < (l.length : Int) := by omega
   have hqP' : (q : Int) < (P : Int) := by omega
   clear ht HT
   go_wp2_with (go_at_call 79; refine (PT.out _).mono ?_; rintro e w1 ⟨rfl, rfl⟩)
   go_roundw
   case rel => exact ⟨q + 1, by omega, M5, BP2, by go_num⟩
   case measure => simp [intOf]; omega
open Classical in
theorem zG4 (A : Option Addr) (ci : Nat) (l : List No) (x1 x2 x3 x4 : Value) (p : Nat) (w : World) (hA : zA9 w A l) (hl : l.length ≤ 60) (hok : zAb l) (hp : p < l.length) :
    Calls Tryz.prog 113 #[.agg #[.slice A l.length ci, x1, x2, x3, x4], .int .i64 (p : Int)] w fun e w' => zAg (¬ Made l p) e ∧ Below w.heap.size w w' := by
 have HA := Kh hA; have HOK := Kh hok; clear hA hok; have HB0 := bx w #[.slice A l.length ci, x1, x2, x3, x4] 31; have HX0 := nx w #[.slice A l.length ci, x1, x2, x3, x4] 31; have T := Kh (zG5 A ci l p _ (HA.out.below HB0.out) hl HOK.out hp)
 go_enter Tryz.func113, Tryz.ntmps113
 go_wp2_with (go_at_call 158; refine T.out.mono ?_; rintro e w1 ⟨go, rfl, hm⟩; have M1 := Kh hm; clear hm)
 have W1 := Kh (HB0.out.trans (M1.out.bel.mono HB0.out.size)); have X1 := Kh (HX0.out.below M1.out.bel HX0.out.lt); have R1 := Kh M1.out.row; clear T HB0 HX0 M1; obtain ⟨m0, -, -, -, -⟩ := X1.out.five
 go_loop [6] (fun i => ∃ r : Nat, r ≤ p + 1 ∧ Hid (∀ j, j < r → ¬ (Of l p j ∧ zI6 (noAt l j).k)) ∧ i = .int .i64 (r : Int)) (fun i => p + 1 - (intOf i).toNat)
 case atStart => exact ⟨0, Nat.zero_le _, fun j h => absurd h (by omega), rfl⟩
 case round =>
  obtain ⟨r, hr, HNo, rfl⟩ := hrel
  by_cases hlt : r ≤ p
  case neg =>
   have HN : Hid (¬ Made l p) := Kh (fun h => by
    obtain ⟨j, h0, h1, h2⟩ := (zH6 HOK.out hp).1 h
    exact HNo.out j (by omega) ⟨h1, h2⟩)
   go_wp2_with fail
   go_ret
   exact ⟨.yes HN.out, W1.out⟩
  have hrl : r < l.length := by omega
  have e1 := wr1 (r := r) (by omega)
  have hj0 : (0 : Int) ≤ (r : Int) := by omega
  have hj1 : (r : Int) < (l.length : Int) := by omega
  have c0 := R1.out.cell r; rw [zIs hrl] at c0
  have HS : Hid (¬ (Of l p r ∧ zI6 (noAt l r).k) → ∀ j, j < r + 1 → ¬ (Of l p j ∧ zI6 (noAt l j).k)) := Kh (fun h j hj => by
   by_cases e : j = r
   · subst e; exact h
   · exact HNo.out j (by omega))
  by_cases ho : Of l p r
  case neg =>
   rw [decide_eq_false ho] at c0; have H1 := Kh (HS.out (fun h => ho h.1))
   clear ho
   go_wp2_with fail
   go_round
   case rel => exact ⟨r + 1, by omega, H1, by go_num⟩
   case measure => simp [intOf]; omega
  rw [decide_eq_true ho] at c0; obtain ⟨g, rfl, hg, hc⟩ := (HA.out.below W1.out) (by omega)
  have y0 := (hc r hrl).1; rw [← zIb hrl] at y0; clear hc; have HO := Kh ho; clear ho; have HM : Hid (zI6 (noAt l (r : Int)).k → Made l p) := Kh (fun h => zIu HO.out (.self hrl h))
  have HS := Kh (fun (h : ¬ zI6 (noAt l (r : Int)).k) => HS.out (fun h1 => h h1.2))
  obtain ⟨k, hk⟩ : ∃ k, (noAt l (r : Int)).k = k := ⟨_, rfl⟩
  rw [hk] at y0 HM HS; clear hk
  by_cases k36 : k = 36
  · subst k36
    have H1 := Kh (HM.out (by unfold zI6; omega))
    go_wp2_with fail
    go_ret
    exact ⟨.no (fun h => h H1.out), W1.out⟩
  have d36 : (k == 36) = false := by simpa using k36
  by_cases k35 : k = 35
  · subst k35
    have H1 := Kh (HM.out (by unfold zI6; omega))
    go_wp2_with fail
    go_ret
    exact ⟨.no (fun h => h H1.out), W1.out⟩
  have d35 : (k == 35) = false := by simpa using k35
  have H1 := Kh (HS.out (by unfold zI6; omega))
  clear k35 k36
  go_wp2_with fail
  go_round
  case rel => exact ⟨r + 1, by omega, H1, by go_num⟩
  case measure => simp [intOf]; omega
open Classical in
theorem zBf (A : Option Addr) (ci : Nat) (l : List No) (x1 x2 x3 x4 : Value) (b : Bi) (gm : Nat) (init : Bool) (w : World) (hA : zA9 w A l) (hl : l.length ≤ 60) (hm : Blk w gm 4 (zL2 (fun j => .bool (decide (Made l j))) l.length)) :
    Calls Tryz.prog 87 #[.agg #[.slice A l.length ci, x1, x2, x3, x4], .agg #[.int .i64 b.st, .int .i64 b.nd], .slice (some ⟨gm, 0, none⟩) l.length l.length, .bool init] w fun e w' => e = .returned (.bool (decide (zBe l init b))) ∧ Below w.heap.size w w' := by
 obtain ⟨F, hF⟩ : ∃ x, decide (zBe l init b) = x := ⟨_, rfl⟩
 rw [hF]; have HF := Kh hF; have HA := Kh hA; have HM := Kh hm; clear hA hm hF; have bad : ¬ zBe l init b → Hid (F = false) := fun h => Kh (by rw [← HF.out]; exact decide_eq_false h)
 have HBad := Kh bad; clear bad; have HB0 : Hid (Below w.heap.size w ((w.alloc (.cells #[.slice A l.length ci, x1, x2, x3, x4] 31)).alloc (.cells #[.int .i64 b.st, .int .i64 b.nd] 55))) := ((Below.refl _ _).alloc (Nat.le_refl _) _).alloc (by simp) _
 have HX0 : Hid (Blk ((w.alloc (.cells #[.slice A l.length ci, x1, x2, x3, x4] 31)).alloc (.cells #[.int .i64 b.st, .int .i64 b.nd] 55)) w.heap.size 31 #[.slice A l.length ci, x1, x2, x3, x4]) := (Blk.new _ _ _).alloc _; have HY0 : Hid (Blk ((w.alloc (.cells #[.slice A l.length ci, x1, x2, x3, x4] 31)).alloc (.cells #[.int .i64 b.st, .int .i64 b.nd] 55)) (w.heap.size + 1) 55 #[.int .i64 b.st, .int .i64 b.nd]) := Blk.new_at _ _ _ (by simp)
 by_cases h1 : 0 ≤ b.st ∧ b.st ≤ (l.length : Int) - 1
 case neg =>
  have HN := HBad.out (fun h => h1 h.1)
  have H1 := Kh (decide_eq_false h1); clear h1
  go_enter Tryz.func87, Tryz.ntmps87
  go_wp2_with (go_at_call 92; refine (zFl A ci l x1 x2 x3 x4 _ false _ (by omega) H1.out).mono ?_; rintro e w1 ⟨rfl, hb1⟩; have HB1 := Kh (HB0.out.trans (hb1.mono HB0.out.size)); clear hb1)
  go_ret; rw [HN.out]
  exact ⟨rfl, HB1.out⟩
 have H1 := Kh (decide_eq_true h1)
 by_cases h2 : 0 ≤ b.nd ∧ b.nd ≤ (l.length : Int) - 1
 case neg =>
  have HN := HBad.out (fun h => h2 h.2.1)
  have H2 := Kh (decide_eq_false h2); clear h1 h2
  go_enter Tryz.func87, Tryz.ntmps87
  go_wp2_with (first
   | (go_at_call 92; (with_reducible show Calls _ _ #[_, .int .i64 b.st] _ _); refine (zFl A ci l x1 x2 x3 x4 b.st true _ (by omega) H1.out).mono ?_; rintro e w1 ⟨rfl, hb1⟩; have HB1 := Kh (HB0.out.trans (hb1.mono HB0.out.size)); have HX1 := Kh (HX0.out.below hb1 HX0.out.lt); have HY1 := Kh (HY0.out.below hb1 HY0.out.lt); obtain ⟨y0, y1⟩ := HY1.out.two; obtain ⟨m0, m1, m2, m3, m4⟩ := HX1.out.five; clear hb1)
   | (go_at_call 92; (with_reducible show Calls _ _ #[_, .int .i64 b.nd] _ _); refine (zFl A ci l x1 x2 x3 x4 b.nd false _ (by omega) H2.out).mono ?_; rintro e w2 ⟨rfl, hb1⟩; have HB2 := Kh (HB1.out.trans (hb1.mono HB1.out.size)); clear hb1))
  go_ret; rw [HN.out]
  exact ⟨rfl, HB2.out⟩
 have H2 := Kh (decide_eq_true h2); obtain ⟨st, nd⟩ := b; obtain ⟨p, hp⟩ : ∃ p : Nat, st = (p : Int) := ⟨st.toNat, by simp only at h1; omega⟩
 obtain ⟨q, hq⟩ : ∃ q : Nat, nd = (q : Int) := ⟨nd.toNat, by simp only at h2; omega⟩
 subst hp hq; simp only at h1 h2 HX0 HY0 HB0 H1 H2 HF HBad ⊢; have hpl : p < l.length := by omega
 have hql : q < l.length := by omega
 have hp0 : (0 : Int) ≤ (p : Int) := by omega
 have hp1 : (p : Int) < (l.length : Int) := by omega
 have hq0 : (0 : Int) ≤ (q : Int) := by omega
 have hq1 : (q : Int) < (l.length : Int) := by omega
 have ep : noAt l (p : Int) = l[p] := zIb hpl; have eq : noAt l (q : Int) = l[q] := zIb hql; obtain ⟨g, rfl, hg, hc⟩ := HA.out (by omega)
 have hcp := hc p hpl; have hcq := hc q hql; have H12 := Kh (And.intro h1 h2); clear h1 h2 hc; rw [← ep] at hcp; rw [← eq] at hcq; have HCP := Kh hcp; have HCQ := Kh hcq; clear hcp hcq ep eq; have ARM : True := trivial
 by_cases h3 : (noAt l (p : Int)).k = 36
 case neg =>
  have HN := HBad.out (fun h => h3 h.2.2.1)
  have z3 : ((noAt l (p : Int)).k == 36) = false := by simpa using h3
  clear h3
  go_enter Tryz.func87, Tryz.ntmps87
  go_wp2_with (first
   | (go_at_call 92; (with_reducible show Calls _ _ #[_, .int .i64 (p : Int)] _ _); refine (zFl _ ci l x1 x2 x3 x4 (p : Int) true _ (by omega) H1.out).mono ?_; rintro e w1 ⟨rfl, hb1⟩; have HB1 := Kh (HB0.out.trans (hb1.mono HB0.out.size)); have HX1 := Kh (HX0.out.below hb1 HX0.out.lt); have HY1 := Kh (HY0.out.below hb1 HY0.out.lt); obtain ⟨y0, y1⟩ := HY1.out.two; obtain ⟨m0, m1, m2, m3, m4⟩ := HX1.out.five; clear hb1)
   | (go_at_call 92; (with_reducible show Calls _ _ #[_, .int .i64 (q : Int)] _ _); refine (zFl _ ci l x1 x2 x3 x4 (q : Int) true _ (by omega) H2.out).mono ?_; rintro e w2 ⟨rfl, hb1⟩; have HB2 := Kh (HB1.out.trans (hb1.mono HB1.out.size)); have HX2 := Kh (HX1.out.below hb1 HX1.out.lt); have HY2 := Kh (HY1.out.below hb1 HY1.out.lt); clear y0 y1 m0 m1 m2 m3 m4; obtain ⟨y0, y1⟩ := HY2.out.two; obtain ⟨m0, m1, m2, m3, m4⟩ := HX2.out.five; have k0 := (HB2.out.cell (p := ⟨g, p * 9, none⟩) hg).trans HCP.out.1; clear hb1))
  go_ret; rw [HN.out]
  exact ⟨rfl, HB2.out⟩
 have H3 := Kh h3; have z3 : ((noAt l (p : Int)).k == 36) = true := by simpa using h3
 clear h3
 go_enter Tryz.func87, Tryz.ntmps87
 go_wp2_with (first
  | (go_at_call 92; (with_reducible show Calls _ _ #[_, .int .i64 (p : Int)] _ _); refine (zFl _ ci l x1 x2 x3 x4 (p : Int) true _ (by omega) H1.out).mono ?_; rintro e w1 ⟨rfl, hb1⟩; have HB1 := Kh (HB0.out.trans (hb1.mono HB0.out.size)); have HX1 := Kh (HX0.out.below hb1 HX0.out.lt); have HY1 := Kh (HY0.out.below hb1 HY0.out.lt); obtain ⟨y0, y1⟩ := HY1.out.two; obtain ⟨m0, m1, m2, m3, m4⟩ := HX1.out.five; clear hb1)
  | (go_at_call 92; (with_reducible show Calls _ _ #[_, .int .i64 (q : Int)] _ _); refine (zFl _ ci l x1 x2 x3 x4 (q : Int) true _ (by omega) H2.out).mono ?_; rintro e w2 ⟨rfl, hb1⟩; have HB2 := Kh (HB1.out.trans (hb1.mono HB1.out.size)); have HX2 := Kh (HX1.out.below hb1 HX1.out.lt); have HY2 := Kh (HY1.out.below hb1 HY1.out.lt); clear y0 y1 m0 m1 m2 m3 m4; obtain ⟨y0, y1⟩ := HY2.out.two; obtain ⟨m0, m1, m2, m3, m4⟩ := HX2.out.five; have k0 := (HB2.out.cell (p := ⟨g, p * 9, none⟩) hg).trans HCP.out.1; have k1 := (HB2.out.cell (p := ⟨g, p * 9 + 6, none⟩) hg).trans HCP.out.2.2.2.2.2.2.1; have k2 := (HB2.out.cell (p := ⟨g, p * 9 + 7, none⟩) hg).trans HCP.out.2.2.2.2.2.2.2.1; have k3 := (HB2.out.cell (p := ⟨g, q * 9 + 6, none⟩) hg).trans HCQ.out.2.2.2.2.2.2.1; have k4 := (HB2.out.cell (p := ⟨g, q * 9 + 7, none⟩) hg).trans HCQ.out.2.2.2.2.2.2.2.1; clear hb1))
 have hg2 : g < w2.heap.size := Nat.lt_of_lt_of_le hg HB2.out.size; have KEY : Hid (∀ W, Below w2.heap.size w2 W → W.cell? ⟨w.heap.size, 0, none⟩ = some (.slice (some ⟨g, 0, none⟩) l.length ci) ∧ W.cell? ⟨w.heap.size + 1, 0, none⟩ = some (.int .i64 (p : Int)) ∧ W.cell? ⟨w.heap.size + 1, 1, none⟩ = some (.int .i64 (q : Int)) ∧ W.cell? ⟨g, p * 9 + 6, none⟩ = some (.int .i64 (noAt l (p : Int)).s.i) ∧ W.cell? ⟨g, p * 9 + 7, none⟩ = some (.int .i64 (noAt l (p : Int)).s.w) ∧ W.cell? ⟨g, q * 9 + 6, none⟩ = some (.int .i64 (noAt l (q : Int)).s.i) ∧ W.cell? ⟨g, q * 9 + 7, none⟩ = some (.int .i64 (noAt l (q : Int)).s.w)) := Kh (fun W h => ⟨(h.cell (p := ⟨w.heap.size, 0, none⟩) HX2.out.lt).trans m0, (h.cell (p := ⟨w.heap.size + 1, 0, none⟩) HY2.out.lt).trans y0, (h.cell (p := ⟨w.heap.size + 1, 1, none⟩) HY2.out.lt).trans y1, (h.cell (p := ⟨g, p * 9 + 6, none⟩) hg2).trans k1, (h.cell (p := ⟨g, p * 9 + 7, none⟩) hg2).trans k2, (h.cell (p := ⟨g, q * 9 + 6, none⟩) hg2).trans k3, (h.cell (p := ⟨g, q * 9 + 7, none⟩) hg2).trans k4⟩)
 have HM2 := Kh (HM.out.below HB2.out HM.out.lt); have hi2 : gm < w2.heap.size := HM2.out.lt; generalize hnp : noAt l (p : Int) = np at *; generalize hnq : noAt l (q : Int) = nq at *; have HNP := Kh hnp; have HNQ := Kh hnq; clear hnp hnq
 go_cut [9, 10] (fun s9 s10 wc => ∃ ga gb : Nat, s9 = .pointer (some ⟨ga, 0, none⟩) ∧ s10 = .pointer (some ⟨gb, 0, none⟩) ∧ Hid (Blk wc ga 40 #[.int .i64 np.s.i, .int .i64 np.s.w]) ∧ Hid (Blk wc gb 40 #[.int .i64 nq.s.i, .int .i64 nq.s.w]) ∧ Hid (Below w2.heap.size w2 wc))
 case first =>
  (go_region_held3 (fun W => W.cell? ⟨w.heap.size, 0, none⟩ = some (.slice (some ⟨g, 0, none⟩) l.length ci) ∧ W.cell? ⟨w.heap.size + 1, 0, none⟩ = some (.int .i64 (p : Int)) ∧ W.cell? ⟨w.heap.size + 1, 1, none⟩ = some (.int .i64 (q : Int)) ∧ W.cell? ⟨g, p * 9 + 6, none⟩ = some (.int .i64 np.s.i) ∧ W.cell? ⟨g, p * 9 + 7, none⟩ = some (.int .i64 np.s.w) ∧ W.cell? ⟨g, q * 9 + 6, none⟩ = some (.int .i64 nq.s.i) ∧ W.cell? ⟨g, q * 9 + 7, none⟩ = some (.int .i64 nq.s.w)) (first | exact KEY.out _ (Below.refl _ _).drew | exact KEY.out _ ((Below.refl _ _).drew.alloc (Nat.le_refl _) _) | exact KEY.out _ (((Below.refl _ _).drew.alloc (Nat.le_refl _) _).alloc (by simp) _)) (first | fail))
  all_goals
   go_wp2_with fail
   go_meet
   case rel => first
    | exact ⟨w2.heap.size, w2.heap.size + 1, rfl, rfl, (Blk.new _ _ _).alloc _, Blk.new_at _ _ _ (by simp), ((Below.refl _ _).drew.alloc (Nat.le_refl _) _).alloc (by simp) _⟩
    | exact ⟨w2.heap.size + 1, w2.heap.size, rfl, rfl, Blk.new_at _ _ _ (by simp), (Blk.new _ _ _).alloc _, ((Below.refl _ _).drew.alloc (Nat.le_refl _) _).alloc (by simp) _⟩
 case rest =>
  obtain ⟨ga, gb, rfl, rfl, BA, BB, HBc⟩ := hcut; obtain ⟨v0, v1⟩ := BA.out.two; obtain ⟨v2, v3⟩ := BB.out.two; have HBw := Kh (HB2.out.trans (HBc.out.mono HB2.out.size)); obtain ⟨z, hz⟩ : ∃ z, decide (np.s.i = nq.s.i ∧ np.s.w = nq.s.w) = z := ⟨_, rfl⟩
  have q0 := fun w => zDq hz w
  have HZ := Kh hz; clear hz
  cases init with
  | false =>
   have HV : Hid (z = F) := Kh (by
    rw [← HF.out, ← HZ.out]; apply decide_eq_decide.2
    unfold zBe zFk; simp only [HNP.out, HNQ.out, H12.out, H3.out, true_and, Bool.false_eq_true, if_false, So.ext_iff, and_self])
   go_wp2_with fail
   go_ret
   exact ⟨zKu HV.out, HBw.out⟩
  | true =>
   obtain ⟨mq, hmq⟩ : ∃ z, decide (Made l q) = z := ⟨_, rfl⟩
   have c5 : wc.cell? ⟨gm, q, none⟩ = some (.bool mq) := by rw [(HM2.out.below HBc.out hi2).cell, zL4 _ _ _ hql, hmq]
   have HMQ := Kh hmq; clear hmq; obtain ⟨z2, hz2⟩ : ∃ z, decide (nq.s.i = 0 ∧ nq.s.w = np.s.w) = z := ⟨_, rfl⟩
   have q2 := fun w => zDq hz2 w
   have HZ2 := Kh hz2; clear hz2
   have HV : Hid (((z || z2) && !mq) = F) := Kh (by
    rw [← HF.out, ← HZ.out, ← HZ2.out, ← HMQ.out]; rw [Bool.eq_iff_iff]; simp only [Bool.and_eq_true, Bool.or_eq_true, decide_eq_true_eq, Bool.not_eq_true', decide_eq_false_iff_not]; unfold zBe zFk; simp only [HNP.out, HNQ.out, H12.out, H3.out, true_and, if_true, So.ext_iff, and_self, Int.toNat_natCast, wS])
   have K0 := fun x : Ext wc => zDt v0 BA.out.lt x
   have K1 := fun x : Ext wc => zDt v1 BA.out.lt x
   have K2 := fun x : Ext wc => zDt v2 BB.out.lt x
   have K3 := fun x : Ext wc => zDt v3 BB.out.lt x
   have K4 := fun x : Ext wc => zDt (KEY.out wc HBc.out).2.2.1 (by have := HBw.out.size; have := (HY2.out.below HBc.out HY2.out.lt).lt; exact this) x
   have K5 := fun x : Ext wc => zDt c5 (by have := HBc.out.size; show gm < _; omega) x
   clear c5
   cases z with
   | true =>
    go_wp2_with fail
    refine zR4 (by kernel_rfl) (by kernel_rfl) ?_
    repeat go_big_quiet_step (fail)
    refine wpQuiet_nil ?_
    intro _ hw'; obtain ⟨x, hw''⟩ := hw'; subst hw''
    go_wp2_with fail
    go_ret
    exact ⟨zKu (by rw [← HV.out]; simp), HBw.out.trans (x.2.mono HBw.out.size)⟩
   | false =>
    cases z2 with
    | true =>
     go_wp2_with fail
     refine zR4 (by kernel_rfl) (by kernel_rfl) ?_
     repeat go_big_quiet_step ((first | (go_at_call 93; exact zDs _ (zQs _ _))))
     refine wpQuiet_nil ?_
     intro _ hw'; obtain ⟨x, hw''⟩ := hw'; subst hw''
     go_wp2_with fail
     go_ret
     exact ⟨zKu (by rw [← HV.out]; simp), HBw.out.trans (x.2.mono HBw.out.size)⟩
    | false =>
     go_wp2_with fail
     refine zR4 (by kernel_rfl) (by kernel_rfl) ?_
     repeat go_big_quiet_step ((first | (go_at_call 93; exact zDs _ (zQs _ _))))
     refine wpQuiet_nil ?_
     intro _ hw'; obtain ⟨x, hw''⟩ := hw'; subst hw''
     go_wp2_with fail
     go_ret
     exact ⟨zKu (by rw [← HV.out]; simp), HBw.out.trans (x.2.mono HBw.out.size)⟩
end Go.Proofs.YtmolbnghobfmoaaGreat
