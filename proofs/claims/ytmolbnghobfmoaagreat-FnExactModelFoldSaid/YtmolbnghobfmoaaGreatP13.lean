/- Part 13 of what the row Row28 rests on: G10. -/
import Derived.Test.YtmolbnghobfmoaaGreatP2
import Derived.Test.YtmolbnghobfmoaaGreatP12
set_option maxRecDepth 100000
set_option maxHeartbeats 16000000
set_option linter.unusedSimpArgs false
set_option linter.unusedVariables false
namespace Go.Proofs.YtmolbnghobfmoaaGreat
open Go.RowKit
def cS (s : So) : Array Value := #[.int .i64 s.i, .int .i64 s.w]
def zCf (l : List So) : List Value := l.flatMap fun s => (cS s).toList
theorem zCg {l : List So} {k : Nat} (h : k < l.length) {j : Nat} (hj : j < 2) : (zCf l)[k * 2 + j]? = (cS l[k])[j]? := by
 induction l generalizing k with
 | nil => cases h
 | cons x t ih =>
  rw [zCf, List.flatMap_cons]; have hl : (cS x).toList.length = 2 := rfl
  cases k with
  | zero => rw [Nat.zero_mul, Nat.zero_add, List.getElem?_append_left (by omega)]; simp
  | succ k =>
   rw [List.getElem?_append_right (by omega), hl, show (k + 1) * 2 + j - 2 = k * 2 + j by omega]
   exact ih (by simpa using h)
theorem zNl {w : World} {B c : Nat} {A : Option Addr} {l : List So} (h : w.ownsRow B 40 2 (.slice A l.length c) l.length (zCf l)) : zAh w A l := fun hp => by
 obtain ⟨g, cap, e1, hge, hlt⟩ := h.form hp; injection e1 with e1 _ e2
 subst e1; subst e2
 refine ⟨g, rfl, hlt, fun k hk => ⟨?_, ?_⟩⟩
 · rw [show k * 2 = k * 2 + 0 from rfl, h.cellAt (k * 2 + 0) (by omega), zCg hk (by decide)]; rfl
 · rw [h.cellAt (k * 2 + 1) (by omega), zCg hk (by decide)]; rfl
theorem zF6 : (Tryz.prog.info? 40).map (fun i => (i.zero, i.size, i.bytes)) = some (some (.agg #[.int .i64 0, .int .i64 0]), 2, 16) := by kernel_rfl
structure NX (w : World) (cs ps : Array Value) (ga : Nat) (AS : Option Addr) (c : Nat) (ss : List So) (W : World) : Prop where
 rx : RX w cs #[.int .i64 0, .int .i64 0] W
 bp : Blk W ga 3 ps
 own : W.ownsRow w.heap.size 40 2 (.slice AS ss.length c) ss.length (zCf ss)
theorem NX.below {w W W' : World} {cs ps : Array Value} {ga : Nat} {AS : Option Addr} {c : Nat} {ss : List So} (h : NX w cs ps ga AS c ss W) (hb : Below W.heap.size W W') : NX w cs ps ga AS c ss W' := ⟨h.rx.below hb, h.bp.below hb h.bp.lt, zJ9 h.own hb⟩
theorem zJj {w W : World} {cs r : Array Value} {AS : Option Addr} {n c : Nat} {xs : List Value} {B : Nat} (h : W.ownsRow B 40 2 (.slice AS n c) n xs) (hr : RX w cs r W) (hB : AS ≠ some ⟨w.heap.size + 1, 0, none⟩) : (Value.slice AS n c).ownBlock ≠ some (w.heap.size + 1) := by
 rcases h.2 with ⟨hv, _⟩ | ⟨g, cap, cur, hv, _⟩
 · rw [hv]; exact fun e => by cases e
 · injection hv with hv
   subst hv; intro e; have : g = w.heap.size + 1 := by simpa [Value.ownBlock] using e
   exact hB (by rw [this])
theorem NX.app {w W W' : World} {cs ps : Array Value} {ga : Nat} {AS AS' : Option Addr} {c c' : Nat} {ss : List So} {s : So} (h : NX w cs ps ga AS c ss W) (hap : AS ≠ some ⟨w.heap.size + 1, 0, none⟩)
 (ho : W'.ownsRow w.heap.size 40 2 (.slice AS' (ss.length + 1) c') (ss.length + 1) (zCf ss ++ (cS s).toList)) (hg : W.grownBy W' (Value.slice AS ss.length c).ownBlock) : NX w cs ps ga AS' c' (ss ++ [s]) W' :=
 ⟨⟨h.rx.bel.grown hg h.rx.bel.size (fun k e => (h.own.lt k e).1), h.rx.b0.grown hg (fun e => zJg h.own h.rx.b0 (by decide) e.symm), h.rx.b1.grown hg (fun e => zJj h.own h.rx hap e.symm)⟩,
  h.bp.grown hg (fun e => zJg h.own h.bp (by decide) e.symm), by
   rw [show (ss ++ [s]).length = ss.length + 1 by simp, show zCf (ss ++ [s]) = zCf ss ++ (cS s).toList by simp [zCf]]; exact ho⟩
theorem zBy {w : World} {g i : Nat} {v : Value} (h : w.cell? ⟨g, i, none⟩ = some v) : g < w.heap.size := by
 rcases Nat.lt_or_ge g w.heap.size with h1 | h1
 · exact h1
 · simp [World.cell?, Array.getElem?_eq_none h1] at h
theorem zJq {w : World} {B : Nat} {e : TypeId} {s n c : Nat} {A : Option Addr} {xs : List Value} (h : w.ownsRow B e s (.slice A n c) n xs) (hn : 0 < n) : ∃ g : Nat, A = some ⟨g, 0, none⟩ := by
 obtain ⟨g, cap, e1, _, _⟩ := h.form hn; injection e1 with e1
 exact ⟨g, e1⟩
theorem asNe {w W : World} {cs r : Array Value} {AS AS' : Option Addr} {n n' c c' : Nat} {xs : List Value} {B z : Nat} (h : W.ownsRow B 40 2 (.slice AS n c) n xs) (hr : RX w cs r W) (hB : AS ≠ some ⟨w.heap.size + 1, 0, none⟩)
 (hor : (Value.slice AS' n' c').ownBlock = (Value.slice AS n c).ownBlock ∨ (Value.slice AS' n' c').ownBlock = some W.heap.size) (hz : w.heap.size + 1 < z) : AS' ≠ some ⟨w.heap.size + 1, 0, none⟩ := by
 rintro rfl; have e : (Value.slice (some (⟨w.heap.size + 1, 0, none⟩ : Addr)) n' c').ownBlock = some (w.heap.size + 1) := rfl; rw [e] at hor
 rcases hor with h1 | h1
 · exact zJj h hr hB h1.symm
 · injection h1 with h1
   have := hr.b1.lt; omega
theorem zIk {l : List No} {n : No} (h : ¬ (l.length ≤ 60 ∧ zE5 l.length n ∧ zK4 l n)) : zIe l n = none := by unfold zIe; rw [if_neg h]
theorem zIl {l : List No} {n : No} (h : l.length ≤ 60 ∧ zE5 l.length n ∧ zK4 l n) : zIe l n = zNp n (zJu l n 0 n.a) (zJu l n 1 n.b) (zJu l n 2 n.c) := by unfold zIe; rw [if_pos h]
theorem NsP.no {o : Option So} {w w' : World} (h : o = none) (hb : Below w.heap.size w w') : NsP o w (.returned (.tuple #[.agg #[.int .i64 0, .int .i64 0], .bool false])) w' := ⟨.inr ⟨h, rfl⟩, hb⟩
theorem NsP.yes {o : Option So} {w w' : World} {s : So} (h : o = some s) (hb : Below w.heap.size w w') : NsP o w (.returned (.tuple #[.agg #[.int .i64 s.i, .int .i64 s.w], .bool true])) w' := ⟨.inl ⟨s, h, rfl⟩, hb⟩
theorem zGa (A : Option Addr) (cap : Nat) (k na nb nc nn nm si sw : Int) (nt : ByteArray) (a : So) (w : World) (hS : zAh w A [a]) (ha : sortOk a) (hk : zK1 k = 1) :
 Calls Tryz.prog 157 #[.agg #[.int .i64 k, .int .i64 na, .int .i64 nb, .int .i64 nc, .int .i64 nn, .int .i64 nm, .int .i64 si, .int .i64 sw, .string nt], .slice A 1 cap] w fun e w' => SoP (zNp ⟨k, na, nb, nc, nn, nm, ⟨si, sw⟩, nt⟩ a ⟨0, 0⟩ ⟨0, 0⟩) w e w' := by
 have h := zK3 (show 0 ≤ zK1 k by omega)
 by_cases h1 : k ≤ 5
 · exact zGl A cap k na nb nc nn nm si sw nt a w hS ha ⟨h.1, h1⟩
 have h3 : k = 30 ∨ k = 31 ∨ k = 32 := by unfold zK1 at hk; repeat' split at hk <;> omega
 rcases h3 with rfl | rfl | rfl
 · exact zGf A cap na nb nc nn nm si sw nt a w hS ha
 · exact zGg A cap na nb nc nn nm si sw nt a w hS ha
 · exact zGh A cap na nb nc nn nm si sw nt a w hS ha
theorem zGb (A : Option Addr) (cap : Nat) (k na nb nc nn nm si sw : Int) (nt : ByteArray) (a b : So) (w : World) (hS : zAh w A [a, b]) (ha : sortOk a) (hb : sortOk b) (hk : zK1 k = 2) :
 Calls Tryz.prog 157 #[.agg #[.int .i64 k, .int .i64 na, .int .i64 nb, .int .i64 nc, .int .i64 nn, .int .i64 nm, .int .i64 si, .int .i64 sw, .string nt], .slice A 2 cap] w fun e w' => SoP (zNp ⟨k, na, nb, nc, nn, nm, ⟨si, sw⟩, nt⟩ a b ⟨0, 0⟩) w e w' := by
 have h3 : (6 ≤ k ∧ k ≤ 29) ∨ k = 37 := by unfold zK1 at hk; repeat' split at hk <;> omega
 by_cases h37 : k = 37
 · subst h37; exact zGj A cap na nb nc nn nm si sw nt a b w hS
 by_cases h21 : k = 21
 · subst h21; exact zGc A cap na nb nc nn nm si sw nt a b w hS
 by_cases h29 : k = 29
 · subst h29; exact zGd A cap na nb nc nn nm si sw nt a b w hS ha hb
 exact zGm A cap k na nb nc nn nm si sw nt a b w hS ha hb (by omega) h21
theorem zGe (A : Option Addr) (cap : Nat) (k na nb nc nn nm si sw : Int) (nt : ByteArray) (a b c : So) (w : World) (hS : zAh w A [a, b, c]) (hk : zK1 k = 3) :
 Calls Tryz.prog 157 #[.agg #[.int .i64 k, .int .i64 na, .int .i64 nb, .int .i64 nc, .int .i64 nn, .int .i64 nm, .int .i64 si, .int .i64 sw, .string nt], .slice A 3 cap] w fun e w' => SoP (zNp ⟨k, na, nb, nc, nn, nm, ⟨si, sw⟩, nt⟩ a b c) w e w' := by
 have h3 : k = 33 ∨ k = 38 := by unfold zK1 at hk; repeat' split at hk <;> omega
 rcases h3 with rfl | rfl
 · exact zGi A cap na nb nc nn nm si sw nt a b c w hS
 · exact zGk A cap na nb nc nn nm si sw nt a b c w hS
theorem zM4 (A : Option Addr) (ci : Nat) (l : List No) (k na nb nc nn nm si sw : Int) (nt : ByteArray) (w : World) (hA : zA9 w A l) (hl : l.length ≤ 1048576) (ht : nt.size ≤ 1048576) :
 Calls Tryz.prog 109 #[.slice A l.length ci, .agg #[.int .i64 k, .int .i64 na, .int .i64 nb, .int .i64 nc, .int .i64 nn, .int .i64 nm, .int .i64 si, .int .i64 sw, .string nt]] w fun e w' => NsP (zIe l ⟨k, na, nb, nc, nn, nm, ⟨si, sw⟩, nt⟩) w e w' := by
 have HA := Kh hA; clear hA; have S0 := Kh (RX.made w #[.int .i64 k, .int .i64 na, .int .i64 nb, .int .i64 nc, .int .i64 nn, .int .i64 nm, .int .i64 si, .int .i64 sw, .string nt])
 by_cases h60 : l.length ≤ 60
 case neg =>
  have d0 : decide (60 < l.length) = true := decide_eq_true (by omega)
  have d1 : (60 : Int) < (l.length : Int) := by omega
  have HN := Kh (zIk (l := l) (n := ⟨k, na, nb, nc, nn, nm, ⟨si, sw⟩, nt⟩) (fun h => h60 h.1))
  clear h60; obtain ⟨r0, r1⟩ := S0.out.b1.two; have f0 := S0.out.b1.frozen 0; have f1 := S0.out.b1.frozen 1; have hbel := S0.out.bel
  go_enter Tryz.func109, Tryz.ntmps109
  go_wp2_with fail
  exact bodyPost_ret (v := .tuple #[.agg #[.int .i64 0, .int .i64 0], .bool false]) (by simp [results, Tryz.results109, go_sem]) rfl (NsP.no HN.out hbel)
 have d0 : decide (60 < l.length) = false := decide_eq_false (by omega)
 have d1 : decide ((60 : Int) < (l.length : Int)) = false := decide_eq_false (by omega)
 by_cases hF : zE5 l.length ⟨k, na, nb, nc, nn, nm, ⟨si, sw⟩, nt⟩
 case neg =>
  have TF := Kh (fun W => zG3 A l.length ci k na nb nc nn nm si sw nt false hl ht (decide_eq_false hF) W)
  have HN := Kh (zIk (l := l) (n := ⟨k, na, nb, nc, nn, nm, ⟨si, sw⟩, nt⟩) (fun h => hF h.2.1))
  clear hF
  go_enter Tryz.func109, Tryz.ntmps109
  go_wp2_with (go_at_call 154; refine (TF.out _).mono ?_; rintro e w2 ⟨rfl, hb2⟩; have S2 := Kh (S0.out.below hb2); obtain ⟨b0, b1, b2, b3, b4, b5, b6, b7, b8⟩ := S2.out.b0.nine; obtain ⟨r0, r1⟩ := S2.out.b1.two; have f0 := S2.out.b1.frozen 0; have f1 := S2.out.b1.frozen 1; clear hb2)
  exact bodyPost_ret (v := .tuple #[.agg #[.int .i64 0, .int .i64 0], .bool false]) (by simp [results, Tryz.results109, go_sem, r0, r1]) rfl (NsP.no (HN.out) (zB2 S2.out.bel (by omega) _ _))
 have TF := Kh (fun W => zG3 A l.length ci k na nb nc nn nm si sw nt true hl ht (decide_eq_true hF) W)
 obtain ⟨M, hM⟩ : ∃ M, zK1 k = M := ⟨_, rfl⟩
 have PT := Kh (fun W => zG8 k W)
 rw [hM] at PT; have HM := Kh hM; have hM0 : 0 ≤ M := by rw [← hM]; exact hF.1
 have hM3 : M ≤ 3 := by rw [← hM]; exact (zK2 k).2
 have HF := Kh hF; clear hF hM
 by_cases hMz : M = 0
 case pos =>
  subst hMz; have hp : zK4 l ⟨k, na, nb, nc, nn, nm, ⟨si, sw⟩, nt⟩ := by unfold zK4; rw [show zK1 k = 0 from HM.out]; exact ⟨fun h => absurd h (by decide), fun h => absurd h (by decide), fun h => absurd h (by decide)⟩
  have HN := Kh (zIl (l := l) (n := ⟨k, na, nb, nc, nn, nm, ⟨si, sw⟩, nt⟩) ⟨h60, HF.out, hp⟩); have hk : k = 34 ∨ k = 35 ∨ k = 36 := by have := HM.out; unfold zK1 at this; repeat' split at this <;> omega
  clear hp
  by_cases hs : sortOk ⟨si, sw⟩
  case pos =>
   have HSO := Kh (decide_eq_true hs)
   by_cases h34 : k = 34
   case neg =>
    have HV : Hid (zIe l ⟨k, na, nb, nc, nn, nm, ⟨si, sw⟩, nt⟩ = some ⟨si, sw⟩) := Kh (HN.out.trans (by unfold zNp; rw [if_pos (show k = 35 ∨ k = 36 by omega), if_pos hs]))
    have d34 : (k == 34) = false := by simpa using h34
    clear hs hk
    go_enter Tryz.func109, Tryz.ntmps109
    go_wp2_with (first | (go_at_call 154; refine (TF.out _).mono ?_; rintro e w2 ⟨rfl, hb2⟩; have S2 := Kh (S0.out.below hb2); obtain ⟨b0, b1, b2, b3, b4, b5, b6, b7, b8⟩ := S2.out.b0.nine; obtain ⟨r0, r1⟩ := S2.out.b1.two; have f0 := S2.out.b1.frozen 0; have f1 := S2.out.b1.frozen 1; clear hb2) | (go_at_call 79; refine (PT.out _).mono ?_; rintro e w3 ⟨rfl, rfl⟩) | (go_at_call 155; refine (zMl ⟨si, sw⟩ true (by exact HSO.out) _).mono ?_; rintro e w4 ⟨rfl, hb4⟩; have S4 := Kh (S2.out.below hb4); clear b0 b1 b2 b3 b4 b5 b6 b7 b8 r0 r1 f0 f1; obtain ⟨b0, b1, b2, b3, b4, b5, b6, b7, b8⟩ := S4.out.b0.nine; obtain ⟨r0, r1⟩ := S4.out.b1.two; have f0 := S4.out.b1.frozen 0; have f1 := S4.out.b1.frozen 1; clear hb4))
    exact bodyPost_ret (v := .tuple #[.agg #[.int .i64 si, .int .i64 sw], .bool true]) (by simp [results, Tryz.results109, go_sem, r0, r1]) rfl (NsP.yes (s := ⟨si, sw⟩) (HV.out) (zB2 S4.out.bel (by omega) _ _))
   subst h34; clear hk
   by_cases hi : si = 0
   case neg =>
    have HV : Hid (zIe l ⟨34, na, nb, nc, nn, nm, ⟨si, sw⟩, nt⟩ = none) := Kh (HN.out.trans (by unfold zNp; dsimp only; rw [if_neg (by decide), if_pos rfl, if_neg (fun h => hi h.1)]))
    have di : (si == 0) = false := by simpa using hi
    clear hs
    go_enter Tryz.func109, Tryz.ntmps109
    go_wp2_with (first | (go_at_call 154; refine (TF.out _).mono ?_; rintro e w2 ⟨rfl, hb2⟩; have S2 := Kh (S0.out.below hb2); obtain ⟨b0, b1, b2, b3, b4, b5, b6, b7, b8⟩ := S2.out.b0.nine; obtain ⟨r0, r1⟩ := S2.out.b1.two; have f0 := S2.out.b1.frozen 0; have f1 := S2.out.b1.frozen 1; clear hb2) | (go_at_call 79; refine (PT.out _).mono ?_; rintro e w3 ⟨rfl, rfl⟩) | (go_at_call 155; refine (zMl ⟨si, sw⟩ true (by exact HSO.out) _).mono ?_; rintro e w4 ⟨rfl, hb4⟩; have S4 := Kh (S2.out.below hb4); clear b0 b1 b2 b3 b4 b5 b6 b7 b8 r0 r1 f0 f1; obtain ⟨b0, b1, b2, b3, b4, b5, b6, b7, b8⟩ := S4.out.b0.nine; obtain ⟨r0, r1⟩ := S4.out.b1.two; have f0 := S4.out.b1.frozen 0; have f1 := S4.out.b1.frozen 1; clear hb4))
    exact bodyPost_ret (v := .tuple #[.agg #[.int .i64 0, .int .i64 0], .bool false]) (by simp [results, Tryz.results109, go_sem, r0, r1]) rfl (NsP.no (HV.out) (zB2 S4.out.bel (by omega) _ _))
   subst hi
   by_cases hw : zQi sw nn
   · have HWO := Kh (decide_eq_true hw)
     have HV : Hid (zIe l ⟨34, na, nb, nc, nn, nm, ⟨0, sw⟩, nt⟩ = some ⟨0, sw⟩) := Kh (HN.out.trans (by unfold zNp; dsimp only; rw [if_neg (by decide), if_pos rfl, if_pos ⟨rfl, hw⟩]))
     clear hs hw
     go_enter Tryz.func109, Tryz.ntmps109
     go_wp2_with (first | (go_at_call 154; refine (TF.out _).mono ?_; rintro e w2 ⟨rfl, hb2⟩; have S2 := Kh (S0.out.below hb2); obtain ⟨b0, b1, b2, b3, b4, b5, b6, b7, b8⟩ := S2.out.b0.nine; obtain ⟨r0, r1⟩ := S2.out.b1.two; have f0 := S2.out.b1.frozen 0; have f1 := S2.out.b1.frozen 1; clear hb2) | (go_at_call 79; refine (PT.out _).mono ?_; rintro e w3 ⟨rfl, rfl⟩) | (go_at_call 155; refine (zMl ⟨0, sw⟩ true (by exact HSO.out) _).mono ?_; rintro e w4 ⟨rfl, hb4⟩; have S4 := Kh (S2.out.below hb4); clear b0 b1 b2 b3 b4 b5 b6 b7 b8 r0 r1 f0 f1; obtain ⟨b0, b1, b2, b3, b4, b5, b6, b7, b8⟩ := S4.out.b0.nine; obtain ⟨r0, r1⟩ := S4.out.b1.two; have f0 := S4.out.b1.frozen 0; have f1 := S4.out.b1.frozen 1; clear hb4)| (go_at_call 156; refine (zMu sw nn true (by exact HWO.out) _).mono ?_; rintro e w5 ⟨rfl, rfl⟩))
     exact bodyPost_ret (v := .tuple #[.agg #[.int .i64 0, .int .i64 sw], .bool true]) (by simp [results, Tryz.results109, go_sem, r0, r1]) rfl (NsP.yes (s := ⟨0, sw⟩) (HV.out) (zB2 S4.out.bel (by omega) _ _))
   · have HWO := Kh (decide_eq_false hw)
     have HV : Hid (zIe l ⟨34, na, nb, nc, nn, nm, ⟨0, sw⟩, nt⟩ = none) := Kh (HN.out.trans (by unfold zNp; dsimp only; rw [if_neg (by decide), if_pos rfl, if_neg (fun h => hw h.2)]))
     clear hs hw
     go_enter Tryz.func109, Tryz.ntmps109
     go_wp2_with (first | (go_at_call 154; refine (TF.out _).mono ?_; rintro e w2 ⟨rfl, hb2⟩; have S2 := Kh (S0.out.below hb2); obtain ⟨b0, b1, b2, b3, b4, b5, b6, b7, b8⟩ := S2.out.b0.nine; obtain ⟨r0, r1⟩ := S2.out.b1.two; have f0 := S2.out.b1.frozen 0; have f1 := S2.out.b1.frozen 1; clear hb2) | (go_at_call 79; refine (PT.out _).mono ?_; rintro e w3 ⟨rfl, rfl⟩) | (go_at_call 155; refine (zMl ⟨0, sw⟩ true (by exact HSO.out) _).mono ?_; rintro e w4 ⟨rfl, hb4⟩; have S4 := Kh (S2.out.below hb4); clear b0 b1 b2 b3 b4 b5 b6 b7 b8 r0 r1 f0 f1; obtain ⟨b0, b1, b2, b3, b4, b5, b6, b7, b8⟩ := S4.out.b0.nine; obtain ⟨r0, r1⟩ := S4.out.b1.two; have f0 := S4.out.b1.frozen 0; have f1 := S4.out.b1.frozen 1; clear hb4)| (go_at_call 156; refine (zMu sw nn false (by exact HWO.out) _).mono ?_; rintro e w5 ⟨rfl, rfl⟩))
     exact bodyPost_ret (v := .tuple #[.agg #[.int .i64 0, .int .i64 0], .bool false]) (by simp [results, Tryz.results109, go_sem, r0, r1]) rfl (NsP.no (HV.out) (zB2 S4.out.bel (by omega) _ _))
  case neg =>
   have HSO := Kh (decide_eq_false hs)
   by_cases h34 : k = 34
   case neg =>
    have HV : Hid (zIe l ⟨k, na, nb, nc, nn, nm, ⟨si, sw⟩, nt⟩ = none) := Kh (HN.out.trans (by unfold zNp; rw [if_pos (show k = 35 ∨ k = 36 by omega), if_neg hs]))
    have d34 : (k == 34) = false := by simpa using h34
    clear hs hk
    go_enter Tryz.func109, Tryz.ntmps109
    go_wp2_with (first | (go_at_call 154; refine (TF.out _).mono ?_; rintro e w2 ⟨rfl, hb2⟩; have S2 := Kh (S0.out.below hb2); obtain ⟨b0, b1, b2, b3, b4, b5, b6, b7, b8⟩ := S2.out.b0.nine; obtain ⟨r0, r1⟩ := S2.out.b1.two; have f0 := S2.out.b1.frozen 0; have f1 := S2.out.b1.frozen 1; clear hb2) | (go_at_call 79; refine (PT.out _).mono ?_; rintro e w3 ⟨rfl, rfl⟩) | (go_at_call 155; refine (zMl ⟨si, sw⟩ false (by exact HSO.out) _).mono ?_; rintro e w4 ⟨rfl, hb4⟩; have S4 := Kh (S2.out.below hb4); clear b0 b1 b2 b3 b4 b5 b6 b7 b8 r0 r1 f0 f1; obtain ⟨b0, b1, b2, b3, b4, b5, b6, b7, b8⟩ := S4.out.b0.nine; obtain ⟨r0, r1⟩ := S4.out.b1.two; have f0 := S4.out.b1.frozen 0; have f1 := S4.out.b1.frozen 1; clear hb4))
    exact bodyPost_ret (v := .tuple #[.agg #[.int .i64 0, .int .i64 0], .bool false]) (by simp [results, Tryz.results109, go_sem, r0, r1]) rfl (NsP.no (HV.out) (zB2 S4.out.bel (by omega) _ _))
   subst h34; clear hk
   by_cases hi : si = 0
   case neg =>
    have HV : Hid (zIe l ⟨34, na, nb, nc, nn, nm, ⟨si, sw⟩, nt⟩ = none) := Kh (HN.out.trans (by unfold zNp; dsimp only; rw [if_neg (by decide), if_pos rfl, if_neg (fun h => hi h.1)]))
    have di : (si == 0) = false := by simpa using hi
    clear hs
    go_enter Tryz.func109, Tryz.ntmps109
    go_wp2_with (first | (go_at_call 154; refine (TF.out _).mono ?_; rintro e w2 ⟨rfl, hb2⟩; have S2 := Kh (S0.out.below hb2); obtain ⟨b0, b1, b2, b3, b4, b5, b6, b7, b8⟩ := S2.out.b0.nine; obtain ⟨r0, r1⟩ := S2.out.b1.two; have f0 := S2.out.b1.frozen 0; have f1 := S2.out.b1.frozen 1; clear hb2) | (go_at_call 79; refine (PT.out _).mono ?_; rintro e w3 ⟨rfl, rfl⟩) | (go_at_call 155; refine (zMl ⟨si, sw⟩ false (by exact HSO.out) _).mono ?_; rintro e w4 ⟨rfl, hb4⟩; have S4 := Kh (S2.out.below hb4); clear b0 b1 b2 b3 b4 b5 b6 b7 b8 r0 r1 f0 f1; obtain ⟨b0, b1, b2, b3, b4, b5, b6, b7, b8⟩ := S4.out.b0.nine; obtain ⟨r0, r1⟩ := S4.out.b1.two; have f0 := S4.out.b1.frozen 0; have f1 := S4.out.b1.frozen 1; clear hb4))
    exact bodyPost_ret (v := .tuple #[.agg #[.int .i64 0, .int .i64 0], .bool false]) (by simp [results, Tryz.results109, go_sem, r0, r1]) rfl (NsP.no (HV.out) (zB2 S4.out.bel (by omega) _ _))
   subst hi
   by_cases hw : zQi sw nn
   · have HWO := Kh (decide_eq_true hw)
     have HV : Hid (zIe l ⟨34, na, nb, nc, nn, nm, ⟨0, sw⟩, nt⟩ = some ⟨0, sw⟩) := Kh (HN.out.trans (by unfold zNp; dsimp only; rw [if_neg (by decide), if_pos rfl, if_pos ⟨rfl, hw⟩]))
     clear hs hw
     go_enter Tryz.func109, Tryz.ntmps109
     go_wp2_with (first | (go_at_call 154; refine (TF.out _).mono ?_; rintro e w2 ⟨rfl, hb2⟩; have S2 := Kh (S0.out.below hb2); obtain ⟨b0, b1, b2, b3, b4, b5, b6, b7, b8⟩ := S2.out.b0.nine; obtain ⟨r0, r1⟩ := S2.out.b1.two; have f0 := S2.out.b1.frozen 0; have f1 := S2.out.b1.frozen 1; clear hb2) | (go_at_call 79; refine (PT.out _).mono ?_; rintro e w3 ⟨rfl, rfl⟩) | (go_at_call 155; refine (zMl ⟨0, sw⟩ false (by exact HSO.out) _).mono ?_; rintro e w4 ⟨rfl, hb4⟩; have S4 := Kh (S2.out.below hb4); clear b0 b1 b2 b3 b4 b5 b6 b7 b8 r0 r1 f0 f1; obtain ⟨b0, b1, b2, b3, b4, b5, b6, b7, b8⟩ := S4.out.b0.nine; obtain ⟨r0, r1⟩ := S4.out.b1.two; have f0 := S4.out.b1.frozen 0; have f1 := S4.out.b1.frozen 1; clear hb4)| (go_at_call 156; refine (zMu sw nn true (by exact HWO.out) _).mono ?_; rintro e w5 ⟨rfl, rfl⟩))
     exact bodyPost_ret (v := .tuple #[.agg #[.int .i64 0, .int .i64 sw], .bool true]) (by simp [results, Tryz.results109, go_sem, r0, r1]) rfl (NsP.yes (s := ⟨0, sw⟩) (HV.out) (zB2 S4.out.bel (by omega) _ _))
   · have HWO := Kh (decide_eq_false hw)
     have HV : Hid (zIe l ⟨34, na, nb, nc, nn, nm, ⟨0, sw⟩, nt⟩ = none) := Kh (HN.out.trans (by unfold zNp; dsimp only; rw [if_neg (by decide), if_pos rfl, if_neg (fun h => hw h.2)]))
     clear hs hw
     go_enter Tryz.func109, Tryz.ntmps109
     go_wp2_with (first | (go_at_call 154; refine (TF.out _).mono ?_; rintro e w2 ⟨rfl, hb2⟩; have S2 := Kh (S0.out.below hb2); obtain ⟨b0, b1, b2, b3, b4, b5, b6, b7, b8⟩ := S2.out.b0.nine; obtain ⟨r0, r1⟩ := S2.out.b1.two; have f0 := S2.out.b1.frozen 0; have f1 := S2.out.b1.frozen 1; clear hb2) | (go_at_call 79; refine (PT.out _).mono ?_; rintro e w3 ⟨rfl, rfl⟩) | (go_at_call 155; refine (zMl ⟨0, sw⟩ false (by exact HSO.out) _).mono ?_; rintro e w4 ⟨rfl, hb4⟩; have S4 := Kh (S2.out.below hb4); clear b0 b1 b2 b3 b4 b5 b6 b7 b8 r0 r1 f0 f1; obtain ⟨b0, b1, b2, b3, b4, b5, b6, b7, b8⟩ := S4.out.b0.nine; obtain ⟨r0, r1⟩ := S4.out.b1.two; have f0 := S4.out.b1.frozen 0; have f1 := S4.out.b1.frozen 1; clear hb4)| (go_at_call 156; refine (zMu sw nn false (by exact HWO.out) _).mono ?_; rintro e w5 ⟨rfl, rfl⟩))
     exact bodyPost_ret (v := .tuple #[.agg #[.int .i64 0, .int .i64 0], .bool false]) (by simp [results, Tryz.results109, go_sem, r0, r1]) rfl (NsP.no (HV.out) (zB2 S4.out.bel (by omega) _ _))
 have hM1 : 1 ≤ M := by omega
 have dM : (M == 0) = false := by simpa using hMz
 have PA : Hid (0 < M → ∃ q : Nat, na = (q : Int) ∧ q < l.length) := Kh (fun h => by
  have := HF.out.2.1.1; dsimp only at this; rw [HM.out] at this; unfold zJt at this; rw [if_pos h] at this; exact ⟨na.toNat, by omega, by omega⟩)
 have PB : Hid (1 < M → ∃ q : Nat, nb = (q : Int) ∧ q < l.length) := Kh (fun h => by
  have := HF.out.2.1.2.1; dsimp only at this; rw [HM.out] at this; unfold zJt at this; rw [if_pos h] at this; exact ⟨nb.toNat, by omega, by omega⟩)
 have PC : Hid (2 < M → ∃ q : Nat, nc = (q : Int) ∧ q < l.length) := Kh (fun h => by
  have := HF.out.2.1.2.2; dsimp only at this; rw [HM.out] at this; unfold zJt at this; rw [if_pos h] at this; exact ⟨nc.toNat, by omega, by omega⟩)
 have HNO : Hid ((0 < M ∧ ¬ sortOk (noAt l na).s) ∨ (1 < M ∧ ¬ sortOk (noAt l nb).s) ∨ (2 < M ∧ ¬ sortOk (noAt l nc).s) → zIe l ⟨k, na, nb, nc, nn, nm, ⟨si, sw⟩, nt⟩ = none) := Kh (fun h => zIk (fun hh => by
  have := hh.2.2; unfold zK4 at this; dsimp only at this; rw [HM.out] at this
  rcases h with h | h | h
  · exact h.2 (this.1 h.1)
  · exact h.2 (this.2.1 h.1)
  · exact h.2 (this.2.2 h.1)))
 have HYES : Hid ((0 < M → sortOk (noAt l na).s) ∧ (1 < M → sortOk (noAt l nb).s) ∧ (2 < M → sortOk (noAt l nc).s) → zIe l ⟨k, na, nb, nc, nn, nm, ⟨si, sw⟩, nt⟩ = zNp ⟨k, na, nb, nc, nn, nm, ⟨si, sw⟩, nt⟩ (if 0 < M then (noAt l na).s else ⟨0, 0⟩) (if 1 < M then (noAt l nb).s else ⟨0, 0⟩) (if 2 < M then (noAt l nc).s else ⟨0, 0⟩)) := Kh (fun h => by
  rw [zIl ⟨h60, HF.out, by unfold zK4; dsimp only; rw [HM.out]; exact h⟩]
  unfold zJu; dsimp only; rw [HM.out])
 obtain ⟨i40, hi, hz0, hz1, hz2⟩ := info_parts zF6; clear hMz
 go_enter Tryz.func109, Tryz.ntmps109
 go_wp2_with (first | (go_at_call 154; refine (TF.out _).mono ?_; rintro e w2 ⟨rfl, hb2⟩; have S2 := Kh (S0.out.below hb2); obtain ⟨b0, b1, b2, b3, b4, b5, b6, b7, b8⟩ := S2.out.b0.nine; obtain ⟨r0, r1⟩ := S2.out.b1.two; have f0 := S2.out.b1.frozen 0; have f1 := S2.out.b1.frozen 1; clear hb2) | (go_at_call 79; refine (PT.out _).mono ?_; rintro e w3 ⟨rfl, rfl⟩))
 clear b0 b1 b2 b3 b4 b5 b6 b7 b8 r0 r1 f0 f1 dM d0 d1; have B3 : Hid (Below w2.heap.size w2 (w2.alloc (.cells #[.int .i64 na, .int .i64 nb, .int .i64 nc] 3))) := (Below.refl _ _).alloc (Nat.le_refl _) _; have N0 : Hid (NX w #[.int .i64 k, .int .i64 na, .int .i64 nb, .int .i64 nc, .int .i64 nn, .int .i64 nm, .int .i64 si, .int .i64 sw, .string nt] #[.int .i64 na, .int .i64 nb, .int .i64 nc] w2.heap.size none 0 [] (w2.alloc (.cells #[.int .i64 na, .int .i64 nb, .int .i64 nc] 3))) := ⟨S2.out.below B3.out, Blk.new _ _ _, World.ownsRow_nil _ _ _ _⟩; obtain ⟨wz, hwz⟩ : ∃ z, w2.alloc (.cells #[.int .i64 na, .int .i64 nb, .int .i64 nc] 3) = z := ⟨_, rfl⟩
 rw [hwz] at N0 ⊢; clear hwz B3 S0 S2; generalize w2.heap.size = ga at *
 go_loopw [8, 10] (fun s i wr => ∃ (r : Nat) (ss : List So) (AS : Option Addr) (cS : Nat), (r : Int) ≤ M ∧ Hid (ss = [(noAt l na).s, (noAt l nb).s, (noAt l nc).s].take r) ∧ Hid (∀ s ∈ ss, sortOk s) ∧ Hid (AS ≠ some ⟨w.heap.size + 1, 0, none⟩) ∧ Hid (NX w #[.int .i64 k, .int .i64 na, .int .i64 nb, .int .i64 nc, .int .i64 nn, .int .i64 nm, .int .i64 si, .int .i64 sw, .string nt] #[.int .i64 na, .int .i64 nb, .int .i64 nc] ga AS cS ss wr) ∧ s = .slice AS ss.length cS ∧ i = .int .i64 (r : Int)) (fun _ i _ => 3 - (intOf i).toNat)
 case atStart => exact ⟨0, [], none, 0, hM0, rfl, (fun s h => by simp at h), (fun h => by cases h), N0, rfl, rfl⟩
 case round =>
  obtain ⟨wy, rfl⟩ : ∃ x : World, x = wr := ⟨_, rfl⟩
  clear N0; obtain ⟨r, ss, AS, cS, hr, HSS, HOK, HAS, N1, rfl, rfl⟩ := hrel; obtain ⟨b0, b1, b2, b3, b4, b5, b6, b7, b8⟩ := N1.out.rx.b0.nine
  by_cases hlt : (r : Int) < M
  case neg =>
   have hrM : (r : Int) = M := by omega
   subst hrM
   rcases (show r = 1 ∨ r = 2 ∨ r = 3 by omega) with rfl | rfl | rfl
   · obtain rfl : ss = [(noAt l na).s] := HSS.out
     have HY := Kh (HYES.out ⟨fun _ => HOK.out _ (by simp), fun h => absurd h (by decide), fun h => absurd h (by decide)⟩)
     have TR := Kh (zGa AS cS k na nb nc nn nm si sw nt (noAt l na).s wy (zNl N1.out.own) (HOK.out _ (by simp)) HM.out)
     have HYY : Hid (zIe l ⟨k, na, nb, nc, nn, nm, ⟨si, sw⟩, nt⟩ = zNp ⟨k, na, nb, nc, nn, nm, ⟨si, sw⟩, nt⟩ (noAt l na).s ⟨0, 0⟩ ⟨0, 0⟩) := Kh (HY.out.trans (by simp))
     clear HY HYES HNO HSS HOK; generalize zNp ⟨k, na, nb, nc, nn, nm, ⟨si, sw⟩, nt⟩ (noAt l na).s ⟨0, 0⟩ ⟨0, 0⟩ = o at *; simp only [List.length_cons, List.length_nil, Nat.zero_add, Nat.reduceAdd]
     go_wp2_with (go_at_call 157; refine TR.out.mono ?_; rintro e w4 ⟨s, ok, rfl, ho, hb4⟩; have S4 := Kh (N1.out.rx.below hb4); have HO := Kh ho; obtain ⟨r0, r1⟩ := S4.out.b1.two; have f0 := S4.out.b1.frozen 0; have f1 := S4.out.b1.frozen 1; have hz := S4.out.b1.lt; have hz' := S4.out.b0.lt; cases ok; clear hb4 ho)
     all_goals
      have h1 : w.heap.size + 1 ≠ w4.heap.size := by omega
      have hw1 : w.heap.size ≤ w.heap.size + 1 := by omega
      have BL := Kh (fun v0 v1 => (zB2 S4.out.bel hw1 v0 v1).alloc (zB2 S4.out.bel hw1 v0 v1).size (.cells #[.int .i64 s.i, .int .i64 s.w] 40))
      go_wp2_with fail
     · exact bodyPost_ret (v := .tuple #[.agg #[.int .i64 0, .int .i64 0], .bool false]) (by simp [results, Tryz.results109, go_sem, r0, r1, hz]) rfl (NsP.no (HYY.out.trans (by rw [HO.out]; simp)) (BL.out _ _))
     · exact bodyPost_ret (v := .tuple #[.agg #[.int .i64 s.i, .int .i64 s.w], .bool true]) (by simp [results, Tryz.results109, go_sem, r0, r1, hz]) rfl (NsP.yes (HYY.out.trans (by rw [HO.out]; simp)) (BL.out _ _))
   · obtain rfl : ss = [(noAt l na).s, (noAt l nb).s] := HSS.out
     have HY := Kh (HYES.out ⟨fun _ => HOK.out _ (by simp), fun _ => HOK.out _ (by simp), fun h => absurd h (by decide)⟩)
     have TR := Kh (zGb AS cS k na nb nc nn nm si sw nt (noAt l na).s (noAt l nb).s wy (zNl N1.out.own) (HOK.out _ (by simp)) (HOK.out _ (by simp)) HM.out)
     have HYY : Hid (zIe l ⟨k, na, nb, nc, nn, nm, ⟨si, sw⟩, nt⟩ = zNp ⟨k, na, nb, nc, nn, nm, ⟨si, sw⟩, nt⟩ (noAt l na).s (noAt l nb).s ⟨0, 0⟩) := Kh (HY.out.trans (by simp))
     clear HY HYES HNO HSS HOK; generalize zNp ⟨k, na, nb, nc, nn, nm, ⟨si, sw⟩, nt⟩ (noAt l na).s (noAt l nb).s ⟨0, 0⟩ = o at *; simp only [List.length_cons, List.length_nil, Nat.zero_add, Nat.reduceAdd]
     go_wp2_with (go_at_call 157; refine TR.out.mono ?_; rintro e w4 ⟨s, ok, rfl, ho, hb4⟩; have S4 := Kh (N1.out.rx.below hb4); have HO := Kh ho; obtain ⟨r0, r1⟩ := S4.out.b1.two; have f0 := S4.out.b1.frozen 0; have f1 := S4.out.b1.frozen 1; have hz := S4.out.b1.lt; have hz' := S4.out.b0.lt; cases ok; clear hb4 ho)
     all_goals
      have h1 : w.heap.size + 1 ≠ w4.heap.size := by omega
      have hw1 : w.heap.size ≤ w.heap.size + 1 := by omega
      have BL := Kh (fun v0 v1 => (zB2 S4.out.bel hw1 v0 v1).alloc (zB2 S4.out.bel hw1 v0 v1).size (.cells #[.int .i64 s.i, .int .i64 s.w] 40))
      go_wp2_with fail
     · exact bodyPost_ret (v := .tuple #[.agg #[.int .i64 0, .int .i64 0], .bool false]) (by simp [results, Tryz.results109, go_sem, r0, r1, hz]) rfl (NsP.no (HYY.out.trans (by rw [HO.out]; simp)) (BL.out _ _))
     · exact bodyPost_ret (v := .tuple #[.agg #[.int .i64 s.i, .int .i64 s.w], .bool true]) (by simp [results, Tryz.results109, go_sem, r0, r1, hz]) rfl (NsP.yes (HYY.out.trans (by rw [HO.out]; simp)) (BL.out _ _))
   · obtain rfl : ss = [(noAt l na).s, (noAt l nb).s, (noAt l nc).s] := HSS.out
     have HY := Kh (HYES.out ⟨fun _ => HOK.out _ (by simp), fun _ => HOK.out _ (by simp), fun _ => HOK.out _ (by simp)⟩)
     have TR := Kh (zGe AS cS k na nb nc nn nm si sw nt (noAt l na).s (noAt l nb).s (noAt l nc).s wy (zNl N1.out.own) HM.out); have HYY : Hid (zIe l ⟨k, na, nb, nc, nn, nm, ⟨si, sw⟩, nt⟩ = zNp ⟨k, na, nb, nc, nn, nm, ⟨si, sw⟩, nt⟩ (noAt l na).s (noAt l nb).s (noAt l nc).s) := Kh (HY.out.trans (by simp))
     clear HY HYES HNO HSS HOK; generalize zNp ⟨k, na, nb, nc, nn, nm, ⟨si, sw⟩, nt⟩ (noAt l na).s (noAt l nb).s (noAt l nc).s = o at *; simp only [List.length_cons, List.length_nil, Nat.zero_add, Nat.reduceAdd]
     go_wp2_with (go_at_call 157; refine TR.out.mono ?_; rintro e w4 ⟨s, ok, rfl, ho, hb4⟩; have S4 := Kh (N1.out.rx.below hb4); have HO := Kh ho; obtain ⟨r0, r1⟩ := S4.out.b1.two; have f0 := S4.out.b1.frozen 0; have f1 := S4.out.b1.frozen 1; have hz := S4.out.b1.lt; have hz' := S4.out.b0.lt; cases ok; clear hb4 ho)
     all_goals
      have h1 : w.heap.size + 1 ≠ w4.heap.size := by omega
      have hw1 : w.heap.size ≤ w.heap.size + 1 := by omega
      have BL := Kh (fun v0 v1 => (zB2 S4.out.bel hw1 v0 v1).alloc (zB2 S4.out.bel hw1 v0 v1).size (.cells #[.int .i64 s.i, .int .i64 s.w] 40))
      go_wp2_with fail
     · exact bodyPost_ret (v := .tuple #[.agg #[.int .i64 0, .int .i64 0], .bool false]) (by simp [results, Tryz.results109, go_sem, r0, r1, hz]) rfl (NsP.no (HYY.out.trans (by rw [HO.out]; simp)) (BL.out _ _))
     · exact bodyPost_ret (v := .tuple #[.agg #[.int .i64 s.i, .int .i64 s.w], .bool true]) (by simp [results, Tryz.results109, go_sem, r0, r1, hz]) rfl (NsP.yes (HYY.out.trans (by rw [HO.out]; simp)) (BL.out _ _))
  have hSort : Hid (∀ s : So, Below wy.heap.size wy (wy.alloc (.cells (Go.Proofs.YtmolbnghobfmoaaGreat.cS s) 40))) := Kh (fun s => (Below.refl _ _).alloc (Nat.le_refl _) _)
  rcases (show r = 0 ∨ r = 1 ∨ r = 2 by omega) with rfl | rfl | rfl
  ·
   obtain rfl : ss = [] := HSS.out; obtain ⟨q, hq, hql⟩ := PA.out hlt; obtain ⟨g, rfl, hg, hc⟩ := (HA.out.below N1.out.rx.bel) (by omega)
   obtain ⟨-, -, -, -, -, -, y6, y7, -⟩ := hc q hql; rw [← zIb hql, ← hq] at y6 y7; clear hc; have c0 := N1.out.bp.cell 0; simp only [List.getElem?_toArray, List.getElem?_cons_zero, List.getElem?_cons_succ, hq] at c0
   have hj0 : (0 : Int) ≤ (q : Int) := by omega
   have hj1 : (q : Int) < (l.length : Int) := by omega
   have e1 : IntKind.i64.wrap ((0 : Int) + 1) = (0 : Int) + 1 := rfl; have HSO : Hid (¬ sortOk (noAt l na).s → zIe l ⟨k, na, nb, nc, nn, nm, ⟨si, sw⟩, nt⟩ = none) := Kh (fun h => HNO.out (.inl ⟨hlt, h⟩))
   have HL : Hid (∀ s ∈ [(noAt l na).s], sortOk (noAt l na).s → sortOk s) := Kh (by
    intro s hs h; simp only [List.mem_cons, List.not_mem_nil, or_false] at hs
    rcases hs with rfl
    · exact h)
   obtain ⟨s9, hs9⟩ : ∃ s, (noAt l na).s = s := ⟨_, rfl⟩
   rw [hs9] at y6 y7 HSO HL; have HS9 := Kh hs9; clear hs9 hq HNO HOK; have N2 := Kh (N1.out.below (hSort.out s9)); clear HSS; have hgy : g < wy.heap.size := zBy y6; have hga : ga < wy.heap.size := N1.out.bp.lt
   by_cases hok : sortOk s9
   · have HD := Kh (decide_eq_true hok)
     have HK := Kh hok; clear hok
     go_wp2_with (first | (at_builtin; refine zR2 rfl _ _ 164 rfl w.heap.size 40 i40 _ 2 16 Tryz.underlying164 hi hz0 hz1 hz2 rfl (by decide) _ 0 (zCf []) rfl (by exact N2.out.own) (some ⟨wy.heap.size, 0, none⟩) 1 1 (Go.Proofs.YtmolbnghobfmoaaGreat.cS s9).toList rfl (by exact .inr ⟨_, rfl, Blk.news (Blk.new_at _ 40 (Go.Proofs.YtmolbnghobfmoaaGreat.cS s9) rfl)⟩) rfl (by simp [Go.Proofs.YtmolbnghobfmoaaGreat.cS, Value.oneCell']) (by unfold maxLen; omega) (by omega) (by exact N2.out.rx.bel.size) ?_; intro A5 c5 w5 ho5 hg5 hor5; have N5 := Kh (N2.out.app HAS.out ho5 ⟨hg5.os, hg5.tape, hg5.output, hg5.size, hg5.block⟩); have HA5 : Hid (A5 ≠ some ⟨w.heap.size + 1, 0, none⟩) := Kh (asNe N2.out.own N2.out.rx HAS.out hor5 N1.out.rx.b1.lt); clear ho5 hg5 hor5; obtain ⟨r0, r1⟩ := N5.out.rx.b1.two; have f0 := N5.out.rx.b1.frozen 0; have f1 := N5.out.rx.b1.frozen 1; obtain ⟨ap, rfl⟩ : ∃ ap : Nat, A5 = some ⟨ap, 0, none⟩ := zJq N5.out.own (by simp); have z0 := N5.out.own.cellAt 0 (by simp); have z1 := N5.out.own.cellAt 1 (by simp); simp [zCf, Go.Proofs.YtmolbnghobfmoaaGreat.cS] at z0 z1) | (go_at_call 155; refine (zMl s9 true (by exact HD.out) _).mono ?_; rintro e w6 ⟨rfl, hb6⟩; have N6 := Kh (N5.out.below hb6); clear r0 r1 f0 f1; obtain ⟨r0, r1⟩ := N6.out.rx.b1.two; have f0 := N6.out.rx.b1.frozen 0; have f1 := N6.out.rx.b1.frozen 1; clear hb6))
     go_roundw
     case rel => exact ⟨1, [] ++ [s9], some ⟨ap, 0, none⟩, c5, by omega, by rw [← HS9.out]; rfl, fun s h => HL.out s (by simpa using h) HK.out, HA5, N6, rfl, rfl⟩
     case measure => simp [intOf]
   · have HD := Kh (decide_eq_false hok)
     have HK := Kh hok; clear hok
     go_wp2_with (first | (at_builtin; refine zR2 rfl _ _ 164 rfl w.heap.size 40 i40 _ 2 16 Tryz.underlying164 hi hz0 hz1 hz2 rfl (by decide) _ 0 (zCf []) rfl (by exact N2.out.own) (some ⟨wy.heap.size, 0, none⟩) 1 1 (Go.Proofs.YtmolbnghobfmoaaGreat.cS s9).toList rfl (by exact .inr ⟨_, rfl, Blk.news (Blk.new_at _ 40 (Go.Proofs.YtmolbnghobfmoaaGreat.cS s9) rfl)⟩) rfl (by simp [Go.Proofs.YtmolbnghobfmoaaGreat.cS, Value.oneCell']) (by unfold maxLen; omega) (by omega) (by exact N2.out.rx.bel.size) ?_; intro A5 c5 w5 ho5 hg5 hor5; have N5 := Kh (N2.out.app HAS.out ho5 ⟨hg5.os, hg5.tape, hg5.output, hg5.size, hg5.block⟩); have HA5 : Hid (A5 ≠ some ⟨w.heap.size + 1, 0, none⟩) := Kh (asNe N2.out.own N2.out.rx HAS.out hor5 N1.out.rx.b1.lt); clear ho5 hg5 hor5; obtain ⟨r0, r1⟩ := N5.out.rx.b1.two; have f0 := N5.out.rx.b1.frozen 0; have f1 := N5.out.rx.b1.frozen 1; obtain ⟨ap, rfl⟩ : ∃ ap : Nat, A5 = some ⟨ap, 0, none⟩ := zJq N5.out.own (by simp); have z0 := N5.out.own.cellAt 0 (by simp); have z1 := N5.out.own.cellAt 1 (by simp); simp [zCf, Go.Proofs.YtmolbnghobfmoaaGreat.cS] at z0 z1) | (go_at_call 155; refine (zMl s9 false (by exact HD.out) _).mono ?_; rintro e w6 ⟨rfl, hb6⟩; have N6 := Kh (N5.out.below hb6); clear r0 r1 f0 f1; obtain ⟨r0, r1⟩ := N6.out.rx.b1.two; have f0 := N6.out.rx.b1.frozen 0; have f1 := N6.out.rx.b1.frozen 1; clear hb6))
     exact bodyPost_ret (v := .tuple #[.agg #[.int .i64 0, .int .i64 0], .bool false]) (by simp [results, Tryz.results109, go_sem, r0, r1]) rfl (NsP.no (HSO.out HK.out) (zB2 N6.out.rx.bel (by omega) _ _))
  ·
   obtain rfl : ss = [(noAt l na).s] := HSS.out; obtain ⟨q, hq, hql⟩ := PB.out hlt; obtain ⟨g, rfl, hg, hc⟩ := (HA.out.below N1.out.rx.bel) (by omega)
   obtain ⟨-, -, -, -, -, -, y6, y7, -⟩ := hc q hql; rw [← zIb hql, ← hq] at y6 y7; clear hc; have c0 := N1.out.bp.cell 1; simp only [List.getElem?_toArray, List.getElem?_cons_zero, List.getElem?_cons_succ, hq] at c0
   have hj0 : (0 : Int) ≤ (q : Int) := by omega
   have hj1 : (q : Int) < (l.length : Int) := by omega
   have e1 : IntKind.i64.wrap ((1 : Int) + 1) = (1 : Int) + 1 := rfl; have HSO : Hid (¬ sortOk (noAt l nb).s → zIe l ⟨k, na, nb, nc, nn, nm, ⟨si, sw⟩, nt⟩ = none) := Kh (fun h => HNO.out (.inr (.inl ⟨hlt, h⟩)))
   have HL : Hid (∀ s ∈ [(noAt l na).s, (noAt l nb).s], sortOk (noAt l nb).s → sortOk s) := Kh (by
    intro s hs h; simp only [List.mem_cons, List.not_mem_nil, or_false] at hs
    rcases hs with rfl | rfl
    · exact HOK.out _ (by simp)
    · exact h)
   obtain ⟨s9, hs9⟩ : ∃ s, (noAt l nb).s = s := ⟨_, rfl⟩
   rw [hs9] at y6 y7 HSO HL; have HS9 := Kh hs9; clear hs9 hq HNO HOK; have N2 := Kh (N1.out.below (hSort.out s9)); clear HSS; have hgy : g < wy.heap.size := zBy y6; have hga : ga < wy.heap.size := N1.out.bp.lt
   by_cases hok : sortOk s9
   · have HD := Kh (decide_eq_true hok)
     have HK := Kh hok; clear hok
     go_wp2_with (first | (at_builtin; refine zR2 rfl _ _ 164 rfl w.heap.size 40 i40 _ 2 16 Tryz.underlying164 hi hz0 hz1 hz2 rfl (by decide) _ 1 (zCf [(noAt l na).s]) rfl (by exact N2.out.own) (some ⟨wy.heap.size, 0, none⟩) 1 1 (Go.Proofs.YtmolbnghobfmoaaGreat.cS s9).toList rfl (by exact .inr ⟨_, rfl, Blk.news (Blk.new_at _ 40 (Go.Proofs.YtmolbnghobfmoaaGreat.cS s9) rfl)⟩) rfl (by simp [Go.Proofs.YtmolbnghobfmoaaGreat.cS, Value.oneCell']) (by unfold maxLen; omega) (by omega) (by exact N2.out.rx.bel.size) ?_; intro A5 c5 w5 ho5 hg5 hor5; have N5 := Kh (N2.out.app HAS.out ho5 ⟨hg5.os, hg5.tape, hg5.output, hg5.size, hg5.block⟩); have HA5 : Hid (A5 ≠ some ⟨w.heap.size + 1, 0, none⟩) := Kh (asNe N2.out.own N2.out.rx HAS.out hor5 N1.out.rx.b1.lt); clear ho5 hg5 hor5; obtain ⟨r0, r1⟩ := N5.out.rx.b1.two; have f0 := N5.out.rx.b1.frozen 0; have f1 := N5.out.rx.b1.frozen 1; obtain ⟨ap, rfl⟩ : ∃ ap : Nat, A5 = some ⟨ap, 0, none⟩ := zJq N5.out.own (by simp); have z0 := N5.out.own.cellAt 2 (by simp); have z1 := N5.out.own.cellAt 3 (by simp); simp [zCf, Go.Proofs.YtmolbnghobfmoaaGreat.cS] at z0 z1) | (go_at_call 155; refine (zMl s9 true (by exact HD.out) _).mono ?_; rintro e w6 ⟨rfl, hb6⟩; have N6 := Kh (N5.out.below hb6); clear r0 r1 f0 f1; obtain ⟨r0, r1⟩ := N6.out.rx.b1.two; have f0 := N6.out.rx.b1.frozen 0; have f1 := N6.out.rx.b1.frozen 1; clear hb6))
     go_roundw
     case rel => exact ⟨2, [(noAt l na).s] ++ [s9], some ⟨ap, 0, none⟩, c5, by omega, by rw [← HS9.out]; rfl, fun s h => HL.out s (by simpa using h) HK.out, HA5, N6, rfl, rfl⟩
     case measure => simp [intOf]
   · have HD := Kh (decide_eq_false hok)
     have HK := Kh hok; clear hok
     go_wp2_with (first | (at_builtin; refine zR2 rfl _ _ 164 rfl w.heap.size 40 i40 _ 2 16 Tryz.underlying164 hi hz0 hz1 hz2 rfl (by decide) _ 1 (zCf [(noAt l na).s]) rfl (by exact N2.out.own) (some ⟨wy.heap.size, 0, none⟩) 1 1 (Go.Proofs.YtmolbnghobfmoaaGreat.cS s9).toList rfl (by exact .inr ⟨_, rfl, Blk.news (Blk.new_at _ 40 (Go.Proofs.YtmolbnghobfmoaaGreat.cS s9) rfl)⟩) rfl (by simp [Go.Proofs.YtmolbnghobfmoaaGreat.cS, Value.oneCell']) (by unfold maxLen; omega) (by omega) (by exact N2.out.rx.bel.size) ?_; intro A5 c5 w5 ho5 hg5 hor5; have N5 := Kh (N2.out.app HAS.out ho5 ⟨hg5.os, hg5.tape, hg5.output, hg5.size, hg5.block⟩); have HA5 : Hid (A5 ≠ some ⟨w.heap.size + 1, 0, none⟩) := Kh (asNe N2.out.own N2.out.rx HAS.out hor5 N1.out.rx.b1.lt); clear ho5 hg5 hor5; obtain ⟨r0, r1⟩ := N5.out.rx.b1.two; have f0 := N5.out.rx.b1.frozen 0; have f1 := N5.out.rx.b1.frozen 1; obtain ⟨ap, rfl⟩ : ∃ ap : Nat, A5 = some ⟨ap, 0, none⟩ := zJq N5.out.own (by simp); have z0 := N5.out.own.cellAt 2 (by simp); have z1 := N5.out.own.cellAt 3 (by simp); simp [zCf, Go.Proofs.YtmolbnghobfmoaaGreat.cS] at z0 z1) | (go_at_call 155; refine (zMl s9 false (by exact HD.out) _).mono ?_; rintro e w6 ⟨rfl, hb6⟩; have N6 := Kh (N5.out.below hb6); clear r0 r1 f0 f1; obtain ⟨r0, r1⟩ := N6.out.rx.b1.two; have f0 := N6.out.rx.b1.frozen 0; have f1 := N6.out.rx.b1.frozen 1; clear hb6))
     exact bodyPost_ret (v := .tuple #[.agg #[.int .i64 0, .int .i64 0], .bool false]) (by simp [results, Tryz.results109, go_sem, r0, r1]) rfl (NsP.no (HSO.out HK.out) (zB2 N6.out.rx.bel (by omega) _ _))
  ·
   obtain rfl : ss = [(noAt l na).s, (noAt l nb).s] := HSS.out; obtain ⟨q, hq, hql⟩ := PC.out hlt; obtain ⟨g, rfl, hg, hc⟩ := (HA.out.below N1.out.rx.bel) (by omega)
   obtain ⟨-, -, -, -, -, -, y6, y7, -⟩ := hc q hql; rw [← zIb hql, ← hq] at y6 y7; clear hc; have c0 := N1.out.bp.cell 2; simp only [List.getElem?_toArray, List.getElem?_cons_zero, List.getElem?_cons_succ, hq] at c0
   have hj0 : (0 : Int) ≤ (q : Int) := by omega
   have hj1 : (q : Int) < (l.length : Int) := by omega
   have e1 : IntKind.i64.wrap ((2 : Int) + 1) = (2 : Int) + 1 := rfl; have HSO : Hid (¬ sortOk (noAt l nc).s → zIe l ⟨k, na, nb, nc, nn, nm, ⟨si, sw⟩, nt⟩ = none) := Kh (fun h => HNO.out (.inr (.inr ⟨hlt, h⟩)))
   have HL : Hid (∀ s ∈ [(noAt l na).s, (noAt l nb).s, (noAt l nc).s], sortOk (noAt l nc).s → sortOk s) := Kh (by
    intro s hs h; simp only [List.mem_cons, List.not_mem_nil, or_false] at hs
    rcases hs with rfl | rfl | rfl
    · exact HOK.out _ (by simp)
    · exact HOK.out _ (by simp)
    · exact h)
   obtain ⟨s9, hs9⟩ : ∃ s, (noAt l nc).s = s := ⟨_, rfl⟩
   rw [hs9] at y6 y7 HSO HL; have HS9 := Kh hs9; clear hs9 hq HNO HOK; have N2 := Kh (N1.out.below (hSort.out s9)); clear HSS; have hgy : g < wy.heap.size := zBy y6; have hga : ga < wy.heap.size := N1.out.bp.lt
   by_cases hok : sortOk s9
   · have HD := Kh (decide_eq_true hok)
     have HK := Kh hok; clear hok
     go_wp2_with (first | (at_builtin; refine zR2 rfl _ _ 164 rfl w.heap.size 40 i40 _ 2 16 Tryz.underlying164 hi hz0 hz1 hz2 rfl (by decide) _ 2 (zCf [(noAt l na).s, (noAt l nb).s]) rfl (by exact N2.out.own) (some ⟨wy.heap.size, 0, none⟩) 1 1 (Go.Proofs.YtmolbnghobfmoaaGreat.cS s9).toList rfl (by exact .inr ⟨_, rfl, Blk.news (Blk.new_at _ 40 (Go.Proofs.YtmolbnghobfmoaaGreat.cS s9) rfl)⟩) rfl (by simp [Go.Proofs.YtmolbnghobfmoaaGreat.cS, Value.oneCell']) (by unfold maxLen; omega) (by omega) (by exact N2.out.rx.bel.size) ?_; intro A5 c5 w5 ho5 hg5 hor5; have N5 := Kh (N2.out.app HAS.out ho5 ⟨hg5.os, hg5.tape, hg5.output, hg5.size, hg5.block⟩); have HA5 : Hid (A5 ≠ some ⟨w.heap.size + 1, 0, none⟩) := Kh (asNe N2.out.own N2.out.rx HAS.out hor5 N1.out.rx.b1.lt); clear ho5 hg5 hor5; obtain ⟨r0, r1⟩ := N5.out.rx.b1.two; have f0 := N5.out.rx.b1.frozen 0; have f1 := N5.out.rx.b1.frozen 1; obtain ⟨ap, rfl⟩ : ∃ ap : Nat, A5 = some ⟨ap, 0, none⟩ := zJq N5.out.own (by simp); have z0 := N5.out.own.cellAt 4 (by simp); have z1 := N5.out.own.cellAt 5 (by simp); simp [zCf, Go.Proofs.YtmolbnghobfmoaaGreat.cS] at z0 z1) | (go_at_call 155; refine (zMl s9 true (by exact HD.out) _).mono ?_; rintro e w6 ⟨rfl, hb6⟩; have N6 := Kh (N5.out.below hb6); clear r0 r1 f0 f1; obtain ⟨r0, r1⟩ := N6.out.rx.b1.two; have f0 := N6.out.rx.b1.frozen 0; have f1 := N6.out.rx.b1.frozen 1; clear hb6))
     go_roundw
     case rel => exact ⟨3, [(noAt l na).s, (noAt l nb).s] ++ [s9], some ⟨ap, 0, none⟩, c5, by omega, by rw [← HS9.out]; rfl, fun s h => HL.out s (by simpa using h) HK.out, HA5, N6, rfl, rfl⟩
     case measure => simp [intOf]
   · have HD := Kh (decide_eq_false hok)
     have HK := Kh hok; clear hok
     go_wp2_with (first | (at_builtin; refine zR2 rfl _ _ 164 rfl w.heap.size 40 i40 _ 2 16 Tryz.underlying164 hi hz0 hz1 hz2 rfl (by decide) _ 2 (zCf [(noAt l na).s, (noAt l nb).s]) rfl (by exact N2.out.own) (some ⟨wy.heap.size, 0, none⟩) 1 1 (Go.Proofs.YtmolbnghobfmoaaGreat.cS s9).toList rfl (by exact .inr ⟨_, rfl, Blk.news (Blk.new_at _ 40 (Go.Proofs.YtmolbnghobfmoaaGreat.cS s9) rfl)⟩) rfl (by simp [Go.Proofs.YtmolbnghobfmoaaGreat.cS, Value.oneCell']) (by unfold maxLen; omega) (by omega) (by exact N2.out.rx.bel.size) ?_; intro A5 c5 w5 ho5 hg5 hor5; have N5 := Kh (N2.out.app HAS.out ho5 ⟨hg5.os, hg5.tape, hg5.output, hg5.size, hg5.block⟩); have HA5 : Hid (A5 ≠ some ⟨w.heap.size + 1, 0, none⟩) := Kh (asNe N2.out.own N2.out.rx HAS.out hor5 N1.out.rx.b1.lt); clear ho5 hg5 hor5; obtain ⟨r0, r1⟩ := N5.out.rx.b1.two; have f0 := N5.out.rx.b1.frozen 0; have f1 := N5.out.rx.b1.frozen 1; obtain ⟨ap, rfl⟩ : ∃ ap : Nat, A5 = some ⟨ap, 0, none⟩ := zJq N5.out.own (by simp); have z0 := N5.out.own.cellAt 4 (by simp); have z1 := N5.out.own.cellAt 5 (by simp); simp [zCf, Go.Proofs.YtmolbnghobfmoaaGreat.cS] at z0 z1) | (go_at_call 155; refine (zMl s9 false (by exact HD.out) _).mono ?_; rintro e w6 ⟨rfl, hb6⟩; have N6 := Kh (N5.out.below hb6); clear r0 r1 f0 f1; obtain ⟨r0, r1⟩ := N6.out.rx.b1.two; have f0 := N6.out.rx.b1.frozen 0; have f1 := N6.out.rx.b1.frozen 1; clear hb6))
     exact bodyPost_ret (v := .tuple #[.agg #[.int .i64 0, .int .i64 0], .bool false]) (by simp [results, Tryz.results109, go_sem, r0, r1]) rfl (NsP.no (HSO.out HK.out) (zB2 N6.out.rx.bel (by omega) _ _))
end Go.Proofs.YtmolbnghobfmoaaGreat
