/- Part 2 of what the row Row28 rests on: Ef Ev F1 F14. -/
import Derived.Test.YtmolbnghobfmoaaGreatP1
set_option maxRecDepth 100000
set_option maxHeartbeats 16000000
set_option linter.unusedSimpArgs false
set_option linter.unusedVariables false
namespace Go.Proofs.YtmolbnghobfmoaaGreat
theorem zAa.out {L : List No} {n : No} (h : zAa L n) : L.length ≤ 60 ∧ zE5 L.length n ∧ zK4 L n ∧ zNp n (zJu L n 0 n.a) (zJu L n 1 n.b) (zJu L n 2 n.c) = some n.s := by
 unfold zAa zIe at h; split at h
 · rename_i h1; exact ⟨h1.1, h1.2.1, h1.2.2, h⟩
 · cases h
theorem zAa.of {L : List No} {n : No} (h1 : L.length ≤ 60) (h2 : zE5 L.length n) (h3 : zK4 L n) (h4 : zNp n (zJu L n 0 n.a) (zJu L n 1 n.b) (zJu L n 2 n.c) = some n.s) : zAa L n := by
 unfold zAa zIe; rw [if_pos ⟨h1, h2, h3⟩]; exact h4
theorem zK2 (k : Int) : -1 ≤ zK1 k ∧ zK1 k ≤ 3 := by unfold zK1; repeat' split <;> omega
theorem zK3 {k : Int} (h : 0 ≤ zK1 k) : 1 ≤ k ∧ k ≤ 38 := by unfold zK1 at h; repeat' split at h <;> omega
theorem zAa.kind {L : List No} {n : No} (h : zAa L n) : 1 ≤ n.k ∧ n.k ≤ 38 := zK3 h.out.2.1.1
theorem zJy {k : Int} (h : (1 ≤ k ∧ k ≤ 5) ∨ (30 ≤ k ∧ k ≤ 32)) : zK1 k = 1 := by unfold zK1; rw [if_pos h]
theorem zJz {k : Int} (h : (6 ≤ k ∧ k ≤ 29) ∨ k = 37) : zK1 k = 2 := by unfold zK1; rw [if_neg (by omega), if_pos h]
theorem zK0 {k : Int} (h : k = 33 ∨ k = 38) : zK1 k = 3 := by unfold zK1; rw [if_neg (by omega), if_neg (by omega), if_pos h]
theorem zJx {k : Int} (h : 34 ≤ k ∧ k ≤ 36) : zK1 k = 0 := by unfold zK1; rw [if_neg (by omega), if_neg (by omega), if_neg (by omega), if_pos h]
theorem zAa.a {L : List No} {n : No} (h : zAa L n) (hp : 0 < zK1 n.k) : (0 ≤ n.a ∧ n.a < (L.length : Int)) ∧ sortOk (noAt L n.a).s := by
 obtain ⟨-, h2, h3, -⟩ := h.out; have := h2.2.1.1; unfold zJt at this; rw [if_pos hp] at this
 exact ⟨by omega, h3.1 hp⟩
theorem zAa.b {L : List No} {n : No} (h : zAa L n) (hp : 1 < zK1 n.k) : (0 ≤ n.b ∧ n.b < (L.length : Int)) ∧ sortOk (noAt L n.b).s := by
 obtain ⟨-, h2, h3, -⟩ := h.out; have := h2.2.1.2.1; unfold zJt at this; rw [if_pos hp] at this
 exact ⟨by omega, h3.2.1 hp⟩
theorem zAa.c {L : List No} {n : No} (h : zAa L n) (hp : 2 < zK1 n.k) : (0 ≤ n.c ∧ n.c < (L.length : Int)) ∧ sortOk (noAt L n.c).s := by
 obtain ⟨-, h2, h3, -⟩ := h.out; have := h2.2.1.2.2; unfold zJt at this; rw [if_pos hp] at this
 exact ⟨by omega, h3.2.2 hp⟩
theorem zAa.sort1 {L : List No} {n : No} (h : zAa L n) (hk : (1 ≤ n.k ∧ n.k ≤ 5) ∨ (30 ≤ n.k ∧ n.k ≤ 32)) :
 (noAt L n.a).s.i = 0 ∧ n.s.i = 0 ∧ n.s.w = (if n.k ≤ 2 then (noAt L n.a).s.w else if n.k ≤ 5 then 1 else if n.k = 30 then n.n - n.m + 1 else (noAt L n.a).s.w + n.n) ∧
     (n.k = 30 → (0 ≤ n.n ∧ n.n ≤ (noAt L n.a).s.w - 1) ∧ 0 ≤ n.m ∧ n.m ≤ n.n) ∧ (n.k = 31 ∨ n.k = 32 → 0 ≤ n.n ∧ n.n ≤ 16 - (noAt L n.a).s.w) := by
 obtain ⟨-, -, -, h4⟩ := h.out; have hp := zJy hk; have e1 : zJu L n 0 n.a = (noAt L n.a).s := by unfold zJu; rw [if_pos (by omega)]
 have e2 : zJu L n 1 n.b = ⟨0, 0⟩ := by unfold zJu; rw [if_neg (by omega)]
 rw [e1, e2] at h4; generalize (noAt L n.a).s = s at *; unfold zNp at h4; rw [if_neg (by omega), if_neg (by omega), if_neg (by omega), if_neg (by omega), if_neg (by omega), if_neg (by omega)] at h4
 by_cases hi : s.i = 0
 case neg => rw [if_pos (.inl hi)] at h4; cases h4
 rw [if_neg (by simp [hi])] at h4
 by_cases h12 : n.k = 1 ∨ n.k = 2
 · rw [if_pos h12] at h4
   injection h4 with h4
   rw [← h4]
   exact ⟨hi, hi, by rw [if_pos (by omega)], fun h => by omega, fun h => by omega⟩
 rw [if_neg h12] at h4
 by_cases h35 : 3 ≤ n.k ∧ n.k ≤ 5
 · rw [if_pos h35] at h4
   injection h4 with h4
   rw [← h4]
   exact ⟨hi, rfl, by rw [if_neg (by omega), if_pos (by omega)]; rfl, fun h => by omega, fun h => by omega⟩
 rw [if_neg h35] at h4
 by_cases h30 : n.k = 30
 · rw [if_pos h30] at h4
   split at h4
   · rename_i hc
     injection h4 with h4
     rw [← h4]
     exact ⟨hi, rfl, by rw [if_neg (by omega), if_neg (by omega), if_pos h30]; rfl, fun _ => hc, fun h => by omega⟩
   · cases h4
 rw [if_neg h30, if_pos (by omega)] at h4
 split at h4
 · rename_i hc
   injection h4 with h4
   rw [← h4]
   exact ⟨hi, rfl, by rw [if_neg (by omega), if_neg (by omega), if_neg h30]; rfl, fun h => by omega, fun _ => hc⟩
 · cases h4
theorem zAa.sort2 {L : List No} {n : No} (h : zAa L n) (hk : 6 ≤ n.k ∧ n.k ≤ 28) (h21 : n.k ≠ 21) :
 (noAt L n.a).s.i = 0 ∧ (noAt L n.b).s = (noAt L n.a).s ∧ n.s.i = 0 ∧ n.s.w = (if n.k ≤ 20 then (noAt L n.a).s.w else 1) := by
 obtain ⟨-, -, -, h4⟩ := h.out; have hp := zJz (k := n.k) (by omega)
 have e1 : zJu L n 0 n.a = (noAt L n.a).s := by unfold zJu; rw [if_pos (by omega)]
 have e2 : zJu L n 1 n.b = (noAt L n.b).s := by unfold zJu; rw [if_pos (by omega)]
 rw [e1, e2] at h4; generalize (noAt L n.a).s = s at *; generalize (noAt L n.b).s = u at *; unfold zNp at h4; rw [if_neg (by omega), if_neg (by omega), if_neg (by omega), if_neg (by omega), if_neg (by omega), if_neg (by omega)] at h4
 by_cases hi : s.i ≠ 0 ∨ u.i ≠ 0
 · rw [if_pos hi] at h4; cases h4
 rw [if_neg hi, if_neg (by omega), if_neg (by omega), if_neg (by omega), if_neg (by omega), if_neg (by omega)] at h4
 split at h4
 · rename_i he
   subst he; injection h4 with h4
   rw [← h4]
   refine ⟨by omega, rfl, ?_, ?_⟩
   · split
     · rfl
     · omega
   · by_cases hk2 : n.k ≤ 20
     · rw [if_neg (by omega), if_pos hk2]
     · rw [if_pos (by omega), if_neg hk2]; rfl
 · cases h4
theorem zAa.sort21 {L : List No} {n : No} (h : zAa L n) (hk : n.k = 21) : (noAt L n.b).s = (noAt L n.a).s ∧ n.s = wS 1 := by
 obtain ⟨-, -, -, h4⟩ := h.out; have hp := zJz (k := n.k) (by omega)
 have e1 : zJu L n 0 n.a = (noAt L n.a).s := by unfold zJu; rw [if_pos (by omega)]
 have e2 : zJu L n 1 n.b = (noAt L n.b).s := by unfold zJu; rw [if_pos (by omega)]
 rw [e1, e2] at h4; unfold zNp at h4; rw [if_neg (by omega), if_neg (by omega), if_neg (by omega), if_pos (by omega)] at h4
 split at h4
 · rename_i he
   injection h4 with h4
   exact ⟨he.symm, h4.symm⟩
 · cases h4
theorem zAa.sort29 {L : List No} {n : No} (h : zAa L n) (hk : n.k = 29) :
 (noAt L n.a).s.i = 0 ∧ (noAt L n.b).s.i = 0 ∧ n.s.i = 0 ∧ n.s.w = (noAt L n.a).s.w + (noAt L n.b).s.w ∧ (noAt L n.a).s.w + (noAt L n.b).s.w ≤ 16 := by
 obtain ⟨-, -, -, h4⟩ := h.out; have hp := zJz (k := n.k) (by omega)
 have e1 : zJu L n 0 n.a = (noAt L n.a).s := by unfold zJu; rw [if_pos (by omega)]
 have e2 : zJu L n 1 n.b = (noAt L n.b).s := by unfold zJu; rw [if_pos (by omega)]
 rw [e1, e2] at h4; generalize (noAt L n.a).s = s at *; generalize (noAt L n.b).s = u at *; unfold zNp at h4; rw [if_neg (by omega), if_neg (by omega), if_neg (by omega), if_neg (by omega), if_neg (by omega), if_neg (by omega)] at h4
 by_cases hi : s.i ≠ 0 ∨ u.i ≠ 0
 · rw [if_pos hi] at h4; cases h4
 rw [if_neg hi, if_neg (by omega), if_neg (by omega), if_neg (by omega), if_neg (by omega), if_pos (by omega)] at h4
 split at h4
 · rename_i he
   injection h4 with h4
   rw [← h4]
   exact ⟨by omega, by omega, rfl, rfl, he⟩
 · cases h4
theorem zAa.sort33 {L : List No} {n : No} (h : zAa L n) (hk : n.k = 33) : (noAt L n.a).s = wS 1 ∧ (noAt L n.b).s = n.s ∧ (noAt L n.c).s = n.s := by
 obtain ⟨-, -, -, h4⟩ := h.out; have hp := zK0 (k := n.k) (by omega)
 have e1 : zJu L n 0 n.a = (noAt L n.a).s := by unfold zJu; rw [if_pos (by omega)]
 have e2 : zJu L n 1 n.b = (noAt L n.b).s := by unfold zJu; rw [if_pos (by omega)]
 have e3 : zJu L n 2 n.c = (noAt L n.c).s := by unfold zJu; rw [if_pos (by omega)]
 rw [e1, e2, e3] at h4; unfold zNp at h4; rw [if_neg (by omega), if_neg (by omega), if_pos (by omega)] at h4
 split at h4
 · rename_i he
   injection h4 with h4
   exact ⟨he.1, h4, by rw [← he.2]; exact h4⟩
 · cases h4
theorem zAa.sort34 {L : List No} {n : No} (h : zAa L n) (hk : n.k = 34) : n.s.i = 0 ∧ zQi n.s.w n.n := by
 obtain ⟨-, -, -, h4⟩ := h.out; unfold zNp at h4; rw [if_neg (by omega), if_pos (by omega)] at h4
 split at h4
 · rename_i he; exact he
 · cases h4
theorem zAa.sort35 {L : List No} {n : No} (h : zAa L n) (hk : n.k = 35 ∨ n.k = 36) : sortOk n.s := by
 obtain ⟨-, -, -, h4⟩ := h.out; unfold zNp at h4; rw [if_pos hk] at h4; split at h4
 · rename_i he; exact he
 · cases h4
theorem zAa.sort37 {L : List No} {n : No} (h : zAa L n) (hk : n.k = 37) : 0 < (noAt L n.a).s.i ∧ (noAt L n.b).s = wS (noAt L n.a).s.i ∧ n.s = wS (noAt L n.a).s.w := by
 obtain ⟨-, -, -, h4⟩ := h.out; have hp := zJz (k := n.k) (by omega)
 have e1 : zJu L n 0 n.a = (noAt L n.a).s := by unfold zJu; rw [if_pos (by omega)]
 have e2 : zJu L n 1 n.b = (noAt L n.b).s := by unfold zJu; rw [if_pos (by omega)]
 rw [e1, e2] at h4; unfold zNp at h4; rw [if_neg (by omega), if_neg (by omega), if_neg (by omega), if_neg (by omega), if_pos (by omega)] at h4
 split at h4
 · rename_i he
   injection h4 with h4
   exact ⟨he.1, he.2, h4.symm⟩
 · cases h4
theorem zAa.sort38 {L : List No} {n : No} (h : zAa L n) (hk : n.k = 38) :
 0 < (noAt L n.a).s.i ∧ (noAt L n.b).s = wS (noAt L n.a).s.i ∧ (noAt L n.c).s = wS (noAt L n.a).s.w ∧ n.s = (noAt L n.a).s := by
 obtain ⟨-, -, -, h4⟩ := h.out; have hp := zK0 (k := n.k) (by omega)
 have e1 : zJu L n 0 n.a = (noAt L n.a).s := by unfold zJu; rw [if_pos (by omega)]
 have e2 : zJu L n 1 n.b = (noAt L n.b).s := by unfold zJu; rw [if_pos (by omega)]
 have e3 : zJu L n 2 n.c = (noAt L n.c).s := by unfold zJu; rw [if_pos (by omega)]
 rw [e1, e2, e3] at h4; unfold zNp at h4; rw [if_neg (by omega), if_neg (by omega), if_neg (by omega), if_neg (by omega), if_neg (by omega), if_pos (by omega)] at h4
 split at h4
 · rename_i he
   injection h4 with h4
   exact ⟨he.1, he.2.1, he.2.2, h4.symm⟩
 · cases h4
theorem zAa.sortOk {L : List No} {n : No} (h : zAa L n) : sortOk n.s := by
 have hk := h.kind
 by_cases h1 : (1 ≤ n.k ∧ n.k ≤ 5) ∨ (30 ≤ n.k ∧ n.k ≤ 32)
 · obtain ⟨s1, s2, s3, s4, s5⟩ := h.sort1 h1
   obtain ⟨-, ha⟩ := h.a (by rw [zJy h1]; omega)
   have := ha.2
   refine ⟨by omega, ?_⟩
   rw [s3]
   by_cases k2 : n.k ≤ 2
   · rw [if_pos k2]; exact this
   rw [if_neg k2]
   by_cases k5 : n.k ≤ 5
   · rw [if_pos k5]; omega
   rw [if_neg k5]
   by_cases k30 : n.k = 30
   · rw [if_pos k30]; have := s4 k30; omega
   · rw [if_neg k30]; have := s5 (by omega); omega
 by_cases h21 : n.k = 21
 · rw [(h.sort21 h21).2]; exact ⟨⟨(by decide : (0 : Int) ≤ 0), (by decide : (0 : Int) ≤ 2)⟩, (by decide : (1 : Int) ≤ 1), (by decide : (1 : Int) ≤ 16)⟩
 by_cases h2 : 6 ≤ n.k ∧ n.k ≤ 28
 · obtain ⟨s1, s2, s3, s4⟩ := h.sort2 h2 h21
   obtain ⟨-, ha⟩ := h.a (by rw [zJz (by omega)]; omega)
   have := ha.2
   refine ⟨by omega, ?_⟩
   rw [s4]; split
   · exact this
   · omega
 by_cases h29 : n.k = 29
 · obtain ⟨s1, s2, s3, s4, s5⟩ := h.sort29 h29
   obtain ⟨-, ha⟩ := h.a (by rw [zJz (by omega)]; omega)
   obtain ⟨-, hb⟩ := h.b (by rw [zJz (by omega)]; omega)
   have := ha.2; have := hb.2
   exact ⟨by omega, by omega⟩
 by_cases h33 : n.k = 33
 · rw [← (h.sort33 h33).2.1]; exact (h.b (by rw [zK0 (by omega)]; omega)).2
 by_cases h34 : n.k = 34
 · obtain ⟨s1, s2⟩ := h.sort34 h34
   exact ⟨by omega, s2.1⟩
 by_cases h35 : n.k = 35 ∨ n.k = 36
 · exact h.sort35 h35
 by_cases h37 : n.k = 37
 · obtain ⟨s1, s2, s3⟩ := h.sort37 h37
   have := (h.a (by rw [zJz (by omega)]; omega)).2.2
   rw [s3]; exact ⟨⟨(by decide : (0 : Int) ≤ 0), (by decide : (0 : Int) ≤ 2)⟩, this⟩
 · obtain ⟨s1, s2, s3, s4⟩ := h.sort38 (by omega)
   rw [s4]; exact (h.a (by rw [zK0 (by omega)]; omega)).2
theorem zIa {L : List No} (M : List No) {p : Int} (h0 : 0 ≤ p) (h1 : p < (L.length : Int)) : noAt (L ++ M) p = noAt L p := by
 unfold noAt; rw [List.getD_eq_getElem?_getD, List.getD_eq_getElem?_getD, List.getElem?_append_left (by omega)]
theorem zIc (L : List No) (n : No) : noAt (L ++ [n]) (L.length : Int) = n := by
 unfold noAt; rw [List.getD_eq_getElem?_getD, List.getElem?_append_right (by omega)]
 simp
theorem zIb {L : List No} {i : Nat} (h : i < L.length) : noAt L (i : Int) = L[i] := by
 unfold noAt; rw [List.getD_eq_getElem?_getD]
 simp [h]
theorem zId {L : List No} {i : Nat} {p : Int} (h0 : 0 ≤ p) (h1 : p < (i : Int)) : noAt (L.take i) p = noAt L p := by
 unfold noAt; rw [List.getD_eq_getElem?_getD, List.getD_eq_getElem?_getD, List.getElem?_take_of_lt (by omega)]
theorem zAa.conv {L M : List No} {n : No} (h : zAa L n) (hM : M.length ≤ 60) (hl : L.length ≤ M.length) (hs : ∀ p : Int, 0 ≤ p → p < (L.length : Int) → (noAt M p).s = (noAt L p).s) : zAa M n := by
 obtain ⟨h1, h2, h3, h4⟩ := h.out; have ha : 0 < zK1 n.k → (noAt M n.a).s = (noAt L n.a).s := fun hp => hs _ (h.a hp).1.1 (h.a hp).1.2
 have hb : 1 < zK1 n.k → (noAt M n.b).s = (noAt L n.b).s := fun hp => hs _ (h.b hp).1.1 (h.b hp).1.2
 have hc : 2 < zK1 n.k → (noAt M n.c).s = (noAt L n.c).s := fun hp => hs _ (h.c hp).1.1 (h.c hp).1.2
 have grow : ∀ j p, zJt (zK1 n.k) j L.length p → zJt (zK1 n.k) j M.length p := by
  intro j p; unfold zJt; split
  · omega
  · exact id
 refine zAa.of hM ⟨h2.1, ⟨grow _ _ h2.2.1.1, grow _ _ h2.2.1.2.1, grow _ _ h2.2.1.2.2⟩, h2.2.2⟩ ⟨fun hp => by rw [ha hp]; exact h3.1 hp, fun hp => by rw [hb hp]; exact h3.2.1 hp, fun hp => by rw [hc hp]; exact h3.2.2 hp⟩ ?_
 have e : ∀ j p, (j < zK1 n.k → (noAt M p).s = (noAt L p).s) → zJu M n j p = zJu L n j p := by
  intro j p hh; unfold zJu; split
  · rename_i hj; exact hh hj
  · rfl
 rw [e 0 _ ha, e 1 _ hb, e 2 _ hc]
 exact h4
theorem zAa.app {L : List No} {n : No} (h : zAa L n) (M : List No) (hM : (L ++ M).length ≤ 60) : zAa (L ++ M) n :=
 h.conv hM (by simp) (fun p h0 h1 => by rw [zIa M h0 h1])
theorem zIi {L : List No} {n : No} : zAb (L ++ [n]) ↔ zAb L ∧ zAa L n := by
 constructor
 · intro h
   refine ⟨fun i hi => ?_, ?_⟩
   · have := h i (by simp; omega)
     rw [List.getElem_append_left hi, List.take_append_of_le_length (by omega)] at this
     exact this
   · have := h L.length (by simp)
     simpa using this
 · rintro ⟨h1, h2⟩ i hi
   by_cases hlt : i < L.length
   · rw [List.getElem_append_left hlt, List.take_append_of_le_length (by omega)]
     exact h1 i hlt
   · have : i = L.length := by simp at hi; omega
     subst this; simpa using h2
theorem zAb.at {L : List No} (h : zAb L) {p : Int} (h0 : 0 ≤ p) (h1 : p < (L.length : Int)) : zAa (L.take p.toNat) (noAt L p) := by
 have := h p.toNat (by omega)
 obtain ⟨i, rfl⟩ : ∃ i : Nat, p = (i : Int) := ⟨p.toNat, by omega⟩
 rw [zIb (by omega)]
 exact this
theorem zAb.in {L : List No} (h : zAb L) (hl : L.length ≤ 60) {p : Int} (h0 : 0 ≤ p) (h1 : p < (L.length : Int)) : zAa L (noAt L p) :=
 (h.at h0 h1).conv hl (by simp; omega) (fun q hq0 hq1 => by rw [zId hq0 (by simp at hq1; omega)])
theorem zAb.sortOk {L : List No} (h : zAb L) {p : Int} (h0 : 0 ≤ p) (h1 : p < (L.length : Int)) : sortOk (noAt L p).s := (h.at h0 h1).sortOk
theorem zAb.len {L : List No} (h : zAb L) : L.length ≤ 61 := by
 rcases Nat.eq_zero_or_pos L.length with h0 | h0
 · omega
 · have := (h (L.length - 1) (by omega)).out.1
   simp at this; omega
theorem zAb.part {L : List No} (h : zAb L) {p : Int} (h0 : 0 ≤ p) (h1 : p < (L.length : Int)) :
 (0 < zK1 (noAt L p).k → 0 ≤ (noAt L p).a ∧ (noAt L p).a < p) ∧ (1 < zK1 (noAt L p).k → 0 ≤ (noAt L p).b ∧ (noAt L p).b < p) ∧ (2 < zK1 (noAt L p).k → 0 ≤ (noAt L p).c ∧ (noAt L p).c < p) := by
 have := h.at h0 h1
 refine ⟨fun hp => ?_, fun hp => ?_, fun hp => ?_⟩
 · have := (this.a hp).1; simp at this; omega
 · have := (this.b hp).1; simp at this; omega
 · have := (this.c hp).1; simp at this; omega
theorem oneW_lt {k w a : Nat} (hw : 1 ≤ w) (ha : a < 2 ^ w) : zIx k w a < 2 ^ zIw k w := by
 have hp := Nat.two_pow_pos w; unfold zIx zIw
 by_cases h1 : k = 1
 · rw [if_pos h1, if_pos (by omega)]; omega
 rw [if_neg h1]
 by_cases h2 : k = 2
 · rw [if_pos h2, if_pos (by omega)]; exact zPi _ _
 rw [if_neg h2]
 by_cases h0 : k ≤ 2
 · have hw2 : 2 ≤ 2 ^ w := Nat.le_trans (by decide) (Nat.pow_le_pow_right (n := 2) (by decide) hw)
   rw [if_neg (by omega), if_neg (by omega), if_pos h0]; omega
 rw [if_neg h0]
 repeat' split
 all_goals omega
theorem zL1 {w a r : Nat} (ha : a < 2 ^ w) (hr : r < w) : zL0 w a r < 2 ^ w := by
 unfold zL0; have h1 := Nat.mod_lt a (Nat.two_pow_pos (w - r)); have e : 2 ^ w = 2 ^ (w - r) * 2 ^ r := by rw [← Nat.pow_add, Nat.sub_add_cancel (by omega)]
 have h2 : a / 2 ^ (w - r) < 2 ^ r := by rw [Nat.div_lt_iff_lt_mul (Nat.two_pow_pos _), Nat.mul_comm, ← e]; exact ha
 rw [e]; generalize a % 2 ^ (w - r) = x at *; generalize 2 ^ (w - r) = P at *; generalize a / P = y at *; generalize 2 ^ r = Q at *
 calc x * Q + y < x * Q + Q := by omega
  _ = (x + 1) * Q := by rw [Nat.add_mul, Nat.one_mul]
  _ ≤ P * Q := Nat.mul_le_mul_right _ (by omega)
theorem b2n_lt (b : Bool) : b.toNat < 2 := by cases b <;> decide
theorem zN3 {k w a b : Nat} (hw : 1 ≤ w) (ha : a < 2 ^ w) : zN2 k w a b < 2 ^ w := by
 have : 2 ≤ 2 ^ w := Nat.le_trans (by decide) (Nat.pow_le_pow_right (n := 2) (by decide) hw)
 unfold zN2; split
 · split
   · exact ha
   · split <;> omega
 · split
   · exact zPi _ _
   · exact zPi _ _
theorem zPv {k w a b : Nat} (hw : 1 ≤ w) (ha : a < 2 ^ w) (hb : b < 2 ^ w) (hk : 6 ≤ k ∧ k ≤ 28) : zPu k w a b < 2 ^ zPt k w := by
 have hp := Nat.two_pow_pos w; unfold zPt
 by_cases h20 : k ≤ 20
 case neg =>
  rw [if_neg h20]; unfold zPu
  iterate 14 rw [if_neg (by omega)]
  exact b2n_lt _
 rw [if_pos h20]; unfold zPu
 by_cases e0 : k = 6
 · rw [if_pos e0]
   exact Nat.and_lt_two_pow _ hb
 rw [if_neg e0]
 by_cases e1 : k = 7
 · rw [if_pos e1]
   exact Nat.or_lt_two_pow ha hb
 rw [if_neg e1]
 by_cases e2 : k = 8
 · rw [if_pos e2]
   exact Nat.xor_lt_two_pow ha hb
 rw [if_neg e2]
 by_cases e3 : k = 9
 · rw [if_pos e3]
   exact Nat.mod_lt _ hp
 rw [if_neg e3]
 by_cases e4 : k = 10
 · rw [if_pos e4]
   exact zPi _ _
 rw [if_neg e4]
 by_cases e5 : k = 11
 · rw [if_pos e5]
   exact Nat.mod_lt _ hp
 rw [if_neg e5]
 by_cases e6 : k = 12
 · rw [if_pos e6]
   split
   · omega
   · exact Nat.lt_of_le_of_lt (Nat.div_le_self _ _) ha
 rw [if_neg e6]
 by_cases e7 : k = 13
 · rw [if_pos e7]
   split
   · exact ha
   · exact Nat.lt_of_le_of_lt (Nat.mod_le _ _) ha
 rw [if_neg e7]
 by_cases e8 : k = 14 ∨ k = 15
 · rw [if_pos e8]
   exact zN3 hw ha
 rw [if_neg e8]
 by_cases e9 : k = 16
 · rw [if_pos e9]
   exact Nat.mod_lt _ hp
 rw [if_neg e9]
 by_cases e10 : k = 17
 · rw [if_pos e10]
   exact Nat.lt_of_le_of_lt (Nat.div_le_self _ _) ha
 rw [if_neg e10]
 by_cases e11 : k = 18
 · rw [if_pos e11]
   exact zPi _ _
 rw [if_neg e11]
 by_cases e12 : k = 19
 · rw [if_pos e12]
   exact zL1 ha (Nat.mod_lt _ (by omega))
 rw [if_neg e12]; rw [if_pos (by omega)]
 exact zL1 ha (Nat.mod_lt _ (by omega))
theorem zEf {w a more : Nat} {sign : Bool} (ha : a < 2 ^ w) : zEe w a more sign < 2 ^ (w + more) := by
 unfold zEe; split
 · exact zPi _ _
 · exact Nat.lt_of_lt_of_le ha (Nat.pow_le_pow_right (by decide) (by omega))
theorem zQm {w v : Int} (h : zQi w v) : ∃ (wn vn : Nat), w = wn ∧ v = vn ∧ w.toNat = wn ∧ v.toNat = vn ∧ (1 ≤ wn ∧ wn ≤ 16) ∧ vn < 2 ^ wn := by
 obtain ⟨⟨h1, h2⟩, h3, h4⟩ := h
 refine ⟨w.toNat, v.toNat, by omega, by omega, rfl, rfl, by omega, ?_⟩
 have := Nat.two_pow_pos w.toNat; generalize 2 ^ w.toNat = p at *; omega
theorem zQo {w : Int} {v : Nat} (hw : 1 ≤ w ∧ w ≤ 16) (h : v < 2 ^ w.toNat) : zQi w (v : Int) := by
 refine ⟨hw, by omega, ?_⟩
 have := Nat.two_pow_pos w.toNat; generalize 2 ^ w.toNat = p at *; omega
theorem zCl {w : Int} (h : 1 ≤ w ∧ w ≤ 16) : cellsOf (wS w) = 1 := by
 unfold cellsOf; rw [if_pos ⟨⟨(by decide : (0 : Int) ≤ 0), (by decide : (0 : Int) ≤ 2)⟩, h⟩]; rfl
theorem zQg {s : So} (h : s.i = 0) : s = wS s.w := by
 cases s; simp only at h; subst h; rfl
theorem zCi {s : So} (hi : s.i = 0) (h : sortOk s) : cellsOf s = 1 := by rw [zQg hi]; exact zCl h.2
theorem zDy {s : So} (hi : s.i = 0) (h : sortOk s) {x : Int} (hx : zQi s.w x) : zDw s [x] :=
 ⟨by rw [zCi hi h]; rfl, fun y hy => by rw [List.mem_singleton] at hy; rw [hy]; exact hx⟩
theorem zDx {s : So} {v : List Int} (h : zDw s v) (hs : sortOk s) : zQi s.w (hd0 v) := by
 obtain ⟨h1, h2⟩ := h; have : 0 < cellsOf s := by unfold cellsOf; rw [if_pos hs]; exact Nat.two_pow_pos _
 cases v with
 | nil => simp only [List.length_nil] at h1; omega
 | cons x t => exact h2 x List.mem_cons_self
theorem zIo {L : List No} {n : No} {va : Int → List Int} (h : zAa L n) (hk : ¬ (n.k = 35 ∨ n.k = 36)) (ha : 0 < zK1 n.k → zDw (noAt L n.a).s (va n.a)) (hb : 1 < zK1 n.k → zDw (noAt L n.b).s (va n.b))
 (hc : 2 < zK1 n.k → zDw (noAt L n.c).s (va n.c)) : zDw n.s (zIm (fun p => (noAt L p).s) va n) := by
 have hkk := h.kind; have hso := h.sortOk; unfold zIm
 by_cases h34 : n.k = 34
 · rw [if_pos h34]
   obtain ⟨s1, s2⟩ := h.sort34 h34
   exact zDy s1 hso s2
 rw [if_neg h34]
 by_cases h33 : n.k = 33
 · rw [if_pos h33]
   obtain ⟨s1, s2, s3⟩ := h.sort33 h33; have hp := zK0 (k := n.k) (by omega)
   split
   · rw [← s2]; exact hb (by omega)
   · rw [← s3]; exact hc (by omega)
 rw [if_neg h33]
 by_cases h21 : n.k = 21
 · rw [if_pos h21]
   obtain ⟨s1, s2⟩ := h.sort21 h21; rw [s2] at hso ⊢; split
   · exact zDy rfl hso ⟨⟨(by decide : (1 : Int) ≤ 1), (by decide : (1 : Int) ≤ 16)⟩, by decide, by decide⟩
   · exact zDy rfl hso ⟨⟨(by decide : (1 : Int) ≤ 1), (by decide : (1 : Int) ≤ 16)⟩, by decide, by decide⟩
 rw [if_neg h21]
 by_cases h37 : n.k = 37
 · rw [if_pos h37]
   obtain ⟨s1, s2, s3⟩ := h.sort37 h37; have hp := zJz (k := n.k) (by omega)
   have fa := ha (by omega)
   have fb := zDx (hb (by omega)) (h.b (by omega)).2
   have sa := (h.a (by omega)).2
   rw [s2] at fb; obtain ⟨wn, vn, e1, e2, e3, e4, -, hlt⟩ := zQm fb; have hlen : (va n.a).length = 2 ^ (noAt L n.a).s.i.toNat := by rw [fa.1]; unfold cellsOf; rw [if_pos sa]
   have e5 : (noAt L n.a).s.i.toNat = wn := e3; rw [e5] at hlen
   have hm : (va n.a).getD (hd0 (va n.b)).toNat 0 ∈ va n.a := by
    rw [e4, List.getD_eq_getElem?_getD, List.getElem?_eq_getElem (by omega)]
    exact List.getElem_mem _
   have hm := fa.2 _ hm; rw [s3] at hso ⊢
   exact zDy rfl hso hm
 rw [if_neg h37]
 by_cases h38 : n.k = 38
 · rw [if_pos h38]
   obtain ⟨s1, s2, s3, s4⟩ := h.sort38 h38; have hp := zK0 (k := n.k) (by omega)
   have fa := ha (by omega)
   have fc := zDx (hc (by omega)) (h.c (by omega)).2
   rw [s3] at fc; rw [s4]
   refine ⟨by rw [List.length_set]; exact fa.1, fun x hx => ?_⟩
   rcases List.mem_or_eq_of_mem_set hx with hx | rfl
   · exact fa.2 x hx
   · exact fc
 rw [if_neg h38]
 by_cases h29 : n.k = 29
 · rw [if_pos h29]
   obtain ⟨s1, s2, s3, s4, s5⟩ := h.sort29 h29; have hp := zJz (k := n.k) (by omega)
   have fa := zDx (ha (by omega)) (h.a (by omega)).2
   have fb := zDx (hb (by omega)) (h.b (by omega)).2
   obtain ⟨wa, xa, a1, a2, a3, a4, a5, a6⟩ := zQm fa; obtain ⟨wb, xb, b1, b2, b3, b4, b5, b6⟩ := zQm fb
   refine zDy s3 hso ?_
   rw [a2, b2, b3, ← Int.natCast_mul, ← Int.natCast_add]
   refine zQo hso.2 ?_
   rw [s4, show ((noAt L n.a).s.w + (noAt L n.b).s.w).toNat = wa + wb by omega, Nat.pow_add]
   generalize 2 ^ wa = P at *; generalize 2 ^ wb = Q at *
   calc xa * Q + xb < xa * Q + Q := by omega
    _ = (xa + 1) * Q := by rw [Nat.add_mul, Nat.one_mul]
    _ ≤ P * Q := Nat.mul_le_mul_right _ (by omega)
 rw [if_neg h29]
 by_cases h1 : (1 ≤ n.k ∧ n.k ≤ 5) ∨ (30 ≤ n.k ∧ n.k ≤ 32)
 · obtain ⟨s1, s2, s3, s4, s5⟩ := h.sort1 h1
   have hp := zJy h1; have fa := zDx (ha (by omega)) (h.a (by omega)).2
   obtain ⟨wa, xa, a1, a2, a3, a4, a5, a6⟩ := zQm fa
   by_cases h30 : n.k = 30
   · rw [if_pos h30]
     refine zDy s2 hso ?_
     rw [a2, ← Int.natCast_ediv, ← Int.natCast_emod]
     refine zQo hso.2 ?_
     rw [s3, if_neg (by omega), if_neg (by omega), if_pos h30]
     exact Nat.mod_lt _ (Nat.two_pow_pos _)
   rw [if_neg h30]
   by_cases h312 : n.k = 31 ∨ n.k = 32
   · rw [if_pos h312]
     refine zDy s2 hso (zQo hso.2 ?_)
     rw [s3, if_neg (by omega), if_neg (by omega), if_neg h30]
     have := s5 h312; rw [show ((noAt L n.a).s.w + n.n).toNat = wa + n.n.toNat by omega, a3, a4]
     exact zEf a6
   rw [if_neg h312, if_pos (show n.k ≤ 5 by omega)]
   refine zDy s2 hso (zQo hso.2 ?_)
   rw [s3, a3, a4]; have := oneW_lt (k := n.k.toNat) a5.1 a6; unfold zIw at this
   by_cases k2 : n.k ≤ 2
   · rw [if_pos k2, a3]; rwa [if_pos (by omega)] at this
   · rw [if_neg k2, if_pos (by omega)]; rwa [if_neg (by omega)] at this
 · obtain ⟨s1, s2, s3, s4⟩ := h.sort2 (by omega) h21
   have hp := zJz (k := n.k) (by omega)
   have fa := zDx (ha (by omega)) (h.a (by omega)).2
   have fb := zDx (hb (by omega)) (h.b (by omega)).2
   rw [s2] at fb; obtain ⟨wa, xa, a1, a2, a3, a4, a5, a6⟩ := zQm fa; obtain ⟨wb, xb, b1, b2, b3, b4, b5, b6⟩ := zQm fb; have : wb = wa := by omega
   subst this; rw [if_neg (by omega), if_neg (by omega), if_neg (by omega)]
   refine zDy s3 hso (zQo hso.2 ?_)
   rw [s4, a3, a4, b4]; have := zPv (k := n.k.toNat) a5.1 a6 b6 (by omega)
   unfold zPt at this
   by_cases k2 : n.k ≤ 20
   · rw [if_pos k2, a3]; rwa [if_pos (by omega)] at this
   · rw [if_neg k2]; rwa [if_neg (by omega)] at this
end Go.Proofs.YtmolbnghobfmoaaGreat
namespace Go.Proofs.YtmolbnghobfmoaaGreat
open Go.RowKit
theorem zFm (n : Int) (b : Bool) (h : decide (1 ≤ n ∧ n ≤ 16) = b) (w : World) : Calls Tryz.prog 205 #[.int .i64 n] w fun e w' => e = .returned (.bool b) ∧ w = w' := by
 go_enter Tryz.func205, Tryz.ntmps205
 go_wp2_with (go_at_call 143; refine (zEx _ _ _ b h _).mono ?_; rintro e w1 ⟨rfl, rfl⟩)
 go_ret
 exact ⟨rfl, rfl⟩
theorem zO8 (s : So) (b : Bool) (h : decide (sortOk s) = b) (w : World) : Calls Tryz.prog 178 #[.agg #[.int .i64 s.i, .int .i64 s.w]] w fun e w' => e = .returned (.bool b) ∧ Below w.heap.size w w' := by
 have HB := bx w #[.int .i64 s.i, .int .i64 s.w] 40; subst h
 by_cases h1 : 0 ≤ s.i ∧ s.i ≤ 2
 · by_cases h2 : 1 ≤ s.w ∧ s.w ≤ 16
   · have e : decide (sortOk s) = true := decide_eq_true ⟨h1, h2⟩
     rw [e]
     go_enter Tryz.func178, Tryz.ntmps178
     go_wp2_with (first | (go_at_call 143; (first | refine (zEx _ _ _ true (decide_eq_true (by omega)) _).mono ?_ | refine (zEx _ _ _ false (decide_eq_false (by omega)) _).mono ?_); rintro e wI ⟨rfl, rfl⟩) | (go_at_call 205; refine (zFm _ true (decide_eq_true h2) _).mono ?_; rintro e w1 ⟨rfl, rfl⟩))
     go_ret
     exact ⟨rfl, HB.out⟩
   · have e : decide (sortOk s) = false := decide_eq_false (fun h => h2 h.2)
     rw [e]
     go_enter Tryz.func178, Tryz.ntmps178
     go_wp2_with (first | (go_at_call 143; (first | refine (zEx _ _ _ true (decide_eq_true (by omega)) _).mono ?_ | refine (zEx _ _ _ false (decide_eq_false (by omega)) _).mono ?_); rintro e wI ⟨rfl, rfl⟩) | (go_at_call 205; refine (zFm _ false (decide_eq_false h2) _).mono ?_; rintro e w1 ⟨rfl, rfl⟩))
     go_ret
     exact ⟨rfl, HB.out⟩
 · have e : decide (sortOk s) = false := decide_eq_false (fun h => h1 h.1)
   rw [e]
   go_enter Tryz.func178, Tryz.ntmps178
   go_wp2_with (go_at_call 143; (first | refine (zEx _ _ _ true (decide_eq_true (by omega)) _).mono ?_ | refine (zEx _ _ _ false (decide_eq_false (by omega)) _).mono ?_); rintro e wI ⟨rfl, rfl⟩)
   go_ret
   exact ⟨rfl, HB.out⟩
theorem zCk (s : So) : (¬ sortOk s ∧ cellsOf s = 0) ∨ (sortOk s ∧ s.i = 0 ∧ cellsOf s = 1) ∨ (sortOk s ∧ s.i = 1 ∧ cellsOf s = 2) ∨ (sortOk s ∧ s.i = 2 ∧ cellsOf s = 4) := by
 unfold cellsOf
 by_cases h : sortOk s
 · rw [if_pos h]
   rcases (show s.i = 0 ∨ s.i = 1 ∨ s.i = 2 by have := h.1; omega) with e | e | e <;> rw [e]
   · exact .inr (.inl ⟨h, rfl, rfl⟩)
   · exact .inr (.inr (.inl ⟨h, rfl, rfl⟩))
   · exact .inr (.inr (.inr ⟨h, rfl, rfl⟩))
 · rw [if_neg h]; exact .inl ⟨h, rfl⟩
theorem zCj (s : So) : cellsOf s ≤ 4 := by rcases zCk s with h | h | h | h <;> omega
theorem zNo (s : So) (w : World) : Calls Tryz.prog 180 #[.agg #[.int .i64 s.i, .int .i64 s.w]] w fun e w' => e = .returned (.int .i64 (cellsOf s : Int)) ∧ Below w.heap.size w w' := by
 obtain ⟨i, wd⟩ := s
 rcases zCk ⟨i, wd⟩ with ⟨h1, h2⟩ | ⟨h1, h2, h3⟩ | ⟨h1, h2, h3⟩ | ⟨h1, h2, h3⟩
 · rw [h2]
   have HI := Kh h1; clear h1 h2; have HB := bx w #[.int .i64 i, .int .i64 wd] 40; have HC := nx w #[.int .i64 i, .int .i64 wd] 40
   go_enter Tryz.func180, Tryz.ntmps180
   go_wp2_with (go_at_call 178; refine (zO8 ⟨i, wd⟩ false (by exact decide_eq_false HI.out) _).mono ?_; rintro e w1 ⟨rfl, hb1⟩; have HB1 := Kh (HB.out.trans (hb1.mono HB.out.size)); have HC1 := Kh (HC.out.below hb1 HC.out.lt); obtain ⟨c0, c1⟩ := HC1.out.two; clear hb1)
   go_ret
   exact ⟨rfl, HB1.out⟩
 · obtain rfl : i = 0 := h2
   rw [h3]; have HI := Kh h1; clear h1 h3; have HB := bx w #[.int .i64 0, .int .i64 wd] 40; have HC := nx w #[.int .i64 0, .int .i64 wd] 40
   go_enter Tryz.func180, Tryz.ntmps180
   go_wp2_with (go_at_call 178; refine (zO8 ⟨0, wd⟩ true (by exact decide_eq_true HI.out) _).mono ?_; rintro e w1 ⟨rfl, hb1⟩; have HB1 := Kh (HB.out.trans (hb1.mono HB.out.size)); have HC1 := Kh (HC.out.below hb1 HC.out.lt); obtain ⟨c0, c1⟩ := HC1.out.two; clear hb1)
   go_ret
   exact ⟨rfl, HB1.out⟩
 · obtain rfl : i = 1 := h2
   rw [h3]; have HI := Kh h1; clear h1 h3; have HB := bx w #[.int .i64 1, .int .i64 wd] 40; have HC := nx w #[.int .i64 1, .int .i64 wd] 40
   go_enter Tryz.func180, Tryz.ntmps180
   go_wp2_with (go_at_call 178; refine (zO8 ⟨1, wd⟩ true (by exact decide_eq_true HI.out) _).mono ?_; rintro e w1 ⟨rfl, hb1⟩; have HB1 := Kh (HB.out.trans (hb1.mono HB.out.size)); have HC1 := Kh (HC.out.below hb1 HC.out.lt); obtain ⟨c0, c1⟩ := HC1.out.two; clear hb1)
   go_ret
   exact ⟨rfl, HB1.out⟩
 · obtain rfl : i = 2 := h2
   rw [h3]; have HI := Kh h1; clear h1 h3; have HB := bx w #[.int .i64 2, .int .i64 wd] 40; have HC := nx w #[.int .i64 2, .int .i64 wd] 40
   go_enter Tryz.func180, Tryz.ntmps180
   go_wp2_with (go_at_call 178; refine (zO8 ⟨2, wd⟩ true (by exact decide_eq_true HI.out) _).mono ?_; rintro e w1 ⟨rfl, hb1⟩; have HB1 := Kh (HB.out.trans (hb1.mono HB.out.size)); have HC1 := Kh (HC.out.below hb1 HC.out.lt); obtain ⟨c0, c1⟩ := HC1.out.two; clear hb1)
   go_ret
   exact ⟨rfl, HB1.out⟩
theorem zK6 (k : Int) (w : World) : Calls Tryz.prog 98 #[.int .i64 k] w fun e w' => e = .returned (.int .i64 (zK1 k)) ∧ w = w' := by
 by_cases h1 : 1 ≤ k ∧ k ≤ 5
 · have e := Kh (zJy (.inl h1))
   go_enter Tryz.func98, Tryz.ntmps98
   go_wp2_with (go_at_call 143; (first | refine (zEx _ _ _ true (decide_eq_true (by omega)) _).mono ?_ | refine (zEx _ _ _ false (decide_eq_false (by omega)) _).mono ?_); rintro e wI ⟨rfl, rfl⟩)
   go_ret
   exact ⟨by rw [e.out]; rfl, rfl⟩
 by_cases h2 : 30 ≤ k ∧ k ≤ 32
 · have e := Kh (zJy (.inr h2))
   go_enter Tryz.func98, Tryz.ntmps98
   go_wp2_with (go_at_call 143; (first | refine (zEx _ _ _ true (decide_eq_true (by omega)) _).mono ?_ | refine (zEx _ _ _ false (decide_eq_false (by omega)) _).mono ?_); rintro e wI ⟨rfl, rfl⟩)
   go_ret
   exact ⟨by rw [e.out]; rfl, rfl⟩
 by_cases h3 : 6 ≤ k ∧ k ≤ 29
 · have e := Kh (zJz (.inl h3))
   go_enter Tryz.func98, Tryz.ntmps98
   go_wp2_with (go_at_call 143; (first | refine (zEx _ _ _ true (decide_eq_true (by omega)) _).mono ?_ | refine (zEx _ _ _ false (decide_eq_false (by omega)) _).mono ?_); rintro e wI ⟨rfl, rfl⟩)
   go_ret
   exact ⟨by rw [e.out]; rfl, rfl⟩
 by_cases h4 : k = 37
 · subst h4
   go_enter Tryz.func98, Tryz.ntmps98
   go_wp2_with (go_at_call 143; (first | refine (zEx _ _ _ true (decide_eq_true (by omega)) _).mono ?_ | refine (zEx _ _ _ false (decide_eq_false (by omega)) _).mono ?_); rintro e wI ⟨rfl, rfl⟩)
   go_ret
   exact ⟨rfl, rfl⟩
 by_cases h5 : k = 33
 · subst h5
   go_enter Tryz.func98, Tryz.ntmps98
   go_wp2_with (go_at_call 143; (first | refine (zEx _ _ _ true (decide_eq_true (by omega)) _).mono ?_ | refine (zEx _ _ _ false (decide_eq_false (by omega)) _).mono ?_); rintro e wI ⟨rfl, rfl⟩)
   go_ret
   exact ⟨rfl, rfl⟩
 by_cases h6 : k = 38
 · subst h6
   go_enter Tryz.func98, Tryz.ntmps98
   go_wp2_with (go_at_call 143; (first | refine (zEx _ _ _ true (decide_eq_true (by omega)) _).mono ?_ | refine (zEx _ _ _ false (decide_eq_false (by omega)) _).mono ?_); rintro e wI ⟨rfl, rfl⟩)
   go_ret
   exact ⟨rfl, rfl⟩
 have d4 : (k == 37) = false := by simpa using h4
 have d5 : (k == 33) = false := by simpa using h5
 have d6 : (k == 38) = false := by simpa using h6
 by_cases h7 : 34 ≤ k ∧ k ≤ 36
 · have e := Kh (zJx h7)
   go_enter Tryz.func98, Tryz.ntmps98
   go_wp2_with (go_at_call 143; (first | refine (zEx _ _ _ true (decide_eq_true (by omega)) _).mono ?_ | refine (zEx _ _ _ false (decide_eq_false (by omega)) _).mono ?_); rintro e wI ⟨rfl, rfl⟩)
   go_ret
   exact ⟨by rw [e.out]; rfl, rfl⟩
 · have e : Hid (zK1 k = -1) := Kh (by unfold zK1; rw [if_neg (by omega), if_neg (by omega), if_neg (by omega), if_neg (by omega)])
   go_enter Tryz.func98, Tryz.ntmps98
   go_wp2_with (go_at_call 143; (first | refine (zEx _ _ _ true (decide_eq_true (by omega)) _).mono ?_ | refine (zEx _ _ _ false (decide_eq_false (by omega)) _).mono ?_); rintro e wI ⟨rfl, rfl⟩)
   go_ret
   exact ⟨by rw [e.out]; rfl, rfl⟩
theorem zI8 (k : Int) (w : World) : Calls Tryz.prog 140 #[.int .i64 k] w fun e w' => e = .returned (.bool (decide (zI6 k))) ∧ w = w' := by
 by_cases h1 : k = 35
 · subst h1
   go_enter Tryz.func140, Tryz.ntmps140
   go_wp2_with fail
   go_ret
   exact ⟨rfl, rfl⟩
 by_cases h2 : k = 36
 · subst h2
   go_enter Tryz.func140, Tryz.ntmps140
   go_wp2_with fail
   go_ret
   exact ⟨rfl, rfl⟩
 have d1 : (k == 35) = false := by simpa using h1
 have d2 : (k == 36) = false := by simpa using h2
 have e : decide (zI6 k) = false := decide_eq_false (by unfold zI6; omega)
 rw [e]
 go_enter Tryz.func140, Tryz.ntmps140
 go_wp2_with fail
 go_ret
 exact ⟨rfl, rfl⟩
theorem zQs (x : Int) (w : World) : Calls Tryz.prog 93 #[.int .i64 x] w fun e w' => e = .returned (.agg #[.int .i64 0, .int .i64 x]) ∧ Below w.heap.size w w' := by
 go_enter Tryz.func93, Tryz.ntmps93
 go_wp2_with fail
 exact bodyPost_ret (v := .agg #[.int .i64 0, .int .i64 x]) (by simp [results, Tryz.results93, go_sem]) rfl ⟨rfl, (Below.refl _ _).alloc (Nat.le_refl _) _⟩
theorem pow62 {x : Nat} (h : x ≤ 62) : (1 : Int) ≤ 2 ^ x ∧ (2 : Int) ^ x ≤ 4611686018427387904 := by
 have h1 : 2 ^ x ≤ 2 ^ 62 := Nat.pow_le_pow_right (by decide) h
 have h2 := Nat.two_pow_pos x; have e : ((2 : Int) ^ x) = ((2 ^ x : Nat) : Int) := by simp
 rw [e]; have h3 : (2 : Nat) ^ 62 = 4611686018427387904 := by decide
 omega
theorem zHo (x : Nat) (hx : x ≤ 62) (w : World) : Calls Tryz.prog 173 #[.int .i64 (x : Int)] w fun e w' => e = .returned (.int .i64 (((2 ^ x : Nat) : Int) - 1)) ∧ w = w' := by
 have hp := pow62 hx; have e : ((2 ^ x : Nat) : Int) = (2 : Int) ^ x := by simp
 go_enter Tryz.func173, Tryz.ntmps173
 go_wp2_with fail
 go_ret; rw [e]
 exact ⟨rfl, rfl⟩
theorem zBr (x : Int) {w : Nat} (hw : w ≤ 62) : bits .and .i64 x (((2 ^ w : Nat) : Int) - 1) = (toW w x : Int) := by
 have hp := Nat.two_pow_pos w; have h62 : 2 ^ w ≤ 2 ^ 62 := Nat.pow_le_pow_right (by decide) hw
 have e62 : (2 : Nat) ^ 62 = 4611686018427387904 := by decide
 have e64 : (2 : Nat) ^ 64 = 18446744073709551616 := by decide
 have key : (BitVec.ofInt 64 x &&& BitVec.ofInt 64 (((2 ^ w : Nat) : Int) - 1)).toNat = toW w x := by
  rw [BitVec.toNat_and, BitVec.toNat_ofInt, BitVec.toNat_ofInt]
  have h1 : ((((2 ^ w : Nat) : Int) - 1) % ((2 ^ 64 : Nat) : Int)).toNat = 2 ^ w - 1 := by
   rw [Int.emod_eq_of_lt (by omega) (by omega)]; omega
  rw [h1, Nat.and_two_pow_sub_one_eq_mod]; have h3 : ((x % ((2 ^ 64 : Nat) : Int)).toNat : Int) = x % ((2 ^ 64 : Nat) : Int) := Int.toNat_of_nonneg (Int.emod_nonneg _ (by omega))
  have h4 : (((x % ((2 ^ 64 : Nat) : Int)).toNat % 2 ^ w : Nat) : Int) = x % ((2 ^ w : Nat) : Int) := by
   rw [Int.natCast_emod, h3]
   exact Int.emod_emod_of_dvd x (Int.ofNat_dvd.2 (Nat.pow_dvd_pow 2 (by omega)))
  have h5 := zPh w x; omega
 show IntKind.i64.wrap ((BitVec.ofInt 64 x &&& BitVec.ofInt 64 (((2 ^ w : Nat) : Int) - 1)).toNat : Int) = _
 rw [key]; have := zPi w x
 exact zRa (by omega) (by omega)
theorem zIp (a : Nat) (ha : a < 2 ^ 62) : (BitVec.ofInt 64 (a : Int)).toNat = a := by
 have e62 : (2 : Nat) ^ 62 = 4611686018427387904 := by decide
 have e64 : (2 : Nat) ^ 64 = 18446744073709551616 := by decide
 rw [BitVec.toNat_ofInt, Int.emod_eq_of_lt (by omega) (by omega)]; rfl
theorem zBp {a b : Nat} (ha : a < 2 ^ 62) (hb : b < 2 ^ 62) : bits .and .i64 (a : Int) (b : Int) = ((a &&& b : Nat) : Int) := by
 have e62 : (2 : Nat) ^ 62 = 4611686018427387904 := by decide
 show IntKind.i64.wrap ((BitVec.ofInt 64 (a : Int) &&& BitVec.ofInt 64 (b : Int)).toNat : Int) = _
 rw [BitVec.toNat_and, zIp a ha, zIp b hb]; have := Nat.and_lt_two_pow a hb
 exact zRa (by omega) (by omega)
theorem zBs {a b : Nat} (ha : a < 2 ^ 62) (hb : b < 2 ^ 62) : bits .or .i64 (a : Int) (b : Int) = ((a ||| b : Nat) : Int) := by
 have e62 : (2 : Nat) ^ 62 = 4611686018427387904 := by decide
 show IntKind.i64.wrap ((BitVec.ofInt 64 (a : Int) ||| BitVec.ofInt 64 (b : Int)).toNat : Int) = _
 rw [BitVec.toNat_or, zIp a ha, zIp b hb]; have := Nat.or_lt_two_pow ha hb
 exact zRa (by omega) (by omega)
theorem zBt {a b : Nat} (ha : a < 2 ^ 62) (hb : b < 2 ^ 62) : bits .xor .i64 (a : Int) (b : Int) = ((a ^^^ b : Nat) : Int) := by
 have e62 : (2 : Nat) ^ 62 = 4611686018427387904 := by decide
 show IntKind.i64.wrap ((BitVec.ofInt 64 (a : Int) ^^^ BitVec.ofInt 64 (b : Int)).toNat : Int) = _
 rw [BitVec.toNat_xor, zIp a ha, zIp b hb]; have := Nat.xor_lt_two_pow ha hb
 exact zRa (by omega) (by omega)
theorem sgn_div {w a : Nat} (hw : 1 ≤ w) (ha : a < 2 ^ w) : (a : Int) - (a : Int) / (2 : Int) ^ (w - 1) * (2 : Int) ^ w = sgn w a := by
 have h := zPw hw; have e1 : (2 : Int) ^ (w - 1) = ((2 ^ (w - 1) : Nat) : Int) := by simp
 have e2 : (2 : Int) ^ w = ((2 ^ w : Nat) : Int) := by simp
 rw [e1, e2]; unfold sgn; have hp := Nat.two_pow_pos (w - 1); split
 · rename_i h1
   rw [Int.ediv_eq_zero_of_lt (by omega) (by omega)]; omega
 · rename_i h1
   have : (a : Int) / ((2 ^ (w - 1) : Nat) : Int) = 1 := by
    rw [Int.ediv_eq_iff_of_pos (by omega)]
    omega
   rw [this]; omega
theorem zBj (b : Bool) (W : World) : Calls Tryz.prog 171 #[.bool b] W fun e w' => e = .returned (.int .i64 (b.toNat : Int)) ∧ W = w' := by
 cases b <;>
 · go_enter Tryz.func171, Tryz.ntmps171
   go_wp2_with fail
   go_ret
   exact ⟨rfl, rfl⟩
theorem zN8 (w a : Nat) (hw : 1 ≤ w ∧ w ≤ 16) (ha : a < 2 ^ w) (W : World) : Calls Tryz.prog 198 #[.int .i64 (w : Int), .int .i64 (a : Int)] W fun e w' => e = .returned (.int .i64 (sgn w a)) ∧ W = w' := by
 have hs := sgn_div hw.1 ha; have hb := zN5 hw.1 ha; have h16 := zKc hw.2; have h2 := zPw hw.1; have e1 : IntKind.i64.wrap ((w : Int) - 1) = ((w - 1 : Nat) : Int) := by rw [zRa (by omega) (by omega)]; omega
 have t1 : (0 : Int) ≤ ((w - 1 : Nat) : Int) := by omega
 have t2 : ((w - 1 : Nat) : Int) ≤ 64 := by omega
 have t3 : (0 : Int) ≤ (w : Int) := by omega
 have t4 : (w : Int) ≤ 64 := by omega
 have t5 : ((w - 1 : Nat) : Int).toNat = w - 1 := rfl
 have e2 : IntKind.i64.wrap ((a : Int) / (2 : Int) ^ (w - 1) * (2 : Int) ^ w) = (a : Int) - sgn w a := by
  rw [show (a : Int) / (2 : Int) ^ (w - 1) * (2 : Int) ^ w = (a : Int) - sgn w a by omega]
  exact zRa (by omega) (by omega)
 have e3 : IntKind.i64.wrap ((a : Int) - ((a : Int) - sgn w a)) = sgn w a := by
  rw [show (a : Int) - ((a : Int) - sgn w a) = sgn w a by omega]
  exact zRa (by omega) (by omega)
 generalize sgn w a = S at *; obtain ⟨u, hu⟩ : ∃ u, w - 1 = u := ⟨_, rfl⟩
 rw [hu] at e1 e2 t1 t2 t5; clear hs hb h16 h2 hu
 go_enter Tryz.func198, Tryz.ntmps198
 go_wp2_with fail
 go_ret
 exact ⟨rfl, rfl⟩
def swar (x : Nat) : Nat :=
 let a := (x / 2 &&& 6148914691236517205) + (x &&& 6148914691236517205)
 let b := (a / 4 &&& 3689348814741910323) + (a &&& 3689348814741910323)
 let c := (b / 16 + b) &&& 1085102592571150095
 let d := c + c / 256
 let e := d + d / 65536
 let f := e + e / 4294967296
 f &&& 127
def swarB (c : Nat) : Nat := Nat.land (Nat.add (Nat.div c 16) c) 1085102592571150095
def swarA (a : Nat) : Nat := Nat.add (Nat.land (Nat.div a 4) 3689348814741910323) (Nat.land a 3689348814741910323)
def swar0 (x : Nat) : Nat := Nat.add (Nat.land (Nat.div x 2) 6148914691236517205) (Nat.land x 6148914691236517205)
def swarD (k x : Nat) : Nat := Nat.add x (Nat.div x k)
def zOn : Nat → Nat → Nat → Bool
 | 0, x, c => Nat.beq (Nat.land (swarD 4294967296 (swarD 65536 (swarD 256 (swarB (swarA (swar0 x)))))) 127) c
 | d + 1, x, c => Bool.and (zOn d (Nat.mul 2 x) c) (zOn d (Nat.add (Nat.mul 2 x) 1) (Nat.add c 1))
theorem zOp : zOn 16 0 0 = true := by decide +kernel
def popd : Nat → Nat → Nat
 | 0, _ => 0
 | d + 1, y => popd d y + y / 2 ^ d % 2
theorem zKa (d y : Nat) : popd d y = pop d y := by
 induction d with
 | zero => rfl
 | succ d ih => simp only [popd, pop, ih]; rfl
theorem zOo : ∀ (d x c y : Nat), zOn d x c = true → y / 2 ^ d = x → swar y = c + popd d y
 | 0, x, c, y, h, e => by
  have h' := Nat.eq_of_beq_eq_true h; rw [Nat.pow_zero, Nat.div_one] at e; subst e; exact h'
 | d + 1, x, c, y, h, e => by
  have h' : zOn d (2 * x) c = true ∧ zOn d (2 * x + 1) (c + 1) = true := by
   have h'' : (zOn d (2 * x) c && zOn d (2 * x + 1) (c + 1)) = true := h; simpa using h''
  have e' : y / 2 ^ d / 2 = x := by rw [Nat.div_div_eq_div_mul, ← Nat.pow_succ]; exact e
  simp only [popd]
  rcases Nat.mod_two_eq_zero_or_one (y / 2 ^ d) with hm | hm
  · rw [zOo d _ _ y h'.1 (by omega), hm]; rfl
  · rw [zOo d _ _ y h'.2 (by omega), hm]; omega
theorem zOq {a : Nat} (ha : a < 65536) : swar a = pop 16 a := by
 rw [zOo 16 0 0 a zOp (by rw [Nat.div_eq_of_lt ha]), zKa, Nat.zero_add]
theorem andu {x c : Nat} (hx : x < 2 ^ 63) (hc : c < 2 ^ 63) : bits .and .u64 (x : Int) (c : Int) = ((x &&& c : Nat) : Int) := by
 have e63 : (2 : Nat) ^ 63 = 9223372036854775808 := by decide
 have e64 : (2 : Nat) ^ 64 = 18446744073709551616 := by decide
 show IntKind.u64.wrap ((BitVec.ofInt 64 (x : Int) &&& BitVec.ofInt 64 (c : Int)).toNat : Int) = _
 have h : ∀ a : Nat, a < 2 ^ 63 → (BitVec.ofInt 64 (a : Int)).toNat = a := fun a ha => by
  rw [BitVec.toNat_ofInt, Int.emod_eq_of_lt (by omega) (by omega)]; rfl
 rw [BitVec.toNat_and, h x hx, h c hc]; have := Nat.and_lt_two_pow x hc
 show ((x &&& c : Nat) : Int) % 2 ^ 64 = _
 rw [Int.emod_eq_of_lt (by omega) (by omega)]
theorem addu {x y : Nat} (hx : x < 2 ^ 63) (hy : y < 2 ^ 63) : IntKind.u64.wrap ((x : Int) + (y : Int)) = ((x + y : Nat) : Int) := by
 have e63 : (2 : Nat) ^ 63 = 9223372036854775808 := by decide
 show ((x : Int) + (y : Int)) % 2 ^ 64 = _
 rw [Int.emod_eq_of_lt (by omega) (by omega)]; rfl
theorem zIy (a : Nat) (ha : a < 65536) (W : World) : Calls Tryz.prog 208 #[.int .u64 (a : Int)] W fun e w' => e = .returned (.int .i64 (pop 16 a : Int)) ∧ W = w' := by
 have e63 : (2 : Nat) ^ 63 = 9223372036854775808 := by decide
 obtain ⟨p1, q1⟩ : ∃ p, p = a / 2 &&& 6148914691236517205 := ⟨_, rfl⟩
 obtain ⟨p2, q2⟩ : ∃ p, p = a &&& 6148914691236517205 := ⟨_, rfl⟩
 have b1 : p1 ≤ a / 2 := q1 ▸ Nat.and_le_left; have b2 : p2 ≤ a := q2 ▸ Nat.and_le_left; obtain ⟨x1, q3⟩ : ∃ p, p = p1 + p2 := ⟨_, rfl⟩
 obtain ⟨p3, q4⟩ : ∃ p, p = x1 / 4 &&& 3689348814741910323 := ⟨_, rfl⟩
 obtain ⟨p4, q5⟩ : ∃ p, p = x1 &&& 3689348814741910323 := ⟨_, rfl⟩
 have b3 : p3 ≤ x1 / 4 := q4 ▸ Nat.and_le_left; have b4 : p4 ≤ x1 := q5 ▸ Nat.and_le_left; obtain ⟨x2, q6⟩ : ∃ p, p = p3 + p4 := ⟨_, rfl⟩
 obtain ⟨x3, q7⟩ : ∃ p, p = x2 / 16 + x2 := ⟨_, rfl⟩
 obtain ⟨x4, q8⟩ : ∃ p, p = x3 &&& 1085102592571150095 := ⟨_, rfl⟩
 have b5 : x4 ≤ x3 := q8 ▸ Nat.and_le_left; obtain ⟨x5, q9⟩ : ∃ p, p = x4 + x4 / 256 := ⟨_, rfl⟩
 obtain ⟨x6, q10⟩ : ∃ p, p = x5 + x5 / 65536 := ⟨_, rfl⟩
 obtain ⟨x7, q11⟩ : ∃ p, p = x6 + x6 / 4294967296 := ⟨_, rfl⟩
 have k : swar a = x7 &&& 127 := by rw [q11, q10, q9, q8, q7, q6, q5, q4, q3, q2, q1]; rfl
 have hb7 : x7 < 2 ^ 62 := by rw [show (2 : Nat) ^ 62 = 4611686018427387904 by decide]; omega
 have k' := (zOq ha).symm.trans k; have f1 : bits .and .u64 ((a : Int) / 2) 6148914691236517205 = (p1 : Int) := by rw [q1]; exact andu (x := a / 2) (c := 6148914691236517205) (by omega) (by omega)
 have f2 : bits .and .u64 (a : Int) 6148914691236517205 = (p2 : Int) := by rw [q2]; exact andu (x := a) (c := 6148914691236517205) (by omega) (by omega)
 have f3 : IntKind.u64.wrap ((p1 : Int) + (p2 : Int)) = (x1 : Int) := by rw [q3]; exact addu (by omega) (by omega)
 have f4 : bits .and .u64 ((x1 : Int) / 4) 3689348814741910323 = (p3 : Int) := by rw [q4]; exact andu (x := x1 / 4) (c := 3689348814741910323) (by omega) (by omega)
 have f5 : bits .and .u64 (x1 : Int) 3689348814741910323 = (p4 : Int) := by rw [q5]; exact andu (x := x1) (c := 3689348814741910323) (by omega) (by omega)
 have f6 : IntKind.u64.wrap ((p3 : Int) + (p4 : Int)) = (x2 : Int) := by rw [q6]; exact addu (by omega) (by omega)
 have f7 : IntKind.u64.wrap ((x2 : Int) / 16 + (x2 : Int)) = (x3 : Int) := by rw [q7]; exact addu (x := x2 / 16) (by omega) (by omega)
 have f8 : bits .and .u64 (x3 : Int) 1085102592571150095 = (x4 : Int) := by rw [q8]; exact andu (x := x3) (c := 1085102592571150095) (by omega) (by omega)
 have f9 : IntKind.u64.wrap ((x4 : Int) + (x4 : Int) / 256) = (x5 : Int) := by rw [q9]; exact addu (y := x4 / 256) (by omega) (by omega)
 have f10 : IntKind.u64.wrap ((x5 : Int) + (x5 : Int) / 65536) = (x6 : Int) := by rw [q10]; exact addu (y := x5 / 65536) (by omega) (by omega)
 have f11 : IntKind.u64.wrap ((x6 : Int) + (x6 : Int) / 4294967296) = (x7 : Int) := by rw [q11]; exact addu (y := x6 / 4294967296) (by omega) (by omega)
 have f12 : IntKind.i64.wrap (x7 : Int) = (x7 : Int) := zRa (by omega) (by omega)
 have f13 : bits .and .i64 (x7 : Int) 127 = (pop 16 a : Int) := by rw [k']; exact zBp (a := x7) (b := 127) hb7 (by decide)
 clear k k' q1 q2 q3 q4 q5 q6 q7 q8 q9 q10 q11 b1 b2 b3 b4 b5 ha e63 hb7
 go_enter Tryz.func208, Tryz.ntmps208
 go_wp2_with fail
 go_ret
 exact ⟨rfl, rfl⟩
theorem ones_is (a : Nat) (ha : a < 65536) (W : World) : Calls Tryz.prog 199 #[.int .u64 (a : Int)] W fun e w' => e = .returned (.int .i64 (pop 16 a : Int)) ∧ W = w' := by
 have T := Kh (zIy a ha)
 go_enter Tryz.func199, Tryz.ntmps199
 go_wp2_with (go_at_call 208; refine (T.out _).mono ?_; rintro e w1 ⟨rfl, rfl⟩)
 go_ret
 exact ⟨rfl, rfl⟩
end Go.Proofs.YtmolbnghobfmoaaGreat
