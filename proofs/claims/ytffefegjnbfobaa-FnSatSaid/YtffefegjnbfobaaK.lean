/- The numbers of a set, walked: (Bdd).codes; How many numbers: words. -/
import Derived.Test.YtffefegjnbfobaaL0
namespace Go.Proofs.Ytffefegjnbfobaa
open Go.RowKit
open B

def codesF (h : Nat → Bool) (n : Nat) : List Int := ((List.range n).filter h).map fun (c : Nat) => (c : Int)
theorem codesF_zero (h : Nat → Bool) : codesF h 0 = [] := rfl
theorem codesF_yes {h : Nat → Bool} {n : Nat} (e : h n = true) : codesF h (n + 1) = codesF h n ++ [(n : Int)] := by
  simp [codesF, List.range_succ, e]
theorem codesF_no {h : Nat → Bool} {n : Nat} (e : h n = false) : codesF h (n + 1) = codesF h n := by
  simp [codesF, List.range_succ, e]
theorem codesF_len (h : Nat → Bool) (n : Nat) : (codesF h n).length ≤ n := by
  unfold codesF
  rw [List.length_map]
  exact Nat.le_trans (List.length_filter_le _ _) (by simp)


set_option maxRecDepth 100000 in
set_option maxHeartbeats 400000 in
theorem codes_any (k : Nat) (hk : k ≤ 13) (R : Int) (A : Option Addr) (cap : Nat) (ns : List Nd) (w : World) (hA : NAt w A ns) (hn : ns.length ≤ 1048576) (hf : Fm k ns) (hR : isP ns R) :
    Calls Try.prog 68 #[.agg #[.int .i64 k, .slice A ns.length cap, .int .i64 R]] w fun e w' => ∃ A' c', e = .returned (.slice A' (codesF (has ns R) (2 ^ k)).length c') ∧ w'.ownsRow (w.heap.size + 1) 3 1 (.slice A' (codesF (has ns R) (2 ^ k)).length c') (codesF (has ns R) (2 ^ k)).length ((codesF (has ns R) (2 ^ k)).map (.int .i64)) ∧ Below w.heap.size w w' := by
  obtain ⟨N, hN⟩ : ∃ N, N = 2 ^ k := ⟨_, rfl⟩
  have hN' : N ≤ 8192 := by rw [hN]; exact Nat.pow_le_pow_right (by omega) hk
  have e1 : wrap64 (2 ^ k) = (N : Int) := by
    have : ((2 : Int) ^ k) = ((2 ^ k : Nat) : Int) := by simp
    rw [this, ← hN]; unfold wrap64; omega
  rw [← hN]
  have HNK := Lib.hid hN
  have HA := Lib.hid hA
  have HF := Lib.hid hf
  have HRR := Lib.hid hR
  clear hA hf hR hN
  go_enter Try.func68, Try.ntmps68
  go_wp2_with fail
  rw [e1]
  clear e1
  go_loopw [3, 8] (fun o j wr => ∃ (i : Nat) (A' : Option Addr) (c' : Nat), i ≤ N ∧ o = .slice A' (codesF (has ns R) i).length c' ∧ Hid (wr.ownsRow (w.heap.size + 1) 3 1 (.slice A' (codesF (has ns R) i).length c') (codesF (has ns R) i).length ((codesF (has ns R) i).map (.int .i64))) ∧ Below w.heap.size w wr ∧ Hid (Blk wr w.heap.size 28 #[.int .i64 k, .slice A ns.length cap, .int .i64 R]) ∧ j = .int .i64 i) (fun _ j _ => N - (intOf j).toNat)
  case atStart => exact ⟨0, none, 0, Nat.zero_le _, rfl, World.ownsRow_nil _ _ _ _, (Below.refl _ _).alloc (Nat.le_refl _) _, Blk.new _ _ _, rfl⟩
  case round =>
    obtain ⟨i, A', c', hi, rfl, ho, hbw, hbx, rfl⟩ := hrel
    by_cases hlt : i < N
    case neg =>
      obtain rfl : i = N := by omega
      go_wp2_with fail
      go_ret
      exact ⟨A', c', rfl, ho.out, hbw⟩
    have hlen := codesF_len (has ns R) i
    have hlt' : (i : Int) < (N : Int) := by omega
    have e1 : IntKind.i64.wrap ((i : Int) + 1) = (i : Int) + 1 := wrap_eq (by omega) (by omega)
    obtain ⟨x0, x1, x2⟩ : wr.cell? ⟨w.heap.size, 0, none⟩ = some (.int .i64 k) ∧ wr.cell? ⟨w.heap.size, 1, none⟩ = some (.slice A ns.length cap) ∧ wr.cell? ⟨w.heap.size, 2, none⟩ = some (.int .i64 R) := by
      rw [hbx.out.cell, hbx.out.cell, hbx.out.cell]; exact ⟨rfl, rfl, rfl⟩
    cases hh : has ns R i with
    | false =>
      have Hnx := Lib.hid (codesF_no hh)
      have HH := Lib.hid hh
      clear hh
      generalize hl : codesF (has ns R) i = l at *
      go_wp2_with (go_at_call 70; refine (has_any k R A cap k ns i _ (by exact HA.out.below hbw) HF.out hk HRR.out (by omega) hn).mono ?_; rw [HH.out]; rintro e w1 ⟨rfl, hb1⟩)
      go_roundw
      case rel => exact ⟨i + 1, A', c', by omega, by rw [Hnx.out], by rw [Hnx.out]; exact own_below ho.out hb1, hbw.trans (hb1.mono hbw.size), hbx.out.below hb1 hbx.out.lt, by go_num⟩
      case measure => simp [intOf]; omega
    | true =>
      have Hnx := Lib.hid (codesF_yes hh)
      have HH := Lib.hid hh
      clear hh
      generalize hl : codesF (has ns R) i = l at *
      obtain ⟨i3, hi3, hz0, hz1, hz2⟩ := info_parts info3
      have Hi := Lib.hid hi3
      have Hz0 := Lib.hid hz0
      have Hz1 := Lib.hid hz1
      have Hz2 := Lib.hid hz2
      clear hi3 hz0 hz1 hz2
      go_wp2_with (first
        | (go_at_call 70; refine (has_any k R A cap k ns i _ (by exact HA.out.below hbw) HF.out hk HRR.out (by omega) hn).mono ?_; rw [HH.out]; rintro e w1 ⟨rfl, hb1⟩)
        | (at_builtin; refine wpList_append_src rfl _ _ 23 rfl (w.heap.size + 1) 3 i3 (.int .i64 0) 1 8 Try.underlying23 Hi.out Hz0.out Hz1.out Hz2.out rfl (by decide) _ l.length (l.map (.int .i64)) rfl (by exact (own_below ho.out hb1).alloc _) (some ⟨w1.heap.size, 0, none⟩) 1 1 [.int .i64 i] rfl (by exact .inr ⟨_, rfl, Blk.news (Blk.new_at _ 3 #[.int .i64 i] rfl)⟩) rfl (by simp [Value.oneCell']) (by unfold maxLen; omega) (by omega) (by have := hb1.size; have := hbw.size; have := hbx.out.lt; simp; omega) ?_; intro A3 c3 w3 ho3 hg3 hor3))
      go_roundw
      case rel =>
        have hlow : ∀ q, q < w.heap.size + 1 → some q ≠ (Value.slice A' l.length c').ownBlock := fun q hq => own_low ho.out hq
        have hsz1 := hb1.size
        have hszr := hbw.size
        refine ⟨i + 1, A3, c3, by omega, by rw [Hnx.out]; simp, ?_, ?_, ?_, by go_num⟩
        · show w3.ownsRow _ _ _ _ _ _
          rw [Hnx.out]
          simpa using ho3
        · refine ((hbw.trans (hb1.mono hbw.size)).alloc (by omega) _).grown hg3 (by simp; omega) fun q hq => ?_
          rcases Nat.lt_or_ge q w.heap.size with h | h
          · exact (hlow q (by omega) hq.symm).elim
          · exact h
        · exact ((hbx.out.below hb1 hbx.out.lt).alloc _).grown hg3 (hlow _ (by omega))
      case measure => simp [intOf]; omega

end Go.Proofs.Ytffefegjnbfobaa
namespace Go.Proofs.Ytffefegjnbfobaa
open Go.RowKit
open B

/-- How many numbers a set has, where it is ok. -/
def Cnt (p : Prop) (V R : Int) (ns : List Nd) (e : Ending) : Prop := (p ∧ e = .returned (.int .i64 ((codesF (has ns R) (2 ^ V.toNat)).length : Int))) ∨ (¬ p ∧ e = .returned (.int .i64 0))

theorem Cnt.is {p : Prop} {V R : Int} {ns : List Nd} {e : Ending} (h : Cnt p V R ns e) : ∃ x : Int, e = .returned (.int .i64 x) ∧ Hid (Cnt p V R ns (.returned (.int .i64 x))) := by
  rcases h with ⟨hp, rfl⟩ | ⟨hp, rfl⟩
  · exact ⟨_, rfl, .inl ⟨hp, rfl⟩⟩
  · exact ⟨_, rfl, .inr ⟨hp, rfl⟩⟩
theorem Cnt.same {p q : Prop} {V R : Int} {ns : List Nd} {e : Ending} {x : Int} (h : Cnt p V R ns e) (hb : Cnt q V R ns (.returned (.int .i64 x))) (hpq : p ↔ q) : e = .returned (.int .i64 x) := by
  rcases h with ⟨hp, rfl⟩ | ⟨hp, rfl⟩ <;> rcases hb with ⟨hq, e⟩ | ⟨hq, e⟩
  · exact e.symm
  · exact (hq (hpq.1 hp)).elim
  · exact (hp (hpq.2 hq)).elim
  · exact e.symm

end Go.Proofs.Ytffefegjnbfobaa
