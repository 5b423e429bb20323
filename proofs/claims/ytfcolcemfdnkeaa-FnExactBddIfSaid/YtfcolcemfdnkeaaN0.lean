/- spec.BddCount, walked. -/
import Derived.Test.YtfcolcemfdnkeaaK
namespace Go.Proofs.Ytfcolcemfdnkeaa
open Go.RowKit
open B

/-- How many numbers a set has, where it is ok. -/
def Cnt (p : Prop) (V R : Int) (ns : List Nd) (e : Ending) : Prop := (p ∧ e = .returned (.int .i64 ((codesF (has ns R) (2 ^ V.toNat)).length : Int))) ∨ (¬ p ∧ e = .returned (.int .i64 0))

theorem Cnt.is {p : Prop} {V R : Int} {ns : List Nd} {e : Ending} (h : Cnt p V R ns e) : ∃ x : Int, e = .returned (.int .i64 x) ∧ Hid (Cnt p V R ns (.returned (.int .i64 x))) := by
  rcases h with ⟨hp, rfl⟩ | ⟨hp, rfl⟩
  · exact ⟨_, rfl, .inl ⟨hp, rfl⟩⟩
  · exact ⟨_, rfl, .inr ⟨hp, rfl⟩⟩
theorem Cnt.same {p q : Prop} {V R : Int} {ns : List Nd} {e : Ending} {x : Int} (h : Cnt p V R ns e) (hb : Cnt q V R ns (.returned (.int .i64 x))) (hpq : p ↔ q) : e = .returned (.int .i64 x) := by
  rcases h with ⟨hp, rfl⟩ | ⟨hp, rfl⟩ <;> rcases hb with ⟨hq, e⟩ | ⟨hq, e⟩
  · exact e.symm
  · exact (hq (hpq.1 hp)).elim
  · exact (hp (hpq.2 hq)).elim
  · exact e.symm

theorem yes_is (b : Bool) (w : World) : Calls Try.prog 49 #[.bool b] w fun e w' => e = .returned (.int .i64 (if b then 1 else 0)) ∧ w = w' := by
  cases b
  · go_enter Try.func49, Try.ntmps49
    go_wp2
    go_ret
    exact ⟨rfl, rfl⟩
  · go_enter Try.func49, Try.ntmps49
    go_wp2
    go_ret
    exact ⟨rfl, rfl⟩

set_option maxRecDepth 100000 in
set_option maxHeartbeats 400000 in
theorem specCount_any (V R : Int) (A : Option Addr) (cap : Nat) (ns : List Nd) (w : World) (hA : NAt w A ns) (hn : ns.length ≤ 1048576) :
    Calls Try.prog 36 #[.agg #[.int .i64 V, .slice A ns.length cap, .int .i64 R]] w fun e w' => Cnt (OkS V ns R) V R ns e ∧ Below w.heap.size w w' := by
  have HA := Lib.hid hA
  clear hA
  by_cases hok : OkS V ns R
  case neg =>
    have HOK := Lib.hid hok
    clear hok
    go_enter Try.func36, Try.ntmps36
    go_wp2_with (go_at_call 37; refine (specOk_any V R A cap ns _ (by exact HA.out.below ((Below.refl w.heap.size w).alloc (Nat.le_refl _) _)) hn).mono ?_; rintro e w1 ⟨hs, hb1⟩; obtain rfl := hs.f HOK.out; clear hs)
    go_ret
    exact ⟨.inr ⟨HOK.out, rfl⟩, ((Below.refl w.heap.size w).alloc (Nat.le_refl _) _).trans (hb1.mono (by simp))⟩
  have HOK := Lib.hid hok
  obtain ⟨k, rfl⟩ := Int.eq_ofNat_of_zero_le hok.1.v0
  have hk : k ≤ 13 := by have := hok.1.v1; omega
  have HFM : Hid (Fm k ns) := by have := hok.1.fm; simpa [Hid] using this
  clear hok
  obtain ⟨N, hN⟩ : ∃ N, N = 2 ^ k := ⟨_, rfl⟩
  have hN' : N ≤ 8192 := by rw [hN]; exact Nat.pow_le_pow_right (by omega) hk
  have hNI : ((2 : Int) ^ k) = (N : Int) := by rw [hN]; simp
  have HNK := Lib.hid hN
  clear hN
  have e1 : wrap64 (2 ^ k) = (N : Int) := by
    rw [hNI]; unfold wrap64; omega
  go_enter Try.func36, Try.ntmps36
  go_wp2_with (go_at_call 37; refine (specOk_any k R A cap ns _ (by exact HA.out.below ((Below.refl w.heap.size w).alloc (Nat.le_refl _) _)) hn).mono ?_; rintro e w1 ⟨hs, hb1⟩; obtain rfl := hs.t HOK.out; have BX := Lib.hid ((Blk.new w 31 #[.int .i64 k, .slice A ns.length cap, .int .i64 R]).below hb1 (by simp)); have hbw1 : Below w.heap.size w w1 := ((Below.refl w.heap.size w).alloc (Nat.le_refl _) _).trans (hb1.mono (by simp)); clear hs)
  have HN1 := Lib.hid e1
  clear e1 hNI
  go_loopw [3, 4] (fun c j wr => ∃ i : Nat, i ≤ N ∧ c = .int .i64 ((codesF (has ns R) i).length : Int) ∧ Below w.heap.size w wr ∧ Hid (Blk wr w.heap.size 31 #[.int .i64 k, .slice A ns.length cap, .int .i64 R]) ∧ j = .int .i64 i) (fun _ j _ => N - (intOf j).toNat)
  case atStart => exact ⟨0, Nat.zero_le _, rfl, hbw1, BX, rfl⟩
  case round =>
    obtain ⟨i, hi, rfl, hbw, hbx, rfl⟩ := hrel
    have hlen := codesF_len (has ns R) i
    obtain ⟨x0, x1, x2⟩ := hbx.out.three
    have e1 := HN1.out
    by_cases hlt : i < N
    case neg =>
      obtain rfl : i = N := by omega
      have hlt' : ¬ (i : Int) < (i : Int) := by omega
      go_wp2_with fail
      go_ret
      exact ⟨.inl ⟨HOK.out, by have := HNK.out; simp [this]⟩, hbw⟩
    have hlt' : (i : Int) < (N : Int) := by omega
    have e2 : IntKind.i64.wrap ((i : Int) + 1) = (i : Int) + 1 := wrap_eq (by omega) (by omega)
    cases hh : has ns R i with
    | false =>
      have Hnx := Lib.hid (congrArg List.length (codesF_no hh))
      have HH := Lib.hid hh
      clear hh
      generalize (codesF (has ns R) i).length = m at *
      go_wp2_with (first
        | (go_at_call 38; refine (l7Has_any k R A cap k ns i _ (by exact HA.out.below hbw) HFM.out hk HOK.out.1.root hn).mono ?_; rw [HH.out]; rintro e w2 ⟨rfl, hb2⟩)
        | (go_at_call 49; refine (yes_is false _).mono ?_; rintro e w3 ⟨rfl, rfl⟩))
      go_roundw
      case rel => exact ⟨i + 1, by omega, by rw [Hnx.out], hbw.trans (hb2.mono hbw.size), hbx.out.below hb2 hbx.out.lt, by go_num⟩
      case measure => simp [intOf]; omega
    | true =>
      have Hnx := Lib.hid (congrArg List.length (codesF_yes hh))
      have HH := Lib.hid hh
      clear hh
      generalize hml : (codesF (has ns R) i).length = m at *
      have hlm : m ≤ 8192 := by omega
      have e3 : IntKind.i64.wrap ((m : Int) + 1) = (m : Int) + 1 := wrap_eq (by omega) (by omega)
      go_wp2_with (first
        | (go_at_call 38; refine (l7Has_any k R A cap k ns i _ (by exact HA.out.below hbw) HFM.out hk HOK.out.1.root hn).mono ?_; rw [HH.out]; rintro e w2 ⟨rfl, hb2⟩)
        | (go_at_call 49; refine (yes_is true _).mono ?_; rintro e w3 ⟨rfl, rfl⟩))
      go_roundw
      case rel => exact ⟨i + 1, by omega, by rw [Hnx.out, List.length_append, hml]; simp, hbw.trans (hb2.mono hbw.size), hbx.out.below hb2 hbx.out.lt, by go_num⟩
      case measure => simp [intOf]; omega
end Go.Proofs.Ytfcolcemfdnkeaa
