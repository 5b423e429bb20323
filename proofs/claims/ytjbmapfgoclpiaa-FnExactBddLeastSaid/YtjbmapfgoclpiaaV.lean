/- BddEval, spec and impl, walked. -/
import Derived.Test.YtjbmapfgoclpiaaS3
import Derived.Test.YtjbmapfgoclpiaaF
namespace Go.Proofs.Ytjbmapfgoclpiaa
open Go.RowKit
open B

theorem Says.t {p : Prop} {e : Ending} (h : Says p e) (hp : p) : e = .returned (.bool true) := by
  rcases h with ⟨rfl, _⟩ | ⟨rfl, h⟩
  · rfl
  · exact (h hp).elim
theorem Says.f {p : Prop} {e : Ending} (h : Says p e) (hp : ¬ p) : e = .returned (.bool false) := by
  rcases h with ⟨rfl, h⟩ | ⟨rfl, _⟩
  · exact (hp h).elim
  · rfl
theorem pow_le (k : Nat) (hk : k ≤ 13) : 1 ≤ (2 : Int) ^ k ∧ (2 : Int) ^ k ≤ 8192 := by
  have h1 : 1 ≤ 2 ^ k := Nat.one_le_two_pow
  have h2 : 2 ^ k ≤ 2 ^ 13 := Nat.pow_le_pow_right (by omega) hk
  have e : ((2 ^ k : Nat) : Int) = (2 : Int) ^ k := by simp
  omega
theorem last_is (k : Nat) (hk : k ≤ 13) : wrap64 (wrap64 ((2 : Int) ^ k) - 1) = 2 ^ k - 1 := by
  have := pow_le k hk
  generalize (2 : Int) ^ k = N at *
  unfold wrap64
  omega

set_option maxRecDepth 100000 in
set_option maxHeartbeats 400000 in
theorem specEval_any (V R c : Int) (A : Option Addr) (cap : Nat) (ns : List Nd) (w : World) (hA : NAt w A ns) (hn : ns.length ≤ 1048576) :
    Calls Try.prog 13 #[.agg #[.int .i64 V, .slice A ns.length cap, .int .i64 R], .int .i64 c] w fun e w' => Says (OkS V ns R ∧ (0 ≤ c ∧ c ≤ 2 ^ V.toNat - 1) ∧ has ns R c.toNat = true) e ∧ Below w.heap.size w w' := by
  have HA := Lib.hid hA
  clear hA
  by_cases hok : OkS V ns R
  case neg =>
    have HOK := Lib.hid hok
    clear hok
    go_enter Try.func13, Try.ntmps13
    go_wp2_with (go_at_call 9; refine (specOk_any V R A cap ns _ (by exact HA.out.below ((Below.refl w.heap.size w).alloc (Nat.le_refl _) _)) hn).mono ?_; rintro e w1 ⟨hs, hb1⟩; obtain rfl := hs.f HOK.out; clear hs)
    go_ret
    exact ⟨.no fun h => HOK.out h.1, ((Below.refl w.heap.size w).alloc (Nat.le_refl _) _).trans (hb1.mono (by simp))⟩
  have HOK := Lib.hid hok
  obtain ⟨k, rfl⟩ := Int.eq_ofNat_of_zero_le hok.1.v0
  have hk : k ≤ 13 := by have := hok.1.v1; omega
  clear hok
  by_cases hc : 0 ≤ c ∧ c ≤ 2 ^ k - 1
  case neg =>
    have hd : decide (0 ≤ c ∧ c ≤ 2 ^ k - 1) = false := by simpa using hc
    have HC := Lib.hid hc
    clear hc
    go_enter Try.func13, Try.ntmps13
    go_wp2_with (first
      | (go_at_call 9; refine (specOk_any k R A cap ns _ (by exact HA.out.below ((Below.refl w.heap.size w).alloc (Nat.le_refl _) _)) hn).mono ?_; rintro e w1 ⟨hs, hb1⟩; obtain rfl := hs.t HOK.out; have BX := Lib.hid ((Blk.new w 29 #[.int .i64 k, .slice A ns.length cap, .int .i64 R]).below hb1 (by simp)); have x0 := BX.out.cell 0; have x1 := BX.out.cell 1; have x2 := BX.out.cell 2; simp only [List.getElem?_toArray, List.getElem?_cons_zero, List.getElem?_cons_succ] at x0 x1 x2; clear hs)
      | (go_at_call 23; rw [last_is k hk]; refine (l1In_is _ _ _ false hd _).mono ?_; rintro e w2 ⟨rfl, rfl⟩))
    go_ret
    exact ⟨.no fun h => HC.out (by simpa using h.2.1), ((Below.refl w.heap.size w).alloc (Nat.le_refl _) _).trans (hb1.mono (by simp))⟩
  have hd : decide (0 ≤ c ∧ c ≤ 2 ^ k - 1) = true := by simpa using hc
  have HC := Lib.hid hc
  obtain ⟨m, rfl⟩ := Int.eq_ofNat_of_zero_le hc.1
  have hm : m < 9223372036854775808 := by have := hc.2; have := pow_le k hk; omega
  clear hc
  go_enter Try.func13, Try.ntmps13
  go_wp2_with (first
    | (go_at_call 9; refine (specOk_any k R A cap ns _ (by exact HA.out.below ((Below.refl w.heap.size w).alloc (Nat.le_refl _) _)) hn).mono ?_; rintro e w1 ⟨hs, hb1⟩; obtain rfl := hs.t HOK.out; have BX := Lib.hid ((Blk.new w 29 #[.int .i64 k, .slice A ns.length cap, .int .i64 R]).below hb1 (by simp)); have x0 := BX.out.cell 0; have x1 := BX.out.cell 1; have x2 := BX.out.cell 2; simp only [List.getElem?_toArray, List.getElem?_cons_zero, List.getElem?_cons_succ] at x0 x1 x2; clear hs)
    | (go_at_call 23; rw [last_is k hk]; refine (l1In_is _ _ _ true hd _).mono ?_; rintro e w2 ⟨rfl, rfl⟩)
    | (go_at_call 32; refine (l7Has_any k R A cap ((k : Int).toNat) ns m _ (by exact HA.out.below (((Below.refl w.heap.size w).alloc (Nat.le_refl _) _).trans (hb1.mono (by simp)))) HOK.out.1.fm (by simp; omega) HOK.out.1.root hn).mono ?_; rintro e w3 ⟨rfl, hb3⟩))
  go_ret
  exact ⟨.of ⟨fun h => ⟨HOK.out, by simpa using HC.out, by simpa using h⟩, fun h => by simpa using h.2.2⟩, (((((Below.refl w.heap.size w).alloc (Nat.le_refl _) _).trans (hb1.mono (by simp))) : Below w.heap.size w w1)).trans (hb3.mono (by have := hb1.size; simp at this; omega))⟩

set_option maxRecDepth 100000 in
set_option maxHeartbeats 400000 in
theorem implEval_any (V R c : Int) (A : Option Addr) (cap : Nat) (ns : List Nd) (w : World) (hA : NAt w A ns) (hn : ns.length ≤ 1048576) :
    Calls Try.prog 14 #[.agg #[.int .i64 V, .slice A ns.length cap, .int .i64 R], .int .i64 c] w fun e w' => Says (OkI V ns R ∧ (0 ≤ c ∧ c ≤ 2 ^ V.toNat - 1) ∧ has ns R c.toNat = true) e ∧ Below w.heap.size w w' := by
  have HA := Lib.hid hA
  clear hA
  by_cases hok : OkI V ns R
  case neg =>
    have HOK := Lib.hid hok
    clear hok
    go_enter Try.func14, Try.ntmps14
    go_wp2_with (go_at_call 11; refine (bddOk_any V R A cap ns _ (by exact HA.out.below ((Below.refl w.heap.size w).alloc (Nat.le_refl _) _)) hn).mono ?_; rintro e w1 ⟨hs, hb1⟩; obtain rfl := hs.f HOK.out; clear hs)
    go_ret
    exact ⟨.no fun h => HOK.out h.1, ((Below.refl w.heap.size w).alloc (Nat.le_refl _) _).trans (hb1.mono (by simp))⟩
  have HOK := Lib.hid hok
  obtain ⟨k, rfl⟩ := Int.eq_ofNat_of_zero_le hok.1.v0
  have hk : k ≤ 13 := by have := hok.1.v1; omega
  clear hok
  by_cases hc : 0 ≤ c ∧ c ≤ 2 ^ k - 1
  case neg =>
    have hd : decide (0 ≤ c ∧ c ≤ 2 ^ k - 1) = false := by simpa using hc
    have HC := Lib.hid hc
    clear hc
    go_enter Try.func14, Try.ntmps14
    go_wp2_with (first
      | (go_at_call 11; refine (bddOk_any k R A cap ns _ (by exact HA.out.below ((Below.refl w.heap.size w).alloc (Nat.le_refl _) _)) hn).mono ?_; rintro e w1 ⟨hs, hb1⟩; obtain rfl := hs.t HOK.out; have BX := Lib.hid ((Blk.new w 29 #[.int .i64 k, .slice A ns.length cap, .int .i64 R]).below hb1 (by simp)); have x0 := BX.out.cell 0; have x1 := BX.out.cell 1; have x2 := BX.out.cell 2; simp only [List.getElem?_toArray, List.getElem?_cons_zero, List.getElem?_cons_succ] at x0 x1 x2; clear hs)
      | (go_at_call 33; rw [last_is k hk]; refine (in_is _ _ _ false hd _).mono ?_; rintro e w2 ⟨rfl, rfl⟩))
    go_ret
    exact ⟨.no fun h => HC.out (by simpa using h.2.1), ((Below.refl w.heap.size w).alloc (Nat.le_refl _) _).trans (hb1.mono (by simp))⟩
  have hd : decide (0 ≤ c ∧ c ≤ 2 ^ k - 1) = true := by simpa using hc
  have HC := Lib.hid hc
  obtain ⟨m, rfl⟩ := Int.eq_ofNat_of_zero_le hc.1
  have hm : m < 9223372036854775808 := by have := hc.2; have := pow_le k hk; omega
  clear hc
  go_enter Try.func14, Try.ntmps14
  go_wp2_with (first
    | (go_at_call 11; refine (bddOk_any k R A cap ns _ (by exact HA.out.below ((Below.refl w.heap.size w).alloc (Nat.le_refl _) _)) hn).mono ?_; rintro e w1 ⟨hs, hb1⟩; obtain rfl := hs.t HOK.out; have BX := Lib.hid ((Blk.new w 29 #[.int .i64 k, .slice A ns.length cap, .int .i64 R]).below hb1 (by simp)); have x0 := BX.out.cell 0; have x1 := BX.out.cell 1; have x2 := BX.out.cell 2; simp only [List.getElem?_toArray, List.getElem?_cons_zero, List.getElem?_cons_succ] at x0 x1 x2; clear hs)
    | (go_at_call 33; rw [last_is k hk]; refine (in_is _ _ _ true hd _).mono ?_; rintro e w2 ⟨rfl, rfl⟩)
    | (go_at_call 34; refine (has_any k R A cap ((k : Int).toNat) ns m _ (by exact HA.out.below (((Below.refl w.heap.size w).alloc (Nat.le_refl _) _).trans (hb1.mono (by simp)))) HOK.out.1.fm (by simp; omega) HOK.out.1.root hm hn).mono ?_; rintro e w3 ⟨rfl, hb3⟩))
  go_ret
  exact ⟨.of ⟨fun h => ⟨HOK.out, by simpa using HC.out, by simpa using h⟩, fun h => by simpa using h.2.2⟩, (((((Below.refl w.heap.size w).alloc (Nat.le_refl _) _).trans (hb1.mono (by simp))) : Below w.heap.size w w1)).trans (hb3.mono (by have := hb1.size; simp at this; omega))⟩
end Go.Proofs.Ytjbmapfgoclpiaa
