/- impl.BddCount, walked. -/
import Derived.Test.YtffefegjnbfobaaK
namespace Go.Proofs.Ytffefegjnbfobaa
open Go.RowKit
open B

set_option maxRecDepth 100000 in
set_option maxHeartbeats 400000 in
theorem implCount_any (V R : Int) (A : Option Addr) (cap : Nat) (ns : List Nd) (w : World) (hA : NAt w A ns) (hn : ns.length ≤ 1048576) :
    Calls Try.prog 17 #[.agg #[.int .i64 V, .slice A ns.length cap, .int .i64 R]] w fun e w' => Cnt (OkI V ns R) V R ns e ∧ Below w.heap.size w w' := by
  have HA := Lib.hid hA
  clear hA
  by_cases hok : OkI V ns R
  case neg =>
    have HOK := Lib.hid hok
    clear hok
    go_enter Try.func17, Try.ntmps17
    go_wp2_with (go_at_call 32; refine (bddOk_any V R A cap ns _ (by exact HA.out.below ((Below.refl w.heap.size w).alloc (Nat.le_refl _) _)) hn).mono ?_; rintro e w1 ⟨hs, hb1⟩; obtain rfl := hs.f HOK.out; clear hs)
    go_ret
    exact ⟨.inr ⟨HOK.out, rfl⟩, ((Below.refl w.heap.size w).alloc (Nat.le_refl _) _).trans (hb1.mono (by simp))⟩
  have HOK := Lib.hid hok
  obtain ⟨k, rfl⟩ := Int.eq_ofNat_of_zero_le hok.1.v0
  have hk : k ≤ 13 := by have := hok.1.v1; omega
  have HFM : Hid (Fm k ns) := by have := hok.1.fm; simpa [Hid] using this
  clear hok
  go_enter Try.func17, Try.ntmps17
  go_wp2_with (first
    | (go_at_call 32; refine (bddOk_any k R A cap ns _ (by exact HA.out.below ((Below.refl w.heap.size w).alloc (Nat.le_refl _) _)) hn).mono ?_; rintro e w1 ⟨hs, hb1⟩; obtain rfl := hs.t HOK.out; have BX := Lib.hid ((Blk.new w 28 #[.int .i64 k, .slice A ns.length cap, .int .i64 R]).below hb1 (by simp)); have x0 := BX.out.cell 0; have x1 := BX.out.cell 1; have x2 := BX.out.cell 2; simp only [List.getElem?_toArray, List.getElem?_cons_zero, List.getElem?_cons_succ] at x0 x1 x2; have hbw1 : Below w.heap.size w w1 := ((Below.refl w.heap.size w).alloc (Nat.le_refl _) _).trans (hb1.mono (by simp)); clear hs)
    | (go_at_call 68; refine (codes_any k hk R A cap ns _ (by exact HA.out.below hbw1) hn HFM.out HOK.out.1.root).mono ?_; rintro e w2 ⟨A2, c2, rfl, ho2, hb2⟩))
  go_ret
  exact ⟨.inl ⟨HOK.out, by simp⟩, hbw1.trans (hb2.mono hbw1.size)⟩

end Go.Proofs.Ytffefegjnbfobaa
