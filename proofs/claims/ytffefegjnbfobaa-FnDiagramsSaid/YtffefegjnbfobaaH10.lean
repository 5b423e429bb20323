/- The reader of draws: spec.GoodSet, walked. -/
import Derived.Test.YtffefegjnbfobaaH6
namespace Go.Proofs.Ytffefegjnbfobaa
open Go.RowKit
open B

set_option maxRecDepth 100000 in
set_option maxHeartbeats 800000 in
theorem goodSet_any (A : Option Addr) (n cap : Nat) (k : Nat) (w : World) (hA : BAt w A n) (hn : n ≤ cap) (hc : cap ≤ maxLen) (hk : k ≤ 13) :
    Calls Try.prog 27 #[.int .i64 (k : Int), .slice A n cap] w fun e w' => SetR k w.heap.size w' e ∧ Below w.heap.size w w' := by
  have HA := Lib.hid hA
  clear hA
  have HB0 : Hid (Below w.heap.size w (w.alloc (.cells zB 28))) := ((Below.refl _ _).alloc (Nat.le_refl _) _)
  have RB0_0 : Hid (Blk (w.alloc (.cells zB 28)) (w.heap.size) 28 zB) := (Blk.new w _ _)
  have hG : (w.heap.size + 1) = (w.heap.size + 1) := rfl
  clear hG
  go_enter Try.func27, Try.ntmps27
  go_wp2_with (first
    | (go_at_call 59; (with_reducible refine (open_at (w.heap.size + 1) A n cap _ (by simp) (by exact HA.out.below HB0.out) hn hc).mono ?_); rintro e w1 ⟨rfl, hR, hb⟩; have HB1 : Hid (Below w.heap.size w w1) := HB0.out.trans (hb.mono HB0.out.size); have RB0_1 := Lib.hid (RB0_0.out.below hb RB0_0.out.lt); have HR1 := Lib.hid hR; have hgl1 := hR.lt; clear hR hb)
    | (go_at_call 80; (with_reducible refine (set_any (w.heap.size + 1) 0 k _ (by exact HR1.out) (by omega) hk).mono ?_); rintro e w2 ⟨⟨R0, m0, A0, c0, rfl, hok, hl0, ho⟩, ⟨q2, hq2, hR⟩, hG⟩; have OK := Lib.hid hok; have OW0_2 := Lib.hid (own_mono ho (show w.heap.size ≤ _ from HB1.out.size)); have HB2 : Hid (Below w.heap.size w w2) := HB1.out.grown hG HB1.out.size (fun q hq => by injection hq with hq; omega); have RB0_2 := Lib.hid (RB0_1.out.grown hG (by intro e; injection e with e; omega)); have HR2 := Lib.hid hR; have hgl2 := hR.lt; clear hR hG ho hok; obtain ⟨rx00, rx01, rx02⟩ := RB0_2.out.three; have rf00 := RB0_2.out.frozen 0; have rf01 := RB0_2.out.frozen 1; have rf02 := RB0_2.out.frozen 2))
  have F0_0 := RB0_2.out.put3 (.int .i64 k) (.slice A0 m0.length c0) (.int .i64 R0)
  obtain ⟨u00, u01, u02⟩ := F0_0.three
  refine bodyPost_ret (v := .agg #[.int .i64 k, .slice A0 m0.length c0, .int .i64 R0]) (by simp [results, Try.results27, go_sem, u00, u01, u02]) rfl ⟨⟨R0, m0, A0, c0, rfl, OK.out, hl0, (own_put3 OW0_2.out (own_ne_blk OW0_2.out (RB0_2.out) (by decide)) _ _ _)⟩, (below_put3 HB2.out (g := w.heap.size) (by omega) _ _ _)⟩
end Go.Proofs.Ytffefegjnbfobaa
