/- The reader of draws: spec.DrawBddSome, walked. -/
import Derived.Test.YtffefegjnbfobaaH6a
namespace Go.Proofs.Ytffefegjnbfobaa
open Go.RowKit
open B

theorem some_in (v : Int) (w : World) (hv : v ≤ 14) : Calls Try.prog 110 #[.int .i64 v] w fun e w' => In 1 14 e ∧ w = w' :=
  (some_is v w).mono fun _ _ h => ⟨⟨_, h.1, by split <;> omega, by split <;> omega⟩, h.2⟩

set_option maxRecDepth 100000 in
set_option maxHeartbeats 800000 in
theorem drawSome_any (A : Option Addr) (n cap : Nat) (w : World) (hA : BAt w A n) (hn : n ≤ cap) (hc : cap ≤ maxLen) :
    Calls Try.prog 55 #[.slice A n cap] w fun e w' => AnyDI (-2) 16 w.heap.size w' e ∧ Below w.heap.size w w' := by
  have HA := Lib.hid hA
  clear hA
  have HB0 : Hid (Below w.heap.size w (w.alloc (.cells zB 28))) := ((Below.refl _ _).alloc (Nat.le_refl _) _)
  have RB0_0 : Hid (Blk (w.alloc (.cells zB 28)) (w.heap.size) 28 zB) := (Blk.new w _ _)
  have hG : (w.heap.size + 1) = (w.heap.size + 1) := rfl
  clear hG
  go_enter Try.func55, Try.ntmps55
  go_wp2_with (first
    | (go_at_call 59; (with_reducible refine (open_at (w.heap.size + 1) A n cap _ (by simp) (by exact HA.out.below HB0.out) hn hc).mono ?_); rintro e w1 ⟨rfl, hR, hb⟩; have HB1 : Hid (Below w.heap.size w w1) := HB0.out.trans (hb.mono HB0.out.size); have RB0_1 := Lib.hid (RB0_0.out.below hb RB0_0.out.lt); have HR1 := Lib.hid hR; have hgl1 := hR.lt; clear hR hb)
    | (go_at_call 60; (with_reducible refine (vars_any (w.heap.size + 1) 0 _ (by exact HR1.out) (by omega)).mono ?_); rintro e w2 ⟨⟨v, rfl, hv0, hv1⟩, ⟨q2, hq2, hR⟩, hG⟩; have HB2 : Hid (Below w.heap.size w w2) := HB1.out.grown hG HB1.out.size (fun q hq => by injection hq with hq; omega); have RB0_2 := Lib.hid (RB0_1.out.grown hG (by intro e; injection e with e; omega)); have HR2 := Lib.hid hR; have hgl2 := hR.lt; clear hR hG)
    | (go_at_call 91; (with_reducible refine (drawn_any (w.heap.size + 1) q2 v _ (by exact HR2.out) (by omega) hv0 (by omega)).mono ?_); rintro e w3 ⟨⟨V0, R0, m0, A0, c0, rfl, hva0, hvb0, hl0, ho⟩, ⟨q3, hq3, hR⟩, hG⟩; have OW0_3 := Lib.hid ho; have HB3 : Hid (Below w.heap.size w w3) := HB2.out.grown hG HB2.out.size (fun q hq => by injection hq with hq; omega); have RB0_3 := Lib.hid (RB0_2.out.grown hG (by intro e; injection e with e; omega)); have HR3 := Lib.hid hR; have hgl3 := hR.lt; clear hR hG ho)
    | (go_at_call 110; (with_reducible refine (some_in v _ hv1).mono ?_); rintro e w' ⟨⟨sm, rfl, hsm0, hsm1⟩, rfl⟩)
    | (go_at_call 61; (with_reducible refine (pick_any (w.heap.size + 1) q3 (sm + 1) _ (by exact HR3.out) (by omega) (by omega)).mono ?_); rintro e w4 ⟨hv, hR, hG⟩; obtain ⟨i, rfl, hi0, hi1⟩ := hv.pos (by omega); have OW0_4 := Lib.hid (own_pick OW0_3.out hG (by omega)); have HB4 : Hid (Below w.heap.size w w4) := HB3.out.grown hG HB3.out.size (fun q hq => by injection hq with hq; omega); have RB0_4 := Lib.hid (RB0_3.out.grown hG (by intro e; injection e with e; omega)); have HR4 := Lib.hid hR; have hgl4 := hR.lt; clear hR hG hv)
    | (go_at_call 61; (with_reducible refine (pick_any (w.heap.size + 1) (q3 + 1) 16 _ (by exact HR4.out) (by omega) (by omega)).mono ?_); rintro e w5 ⟨hv, hR, hG⟩; obtain ⟨z, rfl, hz0, hz1⟩ := hv.pos (by omega); have OW0_5 := Lib.hid (own_pick OW0_4.out hG (by omega)); have HB5 : Hid (Below w.heap.size w w5) := HB4.out.grown hG HB4.out.size (fun q hq => by injection hq with hq; omega); have RB0_5 := Lib.hid (RB0_4.out.grown hG (by intro e; injection e with e; omega)); have HR5 := Lib.hid hR; have hgl5 := hR.lt; clear hR hG hv; obtain ⟨rx00, rx01, rx02⟩ := RB0_5.out.three; have rf00 := RB0_5.out.frozen 0; have rf01 := RB0_5.out.frozen 1; have rf02 := RB0_5.out.frozen 2))
  have F0_0 := RB0_5.out.put3 (.int .i64 V0) (.slice A0 m0.length c0) (.int .i64 R0)
  obtain ⟨u00, u01, u02⟩ := F0_0.three
  refine bodyPost_ret (v := .tuple #[.agg #[.int .i64 V0, .slice A0 m0.length c0, .int .i64 R0], .int .i64 (i - z / 15)]) (by simp [results, Try.results55, go_sem, u00, u01, u02]) rfl ⟨⟨V0, R0, m0, A0, c0, i - z / 15, rfl, hva0, hvb0, hl0, by omega, by omega, (own_put3 (own_mono OW0_5.out (by have h1 := HB2.out.size; omega)) (own_ne_blk (own_mono OW0_5.out (by have h1 := HB2.out.size; omega)) (RB0_5.out) (by decide)) _ _ _)⟩, (below_put3 HB5.out (g := w.heap.size) (by omega) _ _ _)⟩
end Go.Proofs.Ytffefegjnbfobaa
