/- The reader of draws: spec.DrawCnfOf, walked. -/
import Derived.Test.YtffefegjnbfobaaH4
namespace Go.Proofs.Ytffefegjnbfobaa
open Go.RowKit
open B

theorem open_at (g : Nat) (A : Option Addr) (n cap : Nat) (w : World) (hg : w.heap.size = g) (hA : BAt w A n) (hn : n ≤ cap) (hc : cap ≤ maxLen) :
    Calls Try.prog 59 #[.slice A n cap] w fun e w' => e = .returned (.pointer (some ⟨g, 0, none⟩)) ∧ Rd w' g 0 ∧ Below w.heap.size w w' := by subst hg; exact open_any A n cap w hA hn hc

set_option maxRecDepth 100000 in
set_option maxHeartbeats 800000 in
theorem drawCnfOf_any (A : Option Addr) (n cap : Nat) (w : World) (hA : BAt w A n) (hn : n ≤ cap) (hc : cap ≤ maxLen) :
    Calls Try.prog 58 #[.slice A n cap] w fun e w' => AnyD 16 601 w.heap.size w' e ∧ Below w.heap.size w w' := by
  have HA := Lib.hid hA
  clear hA
  have HB0 : Hid (Below w.heap.size w (w.alloc (.cells zB 28))) := ((Below.refl _ _).alloc (Nat.le_refl _) _)
  have RB0_0 : Hid (Blk (w.alloc (.cells zB 28)) (w.heap.size) 28 zB) := (Blk.new w _ _)
  have hG : (w.heap.size + 1) = (w.heap.size + 1) := rfl
  clear hG
  go_enter Try.func58, Try.ntmps58
  go_wp2_with (first
    | (go_at_call 59; (with_reducible refine (open_at (w.heap.size + 1) A n cap _ (by simp) (by exact HA.out.below HB0.out) hn hc).mono ?_); rintro e w1 ⟨rfl, hR, hb⟩; have HB1 : Hid (Below w.heap.size w w1) := HB0.out.trans (hb.mono HB0.out.size); have RB0_1 := Lib.hid (RB0_0.out.below hb RB0_0.out.lt); have HR1 := Lib.hid hR; have hgl1 := hR.lt; clear hR hb)
    | (go_at_call 60; (with_reducible refine (vars_any (w.heap.size + 1) 0 _ (by exact HR1.out) (by omega)).mono ?_); rintro e w2 ⟨⟨v, rfl, hv0, hv1⟩, ⟨q2, hq2, hR⟩, hG⟩; have HB2 : Hid (Below w.heap.size w w2) := HB1.out.grown hG HB1.out.size (fun q hq => by injection hq with hq; omega); have RB0_2 := Lib.hid (RB0_1.out.grown hG (by intro e; injection e with e; omega)); have HR2 := Lib.hid hR; have hgl2 := hR.lt; clear hR hG)
    | (go_at_call 91; (with_reducible refine (drawn_any (w.heap.size + 1) q2 v _ (by exact HR2.out) (by omega) hv0 (by omega)).mono ?_); rintro e w3 ⟨⟨V0, R0, m0, A0, c0, rfl, hva0, hvb0, hl0, ho⟩, ⟨q3, hq3, hR⟩, hG⟩; have OW0_3 := Lib.hid ho; have HB3 : Hid (Below w.heap.size w w3) := HB2.out.grown hG HB2.out.size (fun q hq => by injection hq with hq; omega); have RB0_3 := Lib.hid (RB0_2.out.grown hG (by intro e; injection e with e; omega)); have HR3 := Lib.hid hR; have hgl3 := hR.lt; clear hR hG ho; obtain ⟨rx00, rx01, rx02⟩ := RB0_3.out.three; have rf00 := RB0_3.out.frozen 0; have rf01 := RB0_3.out.frozen 1; have rf02 := RB0_3.out.frozen 2))
  have F0_0 := RB0_3.out.put3 (.int .i64 V0) (.slice A0 m0.length c0) (.int .i64 R0)
  obtain ⟨u00, u01, u02⟩ := F0_0.three
  refine bodyPost_ret (v := .agg #[.int .i64 V0, .slice A0 m0.length c0, .int .i64 R0]) (by simp [results, Try.results58, go_sem, u00, u01, u02]) rfl ⟨⟨V0, R0, m0, A0, c0, rfl, hva0, hvb0, hl0, (own_put3 (own_mono OW0_3.out (by have h1 := HB2.out.size; omega)) (own_ne_blk (own_mono OW0_3.out (by have h1 := HB2.out.size; omega)) (RB0_3.out) (by decide)) _ _ _)⟩, (below_put3 HB3.out (g := w.heap.size) (by omega) _ _ _)⟩
end Go.Proofs.Ytffefegjnbfobaa
