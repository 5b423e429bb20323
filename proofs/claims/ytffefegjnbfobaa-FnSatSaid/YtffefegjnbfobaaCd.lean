/- The reader of draws: DrawSatLeast, walked. -/
import Derived.Test.YtffefegjnbfobaaCw
namespace Go.Proofs.Ytffefegjnbfobaa
open Go.RowKit
open B

set_option maxRecDepth 100000 in
theorem drawSat_any (A : Option Addr) (n cap : Nat) (w : World) (hA : BAt w A n) (hn : n ≤ cap) (hc : cap ≤ maxLen) :
    Calls Try.prog 20 #[.slice A n cap] w fun e w' => AnyC w.heap.size w' e ∧ Below w.heap.size w w' := by
  have HA := Lib.hid hA
  clear hA
  have HB0 : Hid (Below w.heap.size w (w.alloc (.cells zC 41))) := (Below.refl _ _).alloc (Nat.le_refl _) _
  have RB_0 := Lib.hid (Blk.new w 41 zC)
  go_enter Try.func20, Try.ntmps20
  go_wp2_with (first
    | (go_at_call 59; (with_reducible refine (open_at (w.heap.size + 1) A n cap _ (by simp) (by exact HA.out.below HB0.out) hn hc).mono ?_); rintro e w1 ⟨rfl, hR, hb⟩; have HB1 : Hid (Below w.heap.size w w1) := HB0.out.trans (hb.mono HB0.out.size); have RB_1 := Lib.hid (RB_0.out.below hb RB_0.out.lt); have HR1 := Lib.hid hR; have hgl1 := hR.lt; clear hR hb)
    | (go_at_call 71; (with_reducible refine (cnf_any (w.heap.size + 1) 0 _ (by exact HR1.out) (by omega)).mono ?_); rintro e w2 ⟨⟨V, L, A2, c2, us, rfl, hV0, hV1, hl, hs, hi⟩, _, hG⟩; have HB2 : Hid (Below w.heap.size w w2) := HB1.out.grown hG HB1.out.size (fun q hq => by injection hq with hq; omega); have RB_2 := Lib.hid (RB_1.out.grown hG (by intro e; injection e with e; omega)); have HI2 := Lib.hid (hi.mono HB1.out.size); have HS2 := Lib.hid hs; obtain ⟨x0, x1⟩ := RB_2.out.two; have f0 := RB_2.out.frozen 0; have f1 := RB_2.out.frozen 1; clear hi hs hG))
  obtain ⟨u0, u1⟩ := (RB_2.out.put2 (.int .i64 V) (.slice A2 L.length c2)).two
  exact bodyPost_ret (v := .agg #[.int .i64 V, .slice A2 L.length c2]) (by simp [results, Try.results20, go_sem, u0, u1]) rfl ⟨⟨V, L, A2, c2, us, rfl, hV0, hV1, hl, HS2.out, HI2.out.set2 RB_2.out (by decide) (by decide) _ _⟩, below_put2 HB2.out (Nat.le_refl _) _ _⟩
end Go.Proofs.Ytffefegjnbfobaa
