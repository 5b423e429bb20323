/- The law FnClauses, walked. -/
import Derived.Test.YtffefegjnbfobaaCl
import Derived.Test.YtffefegjnbfobaaXs
import Derived.Test.YtffefegjnbfobaaH6
import Derived.Test.YtffefegjnbfobaaLd
import Derived.Deep.DeepCutAuto
namespace Go.Proofs.Ytffefegjnbfobaa
open Go.RowKit
open B

theorem Mkd.knownC {p : Prop} {V : Int} {r r' : Int × List Nd} {B : Nat} {w' : World} {e : Ending} (h : Mkd p V r B w' e) (hp : p) (hr : r = r') (hl : r'.2.length ≤ 600) :
    ∃ (A : Option Addr) (c : Nat), e = .returned (.tuple #[.agg #[.int .i64 V, .slice A r'.2.length c, .int .i64 r'.1], .bool true]) ∧ Hid (w'.ownsRow B 89 3 (.slice A r'.2.length c) r'.2.length (ncells r'.2)) := by
  subst hr
  obtain ⟨V', R', ms, b, A, c, hv, he, ho⟩ := h
  rcases hv with ⟨_, _, rfl, rfl, rfl, rfl⟩ | ⟨hn, _⟩
  · exact ⟨A, c, he, ho⟩
  · exact (hn ⟨hp, hl⟩).elim
theorem CnfR.againC {p q : Prop} {V R : Int} {ns : List Nd} {B : Nat} {w' : World} {e : Ending} {V' : Int} {L : List (List Int)} {b : Bool} (h : CnfR p V R ns B w' e) (hv : CnfV q V R ns V' L b) (hpq : p ↔ q) :
    ∃ (A : Option Addr) (c : Nat), e = .returned (.tuple #[.agg #[.int .i64 V', .slice A L.length c], .bool b]) := by
  obtain ⟨V1, L1, b1, A, c, us, hv', he, ho⟩ := h
  obtain ⟨rfl, rfl, rfl⟩ := hv'.same hv hpq
  exact ⟨A, c, he⟩

set_option maxRecDepth 100000 in
set_option maxHeartbeats 4000000 in
theorem fnClauses_law (A : Option Addr) (n cap : Nat) (w : World) (hA : BAt w A n) (hn : n ≤ cap) (hc : cap ≤ maxLen) :
    Calls Try.prog 11 #[.slice A n cap] w fun e w' => e = .returned (.bool true) ∧ Below w.heap.size w w' := by
  have HA := Lib.hid hA
  have HC := Lib.hid hc
  unfold maxLen at hc
  clear hA
  by_cases hbig : 1048576 < n
  case pos =>
    clear hc
    go_enter Try.func11, Try.ntmps11
    go_wp2_with fail
    go_ret
    exact ⟨rfl, Below.refl _ _⟩
  clear hc
  go_enter Try.func11, Try.ntmps11
  go_upto_region 8 with (first
    | (go_at_call 58; (with_reducible refine (drawCnfOf_any A n cap _ (by exact HA.out) hn HC.out).mono ?_); rintro e w1 ⟨⟨V, R, ms, A1, c1, rfl, hV0, hV1, hl, ho⟩, hb⟩; have HB1 := Lib.hid hb; have O1 := Lib.hid ho; clear hb ho)
    | (go_at_call 51; (with_reducible refine (implCnfOf_any V R A1 c1 ms _ (by exact NAt.of_own (O1.out.alloc _)) (by omega)).mono ?_); rintro e w2 ⟨hm, hb⟩; obtain ⟨V2, L, b2, A2, c2, us2, hmv, rfl, ho2⟩ := hm; have HMV := Lib.hid hmv; have hx : Below w1.heap.size w1 w2 := ((Below.refl _ _).alloc (Nat.le_refl _) _).trans (hb.mono (by simp)); have HB2 : Hid (Below w.heap.size w w2) := HB1.out.trans (hx.mono HB1.out.size); have O1_2 := Lib.hid (own_below O1.out hx); have XB_2 := Lib.hid ((Blk.new w1 28 #[.int .i64 V, .slice A1 ms.length c1, .int .i64 R]).below hb (by simp)); have I2 := Lib.hid ho2; obtain ⟨x20, x21, x22⟩ := (XB_2.out.alloc (.cells #[.int .i64 V2, .slice A2 L.length c2] 41)).three; clear hx hb hmv ho2)
    | (go_at_call 50; (with_reducible refine (specCnfOf_any V R A1 c1 ms _ (by exact NAt.of_own (O1_2.out.alloc _)) (by omega)).mono ?_); rintro e w3 ⟨hm, hb⟩; obtain ⟨A3, c3, rfl⟩ := hm.againC HMV.out (and_congr (okS_iff V ms R) Iff.rfl); have hx : Below w2.heap.size w2 w3 := ((Below.refl _ _).alloc (Nat.le_refl _) _).trans (hb.mono (by simp)); have HB3 : Hid (Below w.heap.size w w3) := HB2.out.trans (hx.mono HB2.out.size); have O1_3 := Lib.hid (own_below O1_2.out hx); have XB_3 := Lib.hid (XB_2.out.below hx XB_2.out.lt); have I3 := Lib.hid (I2.out.below hx); have YB_3 := Lib.hid ((Blk.new w2 41 #[.int .i64 V2, .slice A2 L.length c2]).below hb (by simp)); obtain ⟨y30, y31⟩ := (YB_3.out.alloc (.cells #[.int .i64 V2, .slice A3 L.length c3] 41)).two; clear x20 x21 x22 hx hb))
  cases b2 with
  | false =>
    have hL0 : L = [] := by
      rcases HMV.out with ⟨_, _, _, _, h⟩ | ⟨_, _, h, _⟩
      · cases h
      · exact h
    have d1 : ((L.length : Int) == 0) = true := by rw [hL0]; rfl
    have d2 : (L.length == 0) = true := by rw [hL0]; rfl
    clear hL0
    go_wp2_with fail
    go_ret
    exact ⟨rfl, HB3.out.alloc HB3.out.size _⟩
  | true =>
    obtain ⟨hp, hV, hl6, hLe⟩ : (OkI V ms R ∧ 1 ≤ V ∧ V ≤ 10) ∧ V2 = V ∧ (ways ms R [] []).length ≤ 60 ∧ L = ways ms R [] [] := by
      rcases HMV.out with ⟨hp, h1, h2, h3, _⟩ | ⟨_, _, _, h⟩
      · exact ⟨hp, h2, h1, h3⟩
      · cases h
    subst hV
    have hbk := ways_back hp.1 hp.2 hl6
    rw [← hLe] at hbk hl6
    have hls := okC_lits hbk.1
    have hl600 : ms.length ≤ 600 := hp.1.1.len
    have HBK := Lib.hid hbk
    have HSH : Hid (∀ l ∈ L, l.length ≤ 1048576) := fun l hm => by have := (hls.2.2 l hm).1; omega
    clear hp hbk hls hLe hV0 hV1
    go_wp2_with (first
      | (go_at_call 22; (with_reducible refine (implCnfSet_any _ V2 A2 c2 us2 L _ (by exact I3.out.alloc _) (by omega) HSH.out).mono ?_); rintro e w4 ⟨hm, hb⟩; obtain ⟨A4, c4, rfl, ho4⟩ := hm.knownC HBK.out.1 HBK.out.2 hl600; have hx : Below w3.heap.size w3 w4 := ((Below.refl _ _).alloc (Nat.le_refl _) _).trans (hb.mono (by simp)); have HB4 : Hid (Below w.heap.size w w4) := HB3.out.trans (hx.mono HB3.out.size); have O1_4 := Lib.hid (own_below O1_3.out hx); have XB_4 := Lib.hid (XB_3.out.below hx XB_3.out.lt); have O4 := Lib.hid ho4.out; obtain ⟨x40, x41, x42⟩ := (XB_4.out.alloc (.cells #[.int .i64 V2, .slice A4 ms.length c4, .int .i64 R] 28)).three; clear y30 y31 hx hb ho4)
      | (go_at_call 15; (with_reducible refine (ldBdd_any V2 V2 R R A4 A1 c4 c1 ms ms _ (by exact NAt.of_own (O4.out.alloc _)) (by exact NAt.of_own (O1_4.out.alloc _)) (by omega) (by omega)).mono ?_); rintro e w5 ⟨hs, hb⟩; obtain rfl := hs.t ⟨rfl, rfl, rfl⟩; have HB5 : Hid (Below w.heap.size w w5) := (HB4.out.alloc HB4.out.size _).trans (hb.mono (by have := HB4.out.size; simp; omega)); clear hb))
    go_ret
    exact ⟨rfl, HB5.out⟩
end Go.Proofs.Ytffefegjnbfobaa
