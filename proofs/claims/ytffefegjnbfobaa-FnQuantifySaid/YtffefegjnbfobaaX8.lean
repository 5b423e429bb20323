/- BddSome of the reference, walked. -/
import Derived.Test.YtffefegjnbfobaaX6
import Derived.Test.YtffefegjnbfobaaX4
import Derived.Test.YtffefegjnbfobaaQO
namespace Go.Proofs.Ytffefegjnbfobaa
open Go.RowKit
open B

theorem Mkd.no {p : Prop} {V : Int} {r : Int × List Nd} {B : Nat} {w' : World} {e : Ending} (h : Mkd p V r B w' e) (hp : ¬ p) :
    ∃ (A : Option Addr) (c : Nat), e = .returned (.tuple #[.agg #[.int .i64 0, .slice A 0 c, .int .i64 0], .bool false]) := by
  obtain ⟨V', R', ms, b, A, c, hv, he, ho⟩ := h
  rcases hv with ⟨hq, _⟩ | ⟨_, rfl, rfl, rfl, rfl⟩
  · exact (hp hq).elim
  · exact ⟨A, c, he⟩
theorem Mkd.fix {V0 R0 x1 : Int} {ns0 : List Nd} {b2 : Bool} (hp : OkS V0 ns0 R0 ∧ 0 ≤ x1 ∧ x1 ≤ V0 - 1) {B : Nat} {w' : World} {e : Ending}
    (h : Mkd (OkS V0 ns0 R0 ∧ 0 ≤ x1 ∧ x1 ≤ V0 - 1) V0 (mk V0.toNat 0 (fun c => has ns0 R0 (setb x1.toNat b2 c)) []) B w' e) :
    ∃ (R' : Int) (ms : List Nd) (A : Option Addr) (c : Nat), e = .returned (.tuple #[.agg #[.int .i64 V0, .slice A ms.length c, .int .i64 R'], .bool true]) ∧ Hid (w'.ownsRow B 89 3 (.slice A ms.length c) ms.length (ncells ms)) ∧ ms.length ≤ 600 ∧ Hid (OkS V0 ms R') ∧ Hid (∀ c, c < 2 ^ V0.toNat → has ms R' c = has ns0 R0 (setb x1.toNat b2 c)) := by
  obtain ⟨V', R', ms, b, A, c, hv, rfl, ho⟩ := h
  have hl := hv.len
  obtain ⟨rfl, rfl, h1, h2⟩ := fix_yes hp hv
  exact ⟨R', ms, A, c, rfl, ho, hl, h1, h2⟩

set_option maxRecDepth 100000 in
set_option maxHeartbeats 2000000 in
theorem specSome_any (V0 R0 : Int) (A0 : Option Addr) (cap0 : Nat) (ns0 : List Nd) (x1 : Int) (w : World) (hA0 : NAt w A0 ns0) (hn0 : ns0.length ≤ 1048576) :
    Calls Try.prog 44 #[.agg (dB V0 R0 A0 ns0.length cap0), .int .i64 x1] w fun e w' => Mkd (OkS V0 ns0 R0 ∧ 0 ≤ x1 ∧ x1 ≤ V0 - 1) V0 (mk V0.toNat 0 (someF ns0 R0 x1.toNat) []) w.heap.size w' e ∧ Below w.heap.size w w' := by
  have HA0 := Lib.hid hA0
  clear hA0
  have HB0 : Hid (Below w.heap.size w ((w.alloc (.cells (dB V0 R0 A0 ns0.length cap0) 28)).alloc (.cells zB 28))) := (((Below.refl _ _).alloc (Nat.le_refl _) _).alloc (by simp) _)
  have X0_0 : Hid (Blk ((w.alloc (.cells (dB V0 R0 A0 ns0.length cap0) 28)).alloc (.cells zB 28)) (w.heap.size) 28 (dB V0 R0 A0 ns0.length cap0)) := ((Blk.new w _ _).alloc _)
  have RB_0 : Hid (Blk ((w.alloc (.cells (dB V0 R0 A0 ns0.length cap0) 28)).alloc (.cells zB 28)) (w.heap.size + 1) 28 zB) := (Blk.new_at _ _ _ (g := w.heap.size + 1) (by simp))
  by_cases hp : OkS V0 ns0 R0 ∧ 0 ≤ x1 ∧ x1 ≤ V0 - 1
  case pos =>
    have HP := Lib.hid hp
    clear hp
    go_enter Try.func44, Try.ntmps44
    go_wp2_with (first
      | (go_at_call 97; (with_reducible refine (specFix_any V0 R0 A0 cap0 ns0 x1 false _ (by exact HA0.out.below HB0.out) hn0).mono ?_); rintro e w1 ⟨hm, hb⟩; obtain ⟨R1, m1, A1, c1, rfl, ho1, hl1, hk1, hh1⟩ := hm.fix HP.out; have HB1 : Hid (Below w.heap.size w w1) := HB0.out.trans (hb.mono HB0.out.size); have X0_1 := Lib.hid (X0_0.out.below hb X0_0.out.lt); have RB_1 := Lib.hid (RB_0.out.below hb RB_0.out.lt); have O1 := Lib.hid (own_mono ho1.out (show w.heap.size ≤ _ from HB0.out.size)); obtain ⟨x010, x011, x012⟩ := X0_1.out.three; obtain ⟨x01a0, x01a1, x01a2⟩ := (X0_1.out.alloc (.cells #[.int .i64 V0, .slice A1 m1.length c1, .int .i64 R1] 28)).three; clear hb hm ho1)
      | (go_at_call 97; (with_reducible refine (specFix_any V0 R0 A0 cap0 ns0 x1 true _ (by exact HA0.out.below (HB1.out.alloc HB1.out.size _)) hn0).mono ?_); rintro e w2 ⟨hm, hb⟩; obtain ⟨R2, m2, A2, c2, rfl, ho2, hl2, hk2, hh2⟩ := hm.fix HP.out; have hx : Below w1.heap.size w1 w2 := ((Below.refl _ _).alloc (Nat.le_refl _) _).trans (hb.mono (by simp)); have HB2 : Hid (Below w.heap.size w w2) := HB1.out.trans (hx.mono HB1.out.size); have X0_2 := Lib.hid (X0_1.out.below hx X0_1.out.lt); have RB_2 := Lib.hid (RB_1.out.below hx RB_1.out.lt); have O1_2 := Lib.hid (own_below O1.out hx); have O2 := Lib.hid (own_mono ho2.out (show w.heap.size ≤ _ by have h := HB1.out.size; simp; omega)); have C0_2 := Lib.hid ((Blk.new w1 28 #[.int .i64 V0, .slice A1 m1.length c1, .int .i64 R1]).below hb (by simp)); clear hx; clear x010 x011 x012 x01a0 x01a1 x01a2; obtain ⟨c020, c021, c022⟩ := C0_2.out.three; obtain ⟨c02a0, c02a1, c02a2⟩ := (C0_2.out.alloc (.cells #[.int .i64 V0, .slice A2 m2.length c2, .int .i64 R2] 28)).three; clear hb hm ho2)
      | (go_at_call 98; (with_reducible refine (specOr_any V0 R1 A1 c1 m1 V0 R2 A2 c2 m2 _ (by exact NAt.of_own (O1_2.out.alloc _)) (by omega) (by exact NAt.of_own (O2.out.alloc _)) (by omega)).mono ?_); rintro e wz ⟨hm, hb⟩; obtain ⟨V', R', ms, bb, A', c', hmv, rfl, ho, hml⟩ := hm.is; have HBz : Hid (Below w.heap.size w wz) := (HB2.out.alloc HB2.out.size _).trans (hb.mono (by have h := HB2.out.size; simp; omega)); have RB_z := Lib.hid ((RB_2.out.alloc _).below hb (by have h := RB_2.out.lt; simp; omega)); obtain ⟨rx0, rx1, rx2⟩ := RB_z.out.three; have rz0 := RB_z.out.frozen 0; have rz1 := RB_z.out.frozen 1; have rz2 := RB_z.out.frozen 2; clear hm hb))
    obtain ⟨u0, u1, u2⟩ := (RB_z.out.put3 (.int .i64 V') (.slice A' ms.length c') (.int .i64 R')).three
    refine bodyPost_ret (v := .tuple #[.agg #[.int .i64 V', .slice A' ms.length c', .int .i64 R'], .bool bb]) (by simp [results, Try.results44, go_sem, u0, u1, u2]) rfl ⟨⟨V', R', ms, bb, A', c', hmv.out.conv ⟨fun _ => HP.out, fun _ => ⟨hk1.out, hk2.out, by simp⟩⟩ (fun _ => mk_congr _ 0 _ _ [] fun i hi => ?_), rfl, own_put3 (own_mono ho.out (by have h := HB2.out.size; simp; omega)) (own_ne_blk ho.out RB_z.out (by decide)) _ _ _⟩, below_put3 HBz.out (by omega) _ _ _⟩
    show (has m1 R1 i || has m2 R2 i) = someF ns0 R0 x1.toNat i
    rw [hh1.out i hi, hh2.out i hi]
    exact (some_eq (has ns0 R0) x1.toNat i).symm
  case neg =>
    have HP := Lib.hid hp
    clear hp
    go_enter Try.func44, Try.ntmps44
    go_wp2_with (first
      | (go_at_call 97; (with_reducible refine (specFix_any V0 R0 A0 cap0 ns0 x1 false _ (by exact HA0.out.below HB0.out) hn0).mono ?_); rintro e w1 ⟨hm, hb⟩; obtain ⟨A1, c1, rfl⟩ := hm.no HP.out; have HB1 : Hid (Below w.heap.size w w1) := HB0.out.trans (hb.mono HB0.out.size); have X0_1 := Lib.hid (X0_0.out.below hb X0_0.out.lt); have RB_1 := Lib.hid (RB_0.out.below hb RB_0.out.lt); obtain ⟨x010, x011, x012⟩ := X0_1.out.three; obtain ⟨x01a0, x01a1, x01a2⟩ := (X0_1.out.alloc (.cells #[.int .i64 0, .slice A1 0 c1, .int .i64 0] 28)).three; clear hb hm)
      | (go_at_call 97; (with_reducible refine (specFix_any V0 R0 A0 cap0 ns0 x1 true _ (by exact HA0.out.below (HB1.out.alloc HB1.out.size _)) hn0).mono ?_); rintro e w2 ⟨hm, hb⟩; obtain ⟨A2, c2, rfl⟩ := hm.no HP.out; have hx : Below w1.heap.size w1 w2 := ((Below.refl _ _).alloc (Nat.le_refl _) _).trans (hb.mono (by simp)); have HB2 : Hid (Below w.heap.size w w2) := HB1.out.trans (hx.mono HB1.out.size); have RB_2 := Lib.hid (RB_1.out.below hx RB_1.out.lt); have RB_3 := Lib.hid (RB_2.out.alloc (.cells #[.int .i64 0, .slice A2 0 c2, .int .i64 0] 28)); clear hx; clear x010 x011 x012 x01a0 x01a1 x01a2; obtain ⟨rx0, rx1, rx2⟩ := RB_3.out.three; have rz0 := RB_3.out.frozen 0; have rz1 := RB_3.out.frozen 1; have rz2 := RB_3.out.frozen 2; clear hb hm))
    obtain ⟨u0, u1, u2⟩ := (RB_3.out.put3 (.int .i64 0) (.slice none 0 0) (.int .i64 0)).three
    refine bodyPost_ret (v := .tuple #[.agg zB, .bool false]) (by simp [results, Try.results44, go_sem, u0, u1, u2]) rfl ⟨Mkd.none HP.out, below_put3 (HB2.out.alloc HB2.out.size _) (by omega) _ _ _⟩
end Go.Proofs.Ytffefegjnbfobaa
