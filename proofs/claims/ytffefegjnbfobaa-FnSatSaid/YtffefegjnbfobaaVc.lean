/- BddVar and BddConst of the program, walked. -/
import Derived.Test.YtffefegjnbfobaaX1
namespace Go.Proofs.Ytffefegjnbfobaa
open Go.RowKit
open B

/-- The diagram of one bit. -/
theorem var_ok {V : Int} {i : Nat} (h1 : V ≤ 13) (hi : (i : Int) < V) : OkS V [⟨i, 0, 1⟩] 2 ∧ ∀ c, has [⟨(i : Int), 0, 1⟩] 2 c = c.testBit i := by
  have hg : Fm V.toNat [⟨(i : Int), 0, 1⟩] := by
    intro k n hk
    match k with
    | 0 =>
      simp at hk
      subst hk
      exact ⟨by simp, by show (i : Int) < _; omega, by simp, by simp, by simp, by simp, by simp, fun h => absurd h (by simp), fun h => absurd h (by simp)⟩
    | k + 1 => simp at hk
  have hp : isP [⟨(i : Int), 0, 1⟩] 2 := by simp [isP]
  have hn : nd [⟨(i : Int), 0, 1⟩] 2 = ⟨i, 0, 1⟩ := rfl
  refine ⟨⟨⟨by omega, h1, by simp, hp, hg⟩, by simp, ?_⟩, fun c => ?_⟩
  · simp [ord, ordF, hn, upto]
  · cases hc : c.testBit i with
    | true => rw [has_hi hg (by omega) (by simp) (by rw [hn]; simpa using hc), hn, has_small _ _ _ (by show (1 : Int) ≤ 1; omega)]; rfl
    | false => rw [has_lo hg (by omega) (by simp) (by rw [hn]; simpa using hc), hn, has_small _ _ _ (by show (0 : Int) ≤ 1; omega)]; rfl
theorem var_mk {V : Int} {i : Nat} (h1 : V ≤ 13) (hi : (i : Int) < V) : mk V.toNat 0 (fun c => c.testBit i) [] = (2, [⟨(i : Int), 0, 1⟩]) := by
  have h := ((okS_iff _ _ _).1 (var_ok h1 hi).1).2
  rw [← h]
  exact mk_congr _ _ _ _ _ fun c _ => ((var_ok h1 hi).2 c).symm
theorem const_mk {V : Int} (h0 : 0 ≤ V) (h1 : V ≤ 13) (b : Bool) : mk V.toNat 0 (fun _ => b) [] = (b2i b, []) := by
  have h := ((okS_iff _ _ _).1 (const_ok h0 h1 b)).2
  have e : b2i b = if b then 1 else 0 := rfl
  rw [e, ← h]
  exact mk_congr _ _ _ _ _ fun c _ => (has_const b c).symm

set_option maxRecDepth 100000 in
theorem var1_any (g i c : Nat) (W : World) (hb : Blk W g 3 #[.int .i64 (i : Int)]) (hi : i ≤ 13) (hc : c < 16384) :
    Calls Try.prog 94 #[.int .i64 (c : Int), .pointer (some ⟨g, 0, none⟩)] W fun e W' => e = .returned (.bool (c.testBit i)) ∧ Below W.heap.size W W' := by
  have y0 := hb.one
  clear hb
  cases hb : c.testBit i with
  | true =>
    have h1 := bit_yes (c := c) (v := i) (by omega) hb
    clear hb
    go_enter Try.func94, Try.ntmps94
    go_wp2_with fail
    go_ret
    exact ⟨rfl, Below.refl _ _⟩
  | false =>
    have h1 := bit_no (c := c) (v := i) (by omega) hb
    clear hb
    go_enter Try.func94, Try.ntmps94
    go_wp2_with fail
    go_ret
    exact ⟨rfl, Below.refl _ _⟩
theorem var1_enters : Enters Try.prog 94 := enters_of Try.func94 (by kernel_rfl) rfl
set_option maxRecDepth 100000 in
theorem const1_any (g : Nat) (b : Bool) (c : Nat) (W : World) (hb : Blk W g 4 #[.bool b]) :
    Calls Try.prog 95 #[.int .i64 (c : Int), .pointer (some ⟨g, 0, none⟩)] W fun e W' => e = .returned (.bool b) ∧ Below W.heap.size W W' := by
  have y0 := hb.one
  clear hb
  go_enter Try.func95, Try.ntmps95
  go_wp2_with fail
  go_ret
  exact ⟨rfl, Below.refl _ _⟩
theorem const1_enters : Enters Try.prog 95 := enters_of Try.func95 (by kernel_rfl) rfl

set_option maxRecDepth 100000 in
set_option maxHeartbeats 400000 in
theorem implConst_any (V : Int) (b : Bool) (w : World) :
    Calls Try.prog 42 #[.int .i64 V, .bool b] w fun e w' => Mkd (0 ≤ V ∧ V ≤ 13) V (b2i b, []) w.heap.size w' e ∧ Below w.heap.size w w' := by
  have HB1 : Hid (Below w.heap.size w ((w.alloc (.cells #[.bool b] 4)).alloc (.cells zB 28))) := ((Below.refl _ _).alloc (Nat.le_refl _) _).alloc (by simp) _
  have YB_1 : Hid (Blk ((w.alloc (.cells #[.bool b] 4)).alloc (.cells zB 28)) w.heap.size 4 #[.bool b]) := (Blk.new w _ _).alloc _
  have RB_1 : Hid (Blk ((w.alloc (.cells #[.bool b] 4)).alloc (.cells zB 28)) (w.heap.size + 1) 28 zB) := Blk.new_at _ _ _ (by simp)
  have hmf : ∀ (fn : Fn) (first cap : Array Value) (w : World), (Instr.makeFunc fn first cap).run Try.prog w = .ok (.func fn first cap) w := fun _ _ _ _ => rfl
  go_enter Try.func42, Try.ntmps42
  go_wp2_with (go_at_call 74; (with_reducible refine (told_any V 95 _ _ (fun _ => b) _ const1_enters (by exact fun h0 h1 W c hb hc => cap1 (const1_any w.heap.size b c W (YB_1.out.below hb YB_1.out.lt)))).mono ?_); rintro e w2 ⟨hm, hb⟩; obtain ⟨V', R', ms, bb, A', c', hmv, rfl, ho, hml⟩ := hm.is; have HB2 : Hid (Below w.heap.size w w2) := HB1.out.trans (hb.mono HB1.out.size); have RB_2 := Lib.hid (RB_1.out.below hb RB_1.out.lt); obtain ⟨rx0, rx1, rx2⟩ := RB_2.out.three; have rf2_0 := RB_2.out.frozen 0; have rf2_1 := RB_2.out.frozen 1; have rf2_2 := RB_2.out.frozen 2; clear hm hb)
  obtain ⟨u0, u1, u2⟩ := (RB_2.out.put3 (.int .i64 V') (.slice A' ms.length c') (.int .i64 R')).three
  refine bodyPost_ret (v := .tuple #[.agg #[.int .i64 V', .slice A' ms.length c', .int .i64 R'], .bool bb]) (by simp [results, Try.results42, go_sem, u0, u1, u2]) rfl ⟨⟨V', R', ms, bb, A', c', hmv.out.conv Iff.rfl (fun h => const_mk h.1 h.2 b), rfl, own_put3 (own_mono ho.out HB1.out.size) (own_ne_blk ho.out RB_2.out (by decide)) _ _ _⟩, below_put3 HB2.out (by omega) _ _ _⟩

theorem lt14 {c : Nat} {V : Int} (h : c < 2 ^ V.toNat) (h1 : V ≤ 13) : c < 16384 := by
  have : 2 ^ V.toNat ≤ 2 ^ 13 := Nat.pow_le_pow_right (by omega) (by omega)
  omega

set_option maxRecDepth 100000 in
set_option maxHeartbeats 800000 in
theorem implVar_any (V i : Int) (w : World) (hV0 : -1 ≤ V) (hV1 : V ≤ 20) :
    Calls Try.prog 41 #[.int .i64 V, .int .i64 i] w fun e w' => Mkd (0 ≤ V ∧ V ≤ 13 ∧ 0 ≤ i ∧ i ≤ V - 1) V (2, [⟨i, 0, 1⟩]) w.heap.size w' e ∧ Below w.heap.size w w' := by
  have HB1 : Hid (Below w.heap.size w ((w.alloc (.cells #[.int .i64 i] 3)).alloc (.cells zB 28))) := ((Below.refl _ _).alloc (Nat.le_refl _) _).alloc (by simp) _
  have YB_1 : Hid (Blk ((w.alloc (.cells #[.int .i64 i] 3)).alloc (.cells zB 28)) w.heap.size 3 #[.int .i64 i]) := (Blk.new w _ _).alloc _
  have RB_1 : Hid (Blk ((w.alloc (.cells #[.int .i64 i] 3)).alloc (.cells zB 28)) (w.heap.size + 1) 28 zB) := Blk.new_at _ _ _ (by simp)
  have hmf : ∀ (fn : Fn) (first cap : Array Value) (w : World), (Instr.makeFunc fn first cap).run Try.prog w = .ok (.func fn first cap) w := fun _ _ _ _ => rfl
  have y0 := YB_1.out.one
  by_cases hV : 0 ≤ V ∧ V ≤ 13
  case neg =>
    have hd : decide (0 ≤ V ∧ V ≤ 13) = false := by simpa using hV
    have HV := Lib.hid hV
    clear hV hmf
    go_enter Try.func41, Try.ntmps41
    go_wp2_with (go_at_call 62; refine (isVars_is _ false hd _).mono ?_; rintro e w' ⟨rfl, rfl⟩)
    refine bodyPost_ret (v := .tuple #[.agg #[.int .i64 0, .slice none 0 0, .int .i64 0], .bool false]) (by simp [results, Try.results41, go_sem]) rfl ⟨Mkd.none (fun h => HV.out ⟨h.1, h.2.1⟩), HB1.out⟩
  have hd : decide (0 ≤ V ∧ V ≤ 13) = true := by simpa using hV
  have HV := Lib.hid hV
  clear hV
  by_cases hi : 0 ≤ i ∧ i ≤ V - 1
  case neg =>
    have hdi : decide (0 ≤ i ∧ i ≤ V - 1) = false := by simpa using hi
    have HI := Lib.hid hi
    clear hi hmf
    go_enter Try.func41, Try.ntmps41
    go_wp2_with (first
      | (go_at_call 62; refine (isVars_is _ true hd _).mono ?_; rintro e w' ⟨rfl, rfl⟩)
      | (go_at_call 69; refine (in_is _ _ _ false hdi _).mono ?_; rintro e w' ⟨rfl, rfl⟩))
    refine bodyPost_ret (v := .tuple #[.agg #[.int .i64 0, .slice none 0 0, .int .i64 0], .bool false]) (by simp [results, Try.results41, go_sem]) rfl ⟨Mkd.none (fun h => HI.out h.2.2), HB1.out⟩
  have hdi : decide (0 ≤ i ∧ i ≤ V - 1) = true := by simpa using hi
  have HI := Lib.hid hi
  obtain ⟨n, rfl⟩ := Int.eq_ofNat_of_zero_le hi.1
  clear hi
  go_enter Try.func41, Try.ntmps41
  go_wp2_with (first
    | (go_at_call 62; refine (isVars_is _ true hd _).mono ?_; rintro e w' ⟨rfl, rfl⟩)
    | (go_at_call 69; refine (in_is _ _ _ true hdi _).mono ?_; rintro e w' ⟨rfl, rfl⟩)
    | (go_at_call 74; (with_reducible refine (told_any V 94 _ _ (fun c => c.testBit n) _ var1_enters (by exact fun h0 h1 W c hb hc => cap1 (var1_any w.heap.size n c W (YB_1.out.below hb YB_1.out.lt) (by have := HI.out; omega) (lt14 hc h1)))).mono ?_); rintro e w2 ⟨hm, hb⟩; obtain ⟨V', R', ms, bb, A', c', hmv, rfl, ho, hml⟩ := hm.is; have HB2 : Hid (Below w.heap.size w w2) := HB1.out.trans (hb.mono HB1.out.size); have RB_2 := Lib.hid (RB_1.out.below hb RB_1.out.lt); obtain ⟨rx0, rx1, rx2⟩ := RB_2.out.three; have rf2_0 := RB_2.out.frozen 0; have rf2_1 := RB_2.out.frozen 1; have rf2_2 := RB_2.out.frozen 2; clear hm hb))
  obtain ⟨u0, u1, u2⟩ := (RB_2.out.put3 (.int .i64 V') (.slice A' ms.length c') (.int .i64 R')).three
  refine bodyPost_ret (v := .tuple #[.agg #[.int .i64 V', .slice A' ms.length c', .int .i64 R'], .bool bb]) (by simp [results, Try.results41, go_sem, u0, u1, u2]) rfl ⟨⟨V', R', ms, bb, A', c', hmv.out.conv ⟨fun h => ⟨h.1, h.2, HI.out.1, HI.out.2⟩, fun h => ⟨h.1, h.2.1⟩⟩ (fun h => var_mk h.2 (by have := HI.out; omega)), rfl, own_put3 (own_mono ho.out HB1.out.size) (own_ne_blk ho.out RB_2.out (by decide)) _ _ _⟩, below_put3 HB2.out (by omega) _ _ _⟩
end Go.Proofs.Ytffefegjnbfobaa
