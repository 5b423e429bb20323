/- The reader of draws: l1Ones, set, walked. -/
import Derived.Test.YtffefegjnbfobaaH
import Derived.Test.YtffefegjnbfobaaX4
import Derived.Test.YtffefegjnbfobaaQ4
import Derived.Maps.Range
namespace Go.Proofs.Ytffefegjnbfobaa
open Go.RowKit
open B

set_option maxRecDepth 100000 in
set_option maxHeartbeats 400000 in
theorem ones_any (a : Nat) (w : World) : Calls Try.prog 128 #[.int .i64 13, .int .i64 (a : Int)] w fun e w' => In 0 13 e ∧ w = w' := by
  go_enter Try.func128, Try.ntmps128
  go_wp2_with fail
  go_loop [5, 6] (fun n i => ∃ (k : Nat) (v : Int), k ≤ 13 ∧ 0 ≤ v ∧ v ≤ k ∧ n = .int .i64 v ∧ i = .int .i64 k) (fun _ i => 13 - (intOf i).toNat)
  case atStart => exact ⟨0, 0, by omega, by omega, by omega, rfl, rfl⟩
  case round =>
    obtain ⟨k, v, hk, hv0, hv1, rfl, rfl⟩ := hrel
    by_cases hlt : k < 13
    · have hb := b2i_bd (a.testBit k)
      go_wp2_with (go_at_call 135; (with_reducible refine (l1Bit_b2i a k (by omega) _).mono ?_); rintro e w' ⟨rfl, rfl⟩)
      go_round
      case rel => exact ⟨k + 1, _, by omega, by omega, by omega, rfl, by go_num⟩
      case measure => simp [intOf]; omega
    · go_wp2_with fail
      go_ret
      exact ⟨⟨v, rfl, hv0, by omega⟩, rfl⟩

theorem tabB_set (F : Nat → Bool) (N j : Nat) (b : Bool) : (rowF (fun c => .bool (F c)) N).setIfInBounds j (.bool b) = rowF (fun c => .bool (if c = j then b else F c)) N := by
  rw [rowF_set]
  refine rowF_congr fun i _ => ?_
  by_cases e : i = j <;> simp [e]

theorem tabB_put {w : World} {tb : Nat} {t : TypeId} {F : Nat → Bool} {N : Nat} (h : Blk w tb t (rowF (fun c => .bool (F c)) N)) (j : Nat) (b : Bool) :
    ∃ F' : Nat → Bool, Blk (w.setCell ⟨tb, j, none⟩ (.bool b)) tb t (rowF (fun c => .bool (F' c)) N) := ⟨fun c => if c = j then b else F c, by rw [← tabB_set]; exact h.set_ j (.bool b)⟩

theorem Mkd.yes {p : Prop} {V : Int} {r : Int × List Nd} {B : Nat} {w' : World} {e : Ending} (h : Mkd p V r B w' e) (hp : p) (hl : r.2.length ≤ 600) :
    ∃ (A : Option Addr) (c : Nat), e = .returned (.tuple #[.agg #[.int .i64 V, .slice A r.2.length c, .int .i64 r.1], .bool true]) ∧ Hid (w'.ownsRow B 89 3 (.slice A r.2.length c) r.2.length (ncells r.2)) := by
  obtain ⟨V', R', ms, b, A, c, hv, he, ho⟩ := h
  rcases hv with ⟨_, _, rfl, rfl, rfl, rfl⟩ | ⟨hn, _⟩
  · exact ⟨A, c, he, ho⟩
  · exact (hn ⟨hp, hl⟩).elim
theorem Mkd.not {p : Prop} {V : Int} {r : Int × List Nd} {B : Nat} {w' : World} {e : Ending} (h : Mkd p V r B w' e) (hn : ¬ (p ∧ r.2.length ≤ 600)) :
    ∃ (A : Option Addr) (c : Nat), e = .returned (.tuple #[.agg #[.int .i64 0, .slice A 0 c, .int .i64 0], .bool false]) := by
  obtain ⟨V', R', ms, b, A, c, hv, he, ho⟩ := h
  rcases hv with ⟨hp, hl, _⟩ | ⟨_, rfl, rfl, rfl, rfl⟩
  · exact (hn ⟨hp, hl⟩).elim
  · exact ⟨A, c, he⟩

/-- A set that was drawn: an ok diagram. -/
def SetR (V : Int) (B : Nat) (w' : World) (e : Ending) : Prop :=
  ∃ (R : Int) (ms : List Nd) (A : Option Addr) (c : Nat), e = .returned (.agg #[.int .i64 V, .slice A ms.length c, .int .i64 R]) ∧ OkS V ms R ∧ ms.length ≤ 600 ∧ w'.ownsRow B 89 3 (.slice A ms.length c) ms.length (ncells ms)

set_option maxRecDepth 100000 in
set_option maxHeartbeats 2000000 in
theorem set_any (g p k : Nat) (w : World) (hR : Rd w g p) (hp : p ≤ 1099511600000) (hk : k ≤ 13) :
    Calls Try.prog 80 #[.pointer (some ⟨g, 0, none⟩), .int .i64 (k : Int)] w fun e w' => SetR k w.heap.size w' e ∧ (∃ q, q ≤ p + 10000 ∧ Rd w' g q) ∧ w.grownBy w' (some g) := by
  have HR := Lib.hid hR
  have hgl := hR.lt
  clear hR
  obtain ⟨N, hN⟩ : ∃ N, N = 2 ^ k := ⟨_, rfl⟩
  have hN' : N ≤ 8192 := by rw [hN]; exact Nat.pow_le_pow_right (by omega) hk
  have hNI : ((2 : Int) ^ k) = (N : Int) := by rw [hN]; simp
  have e1 : wrap64 (2 ^ k) = (N : Int) := by rw [hNI]; unfold wrap64; omega
  have HNK := Lib.hid hN
  have hmk := fun W => mk_bools N (by omega) W
  clear hN hNI
  go_enter Try.func80, Try.ntmps80
  have RB_0 : Hid (Blk ((w.alloc (.cells zB 28)).alloc (.cells (madeCells #[.bool false] N) 4)) w.heap.size 28 zB) := (Blk.new w _ _).alloc _
  have TB_0 : Hid (Blk ((w.alloc (.cells zB 28)).alloc (.cells (madeCells #[.bool false] N) 4)) (w.heap.size + 1) 4 (rowF (fun c => .bool ((fun _ => false) c)) N)) := by rw [← made_rowF]; exact Blk.new_at _ _ _ (by simp)
  have HG_0 : Hid (w.grownBy ((w.alloc (.cells zB 28)).alloc (.cells (madeCells #[.bool false] N) 4)) (some g)) := (World.grownBy_alloc _ _ _).trans (World.grownBy_alloc _ _ _)
  go_wp2_with (first
    | (go_at_call 61; (with_reducible refine (pick_any g p 6 _ (by exact (HR.out.alloc _).alloc _) (by omega) (by omega)).mono ?_); rintro e w1 ⟨hv, hR1, hG1⟩; obtain ⟨kd, rfl, hk0, hk1⟩ := hv.pos (by omega); have HR1 := Lib.hid hR1; have HG1 := Lib.hid (HG_0.out.trans hG1); have RB_1 := Lib.hid (RB_0.out.grown hG1 (by simp; omega)); have TB_1 := Lib.hid (TB_0.out.grown hG1 (by simp; omega)); clear hv hR1 hG1)
    | (go_at_call 61; (with_reducible refine (pick_any g (p + 1) 256 _ (by exact HR1.out) (by omega) (by omega)).mono ?_); rintro e w2 ⟨hv, hR2, hG2⟩; obtain ⟨a, rfl, ha0, ha1⟩ := hv.pos (by omega); have HR2 := Lib.hid hR2; have HG2 := Lib.hid (HG1.out.trans hG2); have RB_2 := Lib.hid (RB_1.out.grown hG2 (by simp; omega)); have TB_2 := Lib.hid (TB_1.out.grown hG2 (by simp; omega)); clear hv hR2 hG2)
    | (go_at_call 61; (with_reducible refine (pick_any g (p + 1 + 1) 256 _ (by exact HR2.out) (by omega) (by omega)).mono ?_); rintro e w3 ⟨hv, hR3, hG3⟩; obtain ⟨b, rfl, hb0, hb1⟩ := hv.pos (by omega); have HR3 := Lib.hid hR3; have HG3 := Lib.hid (HG2.out.trans hG3); have RB_3 := Lib.hid (RB_2.out.grown hG3 (by simp; omega)); have TB_3 := Lib.hid (TB_2.out.grown hG3 (by simp; omega)); clear hv hR3 hG3))
  clear e1 hmk
  go_loopw [9] (fun i wr => ∃ j : Nat, j ≤ N ∧ Hid (w.grownBy wr (some g)) ∧ Hid (Blk wr w.heap.size 28 zB) ∧ Hid (∃ F : Nat → Bool, Blk wr (w.heap.size + 1) 4 (rowF (fun c => .bool (F c)) N)) ∧ Hid (∃ q, q ≤ p + 3 + j ∧ Rd wr g q) ∧ i = .int .i64 j) (fun i _ => N - (intOf i).toNat)
  case atStart => exact ⟨0, Nat.zero_le _, HG3, RB_3, ⟨_, TB_3.out⟩, ⟨_, Nat.le_refl _, HR3.out⟩, rfl⟩
  case round =>
    obtain ⟨j, hj, HGr, RB_r, HTr, HRr, rfl⟩ := hrel
    obtain ⟨F, hT⟩ := HTr.out
    have HT := Lib.hid hT
    clear hT HTr
    by_cases hlt : j < N
    case neg =>
      obtain rfl : j = N := by omega
      obtain ⟨q, hq, hRq⟩ := HRr.out
      have HRq := Lib.hid hRq
      clear hRq HRr
      obtain ⟨rbr0, rbr1, rbr2⟩ := RB_r.out.three
      have hsw : w.heap.size + 1 < wr.heap.size := HT.out.lt
      by_cases hl : (mk k 0 F []).2.length ≤ 600
      · have HK := Lib.hid (mk_ok hk hl).1
        have HY := fun (B : Nat) (w' : World) (e : Ending) (h : Mkd True k (mk k 0 F []) B w' e) => h.yes trivial hl
        generalize hr : mk k 0 F [] = r at *
        have HRR := Lib.hid hr
        have HYY := Lib.hid HY
        clear hr HY
        go_wp2_with (first
          | (go_at_call 67; (with_reducible refine (l7Of_any True trivial k j (w.heap.size + 1) F HNK.out hk _ (by exact HT.out)).mono ?_); rw [HRR.out]; rintro e wz ⟨hm, hb⟩; obtain ⟨A', c', rfl, ho⟩ := HYY.out _ _ _ hm; have HGz := Lib.hid (gtrans HGr.out (gbelow hb)); have RB_z := Lib.hid (RB_r.out.below hb RB_r.out.lt); have RB_y := Lib.hid (RB_z.out.alloc (.cells #[.int .i64 k, .slice A' r.2.length c', .int .i64 r.1] 28)); have HRz := Lib.hid (HRq.out.below hb); have hbs := hb.size; obtain ⟨rx0, rx1, rx2⟩ := RB_y.out.three; have rz0 := RB_y.out.frozen 0; have rz1 := RB_y.out.frozen 1; have rz2 := RB_y.out.frozen 2; clear hm hb))
        obtain ⟨u0, u1, u2⟩ := (RB_y.out.put3 (.int .i64 k) (.slice A' r.2.length c') (.int .i64 r.1)).three
        refine bodyPost_ret (v := .agg #[.int .i64 k, .slice A' r.2.length c', .int .i64 r.1]) (by simp [results, Try.results80, go_sem, u0, u1, u2]) rfl ⟨⟨r.1, r.2, A', c', rfl, (okS_iff _ _ _).2 HK.out, hl, own_put3 ((own_mono ho.out (by omega)).alloc _) (own_ne_blk (ho.out.alloc _) RB_y.out (by decide)) _ _ _⟩, ⟨q, by omega, ?_⟩, ?_⟩
        · exact (((HRz.out.alloc _).set ⟨w.heap.size, 0, none⟩ _ hgl).set ⟨w.heap.size, 1, none⟩ _ hgl).set ⟨w.heap.size, 2, none⟩ _ hgl
        · exact gput (gput (gput (gtrans HGz.out (World.grownBy_alloc _ _ _)) ⟨w.heap.size, 0, none⟩ _ (Nat.le_refl _)) ⟨w.heap.size, 1, none⟩ _ (Nat.le_refl _)) ⟨w.heap.size, 2, none⟩ _ (Nat.le_refl _)
      · have HY := fun (B : Nat) (w' : World) (e : Ending) (h : Mkd True k (mk k 0 F []) B w' e) => h.not (fun h => hl h.2)
        have HYY := Lib.hid HY
        have HVV : Hid ((0 : Int) ≤ k ∧ (k : Int) ≤ 13) := ⟨by omega, by omega⟩
        clear hl HY
        go_wp2_with (first
          | (go_at_call 67; (with_reducible refine (l7Of_any True trivial k j (w.heap.size + 1) F HNK.out hk _ (by exact HT.out)).mono ?_); rintro e wz ⟨hm, hb⟩; obtain ⟨A', c', rfl⟩ := HYY.out _ _ _ hm; have HGz := Lib.hid (gtrans HGr.out (gbelow hb)); have RB_z := Lib.hid (RB_r.out.below hb RB_r.out.lt); have HRz := Lib.hid (HRq.out.below hb); have hbs := hb.size; clear hm hb)
          | (go_at_call 90; (with_reducible refine (specConst_yes k true _ HVV.out).mono ?_); rintro e wy ⟨rfl, hb⟩; have HGy := Lib.hid (gtrans HGz.out (gtrans (World.grownBy_alloc _ _ _) (gbelow hb))); have RB_y := Lib.hid ((RB_z.out.alloc _).below hb (RB_z.out.alloc _).lt); have HRy := Lib.hid ((HRz.out.alloc _).below hb); have OB_y := Lib.hid ((Blk.new wz 28 #[.int .i64 0, .slice A' 0 c', .int .i64 0]).below hb (by simp)); have OB_x := Lib.hid (OB_y.out.put3 (.int .i64 k) (.slice none 0 0) (.int .i64 (b2i true))); have RB_x := Lib.hid (RB_y.out.far3 (q := wz.heap.size) (by omega) (.int .i64 k) (.slice none 0 0) (.int .i64 (b2i true))); obtain ⟨ob0, ob1, ob2⟩ := OB_y.out.three; have of0 := OB_y.out.frozen 0; have of1 := OB_y.out.frozen 1; have of2 := OB_y.out.frozen 2; obtain ⟨rx0, rx1, rx2⟩ := RB_x.out.three; obtain ⟨ox0, ox1, ox2⟩ := OB_x.out.three; have rz0 := RB_x.out.frozen 0; have rz1 := RB_x.out.frozen 1; have rz2 := RB_x.out.frozen 2; clear hb))
        obtain ⟨u0, u1, u2⟩ := (RB_x.out.put3 (.int .i64 k) (.slice none 0 0) (.int .i64 (b2i true))).three
        refine bodyPost_ret (v := .agg #[.int .i64 k, .slice none 0 0, .int .i64 (b2i true)]) (by simp [results, Try.results80, go_sem, u0, u1, u2]) rfl ⟨⟨b2i true, [], none, 0, rfl, okS_const HVV.out true, by simp, World.ownsRow_nil _ _ _ _⟩, ⟨q, by omega, ?_⟩, ?_⟩
        · exact (((((HRy.out.set ⟨wz.heap.size, 0, none⟩ _ (by show g < wz.heap.size; omega)).set ⟨wz.heap.size, 1, none⟩ _ (by show g < wz.heap.size; omega)).set ⟨wz.heap.size, 2, none⟩ _ (by show g < wz.heap.size; omega)).set ⟨w.heap.size, 0, none⟩ _ hgl).set ⟨w.heap.size, 1, none⟩ _ hgl).set ⟨w.heap.size, 2, none⟩ _ hgl
        · exact gput (gput (gput (gput (gput (gput HGy.out ⟨wz.heap.size, 0, none⟩ _ (by show w.heap.size ≤ wz.heap.size; omega)) ⟨wz.heap.size, 1, none⟩ _ (by show w.heap.size ≤ wz.heap.size; omega)) ⟨wz.heap.size, 2, none⟩ _ (by show w.heap.size ≤ wz.heap.size; omega)) ⟨w.heap.size, 0, none⟩ _ (Nat.le_refl _)) ⟨w.heap.size, 1, none⟩ _ (Nat.le_refl _)) ⟨w.heap.size, 2, none⟩ _ (Nat.le_refl _)
    have hj0 : (0 : Int) ≤ j := by omega
    have hj1 : (j : Int) < (N : Int) := by omega
    have tc := (HT.out.cell j).trans (rowF_get _ N j hlt)
    have tf := HT.out.frozen j
    obtain ⟨q, hq, hRq⟩ := HRr.out
    have HRq := Lib.hid hRq
    have hgr := hRq.lt
    clear hRq HRr
    have hsw : w.heap.size + 1 < wr.heap.size := HT.out.lt
    go_wp2_with (first
      | (go_at_call 128; (with_reducible refine (ones_any j _).mono ?_); rintro e w' ⟨⟨v, rfl, hv0, hv1⟩, rfl⟩)
      | (go_at_call 61; (with_reducible refine (pick_any g q 3 _ (by exact HRq.out) (by omega) (by omega)).mono ?_); rintro e w4 ⟨hv, hR4, hG4⟩; obtain ⟨v, rfl, hv0, hv1⟩ := hv.pos (by omega); have HR4 := Lib.hid hR4; have HG4 := Lib.hid (HGr.out.trans hG4); have RB_4 := Lib.hid (RB_r.out.grown hG4 (by simp; omega)); have HT_4 := Lib.hid (HT.out.grown hG4 (by simp; omega)); have tc4 := (HT_4.out.cell j).trans (rowF_get _ N j hlt); have tf4 := HT_4.out.frozen j; clear hv hR4 hG4))
    all_goals
      go_roundw
      case rel => first
        | exact ⟨j + 1, by omega, gput HGr.out ⟨w.heap.size + 1, j, none⟩ _ (Nat.le_succ _), RB_r.out.far (p := ⟨w.heap.size + 1, j, none⟩) (by show _ ≠ w.heap.size + 1; omega) _, tabB_put HT.out j _, ⟨q, by omega, HRq.out.set ⟨w.heap.size + 1, j, none⟩ _ (by show _ < w.heap.size + 1; omega)⟩, by go_num⟩
        | exact ⟨j + 1, by omega, gput HG4.out ⟨w.heap.size + 1, j, none⟩ _ (Nat.le_succ _), RB_4.out.far (p := ⟨w.heap.size + 1, j, none⟩) (by show _ ≠ w.heap.size + 1; omega) _, tabB_put HT_4.out j _, ⟨q + 1, by omega, HR4.out.set ⟨w.heap.size + 1, j, none⟩ _ (by show _ < w.heap.size + 1; omega)⟩, by go_num⟩
      case measure => simp [intOf]; omega
end Go.Proofs.Ytffefegjnbfobaa
