/- The reader of draws: DrawBddFrom, walked. -/
import Derived.Test.YtffefegjnbfobaaH6
import Derived.Test.YtffefegjnbfobaaIa
import Derived.Deep.DeepCutAuto
import Derived.Deep.CutBlock
namespace Go.Proofs.Ytffefegjnbfobaa
open Go.RowKit
open B

/-- A number of bits and a list that were drawn. -/
def AnyL (B : Nat) (w' : World) (e : Ending) : Prop :=
  ∃ (V : Int) (l : List Int) (A : Option Addr) (c : Nat), e = .returned (.tuple #[.int .i64 V, .slice A l.length c]) ∧ -1 ≤ V ∧ V ≤ 14 ∧ l.length ≤ 257 ∧ w'.ownsRow B 3 1 (.slice A l.length c) l.length (l.map (.int .i64))

theorem ints_app {w' : World} {B n c : Nat} {A : Option Addr} {l : List Int} {x : Int} (hl : l.length = n) (h : w'.ownsRow B 3 1 (.slice A (n + 1) c) (n + 1) (l.map (.int .i64) ++ [.int .i64 x])) :
    (l ++ [x]).length = n + 1 ∧ w'.ownsRow B 3 1 (.slice A (n + 1) c) (n + 1) ((l ++ [x]).map (.int .i64)) := ⟨by simp [hl], by simpa using h⟩
theorem rd_app {W W' : World} {g q B : Nat} {v : Value} {e : TypeId} {size n : Nat} {xs : List Value} (h : Rd W g q) (ho : W.ownsRow B e size v n xs) (hB : g < B) (hg : W.grownBy W' v.ownBlock) : Rd W' g q :=
  h.of_same fun k hk => hg.block k (Nat.lt_of_le_of_lt hk h.lt) (own_low ho (by omega))

set_option maxRecDepth 100000 in
set_option maxHeartbeats 2000000 in
theorem drawFrom_any (A : Option Addr) (n cap : Nat) (w : World) (hA : BAt w A n) (hn : n ≤ cap) (hc : cap ≤ maxLen) :
    Calls Try.prog 12 #[.slice A n cap] w fun e w' => AnyL w.heap.size w' e ∧ Below w.heap.size w w' := by
  have HA := Lib.hid hA
  clear hA
  obtain ⟨i3, hi, hz0, hz1, hz2⟩ := info_parts info3
  have Hi := Lib.hid hi
  have Hz0 := Lib.hid hz0
  have Hz1 := Lib.hid hz1
  have Hz2 := Lib.hid hz2
  clear hi hz0 hz1 hz2
  go_enter Try.func12, Try.ntmps12
  go_upto_if 18 with (first
    | (go_at_call 59; (with_reducible refine (open_at w.heap.size A n cap _ rfl (by exact HA.out) hn hc).mono ?_); rintro e w1 ⟨rfl, hR, hb⟩; have HB1 := Lib.hid hb; have HR1 := Lib.hid hR; have hgl1 := hR.lt; clear hR hb)
    | (go_at_call 60; (with_reducible refine (vars_any w.heap.size 0 _ (by exact HR1.out) (by omega)).mono ?_); rintro e w2 ⟨⟨v, rfl, hv0, hv1⟩, ⟨q2, hq2, hR⟩, hG⟩; have HB2 : Hid (Below w.heap.size w w2) := HB1.out.grown hG HB1.out.size (fun q hq => by injection hq with hq; omega); have HR2 := Lib.hid hR; have hgl2 := hR.lt; clear hR hG)
    | (go_at_call 61; (with_reducible refine (pick_any w.heap.size q2 12 _ (by exact HR2.out) (by omega) (by omega)).mono ?_); rintro e w3 ⟨hv, hR, hG⟩; obtain ⟨k1, rfl, hk10, hk11⟩ := hv.pos (by omega); have HB3 : Hid (Below w.heap.size w w3) := HB2.out.grown hG HB2.out.size (fun q hq => by injection hq with hq; omega); have HR3 := Lib.hid hR; have hgl3 := hR.lt; clear hR hG hv)
    | (go_at_call 61; (with_reducible refine (pick_any w.heap.size (q2 + 1) 30 _ (by exact HR3.out) (by omega) (by omega)).mono ?_); rintro e w4 ⟨hv, hR, hG⟩; obtain ⟨k2, rfl, hk20, hk21⟩ := hv.pos (by omega); have HB4 : Hid (Below w.heap.size w w4) := HB3.out.grown hG HB3.out.size (fun q hq => by injection hq with hq; omega); have HR4 := Lib.hid hR; have hgl4 := hR.lt; clear hR hG hv))
  go_cut [6] (fun s6 wc => ∃ kk q : Nat, s6 = .int .i64 (kk : Int) ∧ kk ≤ 257 ∧ q ≤ 10 ∧ Hid (Below w.heap.size w wc) ∧ Hid (Rd wc w.heap.size q))
  case first =>
    obtain ⟨k1, rfl⟩ := Int.eq_ofNat_of_zero_le hk10
    go_wp2_with (go_at_call 61; (with_reducible refine (pick_any w.heap.size (q2 + 1 + 1) 3 _ (by exact HR4.out) (by omega) (by omega)).mono ?_); rintro e w5 ⟨hv, hR, hG⟩; obtain ⟨k3, rfl, hk30, hk31⟩ := hv.pos (by omega); obtain ⟨k3, rfl⟩ := Int.eq_ofNat_of_zero_le hk30; have HB5 : Hid (Below w.heap.size w w5) := HB4.out.grown hG HB4.out.size (fun q hq => by injection hq with hq; omega); have HR5 := Lib.hid hR; clear hR hG hv)
    · go_meet
      case rel => exact ⟨255 + k3, q2 + 1 + 1 + 1, by go_num, by omega, by omega, HB5, HR5⟩
    · go_meet
      case rel => exact ⟨k1, q2 + 1 + 1, rfl, by omega, by omega, HB4, HR4⟩
  case rest =>
  obtain ⟨w5, rfl⟩ : ∃ x : World, x = wc := ⟨_, rfl⟩
  obtain ⟨kk, q5, rfl, hkk, hq5, HB5, HR5⟩ := hcut
  clear HR4 HR3 HR2 HR1
  go_wp2_with fail
  go_loopw [7, 8] (fun s7 s8 wr => ∃ (j q c' : Nat) (A' : Option Addr) (l : List Int), j ≤ kk ∧ q ≤ 10 + 3 * j ∧ l.length = j ∧ s7 = .slice A' j c' ∧ Hid (wr.ownsRow (w.heap.size + 1) 3 1 (.slice A' j c') j (l.map (.int .i64))) ∧ Hid (Below w.heap.size w wr) ∧ Hid (Rd wr w.heap.size q) ∧ s8 = .int .i64 j) (fun _ s8 _ => kk - (intOf s8).toNat)
  case atStart => exact ⟨0, q5, 0, none, [], Nat.zero_le _, by omega, rfl, rfl, World.ownsRow_nil _ _ _ _, HB5, HR5, rfl⟩
  case round =>
    obtain ⟨j, q, c', A', l, hj, hq, hlj, rfl, OW, HBr, HRr, rfl⟩ := hrel
    have hgr := HRr.out.lt
    by_cases hlt : j < kk
    case neg =>
      obtain rfl : j = kk := by omega
      go_wp2_with fail
      go_ret2
      refine ⟨⟨v, l, A', c', by rw [hlj]; rfl, hv0, hv1, by omega, ?_⟩, HBr.out⟩
      rw [hlj]
      exact own_mono OW.out (by omega)
    have hj63 : (j : Int) < 257 := by omega
    have APP := fun (x : Int) (c2 : Nat) (A2 : Option Addr) (W : World) (h : W.ownsRow (w.heap.size + 1) 3 1 (.slice A2 (j + 1) c2) (j + 1) (l.map (.int .i64) ++ [.int .i64 x])) => ints_app hlj h
    have APP := Lib.hid APP
    have HQ0 : Hid (q ≤ 1099511627776) := by show q ≤ 1099511627776; omega
    have HQ1 : Hid (q + 1 ≤ 1099511627776) := by show q + 1 ≤ 1099511627776; omega
    have HQ2 : Hid (q + 1 + 1 ≤ 1099511627776) := by show q + 1 + 1 ≤ 1099511627776; omega
    have HML : Hid (j + 1 ≤ maxLen) := by show j + 1 ≤ maxLen; unfold maxLen; omega
    have HBY : Hid ((j + 1) * 8 ≤ 140737488355328) := by show (j + 1) * 8 ≤ 140737488355328; omega
    rcases Int.lt_or_le v 0 with hv | hv
    · have hv' : ¬ 0 ≤ v := by omega
      go_wp2_with (first
        | (go_at_call 61; (with_reducible refine (pick_any w.heap.size (q) 64 _ (by exact HRr.out) HQ0.out (by decide)).mono ?_); rintro e w6 ⟨hv, hR, hG⟩; obtain ⟨c, rfl, hc0, hc1⟩ := hv.pos (by decide); have HB6 : Hid (Below w.heap.size w w6) := HBr.out.grown hG HBr.out.size (fun q hq => by injection hq with hq; exact Nat.le_of_eq hq); have HR6 := Lib.hid hR; have OW6 := Lib.hid (own_pick OW.out hG (Nat.lt_succ_self _)); have hgl6 := Lib.hid hR.lt; clear hR hG hv)
        | (go_at_call 61; (with_reducible refine (pick_any w.heap.size (q + 1) 60 _ (by exact HR6.out) HQ1.out (by decide)).mono ?_); rintro e w9 ⟨hv, hR, hG⟩; obtain ⟨z, rfl, hz0, hz1⟩ := hv.pos (by decide); have HB9 : Hid (Below w.heap.size w w9) := HB6.out.grown hG HB6.out.size (fun q hq => by injection hq with hq; exact Nat.le_of_eq hq); have HR9 := Lib.hid hR; have OW9 := Lib.hid (own_pick OW6.out hG (Nat.lt_succ_self _)); have hgl9 := Lib.hid hR.lt; clear hR hG hv)
        | (at_builtin; refine wpList_append_src rfl _ _ 23 rfl (w.heap.size + 1) 3 i3 (.int .i64 0) 1 8 Try.underlying23 Hi.out Hz0.out Hz1.out Hz2.out rfl (by decide) _ j (l.map (.int .i64)) rfl (by exact OW9.out.alloc _) (some ⟨w9.heap.size, 0, none⟩) 1 1 [.int .i64 (c - z / 59)] rfl (by exact .inr ⟨_, rfl, Blk.news (Blk.new_at _ 3 #[.int .i64 (c - z / 59)] rfl)⟩) rfl (by simp [Value.oneCell']) HML.out HBY.out (by exact Nat.le_trans hgl9.out (by simp)) ?_; intro A3 c3 wz ho3 hg3 hor3))
      all_goals
        go_roundw
        case rel =>
          refine ⟨j + 1, q + 1 + 1, c3, A3, l ++ [c - z / 59], by omega, by omega, (APP.out _ _ _ _ ho3).1, rfl, (APP.out _ _ _ _ ho3).2, ?_, ?_, by go_num⟩
          · exact (HB9.out.alloc HB9.out.size _).grown hg3 (by have := HB9.out.size; simp; omega) (fun k hk => by have := ((OW9.out.alloc (.cells #[.int .i64 (c - z / 59)] 3)).lt k hk).1; omega)
          · exact rd_app (HR9.out.alloc _) (OW9.out.alloc _) (Nat.lt_succ_self _) hg3
        case measure => simp [intOf]; omega

    · obtain ⟨nn, rfl⟩ := Int.eq_ofNat_of_zero_le hv
      go_upto_region 12 with (first
        | (go_at_call 61; (with_reducible refine (pick_any w.heap.size (q) 64 _ (by exact HRr.out) HQ0.out (by decide)).mono ?_); rintro e w6 ⟨hv, hR, hG⟩; obtain ⟨c, rfl, hc0, hc1⟩ := hv.pos (by decide); have HB6 : Hid (Below w.heap.size w w6) := HBr.out.grown hG HBr.out.size (fun q hq => by injection hq with hq; exact Nat.le_of_eq hq); have HR6 := Lib.hid hR; have OW6 := Lib.hid (own_pick OW.out hG (Nat.lt_succ_self _)); have hgl6 := Lib.hid hR.lt; clear hR hG hv)
        | (go_at_call 61; (with_reducible refine (pick_any w.heap.size (q + 1) 40 _ (by exact HR6.out) HQ1.out (by decide)).mono ?_); rintro e w7 ⟨hv, hR, hG⟩; obtain ⟨y, rfl, hy0, hy1⟩ := hv.pos (by decide); have HB7 : Hid (Below w.heap.size w w7) := HB6.out.grown hG HB6.out.size (fun q hq => by injection hq with hq; exact Nat.le_of_eq hq); have HR7 := Lib.hid hR; have OW7 := Lib.hid (own_pick OW6.out hG (Nat.lt_succ_self _)); have hgl7 := Lib.hid hR.lt; clear hR hG hv))
      · have hnn : nn < 6 := by omega
        rcases (show nn = 0 ∨ nn = 1 ∨ nn = 2 ∨ nn = 3 ∨ nn = 4 ∨ nn = 5 by omega) with rfl | rfl | rfl | rfl | rfl | rfl
        · go_upto_region 13 with fail
          go_wp2_with (first
            | (go_at_call 61; (with_reducible refine (pick_any w.heap.size (q + 1 + 1) 60 _ (by exact HR7.out) HQ2.out (by decide)).mono ?_); rintro e w8 ⟨hv, hR, hG⟩; obtain ⟨z, rfl, hz0, hz1⟩ := hv.pos (by decide); have HB8 : Hid (Below w.heap.size w w8) := HB7.out.grown hG HB7.out.size (fun q hq => by injection hq with hq; exact Nat.le_of_eq hq); have HR8 := Lib.hid hR; have OW8 := Lib.hid (own_pick OW7.out hG (Nat.lt_succ_self _)); have hgl8 := Lib.hid hR.lt; clear hR hG hv)
            | (at_builtin; refine wpList_append_src rfl _ _ 23 rfl (w.heap.size + 1) 3 i3 (.int .i64 0) 1 8 Try.underlying23 Hi.out Hz0.out Hz1.out Hz2.out rfl (by decide) _ j (l.map (.int .i64)) rfl (by exact OW8.out.alloc _) (some ⟨w8.heap.size, 0, none⟩) 1 1 [.int .i64 (-(z / 59))] rfl (by exact .inr ⟨_, rfl, Blk.news (Blk.new_at _ 3 #[.int .i64 (-(z / 59))] rfl)⟩) rfl (by simp [Value.oneCell']) HML.out HBY.out (by exact Nat.le_trans hgl8.out (by simp)) ?_; intro A3 c3 wz ho3 hg3 hor3))
          go_roundw
          case rel =>
            (repeat apply Exists.intro)
            refine ⟨⟨j + 1, q + 1 + 1 + 1, c3, A3, l ++ [-(z / 59)], by omega, by omega, (APP.out _ _ _ _ ho3).1, rfl, (APP.out _ _ _ _ ho3).2, ?_, ?_, by go_num⟩, rfl⟩
            · exact (HB8.out.alloc HB8.out.size _).grown hg3 (by have := HB8.out.size; simp; omega) (fun k hk => by have := ((OW8.out.alloc (.cells #[.int .i64 (-(z / 59))] 3)).lt k hk).1; omega)
            · exact rd_app (HR8.out.alloc _) (OW8.out.alloc _) (Nat.lt_succ_self _) hg3
          case measure => simp [intOf]; omega
        · go_upto_region 13 with fail
          have hcc0 : 0 ≤ c % 2 := by omega
          have hcc1 : c % 2 < 2 := by omega
          generalize c % 2 = cc at *
          go_wp2_with (first
            | (go_at_call 61; (with_reducible refine (pick_any w.heap.size (q + 1 + 1) 60 _ (by exact HR7.out) HQ2.out (by decide)).mono ?_); rintro e w8 ⟨hv, hR, hG⟩; obtain ⟨z, rfl, hz0, hz1⟩ := hv.pos (by decide); have HB8 : Hid (Below w.heap.size w w8) := HB7.out.grown hG HB7.out.size (fun q hq => by injection hq with hq; exact Nat.le_of_eq hq); have HR8 := Lib.hid hR; have OW8 := Lib.hid (own_pick OW7.out hG (Nat.lt_succ_self _)); have hgl8 := Lib.hid hR.lt; clear hR hG hv)
            | (at_builtin; refine wpList_append_src rfl _ _ 23 rfl (w.heap.size + 1) 3 i3 (.int .i64 0) 1 8 Try.underlying23 Hi.out Hz0.out Hz1.out Hz2.out rfl (by decide) _ j (l.map (.int .i64)) rfl (by exact OW8.out.alloc _) (some ⟨w8.heap.size, 0, none⟩) 1 1 [.int .i64 (cc - z / 59)] rfl (by exact .inr ⟨_, rfl, Blk.news (Blk.new_at _ 3 #[.int .i64 (cc - z / 59)] rfl)⟩) rfl (by simp [Value.oneCell']) HML.out HBY.out (by exact Nat.le_trans hgl8.out (by simp)) ?_; intro A3 c3 wz ho3 hg3 hor3))
          go_roundw
          case rel =>
            (repeat apply Exists.intro)
            refine ⟨⟨j + 1, q + 1 + 1 + 1, c3, A3, l ++ [cc - z / 59], by omega, by omega, (APP.out _ _ _ _ ho3).1, rfl, (APP.out _ _ _ _ ho3).2, ?_, ?_, by go_num⟩, rfl⟩
            · exact (HB8.out.alloc HB8.out.size _).grown hg3 (by have := HB8.out.size; simp; omega) (fun k hk => by have := ((OW8.out.alloc (.cells #[.int .i64 (cc - z / 59)] 3)).lt k hk).1; omega)
            · exact rd_app (HR8.out.alloc _) (OW8.out.alloc _) (Nat.lt_succ_self _) hg3
          case measure => simp [intOf]; omega
        · go_upto_region 13 with fail
          have hcc0 : 0 ≤ c % 4 := by omega
          have hcc1 : c % 4 < 4 := by omega
          generalize c % 4 = cc at *
          go_wp2_with (first
            | (go_at_call 61; (with_reducible refine (pick_any w.heap.size (q + 1 + 1) 60 _ (by exact HR7.out) HQ2.out (by decide)).mono ?_); rintro e w8 ⟨hv, hR, hG⟩; obtain ⟨z, rfl, hz0, hz1⟩ := hv.pos (by decide); have HB8 : Hid (Below w.heap.size w w8) := HB7.out.grown hG HB7.out.size (fun q hq => by injection hq with hq; exact Nat.le_of_eq hq); have HR8 := Lib.hid hR; have OW8 := Lib.hid (own_pick OW7.out hG (Nat.lt_succ_self _)); have hgl8 := Lib.hid hR.lt; clear hR hG hv)
            | (at_builtin; refine wpList_append_src rfl _ _ 23 rfl (w.heap.size + 1) 3 i3 (.int .i64 0) 1 8 Try.underlying23 Hi.out Hz0.out Hz1.out Hz2.out rfl (by decide) _ j (l.map (.int .i64)) rfl (by exact OW8.out.alloc _) (some ⟨w8.heap.size, 0, none⟩) 1 1 [.int .i64 (cc - z / 59)] rfl (by exact .inr ⟨_, rfl, Blk.news (Blk.new_at _ 3 #[.int .i64 (cc - z / 59)] rfl)⟩) rfl (by simp [Value.oneCell']) HML.out HBY.out (by exact Nat.le_trans hgl8.out (by simp)) ?_; intro A3 c3 wz ho3 hg3 hor3))
          go_roundw
          case rel =>
            (repeat apply Exists.intro)
            refine ⟨⟨j + 1, q + 1 + 1 + 1, c3, A3, l ++ [cc - z / 59], by omega, by omega, (APP.out _ _ _ _ ho3).1, rfl, (APP.out _ _ _ _ ho3).2, ?_, ?_, by go_num⟩, rfl⟩
            · exact (HB8.out.alloc HB8.out.size _).grown hg3 (by have := HB8.out.size; simp; omega) (fun k hk => by have := ((OW8.out.alloc (.cells #[.int .i64 (cc - z / 59)] 3)).lt k hk).1; omega)
            · exact rd_app (HR8.out.alloc _) (OW8.out.alloc _) (Nat.lt_succ_self _) hg3
          case measure => simp [intOf]; omega
        · go_upto_region 13 with fail
          have hcc0 : 0 ≤ c % 8 := by omega
          have hcc1 : c % 8 < 8 := by omega
          generalize c % 8 = cc at *
          go_wp2_with (first
            | (go_at_call 61; (with_reducible refine (pick_any w.heap.size (q + 1 + 1) 60 _ (by exact HR7.out) HQ2.out (by decide)).mono ?_); rintro e w8 ⟨hv, hR, hG⟩; obtain ⟨z, rfl, hz0, hz1⟩ := hv.pos (by decide); have HB8 : Hid (Below w.heap.size w w8) := HB7.out.grown hG HB7.out.size (fun q hq => by injection hq with hq; exact Nat.le_of_eq hq); have HR8 := Lib.hid hR; have OW8 := Lib.hid (own_pick OW7.out hG (Nat.lt_succ_self _)); have hgl8 := Lib.hid hR.lt; clear hR hG hv)
            | (at_builtin; refine wpList_append_src rfl _ _ 23 rfl (w.heap.size + 1) 3 i3 (.int .i64 0) 1 8 Try.underlying23 Hi.out Hz0.out Hz1.out Hz2.out rfl (by decide) _ j (l.map (.int .i64)) rfl (by exact OW8.out.alloc _) (some ⟨w8.heap.size, 0, none⟩) 1 1 [.int .i64 (cc - z / 59)] rfl (by exact .inr ⟨_, rfl, Blk.news (Blk.new_at _ 3 #[.int .i64 (cc - z / 59)] rfl)⟩) rfl (by simp [Value.oneCell']) HML.out HBY.out (by exact Nat.le_trans hgl8.out (by simp)) ?_; intro A3 c3 wz ho3 hg3 hor3))
          go_roundw
          case rel =>
            (repeat apply Exists.intro)
            refine ⟨⟨j + 1, q + 1 + 1 + 1, c3, A3, l ++ [cc - z / 59], by omega, by omega, (APP.out _ _ _ _ ho3).1, rfl, (APP.out _ _ _ _ ho3).2, ?_, ?_, by go_num⟩, rfl⟩
            · exact (HB8.out.alloc HB8.out.size _).grown hg3 (by have := HB8.out.size; simp; omega) (fun k hk => by have := ((OW8.out.alloc (.cells #[.int .i64 (cc - z / 59)] 3)).lt k hk).1; omega)
            · exact rd_app (HR8.out.alloc _) (OW8.out.alloc _) (Nat.lt_succ_self _) hg3
          case measure => simp [intOf]; omega
        · go_upto_region 13 with fail
          have hcc0 : 0 ≤ c % 16 := by omega
          have hcc1 : c % 16 < 16 := by omega
          generalize c % 16 = cc at *
          go_wp2_with (first
            | (go_at_call 61; (with_reducible refine (pick_any w.heap.size (q + 1 + 1) 60 _ (by exact HR7.out) HQ2.out (by decide)).mono ?_); rintro e w8 ⟨hv, hR, hG⟩; obtain ⟨z, rfl, hz0, hz1⟩ := hv.pos (by decide); have HB8 : Hid (Below w.heap.size w w8) := HB7.out.grown hG HB7.out.size (fun q hq => by injection hq with hq; exact Nat.le_of_eq hq); have HR8 := Lib.hid hR; have OW8 := Lib.hid (own_pick OW7.out hG (Nat.lt_succ_self _)); have hgl8 := Lib.hid hR.lt; clear hR hG hv)
            | (at_builtin; refine wpList_append_src rfl _ _ 23 rfl (w.heap.size + 1) 3 i3 (.int .i64 0) 1 8 Try.underlying23 Hi.out Hz0.out Hz1.out Hz2.out rfl (by decide) _ j (l.map (.int .i64)) rfl (by exact OW8.out.alloc _) (some ⟨w8.heap.size, 0, none⟩) 1 1 [.int .i64 (cc - z / 59)] rfl (by exact .inr ⟨_, rfl, Blk.news (Blk.new_at _ 3 #[.int .i64 (cc - z / 59)] rfl)⟩) rfl (by simp [Value.oneCell']) HML.out HBY.out (by exact Nat.le_trans hgl8.out (by simp)) ?_; intro A3 c3 wz ho3 hg3 hor3))
          go_roundw
          case rel =>
            (repeat apply Exists.intro)
            refine ⟨⟨j + 1, q + 1 + 1 + 1, c3, A3, l ++ [cc - z / 59], by omega, by omega, (APP.out _ _ _ _ ho3).1, rfl, (APP.out _ _ _ _ ho3).2, ?_, ?_, by go_num⟩, rfl⟩
            · exact (HB8.out.alloc HB8.out.size _).grown hg3 (by have := HB8.out.size; simp; omega) (fun k hk => by have := ((OW8.out.alloc (.cells #[.int .i64 (cc - z / 59)] 3)).lt k hk).1; omega)
            · exact rd_app (HR8.out.alloc _) (OW8.out.alloc _) (Nat.lt_succ_self _) hg3
          case measure => simp [intOf]; omega
        · go_upto_region 13 with fail
          have hcc0 : 0 ≤ c % 32 := by omega
          have hcc1 : c % 32 < 32 := by omega
          generalize c % 32 = cc at *
          go_wp2_with (first
            | (go_at_call 61; (with_reducible refine (pick_any w.heap.size (q + 1 + 1) 60 _ (by exact HR7.out) HQ2.out (by decide)).mono ?_); rintro e w8 ⟨hv, hR, hG⟩; obtain ⟨z, rfl, hz0, hz1⟩ := hv.pos (by decide); have HB8 : Hid (Below w.heap.size w w8) := HB7.out.grown hG HB7.out.size (fun q hq => by injection hq with hq; exact Nat.le_of_eq hq); have HR8 := Lib.hid hR; have OW8 := Lib.hid (own_pick OW7.out hG (Nat.lt_succ_self _)); have hgl8 := Lib.hid hR.lt; clear hR hG hv)
            | (at_builtin; refine wpList_append_src rfl _ _ 23 rfl (w.heap.size + 1) 3 i3 (.int .i64 0) 1 8 Try.underlying23 Hi.out Hz0.out Hz1.out Hz2.out rfl (by decide) _ j (l.map (.int .i64)) rfl (by exact OW8.out.alloc _) (some ⟨w8.heap.size, 0, none⟩) 1 1 [.int .i64 (cc - z / 59)] rfl (by exact .inr ⟨_, rfl, Blk.news (Blk.new_at _ 3 #[.int .i64 (cc - z / 59)] rfl)⟩) rfl (by simp [Value.oneCell']) HML.out HBY.out (by exact Nat.le_trans hgl8.out (by simp)) ?_; intro A3 c3 wz ho3 hg3 hor3))
          go_roundw
          case rel =>
            (repeat apply Exists.intro)
            refine ⟨⟨j + 1, q + 1 + 1 + 1, c3, A3, l ++ [cc - z / 59], by omega, by omega, (APP.out _ _ _ _ ho3).1, rfl, (APP.out _ _ _ _ ho3).2, ?_, ?_, by go_num⟩, rfl⟩
            · exact (HB8.out.alloc HB8.out.size _).grown hg3 (by have := HB8.out.size; simp; omega) (fun k hk => by have := ((OW8.out.alloc (.cells #[.int .i64 (cc - z / 59)] 3)).lt k hk).1; omega)
            · exact rd_app (HR8.out.alloc _) (OW8.out.alloc _) (Nat.lt_succ_self _) hg3
          case measure => simp [intOf]; omega
      · go_wp2_with (first
          | (go_at_call 61; (with_reducible refine (pick_any w.heap.size (q + 1 + 1) 60 _ (by exact HR7.out) HQ2.out (by decide)).mono ?_); rintro e w8 ⟨hv, hR, hG⟩; obtain ⟨z, rfl, hz0, hz1⟩ := hv.pos (by decide); have HB8 : Hid (Below w.heap.size w w8) := HB7.out.grown hG HB7.out.size (fun q hq => by injection hq with hq; exact Nat.le_of_eq hq); have HR8 := Lib.hid hR; have OW8 := Lib.hid (own_pick OW7.out hG (Nat.lt_succ_self _)); have hgl8 := Lib.hid hR.lt; clear hR hG hv)
          | (at_builtin; refine wpList_append_src rfl _ _ 23 rfl (w.heap.size + 1) 3 i3 (.int .i64 0) 1 8 Try.underlying23 Hi.out Hz0.out Hz1.out Hz2.out rfl (by decide) _ j (l.map (.int .i64)) rfl (by exact OW8.out.alloc _) (some ⟨w8.heap.size, 0, none⟩) 1 1 [.int .i64 (c - z / 59)] rfl (by exact .inr ⟨_, rfl, Blk.news (Blk.new_at _ 3 #[.int .i64 (c - z / 59)] rfl)⟩) rfl (by simp [Value.oneCell']) HML.out HBY.out (by exact Nat.le_trans hgl8.out (by simp)) ?_; intro A3 c3 wz ho3 hg3 hor3))
        go_roundw
        case rel =>
          refine ⟨j + 1, q + 1 + 1 + 1, c3, A3, l ++ [c - z / 59], by omega, by omega, (APP.out _ _ _ _ ho3).1, rfl, (APP.out _ _ _ _ ho3).2, ?_, ?_, by go_num⟩
          · exact (HB8.out.alloc HB8.out.size _).grown hg3 (by have := HB8.out.size; simp; omega) (fun k hk => by have := ((OW8.out.alloc (.cells #[.int .i64 (c - z / 59)] 3)).lt k hk).1; omega)
          · exact rd_app (HR8.out.alloc _) (OW8.out.alloc _) (Nat.lt_succ_self _) hg3
        case measure => simp [intOf]; omega
      · go_wp2_with (first
          | (go_at_call 61; (with_reducible refine (pick_any w.heap.size (q + 1) 60 _ (by exact HR6.out) HQ1.out (by decide)).mono ?_); rintro e w9 ⟨hv, hR, hG⟩; obtain ⟨z, rfl, hz0, hz1⟩ := hv.pos (by decide); have HB9 : Hid (Below w.heap.size w w9) := HB6.out.grown hG HB6.out.size (fun q hq => by injection hq with hq; exact Nat.le_of_eq hq); have HR9 := Lib.hid hR; have OW9 := Lib.hid (own_pick OW6.out hG (Nat.lt_succ_self _)); have hgl9 := Lib.hid hR.lt; clear hR hG hv)
          | (at_builtin; refine wpList_append_src rfl _ _ 23 rfl (w.heap.size + 1) 3 i3 (.int .i64 0) 1 8 Try.underlying23 Hi.out Hz0.out Hz1.out Hz2.out rfl (by decide) _ j (l.map (.int .i64)) rfl (by exact OW9.out.alloc _) (some ⟨w9.heap.size, 0, none⟩) 1 1 [.int .i64 (c - z / 59)] rfl (by exact .inr ⟨_, rfl, Blk.news (Blk.new_at _ 3 #[.int .i64 (c - z / 59)] rfl)⟩) rfl (by simp [Value.oneCell']) HML.out HBY.out (by exact Nat.le_trans hgl9.out (by simp)) ?_; intro A3 c3 wz ho3 hg3 hor3))
        go_roundw
        case rel =>
          refine ⟨j + 1, q + 1 + 1, c3, A3, l ++ [c - z / 59], by omega, by omega, (APP.out _ _ _ _ ho3).1, rfl, (APP.out _ _ _ _ ho3).2, ?_, ?_, by go_num⟩
          · exact (HB9.out.alloc HB9.out.size _).grown hg3 (by have := HB9.out.size; simp; omega) (fun k hk => by have := ((OW9.out.alloc (.cells #[.int .i64 (c - z / 59)] 3)).lt k hk).1; omega)
          · exact rd_app (HR9.out.alloc _) (OW9.out.alloc _) (Nat.lt_succ_self _) hg3
        case measure => simp [intOf]; omega
end Go.Proofs.Ytffefegjnbfobaa
