/- The reader of draws: cnf, walked. -/
import Derived.Test.YtffefegjnbfobaaCn
import Derived.Test.YtffefegjnbfobaaH11
namespace Go.Proofs.Ytffefegjnbfobaa
open Go.RowKit
open B

/-- Some memory of cnf. -/
def CMx (w : World) (g d p n : Nat) (W : World) : Prop := ∃ (q : Nat) (V : Int) (A : Option Addr) (c : Nat) (us : List Value) (L : List (List Int)), q ≤ p ∧ 1 ≤ V ∧ V ≤ 10 ∧ L.length ≤ n ∧ (∀ l ∈ L, l.length ≤ 11) ∧ CM w g d q V A c us L W

set_option maxRecDepth 100000 in
set_option maxHeartbeats 4000000 in
theorem cnf_any (g p : Nat) (w : World) (hR : Rd w g p) (hp : p ≤ 1099511000000) :
    Calls Try.prog 71 #[.pointer (some ⟨g, 0, none⟩)] w fun e w' => AnyC w.heap.size w' e ∧ (∃ q, q ≤ p + 10000 ∧ Rd w' g q) ∧ w.grownBy w' (some g) := by
  have HR := Lib.hid hR
  have hgl := hR.lt
  clear hR
  have RB_0 := Lib.hid (Blk.new w 41 zC)
  go_enter Try.func71, Try.ntmps71
  go_upto_if 16 with (first
    | (go_at_call 61; (with_reducible refine (pick_any g p 5 _ (by exact HR.out.alloc _) (by omega) (by omega)).mono ?_); rintro e w1 ⟨hv, hR2, hG2⟩; obtain ⟨v1, rfl, hk10, hk11⟩ := hv.pos (by omega); have k1 : IntKind.i64.wrap (1 + v1) = 1 + v1 := wrap_eq (by omega) (by omega); have M1 : Hid (CM w g w1.heap.size (p + 1) (1 + v1) none 0 [] [] (w1.alloc (.cells #[.int .i64 (1 + v1), .slice none 0 0] 41))) := ⟨gtrans (gtrans (World.grownBy_alloc w (.cells zC 41) (some g)) hG2) (World.grownBy_alloc _ _ _), hR2.alloc _, (RB_0.out.grown hG2 (by simp; omega)).alloc _, Blk.new _ _ _, IntSS.nil _ _, hgl, (by have := hG2.size; simp at this; omega)⟩; clear hv hR2 hG2)
    | (go_at_call 61; (with_reducible refine (pick_any g (p + 1) 20 _ (by exact M1.out.rd) (by omega) (by omega)).mono ?_); rintro e w2 ⟨hv, hR2, hG2⟩; obtain ⟨v2, rfl, hk20, hk21⟩ := hv.pos (by omega); have M2 := Lib.hid (M1.out.pick hR2 hG2); clear hv hR2 hG2; obtain ⟨d0, d1⟩ := M2.out.db.two; have df0 := M2.out.db.frozen 0))
  clear M1
  go_cut [] (fun wc => Hid (∃ V, 1 ≤ V ∧ V ≤ 10 ∧ CM w g w1.heap.size (p + 1 + 1) V none 0 [] [] wc))
  case first =>
    go_wp2_with fail
    · go_meet
      case rel => exact ⟨10, by omega, by omega, M2.out.vars 10⟩
    · go_meet
      case rel => exact ⟨1 + v1, by omega, by omega, M2.out⟩
  case rest =>
  obtain ⟨w3, rfl⟩ : ∃ x : World, x = wc := ⟨_, rfl⟩
  obtain ⟨V, hV0, hV1, M3⟩ := hcut.out
  have M3 := Lib.hid M3
  clear hcut M2 d0 d1 df0
  go_upto_if 22 with (first
    | (go_at_call 61; (with_reducible refine (pick_any g (p + 1 + 1) 14 _ (by exact M3.out.rd) (by omega) (by omega)).mono ?_); rintro e w4 ⟨hv, hR2, hG2⟩; obtain ⟨v4, rfl, hk40, hk41⟩ := hv.pos (by omega); have M4 := Lib.hid (M3.out.pick hR2 hG2); clear hv hR2 hG2)
    | (go_at_call 61; (with_reducible refine (pick_any g (p + 1 + 1 + 1) 3 _ (by exact M4.out.rd) (by omega) (by omega)).mono ?_); rintro e w5 ⟨hv, hR2, hG2⟩; obtain ⟨v5, rfl, hk50, hk51⟩ := hv.pos (by omega); have M5 := Lib.hid (M4.out.pick hR2 hG2); clear hv hR2 hG2))
  go_cut [4] (fun s4 wc => ∃ (n : Int) (q : Nat), s4 = .int .i64 n ∧ 0 ≤ n ∧ n ≤ 61 ∧ q ≤ p + 10 ∧ Hid (CM w g w1.heap.size q V none 0 [] [] wc))
  case first =>
    go_wp2_with (go_at_call 61; (with_reducible refine (pick_any g (p + 1 + 1 + 1 + 1) 20 _ (by exact M5.out.rd) (by omega) (by omega)).mono ?_); rintro e w6 ⟨hv, hR2, hG2⟩; obtain ⟨v6, rfl, hk60, hk61⟩ := hv.pos (by omega); have k6 : IntKind.i64.wrap (12 + v6) = 12 + v6 := wrap_eq (by omega) (by omega); have M6 := Lib.hid (M5.out.pick hR2 hG2); clear hv hR2 hG2)
    · go_meet
      case rel => exact ⟨12 + v6, _, rfl, by omega, by omega, by omega, M6⟩
    · go_meet
      case rel => exact ⟨v4, _, rfl, by omega, by omega, by omega, M5⟩
  case rest =>
  obtain ⟨w6, rfl⟩ : ∃ x : World, x = wc := ⟨_, rfl⟩
  obtain ⟨n6, q6, rfl, hn60, hn61, hq6, M6⟩ := hcut
  clear M5 M4
  go_upto_if 28 with (go_at_call 61; (with_reducible refine (pick_any g q6 30 _ (by exact M6.out.rd) (by omega) (by omega)).mono ?_); rintro e w7 ⟨hv, hR2, hG2⟩; obtain ⟨v7, rfl, hk70, hk71⟩ := hv.pos (by omega); have M7 := Lib.hid (M6.out.pick hR2 hG2); clear hv hR2 hG2)
  go_cut [4] (fun s4 wc => ∃ (n : Nat) (q : Nat), s4 = .int .i64 (n : Int) ∧ n ≤ 61 ∧ q ≤ p + 20 ∧ Hid (CM w g w1.heap.size q V none 0 [] [] wc))
  case first =>
    obtain ⟨n6, rfl⟩ := Int.eq_ofNat_of_zero_le hn60
    go_wp2_with (go_at_call 61; (with_reducible refine (pick_any g (q6 + 1) 3 _ (by exact M7.out.rd) (by omega) (by omega)).mono ?_); rintro e w8 ⟨hv, hR2, hG2⟩; obtain ⟨v8, rfl, hk80, hk81⟩ := hv.pos (by omega); obtain ⟨v8, rfl⟩ := Int.eq_ofNat_of_zero_le hk80; have k8 : IntKind.i64.wrap (59 + (v8 : Int)) = 59 + (v8 : Int) := wrap_eq (by omega) (by omega); have M8 := Lib.hid (M7.out.pick hR2 hG2); clear hv hR2 hG2)
    · go_meet
      case rel => exact ⟨59 + v8, _, by go_num, by omega, by omega, M8⟩
    · go_meet
      case rel => exact ⟨n6, _, rfl, by omega, by omega, M7⟩
  case rest =>
  obtain ⟨w8, rfl⟩ : ∃ x : World, x = wc := ⟨_, rfl⟩
  obtain ⟨n, q8, rfl, hn, hq8, M8⟩ := hcut
  clear M7 M6 M3
  go_wp2_with fail
  obtain ⟨i23, hi, hz0, hz1, hz2⟩ := info_parts info23
  obtain ⟨i3, ii, iz0, iz1, iz2⟩ := info_parts info3
  have Hi := Lib.hid (And.intro hi (And.intro hz0 (And.intro hz1 hz2)))
  have Ii := Lib.hid (And.intro ii (And.intro iz0 (And.intro iz1 iz2)))
  clear hi hz0 hz1 hz2 ii iz0 iz1 iz2
  go_loopw [5] (fun s5 wr => ∃ (j q : Nat) (A : Option Addr) (c : Nat) (us : List Value) (L : List (List Int)), j ≤ n ∧ q ≤ p + 20 + 30 * j ∧ Hid (L.length = j) ∧ Hid (∀ l ∈ L, l.length ≤ 11) ∧ Hid (CM w g w1.heap.size q V A c us L wr) ∧ s5 = .int .i64 (j : Int)) (fun s5 _ => n - (intOf s5).toNat)
  case atStart => exact ⟨0, q8, none, 0, [], [], Nat.zero_le _, by omega, rfl, Lib.hid (fun l hl => by cases hl), M8, rfl⟩
  case round =>
    obtain ⟨j, q, A, c, us, L, hj, hq, hLj, HSh, M9, rfl⟩ := hrel
    obtain ⟨wo, rfl⟩ : ∃ x : World, x = wr := ⟨_, rfl⟩
    by_cases hlt : j < n
    case neg =>
      obtain rfl : j = n := by omega
      have hlL : L.length ≤ 61 := by have := hLj.out; omega
      have M9x : Hid (∃ (q' : Nat) (V' : Int) (A' : Option Addr) (c' : Nat) (us' : List Value) (L' : List (List Int)), q' ≤ p + 9000 ∧ -1 ≤ V' ∧ V' ≤ 11 ∧ L'.length ≤ 62 ∧ (∀ l ∈ L', l.length ≤ 11) ∧ CM w g w1.heap.size q' V' A' c' us' L' wo) := Lib.hid ⟨q, V, A, c, us, L, by omega, by omega, by omega, by omega, HSh.out, M9.out⟩
      go_upto_if 73 with (go_at_call 61; (with_reducible refine (pick_any g q 10 _ (by exact M9.out.rd) (by omega) (by omega)).mono ?_); rintro e wa ⟨hv, hR2, hG2⟩; obtain ⟨va, rfl, hka0, hka1⟩ := hv.pos (by omega); have Ma := Lib.hid (M9.out.pick hR2 hG2); clear hv hR2 hG2)
      go_cut [] (fun wc => Hid (∃ (q' : Nat) (V' : Int) (A' : Option Addr) (c' : Nat) (us' : List Value) (L' : List (List Int)), q' ≤ p + 9000 ∧ -1 ≤ V' ∧ V' ≤ 11 ∧ L'.length ≤ 62 ∧ (∀ l ∈ L', l.length ≤ 11) ∧ CM w g w1.heap.size q' V' A' c' us' L' wc))
      case first =>
        go_upto_region 26 with (go_at_call 61; (with_reducible refine (pick_any g (q + 1) 3 _ (by exact Ma.out.rd) (by omega) (by omega)).mono ?_); rintro e wb ⟨hv, hR2, hG2⟩; obtain ⟨vb, rfl, hkb0, hkb1⟩ := hv.pos (by omega); have Mb := Lib.hid (Ma.out.pick hR2 hG2); clear hv hR2 hG2)
        · rcases (show vb = 0 ∨ vb = 1 ∨ vb = 2 by omega) with rfl | rfl | rfl
          · have BL : Hid (Blk (wb.alloc (.cells #[.int .i64 0, .int .i64 11, .int .i64 (-1)] 3)) wb.heap.size 3 #[.int .i64 0, .int .i64 11, .int .i64 (-1)]) := Blk.new _ _ _
            have hgb : g < wb.heap.size := Mb.out.rd.lt
            go_wp2_with (go_at_call 61; (with_reducible refine (pick_any g (q + 1 + 1) 3 _ (by exact Mb.out.rd.alloc _) (by omega) (by omega)).mono ?_); rintro e wc ⟨hv, hR2, hG2⟩; obtain ⟨vc, rfl, hkc0, hkc1⟩ := hv.pos (by omega); have Mc := Lib.hid ((Mb.out.alloc (.cells #[.int .i64 0, .int .i64 11, .int .i64 (-1)] 3)).pick hR2 hG2); have BL1 := Lib.hid (BL.out.grown hG2 (fun e => (by injection e with e; omega))); obtain ⟨b0, b1, b2⟩ := BL1.out.three; have HV3 : Hid (vc = 0 ∨ vc = 1 ∨ vc = 2) := Lib.hid (by omega); obtain ⟨X, hX0, hX1, hcell⟩ : ∃ X : Int, -1 ≤ X ∧ X ≤ 11 ∧ wc.cell? ⟨wb.heap.size, vc.toNat, none⟩ = some (.int .i64 X) := (by rcases HV3.out with rfl | rfl | rfl <;> first | exact ⟨0, by omega, by omega, b0⟩ | exact ⟨11, by omega, by omega, b1⟩ | exact ⟨-1, by omega, by omega, b2⟩); obtain ⟨d0, d1⟩ := Mc.out.db.two; have df0 := Mc.out.db.frozen 0; clear b0 b1 b2 hv hR2 hG2)
            go_meet
            case rel => exact ⟨_, X, A, c, us, L, by omega, by omega, by omega, by omega, HSh.out, Mc.out.vars X⟩
          · obtain ⟨e0, e1⟩ := Mb.out.db.two
            have k9 : IntKind.i64.wrap (V + 1) = V + 1 := wrap_eq (by omega) (by omega)
            have HNE := Lib.hid (own_ne_blk Mb.out.rows.out Mb.out.db (by decide))
            have HR1 : Hid ((wb.alloc (.cells #[.int .i64 (0)] 3)).ownsRow wb.heap.size 3 1 (.slice (some ⟨wb.heap.size, 0, none⟩) 1 1) 1 ([0].map (.int .i64))) := World.ownsRow_lit wb _ 1 (Nat.le_refl _) (by unfold maxLen; omega) rfl
            have hwb : w.heap.size ≤ wb.heap.size := Mb.out.gr.size
            have HFb := Lib.hid Mb.out.far
            go_wp2_with (at_builtin; refine wpList_append_src rfl _ _ 39 rfl w.heap.size 23 i23 (.slice none 0 0) 1 24 Try.underlying39 Hi.out.1 Hi.out.2.1 Hi.out.2.2.1 Hi.out.2.2.2 rfl (by decide) _ L.length us rfl (by exact (Mb.out.rows.out.alloc _).alloc _) (some ⟨wb.heap.size + 1, 0, none⟩) 1 1 [.slice (some ⟨wb.heap.size, 0, none⟩) 1 1] rfl (by exact .inr ⟨_, rfl, Blk.news (Blk.new_at _ 23 #[.slice (some ⟨wb.heap.size, 0, none⟩) 1 1] (by simp))⟩) rfl (by simp [Value.oneCell']) (by unfold maxLen; omega) (by omega) (by simp; omega) ?_; intro A3 c3 wz ho3 hg3 hor3; have hg4 : World.grownBy _ wz (Value.slice A L.length c).ownBlock := hg3; have HG4 := Lib.hid hg4; have hdb := ((Mb.out.db.alloc (.cells #[.int .i64 (0)] 3)).alloc (.cells #[.slice (some ⟨wb.heap.size, 0, none⟩) 1 1] 23)).grown hg4 (fun e => HNE.out e.symm); obtain ⟨z0, z1⟩ := hdb.two; have zf1 := hdb.frozen 1; have HO3 := Lib.hid ho3; clear hg3 hg4 hor3 hdb ho3)
            go_meet
            case rel =>
              have M5 := ((Mb.out.alloc (.cells #[.int .i64 (0)] 3)).alloc (.cells #[.slice (some ⟨wb.heap.size, 0, none⟩) 1 1] 23)).app (l := [0]) HG4.out HO3.out (own_mono (HR1.out.alloc _) hwb) (fun u hu y hy e => by
                have h1 := HFb.out u hu y hy
                have h2 : wb.heap.size = y := by simpa [Value.ownBlock] using e
                omega)
              exact ⟨_, V, A3, c3, _, _, by omega, by omega, by omega, by simp; omega, fun k hk => by
                rcases List.mem_append.1 hk with hk | hk
                · exact HSh.out k hk
                · simp at hk; subst hk; simp, M5⟩
          · obtain ⟨e0, e1⟩ := Mb.out.db.two
            have k9 : IntKind.i64.wrap (V + 1) = V + 1 := wrap_eq (by omega) (by omega)
            have HNE := Lib.hid (own_ne_blk Mb.out.rows.out Mb.out.db (by decide))
            have HR1 : Hid ((wb.alloc (.cells #[.int .i64 (V + 1)] 3)).ownsRow wb.heap.size 3 1 (.slice (some ⟨wb.heap.size, 0, none⟩) 1 1) 1 ([V + 1].map (.int .i64))) := World.ownsRow_lit wb _ 1 (Nat.le_refl _) (by unfold maxLen; omega) rfl
            have hwb : w.heap.size ≤ wb.heap.size := Mb.out.gr.size
            have HFb := Lib.hid Mb.out.far
            go_wp2_with (at_builtin; refine wpList_append_src rfl _ _ 39 rfl w.heap.size 23 i23 (.slice none 0 0) 1 24 Try.underlying39 Hi.out.1 Hi.out.2.1 Hi.out.2.2.1 Hi.out.2.2.2 rfl (by decide) _ L.length us rfl (by exact (Mb.out.rows.out.alloc _).alloc _) (some ⟨wb.heap.size + 1, 0, none⟩) 1 1 [.slice (some ⟨wb.heap.size, 0, none⟩) 1 1] rfl (by exact .inr ⟨_, rfl, Blk.news (Blk.new_at _ 23 #[.slice (some ⟨wb.heap.size, 0, none⟩) 1 1] (by simp))⟩) rfl (by simp [Value.oneCell']) (by unfold maxLen; omega) (by omega) (by simp; omega) ?_; intro A3 c3 wz ho3 hg3 hor3; have hg4 : World.grownBy _ wz (Value.slice A L.length c).ownBlock := hg3; have HG4 := Lib.hid hg4; have hdb := ((Mb.out.db.alloc (.cells #[.int .i64 (V + 1)] 3)).alloc (.cells #[.slice (some ⟨wb.heap.size, 0, none⟩) 1 1] 23)).grown hg4 (fun e => HNE.out e.symm); obtain ⟨z0, z1⟩ := hdb.two; have zf1 := hdb.frozen 1; have HO3 := Lib.hid ho3; clear hg3 hg4 hor3 hdb ho3)
            go_meet
            case rel =>
              have M5 := ((Mb.out.alloc (.cells #[.int .i64 (V + 1)] 3)).alloc (.cells #[.slice (some ⟨wb.heap.size, 0, none⟩) 1 1] 23)).app (l := [V + 1]) HG4.out HO3.out (own_mono (HR1.out.alloc _) hwb) (fun u hu y hy e => by
                have h1 := HFb.out u hu y hy
                have h2 : wb.heap.size = y := by simpa [Value.ownBlock] using e
                omega)
              exact ⟨_, V, A3, c3, _, _, by omega, by omega, by omega, by simp; omega, fun k hk => by
                rcases List.mem_append.1 hk with hk | hk
                · exact HSh.out k hk
                · simp at hk; subst hk; simp, M5⟩
        · go_wp2_with fail
          go_meet
          case rel => exact ⟨_, V, A, c, us, L, by omega, by omega, by omega, by omega, HSh.out, Ma.out⟩
      case rest =>
      obtain ⟨wz, rfl⟩ : ∃ x : World, x = wc := ⟨_, rfl⟩
      obtain ⟨q', V', A', c', us', L', hq', hV0', hV1', hl', hs', Mz⟩ := hcut.out
      have Mz := Lib.hid Mz
      have HSz' := Lib.hid hs'
      clear hcut hs'
      obtain ⟨d0, d1⟩ := Mz.out.db.two
      obtain ⟨rx0, rx1⟩ := Mz.out.rb.two
      have rz0 := Mz.out.rb.frozen 0
      have rz1 := Mz.out.rb.frozen 1
      go_wp2_with fail
      obtain ⟨u0, u1⟩ := (Mz.out.rb.put2 (.int .i64 V') (.slice A' L'.length c')).two
      refine bodyPost_ret (v := .agg #[.int .i64 V', .slice A' L'.length c']) (by simp [results, Try.results71, go_sem, u0, u1]) rfl ⟨⟨V', L', A', c', us', rfl, hV0', hV1', hl', HSz'.out, Mz.out.rows.set2 Mz.out.rb (by decide) (by decide) _ _⟩, ⟨q', by omega, ?_⟩, ?_⟩
      · exact (Mz.out.rd.set ⟨w.heap.size, 0, none⟩ _ hgl).set ⟨w.heap.size, 1, none⟩ _ hgl
      · exact gput (gput Mz.out.gr ⟨w.heap.size, 0, none⟩ _ (Nat.le_refl _)) ⟨w.heap.size, 1, none⟩ _ (Nat.le_refl _)
    have hj63 : (j : Int) < (n : Int) := by omega
    go_upto_if 42 with (first
      | (go_at_call 61; (with_reducible refine (pick_any g q 3 _ (by exact M9.out.rd) (by omega) (by omega)).mono ?_); rintro e wa ⟨hv, hR2, hG2⟩; obtain ⟨va, rfl, hka0, hka1⟩ := hv.pos (by omega); have ka : IntKind.i64.wrap (1 + va) = 1 + va := wrap_eq (by omega) (by omega); have Ma := Lib.hid (M9.out.pick hR2 hG2); clear hv hR2 hG2)
      | (go_at_call 61; (with_reducible refine (pick_any g (q + 1) 40 _ (by exact Ma.out.rd) (by omega) (by omega)).mono ?_); rintro e wb ⟨hv, hR2, hG2⟩; obtain ⟨vb, rfl, hkb0, hkb1⟩ := hv.pos (by omega); have Mb := Lib.hid (Ma.out.pick hR2 hG2); clear hv hR2 hG2))
    go_cut [7] (fun s7 wc => ∃ (kk qc : Nat), s7 = .int .i64 (kk : Int) ∧ kk ≤ 11 ∧ qc ≤ q + 3 ∧ Hid (CM w g w1.heap.size qc V A c us L wc))
    case first =>
      obtain ⟨va, rfl⟩ := Int.eq_ofNat_of_zero_le hka0
      go_wp2_with (go_at_call 61; (with_reducible refine (pick_any g (q + 1 + 1) 2 _ (by exact Mb.out.rd) (by omega) (by omega)).mono ?_); rintro e wd ⟨hv, hR2, hG2⟩; obtain ⟨vd, rfl, hkd0, hkd1⟩ := hv.pos (by omega); obtain ⟨vd, rfl⟩ := Int.eq_ofNat_of_zero_le hkd0; have kd : IntKind.i64.wrap ((vd : Int) * 11) = (vd : Int) * 11 := wrap_eq (by omega) (by omega); have Md := Lib.hid (Mb.out.pick hR2 hG2); clear hv hR2 hG2)
      · go_meet
        case rel => exact ⟨vd * 11, _, by go_num, by omega, by omega, Md⟩
      · go_meet
        case rel => exact ⟨1 + va, _, by go_num, by omega, by omega, Mb⟩
    case rest =>
    obtain ⟨we, rfl⟩ : ∃ x : World, x = wc := ⟨_, rfl⟩
    obtain ⟨kk, qe, rfl, hkk, hqe, Me⟩ := hcut
    clear Ma Mb
    have hwe : w.heap.size ≤ we.heap.size := Me.out.gr.size
    have HFar := Lib.hid Me.out.far
    go_wp2_with fail
    go_loopw [6, 8] (fun s6 s8 wi => ∃ (i qi ci : Nat) (Ai : Option Addr) (l : List Int), i ≤ kk ∧ qi ≤ qe + 2 * i ∧ l.length = i ∧ s6 = .slice Ai i ci ∧ Hid (we.heap.size ≤ wi.heap.size) ∧ Hid (wi.ownsRow we.heap.size 3 1 (.slice Ai i ci) i (l.map (.int .i64))) ∧ Hid (CM w g w1.heap.size qi V A c us L wi) ∧ s8 = .int .i64 (i : Int)) (fun _ s8 _ => kk - (intOf s8).toNat)
    case atStart => exact ⟨0, qe, 0, none, [], Nat.zero_le _, by omega, rfl, rfl, Nat.le_refl _, World.ownsRow_nil _ _ _ _, Me, rfl⟩
    case round =>
      obtain ⟨i, qi, ci, Ai, l, hi, hqi, hli, rfl, HSz, HOi, Mi, rfl⟩ := hrel
      by_cases hlt2 : i < kk
      case neg =>
        obtain rfl : i = kk := by omega
        obtain ⟨wf, rfl⟩ : ∃ y : World, y = wr := ⟨_, rfl⟩
        obtain ⟨d0, d1⟩ := Mi.out.db.two
        have hlL : L.length ≤ 62 := by have := hLj.out; omega
        have hne1 := own_ne_blk Mi.out.rows.out Mi.out.db (by decide)
        have HNE := Lib.hid hne1
        clear hne1
        go_wp2_with (at_builtin; refine wpList_append_src rfl _ _ 39 rfl w.heap.size 23 i23 (.slice none 0 0) 1 24 Try.underlying39 Hi.out.1 Hi.out.2.1 Hi.out.2.2.1 Hi.out.2.2.2 rfl (by decide) _ L.length us rfl (by exact Mi.out.rows.out.alloc _) (some ⟨wf.heap.size, 0, none⟩) 1 1 [.slice Ai i ci] rfl (by exact .inr ⟨_, rfl, Blk.news (Blk.new_at _ 23 #[.slice Ai i ci] rfl)⟩) rfl (by simp [Value.oneCell']) (by unfold maxLen; omega) (by omega) (by have := HSz.out; simp; omega) ?_; intro A3 c3 wz ho3 hg3 hor3; have hg4 : World.grownBy _ wz (Value.slice A L.length c).ownBlock := hg3; have HG4 := Lib.hid hg4; have hdb := (Mi.out.db.alloc (.cells #[.slice Ai i ci] 23)).grown hg4 (fun e => HNE.out e.symm); obtain ⟨z0, z1⟩ := hdb.two; have zf1 := hdb.frozen 1; have HO3 := Lib.hid ho3; clear hg3 hg4 hor3 hdb ho3)
        go_roundw
        case rel =>
          have hlow : w.heap.size ≤ we.heap.size := hwe
          have M5 : CM w g w1.heap.size qi V A3 c3 (us ++ [.slice Ai l.length ci]) (L ++ [l]) (wz.setCell ⟨w1.heap.size, 1, none⟩ (.slice A3 (L.length + 1) c3)) :=
            (Mi.out.alloc (.cells #[.slice Ai i ci] 23)).app HG4.out (by rw [hli]; exact HO3.out) (by rw [hli]; exact own_mono (HOi.out.alloc _) hlow) (fun u hu y hy e => by
              rw [hli] at e
              have h1 := HFar.out u hu y hy
              have h2 := (HOi.out.lt y e).1
              omega)
          exact ⟨j + 1, qi, A3, c3, us ++ [.slice Ai l.length ci], L ++ [l], by omega, by omega, Lib.hid (by simp [hLj.out]), Lib.hid (fun k hk => by
            rcases List.mem_append.1 hk with hk | hk
            · exact HSh.out k hk
            · simp at hk; subst hk; omega), Lib.hid M5, by go_num⟩
        case measure => simp [intOf]; omega
      have hi63 : (i : Int) < (kk : Int) := by omega
      obtain ⟨d0, d1⟩ := Mi.out.db.two
      go_upto_if 58 with (first
        | (go_at_call 61; (with_reducible refine (pick_any g qi V _ (by exact Mi.out.rd) (by omega) (by omega)).mono ?_); rintro e wa ⟨hv, hR2, hG2⟩; obtain ⟨va, rfl, hka0, hka1⟩ := hv.pos (by omega); have ka : IntKind.i64.wrap (1 + va) = 1 + va := wrap_eq (by omega) (by omega); have Ma := Lib.hid (Mi.out.pick hR2 hG2); have HOa := Lib.hid (own_pick HOi.out hG2 (by omega)); have HSa : Hid (we.heap.size ≤ wa.heap.size) := Nat.le_trans HSz.out hG2.size; clear hv hR2 hG2 d0 d1)
        | (go_at_call 61; (with_reducible refine (pick_any g (qi + 1) 2 _ (by exact Ma.out.rd) (by omega) (by omega)).mono ?_); rintro e wb ⟨hv, hR2, hG2⟩; obtain ⟨vb, rfl, hkb0, hkb1⟩ := hv.pos (by omega); have Mb := Lib.hid (Ma.out.pick hR2 hG2); have HOb := Lib.hid (own_pick HOa.out hG2 (by omega)); have HSb : Hid (we.heap.size ≤ wb.heap.size) := Nat.le_trans HSa.out hG2.size; clear hv hR2 hG2))
      go_cut [9] (fun s9 wc => ∃ x : Int, s9 = .int .i64 x ∧ wc = wb)
      case first =>
        go_wp2_with fail
        · go_meet
          case rel => exact ⟨_, rfl, rfl⟩
        · go_meet
          case rel => exact ⟨_, rfl, rfl⟩
      case rest =>
      obtain ⟨x, rfl, rfl⟩ := hcut
      obtain ⟨wf, rfl⟩ : ∃ y : World, y = wc := ⟨_, rfl⟩
      go_wp2_with (at_builtin; refine wpList_append_src rfl _ _ 23 rfl we.heap.size 3 i3 (.int .i64 0) 1 8 Try.underlying23 Ii.out.1 Ii.out.2.1 Ii.out.2.2.1 Ii.out.2.2.2 rfl (by decide) _ i (l.map (.int .i64)) rfl (by exact HOb.out.alloc _) (some ⟨wf.heap.size, 0, none⟩) 1 1 [.int .i64 x] rfl (by exact .inr ⟨_, rfl, Blk.news (Blk.new_at _ 3 #[.int .i64 x] rfl)⟩) rfl (by simp [Value.oneCell']) (by unfold maxLen; omega) (by omega) (by have := HSb.out; simp; omega) ?_; intro A3 c3 wz ho3 hg3 hor3)
      replace hg3 : World.grownBy _ wz (Value.slice Ai i ci).ownBlock := hg3
      go_roundw
      case rel => exact ⟨i + 1, qi + 1 + 1, c3, A3, l ++ [x], by omega, by omega, by simp [hli], rfl, Nat.le_trans HSb.out (Nat.le_trans (by simp) hg3.size), by show World.ownsRow _ _ _ _ _ _ _; simpa using ho3, (Mb.out.alloc _).row (HOb.out.alloc _) hg3 HFar.out hwe, by go_num⟩
      case measure => simp [intOf]; omega
end Go.Proofs.Ytffefegjnbfobaa
