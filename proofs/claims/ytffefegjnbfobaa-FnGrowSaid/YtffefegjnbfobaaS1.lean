/- Walks of the reference: l1In, l7Vars, l7VarOf, l7Order. -/
import Derived.Test.YtffefegjnbfobaaApp
import Derived.StillTailTactics
import Derived.Deep.AppendLies
import Derived.Deep.DeepCutAuto
import Derived.Deep.CutBlock
namespace Go.Proofs.Ytffefegjnbfobaa
open Go.RowKit
open B

theorem l1In_any (n lo hi : Int) (w : World) : Calls Try.prog 66 #[.int .i64 n, .int .i64 lo, .int .i64 hi] w fun e w' => e = .returned (.bool (decide (lo ≤ n ∧ n ≤ hi))) ∧ w = w' := by
  by_cases h : lo ≤ n
  · go_enter Try.func66, Try.ntmps66
    go_wp2
    go_ret
    exact ⟨by simp [h], rfl⟩
  · have h' : decide (lo ≤ n) = false := by simpa using h
    go_enter Try.func66, Try.ntmps66
    go_wp2
    go_ret
    exact ⟨by simp, rfl⟩
theorem l1In_is (n lo hi : Int) (b : Bool) (h : decide (lo ≤ n ∧ n ≤ hi) = b) (w : World) : Calls Try.prog 66 #[.int .i64 n, .int .i64 lo, .int .i64 hi] w fun e w' => e = .returned (.bool b) ∧ w = w' := by
  subst h; exact l1In_any n lo hi w
theorem l7Vars_is (n : Int) (b : Bool) (h : decide (0 ≤ n ∧ n ≤ 13) = b) (w : World) : Calls Try.prog 65 #[.int .i64 n] w fun e w' => e = .returned (.bool b) ∧ w = w' := by
  go_enter Try.func65, Try.ntmps65
  go_wp2_with (go_at_call 66; refine (l1In_is _ _ _ b h _).mono ?_; rintro e w' ⟨rfl, rfl⟩)
  go_ret
  exact ⟨rfl, rfl⟩

theorem info3 : (Try.prog.info? 3).map (fun i => (i.zero, i.size, i.bytes)) = some (some (.int .i64 0), 1, 8) := by kernel_rfl
theorem ints_one (l : List Int) : ∀ u ∈ l.map (Value.int .i64), u.oneCell' = true := by
  intro u hu
  obtain ⟨x, _, rfl⟩ := List.mem_map.1 hu
  rfl
theorem own_int {w : World} {base : Nat} {A : Option Addr} {c : Nat} {l : List Int} (h : w.ownsRow base 3 1 (.slice A l.length c) l.length (l.map (.int .i64))) {k : Nat} (hk : k < l.length) :
    ∃ g, A = some ⟨g, 0, none⟩ ∧ g < w.heap.size ∧ base ≤ g ∧ w.cell? ⟨g, k, none⟩ = some (.int .i64 l[k]) := by
  obtain ⟨g, cap, h1, h2, h3⟩ := h.form (by omega)
  injection h1 with h1 _ _
  subst h1
  refine ⟨g, rfl, h3, h2, ?_⟩
  rw [h.cellAt k (by omega), List.getElem?_map, List.getElem?_eq_getElem hk]; rfl

/-- What l7Order hands back: the list grown to 'out', in its own block or a new one. -/
def OrdPost (B : Nat) (w : World) (v : Value) (out : List Int) (e : Ending) (w' : World) : Prop :=
  ∃ A' c', e = .returned (.slice A' out.length c') ∧ w'.ownsRow B 3 1 (.slice A' out.length c') out.length (out.map (.int .i64)) ∧ w.grownBy w' v.ownBlock ∧
      ((Value.slice A' out.length c').ownBlock = v.ownBlock ∨ ∃ g, (Value.slice A' out.length c').ownBlock = some g ∧ w.heap.size ≤ g)

set_option maxRecDepth 100000 in
set_option maxHeartbeats 600000 in
theorem order_any (B : Nat) (V R : Int) (NA : Option Addr) (cap vars : Nat) (ns : List Nd) (hf : Fm vars ns) (hlen : ns.length ≤ 1000000) : ∀ (fuel : Nat) (r : Int) (d : List Int) (A : Option Addr) (c : Nat) (w : World), r.toNat ≤ fuel → isP ns r → B ≤ w.heap.size →
    (∀ W, Below B w W → NAt W NA ns) → Done ns d → w.ownsRow B 3 1 (.slice A d.length c) d.length (d.map (.int .i64)) →
    Calls Try.prog 134 #[.agg #[.int .i64 V, .slice NA ns.length cap, .int .i64 R], .int .i64 r, .slice A d.length c] w fun e w' => OrdPost B w (.slice A d.length c) (ord ns r d) e w' := by
  intro fuel
  induction fuel with
  | zero =>
    intro r d A c w hr hp hB hN hd ho
    have h2 : r < 2 := by omega
    have hres : Hid (ord ns r d = d) := ord_small ns h2 d
    have HO := Lib.hid ho
    clear ho hN
    go_enter Try.func134, Try.ntmps134
    go_wp2_with fail
    go_ret
    rw [hres.out]
    exact ⟨A, c, rfl, HO.out.alloc _, World.grownBy_alloc _ _ _, .inl rfl⟩
  | succ fuel ih =>
    intro r d A c w hr hp hB hN hd ho
    have hdl := hd.len
    by_cases h2 : r < 2
    · have hres : Hid (ord ns r d = d) := ord_small ns h2 d
      have HO := Lib.hid ho
      clear ho hN ih
      go_enter Try.func134, Try.ntmps134
      go_wp2_with fail
      go_ret
      rw [hres.out]
      exact ⟨A, c, rfl, HO.out.alloc _, World.grownBy_alloc _ _ _, .inl rfl⟩
    have HO := Lib.hid ho
    have HN := Lib.hid hN
    have HD := Lib.hid hd
    clear ho hN hd
    by_cases hm : r ∈ d
    · have hres : Hid (ord ns r d = d) := ord_mem ns hm
      obtain ⟨m, hml, hmr⟩ := List.getElem_of_mem hm
      have HMR := Lib.hid hmr
      clear hm hmr ih
      go_enter Try.func134, Try.ntmps134
      go_wp2_with fail
      go_loop [7] (fun i => ∃ k : Nat, k ≤ m ∧ i = .int .i64 k) (fun i => d.length - (intOf i).toNat)
      case atStart => exact ⟨0, Nat.zero_le _, rfl⟩
      case round =>
        obtain ⟨k, hk, rfl⟩ := hrel
        have hkl : k < d.length := by omega
        obtain ⟨g, rfl, hg, hBg, hc⟩ := own_int HO.out hkl
        have hc' : (w.alloc (.cells #[.int .i64 V, .slice NA ns.length cap, .int .i64 R] 28)).cell? ⟨g, k, none⟩ = some (.int .i64 d[k]) := by rw [World.cell?_alloc_past _ _ _ hg]; exact hc
        clear hc
        by_cases he : d[k] = r
        · have d1 : (d[k] == r) = true := by simpa using he
          have HE := Lib.hid he
          clear he
          generalize d[k] = x at *
          go_wp2_with fail
          go_ret
          rw [hres.out]
          exact ⟨_, c, rfl, HO.out.alloc _, World.grownBy_alloc _ _ _, .inl rfl⟩
        · have d1 : (d[k] == r) = false := by simpa using he
          have hkm : k ≠ m := by rintro rfl; exact he HMR.out
          clear he
          generalize d[k] = x at *
          go_wp2_with fail
          go_round
          case rel => exact ⟨k + 1, by omega, by go_num⟩
          case measure => simp [intOf]; omega
    · have hres : Hid (ord ns r d = ord ns (nd ns r).hi (ord ns (nd ns r).lo d) ++ [r]) := ord_new hf (by omega) hp.2 hm
      have HM := Lib.hid hm
      clear hm
      have IH := Lib.hid ih
      clear ih
      go_enter Try.func134, Try.ntmps134
      go_wp2_with fail
      go_loop [7] (fun i => ∃ k : Nat, k ≤ d.length ∧ i = .int .i64 k) (fun i => d.length - (intOf i).toNat)
      case atStart => exact ⟨0, Nat.zero_le _, rfl⟩
      case round =>
        obtain ⟨k, hk, rfl⟩ := hrel
        by_cases hkl : k < d.length
        · obtain ⟨g, rfl, hg, hBg, hc⟩ := own_int HO.out hkl
          have hc' : (w.alloc (.cells #[.int .i64 V, .slice NA ns.length cap, .int .i64 R] 28)).cell? ⟨g, k, none⟩ = some (.int .i64 d[k]) := by rw [World.cell?_alloc_past _ _ _ hg]; exact hc
          clear hc
          have d1 : (d[k] == r) = false := by
            rw [beq_eq_false_iff_ne]; intro e; exact HM.out (e ▸ List.getElem_mem hkl)
          generalize d[k] = x at *
          go_wp2_with fail
          go_round
          case rel => exact ⟨k + 1, by omega, by go_num⟩
          case measure => simp [intOf]; omega
        · have hal : Below B w (w.alloc (.cells #[.int .i64 V, .slice NA ns.length cap, .int .i64 R] 28)) := (Below.refl _ _).alloc hB _
          obtain ⟨nb, noff, rfl, x0, x1, x2⟩ := (HN.out _ hal).nd (Below.refl _ _) (p := r) (by omega) hp.2
          go_wp2_with fail
          have hl := isP_lo hf (p := r) (by omega) hp.2
          have hh := isP_hi hf (p := r) (by omega) hp.2
          have HLH := Lib.hid (And.intro hl hh)
          have Hal := Lib.hid hal
          clear hl hh hal
          have hp2 := hp.2
          have e2 : IntKind.i64.wrap (r - 2) = r - 2 := wrap_eq (by omega) (by omega)
          have hx0 : 0 ≤ r - 2 := by omega
          have hx1 : r - 2 < (ns.length : Int) := by omega
          have hbase : (w.alloc (.cells #[.int .i64 V, .slice (some ⟨nb, noff, none⟩) ns.length cap, .int .i64 R] 28)).heap.size = w.heap.size + 1 := by simp
          have HX := Lib.hid hbase
          clear hbase
          go_cut [2] (fun s2 wc => ∃ A1 c1, s2 = .slice A1 (ord ns (nd ns r).lo d).length c1 ∧ wc.ownsRow B 3 1 (.slice A1 (ord ns (nd ns r).lo d).length c1) (ord ns (nd ns r).lo d).length ((ord ns (nd ns r).lo d).map (.int .i64)) ∧
            (w.alloc (.cells #[.int .i64 V, .slice (some ⟨nb, noff, none⟩) ns.length cap, .int .i64 R] 28)).grownBy wc (Value.slice A d.length c).ownBlock ∧
            ((Value.slice A1 (ord ns (nd ns r).lo d).length c1).ownBlock = (Value.slice A d.length c).ownBlock ∨ ∃ g, (Value.slice A1 (ord ns (nd ns r).lo d).length c1).ownBlock = some g ∧ w.heap.size + 1 ≤ g))
          case first =>
            go_region_with (go_at_call 134; refine (IH.out (nd ns r).lo d A c _ (by have := HLH.out.1.2; have := HLH.out.1.1.1; omega) HLH.out.1.1 (by simp; omega) (fun W hW => HN.out W (Hal.out.drew.trans hW)) HD.out (HO.out.alloc _)).mono ?_; rintro e w1 ⟨A1, c1, rfl, ho1, hg1, hor1⟩)
            all_goals
              go_wp2_with fail
              go_meet
              case rel =>
                refine ⟨A1, c1, rfl, ho1, ⟨hg1.os, hg1.tape, hg1.output, hg1.size, hg1.block⟩, ?_⟩
                rcases hor1 with h | ⟨g, h, hg⟩
                · exact .inl h
                · exact .inr ⟨g, h, by have := HX.out; rw [← this]; exact hg⟩
          case rest =>
            obtain ⟨A1, c1, rfl, ho1, hg1, hor1⟩ := hcut
            have HD1 := Lib.hid (HD.out.ord hf HLH.out.1.1)
            have hl1 := HD1.out.len
            generalize hd1 : ord ns (nd ns r).lo d = d1 at *
            have Hd1 := Lib.hid hd1
            clear hd1
            have hown : ∀ x, (Value.slice A d.length c).ownBlock = some x → B ≤ x ∧ x < w.heap.size := fun x hx => HO.out.lt x hx
            have hbc : Below B w wc := Hal.out.grown hg1 (by have := HX.out; omega) fun x hx => (hown x hx).1
            have hbox := (Blk.new w 28 #[.int .i64 V, .slice (some ⟨nb, noff, none⟩) ns.length cap, .int .i64 R]).grown hg1 (fun e => by have := hown _ e.symm; omega)
            clear x0 x1 x2
            obtain ⟨nb', noff', hE, x0, x1, x2⟩ := (HN.out _ hbc).nd (Below.refl _ _) (p := r) (by omega) hp.2
            obtain ⟨rfl, rfl⟩ : nb = nb' ∧ noff = noff' := by simpa using hE
            clear hE
            have y0 : wc.cell? ⟨w.heap.size, 0, none⟩ = some (.int .i64 V) := by rw [hbox.cell]; rfl
            have y1 : wc.cell? ⟨w.heap.size, 1, none⟩ = some (.slice (some ⟨nb, noff, none⟩) ns.length cap) := by rw [hbox.cell]; rfl
            have y2 : wc.cell? ⟨w.heap.size, 2, none⟩ = some (.int .i64 R) := by rw [hbox.cell]; rfl
            have HO1 := Lib.hid ho1
            have Hbc := Lib.hid hbc
            have Hg1 := Lib.hid hg1
            have Hor1 := Lib.hid hor1
            have hsz := hg1.size
            have hsB : B ≤ wc.heap.size := by have := HX.out; omega
            clear ho1 hbc hg1 hor1 hown hbox
            obtain ⟨wo, rfl⟩ : ∃ wo : World, wo = wc := ⟨_, rfl⟩
            go_wp2_with fail
            go_cut [2] (fun s2 wd => ∃ A2 c2, s2 = .slice A2 (ord ns (nd ns r).hi d1).length c2 ∧ wd.ownsRow B 3 1 (.slice A2 (ord ns (nd ns r).hi d1).length c2) (ord ns (nd ns r).hi d1).length ((ord ns (nd ns r).hi d1).map (.int .i64)) ∧
              wo.grownBy wd (Value.slice A1 d1.length c1).ownBlock ∧
              ((Value.slice A2 (ord ns (nd ns r).hi d1).length c2).ownBlock = (Value.slice A1 d1.length c1).ownBlock ∨ ∃ g, (Value.slice A2 (ord ns (nd ns r).hi d1).length c2).ownBlock = some g ∧ wo.heap.size ≤ g))
            case first =>
              go_region_with (go_at_call 134; refine (IH.out (nd ns r).hi d1 A1 c1 _ (by have := HLH.out.2.2; have := HLH.out.2.1.1; omega) HLH.out.2.1 (by exact hsB) (by exact fun W hW => HN.out W (Hbc.out.drew.trans hW)) HD1.out (by exact HO1.out.drew)).mono ?_; rintro e w2 ⟨A2, c2, rfl, ho2, hg2, hor2⟩)
              all_goals
                go_wp2_with fail
                go_meet
                case rel => exact ⟨A2, c2, rfl, ho2, ⟨hg2.os, hg2.tape, hg2.output, hg2.size, hg2.block⟩, hor2⟩
            case rest =>
              obtain ⟨A2, c2, rfl, ho2, hg2, hor2⟩ := hcut
              have HD2 := HD1.out.ord hf HLH.out.2.1
              have hl2 := HD2.len
              generalize hd2 : ord ns (nd ns r).hi d1 = d2 at *
              have Hfin : Hid (ord ns r d = d2 ++ [r]) := hres
              have HO2 := Lib.hid ho2
              have Hg2 := Lib.hid hg2
              have Hor2 := Lib.hid hor2
              have hsd := hg2.size
              obtain ⟨i3, hi, hz0, hz1, hz2⟩ := info_parts info3
              have Hi := Lib.hid hi
              have Hz0 := Lib.hid hz0
              have Hz1 := Lib.hid hz1
              have Hz2 := Lib.hid hz2
              clear ho2 hg2 hor2 hd2 HD2 hi hz0 hz1 hz2 y0 y1 y2 x0 x1 x2
              go_wp2_with (at_builtin; refine wpList_append_src rfl _ _ 23 rfl B 3 i3 (.int .i64 0) 1 8 Try.underlying23 Hi.out Hz0.out Hz1.out Hz2.out rfl (by decide) _ d2.length (d2.map (.int .i64)) rfl (by exact HO2.out.alloc _) (some ⟨wc.heap.size, 0, none⟩) 1 1 [.int .i64 r] rfl (by exact .inr ⟨_, rfl, Blk.news (Blk.new_at _ 3 #[.int .i64 r] rfl)⟩) rfl (by simp [Value.oneCell']) (by unfold maxLen; omega) (by omega) (by simp; omega) ?_; intro A3 c3 w3 ho3 hg3 hor3)
              go_ret
              rw [Hfin.out]
              rw [show d2.length + 1 = (d2 ++ [r]).length by simp] at ho3 hor3 ⊢
              have hszX := HX.out
              have hs1 := Hg1.out.size
              have hs2 := Hg2.out.size
              have hs3 := hg3.size
              simp only [World.size_alloc] at hs3
              have e1 : ∀ x, x < w.heap.size → some x ≠ (Value.slice A d.length c).ownBlock → some x ≠ (Value.slice A1 d1.length c1).ownBlock := fun x hx hne => by
                rcases Hor1.out with h | ⟨g, h, hg⟩
                · rw [h]; exact hne
                · rw [h]; intro e; injection e with e; omega
              have e2 : ∀ x, x < w.heap.size → some x ≠ (Value.slice A d.length c).ownBlock → some x ≠ (Value.slice A2 d2.length c2).ownBlock := fun x hx hne => by
                rcases Hor2.out with h | ⟨g, h, hg⟩
                · rw [h]; exact e1 x hx hne
                · rw [h]; intro e; injection e with e; omega
              have ho3' : w3.ownsRow B 3 1 (.slice A3 (d2 ++ [r]).length c3) (d2 ++ [r]).length ((d2 ++ [r]).map (.int .i64)) := by simpa using ho3
              refine ⟨A3, c3, rfl, ho3', ⟨?_, ?_, ?_, by omega, fun x hx hne => ?_⟩, ?_⟩
              · exact hg3.os.trans (Hg2.out.os.trans Hg1.out.os)
              · exact hg3.tape.trans (Hg2.out.tape.trans Hg1.out.tape)
              · exact hg3.output.trans (Hg2.out.output.trans Hg1.out.output)
              · refine (hg3.block x (by simp; omega) (e2 x hx hne)).trans ((Below.heap_alloc _ _ _ (by omega)).trans ((Hg2.out.block x (by omega) (e1 x hx hne)).trans ((Hg1.out.block x (by omega) hne).trans (Below.heap_alloc _ _ _ hx))))
              · rcases hor3 with h | h
                · rcases Hor2.out with h2 | ⟨g, h2, hg⟩
                  · rcases Hor1.out with h1 | ⟨g, h1, hg⟩
                    · exact .inl (h.trans (h2.trans h1))
                    · exact .inr ⟨g, h.trans (h2.trans h1), by omega⟩
                  · exact .inr ⟨g, h.trans h2, by omega⟩
                · exact .inr ⟨_, h, by simp; omega⟩
end Go.Proofs.Ytffefegjnbfobaa
