/- A region that draws its order, whose operations read and whose callees may make memory of their own: one walk in the order of the text, in the class of the worlds that only grew; Walks of the reference: l1In, l7Vars, l7VarOf, l7Order; Walks of the reference: l7VarOf, BddOk; spec.l1Bit and spec.l7Has, walked. -/
import Derived.WalkKit
import Derived.Deep.QuietTactic
import Derived.BigQuiet
import Derived.Test.YtffefegjnbfobaaBuild
import Derived.StillTailTactics
import Derived.Deep.AppendLies
import Derived.Deep.DeepCutAuto
import Derived.Deep.CutBlock
import Derived.Test.YtffefegjnbfobaaD
namespace Go.Proofs.Ytffefegjnbfobaa
open Go.RowKit

/-- The worlds that grew out of X. -/
def Ext (X : World) : Type := { w' : World // Below X.heap.size X w' }

instance (X : World) : Nonempty (Ext X) := ⟨⟨X, Below.refl _ _⟩⟩

section
variable {P : Program} {X : World}
theorem wp_region_ext {id : Nat} {Q : Exit → Act → World → Prop} {a : Act} {l : List Oper} (hm : P.follows .mixedOrders = true) (hB : Region.lexB .any l.toArray = true)
    (h : wpQuiet P l.toArray (fun w' => ∃ x : Ext X, w' = x.1) (fun a' => ∀ w', (∃ x : Ext X, w' = x.1) → Q .normal a' w') l a) : (Code.region id l.toArray true).wp P Q a X :=
  wp_region_quiet (C := fun w' => ∃ x : Ext X, w' = x.1) hm hB ⟨⟨_, (Below.refl X.heap.size X).drew⟩, rfl⟩ (by simpa using h)

theorem ext_same {f : FuncId} {args : Array Value} {v : Value} (x : Ext X) (h : Calls P f args x.1 fun e w' => e = .returned v ∧ x.1 = w') : Calls P f args x.1 fun e w'' => e = .returned v ∧ ∃ y : Ext X, w'' = y.1 :=
  h.mono fun _ _ ⟨he, hw⟩ => ⟨he, x, hw.symm⟩
theorem ext_below {f : FuncId} {args : Array Value} {v : Value} (x : Ext X) (h : Calls P f args x.1 fun e w' => e = .returned v ∧ Below x.1.heap.size x.1 w') : Calls P f args x.1 fun e w'' => e = .returned v ∧ ∃ y : Ext X, w'' = y.1 :=
  h.mono fun _ w'' ⟨he, hw⟩ => ⟨he, ⟨w'', x.2.trans (hw.mono x.2.size)⟩, rfl⟩
theorem ext_from {B : Nat} {w : World} (h : Below B w X) (hB : B ≤ X.heap.size) (x : Ext X) : Below B w x.1 := h.trans (x.2.mono hB)
theorem ext_cell {a : Addr} {v : Value} (h : X.cell? a = some v) (hb : a.block < X.heap.size) (x : Ext X) : x.1.cell? a = some v := (x.2.cell hb).trans h
end

end Go.Proofs.Ytffefegjnbfobaa
namespace Go.Proofs.Ytffefegjnbfobaa
open Go.RowKit
open B

theorem l1In_any (n lo hi : Int) (w : World) : Calls Try.prog 66 #[.int .i64 n, .int .i64 lo, .int .i64 hi] w fun e w' => e = .returned (.bool (decide (lo ≤ n ∧ n ≤ hi))) ∧ w = w' := by
  by_cases h : lo ≤ n
  · go_enter Try.func66, Try.ntmps66
    go_wp2
    go_ret
    exact ⟨by simp [h], rfl⟩
  · have h' : decide (lo ≤ n) = false := by simpa using h
    go_enter Try.func66, Try.ntmps66
    go_wp2
    go_ret
    exact ⟨by simp, rfl⟩
theorem l1In_is (n lo hi : Int) (b : Bool) (h : decide (lo ≤ n ∧ n ≤ hi) = b) (w : World) : Calls Try.prog 66 #[.int .i64 n, .int .i64 lo, .int .i64 hi] w fun e w' => e = .returned (.bool b) ∧ w = w' := by
  subst h; exact l1In_any n lo hi w
theorem l7Vars_is (n : Int) (b : Bool) (h : decide (0 ≤ n ∧ n ≤ 13) = b) (w : World) : Calls Try.prog 65 #[.int .i64 n] w fun e w' => e = .returned (.bool b) ∧ w = w' := by
  go_enter Try.func65, Try.ntmps65
  go_wp2_with (go_at_call 66; refine (l1In_is _ _ _ b h _).mono ?_; rintro e w' ⟨rfl, rfl⟩)
  go_ret
  exact ⟨rfl, rfl⟩

theorem info3 : (Try.prog.info? 3).map (fun i => (i.zero, i.size, i.bytes)) = some (some (.int .i64 0), 1, 8) := by kernel_rfl
theorem ints_one (l : List Int) : ∀ u ∈ l.map (Value.int .i64), u.oneCell' = true := by
  intro u hu
  obtain ⟨x, _, rfl⟩ := List.mem_map.1 hu
  rfl
theorem own_int {w : World} {base : Nat} {A : Option Addr} {c : Nat} {l : List Int} (h : w.ownsRow base 3 1 (.slice A l.length c) l.length (l.map (.int .i64))) {k : Nat} (hk : k < l.length) :
    ∃ g, A = some ⟨g, 0, none⟩ ∧ g < w.heap.size ∧ base ≤ g ∧ w.cell? ⟨g, k, none⟩ = some (.int .i64 l[k]) := by
  obtain ⟨g, cap, h1, h2, h3⟩ := h.form (by omega)
  injection h1 with h1 _ _
  subst h1
  refine ⟨g, rfl, h3, h2, ?_⟩
  rw [h.cellAt k (by omega), List.getElem?_map, List.getElem?_eq_getElem hk]; rfl

/-- What l7Order hands back: the list grown to 'out', in its own block or a new one. -/
def OrdPost (B : Nat) (w : World) (v : Value) (out : List Int) (e : Ending) (w' : World) : Prop :=
  ∃ A' c', e = .returned (.slice A' out.length c') ∧ w'.ownsRow B 3 1 (.slice A' out.length c') out.length (out.map (.int .i64)) ∧ w.grownBy w' v.ownBlock ∧
      ((Value.slice A' out.length c').ownBlock = v.ownBlock ∨ ∃ g, (Value.slice A' out.length c').ownBlock = some g ∧ w.heap.size ≤ g)

set_option maxRecDepth 100000 in
set_option maxHeartbeats 600000 in
theorem order_any (B : Nat) (V R : Int) (NA : Option Addr) (cap vars : Nat) (ns : List Nd) (hf : Fm vars ns) (hlen : ns.length ≤ 1000000) : ∀ (fuel : Nat) (r : Int) (d : List Int) (A : Option Addr) (c : Nat) (w : World), r.toNat ≤ fuel → isP ns r → B ≤ w.heap.size →
    (∀ W, Below B w W → NAt W NA ns) → Done ns d → w.ownsRow B 3 1 (.slice A d.length c) d.length (d.map (.int .i64)) →
    Calls Try.prog 134 #[.agg #[.int .i64 V, .slice NA ns.length cap, .int .i64 R], .int .i64 r, .slice A d.length c] w fun e w' => OrdPost B w (.slice A d.length c) (ord ns r d) e w' := by
  intro fuel
  induction fuel with
  | zero =>
    intro r d A c w hr hp hB hN hd ho
    have h2 : r < 2 := by omega
    have hres : Hid (ord ns r d = d) := ord_small ns h2 d
    have HO := Lib.hid ho
    clear ho hN
    go_enter Try.func134, Try.ntmps134
    go_wp2_with fail
    go_ret
    rw [hres.out]
    exact ⟨A, c, rfl, HO.out.alloc _, World.grownBy_alloc _ _ _, .inl rfl⟩
  | succ fuel ih =>
    intro r d A c w hr hp hB hN hd ho
    have hdl := hd.len
    by_cases h2 : r < 2
    · have hres : Hid (ord ns r d = d) := ord_small ns h2 d
      have HO := Lib.hid ho
      clear ho hN ih
      go_enter Try.func134, Try.ntmps134
      go_wp2_with fail
      go_ret
      rw [hres.out]
      exact ⟨A, c, rfl, HO.out.alloc _, World.grownBy_alloc _ _ _, .inl rfl⟩
    have HO := Lib.hid ho
    have HN := Lib.hid hN
    have HD := Lib.hid hd
    clear ho hN hd
    by_cases hm : r ∈ d
    · have hres : Hid (ord ns r d = d) := ord_mem ns hm
      obtain ⟨m, hml, hmr⟩ := List.getElem_of_mem hm
      have HMR := Lib.hid hmr
      clear hm hmr ih
      go_enter Try.func134, Try.ntmps134
      go_wp2_with fail
      go_loop [7] (fun i => ∃ k : Nat, k ≤ m ∧ i = .int .i64 k) (fun i => d.length - (intOf i).toNat)
      case atStart => exact ⟨0, Nat.zero_le _, rfl⟩
      case round =>
        obtain ⟨k, hk, rfl⟩ := hrel
        have hkl : k < d.length := by omega
        obtain ⟨g, rfl, hg, hBg, hc⟩ := own_int HO.out hkl
        have hc' : (w.alloc (.cells #[.int .i64 V, .slice NA ns.length cap, .int .i64 R] 28)).cell? ⟨g, k, none⟩ = some (.int .i64 d[k]) := by rw [World.cell?_alloc_past _ _ _ hg]; exact hc
        clear hc
        by_cases he : d[k] = r
        · have d1 : (d[k] == r) = true := by simpa using he
          have HE := Lib.hid he
          clear he
          generalize d[k] = x at *
          go_wp2_with fail
          go_ret
          rw [hres.out]
          exact ⟨_, c, rfl, HO.out.alloc _, World.grownBy_alloc _ _ _, .inl rfl⟩
        · have d1 : (d[k] == r) = false := by simpa using he
          have hkm : k ≠ m := by rintro rfl; exact he HMR.out
          clear he
          generalize d[k] = x at *
          go_wp2_with fail
          go_round
          case rel => exact ⟨k + 1, by omega, by go_num⟩
          case measure => simp [intOf]; omega
    · have hres : Hid (ord ns r d = ord ns (nd ns r).hi (ord ns (nd ns r).lo d) ++ [r]) := ord_new hf (by omega) hp.2 hm
      have HM := Lib.hid hm
      clear hm
      have IH := Lib.hid ih
      clear ih
      go_enter Try.func134, Try.ntmps134
      go_wp2_with fail
      go_loop [7] (fun i => ∃ k : Nat, k ≤ d.length ∧ i = .int .i64 k) (fun i => d.length - (intOf i).toNat)
      case atStart => exact ⟨0, Nat.zero_le _, rfl⟩
      case round =>
        obtain ⟨k, hk, rfl⟩ := hrel
        by_cases hkl : k < d.length
        · obtain ⟨g, rfl, hg, hBg, hc⟩ := own_int HO.out hkl
          have hc' : (w.alloc (.cells #[.int .i64 V, .slice NA ns.length cap, .int .i64 R] 28)).cell? ⟨g, k, none⟩ = some (.int .i64 d[k]) := by rw [World.cell?_alloc_past _ _ _ hg]; exact hc
          clear hc
          have d1 : (d[k] == r) = false := by
            rw [beq_eq_false_iff_ne]; intro e; exact HM.out (e ▸ List.getElem_mem hkl)
          generalize d[k] = x at *
          go_wp2_with fail
          go_round
          case rel => exact ⟨k + 1, by omega, by go_num⟩
          case measure => simp [intOf]; omega
        · have hal : Below B w (w.alloc (.cells #[.int .i64 V, .slice NA ns.length cap, .int .i64 R] 28)) := (Below.refl _ _).alloc hB _
          obtain ⟨nb, noff, rfl, x0, x1, x2⟩ := (HN.out _ hal).nd (Below.refl _ _) (p := r) (by omega) hp.2
          go_wp2_with fail
          have hl := isP_lo hf (p := r) (by omega) hp.2
          have hh := isP_hi hf (p := r) (by omega) hp.2
          have HLH := Lib.hid (And.intro hl hh)
          have Hal := Lib.hid hal
          clear hl hh hal
          have hp2 := hp.2
          have e2 : IntKind.i64.wrap (r - 2) = r - 2 := wrap_eq (by omega) (by omega)
          have hx0 : 0 ≤ r - 2 := by omega
          have hx1 : r - 2 < (ns.length : Int) := by omega
          have hbase : (w.alloc (.cells #[.int .i64 V, .slice (some ⟨nb, noff, none⟩) ns.length cap, .int .i64 R] 28)).heap.size = w.heap.size + 1 := by simp
          have HX := Lib.hid hbase
          clear hbase
          go_cut [2] (fun s2 wc => ∃ A1 c1, s2 = .slice A1 (ord ns (nd ns r).lo d).length c1 ∧ wc.ownsRow B 3 1 (.slice A1 (ord ns (nd ns r).lo d).length c1) (ord ns (nd ns r).lo d).length ((ord ns (nd ns r).lo d).map (.int .i64)) ∧
            (w.alloc (.cells #[.int .i64 V, .slice (some ⟨nb, noff, none⟩) ns.length cap, .int .i64 R] 28)).grownBy wc (Value.slice A d.length c).ownBlock ∧
            ((Value.slice A1 (ord ns (nd ns r).lo d).length c1).ownBlock = (Value.slice A d.length c).ownBlock ∨ ∃ g, (Value.slice A1 (ord ns (nd ns r).lo d).length c1).ownBlock = some g ∧ w.heap.size + 1 ≤ g))
          case first =>
            go_region_with (go_at_call 134; refine (IH.out (nd ns r).lo d A c _ (by have := HLH.out.1.2; have := HLH.out.1.1.1; omega) HLH.out.1.1 (by simp; omega) (fun W hW => HN.out W (Hal.out.drew.trans hW)) HD.out (HO.out.alloc _)).mono ?_; rintro e w1 ⟨A1, c1, rfl, ho1, hg1, hor1⟩)
            all_goals
              go_wp2_with fail
              go_meet
              case rel =>
                refine ⟨A1, c1, rfl, ho1, ⟨hg1.os, hg1.tape, hg1.output, hg1.size, hg1.block⟩, ?_⟩
                rcases hor1 with h | ⟨g, h, hg⟩
                · exact .inl h
                · exact .inr ⟨g, h, by have := HX.out; rw [← this]; exact hg⟩
          case rest =>
            obtain ⟨A1, c1, rfl, ho1, hg1, hor1⟩ := hcut
            have HD1 := Lib.hid (HD.out.ord hf HLH.out.1.1)
            have hl1 := HD1.out.len
            generalize hd1 : ord ns (nd ns r).lo d = d1 at *
            have Hd1 := Lib.hid hd1
            clear hd1
            have hown : ∀ x, (Value.slice A d.length c).ownBlock = some x → B ≤ x ∧ x < w.heap.size := fun x hx => HO.out.lt x hx
            have hbc : Below B w wc := Hal.out.grown hg1 (by have := HX.out; omega) fun x hx => (hown x hx).1
            have hbox := (Blk.new w 28 #[.int .i64 V, .slice (some ⟨nb, noff, none⟩) ns.length cap, .int .i64 R]).grown hg1 (fun e => by have := hown _ e.symm; omega)
            clear x0 x1 x2
            obtain ⟨nb', noff', hE, x0, x1, x2⟩ := (HN.out _ hbc).nd (Below.refl _ _) (p := r) (by omega) hp.2
            obtain ⟨rfl, rfl⟩ : nb = nb' ∧ noff = noff' := by simpa using hE
            clear hE
            have y0 : wc.cell? ⟨w.heap.size, 0, none⟩ = some (.int .i64 V) := by rw [hbox.cell]; rfl
            have y1 : wc.cell? ⟨w.heap.size, 1, none⟩ = some (.slice (some ⟨nb, noff, none⟩) ns.length cap) := by rw [hbox.cell]; rfl
            have y2 : wc.cell? ⟨w.heap.size, 2, none⟩ = some (.int .i64 R) := by rw [hbox.cell]; rfl
            have HO1 := Lib.hid ho1
            have Hbc := Lib.hid hbc
            have Hg1 := Lib.hid hg1
            have Hor1 := Lib.hid hor1
            have hsz := hg1.size
            have hsB : B ≤ wc.heap.size := by have := HX.out; omega
            clear ho1 hbc hg1 hor1 hown hbox
            obtain ⟨wo, rfl⟩ : ∃ wo : World, wo = wc := ⟨_, rfl⟩
            go_wp2_with fail
            go_cut [2] (fun s2 wd => ∃ A2 c2, s2 = .slice A2 (ord ns (nd ns r).hi d1).length c2 ∧ wd.ownsRow B 3 1 (.slice A2 (ord ns (nd ns r).hi d1).length c2) (ord ns (nd ns r).hi d1).length ((ord ns (nd ns r).hi d1).map (.int .i64)) ∧
              wo.grownBy wd (Value.slice A1 d1.length c1).ownBlock ∧
              ((Value.slice A2 (ord ns (nd ns r).hi d1).length c2).ownBlock = (Value.slice A1 d1.length c1).ownBlock ∨ ∃ g, (Value.slice A2 (ord ns (nd ns r).hi d1).length c2).ownBlock = some g ∧ wo.heap.size ≤ g))
            case first =>
              go_region_with (go_at_call 134; refine (IH.out (nd ns r).hi d1 A1 c1 _ (by have := HLH.out.2.2; have := HLH.out.2.1.1; omega) HLH.out.2.1 (by exact hsB) (by exact fun W hW => HN.out W (Hbc.out.drew.trans hW)) HD1.out (by exact HO1.out.drew)).mono ?_; rintro e w2 ⟨A2, c2, rfl, ho2, hg2, hor2⟩)
              all_goals
                go_wp2_with fail
                go_meet
                case rel => exact ⟨A2, c2, rfl, ho2, ⟨hg2.os, hg2.tape, hg2.output, hg2.size, hg2.block⟩, hor2⟩
            case rest =>
              obtain ⟨A2, c2, rfl, ho2, hg2, hor2⟩ := hcut
              have HD2 := HD1.out.ord hf HLH.out.2.1
              have hl2 := HD2.len
              generalize hd2 : ord ns (nd ns r).hi d1 = d2 at *
              have Hfin : Hid (ord ns r d = d2 ++ [r]) := hres
              have HO2 := Lib.hid ho2
              have Hg2 := Lib.hid hg2
              have Hor2 := Lib.hid hor2
              have hsd := hg2.size
              obtain ⟨i3, hi, hz0, hz1, hz2⟩ := info_parts info3
              have Hi := Lib.hid hi
              have Hz0 := Lib.hid hz0
              have Hz1 := Lib.hid hz1
              have Hz2 := Lib.hid hz2
              clear ho2 hg2 hor2 hd2 HD2 hi hz0 hz1 hz2 y0 y1 y2 x0 x1 x2
              go_wp2_with (at_builtin; refine wpList_append_src rfl _ _ 23 rfl B 3 i3 (.int .i64 0) 1 8 Try.underlying23 Hi.out Hz0.out Hz1.out Hz2.out rfl (by decide) _ d2.length (d2.map (.int .i64)) rfl (by exact HO2.out.alloc _) (some ⟨wc.heap.size, 0, none⟩) 1 1 [.int .i64 r] rfl (by exact .inr ⟨_, rfl, Blk.news (Blk.new_at _ 3 #[.int .i64 r] rfl)⟩) rfl (by simp [Value.oneCell']) (by unfold maxLen; omega) (by omega) (by simp; omega) ?_; intro A3 c3 w3 ho3 hg3 hor3)
              go_ret
              rw [Hfin.out]
              rw [show d2.length + 1 = (d2 ++ [r]).length by simp] at ho3 hor3 ⊢
              have hszX := HX.out
              have hs1 := Hg1.out.size
              have hs2 := Hg2.out.size
              have hs3 := hg3.size
              simp only [World.size_alloc] at hs3
              have e1 : ∀ x, x < w.heap.size → some x ≠ (Value.slice A d.length c).ownBlock → some x ≠ (Value.slice A1 d1.length c1).ownBlock := fun x hx hne => by
                rcases Hor1.out with h | ⟨g, h, hg⟩
                · rw [h]; exact hne
                · rw [h]; intro e; injection e with e; omega
              have e2 : ∀ x, x < w.heap.size → some x ≠ (Value.slice A d.length c).ownBlock → some x ≠ (Value.slice A2 d2.length c2).ownBlock := fun x hx hne => by
                rcases Hor2.out with h | ⟨g, h, hg⟩
                · rw [h]; exact e1 x hx hne
                · rw [h]; intro e; injection e with e; omega
              have ho3' : w3.ownsRow B 3 1 (.slice A3 (d2 ++ [r]).length c3) (d2 ++ [r]).length ((d2 ++ [r]).map (.int .i64)) := by simpa using ho3
              refine ⟨A3, c3, rfl, ho3', ⟨?_, ?_, ?_, by omega, fun x hx hne => ?_⟩, ?_⟩
              · exact hg3.os.trans (Hg2.out.os.trans Hg1.out.os)
              · exact hg3.tape.trans (Hg2.out.tape.trans Hg1.out.tape)
              · exact hg3.output.trans (Hg2.out.output.trans Hg1.out.output)
              · refine (hg3.block x (by simp; omega) (e2 x hx hne)).trans ((Below.heap_alloc _ _ _ (by omega)).trans ((Hg2.out.block x (by omega) (e1 x hx hne)).trans ((Hg1.out.block x (by omega) hne).trans (Below.heap_alloc _ _ _ hx))))
              · rcases hor3 with h | h
                · rcases Hor2.out with h2 | ⟨g, h2, hg⟩
                  · rcases Hor1.out with h1 | ⟨g, h1, hg⟩
                    · exact .inl (h.trans (h2.trans h1))
                    · exact .inr ⟨g, h.trans (h2.trans h1), by omega⟩
                  · exact .inr ⟨g, h.trans h2, by omega⟩
                · exact .inr ⟨_, h, by simp; omega⟩

end Go.Proofs.Ytffefegjnbfobaa
namespace Go.Proofs.Ytffefegjnbfobaa
open Go.RowKit
open B

set_option maxRecDepth 100000 in
set_option maxHeartbeats 400000 in
theorem varOf_any (V R : Int) (A : Option Addr) (cap : Nat) (ns : List Nd) (p : Int) (w : World) (hA : NAt w A ns) (hp : isP ns p) (hn : ns.length ≤ 1048576) (x : Int) (hx : Hid (x = if p < 2 then V else (nd ns p).v)) :
    Calls Try.prog 133 #[.agg #[.int .i64 V, .slice A ns.length cap, .int .i64 R], .int .i64 p] w fun e w' => e = .returned (.int .i64 x) ∧ w.alloc (.cells #[.int .i64 V, .slice A ns.length cap, .int .i64 R] 28) = w' := by
  by_cases h2 : p < 2
  · have hx' := hx.out
    rw [if_pos h2] at hx'
    subst hx'
    clear hx hA
    go_enter Try.func133, Try.ntmps133
    go_wp2_with fail
    go_ret
    exact ⟨rfl, rfl⟩
  · have hx' := hx.out
    rw [if_neg h2] at hx'
    subst hx'
    have hal : Below w.heap.size w (w.alloc (.cells #[.int .i64 V, .slice A ns.length cap, .int .i64 R] 28)) := (Below.refl _ _).alloc (Nat.le_refl _) _
    obtain ⟨nb, noff, rfl, x0, x1, x2⟩ := hA.nd hal (p := p) (by omega) hp.2
    have hp2 := hp.2
    have e2 : IntKind.i64.wrap (p - 2) = p - 2 := wrap_eq (by omega) (by omega)
    have hx0 : 0 ≤ p - 2 := by omega
    have hx1 : p - 2 < (ns.length : Int) := by omega
    clear hx hA hal
    go_enter Try.func133, Try.ntmps133
    go_wp2_with fail
    go_ret
    exact ⟨rfl, rfl⟩

theorem varOf_ext (V R : Int) (A : Option Addr) (cap : Nat) (ns : List Nd) (p : Int) (w : World) (hA : NAt w A ns) (hp : isP ns p) (hn : ns.length ≤ 1048576) (x : Int) (hx : Hid (x = if p < 2 then V else (nd ns p).v)) :
    Calls Try.prog 133 #[.agg #[.int .i64 V, .slice A ns.length cap, .int .i64 R], .int .i64 p] w fun e w' => e = .returned (.int .i64 x) ∧ Below w.heap.size w w' :=
  (varOf_any V R A cap ns p w hA hp hn x hx).mono fun _ _ ⟨he, hw⟩ => ⟨he, by subst hw; exact (Below.refl _ _).alloc (Nat.le_refl _) _⟩

set_option maxRecDepth 100000 in
set_option maxHeartbeats 1000000 in
theorem specOk_any (V R : Int) (A : Option Addr) (cap : Nat) (ns : List Nd) (w : World) (hA : NAt w A ns) (hn : ns.length ≤ 1048576) :
    Calls Try.prog 92 #[.agg #[.int .i64 V, .slice A ns.length cap, .int .i64 R]] w fun e w' => Says (OkS V ns R) e ∧ Below w.heap.size w w' := by
  have HA := Lib.hid hA
  clear hA
  have hb1 : ∀ o : Obj, Below w.heap.size w (w.alloc o) := fun o => (Below.refl _ _).alloc (Nat.le_refl _) _
  have HB1 := Lib.hid hb1
  clear hb1
  by_cases hV : 0 ≤ V ∧ V ≤ 13
  case neg =>
    have hd : decide (0 ≤ V ∧ V ≤ 13) = false := by simpa using hV
    have hno : Hid (¬ OkS V ns R) := fun h => hV ⟨h.1.v0, h.1.v1⟩
    clear hV
    go_enter Try.func92, Try.ntmps92
    go_wp2_with (go_at_call 65; refine (l7Vars_is _ false hd _).mono ?_; rintro e w' ⟨rfl, rfl⟩)
    go_ret
    exact ⟨.no hno.out, HB1.out _⟩
  obtain ⟨hV0, hV1⟩ := hV
  have hd : decide (0 ≤ V ∧ V ≤ 13) = true := by simp [hV0, hV1]
  by_cases hlen : ns.length ≤ 600
  case neg =>
    have hno : Hid (¬ OkS V ns R) := fun h => hlen h.1.len
    have hl : (600 : Int) < ns.length := by omega
    clear hlen
    go_enter Try.func92, Try.ntmps92
    go_wp2_with (go_at_call 65; refine (l7Vars_is _ true hd _).mono ?_; rintro e w' ⟨rfl, rfl⟩)
    go_ret
    exact ⟨.no hno.out, HB1.out _⟩
  have hl : decide ((600 : Int) < ns.length) = false := by simp; omega
  by_cases hR : 0 ≤ R ∧ R ≤ ns.length + 1
  case neg =>
    have hr : decide (0 ≤ R ∧ R ≤ (ns.length : Int) + 1) = false := by simpa using hR
    have hno : Hid (¬ OkS V ns R) := fun h => hR h.1.root
    clear hR
    go_enter Try.func92, Try.ntmps92
    go_wp2_with (first | (go_at_call 65; refine (l7Vars_is _ true hd _).mono ?_; rintro e w' ⟨rfl, rfl⟩) | (go_at_call 66; refine (l1In_is _ _ _ false hr _).mono ?_; rintro e w' ⟨rfl, rfl⟩))
    go_ret
    exact ⟨.no hno.out, HB1.out _⟩
  have hr : decide (0 ≤ R ∧ R ≤ (ns.length : Int) + 1) = true := by simpa using hR
  have HR := Lib.hid hR
  clear hR
  go_enter Try.func92, Try.ntmps92
  go_wp2_with (first | (go_at_call 65; refine (l7Vars_is _ true hd _).mono ?_; rintro e w' ⟨rfl, rfl⟩) | (go_at_call 66; refine (l1In_is _ _ _ true hr _).mono ?_; rintro e w' ⟨rfl, rfl⟩))
  clear hd hr hl
  go_loopw [3] (fun i wr => ∃ k : Nat, k ≤ ns.length ∧ Hid (∀ j n, j < k → ns[j]? = some n → B.Good V.toNat ns j n) ∧ Hid ((ns.take k).Nodup) ∧ Below w.heap.size w wr ∧ Hid (Blk wr w.heap.size 28 #[.int .i64 V, .slice A ns.length cap, .int .i64 R]) ∧ i = .int .i64 k) (fun i _ => ns.length - (intOf i).toNat)
  case atStart => exact ⟨0, Nat.zero_le _, fun j n hj => absurd hj (Nat.not_lt_zero _), by simp [Hid], HB1.out _, Blk.new _ _ _, rfl⟩
  case round =>
    obtain ⟨k, hk, hgood, hnd, hbw, hbox, rfl⟩ := hrel
    have y0 : wr.cell? ⟨w.heap.size, 0, none⟩ = some (.int .i64 V) := by rw [hbox.out.cell]; rfl
    have y1 : wr.cell? ⟨w.heap.size, 1, none⟩ = some (.slice A ns.length cap) := by rw [hbox.out.cell]; rfl
    have y2 : wr.cell? ⟨w.heap.size, 2, none⟩ = some (.int .i64 R) := by rw [hbox.out.cell]; rfl
    have hsz := hbox.out.lt
    by_cases hlt : k < ns.length
    case neg =>
      obtain rfl : k = ns.length := by omega
      have HF : Hid (Fm V.toNat ns) := fun j n h => hgood.out j n (by have := (List.getElem?_eq_some_iff.1 h).1; exact this) h
      have HD : Hid ns.Nodup := by have := hnd.out; rw [List.take_length] at this; exact this
      have HP : Hid (isP ns R) := HR.out
      go_wp2_with (go_at_call 134; refine (order_any wr.heap.size V R A cap V.toNat ns HF.out (by omega) R.toNat R [] none 0 _ (Nat.le_refl _) HP.out (Nat.le_refl _) (by intro W hW; exact HA.out.below (hbw.trans (hW.mono hbw.size))) (by exact Done.nil _) (by exact World.ownsRow_nil _ _ _ _)).mono ?_; rintro e w1 ⟨A', c', rfl, ho, hg, -⟩)
      have hb2 : Below w.heap.size w w1 := hbw.grown hg hbw.size (by intro q hq; simp [Value.ownBlock] at hq)
      have hbox2 := hbox.out.below ((Below.refl wr.heap.size wr).grown hg (Nat.le_refl _) (by intro q hq; simp [Value.ownBlock] at hq)) hsz
      have y1 : w1.cell? ⟨w.heap.size, 1, none⟩ = some (.slice A ns.length cap) := by rw [hbox2.cell]; rfl
      have hol : (ord ns R []).length ≤ ns.length := (Done.ord HF.out HP.out (Done.nil _)).len
      have HO := Lib.hid ho
      have HORD : Hid (∀ l, l = ord ns R [] → (OkS V ns R ↔ l = upto ns.length)) := fun l hl => by
        subst hl
        exact ⟨fun h => h.2.2, fun h => ⟨⟨hV0, hV1, hlen, HR.out, HF.out⟩, HD.out, h⟩⟩
      clear ho hg hbox2
      generalize hl : ord ns R [] = l at *
      have HL := Lib.hid (HORD.out l rfl)
      clear hl HORD y0 y2
      go_loopw [7] (fun i wr => ∃ k : Nat, k ≤ l.length ∧ Hid (l.take k = upto k) ∧ wr = w1 ∧ i = .int .i64 k) (fun i _ => l.length - (intOf i).toNat)
      case atStart => exact ⟨0, Nat.zero_le _, rfl, rfl, rfl⟩
      case round =>
        obtain ⟨k, hk, hpre, rfl, rfl⟩ := hrel
        by_cases hkl : k < l.length
        · obtain ⟨g, rfl, hg, hBg, hc⟩ := own_int HO.out hkl
          have e1 : IntKind.i64.wrap ((k : Int) + 1) = (k : Int) + 1 := wrap_eq (by omega) (by omega)
          have e2 : IntKind.i64.wrap ((k : Int) + 2) = (k : Int) + 2 := wrap_eq (by omega) (by omega)
          have hj1 : (k : Int) < (l.length : Int) := by omega
          by_cases he : l[k] = (k : Int) + 2
          · have Hnx : Hid (l.take (k + 1) = upto (k + 1)) := by
              show l.take (k + 1) = upto (k + 1)
              rw [List.take_add_one, hpre.out, upto_succ, List.getElem?_eq_getElem hkl, he]; rfl
            have d1 : (l[k] == (k : Int) + 2) = true := by simpa using he
            clear he
            generalize l[k] = x at *
            go_wp2_with fail
            go_roundw
            case rel => exact ⟨k + 1, by omega, Hnx, (by first | trivial | rfl), by go_num⟩
            case measure => simp [intOf]; omega
          · have Hno : Hid (¬ OkS V ns R) := fun h => by
              have h' := HL.out.1 h
              apply he
              subst h'
              simp [upto]
            have d1 : (l[k] == (k : Int) + 2) = false := by simpa using he
            clear he
            generalize l[k] = x at *
            go_wp2_with fail
            go_ret
            exact ⟨.no Hno.out, hb2⟩
        · obtain rfl : k = l.length := by omega
          by_cases he : l.length = ns.length
          · have Hyes : Hid (OkS V ns R) := HL.out.2 (by have := hpre.out; rw [List.take_length] at this; rw [← he]; exact this)
            have d1 : ((l.length : Int) == (ns.length : Int)) = true := by simp [he]
            go_wp2_with fail
            go_ret
            exact ⟨.yes Hyes.out, hb2⟩
          · have Hno : Hid (¬ OkS V ns R) := fun h => by
              have h' := HL.out.1 h
              apply he
              rw [h', length_upto]
            have d1 : ((l.length : Int) == (ns.length : Int)) = false := by simp; omega
            go_wp2_with fail
            go_ret
            exact ⟨.no Hno.out, hb2⟩
    obtain ⟨b, off, rfl, c1, c2, c3⟩ := HA.out.get hbw hlt
    have hget : ns[k]? = some ns[k] := List.getElem?_eq_getElem hlt
    generalize hnk : ns[k] = n at c1 c2 c3 hget
    have Hget := Lib.hid hget
    have Hnk := Lib.hid hnk
    clear hget hnk
    have e1 : IntKind.i64.wrap ((k : Int) + 1) = (k : Int) + 1 := wrap_eq (by omega) (by omega)
    have hX : Below w.heap.size w (wr.alloc (.cells #[.int .i64 n.v, .int .i64 n.lo, .int .i64 n.hi] 89)) := hbw.alloc (by omega) _
    have hbX := hbox.out.alloc (.cells #[.int .i64 n.v, .int .i64 n.lo, .int .i64 n.hi] 89)
    have hnX := Blk.new wr 89 #[.int .i64 n.v, .int .i64 n.lo, .int .i64 n.hi]
    have HX := Lib.hid hX
    have HbX := Lib.hid hbX
    have HnX := Lib.hid hnX
    clear hX hbX hnX
    go_wp2_with fail
    have hXs : (wr.alloc (.cells #[.int .i64 n.v, .int .i64 n.lo, .int .i64 n.hi] 89)).heap.size = wr.heap.size + 1 := by simp
    have HXs := Lib.hid hXs
    clear hXs
    generalize wr.alloc (.cells #[.int .i64 n.v, .int .i64 n.lo, .int .i64 n.hi] 89) = X at *
    clear y0 y1 y2 c1 c2 c3
    have e3 : IntKind.i64.wrap (V - 1) = V - 1 := wrap_eq (by omega) (by omega)
    have y0 : X.cell? ⟨w.heap.size, 0, none⟩ = some (.int .i64 V) := by rw [HbX.out.cell]; rfl
    have y1 : X.cell? ⟨w.heap.size, 1, none⟩ = some (.slice (some ⟨b, off, none⟩) ns.length cap) := by rw [HbX.out.cell]; rfl
    have y2 : X.cell? ⟨w.heap.size, 2, none⟩ = some (.int .i64 R) := by rw [HbX.out.cell]; rfl
    have z0 : X.cell? ⟨wr.heap.size, 0, none⟩ = some (.int .i64 n.v) := by rw [HnX.out.cell]; rfl
    have z1 : X.cell? ⟨wr.heap.size, 1, none⟩ = some (.int .i64 n.lo) := by rw [HnX.out.cell]; rfl
    have z2 : X.cell? ⟨wr.heap.size, 2, none⟩ = some (.int .i64 n.hi) := by rw [HnX.out.cell]; rfl
    go_cut [87] (fun s87 wc => ∃ bb, s87 = .bool bb ∧ Hid (bb = false ↔ B.Good V.toNat ns k n) ∧ Below X.heap.size X wc)
    case first =>
      obtain ⟨vl, HVL⟩ : ∃ vl, Hid (vl = if n.lo < 2 then V else (nd ns n.lo).v) := ⟨_, rfl⟩
      obtain ⟨vh, HVH⟩ : ∃ vh, Hid (vh = if n.hi < 2 then V else (nd ns n.hi).v) := ⟨_, rfl⟩
      have K1 := fun x : Ext X => ext_cell y0 (by have := HbX.out.lt; exact this) x
      have K2 := fun x : Ext X => ext_cell y1 (by have := HbX.out.lt; exact this) x
      have K3 := fun x : Ext X => ext_cell y2 (by have := HbX.out.lt; exact this) x
      have K4 := fun x : Ext X => ext_cell z0 (by have := HnX.out.lt; exact this) x
      have K5 := fun x : Ext X => ext_cell z1 (by have := HnX.out.lt; exact this) x
      have K6 := fun x : Ext X => ext_cell z2 (by have := HnX.out.lt; exact this) x
      by_cases p1 : 0 ≤ n.v ∧ n.v ≤ V - 1
      case neg =>
        have d1 : decide (0 ≤ n.v ∧ n.v ≤ V - 1) = false := by simpa using p1
        have hno : Hid (true = false ↔ B.Good V.toNat ns k n) := ⟨fun h => (Bool.noConfusion h), fun g => (p1 (by have := g.v0; have := g.v1; omega)).elim⟩
        clear p1
        go_quiet ((go_at_call 66; exact quiet_leftN (l1In_any _ _ _ _)))
        go_wp2_with fail
        go_meet
        case rel => exact ⟨true, rfl, hno.out, below_drewN (Below.refl _ _) _⟩
      have d1 : decide (0 ≤ n.v ∧ n.v ≤ V - 1) = true := by simpa using p1
      have P1 := Lib.hid p1
      clear p1
      by_cases p2 : n.lo = n.hi
      · have d2 : (n.lo == n.hi) = true := by simpa using p2
        have hno : Hid (true = false ↔ B.Good V.toNat ns k n) := ⟨fun h => (Bool.noConfusion h), fun g => (g.ne p2).elim⟩
        clear p2
        go_quiet ((go_at_call 66; exact quiet_leftN (l1In_any _ _ _ _)))
        go_wp2_with fail
        go_meet
        case rel => exact ⟨true, rfl, hno.out, below_drewN (Below.refl _ _) _⟩
      have d2 : (n.lo == n.hi) = false := by simpa using p2
      have P2 := Lib.hid p2
      clear p2
      by_cases p3 : 0 ≤ n.lo ∧ n.lo ≤ (k : Int) + 1
      case neg =>
        have d3 : decide (0 ≤ n.lo ∧ n.lo ≤ (k : Int) + 1) = false := by simpa using p3
        have hno : Hid (true = false ↔ B.Good V.toNat ns k n) := ⟨fun h => (Bool.noConfusion h), fun g => (p3 ⟨g.lo0, g.lo1⟩).elim⟩
        clear p3
        go_quiet ((go_at_call 66; exact quiet_leftN (l1In_any _ _ _ _)))
        go_wp2_with fail
        go_meet
        case rel => exact ⟨true, rfl, hno.out, below_drewN (Below.refl _ _) _⟩
      have d3 : decide (0 ≤ n.lo ∧ n.lo ≤ (k : Int) + 1) = true := by simpa using p3
      have P3 := Lib.hid p3
      clear p3
      by_cases p4 : 0 ≤ n.hi ∧ n.hi ≤ (k : Int) + 1
      case neg =>
        have d4 : decide (0 ≤ n.hi ∧ n.hi ≤ (k : Int) + 1) = false := by simpa using p4
        have hno : Hid (true = false ↔ B.Good V.toNat ns k n) := ⟨fun h => (Bool.noConfusion h), fun g => (p4 ⟨g.hi0, g.hi1⟩).elim⟩
        clear p4
        go_quiet ((go_at_call 66; exact quiet_leftN (l1In_any _ _ _ _)))
        go_wp2_with fail
        go_meet
        case rel => exact ⟨true, rfl, hno.out, below_drewN (Below.refl _ _) _⟩
      have d4 : decide (0 ≤ n.hi ∧ n.hi ≤ (k : Int) + 1) = true := by simpa using p4
      have P4 := Lib.hid p4
      clear p4
      have hlP : isP ns n.lo := ⟨P3.out.1, by have := P3.out.2; omega⟩
      have hhP : isP ns n.hi := ⟨P4.out.1, by have := P4.out.2; omega⟩
      have hwX : w.heap.size ≤ X.heap.size := HX.out.size
      by_cases p5 : vl ≤ n.v
      · have d5 : decide (vl ≤ n.v) = true := by simpa using p5
        have hno : Hid (true = false ↔ B.Good V.toNat ns k n) := ⟨fun h => (Bool.noConfusion h), fun g => by
          have := HVL.out
          split at this
          · have := g.v1; omega
          · have := g.lov (by omega); omega⟩
        clear p5
        refine wp_region_ext (by kernel_rfl) (by kernel_rfl) ?_
        repeat go_big_quiet_step ((first | (go_at_call 66; exact ext_same _ (l1In_any _ _ _ _)) | (go_at_call 133; with_reducible (exact ext_below _ (varOf_ext V R _ cap ns n.lo _ (HA.out.below (ext_from HX.out hwX _)) hlP hn vl HVL))) | (go_at_call 133; with_reducible (exact ext_below _ (varOf_ext V R _ cap ns n.hi _ (HA.out.below (ext_from HX.out hwX _)) hhP hn vh HVH)))))
        refine wpQuiet_nil ?_
        intro _ hw'
        obtain ⟨x, hw''⟩ := hw'
        subst hw''
        go_wp2_with fail
        go_meet
        case rel => exact ⟨true, rfl, hno.out, x.2⟩
      have d5 : decide (vl ≤ n.v) = false := by simpa using p5
      have P5 := Lib.hid p5
      clear p5
      by_cases p6 : vh ≤ n.v
      · have d6 : decide (vh ≤ n.v) = true := by simpa using p6
        have hno : Hid (true = false ↔ B.Good V.toNat ns k n) := ⟨fun h => (Bool.noConfusion h), fun g => by
          have := HVH.out
          split at this
          · have := g.v1; omega
          · have := g.hiv (by omega); omega⟩
        clear p6
        refine wp_region_ext (by kernel_rfl) (by kernel_rfl) ?_
        repeat go_big_quiet_step ((first | (go_at_call 66; exact ext_same _ (l1In_any _ _ _ _)) | (go_at_call 133; with_reducible (exact ext_below _ (varOf_ext V R _ cap ns n.lo _ (HA.out.below (ext_from HX.out hwX _)) hlP hn vl HVL))) | (go_at_call 133; with_reducible (exact ext_below _ (varOf_ext V R _ cap ns n.hi _ (HA.out.below (ext_from HX.out hwX _)) hhP hn vh HVH)))))
        refine wpQuiet_nil ?_
        intro _ hw'
        obtain ⟨x, hw''⟩ := hw'
        subst hw''
        go_wp2_with fail
        go_meet
        case rel => exact ⟨true, rfl, hno.out, x.2⟩
      · have d6 : decide (vh ≤ n.v) = false := by simpa using p6
        have hok : Hid (B.Good V.toNat ns k n) := ⟨P1.out.1, by have := P1.out.2; omega, P2.out, P3.out.1, P3.out.2, P4.out.1, P4.out.2, fun hl => by have := HVL.out; rw [if_neg (by omega)] at this; have := P5.out; omega, fun hl => by have := HVH.out; rw [if_neg (by omega)] at this; omega⟩
        clear p6
        refine wp_region_ext (by kernel_rfl) (by kernel_rfl) ?_
        repeat go_big_quiet_step ((first | (go_at_call 66; exact ext_same _ (l1In_any _ _ _ _)) | (go_at_call 133; with_reducible (exact ext_below _ (varOf_ext V R _ cap ns n.lo _ (HA.out.below (ext_from HX.out hwX _)) hlP hn vl HVL))) | (go_at_call 133; with_reducible (exact ext_below _ (varOf_ext V R _ cap ns n.hi _ (HA.out.below (ext_from HX.out hwX _)) hhP hn vh HVH)))))
        refine wpQuiet_nil ?_
        intro _ hw'
        obtain ⟨x, hw''⟩ := hw'
        subst hw''
        go_wp2_with fail
        go_meet
        case rel => exact ⟨false, rfl, ⟨fun _ => hok.out, fun _ => rfl⟩, x.2⟩
    case rest =>
      obtain ⟨bb, rfl, Hbb, hbc⟩ := hcut
      have hXw : w.heap.size ≤ X.heap.size := HX.out.size
      cases bb with
      | true =>
        have hno : Hid (¬ OkS V ns R) := fun h => by have := Hbb.out.2 (h.1.fm k n Hget.out); cases this
        clear y0 y1 y2 z0 z1 z2 e1 e3
        go_wp2_with fail
        go_ret
        exact ⟨.no hno.out, HX.out.trans (hbc.mono hXw)⟩
      | false =>
        have hG : Hid (B.Good V.toNat ns k n) := Hbb.out.1 rfl
        clear y0 y1 y2 z0 z1 z2 e1 e3
        obtain ⟨wo, rfl⟩ : ∃ wo : World, wo = wr := ⟨_, rfl⟩
        go_wp2_with fail
        go_loopw [5] (fun i wr => ∃ j : Nat, j ≤ k ∧ Hid (∀ t, t < j → ns[t]? ≠ some n) ∧ Below X.heap.size X wr ∧ i = .int .i64 j) (fun i _ => k - (intOf i).toNat)
        case atStart => exact ⟨0, Nat.zero_le _, fun t ht => absurd ht (Nat.not_lt_zero _), hbc, rfl⟩
        case round =>
          obtain ⟨j, hj, hdiff, hbj, rfl⟩ := hrel
          by_cases hjk : j < k
          case neg =>
            obtain rfl : j = k := by omega
            go_wp2_with fail
            go_roundw
            case rel =>
              refine ⟨j + 1, by omega, fun t m ht hm => ?_, ?_, HX.out.trans (hbj.mono hXw), HbX.out.below hbj HbX.out.lt, by go_num⟩
              · by_cases e : t = j
                · subst e
                  have := Hget.out.symm.trans hm
                  injection this with this
                  subst this
                  exact hG.out
                · exact hgood.out t m (by omega) hm
              · show (ns.take (j + 1)).Nodup
                rw [List.take_add_one, Hget.out, List.nodup_append]
                refine ⟨hnd.out, by simp, fun a ha b hb => ?_⟩
                simp at hb
                subst hb
                rintro rfl
                obtain ⟨i, hi, he⟩ := List.getElem_of_mem ha
                rw [List.length_take] at hi
                rw [List.getElem_take] at he
                exact hdiff.out i (by omega) (by rw [List.getElem?_eq_getElem (by omega), he])
            case measure => simp [intOf]; omega
          have hjl : j < ns.length := by omega
          have hbw' : Below w.heap.size w wr := HX.out.trans (hbj.mono hXw)
          obtain ⟨b', off', hE, x1, x2, x3⟩ := HA.out.get hbw' hjl
          obtain ⟨rfl, rfl⟩ : b = b' ∧ off = off' := by simpa using hE
          clear hE
          have hbx := HbX.out.below hbj HbX.out.lt
          have hnx := HnX.out.below hbj HnX.out.lt
          have y1 : wr.cell? ⟨w.heap.size, 1, none⟩ = some (.slice (some ⟨b, off, none⟩) ns.length cap) := by rw [hbx.cell]; rfl
          have z0 : wr.cell? ⟨wo.heap.size, 0, none⟩ = some (.int .i64 n.v) := by rw [hnx.cell]; rfl
          have z1 : wr.cell? ⟨wo.heap.size, 1, none⟩ = some (.int .i64 n.lo) := by rw [hnx.cell]; rfl
          have z2 : wr.cell? ⟨wo.heap.size, 2, none⟩ = some (.int .i64 n.hi) := by rw [hnx.cell]; rfl
          have hgj : ns[j]? = some ns[j] := List.getElem?_eq_getElem hjl
          have hj0 : (0 : Int) ≤ j := by omega
          have hj1 : (j : Int) < (ns.length : Int) := by omega
          generalize ns[j] = m at x1 x2 x3 hgj
          have Hgj := Lib.hid hgj
          have Hbx := Lib.hid hbx
          clear hgj hbx hnx
          obtain ⟨bb, e99, HBB⟩ : ∃ bb, (m.v == n.v && (m.lo == n.lo && m.hi == n.hi)) = bb ∧ Hid (bb = true ↔ m = n) := ⟨_, rfl, by
            cases n; cases m; simp [Hid]⟩
          have q1 := guard_node
          have q2 := eqin_node
          go_wp2_with fail
          go_quiet (fail)
          clear e99 q1 q2
          cases bb with
          | true =>
            have hno : Hid (¬ OkS V ns R) := fun h => by
              have e := HBB.out.1 rfl
              subst e
              have := (List.getElem?_inj hjl h.2.1).1 (Hgj.out.trans Hget.out.symm)
              omega
            go_wp2_with fail
            go_ret
            exact ⟨.no hno.out, below_drewN hbw' _⟩
          | false =>
            have hne : Hid (m ≠ n) := fun e => by have := HBB.out.2 e; cases this
            go_wp2_with fail
            go_roundw
            case rel =>
              refine ⟨j + 1, by omega, fun t ht => ?_, below_drewN hbj _, by go_num⟩
              by_cases e : t = j
              · subst e; rw [Hgj.out]; intro h; injection h with h; exact hne.out h
              · exact hdiff.out t (by omega)
            case measure => simp [intOf]; omega

end Go.Proofs.Ytffefegjnbfobaa
namespace Go.Proofs.Ytffefegjnbfobaa
open Go.RowKit
open B

theorem l1Bit_nat (c v : Nat) (hv : v ≤ 13) (b : Bool) (hb : c.testBit v = b) (w : World) : Calls Try.prog 135 #[.int .i64 (c : Int), .int .i64 (v : Int)] w fun e w' => e = .returned (.int .i64 (if b then 1 else 0)) ∧ w = w' := by
  have e1 : (((c : Int) / 2 ^ v).tmod 2) = if b then 1 else 0 := by
    have e : ((c : Int) / 2 ^ v) = ((c / 2 ^ v : Nat) : Int) := by simp
    have e3 : (((c / 2 ^ v : Nat) : Int)).tmod 2 = ((c / 2 ^ v % 2 : Nat) : Int) := rfl
    rw [e, e3, ← hb, Nat.testBit_eq_decide_div_mod_eq]
    by_cases h : c / 2 ^ v % 2 = 1
    · rw [h]; rfl
    · rw [show c / 2 ^ v % 2 = 0 by omega]; rfl
  clear hb
  go_enter Try.func135, Try.ntmps135
  go_wp2_with fail
  all_goals
    go_ret
    exact ⟨by simp_all, rfl⟩
theorem l1Bit_is (c : Nat) (v : Int) (hv0 : 0 ≤ v) (hv : v ≤ 13) (b : Bool) (hb : c.testBit v.toNat = b) (w : World) : Calls Try.prog 135 #[.int .i64 (c : Int), .int .i64 v] w fun e w' => e = .returned (.int .i64 (if b then 1 else 0)) ∧ w = w' := by
  obtain ⟨k, rfl⟩ := Int.eq_ofNat_of_zero_le hv0
  exact l1Bit_nat c k (by omega) b (by simpa using hb) w

set_option maxRecDepth 100000 in
set_option maxHeartbeats 400000 in
theorem l7Has_any (V R : Int) (A : Option Addr) (cap vars : Nat) (ns : List Nd) (c : Nat) (w : World) (hA : NAt w A ns) (hf : Fm vars ns) (hv : vars ≤ 13) (hR : isP ns R) (hn : ns.length ≤ 1048576) :
    Calls Try.prog 93 #[.agg #[.int .i64 V, .slice A ns.length cap, .int .i64 R], .int .i64 (c : Int)] w fun e w' => e = .returned (.bool (has ns R c)) ∧ Below w.heap.size w w' := by
  go_enter Try.func93, Try.ntmps93
  go_wp2_with fail
  go_loopw [5] (fun p wr => Below w.heap.size w wr ∧ wr.cell? ⟨w.heap.size, 1, none⟩ = some (.slice A ns.length cap) ∧ w.heap.size < wr.heap.size ∧ ∃ q : Int, 0 ≤ q ∧ q ≤ ns.length + 1 ∧ Hid (has ns q c = has ns R c) ∧ p = .int .i64 q) (fun p _ => (intOf p).toNat)
  case atStart => exact ⟨(Below.refl _ _).alloc (Nat.le_refl _) _, by simp [World.cell?_alloc_at], by simp, R, hR.1, hR.2, rfl, rfl⟩
  case round =>
    obtain ⟨hbw, hns, hlt, q, hq0, hq1, hhas, rfl⟩ := hrel
    by_cases h1 : 2 ≤ q
    · have h1' : 1 < q := by omega
      have g := good hf h1' hq1
      obtain ⟨gv0, gv1, gl0, gl1, gh0, gh1⟩ := (⟨g.v0, g.v1, g.lo0, g.lo1, g.hi0, g.hi1⟩ : _ ∧ _ ∧ _ ∧ _ ∧ _ ∧ _)
      have gl2 : (nd ns q).lo < q := by omega
      have gh2 : (nd ns q).hi < q := by omega
      clear gl1 gh1 g
      have HS : Hid (∀ c, has ns q c = has ns (if c.testBit (nd ns q).v.toNat then (nd ns q).hi else (nd ns q).lo) c) := fun c => has_step hf h1' hq1 c
      have hc3 := hA.nd hbw h1' hq1
      clear hA hf hR
      obtain ⟨b, off, rfl, c1, c2, c3⟩ := hc3
      obtain ⟨bb, HB⟩ : ∃ bb, Hid (c.testBit (nd ns q).v.toNat = bb) := ⟨_, rfl⟩
      cases bb with
      | true =>
        go_wp2_with (go_at_call 135; refine (l1Bit_is c _ gv0 (by omega) true HB.out _).mono ?_; rintro e w1 ⟨rfl, rfl⟩)
        go_roundw
        case rel => exact ⟨hbw.alloc (by omega) _, by rw [World.cell?_alloc_past _ _ _ (by simpa using hlt)]; exact hns, by simp; omega, _, gh0, by omega, by rw [← hhas.out, HS.out c, if_pos HB.out]; rfl, rfl⟩
        case measure => simp [intOf]; omega
      | false =>
        go_wp2_with (go_at_call 135; refine (l1Bit_is c _ gv0 (by omega) false HB.out _).mono ?_; rintro e w1 ⟨rfl, rfl⟩)
        go_roundw
        case rel => exact ⟨hbw.alloc (by omega) _, by rw [World.cell?_alloc_past _ _ _ (by simpa using hlt)]; exact hns, by simp; omega, _, gl0, by omega, by rw [← hhas.out, HS.out c, if_neg (by simp [HB.out])]; rfl, rfl⟩
        case measure => simp [intOf]; omega
    · go_wp2_with fail
      go_ret
      exact ⟨ret_bool (by rw [← hhas.out, has_small ns q c (by omega)]), hbw⟩

end Go.Proofs.Ytffefegjnbfobaa
