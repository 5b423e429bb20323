/- BddGrow of the reference, walked. -/
import Derived.Test.YtffefegjnbfobaaQ1
import Derived.Test.YtffefegjnbfobaaK
import Derived.Deep.RegionLaw
import Derived.Deep.AppendLies
namespace Go.Proofs.Ytffefegjnbfobaa
open Go.RowKit
open B

theorem ncells_take (ns : List Nd) (k : Nat) (n : Nd) (h : ns[k]? = some n) : ncells (ns.take (k + 1)) = ncells (ns.take k) ++ [.int .i64 n.v, .int .i64 n.lo, .int .i64 n.hi] := by
  rw [List.take_add_one, h, ncells_app]; rfl

set_option maxRecDepth 100000 in
set_option maxHeartbeats 800000 in
theorem specGrow_any (V R : Int) (A : Option Addr) (cap : Nat) (ns : List Nd) (v : Int) (w : World) (hA : NAt w A ns) (hn : ns.length ≤ 1048576) :
    Calls Try.prog 38 #[.agg (dB V R A ns.length cap), .int .i64 v] w fun e w' => Mkd (OkS V ns R ∧ V ≤ v ∧ v ≤ 13) v (R, ns) w.heap.size w' e ∧ Below w.heap.size w w' := by
  have HA := Lib.hid hA
  clear hA
  have HB0 : Hid (Below w.heap.size w ((w.alloc (.cells (dB V R A ns.length cap) 28)).alloc (.cells zB 28))) := ((Below.refl _ _).alloc (Nat.le_refl _) _).alloc (by simp) _
  have HX0 : Hid (Blk ((w.alloc (.cells (dB V R A ns.length cap) 28)).alloc (.cells zB 28)) w.heap.size 28 (dB V R A ns.length cap)) := (Blk.new w _ _).alloc _
  have HR0 : Hid (Blk ((w.alloc (.cells (dB V R A ns.length cap) 28)).alloc (.cells zB 28)) (w.heap.size + 1) 28 zB) := Blk.new_at _ _ _ (by simp)
  by_cases hok : OkS V ns R
  case neg =>
    have HOK := Lib.hid hok
    clear hok
    go_enter Try.func38, Try.ntmps38
    go_wp2_with (go_at_call 92; refine (specOk_any V R A cap ns _ (by exact HA.out.below HB0.out) hn).mono ?_; rintro e w1 ⟨hs, hb1⟩; obtain rfl := hs.f HOK.out; clear hs; have R1 := Lib.hid (HR0.out.below hb1 HR0.out.lt); obtain ⟨x0, x1, x2⟩ := R1.out.three; have y0 := R1.out.frozen 0; have y1 := R1.out.frozen 1; have y2 := R1.out.frozen 2; have HB1 : Hid (Below w.heap.size w w1) := HB0.out.trans (hb1.mono HB0.out.size))
    obtain ⟨u0, u1, u2⟩ := (R1.out.put3 (.int .i64 0) (.slice none 0 0) (.int .i64 0)).three
    refine bodyPost_ret (v := .tuple #[.agg zB, .bool false]) (by simp [results, Try.results38, go_sem, u0, u1, u2]) rfl ⟨Mkd.none (fun h => HOK.out h.1), below_put3 HB1.out (by omega) _ _ _⟩
  have HOK := Lib.hid hok
  by_cases hv : 0 ≤ v ∧ v ≤ 13
  case neg =>
    have HV := Lib.hid hv
    have hd : decide (0 ≤ v ∧ v ≤ 13) = false := by simpa using hv
    have hno : Hid (¬ (OkS V ns R ∧ V ≤ v ∧ v ≤ 13)) := fun h => HV.out ⟨by have := h.1.1.v0; omega, h.2.2⟩
    clear hv
    go_enter Try.func38, Try.ntmps38
    go_wp2_with (first
      | (go_at_call 92; refine (specOk_any V R A cap ns _ (by exact HA.out.below HB0.out) hn).mono ?_; rintro e w1 ⟨hs, hb1⟩; obtain rfl := hs.t HOK.out; clear hs; have R1 := Lib.hid (HR0.out.below hb1 HR0.out.lt); obtain ⟨x0, x1, x2⟩ := R1.out.three; have y0 := R1.out.frozen 0; have y1 := R1.out.frozen 1; have y2 := R1.out.frozen 2; have HB1 : Hid (Below w.heap.size w w1) := HB0.out.trans (hb1.mono HB0.out.size))
      | (go_at_call 65; refine (l7Vars_is _ false hd _).mono ?_; rintro e w' ⟨rfl, rfl⟩))
    obtain ⟨u0, u1, u2⟩ := (R1.out.put3 (.int .i64 0) (.slice none 0 0) (.int .i64 0)).three
    refine bodyPost_ret (v := .tuple #[.agg zB, .bool false]) (by simp [results, Try.results38, go_sem, u0, u1, u2]) rfl ⟨Mkd.none hno.out, below_put3 HB1.out (by omega) _ _ _⟩
  have hd : decide (0 ≤ v ∧ v ≤ 13) = true := by simpa using hv
  have HV := Lib.hid hv
  clear hv
  by_cases hlt : v < V
  case pos =>
    have hno : Hid (¬ (OkS V ns R ∧ V ≤ v ∧ v ≤ 13)) := fun h => by have := h.2.1; omega
    go_enter Try.func38, Try.ntmps38
    go_wp2_with (first
      | (go_at_call 92; refine (specOk_any V R A cap ns _ (by exact HA.out.below HB0.out) hn).mono ?_; rintro e w1 ⟨hs, hb1⟩; obtain rfl := hs.t HOK.out; clear hs; have R1 := Lib.hid (HR0.out.below hb1 HR0.out.lt); obtain ⟨x0, x1, x2⟩ := R1.out.three; have X1 := Lib.hid (HX0.out.below hb1 HX0.out.lt); obtain ⟨z0, z1, z2⟩ := X1.out.three; have y0 := R1.out.frozen 0; have y1 := R1.out.frozen 1; have y2 := R1.out.frozen 2; have HB1 : Hid (Below w.heap.size w w1) := HB0.out.trans (hb1.mono HB0.out.size))
      | (go_at_call 65; refine (l7Vars_is _ true hd _).mono ?_; rintro e w' ⟨rfl, rfl⟩))
    obtain ⟨u0, u1, u2⟩ := (R1.out.put3 (.int .i64 0) (.slice none 0 0) (.int .i64 0)).three
    refine bodyPost_ret (v := .tuple #[.agg zB, .bool false]) (by simp [results, Try.results38, go_sem, u0, u1, u2]) rfl ⟨Mkd.none hno.out, below_put3 HB1.out (by omega) _ _ _⟩
  have Hlt : Hid (V ≤ v ∧ v ≤ 13 ∧ ns.length ≤ 600) := ⟨by omega, HV.out.2, hok.1.len⟩
  have hl6 : ns.length ≤ 600 := hok.1.len
  clear hok
  obtain ⟨i86, hi, hz0, hz1, hz2⟩ := info_parts info86
  have Hi := Lib.hid hi
  have Hz0 := Lib.hid hz0
  have Hz1 := Lib.hid hz1
  have Hz2 := Lib.hid hz2
  clear hi hz0 hz1 hz2
  go_enter Try.func38, Try.ntmps38
  go_wp2_with (first
    | (go_at_call 92; refine (specOk_any V R A cap ns _ (by exact HA.out.below HB0.out) hn).mono ?_; rintro e w1 ⟨hs, hb1⟩; obtain rfl := hs.t HOK.out; clear hs; have R1 := Lib.hid (HR0.out.below hb1 HR0.out.lt); have X1 := Lib.hid (HX0.out.below hb1 HX0.out.lt); obtain ⟨z0, z1, z2⟩ := X1.out.three; have HB1 : Hid (Below w.heap.size w w1) := HB0.out.trans (hb1.mono HB0.out.size))
    | (go_at_call 65; refine (l7Vars_is _ true hd _).mono ?_; rintro e w' ⟨rfl, rfl⟩))
  clear hd z0 z1 z2
  have hr1 : w.heap.size + 1 < w1.heap.size := R1.out.lt
  go_loopw [7] (fun i wr => ∃ (k : Nat) (A' : Option Addr) (c' : Nat), k ≤ ns.length ∧ Hid (Below w.heap.size w wr) ∧ Hid (Blk wr w.heap.size 28 (dB V R A ns.length cap)) ∧ Hid (Blk wr (w.heap.size + 1) 28 zB) ∧ Hid (Blk wr w1.heap.size 28 (dB v R A' k c')) ∧ Hid (wr.ownsRow w.heap.size 89 3 (.slice A' k c') k (ncells (ns.take k))) ∧ i = .int .i64 k) (fun i _ => ns.length - (intOf i).toNat)
  case atStart => exact ⟨0, none, 0, Nat.zero_le _, HB1.out.alloc (by omega) _, X1.out.alloc _, R1.out.alloc _, Blk.new _ _ _, World.ownsRow_nil _ _ _ _, rfl⟩
  case round =>
    obtain ⟨k, A', c', hk, hbw, hbx, hbr, hbo, ho, rfl⟩ := hrel
    obtain ⟨x0, x1, x2⟩ := hbx.out.three
    obtain ⟨o0, o1, o2⟩ := hbo.out.three
    have e1 : IntKind.i64.wrap ((k : Int) + 1) = (k : Int) + 1 := wrap_eq (by omega) (by omega)
    by_cases hkl : k < ns.length
    case neg =>
      obtain rfl : k = ns.length := by omega
      obtain ⟨r0, r1, r2⟩ := hbr.out.three
      have y0 := hbr.out.frozen 0
      have y1 := hbr.out.frozen 1
      have y2 := hbr.out.frozen 2
      go_wp2_with fail
      obtain ⟨u0, u1, u2⟩ := (hbr.out.put3 (.int .i64 v) (.slice A' ns.length c') (.int .i64 R)).three
      refine bodyPost_ret (v := .tuple #[.agg #[.int .i64 v, .slice A' ns.length c', .int .i64 R], .bool true]) (by simp [results, Try.results38, go_sem, u0, u1, u2]) rfl ⟨⟨v, R, ns, true, A', c', .inl ⟨⟨HOK.out, Hlt.out.1, Hlt.out.2.1⟩, Hlt.out.2.2, rfl, rfl, rfl, rfl⟩, rfl, ?_⟩, below_put3 hbw.out (by omega) _ _ _⟩
      have ho' := ho.out
      rw [List.take_length] at ho'
      exact own_put3 ho' (own_ne_blk ho' hbr.out (by decide)) _ _ _
    obtain ⟨b, off, rfl, c1, c2, c3⟩ := HA.out.get hbw.out hkl
    obtain ⟨_, _, hE, hlA, -⟩ := (HA.out.below hbw.out) (by omega)
    obtain ⟨rfl, rfl⟩ : b = _ ∧ off = _ := by simpa using hE
    clear hE
    have hget : ns[k]? = some ns[k] := List.getElem?_eq_getElem hkl
    generalize hnk : ns[k] = n at c1 c2 c3 hget
    have Hget := Lib.hid hget
    clear hget hnk
    have hj0 : (0 : Int) ≤ k := by omega
    have hj1 : (k : Int) < (ns.length : Int) := by omega
    have hbs : w.heap.size ≤ wr.heap.size := hbw.out.size
    have HK3 : Hid (∀ Y w3, (wr.alloc Y).grownBy w3 (Value.slice A' k c').ownBlock → w3.cell? ⟨w1.heap.size, 1, none⟩ = some (.slice A' k c') ∧ w3.frozen? ⟨w1.heap.size, 1, none⟩ = false) := fun Y w3 hg => by
      have hb3 := (hbo.out.alloc Y).grown hg (fun e => own_ne_blk ho.out hbo.out (by decide) e.symm)
      exact ⟨by rw [hb3.cell]; rfl, hb3.frozen 1⟩
    have o1' := (hbo.out.alloc (.cells #[.int .i64 n.v, .int .i64 n.lo, .int .i64 n.hi] 89)).three.2.1
    go_wp2_with fail
    go_region_law (refine step_append_lies _ rfl (.tmp 35) (.tmp 41) 26 rfl w.heap.size 89 i86 _ 3 24 Try.underlying26 Hi.out Hz0.out Hz1.out Hz2.out rfl (by decide) _ k (ncells (ns.take k)) rfl (by exact ho.out.alloc _) ⟨wr.heap.size, 0, none⟩ 1 1 [.int .i64 n.v, .int .i64 n.lo, .int .i64 n.hi] rfl rfl (Blk.news (Blk.new_at _ 89 #[.int .i64 n.v, .int .i64 n.lo, .int .i64 n.hi] (by simp))) (by simp [Value.oneCell']) (by decide) (by unfold maxLen; omega) (by omega) (by simp; omega) (wr.heap.size + 1) (by simp) ?_; intro g c2 w3 ho3 hg3 hor3 hl3; obtain ⟨c5, f5⟩ := HK3.out _ w3 ⟨hg3.os, hg3.tape, hg3.output, hg3.size, hg3.block⟩)
    all_goals
      go_wp2_with fail
      go_roundw
      case rel =>
        have hg : (wr.alloc (.cells #[.int .i64 n.v, .int .i64 n.lo, .int .i64 n.hi] 89)).grownBy w3 (Value.slice A' k c').ownBlock := ⟨hg3.os, hg3.tape, hg3.output, hg3.size, hg3.block⟩
        have hlow : ∀ q, q < w.heap.size → some q ≠ (Value.slice A' k c').ownBlock := fun q hq => own_low ho.out hq
        have hne : ∀ q x, Blk wr q 28 x → some q ≠ (Value.slice A' k c').ownBlock := fun q x hq e => own_ne_blk ho.out hq (by decide) e.symm
        have hbo3 := (hbo.out.alloc (.cells #[.int .i64 n.v, .int .i64 n.lo, .int .i64 n.hi] 89)).grown hg (hne _ _ hbo.out)
        refine ⟨k + 1, _, c2, by omega, ?_, ?_, ?_, hbo3.set_ 1 _, ?_, by go_num⟩
        · exact ((hbw.out.alloc hbs _).grown hg (by simp; omega) fun q hq => by
            rcases Nat.lt_or_ge q w.heap.size with h | h
            · exact (hlow q h hq.symm).elim
            · exact h).setCell (p := ⟨w1.heap.size, 1, none⟩) HB1.out.size _
        · exact ((hbx.out.alloc _).grown hg (hne _ _ hbx.out)).far (p := ⟨w1.heap.size, 1, none⟩) (by show w.heap.size ≠ w1.heap.size; omega) _
        · exact ((hbr.out.alloc _).grown hg (hne _ _ hbr.out)).far (p := ⟨w1.heap.size, 1, none⟩) (by show w.heap.size + 1 ≠ w1.heap.size; omega) _
        · show World.ownsRow _ _ _ _ _ _ _
          rw [ncells_take ns k n Hget.out]
          exact own_far ho3 (p := ⟨w1.heap.size, 1, none⟩) (own_ne_blk ho3 hbo3 (by decide)) _
      case measure => simp [intOf]; omega
end Go.Proofs.Ytffefegjnbfobaa
