/- impl.ways: the clauses of a diagram, walked. -/
import Derived.Test.YtffefegjnbfobaaPw
import Derived.Test.YtffefegjnbfobaaT
import Derived.Deep.RegionHeld3
namespace Go.Proofs.Ytffefegjnbfobaa
open Go.RowKit
open B

theorem info23 : (Try.prog.info? 23).map (fun i => (i.zero, i.size, i.bytes)) = some (some (.slice none 0 0), 1, 24) := by kernel_rfl

set_option maxRecDepth 100000 in
theorem cloneInts_any (A : Option Addr) (c : Nat) (l : List Int) (w : World) (hs : Src w A l.length c (l.map (.int .i64))) (hn : l.length ≤ 1048576) :
    Calls Try.prog 138 #[.slice A l.length c] w fun e w' => ∃ A' c', e = .returned (.slice A' l.length c') ∧
      w'.ownsRow w.heap.size 3 1 (.slice A' l.length c') l.length (l.map (.int .i64)) ∧ Below w.heap.size w w' := by
  have HS := Lib.hid hs
  clear hs
  obtain ⟨i3, hi, hz0, hz1, hz2⟩ := info_parts info3
  go_enter Try.func138, Try.ntmps138
  go_wp2_with (at_builtin; refine wpList_append_src rfl _ _ 23 rfl w.heap.size 3 i3 (.int .i64 0) 1 8 Try.underlying23 hi hz0 hz1 hz2 rfl (by decide) _ 0 [] rfl (World.ownsRow_nil _ _ _ _) A l.length c (l.map (.int .i64)) rfl (by exact HS.out) (by simp) (ints_one l) (by unfold maxLen; omega) (by omega) (Nat.le_refl _) ?_; intro A' c' w3 ho3 hg3 hor3)
  go_ret
  replace hg3 : World.grownBy _ w3 none := hg3
  simp only [Nat.zero_add, List.nil_append] at ho3 ⊢
  exact ⟨A', c', rfl, ho3, (Below.refl _ _).grown hg3 (Nat.le_refl _) (by simp)⟩

/-- What a walk over the ways hands back: the clauses, their row grown in place or laid anew. -/
def WaysPost (B : Nat) (w : World) (v : Value) (out : List (List Int)) (e : Ending) (w' : World) : Prop :=
  ∃ A' c' us', e = .returned (.slice A' out.length c') ∧ IntSS w' B (.slice A' out.length c') us' out ∧ w.grownBy w' v.ownBlock ∧
      ((Value.slice A' out.length c').ownBlock = v.ownBlock ∨ ∃ g, (Value.slice A' out.length c').ownBlock = some g ∧ w.heap.size ≤ g)

set_option maxRecDepth 100000 in
theorem implWays_stop (B : Nat) (V R : Int) (NA WA A : Option Addr) (cap wcp c n m : Nat) (p : Int) (L : List (List Int)) (us : List Value) (w : World) (hL : L.length ≤ 61) (hstop : p = 1 ∨ 60 < L.length) (ho : IntSS w B (.slice A L.length c) us L) :
    Calls Try.prog 106 #[.agg #[.int .i64 V, .slice NA n cap, .int .i64 R], .int .i64 p, .slice WA m wcp, .slice A L.length c] w fun e w' => WaysPost B w (.slice A L.length c) L e w' := by
  have HO := Lib.hid ho
  clear ho
  by_cases h : 60 < L.length
  · go_enter Try.func106, Try.ntmps106
    go_wp2_with fail
    go_ret
    exact ⟨A, c, us, rfl, HO.out.alloc _, World.grownBy_alloc _ _ _, .inl rfl⟩
  · obtain rfl : p = 1 := by omega
    have d1 : decide (60 < L.length) = false := by simpa using h
    have d2 : decide ((60 : Int) < (L.length : Int)) = false := by simpa using by omega
    clear hstop
    go_enter Try.func106, Try.ntmps106
    go_wp2_with fail
    go_ret
    exact ⟨A, c, us, rfl, HO.out.alloc _, World.grownBy_alloc _ _ _, .inl rfl⟩

set_option maxRecDepth 100000 in
theorem implWays_end (B : Nat) (V R : Int) (NA WA A : Option Addr) (cap wcp c n : Nat) (l : List Int) (L : List (List Int)) (us : List Value) (w : World) (hB : B ≤ w.heap.size) (hL : L.length ≤ 60) (hl : l.length ≤ 13) (how : w.ownsRow 0 3 1 (.slice WA l.length wcp) l.length (l.map (.int .i64))) (ho : IntSS w B (.slice A L.length c) us L) :
    Calls Try.prog 106 #[.agg #[.int .i64 V, .slice NA n cap, .int .i64 R], .int .i64 0, .slice WA l.length wcp, .slice A L.length c] w fun e w' => WaysPost B w (.slice A L.length c) (L ++ [l]) e w' := by
  have HO := Lib.hid ho
  have HW := Lib.hid how
  clear ho how
  have d1 : decide (60 < L.length) = false := by simp; omega
  have d2 : decide ((60 : Int) < (L.length : Int)) = false := by simpa using by omega
  obtain ⟨i23, hi, hz0, hz1, hz2⟩ := info_parts info23
  have hal : Below w.heap.size w (w.alloc (.cells #[.int .i64 V, .slice NA n cap, .int .i64 R] 28)) := (Below.refl _ _).alloc (Nat.le_refl _) _
  have Hal := Lib.hid hal
  clear hal
  go_enter Try.func106, Try.ntmps106
  go_wp2_with (first
    | (go_at_call 138; refine (cloneInts_any WA wcp l _ (by exact Src.of_own (HW.out.alloc _)) (by omega)).mono ?_; rintro e w1 ⟨A1, c1, rfl, ho1, hb1⟩; have HO1 := Lib.hid ho1; have HB1 := Lib.hid hb1; clear ho1 hb1)
    | (at_builtin; refine wpList_append_src rfl _ _ 39 rfl B 23 i23 (.slice none 0 0) 1 24 Try.underlying39 hi hz0 hz1 hz2 rfl (by decide) _ L.length us rfl (by exact (own_below (HO.out.out.alloc _) HB1.out).alloc _) (some ⟨w1.heap.size, 0, none⟩) 1 1 [.slice A1 l.length c1] rfl (by exact .inr ⟨_, rfl, Blk.news (Blk.new_at _ 23 #[.slice A1 l.length c1] rfl)⟩) rfl (by simp [Value.oneCell']) (by unfold maxLen; omega) (by omega) (by have := HB1.out.size; simp at this ⊢; omega) ?_; intro A3 c3 w3 ho3 hg3 hor3))
  replace hor3 : (Value.slice A3 (L.length + 1) c3).ownBlock = (Value.slice A L.length c).ownBlock ∨ _ := hor3
  replace hg3 : World.grownBy _ w3 (Value.slice A L.length c).ownBlock := hg3
  go_ret
  have hs1 := HB1.out.size
  have hs3 := hg3.size
  simp only [World.size_alloc] at hs1 hs3
  have hg0 : w.grownBy w3 (Value.slice A L.length c).ownBlock := ((World.grownBy_alloc w _ _).trans ⟨HB1.out.os, HB1.out.tape, HB1.out.output, HB1.out.size, fun x hx _ => HB1.out.block x hx⟩).trans ((World.grownBy_alloc w1 _ _).trans hg3)
  have h1 : IntSS (w1.alloc (.cells #[.slice A1 l.length c1] 23)) B (.slice A L.length c) us L := ((HO.out.alloc _).below HB1.out).alloc _
  refine ⟨A3, c3, us ++ [.slice A1 l.length c1], by simp, ?_, by simpa using hg0, ?_⟩
  · have h2 := h1.push (l := l) (c := c1) (A := A1) (by exact ho3) hg3 (by exact own_mono (HO1.out.alloc _) (by simp; omega)) (fun u hu g hg e => by
      have a := (HO.out.lt hu hg).2
      have b := (HO1.out.lt g e).1
      simp at b
      omega)
    simpa using h2
  · rw [show (L ++ [l]).length = L.length + 1 by simp]
    rcases hor3 with h | h
    · exact .inl h
    · exact .inr ⟨_, h, by simp; omega⟩
-- by genways.py
/-- The row of rows, carried over a call's own world. -/
theorem grown_below {w w' w'' : World} {o : Option Nat} (h : Below w.heap.size w w') (hg : w'.grownBy w'' o) : w.grownBy w'' o :=
  World.grownBy.trans ⟨h.os, h.tape, h.output, h.size, fun x hx _ => h.block x hx⟩ hg

set_option maxRecDepth 100000 in
set_option maxHeartbeats 1000000 in
theorem implWays_any (B : Nat) (V R : Int) (NA : Option Addr) (cap vars : Nat) (ns : List Nd) (hf : Fm vars ns) (hv : vars ≤ 13) (hlen : ns.length ≤ 1048576) : ∀ (fuel : Nat) (p : Int) (l : List Int) (WA : Option Addr) (wcp : Nat) (L : List (List Int)) (us : List Value) (A : Option Addr) (c : Nat) (w : World),
    p.toNat ≤ fuel → isP ns p → B ≤ w.heap.size → (∀ W, Below B w W → NAt W NA ns) → l.length ≤ vr vars ns p → w.ownsRow 0 3 1 (.slice WA l.length wcp) l.length (l.map (.int .i64)) → Few vars L → IntSS w B (.slice A L.length c) us L →
    Calls Try.prog 106 #[.agg #[.int .i64 V, .slice NA ns.length cap, .int .i64 R], .int .i64 p, .slice WA l.length wcp, .slice A L.length c] w fun e w' => WaysPost B w (.slice A L.length c) (ways ns p l L) e w' := by
  intro fuel
  induction fuel with
  | zero =>
    intro p l WA wcp L us A c w hr hp hB hN hl how hfew ho
    have := hp.1
    obtain rfl : p = 0 := by omega
    have hvr := vr_le hf hp
    by_cases h : 60 < L.length
    · rw [ways_stop 0 l L (.inr h)]
      exact implWays_stop B V R NA WA A cap wcp c _ _ 0 L us w hfew.few (.inr h) ho
    · rw [ways_end ns l L (by omega)]
      exact implWays_end B V R NA WA A cap wcp c _ l L us w hB (by omega) (by omega) how ho
  | succ fuel ih =>
    intro p l WA wcp L us A c w hr hp hB hN hl how hfew ho
    have hp0 := hp.1
    have hvr := vr_le hf hp
    by_cases hstop : p = 1 ∨ 60 < L.length
    · rw [ways_stop p l L hstop]
      exact implWays_stop B V R NA WA A cap wcp c _ _ p L us w hfew.few hstop ho
    by_cases hz : p = 0
    · subst hz
      rw [ways_end ns l L (by omega)]
      exact implWays_end B V R NA WA A cap wcp c _ l L us w hB (by omega) (by omega) how ho
    have hL60 : L.length ≤ 60 := by omega
    have h1 : 1 < p := by omega
    have hres := ways_step hf hp h1 l L hL60
    have hlo := isP_lo hf h1 hp.2
    have hhi := isP_hi hf h1 hp.2
    have vlo := vr_lo hf h1 hp.2
    have vhi := vr_hi hf h1 hp.2
    have hvr1 := vr_lt hf h1 hp.2
    have hvn : vr vars ns p = (nd ns p).v.toNat := vr_node vars ns h1
    have hv0 : 0 ≤ (nd ns p).v := (good hf h1 hp.2).v0
    have hal : Below B w (w.alloc (.cells #[.int .i64 V, .slice NA ns.length cap, .int .i64 R] 28)) := (Below.refl _ _).alloc hB _
    obtain ⟨nb, noff, rfl, x0, x1, x2⟩ := (hN _ hal).nd (Below.refl _ _) (p := p) h1 hp.2
    have d0 : (p == 0) = false := by simpa using hz
    have d1 : (p == 1) = false := by simp; omega
    have d2 : decide (60 < L.length) = false := by simp; omega
    have d3 : decide ((60 : Int) < (L.length : Int)) = false := by simpa using by omega
    have e2 : IntKind.i64.wrap (p - 2) = p - 2 := wrap_eq (by have := hp.2; omega) (by have := hp.2; omega)
    have hx0 : 0 ≤ p - 2 := by omega
    have hx1 : p - 2 < (ns.length : Int) := by have := hp.2; omega
    have hh : Hid (ways ns p l L = ways ns (nd ns p).hi (l ++ [-(nd ns p).v - 1]) (ways ns (nd ns p).lo (l ++ [(nd ns p).v + 1]) L)) := Lib.hid (by rw [hres, show -(nd ns p).v - 1 = -((nd ns p).v + 1) by omega])
    have HR := Lib.hid hr
    have HS := Lib.hid (show (isP ns (nd ns p).lo ∧ (nd ns p).lo < p) ∧ (isP ns (nd ns p).hi ∧ (nd ns p).hi < p) ∧ l.length + 1 ≤ vr vars ns (nd ns p).lo ∧ l.length + 1 ≤ vr vars ns (nd ns p).hi from ⟨hlo, hhi, by omega, by omega⟩)
    have HF := Lib.hid hf
    have hvb : (nd ns p).v < 13 := by omega
    have hlb : l.length < 13 := by omega
    generalize (nd ns p).v = vN at *
    generalize (nd ns p).lo = loN at *
    generalize (nd ns p).hi = hiN at *
    have k1 : IntKind.i64.wrap (vN + 1) = vN + 1 := wrap_eq (by omega) (by omega)
    have k2 : IntKind.i64.wrap (-vN) = -vN := wrap_eq (by omega) (by omega)
    have k3 : IntKind.i64.wrap (-vN - 1) = -vN - 1 := wrap_eq (by omega) (by omega)
    have HO := Lib.hid ho
    have HN := Lib.hid hN
    have HW := Lib.hid how
    have HE := Lib.hid hfew
    have IH := Lib.hid ih
    obtain ⟨i3, hi, hz0, hz1, hz2⟩ := info_parts info3
    have Hi := Lib.hid hi
    have Hz0 := Lib.hid hz0
    have Hz1 := Lib.hid hz1
    have Hz2 := Lib.hid hz2
    clear ho hN how hfew ih hres hlo hhi vlo vhi hvr hvr1 hvn hf hal hr hl hi hz0 hz1 hz2 hz hstop
    have hp2 := hp.2
    go_enter Try.func106, Try.ntmps106
    go_wp2_with fail

    have BXa : Hid (Blk ((w.alloc (.cells #[.int .i64 V, .slice (some ⟨nb, noff, none⟩) ns.length cap, .int .i64 R] 28)).alloc (.cells #[.int .i64 vN, .int .i64 loN, .int .i64 hiN] 89)) w.heap.size 28 #[.int .i64 V, .slice (some ⟨nb, noff, none⟩) ns.length cap, .int .i64 R]) := (Blk.new w _ _).alloc _
    have BNa : Hid (Blk ((w.alloc (.cells #[.int .i64 V, .slice (some ⟨nb, noff, none⟩) ns.length cap, .int .i64 R] 28)).alloc (.cells #[.int .i64 vN, .int .i64 loN, .int .i64 hiN] 89)) (w.heap.size + 1) 89 #[.int .i64 vN, .int .i64 loN, .int .i64 hiN]) := Blk.new_at _ _ _ (by simp)
    have WYa : Hid (((w.alloc (.cells #[.int .i64 V, .slice (some ⟨nb, noff, none⟩) ns.length cap, .int .i64 R] 28)).alloc (.cells #[.int .i64 vN, .int .i64 loN, .int .i64 hiN] 89)).ownsRow 0 3 1 (.slice WA l.length wcp) l.length (l.map (.int .i64))) := (HW.out.alloc _).alloc _
    have HOa : Hid (IntSS ((w.alloc (.cells #[.int .i64 V, .slice (some ⟨nb, noff, none⟩) ns.length cap, .int .i64 R] 28)).alloc (.cells #[.int .i64 vN, .int .i64 loN, .int .i64 hiN] 89)) B (.slice A L.length c) us L) := (HO.out.alloc _).alloc _
    have HBa : Hid (Below w.heap.size w ((w.alloc (.cells #[.int .i64 V, .slice (some ⟨nb, noff, none⟩) ns.length cap, .int .i64 R] 28)).alloc (.cells #[.int .i64 vN, .int .i64 loN, .int .i64 hiN] 89))) := ((Below.refl _ _).alloc (Nat.le_refl _) _).alloc (by simp) _
    have HZa : ((w.alloc (.cells #[.int .i64 V, .slice (some ⟨nb, noff, none⟩) ns.length cap, .int .i64 R] 28)).alloc (.cells #[.int .i64 vN, .int .i64 loN, .int .i64 hiN] 89)).heap.size = w.heap.size + 2 := by simp
    clear x0 x1 x2
    generalize ((w.alloc (.cells #[.int .i64 V, .slice (some ⟨nb, noff, none⟩) ns.length cap, .int .i64 R] 28)).alloc (.cells #[.int .i64 vN, .int .i64 loN, .int .i64 hiN] 89)) = wa at *
    have HZA := Lib.hid HZa
    clear HZa
    have T6 := Lib.hid (fun (w2 : World) (A2 : Option Addr) (c2 : Nat) (hb : Below wa.heap.size wa w2) (ho2 : w2.ownsRow 0 3 1 (.slice A2 (l.length + 1) c2) (l.length + 1) ((l ++ [vN + 1]).map (.int .i64))) =>
      (show Calls Try.prog 106 #[.agg #[.int .i64 V, .slice (some ⟨nb, noff, none⟩) ns.length cap, .int .i64 R], .int .i64 loN, .slice A2 (l.length + 1) c2, .slice A L.length c] w2 fun e w' => WaysPost B w2 (.slice A L.length c) (ways ns loN (l ++ [vN + 1]) L) e w' from (by
        rw [show l.length + 1 = (l ++ [vN + 1]).length by simp] at ho2 ⊢
        have h1 := HZA.out
        have h2 := hb.size
        exact IH.out loN (l ++ [vN + 1]) A2 c2 L us A c w2 (by have := HS.out.1.2; have := HS.out.1.1.1; have := HR.out; omega) HS.out.1.1 (by omega) (fun W hW => HN.out W (((HBa.out.mono hB).trans (hb.mono (by omega))).trans hW)) (by have := HS.out.2.2.1; simpa using this) ho2 HE.out (HOa.out.below hb))))
    go_cut [3] (fun s3 wc => ∃ A3 c3 us3, s3 = .slice A3 (ways ns loN (l ++ [vN + 1]) L).length c3 ∧ Hid (IntSS wc B (.slice A3 (ways ns loN (l ++ [vN + 1]) L).length c3) us3 (ways ns loN (l ++ [vN + 1]) L)) ∧ Hid (wa.grownBy wc (Value.slice A L.length c).ownBlock) ∧
      Hid ((Value.slice A3 (ways ns loN (l ++ [vN + 1]) L).length c3).ownBlock = (Value.slice A L.length c).ownBlock ∨ ∃ g, (Value.slice A3 (ways ns loN (l ++ [vN + 1]) L).length c3).ownBlock = some g ∧ wa.heap.size ≤ g))
    case first =>

      go_region_held3 (fun w' => w'.cell? ⟨w.heap.size, 0, none⟩ = some (.int .i64 V) ∧ w'.cell? ⟨w.heap.size, 1, none⟩ = some (.slice (some ⟨nb, noff, none⟩) ns.length cap) ∧ w'.cell? ⟨w.heap.size, 2, none⟩ = some (.int .i64 R) ∧ w'.cell? ⟨w.heap.size + 1, 0, none⟩ = some (.int .i64 vN) ∧ w'.cell? ⟨w.heap.size + 1, 1, none⟩ = some (.int .i64 loN) ∧ w'.cell? ⟨w.heap.size + 1, 2, none⟩ = some (.int .i64 hiN)) (first | with_reducible (exact ⟨(BXa.out).three.1, (BXa.out).three.2.1, (BXa.out).three.2.2, (BNa.out).three.1, (BNa.out).three.2.1, (BNa.out).three.2.2⟩) | with_reducible (exact ⟨(BXa.out.drew).three.1, (BXa.out.drew).three.2.1, (BXa.out.drew).three.2.2, (BNa.out.drew).three.1, (BNa.out.drew).three.2.1, (BNa.out.drew).three.2.2⟩) | with_reducible (exact ⟨((BXa.out.alloc _).drew).three.1, ((BXa.out.alloc _).drew).three.2.1, ((BXa.out.alloc _).drew).three.2.2, ((BNa.out.alloc _).drew).three.1, ((BNa.out.alloc _).drew).three.2.1, ((BNa.out.alloc _).drew).three.2.2⟩) | with_reducible (exact ⟨(BXa.out.drew.alloc _).three.1, (BXa.out.drew.alloc _).three.2.1, (BXa.out.drew.alloc _).three.2.2, (BNa.out.drew.alloc _).three.1, (BNa.out.drew.alloc _).three.2.1, (BNa.out.drew.alloc _).three.2.2⟩) | with_reducible (exact ⟨(BX1.out).three.1, (BX1.out).three.2.1, (BX1.out).three.2.2, (BN1.out).three.1, (BN1.out).three.2.1, (BN1.out).three.2.2⟩) | with_reducible (exact ⟨(BX1.out.alloc _).three.1, (BX1.out.alloc _).three.2.1, (BX1.out.alloc _).three.2.2, (BN1.out.alloc _).three.1, (BN1.out.alloc _).three.2.1, (BN1.out.alloc _).three.2.2⟩) | with_reducible (exact ⟨(BX2.out).three.1, (BX2.out).three.2.1, (BX2.out).three.2.2, (BN2.out).three.1, (BN2.out).three.2.1, (BN2.out).three.2.2⟩) | with_reducible (exact ⟨(BX3.out).three.1, (BX3.out).three.2.1, (BX3.out).three.2.2, (BN3.out).three.1, (BN3.out).three.2.1, (BN3.out).three.2.2⟩)) (first
      | (go_at_call 138; refine (cloneInts_any WA wcp l (wa.drew) (by exact Src.of_own (WYa.out.drew)) (by omega)).mono ?_; rintro e w1 ⟨A1, c1, rfl, ho1, hb1⟩; have HB1 : Hid (Below wa.heap.size wa w1) := ((Below.refl wa.heap.size wa).drew).trans (hb1.mono (by simp)); have BX1 := Lib.hid (BXa.out.below HB1.out BXa.out.lt); have BN1 := Lib.hid (BNa.out.below HB1.out BNa.out.lt); have HO1 := Lib.hid (own_mono ho1 (show wa.heap.size ≤ _ from (by simp))); clear ho1 hb1)
      | (go_at_call 138; refine (cloneInts_any WA wcp l ((wa.alloc _).drew) (by exact Src.of_own ((WYa.out.alloc _).drew)) (by omega)).mono ?_; rintro e w1 ⟨A1, c1, rfl, ho1, hb1⟩; have HB1 : Hid (Below wa.heap.size wa w1) := (((Below.refl wa.heap.size wa).alloc (Nat.le_refl _) _).drew).trans (hb1.mono (by simp)); have NB1 : Hid (Blk w1 wa.heap.size 3 #[.int .i64 (vN + 1)]) := (Blk.new wa _ _).drew.below hb1 (by simp); have BX1 := Lib.hid (BXa.out.below HB1.out BXa.out.lt); have BN1 := Lib.hid (BNa.out.below HB1.out BNa.out.lt); have HO1 := Lib.hid (own_mono ho1 (show wa.heap.size ≤ _ from (by simp))); clear ho1 hb1)
      | (go_at_call 138; refine (cloneInts_any WA wcp l (wa.drew.alloc _) (by exact Src.of_own (WYa.out.drew.alloc _)) (by omega)).mono ?_; rintro e w1 ⟨A1, c1, rfl, ho1, hb1⟩; have HB1 : Hid (Below wa.heap.size wa w1) := ((Below.refl wa.heap.size wa).drew.alloc (Nat.le_refl _) _).trans (hb1.mono (by simp)); have NB1 : Hid (Blk w1 wa.heap.size 3 #[.int .i64 (vN + 1)]) := (Blk.new wa.drew _ _).below hb1 (by simp); have BX1 := Lib.hid (BXa.out.below HB1.out BXa.out.lt); have BN1 := Lib.hid (BNa.out.below HB1.out BNa.out.lt); have HO1 := Lib.hid (own_mono ho1 (show wa.heap.size ≤ _ from (by simp))); clear ho1 hb1)
      | (refine step_append_src rfl (.tmp 37) (.tmp 41) 23 rfl wa.heap.size 3 i3 (.int .i64 0) 1 8 Try.underlying23 Hi.out Hz0.out Hz1.out Hz2.out rfl (by decide) _ l.length (l.map (.int .i64)) rfl (by exact HO1.out.alloc _) (some ⟨w1.heap.size, 0, none⟩) 1 1 [.int .i64 (vN + 1)] rfl (by exact .inr ⟨_, rfl, Blk.news (Blk.new_at _ 3 #[.int .i64 (vN + 1)] rfl)⟩) rfl (by simp [Value.oneCell']) (by unfold maxLen; omega) (by omega) (by have := HB1.out.size; simp; omega) ?_; intro A2 c2 w2 ho2 hg2 hor2; replace hg2 : World.grownBy _ w2 (Value.slice A1 l.length c1).ownBlock := hg2; have HB2 : Hid (Below wa.heap.size wa w2) := (HB1.out.alloc HB1.out.size _).grown hg2 (by have := HB1.out.size; simp; omega) (fun x hx => (HO1.out.lt x hx).1); have BX2 := Lib.hid (BXa.out.below HB2.out BXa.out.lt); have BN2 := Lib.hid (BNa.out.below HB2.out BNa.out.lt); have HO2 : Hid (World.ownsRow _ 0 3 1 (.slice A2 (l.length + 1) c2) (l.length + 1) ((l ++ [vN + 1]).map (.int .i64))) := own_mono (by simpa using ho2) (Nat.zero_le _); clear ho2 hg2 hor2)
      | (refine step_append_src rfl (.tmp 37) (.tmp 41) 23 rfl wa.heap.size 3 i3 (.int .i64 0) 1 8 Try.underlying23 Hi.out Hz0.out Hz1.out Hz2.out rfl (by decide) _ l.length (l.map (.int .i64)) rfl (by exact HO1.out) (some ⟨wa.heap.size, 0, none⟩) 1 1 [.int .i64 (vN + 1)] rfl (by exact .inr ⟨_, rfl, Blk.news NB1.out⟩) rfl (by simp [Value.oneCell']) (by unfold maxLen; omega) (by omega) (by have := HB1.out.size; simp; omega) ?_; intro A2 c2 w2 ho2 hg2 hor2; replace hg2 : World.grownBy _ w2 (Value.slice A1 l.length c1).ownBlock := hg2; have HB2 : Hid (Below wa.heap.size wa w2) := HB1.out.grown hg2 (by have := HB1.out.size; simp; omega) (fun x hx => (HO1.out.lt x hx).1); have BX2 := Lib.hid (BXa.out.below HB2.out BXa.out.lt); have BN2 := Lib.hid (BNa.out.below HB2.out BNa.out.lt); have HO2 : Hid (World.ownsRow _ 0 3 1 (.slice A2 (l.length + 1) c2) (l.length + 1) ((l ++ [vN + 1]).map (.int .i64))) := own_mono (by simpa using ho2) (Nat.zero_le _); clear ho2 hg2 hor2)
      | (go_at_call 106; refine (T6.out w2 A2 c2 HB2.out HO2.out).mono ?_; rintro e w3 ⟨A3, c3, us3, rfl, ho3, hg3, hor3⟩; have HB3 := HB2; have HO3 := Lib.hid ho3; have HG3 := Lib.hid hg3; have HR3 := Lib.hid hor3; have BX3 := Lib.hid (BX2.out.grown hg3 (Ne.symm (own_ne_blk HOa.out.out BXa.out (by decide)))); have BN3 := Lib.hid (BN2.out.grown hg3 (Ne.symm (own_ne_blk HOa.out.out BNa.out (by decide)))); clear ho3 hg3 hor3))
      all_goals
        go_wp2_with fail
        go_meet
        case rel => exact ⟨A3, c3, us3, rfl, HO3, grown_below HB3.out HG3.out, HR3.out.imp id (fun ⟨g, h, hg⟩ => ⟨g, h, Nat.le_trans HB3.out.size hg⟩)⟩
    case rest =>
      obtain ⟨A3, c3, us3, rfl, HO3, HG3, HR3⟩ := hcut
      have hf1 : Hid (Few vars (ways ns loN (l ++ [vN + 1]) L)) := Lib.hid (HE.out.ways HF.out HS.out.1.1 (by have := HS.out.2.2.1; simpa using this))
      generalize ways ns loN (l ++ [vN + 1]) L = L1 at *
      have hl1 := hf1.out.few
      have BXb : Hid (Blk wc w.heap.size 28 #[.int .i64 V, .slice (some ⟨nb, noff, none⟩) ns.length cap, .int .i64 R]) := BXa.out.grown HG3.out (Ne.symm (own_ne_blk HOa.out.out BXa.out (by decide)))
      have BNb : Hid (Blk wc (w.heap.size + 1) 89 #[.int .i64 vN, .int .i64 loN, .int .i64 hiN]) := BNa.out.grown HG3.out (Ne.symm (own_ne_blk HOa.out.out BNa.out (by decide)))
      have WYb : Hid (wc.ownsRow 0 3 1 (.slice WA l.length wcp) l.length (l.map (.int .i64))) := WYa.out.kept HG3.out (own_own WYa.out HOa.out.out (by decide))
      have HBb : Hid (Below B w wc) := (HBa.out.mono hB).grown HG3.out (by have := HZA.out; omega) (fun x hx => (HOa.out.out.lt x hx).1)
      have HZB : Hid (w.heap.size + 2 ≤ wc.heap.size) := Lib.hid (by have := HZA.out; have := HG3.out.size; omega)
      have T7 := Lib.hid (fun (w2 : World) (A2 : Option Addr) (c2 : Nat) (hb : Below wc.heap.size wc w2) (ho2 : w2.ownsRow 0 3 1 (.slice A2 (l.length + 1) c2) (l.length + 1) ((l ++ [-vN - 1]).map (.int .i64))) =>
        (show Calls Try.prog 106 #[.agg #[.int .i64 V, .slice (some ⟨nb, noff, none⟩) ns.length cap, .int .i64 R], .int .i64 hiN, .slice A2 (l.length + 1) c2, .slice A3 L1.length c3] w2 fun e w' => WaysPost B w2 (.slice A3 L1.length c3) (ways ns hiN (l ++ [-vN - 1]) L1) e w' from (by
          rw [show l.length + 1 = (l ++ [-vN - 1]).length by simp] at ho2 ⊢
          have h1 := HZB.out
          have h2 := hb.size
          exact IH.out hiN (l ++ [-vN - 1]) A2 c2 L1 us3 A3 c3 w2 (by have := HS.out.2.1.2; have := HS.out.2.1.1.1; have := HR.out; omega) HS.out.2.1.1 (by omega) (fun W hW => HN.out W ((HBb.out.trans (hb.mono (by omega))).trans hW)) (by have := HS.out.2.2.2; simpa using this) ho2 hf1.out (HO3.out.below hb))))
      have HOo := HO3
      have HGo := HG3
      have HRo := HR3
      clear HO3 HG3 HR3
      go_wp2_with fail
      go_region_held3 (fun w' => w'.cell? ⟨w.heap.size, 0, none⟩ = some (.int .i64 V) ∧ w'.cell? ⟨w.heap.size, 1, none⟩ = some (.slice (some ⟨nb, noff, none⟩) ns.length cap) ∧ w'.cell? ⟨w.heap.size, 2, none⟩ = some (.int .i64 R) ∧ w'.cell? ⟨w.heap.size + 1, 0, none⟩ = some (.int .i64 vN) ∧ w'.cell? ⟨w.heap.size + 1, 1, none⟩ = some (.int .i64 loN) ∧ w'.cell? ⟨w.heap.size + 1, 2, none⟩ = some (.int .i64 hiN)) (first | with_reducible (exact ⟨(BXb.out).three.1, (BXb.out).three.2.1, (BXb.out).three.2.2, (BNb.out).three.1, (BNb.out).three.2.1, (BNb.out).three.2.2⟩) | with_reducible (exact ⟨(BXb.out.drew).three.1, (BXb.out.drew).three.2.1, (BXb.out.drew).three.2.2, (BNb.out.drew).three.1, (BNb.out.drew).three.2.1, (BNb.out.drew).three.2.2⟩) | with_reducible (exact ⟨((BXb.out.alloc _).drew).three.1, ((BXb.out.alloc _).drew).three.2.1, ((BXb.out.alloc _).drew).three.2.2, ((BNb.out.alloc _).drew).three.1, ((BNb.out.alloc _).drew).three.2.1, ((BNb.out.alloc _).drew).three.2.2⟩) | with_reducible (exact ⟨(BXb.out.drew.alloc _).three.1, (BXb.out.drew.alloc _).three.2.1, (BXb.out.drew.alloc _).three.2.2, (BNb.out.drew.alloc _).three.1, (BNb.out.drew.alloc _).three.2.1, (BNb.out.drew.alloc _).three.2.2⟩) | with_reducible (exact ⟨(BX1.out).three.1, (BX1.out).three.2.1, (BX1.out).three.2.2, (BN1.out).three.1, (BN1.out).three.2.1, (BN1.out).three.2.2⟩) | with_reducible (exact ⟨(BX1.out.alloc _).three.1, (BX1.out.alloc _).three.2.1, (BX1.out.alloc _).three.2.2, (BN1.out.alloc _).three.1, (BN1.out.alloc _).three.2.1, (BN1.out.alloc _).three.2.2⟩) | with_reducible (exact ⟨(BX2.out).three.1, (BX2.out).three.2.1, (BX2.out).three.2.2, (BN2.out).three.1, (BN2.out).three.2.1, (BN2.out).three.2.2⟩) | with_reducible (exact ⟨(BX3.out).three.1, (BX3.out).three.2.1, (BX3.out).three.2.2, (BN3.out).three.1, (BN3.out).three.2.1, (BN3.out).three.2.2⟩)) (first
      | (go_at_call 138; refine (cloneInts_any WA wcp l (wc.drew) (by exact Src.of_own (WYb.out.drew)) (by omega)).mono ?_; rintro e w1 ⟨A1, c1, rfl, ho1, hb1⟩; have HB1 : Hid (Below wc.heap.size wc w1) := ((Below.refl wc.heap.size wc).drew).trans (hb1.mono (by simp)); have BX1 := Lib.hid (BXb.out.below HB1.out BXb.out.lt); have BN1 := Lib.hid (BNb.out.below HB1.out BNb.out.lt); have HO1 := Lib.hid (own_mono ho1 (show wc.heap.size ≤ _ from (by simp))); clear ho1 hb1)
      | (go_at_call 138; refine (cloneInts_any WA wcp l ((wc.alloc _).drew) (by exact Src.of_own ((WYb.out.alloc _).drew)) (by omega)).mono ?_; rintro e w1 ⟨A1, c1, rfl, ho1, hb1⟩; have HB1 : Hid (Below wc.heap.size wc w1) := (((Below.refl wc.heap.size wc).alloc (Nat.le_refl _) _).drew).trans (hb1.mono (by simp)); have NB1 : Hid (Blk w1 wc.heap.size 3 #[.int .i64 (-vN - 1)]) := (Blk.new wc _ _).drew.below hb1 (by simp); have BX1 := Lib.hid (BXb.out.below HB1.out BXb.out.lt); have BN1 := Lib.hid (BNb.out.below HB1.out BNb.out.lt); have HO1 := Lib.hid (own_mono ho1 (show wc.heap.size ≤ _ from (by simp))); clear ho1 hb1)
      | (go_at_call 138; refine (cloneInts_any WA wcp l (wc.drew.alloc _) (by exact Src.of_own (WYb.out.drew.alloc _)) (by omega)).mono ?_; rintro e w1 ⟨A1, c1, rfl, ho1, hb1⟩; have HB1 : Hid (Below wc.heap.size wc w1) := ((Below.refl wc.heap.size wc).drew.alloc (Nat.le_refl _) _).trans (hb1.mono (by simp)); have NB1 : Hid (Blk w1 wc.heap.size 3 #[.int .i64 (-vN - 1)]) := (Blk.new wc.drew _ _).below hb1 (by simp); have BX1 := Lib.hid (BXb.out.below HB1.out BXb.out.lt); have BN1 := Lib.hid (BNb.out.below HB1.out BNb.out.lt); have HO1 := Lib.hid (own_mono ho1 (show wc.heap.size ≤ _ from (by simp))); clear ho1 hb1)
      | (refine step_append_src rfl (.tmp 49) (.tmp 54) 23 rfl wc.heap.size 3 i3 (.int .i64 0) 1 8 Try.underlying23 Hi.out Hz0.out Hz1.out Hz2.out rfl (by decide) _ l.length (l.map (.int .i64)) rfl (by exact HO1.out.alloc _) (some ⟨w1.heap.size, 0, none⟩) 1 1 [.int .i64 (-vN - 1)] rfl (by exact .inr ⟨_, rfl, Blk.news (Blk.new_at _ 3 #[.int .i64 (-vN - 1)] rfl)⟩) rfl (by simp [Value.oneCell']) (by unfold maxLen; omega) (by omega) (by have := HB1.out.size; simp; omega) ?_; intro A2 c2 w2 ho2 hg2 hor2; replace hg2 : World.grownBy _ w2 (Value.slice A1 l.length c1).ownBlock := hg2; have HB2 : Hid (Below wc.heap.size wc w2) := (HB1.out.alloc HB1.out.size _).grown hg2 (by have := HB1.out.size; simp; omega) (fun x hx => (HO1.out.lt x hx).1); have BX2 := Lib.hid (BXb.out.below HB2.out BXb.out.lt); have BN2 := Lib.hid (BNb.out.below HB2.out BNb.out.lt); have HO2 : Hid (World.ownsRow _ 0 3 1 (.slice A2 (l.length + 1) c2) (l.length + 1) ((l ++ [-vN - 1]).map (.int .i64))) := own_mono (by simpa using ho2) (Nat.zero_le _); clear ho2 hg2 hor2)
      | (refine step_append_src rfl (.tmp 49) (.tmp 54) 23 rfl wc.heap.size 3 i3 (.int .i64 0) 1 8 Try.underlying23 Hi.out Hz0.out Hz1.out Hz2.out rfl (by decide) _ l.length (l.map (.int .i64)) rfl (by exact HO1.out) (some ⟨wc.heap.size, 0, none⟩) 1 1 [.int .i64 (-vN - 1)] rfl (by exact .inr ⟨_, rfl, Blk.news NB1.out⟩) rfl (by simp [Value.oneCell']) (by unfold maxLen; omega) (by omega) (by have := HB1.out.size; simp; omega) ?_; intro A2 c2 w2 ho2 hg2 hor2; replace hg2 : World.grownBy _ w2 (Value.slice A1 l.length c1).ownBlock := hg2; have HB2 : Hid (Below wc.heap.size wc w2) := HB1.out.grown hg2 (by have := HB1.out.size; simp; omega) (fun x hx => (HO1.out.lt x hx).1); have BX2 := Lib.hid (BXb.out.below HB2.out BXb.out.lt); have BN2 := Lib.hid (BNb.out.below HB2.out BNb.out.lt); have HO2 : Hid (World.ownsRow _ 0 3 1 (.slice A2 (l.length + 1) c2) (l.length + 1) ((l ++ [-vN - 1]).map (.int .i64))) := own_mono (by simpa using ho2) (Nat.zero_le _); clear ho2 hg2 hor2)
      | (go_at_call 106; refine (T7.out w2 A2 c2 HB2.out HO2.out).mono ?_; rintro e w3 ⟨A4, c4, us4, rfl, ho3, hg3, hor3⟩; have HB3 := HB2; have HO3 := Lib.hid ho3; have HG3 := Lib.hid hg3; have HR3 := Lib.hid hor3; have BX3 := Lib.hid (BX2.out.grown hg3 (Ne.symm (own_ne_blk HOo.out.out BXb.out (by decide)))); have BN3 := Lib.hid (BN2.out.grown hg3 (Ne.symm (own_ne_blk HOo.out.out BNb.out (by decide)))); clear ho3 hg3 hor3))
      all_goals
        go_wp2_with fail
        go_ret
        rw [hh.out]
        have G4 : wc.grownBy w3 (Value.slice A3 L1.length c3).ownBlock := grown_below HB3.out HG3.out
        have R4 : (Value.slice A4 (ways ns hiN (l ++ [-vN - 1]) L1).length c4).ownBlock = (Value.slice A3 L1.length c3).ownBlock ∨ ∃ g, (Value.slice A4 (ways ns hiN (l ++ [-vN - 1]) L1).length c4).ownBlock = some g ∧ wc.heap.size ≤ g := HR3.out.imp id (fun ⟨g, h, hg⟩ => ⟨g, h, Nat.le_trans HB3.out.size hg⟩)
        have z1 := HZA.out
        have z2 := HZB.out
        have z3 := G4.size
        refine ⟨A4, c4, us4, rfl, HO3.out, ⟨G4.os.trans (HGo.out.os.trans HBa.out.os), G4.tape.trans (HGo.out.tape.trans HBa.out.tape), G4.output.trans (HGo.out.output.trans HBa.out.output), by omega, fun x hx hne => ?_⟩, ?_⟩
        · refine (G4.block x (by omega) ?_).trans ((HGo.out.block x (by omega) hne).trans (HBa.out.block x hx))
          rcases HRo.out with h | ⟨g, h, hg⟩
          · rw [h]; exact hne
          · rw [h]; intro e; injection e with e; omega
        · rcases R4 with h | ⟨g, h, hg⟩
          · rcases HRo.out with h' | ⟨g, h', hg⟩
            · exact .inl (h.trans h')
            · exact .inr ⟨g, h.trans h', by omega⟩
          · exact .inr ⟨g, h, by omega⟩

end Go.Proofs.Ytffefegjnbfobaa
