/- spec.l10Paths: the clauses of a diagram, walked. -/
import Derived.Test.YtffefegjnbfobaaWi
namespace Go.Proofs.Ytffefegjnbfobaa
open Go.RowKit
open B

/-- The negated list. -/
def negs (l : List Int) : List Int := l.map fun x => -x
theorem negs_len (l : List Int) : (negs l).length = l.length := by simp [negs]
theorem negs_snoc (l : List Int) (x : Int) : negs (l ++ [x]) = negs l ++ [-x] := by simp [negs]
/-- Literals of at most thirteen variables. -/
def Lits (l : List Int) : Prop := ∀ x ∈ l, -13 ≤ x ∧ x ≤ 13
theorem Lits.snoc {l : List Int} (h : Lits l) {x : Int} (h1 : -13 ≤ x) (h2 : x ≤ 13) : Lits (l ++ [x]) := fun y hy => by
  rcases List.mem_append.1 hy with hy | hy
  · exact h y hy
  · simp at hy; subst hy; exact ⟨h1, h2⟩
theorem take_snoc {l : List Int} {k : Nat} (h : k < l.length) : l.take (k + 1) = l.take k ++ [l[k]] := by
  rw [List.take_add_one, List.getElem?_eq_getElem h]; rfl

set_option maxRecDepth 100000 in
theorem specWays_stop (B : Nat) (V R : Int) (NA WA A : Option Addr) (cap wcp c n m : Nat) (p : Int) (L : List (List Int)) (us : List Value) (w : World) (hL : L.length ≤ 61) (hstop : p = 1 ∨ 60 < L.length) (ho : IntSS w B (.slice A L.length c) us L) :
    Calls Try.prog 105 #[.agg #[.int .i64 V, .slice NA n cap, .int .i64 R], .int .i64 p, .slice WA m wcp, .slice A L.length c] w fun e w' => WaysPost B w (.slice A L.length c) L e w' := by
  have HO := Lib.hid ho
  clear ho
  by_cases h : p = 1
  · subst h
    go_enter Try.func105, Try.ntmps105
    go_wp2_with fail
    go_ret
    exact ⟨A, c, us, rfl, HO.out.alloc _, World.grownBy_alloc _ _ _, .inl rfl⟩
  · have h60 : 60 < L.length := by omega
    have d1 : (p == 1) = false := by simpa using h
    have d2 : decide (60 < L.length) = true := by simpa using h60
    have d3 : decide ((60 : Int) < (L.length : Int)) = true := by simpa using by omega
    clear hstop
    go_enter Try.func105, Try.ntmps105
    go_wp2_with fail
    go_ret
    exact ⟨A, c, us, rfl, HO.out.alloc _, World.grownBy_alloc _ _ _, .inl rfl⟩

set_option maxRecDepth 100000 in
theorem specWays_end (B : Nat) (V R : Int) (NA WA A : Option Addr) (cap wcp c n : Nat) (l : List Int) (hb : Lits l) (L : List (List Int)) (us : List Value) (w : World) (hB : B ≤ w.heap.size) (hL : L.length ≤ 60) (hl : l.length ≤ 13) (how : w.ownsRow 0 3 1 (.slice WA l.length wcp) l.length (l.map (.int .i64))) (ho : IntSS w B (.slice A L.length c) us L) :
    Calls Try.prog 105 #[.agg #[.int .i64 V, .slice NA n cap, .int .i64 R], .int .i64 0, .slice WA l.length wcp, .slice A L.length c] w fun e w' => WaysPost B w (.slice A L.length c) (L ++ [negs l]) e w' := by
  have HO := Lib.hid ho
  have HW := Lib.hid how
  have HLB := Lib.hid hb
  clear ho how hb
  have d1 : decide (60 < L.length) = false := by simp; omega
  have d2 : decide ((60 : Int) < (L.length : Int)) = false := by simpa using by omega
  obtain ⟨i23, hi, hz0, hz1, hz2⟩ := info_parts info23
  obtain ⟨i3, ii, iz0, iz1, iz2⟩ := info_parts info3
  have hal : Below w.heap.size w (w.alloc (.cells #[.int .i64 V, .slice NA n cap, .int .i64 R] 28)) := (Below.refl _ _).alloc (Nat.le_refl _) _
  have Hal := Lib.hid hal
  have Hi := Lib.hid (And.intro hi (And.intro hz0 (And.intro hz1 hz2)))
  have Ii := Lib.hid (And.intro ii (And.intro iz0 (And.intro iz1 iz2)))
  clear hal hi hz0 hz1 hz2 ii iz0 iz1 iz2
  go_enter Try.func105, Try.ntmps105
  go_wp2_with fail
  go_loopw [9, 10] (fun s i wr => ∃ (k : Nat) (A1 : Option Addr) (c1 : Nat), k ≤ l.length ∧ s = .slice A1 k c1 ∧ Hid (wr.ownsRow w.heap.size 3 1 (.slice A1 k c1) k ((negs (l.take k)).map (.int .i64))) ∧ Hid (Below w.heap.size w wr) ∧ i = .int .i64 k) (fun _ i _ => l.length - (intOf i).toNat)
  case atStart => exact ⟨0, none, 0, Nat.zero_le _, rfl, World.ownsRow_nil _ _ _ _, Hal.out, rfl⟩
  case round =>
    obtain ⟨k, A1, c1, hk, rfl, HO1, HB1, rfl⟩ := hrel
    by_cases hlt : k < l.length
    case pos =>
      obtain ⟨g, rfl, hg, _, hc⟩ := own_int (own_below HW.out HB1.out) hlt
      have hm := HLB.out _ (List.getElem_mem hlt)
      have e1 : IntKind.i64.wrap ((k : Int) + 1) = (k : Int) + 1 := wrap_eq (by omega) (by omega)
      have e2 : IntKind.i64.wrap (-l[k]) = -l[k] := wrap_eq (by omega) (by omega)
      have Htk : Hid ((negs (l.take (k + 1))) = negs (l.take k) ++ [-l[k]]) := by show _ = _; rw [take_snoc hlt, negs_snoc]
      have hj0 : (0 : Int) ≤ k := by omega
      have hj1 : (k : Int) < (l.length : Int) := by omega
      generalize l[k] = x at *
      clear hm
      go_wp2_with (at_builtin; refine wpList_append_src rfl _ _ 23 rfl w.heap.size 3 i3 (.int .i64 0) 1 8 Try.underlying23 Ii.out.1 Ii.out.2.1 Ii.out.2.2.1 Ii.out.2.2.2 rfl (by decide) _ k ((negs (l.take k)).map (.int .i64)) rfl (by exact HO1.out.alloc _) (some ⟨wr.heap.size, 0, none⟩) 1 1 [.int .i64 (-x)] rfl (by exact .inr ⟨_, rfl, Blk.news (Blk.new_at _ 3 #[.int .i64 (-x)] rfl)⟩) rfl (by simp [Value.oneCell']) (by unfold maxLen; omega) (by omega) (by have := HB1.out.size; simp; omega) ?_; intro A3 c3 w3 ho3 hg3 hor3)
      replace hg3 : World.grownBy _ w3 (Value.slice A1 k c1).ownBlock := hg3
      have HO3 := Lib.hid ho3
      have HB3 : Hid (Below w.heap.size w w3) := (HB1.out.alloc HB1.out.size _).grown hg3 (by have := HB1.out.size; simp; omega) (fun x hx => (HO1.out.lt x hx).1)
      clear ho3 hg3 hor3 hc
      go_roundw
      case rel => exact ⟨k + 1, A3, c3, by omega, rfl, (by show World.ownsRow _ _ _ _ _ _ _; rw [Htk.out]; simpa using HO3.out), HB3, by go_num⟩
      case measure => simp [intOf]; omega
    obtain rfl : k = l.length := by omega
    rw [List.take_length] at HO1
    go_wp2_with (at_builtin; refine wpList_append_src rfl _ _ 39 rfl B 23 i23 (.slice none 0 0) 1 24 Try.underlying39 Hi.out.1 Hi.out.2.1 Hi.out.2.2.1 Hi.out.2.2.2 rfl (by decide) _ L.length us rfl (by exact (own_below HO.out.out HB1.out).alloc _) (some ⟨wr.heap.size, 0, none⟩) 1 1 [.slice A1 l.length c1] rfl (by exact .inr ⟨_, rfl, Blk.news (Blk.new_at _ 23 #[.slice A1 l.length c1] rfl)⟩) rfl (by simp [Value.oneCell']) (by unfold maxLen; omega) (by omega) (by have := HB1.out.size; simp; omega) ?_; intro A3 c3 w3 ho3 hg3 hor3)
    replace hor3 : (Value.slice A3 (L.length + 1) c3).ownBlock = (Value.slice A L.length c).ownBlock ∨ _ := hor3
    replace hg3 : World.grownBy _ w3 (Value.slice A L.length c).ownBlock := hg3
    go_ret
    have hs1 := HB1.out.size
    have hg0 : w.grownBy w3 (Value.slice A L.length c).ownBlock := (World.grownBy.trans ⟨HB1.out.os, HB1.out.tape, HB1.out.output, HB1.out.size, fun x hx _ => HB1.out.block x hx⟩ ((World.grownBy_alloc wr _ _).trans hg3))
    have h1 : IntSS (wr.alloc (.cells #[.slice A1 l.length c1] 23)) B (.slice A L.length c) us L := ((HO.out).below HB1.out).alloc _
    have hne := negs_len l
    refine ⟨A3, c3, us ++ [.slice A1 (negs l).length c1], by simp, ?_, hg0, ?_⟩
    · have h2 := h1.push (l := negs l) (c := c1) (A := A1) (by rw [hne]; exact ho3) hg3 (by rw [hne]; exact own_mono (HO1.out.alloc _) hB) (fun u hu g hg e => by
        have a := (HO.out.lt hu hg).2
        rw [hne] at e
        have b := (HO1.out.lt g e).1
        omega)
      simpa using h2
    · rw [show (L ++ [negs l]).length = L.length + 1 by simp]
      rcases hor3 with h | h
      · exact .inl h
      · exact .inr ⟨_, h, by simp; omega⟩
-- by genways_s.py
set_option maxRecDepth 100000 in
set_option maxHeartbeats 1000000 in
theorem specWays_any (B : Nat) (V R : Int) (NA : Option Addr) (cap vars : Nat) (ns : List Nd) (hf : Fm vars ns) (hv : vars ≤ 13) (hlen : ns.length ≤ 1048576) : ∀ (fuel : Nat) (p : Int) (l : List Int) (WA : Option Addr) (wcp : Nat) (L : List (List Int)) (us : List Value) (A : Option Addr) (c : Nat) (w : World),
    p.toNat ≤ fuel → isP ns p → B ≤ w.heap.size → (∀ W, Below B w W → NAt W NA ns) → l.length ≤ vr vars ns p → Lits l → w.ownsRow 0 3 1 (.slice WA l.length wcp) l.length (l.map (.int .i64)) → Few vars L → IntSS w B (.slice A L.length c) us L →
    Calls Try.prog 105 #[.agg #[.int .i64 V, .slice NA ns.length cap, .int .i64 R], .int .i64 p, .slice WA l.length wcp, .slice A L.length c] w fun e w' => WaysPost B w (.slice A L.length c) (ways ns p (negs l) L) e w' := by
  intro fuel
  induction fuel with
  | zero =>
    intro p l WA wcp L us A c w hr hp hB hN hl hb how hfew ho
    have := hp.1
    obtain rfl : p = 0 := by omega
    have hvr := vr_le hf hp
    by_cases h : 60 < L.length
    · rw [ways_stop 0 _ L (.inr h)]
      exact specWays_stop B V R NA WA A cap wcp c _ _ 0 L us w hfew.few (.inr h) ho
    · rw [ways_end ns _ L (by omega)]
      exact specWays_end B V R NA WA A cap wcp c _ l hb L us w hB (by omega) (by omega) how ho
  | succ fuel ih =>
    intro p l WA wcp L us A c w hr hp hB hN hl hb how hfew ho
    have hp0 := hp.1
    have hvr := vr_le hf hp
    by_cases hstop : p = 1 ∨ 60 < L.length
    · rw [ways_stop p _ L hstop]
      exact specWays_stop B V R NA WA A cap wcp c _ _ p L us w hfew.few hstop ho
    by_cases hz : p = 0
    · subst hz
      rw [ways_end ns _ L (by omega)]
      exact specWays_end B V R NA WA A cap wcp c _ l hb L us w hB (by omega) (by omega) how ho
    have hL60 : L.length ≤ 60 := by omega
    have h1 : 1 < p := by omega
    have hres := ways_step hf hp h1 (negs l) L hL60
    have hlo := isP_lo hf h1 hp.2
    have hhi := isP_hi hf h1 hp.2
    have vlo := vr_lo hf h1 hp.2
    have vhi := vr_hi hf h1 hp.2
    have hvr1 := vr_lt hf h1 hp.2
    have hvn : vr vars ns p = (nd ns p).v.toNat := vr_node vars ns h1
    have hv0 : 0 ≤ (nd ns p).v := (good hf h1 hp.2).v0
    have hal : Below B w (w.alloc (.cells #[.int .i64 V, .slice NA ns.length cap, .int .i64 R] 28)) := (Below.refl _ _).alloc hB _
    obtain ⟨nb, noff, rfl, x0, x1, x2⟩ := (hN _ hal).nd (Below.refl _ _) (p := p) h1 hp.2
    have d0 : (p == 0) = false := by simpa using hz
    have d1 : (p == 1) = false := by simp; omega
    have d2 : decide (60 < L.length) = false := by simp; omega
    have d3 : decide ((60 : Int) < (L.length : Int)) = false := by simpa using by omega
    have e2 : IntKind.i64.wrap (p - 2) = p - 2 := wrap_eq (by have := hp.2; omega) (by have := hp.2; omega)
    have hx0 : 0 ≤ p - 2 := by omega
    have hx1 : p - 2 < (ns.length : Int) := by have := hp.2; omega
    have HR := Lib.hid hr
    have HS := Lib.hid (show (isP ns (nd ns p).lo ∧ (nd ns p).lo < p) ∧ (isP ns (nd ns p).hi ∧ (nd ns p).hi < p) ∧ l.length + 1 ≤ vr vars ns (nd ns p).lo ∧ l.length + 1 ≤ vr vars ns (nd ns p).hi from ⟨hlo, hhi, by omega, by omega⟩)
    have HF := Lib.hid hf
    have hvb : (nd ns p).v < 13 := by omega
    have hlb : l.length < 13 := by omega
    obtain ⟨qN, hq⟩ : ∃ q, q = (nd ns p).v + 1 := ⟨_, rfl⟩
    obtain ⟨mN, hm⟩ : ∃ m, m = -qN := ⟨_, rfl⟩
    have hh : Hid (ways ns p (negs l) L = ways ns (nd ns p).hi (negs (l ++ [qN])) (ways ns (nd ns p).lo (negs (l ++ [mN])) L)) := Lib.hid (by rw [hres, negs_snoc, negs_snoc, hm, hq, Int.neg_neg])
    generalize (nd ns p).v = vN at *
    generalize (nd ns p).lo = loN at *
    generalize (nd ns p).hi = hiN at *
    have k1 : IntKind.i64.wrap (vN + 1) = qN := (wrap_eq (by omega) (by omega)).trans hq.symm
    have k2 : IntKind.i64.wrap (-qN) = mN := (wrap_eq (by omega) (by omega)).trans hm.symm
    have HQ := Lib.hid (show Lits (l ++ [qN]) ∧ Lits (l ++ [mN]) from ⟨hb.snoc (by omega) (by omega), hb.snoc (by omega) (by omega)⟩)
    have HO := Lib.hid ho
    have HN := Lib.hid hN
    have HW := Lib.hid how
    have HE := Lib.hid hfew
    have IH := Lib.hid ih
    obtain ⟨i3, hi, hz0, hz1, hz2⟩ := info_parts info3
    have Hi := Lib.hid hi
    have Hz0 := Lib.hid hz0
    have Hz1 := Lib.hid hz1
    have Hz2 := Lib.hid hz2
    clear ho hN how hfew ih hres hlo hhi vlo vhi hvr hvr1 hvn hf hal hr hl hi hz0 hz1 hz2 hz hstop hq hm hb hv0 hvb
    have hp2 := hp.2
    go_enter Try.func105, Try.ntmps105
    go_wp2_with fail

    have BXa : Hid (Blk ((w.alloc (.cells #[.int .i64 V, .slice (some ⟨nb, noff, none⟩) ns.length cap, .int .i64 R] 28)).alloc (.cells #[.int .i64 vN, .int .i64 loN, .int .i64 hiN] 89)) w.heap.size 28 #[.int .i64 V, .slice (some ⟨nb, noff, none⟩) ns.length cap, .int .i64 R]) := (Blk.new w _ _).alloc _
    have BNa : Hid (Blk ((w.alloc (.cells #[.int .i64 V, .slice (some ⟨nb, noff, none⟩) ns.length cap, .int .i64 R] 28)).alloc (.cells #[.int .i64 vN, .int .i64 loN, .int .i64 hiN] 89)) (w.heap.size + 1) 89 #[.int .i64 vN, .int .i64 loN, .int .i64 hiN]) := Blk.new_at _ _ _ (by simp)
    have WYa : Hid (((w.alloc (.cells #[.int .i64 V, .slice (some ⟨nb, noff, none⟩) ns.length cap, .int .i64 R] 28)).alloc (.cells #[.int .i64 vN, .int .i64 loN, .int .i64 hiN] 89)).ownsRow 0 3 1 (.slice WA l.length wcp) l.length (l.map (.int .i64))) := (HW.out.alloc _).alloc _
    have HOa : Hid (IntSS ((w.alloc (.cells #[.int .i64 V, .slice (some ⟨nb, noff, none⟩) ns.length cap, .int .i64 R] 28)).alloc (.cells #[.int .i64 vN, .int .i64 loN, .int .i64 hiN] 89)) B (.slice A L.length c) us L) := (HO.out.alloc _).alloc _
    have HBa : Hid (Below w.heap.size w ((w.alloc (.cells #[.int .i64 V, .slice (some ⟨nb, noff, none⟩) ns.length cap, .int .i64 R] 28)).alloc (.cells #[.int .i64 vN, .int .i64 loN, .int .i64 hiN] 89))) := ((Below.refl _ _).alloc (Nat.le_refl _) _).alloc (by simp) _
    have HZa : ((w.alloc (.cells #[.int .i64 V, .slice (some ⟨nb, noff, none⟩) ns.length cap, .int .i64 R] 28)).alloc (.cells #[.int .i64 vN, .int .i64 loN, .int .i64 hiN] 89)).heap.size = w.heap.size + 2 := by simp
    clear x0 x1 x2
    generalize ((w.alloc (.cells #[.int .i64 V, .slice (some ⟨nb, noff, none⟩) ns.length cap, .int .i64 R] 28)).alloc (.cells #[.int .i64 vN, .int .i64 loN, .int .i64 hiN] 89)) = wa at *
    have HZA := Lib.hid HZa
    clear HZa
    go_loopw [12, 13] (fun s i wr => ∃ (k : Nat) (A1 : Option Addr) (c1 : Nat), k ≤ l.length ∧ s = .slice A1 k c1 ∧ Hid (wr.ownsRow wa.heap.size 3 1 (.slice A1 k c1) k ((l.take k).map (.int .i64))) ∧ Hid (Below wa.heap.size wa wr) ∧ i = .int .i64 k) (fun _ i _ => l.length - (intOf i).toNat)
    case atStart => exact ⟨0, none, 0, Nat.zero_le _, rfl, World.ownsRow_nil _ _ _ _, Below.refl _ _, rfl⟩
    case round =>
      obtain ⟨k, A1, c1, hk, rfl, HO1, HB1, rfl⟩ := hrel
      by_cases hlt : k < l.length
      case pos =>
        obtain ⟨g, rfl, hg, _, hc⟩ := own_int (own_below WYa.out HB1.out) hlt
        have e1 : IntKind.i64.wrap ((k : Int) + 1) = (k : Int) + 1 := wrap_eq (by omega) (by omega)
        have Htk : Hid ((l.take (k + 1)) = l.take k ++ [l[k]]) := take_snoc hlt
        have hj0 : (0 : Int) ≤ k := by omega
        have hj1 : (k : Int) < (l.length : Int) := by omega
        generalize l[k] = x at *
        go_wp2_with (at_builtin; refine wpList_append_src rfl _ _ 23 rfl wa.heap.size 3 i3 (.int .i64 0) 1 8 Try.underlying23 Hi.out Hz0.out Hz1.out Hz2.out rfl (by decide) _ k ((l.take k).map (.int .i64)) rfl (by exact HO1.out.alloc _) (some ⟨wr.heap.size, 0, none⟩) 1 1 [.int .i64 x] rfl (by exact .inr ⟨_, rfl, Blk.news (Blk.new_at _ 3 #[.int .i64 x] rfl)⟩) rfl (by simp [Value.oneCell']) (by unfold maxLen; omega) (by omega) (by have := HB1.out.size; simp; omega) ?_; intro A3 c3 w3 ho3 hg3 hor3)
        replace hg3 : World.grownBy _ w3 (Value.slice A1 k c1).ownBlock := hg3
        have HO3' := Lib.hid ho3
        have HB3' : Hid (Below wa.heap.size wa w3) := (HB1.out.alloc HB1.out.size _).grown hg3 (by have := HB1.out.size; simp; omega) (fun x hx => (HO1.out.lt x hx).1)
        clear ho3 hg3 hor3 hc
        go_roundw
        case rel => exact ⟨k + 1, A3, c3, by omega, rfl, (by show World.ownsRow _ _ _ _ _ _ _; rw [Htk.out]; simpa using HO3'.out), HB3', by go_num⟩
        case measure => simp [intOf]; omega
      obtain rfl : k = l.length := by omega
      rw [List.take_length] at HO1
      obtain ⟨wt, rfl⟩ : ∃ x : World, x = wr := ⟨_, rfl⟩
      have BXt := Lib.hid (BXa.out.below HB1.out BXa.out.lt)
      have BNt := Lib.hid (BNa.out.below HB1.out BNa.out.lt)
      have WYt := Lib.hid (own_below WYa.out HB1.out)
      have HOt := Lib.hid (HOa.out.below HB1.out)
      have HBt := HB1
      have OWt := HO1
      clear HB1 HO1
      obtain ⟨base6, hb6⟩ : ∃ n, n = wa.heap.size := ⟨_, rfl⟩
      have HBS6 : Hid (base6 ≤ wt.heap.size) := Lib.hid (by have := HBt.out.size; omega)
      have HBZ6 : Hid (w.heap.size + 2 = base6) := Lib.hid (by have := HZA.out; omega)
      rw [← hb6] at OWt
      have T6 := Lib.hid (fun (w2 : World) (A2 : Option Addr) (c2 : Nat) (hb : Below base6 wt w2) (ho2 : w2.ownsRow 0 3 1 (.slice A2 (l.length + 1) c2) (l.length + 1) ((l ++ [mN]).map (.int .i64))) =>
        (show Calls Try.prog 105 #[.agg #[.int .i64 V, .slice (some ⟨nb, noff, none⟩) ns.length cap, .int .i64 R], .int .i64 loN, .slice A2 (l.length + 1) c2, .slice A L.length c] w2 fun e w' => WaysPost B w2 (.slice A L.length c) (ways ns loN (negs (l ++ [mN])) L) e w' from (by
          rw [show l.length + 1 = (l ++ [mN]).length by simp] at ho2 ⊢
          have h1 := HZA.out
          have h2 := hb.size
          have h3 : Below w.heap.size w w2 := (HBa.out.trans (HBt.out.mono (by omega))).trans (hb.mono (by omega))
          have h4 : Below wa.heap.size wa w2 := HBt.out.trans (hb.mono (by omega))
          exact IH.out loN (l ++ [mN]) A2 c2 L us A c w2 (by have := HS.out.1.2; have := HS.out.1.1.1; have := HR.out; omega) HS.out.1.1 (by have := h3.size; omega) (fun W hW => HN.out W ((h3.mono hB).trans hW)) (by have := HS.out.2.2.1; simpa using this) HQ.out.2 ho2 HE.out (HOa.out.below h4))))
      clear hb6
      go_wp2_with fail
      go_cut [3] (fun s3 wc => ∃ A3 c3 us3, s3 = .slice A3 (ways ns loN (negs (l ++ [mN])) L).length c3 ∧ Hid (IntSS wc B (.slice A3 (ways ns loN (negs (l ++ [mN])) L).length c3) us3 (ways ns loN (negs (l ++ [mN])) L)) ∧ Hid (∃ x, Below base6 wt x ∧ x.grownBy wc (Value.slice A L.length c).ownBlock) ∧
        Hid ((Value.slice A3 (ways ns loN (negs (l ++ [mN])) L).length c3).ownBlock = (Value.slice A L.length c).ownBlock ∨ ∃ g, (Value.slice A3 (ways ns loN (negs (l ++ [mN])) L).length c3).ownBlock = some g ∧ w.heap.size ≤ g))
      case first =>
        have HBS : Hid (w.heap.size + 2 ≤ wt.heap.size) := Lib.hid (by have := HBS6.out; have := HBZ6.out; omega)
        go_region_held3 (fun w' => w'.cell? ⟨w.heap.size, 0, none⟩ = some (.int .i64 V) ∧ w'.cell? ⟨w.heap.size, 1, none⟩ = some (.slice (some ⟨nb, noff, none⟩) ns.length cap) ∧ w'.cell? ⟨w.heap.size, 2, none⟩ = some (.int .i64 R) ∧ w'.cell? ⟨w.heap.size + 1, 0, none⟩ = some (.int .i64 vN) ∧ w'.cell? ⟨w.heap.size + 1, 1, none⟩ = some (.int .i64 loN) ∧ w'.cell? ⟨w.heap.size + 1, 2, none⟩ = some (.int .i64 hiN)) (first | with_reducible (exact ⟨(BXt.out).three.1, (BXt.out).three.2.1, (BXt.out).three.2.2, (BNt.out).three.1, (BNt.out).three.2.1, (BNt.out).three.2.2⟩) | with_reducible (exact ⟨(BXt.out.drew).three.1, (BXt.out.drew).three.2.1, (BXt.out.drew).three.2.2, (BNt.out.drew).three.1, (BNt.out.drew).three.2.1, (BNt.out.drew).three.2.2⟩) | with_reducible (exact ⟨((BXt.out.alloc _).drew).three.1, ((BXt.out.alloc _).drew).three.2.1, ((BXt.out.alloc _).drew).three.2.2, ((BNt.out.alloc _).drew).three.1, ((BNt.out.alloc _).drew).three.2.1, ((BNt.out.alloc _).drew).three.2.2⟩) | with_reducible (exact ⟨(BXt.out.drew.alloc _).three.1, (BXt.out.drew.alloc _).three.2.1, (BXt.out.drew.alloc _).three.2.2, (BNt.out.drew.alloc _).three.1, (BNt.out.drew.alloc _).three.2.1, (BNt.out.drew.alloc _).three.2.2⟩) | with_reducible (exact ⟨(BX2.out).three.1, (BX2.out).three.2.1, (BX2.out).three.2.2, (BN2.out).three.1, (BN2.out).three.2.1, (BN2.out).three.2.2⟩) | with_reducible (exact ⟨(BX3.out).three.1, (BX3.out).three.2.1, (BX3.out).three.2.2, (BN3.out).three.1, (BN3.out).three.2.1, (BN3.out).three.2.2⟩)) (first
      | (refine step_append_src rfl (.tmp 66) (.tmp 71) 23 rfl base6 3 i3 (.int .i64 0) 1 8 Try.underlying23 Hi.out Hz0.out Hz1.out Hz2.out rfl (by decide) _ l.length (l.map (.int .i64)) rfl (by exact (OWt.out.alloc _).drew) (some ⟨wt.heap.size, 0, none⟩) 1 1 [.int .i64 (mN)] rfl (by exact .inr ⟨_, rfl, Blk.news (Blk.new_at _ 3 #[.int .i64 (mN)] rfl).drew⟩) rfl (by simp [Value.oneCell']) (by unfold maxLen; omega) (by omega) (by have := HBS6.out; simp; omega) ?_; intro A2 c2 w2 ho2 hg2 hor2; replace hg2 : World.grownBy _ w2 (Value.slice A1 l.length c1).ownBlock := hg2; have HB2 : Hid (Below base6 wt w2) := ((((Below.refl wt.heap.size wt).alloc (Nat.le_refl _) _).drew).mono HBS6.out).grown hg2 (by have := HBS6.out; simp; omega) (fun x hx => (OWt.out.lt x hx).1); have BX2 := Lib.hid (BXt.out.below HB2.out (by have := HBZ6.out; omega)); have BN2 := Lib.hid (BNt.out.below HB2.out (by have := HBZ6.out; omega)); have HO2 : Hid (World.ownsRow _ 0 3 1 (.slice A2 (l.length + 1) c2) (l.length + 1) ((l ++ [mN]).map (.int .i64))) := own_mono (by simpa using ho2) (Nat.zero_le _); clear ho2 hg2 hor2)
      | (refine step_append_src rfl (.tmp 66) (.tmp 71) 23 rfl base6 3 i3 (.int .i64 0) 1 8 Try.underlying23 Hi.out Hz0.out Hz1.out Hz2.out rfl (by decide) _ l.length (l.map (.int .i64)) rfl (by exact OWt.out.drew.alloc _) (some ⟨wt.heap.size, 0, none⟩) 1 1 [.int .i64 (mN)] rfl (by exact .inr ⟨_, rfl, Blk.news (Blk.new_at _ 3 #[.int .i64 (mN)] rfl)⟩) rfl (by simp [Value.oneCell']) (by unfold maxLen; omega) (by omega) (by have := HBS6.out; simp; omega) ?_; intro A2 c2 w2 ho2 hg2 hor2; replace hg2 : World.grownBy _ w2 (Value.slice A1 l.length c1).ownBlock := hg2; have HB2 : Hid (Below base6 wt w2) := (((Below.refl wt.heap.size wt).drew.alloc (Nat.le_refl _) _).mono HBS6.out).grown hg2 (by have := HBS6.out; simp; omega) (fun x hx => (OWt.out.lt x hx).1); have BX2 := Lib.hid (BXt.out.below HB2.out (by have := HBZ6.out; omega)); have BN2 := Lib.hid (BNt.out.below HB2.out (by have := HBZ6.out; omega)); have HO2 : Hid (World.ownsRow _ 0 3 1 (.slice A2 (l.length + 1) c2) (l.length + 1) ((l ++ [mN]).map (.int .i64))) := own_mono (by simpa using ho2) (Nat.zero_le _); clear ho2 hg2 hor2)
      | (go_at_call 105; refine (T6.out w2 A2 c2 HB2.out HO2.out).mono ?_; rintro e w3 ⟨A3, c3, us3, rfl, ho3, hg3, hor3⟩; have HB3 := HB2; have HO3 := Lib.hid ho3; have HG3 := Lib.hid hg3; have HR3 := Lib.hid hor3; have BX3 := Lib.hid (BX2.out.grown hg3 (Ne.symm (own_ne_blk HOt.out.out BXt.out (by decide)))); have BN3 := Lib.hid (BN2.out.grown hg3 (Ne.symm (own_ne_blk HOt.out.out BNt.out (by decide)))); clear ho3 hg3 hor3))
        all_goals
          go_wp2_with fail
          go_meet
          case rel => exact ⟨A3, c3, us3, rfl, HO3, ⟨_, HB3.out, HG3.out⟩, HR3.out.imp id (fun ⟨g, h, hg⟩ => ⟨g, h, by have := HB3.out.size; have := HBS.out; omega⟩)⟩
      case rest =>
        obtain ⟨A3, c3, us3, rfl, HO3, HG3, HR3⟩ := hcut
        have hf1 : Hid (Few vars (ways ns loN (negs (l ++ [mN])) L)) := Lib.hid (HE.out.ways HF.out HS.out.1.1 (by have := HS.out.2.2.1; rw [negs_len]; simpa using this))
        generalize ways ns loN (negs (l ++ [mN])) L = L1 at *
        have hl1 := hf1.out.few
        obtain ⟨wx, HX1, HX2⟩ := HG3.out
        have HX1 := Lib.hid HX1
        have HX2 := Lib.hid HX2
        have BXb : Hid (Blk wc w.heap.size 28 #[.int .i64 V, .slice (some ⟨nb, noff, none⟩) ns.length cap, .int .i64 R]) := (BXt.out.below HX1.out (by have := HBZ6.out; omega)).grown HX2.out (Ne.symm (own_ne_blk HOt.out.out BXt.out (by decide)))
        have BNb : Hid (Blk wc (w.heap.size + 1) 89 #[.int .i64 vN, .int .i64 loN, .int .i64 hiN]) := (BNt.out.below HX1.out (by have := HBZ6.out; omega)).grown HX2.out (Ne.symm (own_ne_blk HOt.out.out BNt.out (by decide)))
        have HXa : Hid (Below wa.heap.size wa wx) := HBt.out.trans (HX1.out.mono (by have := HBZ6.out; have := HZA.out; omega))
        have WYb : Hid (wc.ownsRow 0 3 1 (.slice WA l.length wcp) l.length (l.map (.int .i64))) := (own_below WYa.out HXa.out).kept HX2.out (own_own (own_below WYa.out HXa.out) (HOa.out.below HXa.out).out (by decide))
        have HBb : Hid (Below B w wc) := (((HBa.out.trans (HXa.out.mono (by have := HZA.out; omega))).mono hB).grown HX2.out (by have := HXa.out.size; have := HZA.out; omega) (fun x hx => (HOa.out.out.lt x hx).1))
        have HZB : Hid (w.heap.size + 2 ≤ wc.heap.size) := Lib.hid (by have := HZA.out; have := HX2.out.size; have := HXa.out.size; omega)
        have HGw : Hid (w.grownBy wc (Value.slice A L.length c).ownBlock) := grown_below HBa.out (grown_below HXa.out HX2.out)
        have HOo := HO3
        have HRo := HR3
        clear HO3 HG3 HR3 OWt T6
        obtain ⟨wb, rfl⟩ : ∃ x : World, x = wc := ⟨_, rfl⟩
        go_wp2_with fail
        go_loopw [14, 15] (fun s i wr => ∃ (k : Nat) (A1 : Option Addr) (c1 : Nat), k ≤ l.length ∧ s = .slice A1 k c1 ∧ Hid (wr.ownsRow wb.heap.size 3 1 (.slice A1 k c1) k ((l.take k).map (.int .i64))) ∧ Hid (Below wb.heap.size wb wr) ∧ i = .int .i64 k) (fun _ i _ => l.length - (intOf i).toNat)
        case atStart => exact ⟨0, none, 0, Nat.zero_le _, rfl, World.ownsRow_nil _ _ _ _, Below.refl _ _, rfl⟩
        case round =>
          obtain ⟨k, A1, c1, hk, rfl, HO1, HB1, rfl⟩ := hrel
          by_cases hlt : k < l.length
          case pos =>
            obtain ⟨g, rfl, hg, _, hc⟩ := own_int (own_below WYb.out HB1.out) hlt
            have e1 : IntKind.i64.wrap ((k : Int) + 1) = (k : Int) + 1 := wrap_eq (by omega) (by omega)
            have Htk : Hid ((l.take (k + 1)) = l.take k ++ [l[k]]) := take_snoc hlt
            have hj0 : (0 : Int) ≤ k := by omega
            have hj1 : (k : Int) < (l.length : Int) := by omega
            generalize l[k] = x at *
            go_wp2_with (at_builtin; refine wpList_append_src rfl _ _ 23 rfl wb.heap.size 3 i3 (.int .i64 0) 1 8 Try.underlying23 Hi.out Hz0.out Hz1.out Hz2.out rfl (by decide) _ k ((l.take k).map (.int .i64)) rfl (by exact HO1.out.alloc _) (some ⟨wr.heap.size, 0, none⟩) 1 1 [.int .i64 x] rfl (by exact .inr ⟨_, rfl, Blk.news (Blk.new_at _ 3 #[.int .i64 x] rfl)⟩) rfl (by simp [Value.oneCell']) (by unfold maxLen; omega) (by omega) (by have := HB1.out.size; simp; omega) ?_; intro A3 c3 w3 ho3 hg3 hor3)
            replace hg3 : World.grownBy _ w3 (Value.slice A1 k c1).ownBlock := hg3
            have HO3' := Lib.hid ho3
            have HB3' : Hid (Below wb.heap.size wb w3) := (HB1.out.alloc HB1.out.size _).grown hg3 (by have := HB1.out.size; simp; omega) (fun x hx => (HO1.out.lt x hx).1)
            clear ho3 hg3 hor3 hc
            go_roundw
            case rel => exact ⟨k + 1, A3, c3, by omega, rfl, (by show World.ownsRow _ _ _ _ _ _ _; rw [Htk.out]; simpa using HO3'.out), HB3', by go_num⟩
            case measure => simp [intOf]; omega
          obtain rfl : k = l.length := by omega
          rw [List.take_length] at HO1
          obtain ⟨wu, rfl⟩ : ∃ x : World, x = wr := ⟨_, rfl⟩
          have BXu := Lib.hid (BXb.out.below HB1.out BXb.out.lt)
          have BNu := Lib.hid (BNb.out.below HB1.out BNb.out.lt)
          have HOu := Lib.hid (HOo.out.below HB1.out)
          have HBu := HB1
          have OWu := HO1
          clear HB1 HO1
          obtain ⟨base7, hb7⟩ : ∃ n, n = wb.heap.size := ⟨_, rfl⟩
          have HBS7 : Hid (base7 ≤ wu.heap.size) := Lib.hid (by have := HBu.out.size; omega)
          have HBZ7 : Hid (w.heap.size + 2 ≤ base7) := Lib.hid (by have := HZB.out; omega)
          rw [← hb7] at OWu
          have T7 := Lib.hid (fun (w2 : World) (A2 : Option Addr) (c2 : Nat) (hb : Below base7 wu w2) (ho2 : w2.ownsRow 0 3 1 (.slice A2 (l.length + 1) c2) (l.length + 1) ((l ++ [qN]).map (.int .i64))) =>
            (show Calls Try.prog 105 #[.agg #[.int .i64 V, .slice (some ⟨nb, noff, none⟩) ns.length cap, .int .i64 R], .int .i64 hiN, .slice A2 (l.length + 1) c2, .slice A3 L1.length c3] w2 fun e w' => WaysPost B w2 (.slice A3 L1.length c3) (ways ns hiN (negs (l ++ [qN])) L1) e w' from (by
              rw [show l.length + 1 = (l ++ [qN]).length by simp] at ho2 ⊢
              have h1 := HZB.out
              have h2 := hb.size
              have h4 : Below wb.heap.size wb w2 := HBu.out.trans (hb.mono (by omega))
              have h5 := h4.size
              exact IH.out hiN (l ++ [qN]) A2 c2 L1 us3 A3 c3 w2 (by have := HS.out.2.1.2; have := HS.out.2.1.1.1; have := HR.out; omega) HS.out.2.1.1 (by omega) (fun W hW => HN.out W ((HBb.out.trans (h4.mono (by omega))).trans hW)) (by have := HS.out.2.2.2; simpa using this) HQ.out.1 ho2 hf1.out (HOo.out.below h4))))
          have HB7 : Hid (base7 = wb.heap.size) := hb7
          clear hb7
          go_wp2_with fail
          go_region_held3 (fun w' => w'.cell? ⟨w.heap.size, 0, none⟩ = some (.int .i64 V) ∧ w'.cell? ⟨w.heap.size, 1, none⟩ = some (.slice (some ⟨nb, noff, none⟩) ns.length cap) ∧ w'.cell? ⟨w.heap.size, 2, none⟩ = some (.int .i64 R) ∧ w'.cell? ⟨w.heap.size + 1, 0, none⟩ = some (.int .i64 vN) ∧ w'.cell? ⟨w.heap.size + 1, 1, none⟩ = some (.int .i64 loN) ∧ w'.cell? ⟨w.heap.size + 1, 2, none⟩ = some (.int .i64 hiN)) (first | with_reducible (exact ⟨(BXu.out).three.1, (BXu.out).three.2.1, (BXu.out).three.2.2, (BNu.out).three.1, (BNu.out).three.2.1, (BNu.out).three.2.2⟩) | with_reducible (exact ⟨(BXu.out.drew).three.1, (BXu.out.drew).three.2.1, (BXu.out.drew).three.2.2, (BNu.out.drew).three.1, (BNu.out.drew).three.2.1, (BNu.out.drew).three.2.2⟩) | with_reducible (exact ⟨((BXu.out.alloc _).drew).three.1, ((BXu.out.alloc _).drew).three.2.1, ((BXu.out.alloc _).drew).three.2.2, ((BNu.out.alloc _).drew).three.1, ((BNu.out.alloc _).drew).three.2.1, ((BNu.out.alloc _).drew).three.2.2⟩) | with_reducible (exact ⟨(BXu.out.drew.alloc _).three.1, (BXu.out.drew.alloc _).three.2.1, (BXu.out.drew.alloc _).three.2.2, (BNu.out.drew.alloc _).three.1, (BNu.out.drew.alloc _).three.2.1, (BNu.out.drew.alloc _).three.2.2⟩) | with_reducible (exact ⟨(BX2.out).three.1, (BX2.out).three.2.1, (BX2.out).three.2.2, (BN2.out).three.1, (BN2.out).three.2.1, (BN2.out).three.2.2⟩) | with_reducible (exact ⟨(BX3.out).three.1, (BX3.out).three.2.1, (BX3.out).three.2.2, (BN3.out).three.1, (BN3.out).three.2.1, (BN3.out).three.2.2⟩)) (first
      | (refine step_append_src rfl (.tmp 91) (.tmp 95) 23 rfl base7 3 i3 (.int .i64 0) 1 8 Try.underlying23 Hi.out Hz0.out Hz1.out Hz2.out rfl (by decide) _ l.length (l.map (.int .i64)) rfl (by exact (OWu.out.alloc _).drew) (some ⟨wu.heap.size, 0, none⟩) 1 1 [.int .i64 (qN)] rfl (by exact .inr ⟨_, rfl, Blk.news (Blk.new_at _ 3 #[.int .i64 (qN)] rfl).drew⟩) rfl (by simp [Value.oneCell']) (by unfold maxLen; omega) (by omega) (by have := HBS7.out; simp; omega) ?_; intro A2 c2 w2 ho2 hg2 hor2; replace hg2 : World.grownBy _ w2 (Value.slice A1 l.length c1).ownBlock := hg2; have HB2 : Hid (Below base7 wu w2) := ((((Below.refl wu.heap.size wu).alloc (Nat.le_refl _) _).drew).mono HBS7.out).grown hg2 (by have := HBS7.out; simp; omega) (fun x hx => (OWu.out.lt x hx).1); have BX2 := Lib.hid (BXu.out.below HB2.out (by have := HBZ7.out; omega)); have BN2 := Lib.hid (BNu.out.below HB2.out (by have := HBZ7.out; omega)); have HO2 : Hid (World.ownsRow _ 0 3 1 (.slice A2 (l.length + 1) c2) (l.length + 1) ((l ++ [qN]).map (.int .i64))) := own_mono (by simpa using ho2) (Nat.zero_le _); clear ho2 hg2 hor2)
      | (refine step_append_src rfl (.tmp 91) (.tmp 95) 23 rfl base7 3 i3 (.int .i64 0) 1 8 Try.underlying23 Hi.out Hz0.out Hz1.out Hz2.out rfl (by decide) _ l.length (l.map (.int .i64)) rfl (by exact OWu.out.drew.alloc _) (some ⟨wu.heap.size, 0, none⟩) 1 1 [.int .i64 (qN)] rfl (by exact .inr ⟨_, rfl, Blk.news (Blk.new_at _ 3 #[.int .i64 (qN)] rfl)⟩) rfl (by simp [Value.oneCell']) (by unfold maxLen; omega) (by omega) (by have := HBS7.out; simp; omega) ?_; intro A2 c2 w2 ho2 hg2 hor2; replace hg2 : World.grownBy _ w2 (Value.slice A1 l.length c1).ownBlock := hg2; have HB2 : Hid (Below base7 wu w2) := (((Below.refl wu.heap.size wu).drew.alloc (Nat.le_refl _) _).mono HBS7.out).grown hg2 (by have := HBS7.out; simp; omega) (fun x hx => (OWu.out.lt x hx).1); have BX2 := Lib.hid (BXu.out.below HB2.out (by have := HBZ7.out; omega)); have BN2 := Lib.hid (BNu.out.below HB2.out (by have := HBZ7.out; omega)); have HO2 : Hid (World.ownsRow _ 0 3 1 (.slice A2 (l.length + 1) c2) (l.length + 1) ((l ++ [qN]).map (.int .i64))) := own_mono (by simpa using ho2) (Nat.zero_le _); clear ho2 hg2 hor2)
      | (go_at_call 105; refine (T7.out w2 A2 c2 HB2.out HO2.out).mono ?_; rintro e w3 ⟨A4, c4, us4, rfl, ho3, hg3, hor3⟩; have HB3 := HB2; have HO3 := Lib.hid ho3; have HG3 := Lib.hid hg3; have HR3 := Lib.hid hor3; have BX3 := Lib.hid (BX2.out.grown hg3 (Ne.symm (own_ne_blk HOu.out.out BXu.out (by decide)))); have BN3 := Lib.hid (BN2.out.grown hg3 (Ne.symm (own_ne_blk HOu.out.out BNu.out (by decide)))); clear ho3 hg3 hor3))
          all_goals
            go_wp2_with fail
            go_ret
            rw [hh.out]
            have G4 : wb.grownBy w3 (Value.slice A3 L1.length c3).ownBlock := grown_below (HBu.out.trans (HB3.out.mono (by have := HB7.out; omega))) HG3.out
            have R4 : (Value.slice A4 (ways ns hiN (negs (l ++ [qN])) L1).length c4).ownBlock = (Value.slice A3 L1.length c3).ownBlock ∨ ∃ g, (Value.slice A4 (ways ns hiN (negs (l ++ [qN])) L1).length c4).ownBlock = some g ∧ w.heap.size ≤ g := HR3.out.imp id (fun ⟨g, h, hg⟩ => ⟨g, h, by have := HB3.out.size; have := HBS7.out; have := HBZ7.out; omega⟩)
            have z2 := HZB.out
            have z3 := G4.size
            refine ⟨A4, c4, us4, rfl, HO3.out, ⟨G4.os.trans HGw.out.os, G4.tape.trans HGw.out.tape, G4.output.trans HGw.out.output, by omega, fun x hx hne => ?_⟩, ?_⟩
            · refine (G4.block x (by omega) ?_).trans (HGw.out.block x hx hne)
              rcases HRo.out with h | ⟨g, h, hg⟩
              · rw [h]; exact hne
              · rw [h]; intro e; injection e with e; omega
            · rcases R4 with h | ⟨g, h, hg⟩
              · rcases HRo.out with h' | ⟨g, h', hg⟩
                · exact .inl (h.trans h')
                · exact .inr ⟨g, h.trans h', by omega⟩
              · exact .inr ⟨g, h, by omega⟩

end Go.Proofs.Ytffefegjnbfobaa
