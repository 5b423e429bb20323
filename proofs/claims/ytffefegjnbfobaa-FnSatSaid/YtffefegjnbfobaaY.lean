/- l1Yes; The reference's maker of diagrams, walked: l7Maker.make; The reference's l7Of, walked; all and none. -/
import Derived.Test.YtffefegjnbfobaaL0
import Derived.Test.YtffefegjnbfobaaT
import Derived.Test.YtffefegjnbfobaaD
import Derived.Deep.RegionLaw
import Derived.Deep.AppendLies
import Derived.Test.YtffefegjnbfobaaQ1
namespace Go.Proofs.Ytffefegjnbfobaa
open Go.RowKit
open B

theorem yes_is (b : Bool) (w : World) : Calls Try.prog 131 #[.bool b] w fun e w' => e = .returned (.int .i64 (if b then 1 else 0)) ∧ w = w' := by
  cases b
  · go_enter Try.func131, Try.ntmps131
    go_wp2
    go_ret
    exact ⟨rfl, rfl⟩
  · go_enter Try.func131, Try.ntmps131
    go_wp2
    go_ret
    exact ⟨rfl, rfl⟩

end Go.Proofs.Ytffefegjnbfobaa
namespace Go.Proofs.Ytffefegjnbfobaa
open Go.RowKit
open B

theorem mk_len : ∀ (k v : Nat) (f : Nat → Bool) (ns : List Nd), (mk k v f ns).2.length + 1 ≤ ns.length + 2 ^ k := by
  intro k
  induction k with
  | zero => intro v f ns; simp [mk]
  | succ k ih =>
    intro v f ns
    have a := ih (v + 1) (fun i => f (2 * i)) ns
    have b := ih (v + 1) (fun i => f (2 * i + 1)) (mk k (v + 1) (fun i => f (2 * i)) ns).2
    simp only [mk]
    rw [Nat.pow_succ]
    split
    · dsimp only; omega
    · unfold push
      split
      · dsimp only; omega
      · simp only [List.length_append, List.length_singleton]; omega

theorem yesb_is (b : Bool) (w : World) : Calls Try.prog 131 #[.bool b] w fun e w' => e = .returned (.int .i64 (b2i b)) ∧ w = w' :=
  (yes_is b w).mono fun _ _ h => ⟨h.1, h.2⟩

/-- What the maker's memory holds. -/
structure MI (w : World) (B km tb N vars : Nat) (F : Nat → Bool) (v : Value) (ns : List Nd) : Prop where
  blk : Blk w km 124 #[.int .i64 (vars : Int), .slice (some ⟨tb, 0, none⟩) N N, v]
  tab : Blk w tb 4 (rowF (fun c => .bool (F c)) N)
  own : w.ownsRow B 89 3 v ns.length (ncells ns)
  bk : B ≤ km
  wf : Wf vars ns

theorem MI.of_same {w w' : World} {B km tb N vars : Nat} {F : Nat → Bool} {v : Value} {ns : List Nd} (h : MI w B km tb N vars F v ns) (hs : ∀ g, g < w.heap.size → w'.heap[g]? = w.heap[g]?) : MI w' B km tb N vars F v ns := by
  refine ⟨(hs _ h.blk.lt).trans h.blk, (hs _ h.tab.lt).trans h.tab, ⟨h.own.1, ?_⟩, h.bk, h.wf⟩
  rcases h.own.2 with h | ⟨g, cap, cur, e1, e2, e3, e4⟩
  · exact .inl h
  · exact .inr ⟨g, cap, cur, e1, e2, (hs g (Array.getElem?_eq_some_iff.1 e3).1).trans e3, e4⟩
theorem MI.alloc {w : World} {B km tb N vars : Nat} {F : Nat → Bool} {v : Value} {ns : List Nd} (h : MI w B km tb N vars F v ns) (o : Obj) : MI (w.alloc o) B km tb N vars F v ns := h.of_same fun g hg => Below.heap_alloc w o g hg

theorem idx_lt {n : Nd} {ns : List Nd} {i : Nat} (h : i < ns.idxOf n) (hl : i < ns.length) : ns[i] ≠ n := by
  have := List.not_of_lt_findIdx (p := (· == n)) (xs := ns) h
  simpa using this

set_option maxRecDepth 100000 in
set_option maxHeartbeats 1600000 in
theorem make_any (vars : Nat) (hvars : vars ≤ 13) (B km tb N : Nat) (hN : N = 2 ^ vars) (F : Nat → Bool) : ∀ (k v fx P Q : Nat) (vI fI : Int) (val : Value) (ns : List Nd) (w : World),
    vI = v → fI = fx → v + k = vars → P = 2 ^ v → fx < P → Q = 2 ^ k → MI w B km tb N vars F val ns → ns.length + Q ≤ 20000 →
    Calls Try.prog 117 #[.pointer (some ⟨km, 0, none⟩), .int .i64 vI, .int .i64 fI] w fun e w' =>
      e = .returned (.int .i64 (mk k v (fun i => F (fx + i * 2 ^ v)) ns).1) ∧ Below B w w' ∧ ∃ val', MI w' B km tb N vars F val' (mk k v (fun i => F (fx + i * 2 ^ v)) ns).2 := by
  intro k
  have HNN := Lib.hid hN
  induction k with
  | zero =>
    rintro v fx P Q _ _ val ns w rfl rfl hv hP hfx hQ hI hl
    obtain rfl : v = vars := by omega
    obtain ⟨x0, x1, x2⟩ := hI.blk.three
    have hfN : fx < N := by rw [hN, ← hP]; exact hfx
    have hc : w.cell? ⟨tb, fx, none⟩ = some (.bool (F fx)) := by rw [hI.tab.cell, rowF_get _ _ _ hfN]
    have hpost : Hid (b2i (F fx) = (mk 0 v (fun i => F (fx + i * 2 ^ v)) ns).1 ∧ ∃ val', MI w B km tb N v F val' (mk 0 v (fun i => F (fx + i * 2 ^ v)) ns).2) := ⟨by simp [mk, b2i], val, hI⟩
    have hN' : N ≤ 8192 := by rw [hN]; exact Nat.pow_le_pow_right (by omega) hvars
    clear hI hN hfx hP hQ
    go_enter Try.func117, Try.ntmps117
    go_wp2_with (go_at_call 131; refine (yesb_is _ _).mono ?_; rintro e w' ⟨rfl, rfl⟩)
    go_ret
    exact ⟨ret_int hpost.out.1, Below.refl _ _, hpost.out.2⟩
  | succ k ih =>
    rintro v fx p Q _ _ val ns w rfl rfl hv hp hfp hQ hI hl
    have hne : ((v : Int) == (vars : Int)) = false := by rw [beq_eq_false_iff_ne]; omega
    have hp13 : p ≤ 8192 := by rw [hp]; exact Nat.pow_le_pow_right (by omega) (by omega : v ≤ 13)
    have e1 : wrap64 (2 ^ v) = (p : Int) := by
      have : ((2 : Int) ^ v) = ((2 ^ v : Nat) : Int) := by simp
      rw [this, ← hp]; unfold wrap64; omega
    have h2p : p + p = 2 ^ (v + 1) := by rw [Nat.pow_succ, ← hp]; omega
    obtain ⟨q, hq⟩ : ∃ q, q = 2 ^ k := ⟨_, rfl⟩
    have hQq : Q = q + q := by rw [hQ, Nat.pow_succ, ← hq]; omega
    obtain ⟨f, hf⟩ : ∃ f : Nat → Bool, f = fun i => F (fx + i * 2 ^ v) := ⟨_, rfl⟩
    have hf0 : (fun i => F (fx + i * 2 ^ (v + 1))) = fun i => f (2 * i) := by
      subst hf; funext i; show F _ = F _; congr 1; rw [← h2p, ← hp, Nat.mul_add, Nat.mul_comm 2 i, Nat.mul_assoc, Nat.two_mul, Nat.mul_add]
    have hf1 : (fun i => F (fx + p + i * 2 ^ (v + 1))) = fun i => f (2 * i + 1) := by
      subst hf; funext i; show F _ = F _; congr 1; rw [← h2p, ← hp, Nat.mul_add, Nat.add_mul, Nat.one_mul, Nat.mul_comm 2 i, Nat.mul_assoc, Nat.two_mul, Nat.mul_add]; omega
    rw [← hf]
    have A := mk_laid k (v + 1) (fun i => f (2 * i)) ns (by omega) hI.wf
    have hla := mk_len k (v + 1) (fun i => f (2 * i)) ns
    have hlb' := fun ms => mk_len k (v + 1) (fun i => f (2 * i + 1)) ms
    rw [← hq] at hla hlb'
    have HLB := Lib.hid hlb'
    have hmk : mk (k + 1) v f ns = if (mk k (v + 1) (fun c => f (2 * c)) ns).1 = (mk k (v + 1) (fun c => f (2 * c + 1)) (mk k (v + 1) (fun c => f (2 * c)) ns).2).1 then ((mk k (v + 1) (fun c => f (2 * c)) ns).1, (mk k (v + 1) (fun c => f (2 * c + 1)) (mk k (v + 1) (fun c => f (2 * c)) ns).2).2) else push ⟨v, (mk k (v + 1) (fun c => f (2 * c)) ns).1, (mk k (v + 1) (fun c => f (2 * c + 1)) (mk k (v + 1) (fun c => f (2 * c)) ns).2).1⟩ (mk k (v + 1) (fun c => f (2 * c + 1)) (mk k (v + 1) (fun c => f (2 * c)) ns).2).2 := rfl
    have L := mk_laid (k + 1) v f ns hv hI.wf
    have HL := Lib.hid L
    have Hmk := Lib.hid hmk
    have hvv : ((v : Int) + 1) = ((v + 1 : Nat) : Int) := by simp
    have hpp : ((fx : Int) + (p : Int)) = ((fx + p : Nat) : Int) := by simp
    have hv1 : v + 1 + k = vars := by omega
    have hf2 : fx < p + p := Nat.lt_of_lt_of_le hfp (Nat.le_add_left _ _)
    have hf3 : fx + p < p + p := Nat.add_lt_add_right hfp p
    have hl2 : ns.length + q ≤ 20000 := by omega
    have IH0 := ih (v + 1) fx (p + p) q ((v : Int) + 1) (fx : Int) val ns w hvv rfl hv1 h2p hf2 hq hI hl2
    rw [hf0] at IH0
    have HIH0 := Lib.hid IH0
    have IH1 := fun (val : Value) (ms : List Nd) (w : World) => ih (v + 1) (fx + p) (p + p) q ((v : Int) + 1) ((fx : Int) + (p : Int)) val ms w hvv hpp hv1 h2p hf3 hq
    rw [hf1] at IH1
    have HIH1 := Lib.hid IH1
    obtain ⟨x0, x1, x2⟩ := hI.blk.three
    have HI := Lib.hid hI
    have HA := Lib.hid A
    clear IH0 IH1 ih hI A hmk L hp hf hf0 hf1 h2p hN hq hQ hvv hpp hv1 hf2 hf3 hlb'
    clear hl2
    go_enter Try.func117, Try.ntmps117
    go_wp2_with fail
    refine HIH0.out.mono ?_
    rintro e w1 ⟨rfl, hb1, v1, hI1⟩
    generalize mk k (v + 1) (fun c => f (2 * c)) ns = a at *
    have HI1 := Lib.hid hI1
    clear hI1 x0 x1 x2
    go_wp2_with fail
    refine (HIH1.out v1 a.2 w1 HI1.out (by omega)).mono ?_
    rintro e w2 ⟨rfl, hb2, v2, hI2⟩
    have hlb := HLB.out a.2
    generalize mk k (v + 1) (fun c => f (2 * c + 1)) a.2 = b at *
    have hblen : b.2.length ≤ 20000 := by omega
    have HB2 : Hid (Below B w w2) := hb1.trans hb2
    have hBw : B ≤ w2.heap.size := Nat.le_trans hI2.bk (Nat.le_of_lt hI2.blk.lt)
    have HI2 := Lib.hid hI2
    clear hI2 hb1 hb2 HIH0 HIH1
    by_cases hab : a.1 = b.1
    · have d1 : (a.1 == b.1) = true := by simpa using hab
      have hres : Hid (mk (k + 1) v f ns = (a.1, b.2)) := by show mk (k + 1) v f ns = _; rw [Hmk.out, if_pos hab]
      clear hab
      go_wp2_with fail
      go_ret
      rw [hres.out]
      exact ⟨rfl, HB2.out, v2, HI2.out⟩
    have d1 : (a.1 == b.1) = false := by simpa using hab
    have hres : Hid (mk (k + 1) v f ns = push ⟨v, a.1, b.1⟩ b.2) := by show mk (k + 1) v f ns = _; rw [Hmk.out, if_neg hab]
    clear hab Hmk
    obtain ⟨A2, c2, hv2⟩ := own_slice HI2.out.own
    subst hv2
    have hX : Blk (w2.alloc (.cells #[.int .i64 (v : Int), .int .i64 a.1, .int .i64 b.1] 89)) w2.heap.size 89 #[.int .i64 (v : Int), .int .i64 a.1, .int .i64 b.1] := Blk.new _ _ _
    have HX := Lib.hid hX
    clear hX
    by_cases hin : (⟨v, a.1, b.1⟩ : Nd) ∈ b.2
    · obtain ⟨m, hm⟩ : ∃ m, m = b.2.idxOf (⟨v, a.1, b.1⟩ : Nd) := ⟨_, rfl⟩
      have hml : m < b.2.length := by rw [hm]; exact List.idxOf_lt_length_of_mem hin
      have HM : Hid (∀ i (h : i < b.2.length), (i < m → b.2[i] ≠ ⟨v, a.1, b.1⟩) ∧ (i = m → b.2[i] = ⟨v, a.1, b.1⟩)) := fun i h => ⟨fun hi => idx_lt (by rw [← hm]; exact hi) h, fun hi => by subst hi; subst hm; exact List.getElem_idxOf h⟩
      have hres2 : Hid (mk (k + 1) v f ns = ((m : Int) + 2, b.2)) := by show mk (k + 1) v f ns = _; rw [hres.out]; unfold push; rw [if_pos hin, hm]
      clear hin hm hres
      go_wp2_with fail
      go_loopw [10] (fun i wr => ∃ j : Nat, j ≤ m ∧ Hid (MI wr B km tb N vars F (.slice A2 b.2.length c2) b.2) ∧ Hid (Blk wr w2.heap.size 89 #[.int .i64 (v : Int), .int .i64 a.1, .int .i64 b.1]) ∧ Hid (Below B w2 wr) ∧ i = .int .i64 j) (fun i _ => m - (intOf i).toNat)
      case atStart => exact ⟨0, Nat.zero_le _, HI2.out.alloc _, HX.out, (Below.refl _ _).alloc hBw _, rfl⟩
      case round =>
        obtain ⟨j, hj, hIr, hXr, hbr, rfl⟩ := hrel
        have hjl : j < b.2.length := by omega
        obtain ⟨y0, y1, y2⟩ := hIr.out.blk.three
        obtain ⟨z0, z1, z2⟩ := hXr.out.three
        obtain ⟨g, rfl, hg, ⟨c3, c4, c5⟩, -⟩ := own_node hIr.out.own hjl
        have hM := HM.out j hjl
        generalize b.2[j] = n at c3 c4 c5 hM
        have hj0 : (0 : Int) ≤ j := by omega
        have hj1 : (j : Int) < (b.2.length : Int) := by omega
        have q1 := guard_node
        have q2 := eqin_node
        rcases Nat.lt_or_eq_of_le hj with hlt | rfl
        · have hnn := hM.1 hlt
          have e24 : (n.v == (v : Int) && (n.lo == a.1 && n.hi == b.1)) = false := by
            rw [Bool.eq_false_iff]; intro h; apply hnn; cases n; simp at h; simp [h]
          clear hM hnn
          go_wp2_with fail
          go_quiet (fail)
          go_wp2_with fail
          go_roundw
          case rel => exact ⟨j + 1, by omega, hIr.out.of_same fun _ _ => rfl, hXr.out, below_drewN hbr.out _, by go_num⟩
          case measure => simp [intOf]; omega
        · have hnn := hM.2 rfl
          subst hnn
          clear hM
          go_wp2_with fail
          go_quiet (fail)
          go_wp2_with fail
          go_ret
          rw [hres2.out]
          exact ⟨rfl, HB2.out.trans (below_drewN hbr.out _), _, hIr.out.of_same fun _ _ => rfl⟩
    · have hres2 : Hid (mk (k + 1) v f ns = ((b.2.length : Int) + 2, b.2 ++ [⟨v, a.1, b.1⟩])) := by show mk (k + 1) v f ns = _; rw [hres.out]; unfold push; rw [if_neg hin]
      have HM : Hid (∀ i (h : i < b.2.length), b.2[i] ≠ ⟨v, a.1, b.1⟩) := fun i h e => hin (e ▸ List.getElem_mem h)
      clear hin hres
      go_wp2_with fail
      go_loopw [10] (fun i wr => ∃ j : Nat, j ≤ b.2.length ∧ Hid (MI wr B km tb N vars F (.slice A2 b.2.length c2) b.2) ∧ Hid (Blk wr w2.heap.size 89 #[.int .i64 (v : Int), .int .i64 a.1, .int .i64 b.1]) ∧ Hid (Below B w2 wr) ∧ i = .int .i64 j) (fun i _ => b.2.length - (intOf i).toNat)
      case atStart => exact ⟨0, Nat.zero_le _, HI2.out.alloc _, HX.out, (Below.refl _ _).alloc hBw _, rfl⟩
      case round =>
        obtain ⟨j, hj, hIr, hXr, hbr, rfl⟩ := hrel
        obtain ⟨y0, y1, y2⟩ := hIr.out.blk.three
        obtain ⟨z0, z1, z2⟩ := hXr.out.three
        by_cases hjl : j < b.2.length
        · obtain ⟨g, rfl, hg, ⟨c3, c4, c5⟩, -⟩ := own_node hIr.out.own hjl
          have hnn := HM.out j hjl
          generalize b.2[j] = n at c3 c4 c5 hnn
          have hj0 : (0 : Int) ≤ j := by omega
          have hj1 : (j : Int) < (b.2.length : Int) := by omega
          have q1 := guard_node
          have q2 := eqin_node
          have e24 : (n.v == (v : Int) && (n.lo == a.1 && n.hi == b.1)) = false := by
            rw [Bool.eq_false_iff]; intro h; apply hnn; cases n; simp at h; simp [h]
          clear hnn
          go_wp2_with fail
          go_quiet (fail)
          go_wp2_with fail
          go_roundw
          case rel => exact ⟨j + 1, by omega, hIr.out.of_same fun _ _ => rfl, hXr.out, below_drewN hbr.out _, by go_num⟩
          case measure => simp [intOf]; omega
        · obtain rfl : j = b.2.length := by omega
          clear y0 y1
          have hbs : B ≤ wr.heap.size := Nat.le_trans hBw hbr.out.size
          have HK3 : Hid (∀ Y w3, (wr.alloc Y).grownBy w3 (Value.slice A2 b.2.length c2).ownBlock → w3.cell? ⟨km, 2, none⟩ = some (.slice A2 b.2.length c2) ∧ w3.frozen? ⟨km, 2, none⟩ = false) := fun Y w3 hg => by
            have hb3 := (hIr.out.blk.alloc Y).grown hg (fun e => own_ne_blk hIr.out.own hIr.out.blk (by decide) e.symm)
            exact ⟨by rw [hb3.cell]; rfl, hb3.frozen 2⟩
          have o2 := (hIr.out.blk.alloc (.cells #[.int .i64 (v : Int), .int .i64 a.1, .int .i64 b.1] 89)).three.2.2
          obtain ⟨i86, hi, hz0, hz1, hz2⟩ := info_parts info86
          have Hi := Lib.hid hi
          have Hz0 := Lib.hid hz0
          have Hz1 := Lib.hid hz1
          have Hz2 := Lib.hid hz2
          clear hi hz0 hz1 hz2
          go_wp2_with fail
          go_region_law (refine step_append_lies _ rfl (.tmp 71) (.tmp 73) 26 rfl B 89 i86 _ 3 24 Try.underlying26 Hi.out Hz0.out Hz1.out Hz2.out rfl (by decide) _ b.2.length (ncells b.2) rfl (by exact hIr.out.own.alloc _) ⟨wr.heap.size, 0, none⟩ 1 1 [.int .i64 (v : Int), .int .i64 a.1, .int .i64 b.1] rfl rfl (Blk.news (Blk.new_at _ 89 #[.int .i64 (v : Int), .int .i64 a.1, .int .i64 b.1] (by simp))) (by simp [Value.oneCell']) (by decide) (by unfold maxLen; omega) (by omega) (by simp; omega) (wr.heap.size + 1) (by simp) ?_; intro g c4 w3 ho3 hg3 hor3 hl3; obtain ⟨c5, f5⟩ := HK3.out _ w3 ⟨hg3.os, hg3.tape, hg3.output, hg3.size, hg3.block⟩)
          all_goals
            go_wp2_with fail
            go_ret
            have hg : (wr.alloc (.cells #[.int .i64 (v : Int), .int .i64 a.1, .int .i64 b.1] 89)).grownBy w3 (Value.slice A2 b.2.length c2).ownBlock := ⟨hg3.os, hg3.tape, hg3.output, hg3.size, hg3.block⟩
            have hlow : ∀ q, q < B → some q ≠ (Value.slice A2 b.2.length c2).ownBlock := fun q hq => own_low hIr.out.own hq
            have hbk := (hIr.out.blk.alloc (.cells #[.int .i64 (v : Int), .int .i64 a.1, .int .i64 b.1] 89)).grown hg (fun e => own_ne_blk hIr.out.own hIr.out.blk (by decide) e.symm)
            have htb := (hIr.out.tab.alloc (.cells #[.int .i64 (v : Int), .int .i64 a.1, .int .i64 b.1] 89)).grown hg (fun e => own_ne_blk hIr.out.own hIr.out.tab (by decide) e.symm)
            have htk : tb ≠ km := by
              rintro rfl
              have h1 := hIr.out.blk
              have h2 := hIr.out.tab
              unfold Blk at h1 h2
              rw [h1] at h2
              injection h2 with h2
              injection h2 with _ h2
              exact absurd h2 (by decide)
            have hw := HL.out.wf
            rw [hres2.out] at hw ⊢
            refine ⟨ret_int (by dsimp only; omega), HB2.out.trans ((((hbr.out.alloc hbs _).grown hg (by simp; omega) fun q hq => by
              rcases Nat.lt_or_ge q B with h | h
              · exact (hlow q h hq.symm).elim
              · exact h)).setCell (p := ⟨km, 2, none⟩) hIr.out.bk _), _, hbk.set_ 2 _, htb.far (p := ⟨km, 2, none⟩) htk _, ?_, hIr.out.bk, hw⟩
            have ho4 := own_far ho3 (p := ⟨km, 2, none⟩) (own_ne_blk ho3 hbk (by decide)) (.slice (some ⟨g, 0, none⟩) (b.2.length + 1) c4)
            rw [ncells_app, List.length_append]
            exact ho4

end Go.Proofs.Ytffefegjnbfobaa
namespace Go.Proofs.Ytffefegjnbfobaa
open Go.RowKit
open B

set_option maxRecDepth 100000 in
set_option maxHeartbeats 400000 in
theorem l7Of_any (p : Prop) (hp : p) (vars N tb : Nat) (F : Nat → Bool) (hN : N = 2 ^ vars) (hv : vars ≤ 13) (w : World) (hT : Blk w tb 4 (rowF (fun c => .bool (F c)) N)) :
    Calls Try.prog 67 #[.int .i64 (vars : Int), .slice (some ⟨tb, 0, none⟩) N N] w fun e w' => Mkd p vars (mk vars 0 F []) w.heap.size w' e ∧ Below w.heap.size w w' := by
  have hN' : N ≤ 8192 := by rw [hN]; exact Nat.pow_le_pow_right (by omega) hv
  have htb := hT.lt
  have HI0 : Hid (MI ((w.alloc (.cells zB 28)).alloc (.cells #[.int .i64 (vars : Int), .slice (some ⟨tb, 0, none⟩) N N, .slice none 0 0] 124)) (w.heap.size + 1) (w.heap.size + 1) tb N vars F (.slice none 0 0) []) :=
    ⟨Blk.new_at _ _ _ (by simp), (hT.alloc _).alloc _, World.ownsRow_nil _ _ _ _, Nat.le_refl _, wf_nil _⟩
  have HR0 : Hid (Blk ((w.alloc (.cells zB 28)).alloc (.cells #[.int .i64 (vars : Int), .slice (some ⟨tb, 0, none⟩) N N, .slice none 0 0] 124)) w.heap.size 28 zB) := (Blk.new w _ _).alloc _
  have HB0 : Hid (Below w.heap.size w ((w.alloc (.cells zB 28)).alloc (.cells #[.int .i64 (vars : Int), .slice (some ⟨tb, 0, none⟩) N N, .slice none 0 0] 124))) := ((Below.refl _ _).alloc (Nat.le_refl _) _).alloc (by simp) _
  have hF : (fun i => F (0 + i * 2 ^ 0)) = F := by funext i; simp
  have HM := make_any vars hv (w.heap.size + 1) (w.heap.size + 1) tb N hN F vars 0 0 1 N 0 0 (.slice none 0 0) [] ((w.alloc (.cells zB 28)).alloc (.cells #[.int .i64 (vars : Int), .slice (some ⟨tb, 0, none⟩) N N, .slice none 0 0] 124)) rfl rfl (Nat.zero_add _) rfl (Nat.lt_succ_self 0) hN HI0.out (by simp; omega)
  rw [hF] at HM
  have HMM := Lib.hid HM
  clear HM hF hN hT
  go_enter Try.func67, Try.ntmps67
  go_wp2_with fail
  refine HMM.out.mono ?_
  rintro e w1 ⟨rfl, hb1, v1, hI1⟩
  generalize hr : mk vars 0 F [] = r at *
  have HRR := Lib.hid hr
  clear hr
  obtain ⟨A1, c1, hv1⟩ := own_slice hI1.own
  subst hv1
  have HB1 : Hid (Below w.heap.size w w1) := HB0.out.trans (hb1.mono (by omega))
  have HR1 := Lib.hid (HR0.out.below hb1 (Nat.lt_succ_self _))
  obtain ⟨x0, x1, x2⟩ := HR1.out.three
  have y0 := HR1.out.frozen 0
  have y1 := HR1.out.frozen 1
  have y2 := HR1.out.frozen 2
  obtain ⟨z0, z1, z2⟩ := hI1.blk.three
  have HI1 := Lib.hid hI1
  clear hI1 hb1 HMM
  by_cases h6 : 600 < r.2.length
  · have h6' : (600 : Int) < (r.2.length : Int) := by omega
    go_wp2_with fail
    obtain ⟨u0, u1, u2⟩ := (HR1.out.put3 (.int .i64 0) (.slice none 0 0) (.int .i64 0)).three
    refine bodyPost_ret (v := .tuple #[.agg zB, .bool false]) (by simp [results, Try.results67, go_sem, u0, u1, u2]) rfl ⟨⟨0, 0, [], false, none, 0, .inr ⟨fun h => by have := h.2; rw [HRR.out] at this; omega, rfl, rfl, rfl, rfl⟩, rfl, World.ownsRow_nil _ _ _ _⟩, below_put3 HB1.out (Nat.le_refl _) _ _ _⟩
  · have h6' : ¬ (600 : Int) < (r.2.length : Int) := by omega
    go_wp2_with fail
    obtain ⟨u0, u1, u2⟩ := (HR1.out.put3 (.int .i64 vars) (.slice A1 r.2.length c1) (.int .i64 r.1)).three
    refine bodyPost_ret (v := .tuple #[.agg #[.int .i64 vars, .slice A1 r.2.length c1, .int .i64 r.1], .bool true]) (by simp [results, Try.results67, go_sem, u0, u1, u2]) rfl ⟨⟨vars, r.1, r.2, true, A1, c1, .inl ⟨hp, by rw [HRR.out]; omega, rfl, by rw [HRR.out], by rw [HRR.out], rfl⟩, rfl, own_put3 (own_mono HI1.out.own (by omega)) (own_ne_blk HI1.out.own HR1.out (by decide)) _ _ _⟩, below_put3 HB1.out (Nat.le_refl _) _ _ _⟩

/-- BddConst of the reference. -/
def Cst (V : Int) (b : Bool) (e : Ending) : Prop :=
  (0 ≤ V ∧ V ≤ 13 ∧ e = .returned (.tuple #[.agg #[.int .i64 V, .slice none 0 0, .int .i64 (b2i b)], .bool true])) ∨ (¬ (0 ≤ V ∧ V ≤ 13) ∧ e = .returned (.tuple #[.agg zB, .bool false]))
set_option maxRecDepth 100000 in
set_option maxHeartbeats 400000 in
theorem specConst_yes (V : Int) (b : Bool) (w : World) (hV : 0 ≤ V ∧ V ≤ 13) : Calls Try.prog 90 #[.int .i64 V, .bool b] w fun e w' => e = .returned (.tuple #[.agg #[.int .i64 V, .slice none 0 0, .int .i64 (b2i b)], .bool true]) ∧ Below w.heap.size w w' := by
  have hd : decide (0 ≤ V ∧ V ≤ 13) = true := by simpa using hV
  clear hV
  go_enter Try.func90, Try.ntmps90
  go_wp2_with (first
    | (go_at_call 65; refine (l7Vars_is _ true hd _).mono ?_; rintro e w' ⟨rfl, rfl⟩)
    | (go_at_call 131; refine (yesb_is _ _).mono ?_; rintro e w' ⟨rfl, rfl⟩))
  refine bodyPost_ret (v := .tuple #[.agg #[.int .i64 V, .slice none 0 0, .int .i64 (b2i b)], .bool true]) (by simp [results, Try.results90, go_sem]) rfl ⟨rfl, (Below.refl _ _).alloc (Nat.le_refl _) _⟩
set_option maxRecDepth 100000 in
set_option maxHeartbeats 400000 in
theorem specConst_no (V : Int) (b : Bool) (w : World) (hV : ¬ (0 ≤ V ∧ V ≤ 13)) : Calls Try.prog 90 #[.int .i64 V, .bool b] w fun e w' => e = .returned (.tuple #[.agg zB, .bool false]) ∧ Below w.heap.size w w' := by
  have hd : decide (0 ≤ V ∧ V ≤ 13) = false := by simpa using hV
  clear hV
  go_enter Try.func90, Try.ntmps90
  go_wp2_with (go_at_call 65; refine (l7Vars_is _ false hd _).mono ?_; rintro e w' ⟨rfl, rfl⟩)
  refine bodyPost_ret (v := .tuple #[.agg zB, .bool false]) (by simp [results, Try.results90, go_sem]) rfl ⟨rfl, (Below.refl _ _).alloc (Nat.le_refl _) _⟩

end Go.Proofs.Ytffefegjnbfobaa
