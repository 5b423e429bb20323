/- Walks: table, diagram; Walks: slices.Equal at nodes, same, BddOk of the program; Walks: BddOk of the program. -/
import Derived.Test.YtffefegjnbfobaaBuild
namespace Go.Proofs.Ytffefegjnbfobaa
open Go.RowKit
open B

/-- What a maker of diagrams hands back: the diagram in new memory, or nothing where it is too large. -/
def Diag (w : World) (V : Int) (r : Int × List Nd) (e : Ending) (w' : World) : Prop :=
  Below w.heap.size w w' ∧ ((r.2.length ≤ 600 ∧ ∃ A c, e = .returned (.tuple #[.agg #[.int .i64 V, .slice A r.2.length c, .int .i64 r.1], .bool true]) ∧ w'.ownsRow w.heap.size 89 3 (.slice A r.2.length c) r.2.length (ncells r.2)) ∨
    (600 < r.2.length ∧ e = .returned (.tuple #[.agg #[.int .i64 0, .slice none 0 0, .int .i64 0], .bool false])))

theorem has_enters : Enters Try.prog 70 := enters_of Try.func70 (by kernel_rfl) rfl

set_option maxRecDepth 100000 in
set_option maxHeartbeats 400000 in
theorem table_any (vars N : Nat) (hN : N = 2 ^ vars) (R : Int) (A : Option Addr) (cap : Nat) (ns : List Nd) (w : World) (hA : NAt w A ns) (hf : Fm vars ns) (hv : vars ≤ 13) (hR : isP ns R) (hn : ns.length ≤ 1048576) :
    Calls Try.prog 87 #[.agg #[.int .i64 (vars : Int), .slice A ns.length cap, .int .i64 R]] w fun e w' => ∃ g, e = .returned (.slice (some ⟨g, 0, none⟩) N N) ∧ w.heap.size ≤ g ∧ Below w.heap.size w w' ∧ Blk w' g 5 (rowF (fun c => u8b (has ns R c)) N) := by
  have hmf : ∀ (fn : Fn) (first cap : Array Value) (w : World), (Instr.makeFunc fn first cap).run Try.prog w = .ok (.func fn first cap) w := fun _ _ _ _ => rfl
  have hN' : N ≤ 8192 := by rw [hN]; exact Nat.pow_le_pow_right (by omega) hv
  have HA := Lib.hid hA
  have HF := Lib.hid hf
  have HN := Lib.hid hN
  clear hA hf hN
  go_enter Try.func87, Try.ntmps87
  go_wp2_with fail
  refine (newTable_any vars N HN.out 70 #[.agg #[.int .i64 (vars : Int), .slice A ns.length cap, .int .i64 R]] #[] (has ns R) _ hv has_enters ?_).mono ?_
  · intro W c hb hc
    have hb' : Below w.heap.size w W := ((Below.refl _ _).alloc (Nat.le_refl _) _).trans (hb.mono (by simp))
    exact has_any (vars : Int) R A cap vars ns c W (HA.out.below hb') HF.out hv hR (by omega) hn
  · rintro e w1 ⟨g, rfl, hg, hb, hB⟩
    have HB := Lib.hid hB
    clear hB
    go_wp2_with fail
    go_ret
    exact ⟨g, rfl, by simp at hg; omega, ((Below.refl _ _).alloc (Nat.le_refl _) _).trans (hb.mono (by simp)), HB.out⟩

set_option maxRecDepth 100000 in
set_option maxHeartbeats 400000 in
theorem diagram_any (vars N tb : Nat) (f : Nat → Bool) (hN : N = 2 ^ vars) (hv : vars ≤ 13) (w : World) (hT : Blk w tb 5 (rowF (fun c => u8b (f c)) N)) :
    Calls Try.prog 64 #[.slice (some ⟨tb, 0, none⟩) N N] w fun e w' => Diag w vars (mk vars 0 f []) e w' := by
  have hN' : N ≤ 8192 := by rw [hN]; exact Nat.pow_le_pow_right (by omega) hv
  have hmm := @run_makeMap Try.prog
  have HN := Lib.hid hN
  have HT := Lib.hid hT
  clear hN hT
  go_enter Try.func64, Try.ntmps64
  go_wp2_with fail
  go_loop [4] (fun x => ∃ k : Nat, k ≤ vars ∧ x = .int .i64 k) (fun x => vars - (intOf x).toNat)
  case atStart => exact ⟨0, Nat.zero_le _, rfl⟩
  case round =>
    obtain ⟨k, hk, rfl⟩ := hrel
    obtain ⟨p, hp⟩ : ∃ p, p = 2 ^ k := ⟨_, rfl⟩
    have hkp : p ≤ 8192 := by rw [hp]; exact Nat.pow_le_pow_right (by omega) (by omega : k ≤ 13)
    have e1 : wrap64 (2 ^ k) = (p : Int) := by
      have : ((2 : Int) ^ k) = ((2 ^ k : Nat) : Int) := by simp
      rw [this, ← hp]; unfold wrap64; omega
    have HP := Lib.hid hp
    clear hp
    by_cases hlt : k < vars
    · have h2 : p < N := by rw [HN.out, HP.out]; exact Nat.pow_lt_pow_right (by omega) hlt
      go_wp2_with fail
      go_round
      case rel => exact ⟨k + 1, by omega, by go_num⟩
      case measure => simp [intOf]; omega
    · obtain rfl : k = vars := by omega
      obtain rfl : p = N := by rw [HP.out, HN.out]
      go_wp2_with fail
      have hBw : Below w.heap.size w ((((w.alloc (.cells #[.int .i64 0, .slice none 0 0, .int .i64 0] 28)).alloc (.map #[] 0)).alloc (.map #[] 0)).alloc (.cells #[.int .i64 (k : Int), .slice none 0 0, .int .i64 0, .map (some (w.heap.size + 1)), .map (some (w.heap.size + 2))] 119)) :=
        ((((Below.refl _ _).alloc (Nat.le_refl _) _).alloc (by simp) _).alloc (by simp; omega) _).alloc (by simp; omega) _
      have hres : Blk ((((w.alloc (.cells #[.int .i64 0, .slice none 0 0, .int .i64 0] 28)).alloc (.map #[] 0)).alloc (.map #[] 0)).alloc (.cells #[.int .i64 (k : Int), .slice none 0 0, .int .i64 0, .map (some (w.heap.size + 1)), .map (some (w.heap.size + 2))] 119)) w.heap.size 28 #[.int .i64 0, .slice none 0 0, .int .i64 0] :=
        (((Blk.new w _ _).alloc _).alloc _).alloc _
      have HBw := Lib.hid hBw
      have Hres := Lib.hid hres
      clear hBw hres
      refine (build_any k hv (w.heap.size + 1) (w.heap.size + 1 + 1 + 1) (w.heap.size + 1) (w.heap.size + 1 + 1) k 0 0 p tb f (.slice none 0 0) [] 0 (fun _ => none) (fun _ => none) _ rfl (by omega) HN.out ?_ (HT.out.below HBw.out HT.out.lt) (by simp; omega) (by omega)).mono ?_
      · have s1 := MapF.made (w.alloc (.cells #[.int .i64 0, .slice none 0 0, .int .i64 0] 28)) 9
        have s2 := MapF.made ((w.alloc (.cells #[.int .i64 0, .slice none 0 0, .int .i64 0] 28)).alloc (.map #[] 0)) 89
        simp only [World.size_alloc] at s1 s2
        exact ⟨⟨0, Blk.new_at _ _ _ (by simp)⟩, World.ownsRow_nil _ _ _ _, (s1.alloc _).alloc _, s2.alloc _, by omega, by omega, by omega, by omega, (fun _ _ _ h => by cases h), (fun _ => by simp), wf_nil _⟩
      · rintro e w1 ⟨rfl, hb1, hy1, v1, n1, S1, M1, hI, hn1, hl1⟩
        obtain ⟨root, hblk⟩ := hI.blk
        have hrb := Hres.out.below hb1 (by omega)
        have hbw1 : Below w.heap.size w w1 := HBw.out.trans (hb1.mono (by omega))
        obtain ⟨A1, c1, hv1⟩ := own_slice hI.own
        rw [hv1] at hblk
        have hown := hI.own
        rw [hv1] at hown
        generalize hr : mk k 0 f [] = r at *
        have HR := Lib.hid hr
        clear hr
        clear hI hv1 hy1
        have x0 : w1.cell? ⟨w.heap.size + 1 + 1 + 1, 2, none⟩ = some (.int .i64 root) := by rw [hblk.cell]; rfl
        have x1 : w1.frozen? ⟨w.heap.size + 1 + 1 + 1, 2, none⟩ = false := hblk.frozen 2
        have x2 : w1.cell? ⟨w.heap.size + 1 + 1 + 1, 1, none⟩ = some (.slice A1 r.2.length c1) := by rw [hblk.cell]; rfl
        have x3 : w1.cell? ⟨w.heap.size + 1 + 1 + 1, 0, none⟩ = some (.int .i64 k) := by rw [hblk.cell]; rfl
        have y0 : w1.cell? ⟨w.heap.size, 0, none⟩ = some (.int .i64 0) := by rw [hrb.cell]; rfl
        have y1 : w1.cell? ⟨w.heap.size, 1, none⟩ = some (.slice none 0 0) := by rw [hrb.cell]; rfl
        have y2 : w1.cell? ⟨w.heap.size, 2, none⟩ = some (.int .i64 0) := by rw [hrb.cell]; rfl
        have z0 := hrb.frozen 0
        have z1 := hrb.frozen 1
        have z2 := hrb.frozen 2
        have Hblk := Lib.hid hblk
        have Hrb := Lib.hid hrb
        have Hown := Lib.hid hown
        clear hblk hrb hown
        by_cases h6 : r.2.length ≤ 600
        · have h6' : ¬ (600 : Int) < (r.2.length : Int) := by omega
          go_wp2_with fail
          have hbs : Below w.heap.size w (w1.setCell ⟨w.heap.size + 1 + 1 + 1, 2, none⟩ (.int .i64 r.1)) := hbw1.setCell (p := ⟨w.heap.size + 1 + 1 + 1, 2, none⟩) (by show w.heap.size ≤ w.heap.size + 1 + 1 + 1; omega) _
          have hos := own_far Hown.out (p := ⟨w.heap.size + 1 + 1 + 1, 2, none⟩) (own_ne_blk Hown.out Hblk.out (by decide)) (.int .i64 r.1)
          have hrs := Hrb.out.far (p := ⟨w.heap.size + 1 + 1 + 1, 2, none⟩) (by show w.heap.size ≠ w.heap.size + 1 + 1 + 1; omega) (.int .i64 r.1)
          have Hrs := Lib.hid hrs
          have Hbs := Lib.hid hbs
          clear hbs hrs
          refine (clone_any k r.1 A1 c1 r.2 _ (fun W hW => Src.of_own (own_below hos hW)) (by omega)).mono ?_
          rintro e w2 ⟨A', c', rfl, ho2, hb2⟩
          have hr2 := Hrs.out.below hb2 Hrs.out.lt
          clear y0 y1 y2 z0 z1 z2 x0 x1 x2 x3
          have y0 : w2.cell? ⟨w.heap.size, 0, none⟩ = some (.int .i64 0) := by rw [hr2.cell]; rfl
          have y1 : w2.cell? ⟨w.heap.size, 1, none⟩ = some (.slice none 0 0) := by rw [hr2.cell]; rfl
          have y2 : w2.cell? ⟨w.heap.size, 2, none⟩ = some (.int .i64 0) := by rw [hr2.cell]; rfl
          have z0 := hr2.frozen 0
          have z1 := hr2.frozen 1
          have z2 := hr2.frozen 2
          have b4 := ((hr2.set_ 0 (.int .i64 k)).set_ 1 (.slice A' r.2.length c')).set_ 2 (.int .i64 r.1)
          have hne := own_ne_blk ho2 hr2 (by decide)
          have Hb4 := Lib.hid b4
          clear hr2 b4
          go_wp2_with fail
          have u0 := Hb4.out.cell 0
          have u1 := Hb4.out.cell 1
          have u2 := Hb4.out.cell 2
          simp only [List.setIfInBounds_toArray, List.set_cons_zero, List.set_cons_succ, List.getElem?_toArray, List.getElem?_cons_zero, List.getElem?_cons_succ] at u0 u1 u2
          refine bodyPost_ret (v := .tuple #[.agg #[.int .i64 k, .slice A' r.2.length c', .int .i64 r.1], .bool true]) (by simp [results, Try.results64, go_sem, u0, u1, u2]) rfl ?_
          rw [HR.out]
          refine ⟨(((Hbs.out.trans (hb2.mono Hbs.out.size)).setCell (p := ⟨w.heap.size, 0, none⟩) (Nat.le_refl _) _).setCell (p := ⟨w.heap.size, 1, none⟩) (Nat.le_refl _) _).setCell (p := ⟨w.heap.size, 2, none⟩) (Nat.le_refl _) _, .inl ⟨h6, A', c', rfl, ?_⟩⟩
          have ho := own_far (own_far (own_far ho2 (p := ⟨w.heap.size, 0, none⟩) hne (.int .i64 k)) (p := ⟨w.heap.size, 1, none⟩) hne (.slice A' r.2.length c')) (p := ⟨w.heap.size, 2, none⟩) hne (.int .i64 r.1)
          exact own_mono ho Hbs.out.size
        · have h6' : (600 : Int) < (r.2.length : Int) := by omega
          go_wp2_with fail
          have b4 := (((Hrb.out.far (p := ⟨w.heap.size + 1 + 1 + 1, 2, none⟩) (by show w.heap.size ≠ w.heap.size + 1 + 1 + 1; omega) (.int .i64 r.1)).set_ 0 (.int .i64 0)).set_ 1 (.slice none 0 0)).set_ 2 (.int .i64 0)
          have u0 := b4.cell 0
          have u1 := b4.cell 1
          have u2 := b4.cell 2
          simp only [List.setIfInBounds_toArray, List.set_cons_zero, List.set_cons_succ, List.getElem?_toArray, List.getElem?_cons_zero, List.getElem?_cons_succ] at u0 u1 u2
          refine bodyPost_ret (v := .tuple #[.agg #[.int .i64 0, .slice none 0 0, .int .i64 0], .bool false]) (by simp [results, Try.results64, go_sem, u0, u1, u2]) rfl ?_
          rw [HR.out]
          exact ⟨(((hbw1.setCell (p := ⟨w.heap.size + 1 + 1 + 1, 2, none⟩) (by show w.heap.size ≤ w.heap.size + 1 + 1 + 1; omega) _).setCell (p := ⟨w.heap.size, 0, none⟩) (Nat.le_refl _) _).setCell (p := ⟨w.heap.size, 1, none⟩) (Nat.le_refl _) _).setCell (p := ⟨w.heap.size, 2, none⟩) (Nat.le_refl _) _, .inr ⟨by omega, rfl⟩⟩

end Go.Proofs.Ytffefegjnbfobaa
namespace Go.Proofs.Ytffefegjnbfobaa
open Go.RowKit
open B

theorem guard_node : Try.prog.eqGuardType Try.prog.depth 89 = false := by kernel_rfl
theorem held_node : Try.prog.stoodInHeld 89 = false := by kernel_rfl

/-- Structs are compared field by field. -/
theorem equalIn_fields {P : Program} {w : World} {d : Nat} {t : TypeId} {fs : Array Field} {xs ys : Array Value} {r : Bool} (hu : P.underlying t = some (.struct fs)) (hp : P.stoodInHeld t = false) (h : (Op.eqFields d xs ys fs.toList).run P w = .ok r w) :
    (Op.equalIn (d + 1) t (.agg xs) (.agg ys)).run P w = .ok r w := by
  have hf : P.fieldsOf t = fs := by simp [Program.fieldsOf, hu]
  rw [run_equalIn_struct w d t xs ys (by rw [hf]; exact hu) hp, hf]
  exact h

theorem eqin_node (w : World) (x0 x1 x2 y0 y1 y2 : Int) : (Op.equalIn 10000 89 (.agg #[.int .i64 x0, .int .i64 x1, .int .i64 x2]) (.agg #[.int .i64 y0, .int .i64 y1, .int .i64 y2])).run Try.prog w = .ok (x0 == y0 && (x1 == y1 && x2 == y2)) w := by
  refine equalIn_fields (d := 9999) Try.underlying89 held_node ?_
  by_cases h0 : x0 = y0 <;> by_cases h1 : x1 = y1 <;> simp [Op.eqFields, go_sem, Try.underlying3, h0, h1]
  by_cases h2 : x2 = y2 <;> simp [h2]

set_option maxRecDepth 100000 in
set_option maxHeartbeats 400000 in
theorem equal_nodes (A A' : Option Addr) (c c' : Nat) (ns ms : List Nd) (w : World) (hA : NAt w A ns) (hA' : NAt w A' ms) (hn : ns.length ≤ 1048576) (_hm : ms.length ≤ 1048576) :
    Calls Try.prog 130 #[.slice A ns.length c, .slice A' ms.length c'] w fun e w' => Says (ns = ms) e ∧ Below w.heap.size w w' := by
  by_cases hl : ns.length = ms.length
  case neg =>
    have hne : Hid (¬ ns = ms) := fun e => hl (by rw [e])
    have d : ((ns.length : Int) != (ms.length : Int)) = true := by rw [bne_iff_ne]; omega
    clear hl
    go_enter Try.func130, Try.ntmps130
    go_wp2_with fail
    go_ret
    exact ⟨.no hne.out, Below.refl _ _⟩
  have d : ((ns.length : Int) != (ms.length : Int)) = false := by rw [bne_eq_false_iff_eq]; omega
  have Hl := Lib.hid hl
  clear hl
  go_enter Try.func130, Try.ntmps130
  go_wp2_with fail
  clear d
  go_loopw [13] (fun i wr => ∃ k : Nat, k ≤ ns.length ∧ Hid (∀ j, j < k → ns[j]? = ms[j]?) ∧ Below w.heap.size w wr ∧ i = .int .i64 k) (fun i _ => ns.length - (intOf i).toNat)
  case atStart => exact ⟨0, Nat.zero_le _, fun j hj => absurd hj (Nat.not_lt_zero _), Below.refl _ _, rfl⟩
  case round =>
    obtain ⟨k, hk, hsame, hbw, rfl⟩ := hrel
    by_cases hlt : k < ns.length
    · have hlm : k < ms.length := by have := Hl.out; omega
      obtain ⟨b, off, rfl, c1, c2, c3⟩ := hA.get hbw hlt
      obtain ⟨b', off', rfl, c4, c5, c6⟩ := hA'.get hbw hlm
      have h0 : (0 : Int) ≤ k := by omega
      have g0 : ns[k]? = some ns[k] := List.getElem?_eq_getElem hlt
      have g1 : ms[k]? = some ms[k] := List.getElem?_eq_getElem hlm
      generalize ns[k] = n at *
      generalize ms[k] = m at *
      have G0 := Lib.hid g0
      have G1 := Lib.hid g1
      clear g0 g1 hA hA'
      have l1 : (k : Int) < (ns.length : Int) := by omega
      have l2 : (k : Int) < (ms.length : Int) := by omega
      have q1 := guard_node
      have q2 := eqin_node
      obtain ⟨bb, e24, HBB⟩ : ∃ bb, (n.v == m.v && (n.lo == m.lo && n.hi == m.hi)) = bb ∧ Hid (bb = true ↔ n = m) := ⟨_, rfl, by
        cases n; cases m; simp [Hid]⟩
      go_wp2_with fail
      go_quiet (fail)
      clear e24
      cases bb with
      | true =>
        have hnm : Hid (n = m) := HBB.out.1 rfl
        go_wp2_with fail
        go_roundw
        case rel =>
          refine ⟨k + 1, by omega, fun j hj => ?_, below_drewN hbw _, by go_num⟩
          by_cases e : j = k
          · subst e; rw [G0.out, G1.out, hnm.out]
          · exact hsame.out j (by omega)
        case measure => simp [intOf]; omega
      | false =>
        have hno : Hid (¬ ns = ms) := fun e => by
          have := G0.out; rw [e, G1.out] at this
          injection this with this
          have := HBB.out.2 this.symm
          cases this
        go_wp2_with fail
        go_ret
        exact ⟨.no hno.out, below_drewN hbw _⟩
    · go_wp2
      go_ret
      refine ⟨.yes (List.ext_getElem? fun j => ?_), hbw⟩
      by_cases hj : j < k
      · exact hsame.out j hj
      · rw [List.getElem?_eq_none (by omega), List.getElem?_eq_none (by have := Hl.out; omega)]

/-- Two diagrams are the same. -/
def SameB (V V' R R' : Int) (ns ms : List Nd) : Prop := V = V' ∧ R = R' ∧ ns = ms

set_option maxRecDepth 100000 in
set_option maxHeartbeats 400000 in
theorem same_any (V V' R R' : Int) (A A' : Option Addr) (c c' : Nat) (ns ms : List Nd) (w : World) (hA : NAt w A ns) (hA' : NAt w A' ms) (hn : ns.length ≤ 1048576) (hm : ms.length ≤ 1048576) :
    Calls Try.prog 88 #[.agg #[.int .i64 V, .slice A ns.length c, .int .i64 R], .agg #[.int .i64 V', .slice A' ms.length c', .int .i64 R']] w fun e w' => Says (SameB V V' R R' ns ms) e ∧ Below w.heap.size w w' := by
  have HA := Lib.hid hA
  have HA' := Lib.hid hA'
  clear hA hA'
  have hb2 : ∀ o o' : Obj, Below w.heap.size w ((w.alloc o).alloc o') := fun o o' => ((Below.refl _ _).alloc (Nat.le_refl _) _).alloc (by simp) _
  have HB2 := Lib.hid hb2
  clear hb2
  by_cases hV : V = V'
  case neg =>
    have d : (V == V') = false := by simpa using hV
    have hno : Hid (¬ SameB V V' R R' ns ms) := fun h => hV h.1
    clear hV
    go_enter Try.func88, Try.ntmps88
    go_wp2_with fail
    go_ret
    exact ⟨.no hno.out, HB2.out _ _⟩
  subst hV
  by_cases hR : R = R'
  case neg =>
    have d : (R == R') = false := by simpa using hR
    have hno : Hid (¬ SameB V V R R' ns ms) := fun h => hR h.2.1
    clear hR
    go_enter Try.func88, Try.ntmps88
    go_wp2_with fail
    go_ret
    exact ⟨.no hno.out, HB2.out _ _⟩
  subst hR
  go_enter Try.func88, Try.ntmps88
  go_wp2_with fail
  refine (equal_nodes A A' c c' ns ms _ (HA.out.below (HB2.out _ _)) (HA'.out.below (HB2.out _ _)) hn hm).mono ?_
  rintro e w1 ⟨hs, hb⟩
  have HB := Lib.hid hb
  clear hb
  rcases hs with ⟨rfl, hs⟩ | ⟨rfl, hs⟩
  · have HS := Lib.hid hs
    clear hs
    go_wp2_with fail
    go_ret
    exact ⟨.yes ⟨rfl, rfl, HS.out⟩, (HB2.out _ _).trans (HB.out.mono (by simp; omega))⟩
  · have HS := Lib.hid hs
    clear hs
    go_wp2_with fail
    go_ret
    exact ⟨.no (fun h => HS.out h.2.2), (HB2.out _ _).trans (HB.out.mono (by simp; omega))⟩

end Go.Proofs.Ytffefegjnbfobaa
namespace Go.Proofs.Ytffefegjnbfobaa
open Go.RowKit
open B

theorem ncells_get : ∀ (ns : List Nd) (k : Nat) (n : Nd), ns[k]? = some n → (ncells ns)[k * 3]? = some (.int .i64 n.v) ∧ (ncells ns)[k * 3 + 1]? = some (.int .i64 n.lo) ∧ (ncells ns)[k * 3 + 2]? = some (.int .i64 n.hi)
  | [], _, _, h => by simp at h
  | m :: ns, 0, n, h => by
    simp at h; subst h
    exact ⟨rfl, rfl, rfl⟩
  | m :: ns, k + 1, n, h => by
    have ih := ncells_get ns k n (by simpa using h)
    have e : ncells (m :: ns) = .int .i64 m.v :: .int .i64 m.lo :: .int .i64 m.hi :: ncells ns := rfl
    rw [e, show (k + 1) * 3 = k * 3 + 1 + 1 + 1 by omega, show k * 3 + 1 + 1 + 1 + 1 = k * 3 + 1 + 1 + 1 + 1 from rfl]
    simpa using ih

theorem NAt.of_own {w : World} {base : Nat} {A : Option Addr} {c : Nat} {ns : List Nd} (h : w.ownsRow base 89 3 (.slice A ns.length c) ns.length (ncells ns)) : NAt w A ns := fun hn => by
  rcases h.2 with ⟨_, h0⟩ | ⟨g, cap, cur, h1, h2, h3, h4⟩
  · omega
  · injection h1 with h1 _ _
    subst h1
    refine ⟨g, 0, rfl, (Array.getElem?_eq_some_iff.1 h3).1, fun k n hk => ?_⟩
    have hc := fun j u hj => h.cells (g := g) rfl j u hj
    obtain ⟨e1, e2, e3⟩ := ncells_get ns k n hk
    have ad : ∀ j, (⟨g, 0, none⟩ : Addr).add j = ⟨g, j, none⟩ := fun j => by unfold Addr.add; split <;> simp_all
    have c1 := hc _ _ e1
    have c2 := hc _ _ e2
    have c3 := hc _ _ e3
    rw [ad] at c1 c2 c3
    rw [Nat.zero_add]
    exact ⟨c1, c2, c3⟩

set_option maxRecDepth 100000 in
set_option maxHeartbeats 400000 in
theorem bddOk_any (V R : Int) (A : Option Addr) (cap : Nat) (ns : List Nd) (w : World) (hA : NAt w A ns) (hn : ns.length ≤ 1048576) :
    Calls Try.prog 32 #[.agg #[.int .i64 V, .slice A ns.length cap, .int .i64 R]] w fun e w' => Says (OkI V ns R) e ∧ Below w.heap.size w w' := by
  have HA := Lib.hid hA
  clear hA
  have hb1 : ∀ o : Obj, Below w.heap.size w (w.alloc o) := fun o => (Below.refl _ _).alloc (Nat.le_refl _) _
  have HB1 := Lib.hid hb1
  clear hb1
  go_enter Try.func32, Try.ntmps32
  go_wp2_with fail
  refine (formed_any V R A cap ns _ (HA.out.below (HB1.out _)) hn).mono ?_
  rintro e w1 ⟨hs, hb⟩
  have hbw : Below w.heap.size w w1 := (HB1.out _).trans (hb.mono (by simp))
  have hblk := (Blk.new w 28 #[.int .i64 V, .slice A ns.length cap, .int .i64 R]).below hb (by simp)
  clear hb
  rcases hs with ⟨rfl, hs⟩ | ⟨rfl, hs⟩
  case inr =>
    have HS : Hid (¬ OkI V ns R) := fun h => hs h.1
    clear hs hblk
    go_wp2_with fail
    go_ret
    exact ⟨.no HS.out, hbw⟩
  obtain ⟨vars, rfl⟩ := Int.eq_ofNat_of_zero_le hs.v0
  have hv : vars ≤ 13 := by have := hs.v1; omega
  have hfm : Fm vars ns := by simpa using hs.fm
  have HS := Lib.hid hs
  have HFM := Lib.hid hfm
  have x0 : w1.cell? ⟨w.heap.size, 0, none⟩ = some (.int .i64 vars) := by rw [hblk.cell]; rfl
  have x1 : w1.cell? ⟨w.heap.size, 1, none⟩ = some (.slice A ns.length cap) := by rw [hblk.cell]; rfl
  have x2 : w1.cell? ⟨w.heap.size, 2, none⟩ = some (.int .i64 R) := by rw [hblk.cell]; rfl
  have Hblk := Lib.hid hblk
  clear hs hfm hblk
  go_wp2_with fail
  refine (table_any vars (2 ^ vars) rfl R A cap ns w1 (HA.out.below hbw) HFM.out hv HS.out.root hn).mono ?_
  rintro e w2 ⟨g, rfl, hg, hb2, hT⟩
  have HT := Lib.hid hT
  have hbw2 : Below w.heap.size w w2 := hbw.trans (hb2.mono hbw.size)
  have Hblk2 := Lib.hid (Hblk.out.below hb2 Hblk.out.lt)
  clear hT x0 x1 x2 hb2
  go_wp2_with fail
  refine (diagram_any vars (2 ^ vars) g (has ns R) rfl hv w2 HT.out).mono ?_
  rintro e w3 ⟨hb3, hd⟩
  have hbw3 : Below w.heap.size w w3 := hbw2.trans (hb3.mono hbw2.size)
  have hblk3 := (Hblk2.out.below hb3 Hblk2.out.lt)
  generalize hr : mk vars 0 (has ns R) [] = r at *
  have HR := Lib.hid hr
  clear hr hb3
  rcases hd with ⟨h6, A3, c3, rfl, ho⟩ | ⟨h6, rfl⟩
  case inr =>
    have hno : Hid (¬ OkI (vars : Int) ns R) := fun h => by
      have := h.2
      simp only [Int.toNat_natCast] at this
      rw [HR.out] at this
      rw [this] at h6
      have := h.1.len
      simp at h6; omega
    clear hblk3 h6
    go_wp2_with fail
    go_ret
    exact ⟨.no hno.out, hbw3.alloc hbw3.size _⟩
  have Hblk3 := Lib.hid hblk3
  have HO := Lib.hid ho
  have hal := hblk3.alloc (.cells #[.int .i64 (vars : Int), .slice A3 r.2.length c3, .int .i64 r.1] 28)
  have x0 : (w3.alloc (.cells #[.int .i64 (vars : Int), .slice A3 r.2.length c3, .int .i64 r.1] 28)).cell? ⟨w.heap.size, 0, none⟩ = some (.int .i64 vars) := by rw [hal.cell]; rfl
  have x1 : (w3.alloc (.cells #[.int .i64 (vars : Int), .slice A3 r.2.length c3, .int .i64 r.1] 28)).cell? ⟨w.heap.size, 1, none⟩ = some (.slice A ns.length cap) := by rw [hal.cell]; rfl
  have x2 : (w3.alloc (.cells #[.int .i64 (vars : Int), .slice A3 r.2.length c3, .int .i64 r.1] 28)).cell? ⟨w.heap.size, 2, none⟩ = some (.int .i64 R) := by rw [hal.cell]; rfl
  clear ho hblk3 hal
  go_wp2_with fail
  have hbw4 := hbw3.alloc hbw3.size (.cells #[.int .i64 (vars : Int), .slice A3 r.2.length c3, .int .i64 r.1] 28)
  have HB4 := Lib.hid hbw4
  clear hbw4
  refine (same_any vars vars r.1 R A3 A c3 cap r.2 ns _ (NAt.of_own (HO.out.alloc _)) (HA.out.below HB4.out) (by omega) hn).mono ?_
  rintro e w4 ⟨hs, hb4⟩
  have hbw5 := HB4.out.trans (hb4.mono HB4.out.size)
  clear hb4
  rcases hs with ⟨rfl, hs⟩ | ⟨rfl, hs⟩
  · have hyes : Hid (OkI (vars : Int) ns R) := ⟨HS.out, by
      simp only [Int.toNat_natCast]
      rw [HR.out]
      obtain ⟨_, e1, e2⟩ := hs
      rw [← e1, ← e2]⟩
    clear hs
    go_wp2_with fail
    go_ret
    exact ⟨.yes hyes.out, hbw5⟩
  · have hno : Hid (¬ OkI (vars : Int) ns R) := fun h => hs (by
      have := h.2
      simp only [Int.toNat_natCast] at this
      rw [HR.out] at this
      rw [this]
      exact ⟨rfl, rfl, rfl⟩)
    clear hs
    go_wp2_with fail
    go_ret
    exact ⟨.no hno.out, hbw5⟩
theorem ncells_set : ∀ (ns : List Nd) (k : Nat) (n : Nd), ((((ncells ns).set (k * 3) (.int .i64 n.v)).set (k * 3 + 1) (.int .i64 n.lo)).set (k * 3 + 2) (.int .i64 n.hi)) = ncells (ns.set k n)
  | [], k, n => by simp [ncells]
  | m :: ns, 0, n => by simp [ncells]
  | m :: ns, k + 1, n => by
    have ih := ncells_set ns k n
    have e : ∀ (x : Nd) (xs : List Nd), ncells (x :: xs) = .int .i64 x.v :: .int .i64 x.lo :: .int .i64 x.hi :: ncells xs := fun _ _ => rfl
    rw [List.set_cons_succ, e, e, ← ih, show (k + 1) * 3 = k * 3 + 1 + 1 + 1 by omega, show k * 3 + 1 + 1 + 1 + 1 = k * 3 + 1 + 1 + 1 + 1 from rfl, show k * 3 + 1 + 1 + 1 + 2 = k * 3 + 2 + 1 + 1 + 1 by omega]
    simp only [List.set_cons_succ]

theorem own_node {w : World} {base : Nat} {A : Option Addr} {c : Nat} {ns : List Nd} (h : w.ownsRow base 89 3 (.slice A ns.length c) ns.length (ncells ns)) {k : Nat} (hk : k < ns.length) :
    ∃ g, A = some ⟨g, 0, none⟩ ∧ base ≤ g ∧ (w.cell? ⟨g, k * 3, none⟩ = some (.int .i64 ns[k].v) ∧ w.cell? ⟨g, k * 3 + 1, none⟩ = some (.int .i64 ns[k].lo) ∧ w.cell? ⟨g, k * 3 + 2, none⟩ = some (.int .i64 ns[k].hi)) ∧ ∀ j, w.frozen? ⟨g, j, none⟩ = false := by
  obtain ⟨g, cap, h1, h2, h3⟩ := h.form (by omega)
  injection h1 with h1 _ _
  subst h1
  obtain ⟨e1, e2, e3⟩ := ncells_get ns k ns[k] (List.getElem?_eq_getElem hk)
  exact ⟨g, rfl, h2, ⟨by rw [h.cellAt _ (by omega)]; exact e1, by rw [h.cellAt _ (by omega)]; exact e2, by rw [h.cellAt _ (by omega)]; exact e3⟩, fun j => h.frozenAt j⟩

end Go.Proofs.Ytffefegjnbfobaa
