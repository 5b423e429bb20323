/- Walks: table, diagram. -/
import Derived.Test.YtffefegjnbfobaaC
namespace Go.Proofs.Ytffefegjnbfobaa
open Go.RowKit
open B

/-- What a maker of diagrams hands back: the diagram in new memory, or nothing where it is too large. -/
def Diag (w : World) (V : Int) (r : Int × List Nd) (e : Ending) (w' : World) : Prop :=
  Below w.heap.size w w' ∧ ((r.2.length ≤ 600 ∧ ∃ A c, e = .returned (.tuple #[.agg #[.int .i64 V, .slice A r.2.length c, .int .i64 r.1], .bool true]) ∧ w'.ownsRow w.heap.size 89 3 (.slice A r.2.length c) r.2.length (ncells r.2)) ∨
    (600 < r.2.length ∧ e = .returned (.tuple #[.agg #[.int .i64 0, .slice none 0 0, .int .i64 0], .bool false])))

theorem has_enters : Enters Try.prog 70 := enters_of Try.func70 (by kernel_rfl) rfl

set_option maxRecDepth 100000 in
set_option maxHeartbeats 400000 in
theorem table_any (vars N : Nat) (hN : N = 2 ^ vars) (R : Int) (A : Option Addr) (cap : Nat) (ns : List Nd) (w : World) (hA : NAt w A ns) (hf : Fm vars ns) (hv : vars ≤ 13) (hR : isP ns R) (hn : ns.length ≤ 1048576) :
    Calls Try.prog 87 #[.agg #[.int .i64 (vars : Int), .slice A ns.length cap, .int .i64 R]] w fun e w' => ∃ g, e = .returned (.slice (some ⟨g, 0, none⟩) N N) ∧ w.heap.size ≤ g ∧ Below w.heap.size w w' ∧ Blk w' g 5 (rowF (fun c => u8b (has ns R c)) N) := by
  have hmf : ∀ (fn : Fn) (first cap : Array Value) (w : World), (Instr.makeFunc fn first cap).run Try.prog w = .ok (.func fn first cap) w := fun _ _ _ _ => rfl
  have hN' : N ≤ 8192 := by rw [hN]; exact Nat.pow_le_pow_right (by omega) hv
  have HA := Lib.hid hA
  have HF := Lib.hid hf
  have HN := Lib.hid hN
  clear hA hf hN
  go_enter Try.func87, Try.ntmps87
  go_wp2_with fail
  refine (newTable_any vars N HN.out 70 #[.agg #[.int .i64 (vars : Int), .slice A ns.length cap, .int .i64 R]] #[] (has ns R) _ hv has_enters ?_).mono ?_
  · intro W c hb hc
    have hb' : Below w.heap.size w W := ((Below.refl _ _).alloc (Nat.le_refl _) _).trans (hb.mono (by simp))
    exact has_any (vars : Int) R A cap vars ns c W (HA.out.below hb') HF.out hv hR (by omega) hn
  · rintro e w1 ⟨g, rfl, hg, hb, hB⟩
    have HB := Lib.hid hB
    clear hB
    go_wp2_with fail
    go_ret
    exact ⟨g, rfl, by simp at hg; omega, ((Below.refl _ _).alloc (Nat.le_refl _) _).trans (hb.mono (by simp)), HB.out⟩

set_option maxRecDepth 100000 in
set_option maxHeartbeats 400000 in
theorem diagram_any (vars N tb : Nat) (f : Nat → Bool) (hN : N = 2 ^ vars) (hv : vars ≤ 13) (w : World) (hT : Blk w tb 5 (rowF (fun c => u8b (f c)) N)) :
    Calls Try.prog 64 #[.slice (some ⟨tb, 0, none⟩) N N] w fun e w' => Diag w vars (mk vars 0 f []) e w' := by
  have hN' : N ≤ 8192 := by rw [hN]; exact Nat.pow_le_pow_right (by omega) hv
  have hmm := @run_makeMap Try.prog
  have HN := Lib.hid hN
  have HT := Lib.hid hT
  clear hN hT
  go_enter Try.func64, Try.ntmps64
  go_wp2_with fail
  go_loop [4] (fun x => ∃ k : Nat, k ≤ vars ∧ x = .int .i64 k) (fun x => vars - (intOf x).toNat)
  case atStart => exact ⟨0, Nat.zero_le _, rfl⟩
  case round =>
    obtain ⟨k, hk, rfl⟩ := hrel
    obtain ⟨p, hp⟩ : ∃ p, p = 2 ^ k := ⟨_, rfl⟩
    have hkp : p ≤ 8192 := by rw [hp]; exact Nat.pow_le_pow_right (by omega) (by omega : k ≤ 13)
    have e1 : wrap64 (2 ^ k) = (p : Int) := by
      have : ((2 : Int) ^ k) = ((2 ^ k : Nat) : Int) := by simp
      rw [this, ← hp]; unfold wrap64; omega
    have HP := Lib.hid hp
    clear hp
    by_cases hlt : k < vars
    · have h2 : p < N := by rw [HN.out, HP.out]; exact Nat.pow_lt_pow_right (by omega) hlt
      go_wp2_with fail
      go_round
      case rel => exact ⟨k + 1, by omega, by go_num⟩
      case measure => simp [intOf]; omega
    · obtain rfl : k = vars := by omega
      obtain rfl : p = N := by rw [HP.out, HN.out]
      go_wp2_with fail
      have hBw : Below w.heap.size w ((((w.alloc (.cells #[.int .i64 0, .slice none 0 0, .int .i64 0] 28)).alloc (.map #[] 0)).alloc (.map #[] 0)).alloc (.cells #[.int .i64 (k : Int), .slice none 0 0, .int .i64 0, .map (some (w.heap.size + 1)), .map (some (w.heap.size + 2))] 119)) :=
        ((((Below.refl _ _).alloc (Nat.le_refl _) _).alloc (by simp) _).alloc (by simp; omega) _).alloc (by simp; omega) _
      have hres : Blk ((((w.alloc (.cells #[.int .i64 0, .slice none 0 0, .int .i64 0] 28)).alloc (.map #[] 0)).alloc (.map #[] 0)).alloc (.cells #[.int .i64 (k : Int), .slice none 0 0, .int .i64 0, .map (some (w.heap.size + 1)), .map (some (w.heap.size + 2))] 119)) w.heap.size 28 #[.int .i64 0, .slice none 0 0, .int .i64 0] :=
        (((Blk.new w _ _).alloc _).alloc _).alloc _
      have HBw := Lib.hid hBw
      have Hres := Lib.hid hres
      clear hBw hres
      refine (build_any k hv (w.heap.size + 1) (w.heap.size + 1 + 1 + 1) (w.heap.size + 1) (w.heap.size + 1 + 1) k 0 0 p tb f (.slice none 0 0) [] 0 (fun _ => none) (fun _ => none) _ rfl (by omega) HN.out ?_ (HT.out.below HBw.out HT.out.lt) (by simp; omega) (by omega)).mono ?_
      · have s1 := MapF.made (w.alloc (.cells #[.int .i64 0, .slice none 0 0, .int .i64 0] 28)) 9
        have s2 := MapF.made ((w.alloc (.cells #[.int .i64 0, .slice none 0 0, .int .i64 0] 28)).alloc (.map #[] 0)) 89
        simp only [World.size_alloc] at s1 s2
        exact ⟨⟨0, Blk.new_at _ _ _ (by simp)⟩, World.ownsRow_nil _ _ _ _, (s1.alloc _).alloc _, s2.alloc _, by omega, by omega, by omega, by omega, (fun _ _ _ h => by cases h), (fun _ => by simp), wf_nil _⟩
      · rintro e w1 ⟨rfl, hb1, hy1, v1, n1, S1, M1, hI, hn1, hl1⟩
        obtain ⟨root, hblk⟩ := hI.blk
        have hrb := Hres.out.below hb1 (by omega)
        have hbw1 : Below w.heap.size w w1 := HBw.out.trans (hb1.mono (by omega))
        obtain ⟨A1, c1, hv1⟩ := own_slice hI.own
        rw [hv1] at hblk
        have hown := hI.own
        rw [hv1] at hown
        generalize hr : mk k 0 f [] = r at *
        have HR := Lib.hid hr
        clear hr
        clear hI hv1 hy1
        have x0 : w1.cell? ⟨w.heap.size + 1 + 1 + 1, 2, none⟩ = some (.int .i64 root) := by rw [hblk.cell]; rfl
        have x1 : w1.frozen? ⟨w.heap.size + 1 + 1 + 1, 2, none⟩ = false := hblk.frozen 2
        have x2 : w1.cell? ⟨w.heap.size + 1 + 1 + 1, 1, none⟩ = some (.slice A1 r.2.length c1) := by rw [hblk.cell]; rfl
        have x3 : w1.cell? ⟨w.heap.size + 1 + 1 + 1, 0, none⟩ = some (.int .i64 k) := by rw [hblk.cell]; rfl
        have y0 : w1.cell? ⟨w.heap.size, 0, none⟩ = some (.int .i64 0) := by rw [hrb.cell]; rfl
        have y1 : w1.cell? ⟨w.heap.size, 1, none⟩ = some (.slice none 0 0) := by rw [hrb.cell]; rfl
        have y2 : w1.cell? ⟨w.heap.size, 2, none⟩ = some (.int .i64 0) := by rw [hrb.cell]; rfl
        have z0 := hrb.frozen 0
        have z1 := hrb.frozen 1
        have z2 := hrb.frozen 2
        have Hblk := Lib.hid hblk
        have Hrb := Lib.hid hrb
        have Hown := Lib.hid hown
        clear hblk hrb hown
        by_cases h6 : r.2.length ≤ 600
        · have h6' : ¬ (600 : Int) < (r.2.length : Int) := by omega
          go_wp2_with fail
          have hbs : Below w.heap.size w (w1.setCell ⟨w.heap.size + 1 + 1 + 1, 2, none⟩ (.int .i64 r.1)) := hbw1.setCell (p := ⟨w.heap.size + 1 + 1 + 1, 2, none⟩) (by show w.heap.size ≤ w.heap.size + 1 + 1 + 1; omega) _
          have hos := own_far Hown.out (p := ⟨w.heap.size + 1 + 1 + 1, 2, none⟩) (own_ne_blk Hown.out Hblk.out (by decide)) (.int .i64 r.1)
          have hrs := Hrb.out.far (p := ⟨w.heap.size + 1 + 1 + 1, 2, none⟩) (by show w.heap.size ≠ w.heap.size + 1 + 1 + 1; omega) (.int .i64 r.1)
          have Hrs := Lib.hid hrs
          have Hbs := Lib.hid hbs
          clear hbs hrs
          refine (clone_any k r.1 A1 c1 r.2 _ (fun W hW => Src.of_own (own_below hos hW)) (by omega)).mono ?_
          rintro e w2 ⟨A', c', rfl, ho2, hb2⟩
          have hr2 := Hrs.out.below hb2 Hrs.out.lt
          clear y0 y1 y2 z0 z1 z2 x0 x1 x2 x3
          have y0 : w2.cell? ⟨w.heap.size, 0, none⟩ = some (.int .i64 0) := by rw [hr2.cell]; rfl
          have y1 : w2.cell? ⟨w.heap.size, 1, none⟩ = some (.slice none 0 0) := by rw [hr2.cell]; rfl
          have y2 : w2.cell? ⟨w.heap.size, 2, none⟩ = some (.int .i64 0) := by rw [hr2.cell]; rfl
          have z0 := hr2.frozen 0
          have z1 := hr2.frozen 1
          have z2 := hr2.frozen 2
          have b4 := ((hr2.set_ 0 (.int .i64 k)).set_ 1 (.slice A' r.2.length c')).set_ 2 (.int .i64 r.1)
          have hne := own_ne_blk ho2 hr2 (by decide)
          have Hb4 := Lib.hid b4
          clear hr2 b4
          go_wp2_with fail
          have u0 := Hb4.out.cell 0
          have u1 := Hb4.out.cell 1
          have u2 := Hb4.out.cell 2
          simp only [List.setIfInBounds_toArray, List.set_cons_zero, List.set_cons_succ, List.getElem?_toArray, List.getElem?_cons_zero, List.getElem?_cons_succ] at u0 u1 u2
          refine bodyPost_ret (v := .tuple #[.agg #[.int .i64 k, .slice A' r.2.length c', .int .i64 r.1], .bool true]) (by simp [results, Try.results64, go_sem, u0, u1, u2]) rfl ?_
          rw [HR.out]
          refine ⟨(((Hbs.out.trans (hb2.mono Hbs.out.size)).setCell (p := ⟨w.heap.size, 0, none⟩) (Nat.le_refl _) _).setCell (p := ⟨w.heap.size, 1, none⟩) (Nat.le_refl _) _).setCell (p := ⟨w.heap.size, 2, none⟩) (Nat.le_refl _) _, .inl ⟨h6, A', c', rfl, ?_⟩⟩
          have ho := own_far (own_far (own_far ho2 (p := ⟨w.heap.size, 0, none⟩) hne (.int .i64 k)) (p := ⟨w.heap.size, 1, none⟩) hne (.slice A' r.2.length c')) (p := ⟨w.heap.size, 2, none⟩) hne (.int .i64 r.1)
          exact own_mono ho Hbs.out.size
        · have h6' : (600 : Int) < (r.2.length : Int) := by omega
          go_wp2_with fail
          have b4 := (((Hrb.out.far (p := ⟨w.heap.size + 1 + 1 + 1, 2, none⟩) (by show w.heap.size ≠ w.heap.size + 1 + 1 + 1; omega) (.int .i64 r.1)).set_ 0 (.int .i64 0)).set_ 1 (.slice none 0 0)).set_ 2 (.int .i64 0)
          have u0 := b4.cell 0
          have u1 := b4.cell 1
          have u2 := b4.cell 2
          simp only [List.setIfInBounds_toArray, List.set_cons_zero, List.set_cons_succ, List.getElem?_toArray, List.getElem?_cons_zero, List.getElem?_cons_succ] at u0 u1 u2
          refine bodyPost_ret (v := .tuple #[.agg #[.int .i64 0, .slice none 0 0, .int .i64 0], .bool false]) (by simp [results, Try.results64, go_sem, u0, u1, u2]) rfl ?_
          rw [HR.out]
          exact ⟨(((hbw1.setCell (p := ⟨w.heap.size + 1 + 1 + 1, 2, none⟩) (by show w.heap.size ≤ w.heap.size + 1 + 1 + 1; omega) _).setCell (p := ⟨w.heap.size, 0, none⟩) (Nat.le_refl _) _).setCell (p := ⟨w.heap.size, 1, none⟩) (Nat.le_refl _) _).setCell (p := ⟨w.heap.size, 2, none⟩) (Nat.le_refl _) _, .inr ⟨by omega, rfl⟩⟩
end Go.Proofs.Ytffefegjnbfobaa
