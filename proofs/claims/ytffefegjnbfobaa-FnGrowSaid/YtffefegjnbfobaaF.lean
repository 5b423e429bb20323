/- Walks: BddOk of the program. -/
import Derived.Test.YtffefegjnbfobaaE
namespace Go.Proofs.Ytffefegjnbfobaa
open Go.RowKit
open B

theorem ncells_get : ∀ (ns : List Nd) (k : Nat) (n : Nd), ns[k]? = some n → (ncells ns)[k * 3]? = some (.int .i64 n.v) ∧ (ncells ns)[k * 3 + 1]? = some (.int .i64 n.lo) ∧ (ncells ns)[k * 3 + 2]? = some (.int .i64 n.hi)
  | [], _, _, h => by simp at h
  | m :: ns, 0, n, h => by
    simp at h; subst h
    exact ⟨rfl, rfl, rfl⟩
  | m :: ns, k + 1, n, h => by
    have ih := ncells_get ns k n (by simpa using h)
    have e : ncells (m :: ns) = .int .i64 m.v :: .int .i64 m.lo :: .int .i64 m.hi :: ncells ns := rfl
    rw [e, show (k + 1) * 3 = k * 3 + 1 + 1 + 1 by omega, show k * 3 + 1 + 1 + 1 + 1 = k * 3 + 1 + 1 + 1 + 1 from rfl]
    simpa using ih

theorem NAt.of_own {w : World} {base : Nat} {A : Option Addr} {c : Nat} {ns : List Nd} (h : w.ownsRow base 89 3 (.slice A ns.length c) ns.length (ncells ns)) : NAt w A ns := fun hn => by
  rcases h.2 with ⟨_, h0⟩ | ⟨g, cap, cur, h1, h2, h3, h4⟩
  · omega
  · injection h1 with h1 _ _
    subst h1
    refine ⟨g, 0, rfl, (Array.getElem?_eq_some_iff.1 h3).1, fun k n hk => ?_⟩
    have hc := fun j u hj => h.cells (g := g) rfl j u hj
    obtain ⟨e1, e2, e3⟩ := ncells_get ns k n hk
    have ad : ∀ j, (⟨g, 0, none⟩ : Addr).add j = ⟨g, j, none⟩ := fun j => by unfold Addr.add; split <;> simp_all
    have c1 := hc _ _ e1
    have c2 := hc _ _ e2
    have c3 := hc _ _ e3
    rw [ad] at c1 c2 c3
    rw [Nat.zero_add]
    exact ⟨c1, c2, c3⟩

set_option maxRecDepth 100000 in
set_option maxHeartbeats 400000 in
theorem bddOk_any (V R : Int) (A : Option Addr) (cap : Nat) (ns : List Nd) (w : World) (hA : NAt w A ns) (hn : ns.length ≤ 1048576) :
    Calls Try.prog 32 #[.agg #[.int .i64 V, .slice A ns.length cap, .int .i64 R]] w fun e w' => Says (OkI V ns R) e ∧ Below w.heap.size w w' := by
  have HA := Lib.hid hA
  clear hA
  have hb1 : ∀ o : Obj, Below w.heap.size w (w.alloc o) := fun o => (Below.refl _ _).alloc (Nat.le_refl _) _
  have HB1 := Lib.hid hb1
  clear hb1
  go_enter Try.func32, Try.ntmps32
  go_wp2_with fail
  refine (formed_any V R A cap ns _ (HA.out.below (HB1.out _)) hn).mono ?_
  rintro e w1 ⟨hs, hb⟩
  have hbw : Below w.heap.size w w1 := (HB1.out _).trans (hb.mono (by simp))
  have hblk := (Blk.new w 28 #[.int .i64 V, .slice A ns.length cap, .int .i64 R]).below hb (by simp)
  clear hb
  rcases hs with ⟨rfl, hs⟩ | ⟨rfl, hs⟩
  case inr =>
    have HS : Hid (¬ OkI V ns R) := fun h => hs h.1
    clear hs hblk
    go_wp2_with fail
    go_ret
    exact ⟨.no HS.out, hbw⟩
  obtain ⟨vars, rfl⟩ := Int.eq_ofNat_of_zero_le hs.v0
  have hv : vars ≤ 13 := by have := hs.v1; omega
  have hfm : Fm vars ns := by simpa using hs.fm
  have HS := Lib.hid hs
  have HFM := Lib.hid hfm
  have x0 : w1.cell? ⟨w.heap.size, 0, none⟩ = some (.int .i64 vars) := by rw [hblk.cell]; rfl
  have x1 : w1.cell? ⟨w.heap.size, 1, none⟩ = some (.slice A ns.length cap) := by rw [hblk.cell]; rfl
  have x2 : w1.cell? ⟨w.heap.size, 2, none⟩ = some (.int .i64 R) := by rw [hblk.cell]; rfl
  have Hblk := Lib.hid hblk
  clear hs hfm hblk
  go_wp2_with fail
  refine (table_any vars (2 ^ vars) rfl R A cap ns w1 (HA.out.below hbw) HFM.out hv HS.out.root hn).mono ?_
  rintro e w2 ⟨g, rfl, hg, hb2, hT⟩
  have HT := Lib.hid hT
  have hbw2 : Below w.heap.size w w2 := hbw.trans (hb2.mono hbw.size)
  have Hblk2 := Lib.hid (Hblk.out.below hb2 Hblk.out.lt)
  clear hT x0 x1 x2 hb2
  go_wp2_with fail
  refine (diagram_any vars (2 ^ vars) g (has ns R) rfl hv w2 HT.out).mono ?_
  rintro e w3 ⟨hb3, hd⟩
  have hbw3 : Below w.heap.size w w3 := hbw2.trans (hb3.mono hbw2.size)
  have hblk3 := (Hblk2.out.below hb3 Hblk2.out.lt)
  generalize hr : mk vars 0 (has ns R) [] = r at *
  have HR := Lib.hid hr
  clear hr hb3
  rcases hd with ⟨h6, A3, c3, rfl, ho⟩ | ⟨h6, rfl⟩
  case inr =>
    have hno : Hid (¬ OkI (vars : Int) ns R) := fun h => by
      have := h.2
      simp only [Int.toNat_natCast] at this
      rw [HR.out] at this
      rw [this] at h6
      have := h.1.len
      simp at h6; omega
    clear hblk3 h6
    go_wp2_with fail
    go_ret
    exact ⟨.no hno.out, hbw3.alloc hbw3.size _⟩
  have Hblk3 := Lib.hid hblk3
  have HO := Lib.hid ho
  have hal := hblk3.alloc (.cells #[.int .i64 (vars : Int), .slice A3 r.2.length c3, .int .i64 r.1] 28)
  have x0 : (w3.alloc (.cells #[.int .i64 (vars : Int), .slice A3 r.2.length c3, .int .i64 r.1] 28)).cell? ⟨w.heap.size, 0, none⟩ = some (.int .i64 vars) := by rw [hal.cell]; rfl
  have x1 : (w3.alloc (.cells #[.int .i64 (vars : Int), .slice A3 r.2.length c3, .int .i64 r.1] 28)).cell? ⟨w.heap.size, 1, none⟩ = some (.slice A ns.length cap) := by rw [hal.cell]; rfl
  have x2 : (w3.alloc (.cells #[.int .i64 (vars : Int), .slice A3 r.2.length c3, .int .i64 r.1] 28)).cell? ⟨w.heap.size, 2, none⟩ = some (.int .i64 R) := by rw [hal.cell]; rfl
  clear ho hblk3 hal
  go_wp2_with fail
  have hbw4 := hbw3.alloc hbw3.size (.cells #[.int .i64 (vars : Int), .slice A3 r.2.length c3, .int .i64 r.1] 28)
  have HB4 := Lib.hid hbw4
  clear hbw4
  refine (same_any vars vars r.1 R A3 A c3 cap r.2 ns _ (NAt.of_own (HO.out.alloc _)) (HA.out.below HB4.out) (by omega) hn).mono ?_
  rintro e w4 ⟨hs, hb4⟩
  have hbw5 := HB4.out.trans (hb4.mono HB4.out.size)
  clear hb4
  rcases hs with ⟨rfl, hs⟩ | ⟨rfl, hs⟩
  · have hyes : Hid (OkI (vars : Int) ns R) := ⟨HS.out, by
      simp only [Int.toNat_natCast]
      rw [HR.out]
      obtain ⟨_, e1, e2⟩ := hs
      rw [← e1, ← e2]⟩
    clear hs
    go_wp2_with fail
    go_ret
    exact ⟨.yes hyes.out, hbw5⟩
  · have hno : Hid (¬ OkI (vars : Int) ns R) := fun h => hs (by
      have := h.2
      simp only [Int.toNat_natCast] at this
      rw [HR.out] at this
      rw [this]
      exact ⟨rfl, rfl, rfl⟩)
    clear hs
    go_wp2_with fail
    go_ret
    exact ⟨.no hno.out, hbw5⟩
end Go.Proofs.Ytffefegjnbfobaa
