/- Walks: newTable; words on rows that a function tells. -/
import Derived.Test.YtffefegjnbfobaaB1
import Derived.Shelf.Abstract
namespace Go.Proofs.Ytffefegjnbfobaa
open Go.RowKit
open B

theorem info5 : (Try.prog.info? 5).map (fun i => (i.zero, i.size, i.bytes)) = some (some (.int .u8 0), 1, 1) := by kernel_rfl

theorem run_make_rowN {P : Program} (t e : TypeId) (i : TypeInfo) (z : Value) (ht : P.underlying t = some (.slice e)) (hi : P.info? e = some i) (hz : i.zero = some z)
    (kl kc : IntKind) (n c : Nat) (hnc : n ≤ c) (hbytes : i.bytes * c ≤ 281474976710656) (h63 : c ≤ 9223372036854775807) (w : World) :
    (Instr.makeSlice t (.int kl (n : Int)) (.int kc (c : Int))).run P w = .ok (.slice (some ⟨w.heap.size, 0, none⟩) n c) (w.alloc (.cells (madeCells z.cells (c * i.size)) e)) := by
  have hb : (i.bytes : Int) * (c : Int) ≤ 281474976710656 := by
    have h : ((i.bytes * c : Nat) : Int) ≤ 281474976710656 := by omega
    rwa [Int.natCast_mul] at h
  have hr := run_make (P := P) w t e i z ht hi hz kl kc n c (by omega) (by omega) hb (by omega)
  simp only [Int.toNat_natCast] at hr
  exact hr

/-- make(table, n) -/
theorem mk_table (n : Nat) (hn : n ≤ 1048576) (w : World) :
    (Instr.makeSlice 83 (.int .i64 (n : Int)) (.int .i64 (n : Int))).run Try.prog w = .ok (.slice (some ⟨w.heap.size, 0, none⟩) n n) (w.alloc (.cells (madeCells #[.int .u8 0] n) 5)) := by
  obtain ⟨i, hi, hz0, hz1, hz2⟩ := info_parts info5
  have := run_make_rowN (P := Try.prog) 83 5 i _ Try.underlying83 hi hz0 .i64 .i64 n n (Nat.le_refl _) (by rw [hz2]; omega) (by omega) w
  rw [hz1, Nat.mul_one] at this
  exact this

/-- A row told by a function. -/
def rowF (f : Nat → Value) (n : Nat) : Array Value := Array.ofFn (n := n) fun i => f i.val
theorem rowF_get (f : Nat → Value) (n i : Nat) (h : i < n) : (rowF f n)[i]? = some (f i) := by simp [rowF, h]
theorem rowF_size (f : Nat → Value) (n : Nat) : (rowF f n).size = n := by simp [rowF]
theorem rowF_congr {f g : Nat → Value} {n : Nat} (h : ∀ i, i < n → f i = g i) : rowF f n = rowF g n := by
  apply Array.ext
  · simp [rowF]
  · intro i h1 h2
    simp [rowF] at h1 ⊢
    exact h i h1
theorem rowF_set (f : Nat → Value) (n k : Nat) (v : Value) : (rowF f n).setIfInBounds k v = rowF (fun c => if c = k then v else f c) n := by
  apply Array.ext
  · simp [rowF]
  · intro i h1 h2
    rw [Array.getElem_setIfInBounds (by simpa [rowF] using h2)]
    simp [rowF, eq_comm]
theorem made_rowF (z : Value) (n : Nat) : madeCells #[z] n = rowF (fun _ => z) n := by
  apply Array.ext
  · simp [rowF, size_madeCells]
  · intro i h1 h2
    have h := congrArg (fun l : List Value => l[i]?) (toList_madeCells_one z n)
    simp [size_madeCells] at h1
    simp [h1] at h
    simp [rowF]
    simpa [size_madeCells, h1] using h

/-- Block g is just these cells of type t. -/
def Blk (w : World) (g : Nat) (t : TypeId) (cs : Array Value) : Prop := w.heap[g]? = some (.cells cs t (0, 0))
theorem Blk.lt {w : World} {g : Nat} {t : TypeId} {cs : Array Value} (h : Blk w g t cs) : g < w.heap.size := by
  rcases Nat.lt_or_ge g w.heap.size with hlt | hge
  · exact hlt
  · unfold Blk at h; rw [Array.getElem?_eq_none hge] at h; cases h
theorem Blk.cell {w : World} {g : Nat} {t : TypeId} {cs : Array Value} (h : Blk w g t cs) (i : Nat) : w.cell? ⟨g, i, none⟩ = cs[i]? := cell_of_row w g i cs t (0, 0) h
theorem Blk.frozen {w : World} {g : Nat} {t : TypeId} {cs : Array Value} (h : Blk w g t cs) (i : Nat) : w.frozen? ⟨g, i, none⟩ = false := by
  unfold Blk at h
  simp [World.frozen?, h]
theorem Blk.new (w : World) (t : TypeId) (cs : Array Value) : Blk (w.alloc (.cells cs t)) w.heap.size t cs := heap_alloc_new w _
theorem Blk.new_at (w : World) (t : TypeId) (cs : Array Value) {g : Nat} (hg : g = w.heap.size) : Blk (w.alloc (.cells cs t)) g t cs := by subst hg; exact Blk.new w t cs
theorem Blk.news {w : World} {g : Nat} {t : TypeId} {cs : Array Value} (h : Blk w g t cs) : ∀ j u, cs.toList[j]? = some u → w.cell? ((⟨g, 0, none⟩ : Addr).add j) = some u := fun j u hu => by
  have hadd : (⟨g, 0, none⟩ : Addr).add j = ⟨g, j, none⟩ := by unfold Addr.add; split <;> simp_all
  rw [hadd, h.cell]; simpa using hu
theorem Blk.alloc {w : World} {g : Nat} {t : TypeId} {cs : Array Value} (h : Blk w g t cs) (o : Obj) : Blk (w.alloc o) g t cs := (Below.heap_alloc w o g h.lt).trans h
theorem Blk.set_ {w : World} {g : Nat} {t : TypeId} {cs : Array Value} (h : Blk w g t cs) (i : Nat) (u : Value) : Blk (w.setCell ⟨g, i, none⟩ u) g t (cs.setIfInBounds i u) := by
  unfold Blk at h ⊢
  simp [World.setCell, Array.getElem?_modify, h]
theorem Blk.far {w : World} {g : Nat} {t : TypeId} {cs : Array Value} (h : Blk w g t cs) {p : Addr} (hp : g ≠ p.block) (u : Value) : Blk (w.setCell p u) g t cs := (Below.heap_setCell w p u g hp).trans h
theorem Blk.below {w w' : World} {g : Nat} {t : TypeId} {cs : Array Value} {B : Nat} (h : Blk w g t cs) (hb : Below B w w') (hg : g < B) : Blk w' g t cs := (hb.block g hg).trans h
theorem Blk.grown {w w' : World} {g : Nat} {t : TypeId} {cs : Array Value} {row : Option Nat} (h : Blk w g t cs) (hb : w.grownBy w' row) (hg : some g ≠ row) : Blk w' g t cs := (hb.block g h.lt hg).trans h

/-- A bool as a byte. -/
def b2i (b : Bool) : Int := if b then 1 else 0
theorem b2i_bd (b : Bool) : 0 ≤ b2i b ∧ b2i b ≤ 1 := by cases b <;> decide
def u8b (b : Bool) : Value := .int .u8 (b2i b)

theorem bit_is (b : Bool) (w : World) : Calls Try.prog 112 #[.bool b] w fun e w' => e = .returned (.int .i64 (b2i b)) ∧ w = w' := by
  cases b
  · go_enter Try.func112, Try.ntmps112
    go_wp2
    go_ret
    exact ⟨rfl, rfl⟩
  · go_enter Try.func112, Try.ntmps112
    go_wp2
    go_ret
    exact ⟨rfl, rfl⟩

set_option maxRecDepth 100000 in
set_option maxHeartbeats 400000 in
theorem newTable_any (vars N : Nat) (hN : N = 2 ^ vars) (fn : Nat) (first cap : Array Value) (h : Nat → Bool) (w : World) (hv : vars ≤ 13) (he : Enters Try.prog fn)
    (hcall : ∀ W c, Below w.heap.size w W → c < N → Calls Try.prog fn (first.push (.int .i64 (c : Int)) ++ cap) W fun e W' => e = .returned (.bool (h c)) ∧ Below W.heap.size W W') :
    Calls Try.prog 121 #[.int .i64 (vars : Int), .func (.func fn) first cap] w fun e w' => ∃ g, e = .returned (.slice (some ⟨g, 0, none⟩) N N) ∧ w.heap.size ≤ g ∧ Below w.heap.size w w' ∧ Blk w' g 5 (rowF (fun c => u8b (h c)) N) := by
  have hN' : N ≤ 8192 := by rw [hN]; exact Nat.pow_le_pow_right (by omega) hv
  have e1 : wrap64 (2 ^ vars) = (N : Int) := by
    have : ((2 : Int) ^ vars) = ((2 ^ vars : Nat) : Int) := by simp
    rw [this, ← hN]; unfold wrap64; omega
  clear hN
  have hmk := fun W => mk_table N (by omega) W
  have HC := Lib.hid hcall
  clear hcall
  have he' : ∀ (args : Array Value) (w : World), (callFunc fn args).run Try.prog w = .ok (.enter fn args) w := he
  clear he
  go_enter Try.func121, Try.ntmps121
  go_wp2_with fail
  clear e1 hmk
  go_loopw [12] (fun i wr => ∃ k : Nat, k ≤ N ∧ i = .int .i64 k ∧ Below w.heap.size w wr ∧ Blk wr w.heap.size 5 (rowF (fun c => if c < k then u8b (h c) else .int .u8 0) N)) (fun i _ => N - (intOf i).toNat)
  case atStart => exact ⟨0, by omega, rfl, (Below.refl _ _).alloc (Nat.le_refl _) _, by rw [made_rowF]; exact Blk.new _ _ _⟩
  case round =>
    obtain ⟨k, hk, rfl, hbw, hblk⟩ := hrel
    have HB := Lib.hid hblk
    clear hblk
    by_cases hlt : k < N
    · go_wp2_with fail
      refine (HC.out _ k hbw hlt).mono ?_
      rintro e w1 ⟨rfl, hb1⟩
      have hb2 := hbw.trans (hb1.mono hbw.size)
      have hblt := HB.out.lt
      have HB1 := (HB.out.below hb1 hblt)
      have hc0 : w1.cell? ⟨w.heap.size, k, none⟩ = some (if k < k then u8b (h k) else .int .u8 0) := by rw [HB1.cell, rowF_get _ _ _ hlt]
      have hf0 := HB1.frozen k
      have HB2 := Lib.hid HB1
      clear HB1
      obtain ⟨bd0, bd1⟩ := b2i_bd (h k)
      have hu : Hid (u8b (h k) = .int .u8 (b2i (h k))) := rfl
      go_wp2_with (go_at_call 112; refine (bit_is _ _).mono ?_; rintro e w' ⟨rfl, rfl⟩)
      go_roundw
      case rel =>
        refine ⟨k + 1, by omega, by go_num, hb2.setCell (Nat.le_refl _) _, ?_⟩
        have h3 := HB2.out.set_ k (.int .u8 (b2i (h k)))
        rw [rowF_set] at h3
        rw [rowF_congr (g := fun c => if c = k then Value.int .u8 (b2i (h k)) else if c < k then u8b (h c) else .int .u8 0)]
        · exact h3
        · intro i hi
          by_cases e : i = k
          · subst e; simp [u8b]
          · simp [e, show i < k + 1 ↔ i < k by omega]
      case measure => simp [intOf]; omega
    · go_wp2
      go_ret
      refine ⟨_, rfl, Nat.le_refl _, hbw, ?_⟩
      rw [show rowF (fun c => u8b (h c)) N = rowF (fun c => if c < k then u8b (h c) else .int .u8 0) N from rowF_congr fun i hi => by rw [if_pos (by omega)]]
      exact HB.out
end Go.Proofs.Ytffefegjnbfobaa
