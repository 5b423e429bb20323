/- The reader of draws: its memory; pick, walked; The reader of draws: l17Open, l17Some, vars, l1Ones, walked. -/
import Derived.Test.YtffefegjnbfobaaWd
import Derived.IntWalk
import Derived.Test.YtffefegjnbfobaaS2
import Derived.OwnWalk
import Derived.Maps.AppendAt
namespace Go.Proofs.Ytffefegjnbfobaa
open Go.RowKit
open B

/-- A reader at block g: its bytes, its place. -/
def Rd (w : World) (g p : Nat) : Prop := ∃ (A : Option Addr) (lb cb : Nat) (f : Nat → Int), Blk w g 114 #[.slice A lb cb, .int .i64 (p : Int)] ∧ lb ≤ 2000 ∧
  (0 < lb → ∃ b off, A = some ⟨b, off, none⟩ ∧ b < g ∧ ∀ j, j < lb → w.cell? ⟨b, off + j, none⟩ = some (.int .u8 (f j)) ∧ 0 ≤ f j ∧ f j ≤ 255)

theorem Rd.lt {w : World} {g p : Nat} (h : Rd w g p) : g < w.heap.size := by
  obtain ⟨A, lb, cb, f, hb, _⟩ := h
  exact hb.lt
theorem Rd.of_same {w w' : World} {g p : Nat} (h : Rd w g p) (hs : ∀ k, k ≤ g → w'.heap[k]? = w.heap[k]?) : Rd w' g p := by
  obtain ⟨A, lb, cb, f, hb, hl, hc⟩ := h
  refine ⟨A, lb, cb, f, (hs _ (Nat.le_refl _)).trans hb, hl, fun h0 => ?_⟩
  obtain ⟨b, off, rfl, hlt, hj⟩ := hc h0
  exact ⟨b, off, rfl, hlt, fun j hj' => ⟨(World.cell?_of_block (hs b (Nat.le_of_lt hlt))).trans (hj j hj').1, (hj j hj').2⟩⟩
theorem Rd.below {w w' : World} {g p : Nat} (h : Rd w g p) (hb : Below w.heap.size w w') : Rd w' g p := h.of_same fun k hk => hb.block k (Nat.lt_of_le_of_lt hk h.lt)
theorem Rd.alloc {w : World} {g p : Nat} (h : Rd w g p) (o : Obj) : Rd (w.alloc o) g p := h.of_same fun k hk => Below.heap_alloc w o k (Nat.lt_of_le_of_lt hk h.lt)
/-- What turns a younger row leaves the reader. -/
theorem Rd.grown {w w' : World} {g p q : Nat} (h : Rd w g p) (hg : w.grownBy w' (some q)) (hq : g < q) : Rd w' g p := h.of_same fun k hk => hg.block k (Nat.lt_of_le_of_lt hk h.lt) (by intro e; injection e with e; omega)
theorem Rd.set {w : World} {g p : Nat} (h : Rd w g p) (a : Addr) (u : Value) (hq : g < a.block) : Rd (w.setCell a u) g p := h.of_same fun k hk => Below.heap_setCell w a u k (by omega)
theorem gset (w : World) (a : Addr) (u : Value) : w.grownBy (w.setCell a u) (some a.block) :=
  ⟨rfl, rfl, rfl, by simp, fun k _ hne => Below.heap_setCell w a u k (by intro e; subst e; exact hne rfl)⟩
theorem gput {w wr : World} {row : Option Nat} (h : w.grownBy wr row) (a : Addr) (u : Value) (ha : w.heap.size ≤ a.block) : w.grownBy (wr.setCell a u) row :=
  ⟨h.os, h.tape, h.output, by simpa using h.size, fun k hk hne => (Below.heap_setCell wr a u k (by omega)).trans (h.block k hk hne)⟩
theorem gbelow {w w' : World} {row : Option Nat} (h : Below w.heap.size w w') : w.grownBy w' row := ⟨h.os, h.tape, h.output, h.size, fun k hk _ => h.block k hk⟩
theorem gtrans {a b c : World} {row : Option Nat} (h : a.grownBy b row) (k : b.grownBy c row) : a.grownBy c row :=
  ⟨k.os.trans h.os, k.tape.trans h.tape, k.output.trans h.output, Nat.le_trans h.size k.size, fun i hi hne => (k.block i (Nat.lt_of_lt_of_le hi h.size) hne).trans (h.block i hi hne)⟩
theorem gdrewN {w w' : World} {row : Option Nat} (h : w.grownBy w' row) (n : Nat) : w.grownBy (w'.drewN n) row := ⟨h.os, h.tape, h.output, h.size, h.block⟩

/-- What pick answers. -/
def PickE (n : Int) (e : Ending) : Prop := ∃ v : Int, e = .returned (.int .i64 v) ∧ 0 ≤ v ∧ (1 ≤ n → v < n) ∧ (n < 1 → v = 0)
theorem PickE.pos {n : Int} {e : Ending} (h : PickE n e) (hn : 1 ≤ n) : ∃ v : Int, e = .returned (.int .i64 v) ∧ 0 ≤ v ∧ v < n := by
  obtain ⟨v, he, h0, h1, _⟩ := h
  exact ⟨v, he, h0, h1 hn⟩

theorem xor_nn (x y : Int) (hx : 0 ≤ x) (hy : 0 ≤ y) (hx1 : x < 9223372036854775808) (hy1 : y < 9223372036854775808) : 0 ≤ bits .xor .i64 x y ∧ bits .xor .i64 x y < 9223372036854775808 := by
  obtain ⟨a, rfl⟩ := Int.eq_ofNat_of_zero_le hx
  obtain ⟨b, rfl⟩ := Int.eq_ofNat_of_zero_le hy
  have h : bits .xor .i64 (a : Int) (b : Int) = ((a ^^^ b : Nat) : Int) := by
    have hl : a ^^^ b < 2 ^ 63 := Nat.xor_lt_two_pow (by omega) (by omega)
    show IntKind.i64.wrap ((BitVec.ofInt 64 (a : Int) ^^^ BitVec.ofInt 64 (b : Int)).toNat : Int) = _
    rw [BitVec.toNat_xor, ofInt_i64 a (by omega), ofInt_i64 b (by omega), IntKind.wrap_i64]
    omega
  rw [h]
  have hl : a ^^^ b < 2 ^ 63 := Nat.xor_lt_two_pow (by omega) (by omega)
  omega

set_option maxRecDepth 100000 in
set_option maxHeartbeats 1000000 in
theorem pick_any (g p : Nat) (n : Int) (w : World) (hR : Rd w g p) (hp : p ≤ 1099511627776) (hn : n ≤ 4611686018427387904) :
    Calls Try.prog 61 #[.pointer (some ⟨g, 0, none⟩), .int .i64 n] w fun e w' => PickE n e ∧ Rd w' g (p + 1) ∧ w.grownBy w' (some g) := by
  obtain ⟨A, lb, cb, f, hb, hl, hc⟩ := hR
  have x0 : w.cell? ⟨g, 0, none⟩ = some (.slice A lb cb) := by rw [hb.cell]; rfl
  have x1 : w.cell? ⟨g, 1, none⟩ = some (.int .i64 (p : Int)) := by rw [hb.cell]; rfl
  have y1 := hb.frozen 1
  have hb2 : Blk (w.setCell ⟨g, 1, none⟩ (.int .i64 ((p : Int) + 1))) g 114 #[.slice A lb cb, .int .i64 ((p : Int) + 1)] := by
    have := hb.set_ 1 (.int .i64 ((p : Int) + 1)); simpa using this
  have x2 : (w.setCell ⟨g, 1, none⟩ (.int .i64 ((p : Int) + 1))).cell? ⟨g, 0, none⟩ = some (.slice A lb cb) := by rw [hb2.cell]; rfl
  have x3 : (w.setCell ⟨g, 1, none⟩ (.int .i64 ((p : Int) + 1))).cell? ⟨g, 1, none⟩ = some (.int .i64 ((p : Int) + 1)) := by rw [hb2.cell]; rfl
  have HG := Lib.hid (gset w ⟨g, 1, none⟩ (.int .i64 ((p : Int) + 1)))
  have HRd : Hid (Rd (w.setCell ⟨g, 1, none⟩ (.int .i64 ((p : Int) + 1))) g (p + 1)) := by
    refine ⟨A, lb, cb, f, by simpa using hb2, hl, fun h0 => ?_⟩
    obtain ⟨b, off, rfl, hlt, hj⟩ := hc h0
    exact ⟨b, off, rfl, hlt, fun j hj' => ⟨(World.cell?_of_block (Below.heap_setCell w ⟨g, 1, none⟩ _ b (Nat.ne_of_lt hlt))).trans (hj j hj').1, (hj j hj').2⟩⟩
  by_cases hn1 : n < 1
  case pos =>
    clear hb hc hb2
    go_enter Try.func61, Try.ntmps61
    go_wp2_with fail
    go_ret
    exact ⟨⟨0, rfl, by omega, fun h => by omega, fun _ => rfl⟩, HRd.out, HG.out⟩
  rcases Nat.eq_zero_or_pos lb with rfl | hlb
  · clear hb hc hb2
    go_enter Try.func61, Try.ntmps61
    go_wp2_with fail
    go_ret
    exact ⟨⟨0, rfl, by omega, fun h => by omega, fun _ => rfl⟩, HRd.out, HG.out⟩
  obtain ⟨b, off, rfl, hlt, hj⟩ := hc hlb
  have hne : b ≠ g := Nat.ne_of_lt hlt
  have hj1 : Hid (∀ j, j < lb → (w.setCell ⟨g, 1, none⟩ (.int .i64 ((p : Int) + 1))).cell? ⟨b, off + j, none⟩ = some (.int .u8 (f j)) ∧ 0 ≤ f j ∧ f j ≤ 255) := fun j hj' => ⟨(World.cell?_of_block (Below.heap_setCell w ⟨g, 1, none⟩ _ b hne)).trans (hj j hj').1, (hj j hj').2⟩
  have hlb0 : ((lb : Int) == 0) = false := by rw [beq_eq_false_iff_ne]; omega
  clear hb hc hb2 hj
  by_cases hpl : p < lb
  case pos =>
    obtain ⟨c0, c1, c2⟩ := hj1.out p hpl
    have hm0 : 0 ≤ f p % n := Int.emod_nonneg _ (by omega)
    have hm1 : f p % n < n := Int.emod_lt_of_pos _ (by omega)
    go_enter Try.func61, Try.ntmps61
    go_wp2_with fail
    go_ret
    exact ⟨⟨f p % n, rfl, hm0, fun _ => hm1, fun h => by omega⟩, HRd.out, HG.out⟩
  have hk1 : p % lb < lb := Nat.mod_lt _ hlb
  have hk2 : (p * 7 + 3) % lb < lb := Nat.mod_lt _ hlb
  obtain ⟨c0, c1, c2⟩ := hj1.out _ hk1
  obtain ⟨d0, d1, d2⟩ := hj1.out _ hk2
  have hk3 : p / lb ≤ p := Nat.div_le_self _ _
  have q1 : Int.tmod (p : Int) (lb : Int) = ((p % lb : Nat) : Int) := by rw [Int.tmod_eq_emod_of_nonneg (by omega)]; simp
  have q2 : IntKind.i64.wrap ((p : Int) * 7) = (p : Int) * 7 := wrap_eq (by omega) (by omega)
  have q3 : IntKind.i64.wrap ((p : Int) * 7 + 3) = (p : Int) * 7 + 3 := wrap_eq (by omega) (by omega)
  have q4 : Int.tmod ((p : Int) * 7 + 3) (lb : Int) = (((p * 7 + 3) % lb : Nat) : Int) := by rw [Int.tmod_eq_emod_of_nonneg (by omega)]; simp
  have q5 : Int.tdiv (p : Int) (lb : Int) = ((p / lb : Nat) : Int) := by rw [Int.tdiv_eq_ediv_of_nonneg (by omega)]; simp
  obtain ⟨m1, hm1⟩ : ∃ m, m = p % lb := ⟨_, rfl⟩
  obtain ⟨m2, hm2⟩ : ∃ m, m = (p * 7 + 3) % lb := ⟨_, rfl⟩
  obtain ⟨m3, hm3⟩ : ∃ m, m = p / lb := ⟨_, rfl⟩
  rw [← hm1] at q1 c0 c1 c2 hk1
  rw [← hm2] at q4 d0 d1 d2 hk2
  rw [← hm3] at q5 hk3
  clear hm1 hm2 hm3
  generalize f m1 = u1 at *
  generalize f m2 = u2 at *
  have q6 : IntKind.i64.wrap (u1 * 131) = u1 * 131 := wrap_eq (by omega) (by omega)
  have q7 : IntKind.i64.wrap (u2 * 1117) = u2 * 1117 := wrap_eq (by omega) (by omega)
  have q8 : IntKind.i64.wrap ((p : Int) * 29) = (p : Int) * 29 := wrap_eq (by omega) (by omega)
  have q9 : IntKind.i64.wrap ((m3 : Int) * 53) = (m3 : Int) * 53 := wrap_eq (by omega) (by omega)
  have qa : IntKind.i64.wrap (u1 * 131 + u2 * 1117) = u1 * 131 + u2 * 1117 := wrap_eq (by omega) (by omega)
  have qb : IntKind.i64.wrap (u1 * 131 + u2 * 1117 + (p : Int) * 29) = u1 * 131 + u2 * 1117 + (p : Int) * 29 := wrap_eq (by omega) (by omega)
  have qc : IntKind.i64.wrap (u1 * 131 + u2 * 1117 + (p : Int) * 29 + (m3 : Int) * 53) = u1 * 131 + u2 * 1117 + (p : Int) * 29 + (m3 : Int) * 53 := wrap_eq (by omega) (by omega)
  have qd : IntKind.i64.wrap (m3 : Int) = (m3 : Int) := wrap_eq (by omega) (by omega)
  have hs : 0 ≤ u1 * 131 + u2 * 1117 + (p : Int) * 29 + (m3 : Int) * 53 ∧ u1 * 131 + u2 * 1117 + (p : Int) * 29 + (m3 : Int) * 53 < 9223372036854775808 := by omega
  have HS := Lib.hid hs
  clear hs
  go_enter Try.func61, Try.ntmps61
  go_wp2_with fail
  go_quiet (fail)
  clear q1 q2 q3 q4 q5 q6 q7 q8 q9 qa qb qc qd
  generalize u1 * 131 + u2 * 1117 + (p : Int) * 29 + (m3 : Int) * 53 = z at *
  obtain ⟨hs0, hs1⟩ := HS.out
  have hx := xor_nn z (z / 64) hs0 (by omega) hs1 (by omega)
  obtain ⟨hx0, hx1⟩ := hx
  have hm0 : 0 ≤ bits .xor .i64 z (z / 64) % n := Int.emod_nonneg _ (by omega)
  have hm1 : bits .xor .i64 z (z / 64) % n < n := Int.emod_lt_of_pos _ (by omega)
  go_wp2_with fail
  go_ret
  exact ⟨⟨_, rfl, hm0, fun _ => hm1, fun h => by omega⟩, HRd.out.below (below_drewN (Below.refl _ _) _), gdrewN HG.out _⟩

end Go.Proofs.Ytffefegjnbfobaa
namespace Go.Proofs.Ytffefegjnbfobaa
open Go.RowKit
open B

/-- The slice at A holds n bytes. -/
def BAt (w : World) (A : Option Addr) (n : Nat) : Prop := 0 < n → ∃ b off, A = some ⟨b, off, none⟩ ∧ b < w.heap.size ∧ ∃ f : Nat → Int, ∀ j, j < n → w.cell? ⟨b, off + j, none⟩ = some (.int .u8 (f j)) ∧ 0 ≤ f j ∧ f j ≤ 255
theorem BAt.below {w w' : World} {A : Option Addr} {n : Nat} (h : BAt w A n) (hb : Below w.heap.size w w') : BAt w' A n := fun h0 => by
  obtain ⟨b, off, rfl, hlt, f, hj⟩ := h h0
  exact ⟨b, off, rfl, Nat.lt_of_lt_of_le hlt hb.size, f, fun j hj' => ⟨(hb.cell (p := ⟨b, _, none⟩) hlt).trans (hj j hj').1, (hj j hj').2⟩⟩

/-- The slice at A holds the n bytes of f. -/
def BAtF (w : World) (A : Option Addr) (n : Nat) (f : Nat → Int) : Prop := 0 < n → ∃ b off, A = some ⟨b, off, none⟩ ∧ b < w.heap.size ∧ ∀ j, j < n → w.cell? ⟨b, off + j, none⟩ = some (.int .u8 (f j)) ∧ 0 ≤ f j ∧ f j ≤ 255
theorem BAt.f {w : World} {A : Option Addr} {n : Nat} (h : BAt w A n) : ∃ f, BAtF w A n f := by
  rcases Nat.eq_zero_or_pos n with h0 | h0
  · exact ⟨fun _ => 0, fun h => by omega⟩
  · obtain ⟨b, off, hA, hb, f, hf⟩ := h h0
    exact ⟨f, fun _ => ⟨b, off, hA, hb, hf⟩⟩
theorem BAtF.bat {w : World} {A : Option Addr} {n : Nat} {f : Nat → Int} (h : BAtF w A n f) : BAt w A n := fun h0 => by
  obtain ⟨b, off, hA, hb, hf⟩ := h h0
  exact ⟨b, off, hA, hb, f, hf⟩
theorem BAtF.below {w w' : World} {A : Option Addr} {n : Nat} {f : Nat → Int} (h : BAtF w A n f) (hb : Below w.heap.size w w') : BAtF w' A n f := fun h0 => by
  obtain ⟨b, off, rfl, hlt, hj⟩ := h h0
  exact ⟨b, off, rfl, Nat.lt_of_lt_of_le hlt hb.size, fun j hj' => ⟨(hb.cell (p := ⟨b, _, none⟩) hlt).trans (hj j hj').1, (hj j hj').2⟩⟩

set_option maxRecDepth 100000 in
set_option maxHeartbeats 400000 in
theorem open_any (A : Option Addr) (n cap : Nat) (w : World) (hA : BAt w A n) (hn : n ≤ cap) (hc : cap ≤ maxLen) :
    Calls Try.prog 59 #[.slice A n cap] w fun e w' => e = .returned (.pointer (some ⟨w.heap.size, 0, none⟩)) ∧ Rd w' w.heap.size 0 ∧ Below w.heap.size w w' := by
  unfold maxLen at hc
  have hb : ∀ cs : Array Value, Hid (Below w.heap.size w (w.alloc (.cells cs 114))) := fun cs => (Below.refl _ _).alloc (Nat.le_refl _) _
  have hr : ∀ (m c : Nat), m ≤ n → m ≤ 2000 → Hid (Rd (w.alloc (.cells #[.slice A m c, .int .i64 0] 114)) w.heap.size 0) := fun m c hm h2 => by
    refine ⟨A, m, c, ?_⟩
    rcases Nat.eq_zero_or_pos m with rfl | h0
    · exact ⟨fun _ => 0, Blk.new _ _ _, h2, fun h => absurd h (by omega)⟩
    · obtain ⟨b, off, rfl, hlt, f, hj⟩ := hA (by omega)
      exact ⟨f, Blk.new _ _ _, h2, fun _ => ⟨b, off, rfl, hlt, fun j hj' => ⟨(hb #[.slice (some ⟨b, off, none⟩) m c, .int .i64 0]).out.cell (p := ⟨b, _, none⟩) hlt |>.trans (hj j (by omega)).1, (hj j (by omega)).2⟩⟩⟩
  have HB := Lib.hid hb
  by_cases h2 : 2000 < n
  · have hn0 : 0 < n := by omega
    obtain ⟨b, off, rfl, hlt, f, hj⟩ := hA hn0
    have HR := Lib.hid (hr 2000 cap (by omega) (by omega)).out
    clear hr hb hj hA
    go_enter Try.func59, Try.ntmps59
    go_wp2_with fail
    go_ret
    exact ⟨rfl, HR.out, (HB.out _).out⟩
  · have HR := Lib.hid (hr n cap (by omega) (by omega)).out
    clear hr hb hA
    go_enter Try.func59, Try.ntmps59
    go_wp2_with fail
    go_ret
    exact ⟨rfl, HR.out, (HB.out _).out⟩

/-- l17Some -/
theorem some_is (n : Int) (w : World) : Calls Try.prog 110 #[.int .i64 n] w fun e w' => e = .returned (.int .i64 (if n < 1 then 1 else n)) ∧ w = w' := by
  by_cases h : n < 1
  · rw [if_pos h]
    go_enter Try.func110, Try.ntmps110
    go_wp2_with fail
    go_ret
    exact ⟨rfl, rfl⟩
  · rw [if_neg h]
    go_enter Try.func110, Try.ntmps110
    go_wp2_with fail
    go_ret
    exact ⟨rfl, rfl⟩

/-- An answer within bounds. -/
def In (a b : Int) (e : Ending) : Prop := ∃ v : Int, e = .returned (.int .i64 v) ∧ a ≤ v ∧ v ≤ b
theorem pick_get (w : World) (c : Nat) (v : Int) (hv0 : 0 ≤ v) (hv1 : v < 5) (h : Blk w c 3 #[.int .i64 0, .int .i64 13, .int .i64 14, .int .i64 (-1), .int .i64 10]) : ∃ x : Int, w.cell? ⟨c, v.toNat, none⟩ = some (.int .i64 x) ∧ -1 ≤ x ∧ x ≤ 14 := by
  rw [h.cell]
  rcases (show v = 0 ∨ v = 1 ∨ v = 2 ∨ v = 3 ∨ v = 4 by omega) with rfl | rfl | rfl | rfl | rfl
  · exact ⟨0, rfl, by omega, by omega⟩
  · exact ⟨13, rfl, by omega, by omega⟩
  · exact ⟨14, rfl, by omega, by omega⟩
  · exact ⟨-1, rfl, by omega, by omega⟩
  · exact ⟨10, rfl, by omega, by omega⟩

set_option maxRecDepth 100000 in
set_option maxHeartbeats 400000 in
theorem vars_any (g p : Nat) (w : World) (hR : Rd w g p) (hp : p ≤ 1099511627000) :
    Calls Try.prog 60 #[.pointer (some ⟨g, 0, none⟩)] w fun e w' => In (-1) 14 e ∧ (∃ q, q ≤ p + 2 ∧ Rd w' g q) ∧ w.grownBy w' (some g) := by
  have HR := Lib.hid hR
  have hgl := hR.lt
  clear hR
  go_enter Try.func60, Try.ntmps60
  go_wp2_with (first
    | (go_at_call 61; (with_reducible refine (pick_any g p 24 _ (by exact HR.out) (by omega) (by omega)).mono ?_); rintro e w1 ⟨hv, hR1, hG1⟩; obtain ⟨v, rfl, hv0, hv1⟩ := hv.pos (by omega); have HR1 := Lib.hid hR1; have HG1 := Lib.hid hG1; have hgl1 := hR1.lt; clear hv hR1 hG1)
    | (go_at_call 61; (with_reducible refine (pick_any g (p + 1) 5 _ (by exact HR1.out.alloc _) (by omega) (by omega)).mono ?_); rintro e w2 ⟨hv, hR2, hG2⟩; obtain ⟨u, rfl, hu0, hu1⟩ := hv.pos (by omega); have HR2 := Lib.hid hR2; have HG2 := Lib.hid hG2; obtain ⟨x, hx, hx0, hx1⟩ := pick_get w2 w1.heap.size u hu0 hu1 ((Blk.new w1 _ _).grown hG2 (by simp; omega)); clear hv hR2 hG2)
    | (go_at_call 61; (with_reducible refine (pick_any g (p + 1) 6 _ (by exact HR1.out) (by omega) (by omega)).mono ?_); rintro e w2 ⟨hv, hR2, hG2⟩; obtain ⟨u, rfl, hu0, hu1⟩ := hv.pos (by omega); have HR2 := Lib.hid hR2; have HG2 := Lib.hid hG2; clear hv hR2 hG2))
  · go_ret
    exact ⟨⟨x, rfl, hx0, hx1⟩, ⟨_, Nat.le_refl _, HR2.out⟩, HG1.out.trans ((World.grownBy_alloc _ _ _).trans HG2.out)⟩
  · go_ret
    exact ⟨⟨_, rfl, by omega, by omega⟩, ⟨_, Nat.le_refl _, HR2.out⟩, HG1.out.trans HG2.out⟩

end Go.Proofs.Ytffefegjnbfobaa
