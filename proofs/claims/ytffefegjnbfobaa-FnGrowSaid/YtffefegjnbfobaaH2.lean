/- The reader of draws: l17Open, l17Some, vars, l1Ones, walked. -/
import Derived.Test.YtffefegjnbfobaaH
import Derived.Test.YtffefegjnbfobaaS3
import Derived.OwnWalk
import Derived.Maps.AppendAt
namespace Go.Proofs.Ytffefegjnbfobaa
open Go.RowKit
open B

/-- The slice at A holds n bytes. -/
def BAt (w : World) (A : Option Addr) (n : Nat) : Prop := 0 < n → ∃ b off, A = some ⟨b, off, none⟩ ∧ b < w.heap.size ∧ ∃ f : Nat → Int, ∀ j, j < n → w.cell? ⟨b, off + j, none⟩ = some (.int .u8 (f j)) ∧ 0 ≤ f j ∧ f j ≤ 255
theorem BAt.below {w w' : World} {A : Option Addr} {n : Nat} (h : BAt w A n) (hb : Below w.heap.size w w') : BAt w' A n := fun h0 => by
  obtain ⟨b, off, rfl, hlt, f, hj⟩ := h h0
  exact ⟨b, off, rfl, Nat.lt_of_lt_of_le hlt hb.size, f, fun j hj' => ⟨(hb.cell (p := ⟨b, _, none⟩) hlt).trans (hj j hj').1, (hj j hj').2⟩⟩

set_option maxRecDepth 100000 in
set_option maxHeartbeats 400000 in
theorem open_any (A : Option Addr) (n cap : Nat) (w : World) (hA : BAt w A n) (hn : n ≤ cap) (hc : cap ≤ maxLen) :
    Calls Try.prog 59 #[.slice A n cap] w fun e w' => e = .returned (.pointer (some ⟨w.heap.size, 0, none⟩)) ∧ Rd w' w.heap.size 0 ∧ Below w.heap.size w w' := by
  unfold maxLen at hc
  have hb : ∀ cs : Array Value, Hid (Below w.heap.size w (w.alloc (.cells cs 114))) := fun cs => (Below.refl _ _).alloc (Nat.le_refl _) _
  have hr : ∀ (m c : Nat), m ≤ n → m ≤ 2000 → Hid (Rd (w.alloc (.cells #[.slice A m c, .int .i64 0] 114)) w.heap.size 0) := fun m c hm h2 => by
    refine ⟨A, m, c, ?_⟩
    rcases Nat.eq_zero_or_pos m with rfl | h0
    · exact ⟨fun _ => 0, Blk.new _ _ _, h2, fun h => absurd h (by omega)⟩
    · obtain ⟨b, off, rfl, hlt, f, hj⟩ := hA (by omega)
      exact ⟨f, Blk.new _ _ _, h2, fun _ => ⟨b, off, rfl, hlt, fun j hj' => ⟨(hb #[.slice (some ⟨b, off, none⟩) m c, .int .i64 0]).out.cell (p := ⟨b, _, none⟩) hlt |>.trans (hj j (by omega)).1, (hj j (by omega)).2⟩⟩⟩
  have HB := Lib.hid hb
  by_cases h2 : 2000 < n
  · have hn0 : 0 < n := by omega
    obtain ⟨b, off, rfl, hlt, f, hj⟩ := hA hn0
    have HR := Lib.hid (hr 2000 cap (by omega) (by omega)).out
    clear hr hb hj hA
    go_enter Try.func59, Try.ntmps59
    go_wp2_with fail
    go_ret
    exact ⟨rfl, HR.out, (HB.out _).out⟩
  · have HR := Lib.hid (hr n cap (by omega) (by omega)).out
    clear hr hb hA
    go_enter Try.func59, Try.ntmps59
    go_wp2_with fail
    go_ret
    exact ⟨rfl, HR.out, (HB.out _).out⟩

/-- l17Some -/
theorem some_is (n : Int) (w : World) : Calls Try.prog 110 #[.int .i64 n] w fun e w' => e = .returned (.int .i64 (if n < 1 then 1 else n)) ∧ w = w' := by
  by_cases h : n < 1
  · rw [if_pos h]
    go_enter Try.func110, Try.ntmps110
    go_wp2_with fail
    go_ret
    exact ⟨rfl, rfl⟩
  · rw [if_neg h]
    go_enter Try.func110, Try.ntmps110
    go_wp2_with fail
    go_ret
    exact ⟨rfl, rfl⟩

/-- An answer within bounds. -/
def In (a b : Int) (e : Ending) : Prop := ∃ v : Int, e = .returned (.int .i64 v) ∧ a ≤ v ∧ v ≤ b
theorem pick_get (w : World) (c : Nat) (v : Int) (hv0 : 0 ≤ v) (hv1 : v < 5) (h : Blk w c 3 #[.int .i64 0, .int .i64 13, .int .i64 14, .int .i64 (-1), .int .i64 10]) : ∃ x : Int, w.cell? ⟨c, v.toNat, none⟩ = some (.int .i64 x) ∧ -1 ≤ x ∧ x ≤ 14 := by
  rw [h.cell]
  rcases (show v = 0 ∨ v = 1 ∨ v = 2 ∨ v = 3 ∨ v = 4 by omega) with rfl | rfl | rfl | rfl | rfl
  · exact ⟨0, rfl, by omega, by omega⟩
  · exact ⟨13, rfl, by omega, by omega⟩
  · exact ⟨14, rfl, by omega, by omega⟩
  · exact ⟨-1, rfl, by omega, by omega⟩
  · exact ⟨10, rfl, by omega, by omega⟩

set_option maxRecDepth 100000 in
set_option maxHeartbeats 400000 in
theorem vars_any (g p : Nat) (w : World) (hR : Rd w g p) (hp : p ≤ 1099511627000) :
    Calls Try.prog 60 #[.pointer (some ⟨g, 0, none⟩)] w fun e w' => In (-1) 14 e ∧ (∃ q, q ≤ p + 2 ∧ Rd w' g q) ∧ w.grownBy w' (some g) := by
  have HR := Lib.hid hR
  have hgl := hR.lt
  clear hR
  go_enter Try.func60, Try.ntmps60
  go_wp2_with (first
    | (go_at_call 61; (with_reducible refine (pick_any g p 24 _ (by exact HR.out) (by omega) (by omega)).mono ?_); rintro e w1 ⟨hv, hR1, hG1⟩; obtain ⟨v, rfl, hv0, hv1⟩ := hv.pos (by omega); have HR1 := Lib.hid hR1; have HG1 := Lib.hid hG1; have hgl1 := hR1.lt; clear hv hR1 hG1)
    | (go_at_call 61; (with_reducible refine (pick_any g (p + 1) 5 _ (by exact HR1.out.alloc _) (by omega) (by omega)).mono ?_); rintro e w2 ⟨hv, hR2, hG2⟩; obtain ⟨u, rfl, hu0, hu1⟩ := hv.pos (by omega); have HR2 := Lib.hid hR2; have HG2 := Lib.hid hG2; obtain ⟨x, hx, hx0, hx1⟩ := pick_get w2 w1.heap.size u hu0 hu1 ((Blk.new w1 _ _).grown hG2 (by simp; omega)); clear hv hR2 hG2)
    | (go_at_call 61; (with_reducible refine (pick_any g (p + 1) 6 _ (by exact HR1.out) (by omega) (by omega)).mono ?_); rintro e w2 ⟨hv, hR2, hG2⟩; obtain ⟨u, rfl, hu0, hu1⟩ := hv.pos (by omega); have HR2 := Lib.hid hR2; have HG2 := Lib.hid hG2; clear hv hR2 hG2))
  · go_ret
    exact ⟨⟨x, rfl, hx0, hx1⟩, ⟨_, Nat.le_refl _, HR2.out⟩, HG1.out.trans ((World.grownBy_alloc _ _ _).trans HG2.out)⟩
  · go_ret
    exact ⟨⟨_, rfl, by omega, by omega⟩, ⟨_, Nat.le_refl _, HR2.out⟩, HG1.out.trans HG2.out⟩
end Go.Proofs.Ytffefegjnbfobaa
