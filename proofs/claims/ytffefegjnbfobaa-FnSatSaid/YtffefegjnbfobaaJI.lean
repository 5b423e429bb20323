/- The numbers of a set: words; BddCodes of the program, walked. -/
import Derived.Test.YtffefegjnbfobaaK
namespace Go.Proofs.Ytffefegjnbfobaa
open Go.RowKit
open B

theorem Cnt.t {p : Prop} {V R : Int} {ns : List Nd} {e : Ending} (h : Cnt p V R ns e) (hp : p) : e = .returned (.int .i64 ((codesF (has ns R) (2 ^ V.toNat)).length : Int)) := by
  rcases h with ⟨_, rfl⟩ | ⟨h, _⟩
  · rfl
  · exact (h hp).elim
theorem Cnt.f {p : Prop} {V R : Int} {ns : List Nd} {e : Ending} (h : Cnt p V R ns e) (hp : ¬ p) : e = .returned (.int .i64 0) := by
  rcases h with ⟨h, _⟩ | ⟨_, rfl⟩
  · exact (hp h).elim
  · rfl

/-- Which numbers BddCodes hands back, and whether. -/
def CdsV (p : Prop) (V R : Int) (ns : List Nd) (l : List Int) (b : Bool) : Prop :=
  (p ∧ (codesF (has ns R) (2 ^ V.toNat)).length ≤ 256 ∧ l = codesF (has ns R) (2 ^ V.toNat) ∧ b = true) ∨ (¬ (p ∧ (codesF (has ns R) (2 ^ V.toNat)).length ≤ 256) ∧ l = [] ∧ b = false)
theorem CdsV.same {p q : Prop} {V R : Int} {ns : List Nd} {l l' : List Int} {b b' : Bool} (h : CdsV p V R ns l b) (h' : CdsV q V R ns l' b') (hpq : p ↔ q) : l = l' ∧ b = b' := by
  rcases h with ⟨hp, hl, rfl, rfl⟩ | ⟨hp, rfl, rfl⟩ <;> rcases h' with ⟨hq, hl', rfl, rfl⟩ | ⟨hq, rfl, rfl⟩
  · exact ⟨rfl, rfl⟩
  · exact (hq ⟨hpq.1 hp, hl⟩).elim
  · exact (hp ⟨hpq.2 hq, hl'⟩).elim
  · exact ⟨rfl, rfl⟩
theorem CdsV.len {p : Prop} {V R : Int} {ns : List Nd} {l : List Int} {b : Bool} (h : CdsV p V R ns l b) : l.length ≤ 256 := by
  rcases h with ⟨_, hl, rfl, _⟩ | ⟨_, rfl, _⟩
  · exact hl
  · simp
def Cds (p : Prop) (V R : Int) (ns : List Nd) (B : Nat) (w' : World) (e : Ending) : Prop :=
  ∃ (l : List Int) (b : Bool) (A : Option Addr) (c : Nat), CdsV p V R ns l b ∧ e = .returned (.tuple #[.slice A l.length c, .bool b]) ∧ w'.ownsRow B 3 1 (.slice A l.length c) l.length (l.map (.int .i64))

end Go.Proofs.Ytffefegjnbfobaa
namespace Go.Proofs.Ytffefegjnbfobaa
open Go.RowKit
open B

set_option maxRecDepth 100000 in
set_option maxHeartbeats 400000 in
theorem implCodes_any (V R : Int) (A : Option Addr) (cap : Nat) (ns : List Nd) (w : World) (hA : NAt w A ns) (hn : ns.length ≤ 1048576) :
    Calls Try.prog 16 #[.agg #[.int .i64 V, .slice A ns.length cap, .int .i64 R]] w fun e w' => Cds (OkI V ns R) V R ns (w.heap.size + 1) w' e ∧ Below w.heap.size w w' := by
  have HA := Lib.hid hA
  clear hA
  by_cases hok : OkI V ns R
  case neg =>
    have HOK := Lib.hid hok
    clear hok
    go_enter Try.func16, Try.ntmps16
    go_wp2_with (go_at_call 32; refine (bddOk_any V R A cap ns _ (by exact HA.out.below ((Below.refl w.heap.size w).alloc (Nat.le_refl _) _)) hn).mono ?_; rintro e w1 ⟨hs, hb1⟩; obtain rfl := hs.f HOK.out; clear hs)
    go_ret2
    exact ⟨⟨[], false, none, 0, .inr ⟨fun h => HOK.out h.1, rfl, rfl⟩, rfl, World.ownsRow_nil _ _ _ _⟩, ((Below.refl w.heap.size w).alloc (Nat.le_refl _) _).trans (hb1.mono (by simp))⟩
  have HOK := Lib.hid hok
  obtain ⟨k, rfl⟩ := Int.eq_ofNat_of_zero_le hok.1.v0
  have hk : k ≤ 13 := by have := hok.1.v1; omega
  have HFM : Hid (Fm k ns) := by have := hok.1.fm; simpa [Hid] using this
  clear hok
  have hlen := codesF_len (has ns R) (2 ^ k)
  have hN' : 2 ^ k ≤ 8192 := Nat.pow_le_pow_right (n := 2) (by omega) hk
  obtain ⟨l, hl⟩ : ∃ l, l = codesF (has ns R) (2 ^ k) := ⟨_, rfl⟩
  have HL := Lib.hid hl
  rw [← hl] at hlen
  have hl13 : l.length ≤ 8192 := by omega
  clear hlen hN' hl
  by_cases hc : 256 < l.length
  · have hc' : (256 : Int) < (l.length : Int) := by omega
    go_enter Try.func16, Try.ntmps16
    go_wp2_with (first
      | (go_at_call 32; refine (bddOk_any k R A cap ns _ (by exact HA.out.below ((Below.refl w.heap.size w).alloc (Nat.le_refl _) _)) hn).mono ?_; rintro e w1 ⟨hs, hb1⟩; obtain rfl := hs.t HOK.out; have BX := Lib.hid ((Blk.new w 28 #[.int .i64 k, .slice A ns.length cap, .int .i64 R]).below hb1 (by simp)); obtain ⟨x0, x1, x2⟩ := BX.out.three; have hbw1 : Below w.heap.size w w1 := ((Below.refl w.heap.size w).alloc (Nat.le_refl _) _).trans (hb1.mono (by simp)); clear hs)
      | (go_at_call 68; refine (codes_any k hk R A cap ns _ (by exact HA.out.below hbw1) hn HFM.out HOK.out.1.root).mono ?_; rw [← HL.out]; rintro e w2 ⟨A2, c2, rfl, ho2, hb2⟩))
    go_ret2
    exact ⟨⟨[], false, none, 0, .inr ⟨fun h => by have := h.2; simp [← HL.out] at this; omega, rfl, rfl⟩, rfl, World.ownsRow_nil _ _ _ _⟩, hbw1.trans (hb2.mono hbw1.size)⟩
  · have hc' : ¬ (256 : Int) < (l.length : Int) := by omega
    go_enter Try.func16, Try.ntmps16
    go_wp2_with (first
      | (go_at_call 32; refine (bddOk_any k R A cap ns _ (by exact HA.out.below ((Below.refl w.heap.size w).alloc (Nat.le_refl _) _)) hn).mono ?_; rintro e w1 ⟨hs, hb1⟩; obtain rfl := hs.t HOK.out; have BX := Lib.hid ((Blk.new w 28 #[.int .i64 k, .slice A ns.length cap, .int .i64 R]).below hb1 (by simp)); obtain ⟨x0, x1, x2⟩ := BX.out.three; have hbw1 : Below w.heap.size w w1 := ((Below.refl w.heap.size w).alloc (Nat.le_refl _) _).trans (hb1.mono (by simp)); have hwx := BX.out.lt; clear hs)
      | (go_at_call 68; refine (codes_any k hk R A cap ns _ (by exact HA.out.below hbw1) hn HFM.out HOK.out.1.root).mono ?_; rw [← HL.out]; rintro e w2 ⟨A2, c2, rfl, ho2, hb2⟩))
    go_ret2
    exact ⟨⟨l, true, A2, c2, .inl ⟨HOK.out, by simp [← HL.out]; omega, by simp [HL.out], rfl⟩, rfl, own_mono ho2 (by omega)⟩, hbw1.trans (hb2.mono hbw1.size)⟩

end Go.Proofs.Ytffefegjnbfobaa
