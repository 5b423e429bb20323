/- BddCodes, spec and impl, walked; a diagram's nodes marked. -/
import Derived.Test.YtfcolcemfdnkeaaI
import Derived.Test.YtfcolcemfdnkeaaN0
namespace Go.Proofs.Ytfcolcemfdnkeaa
open Go.RowKit
open B

theorem Cnt.t {p : Prop} {V R : Int} {ns : List Nd} {e : Ending} (h : Cnt p V R ns e) (hp : p) : e = .returned (.int .i64 ((codesF (has ns R) (2 ^ V.toNat)).length : Int)) := by
  rcases h with ⟨_, rfl⟩ | ⟨h, _⟩
  · rfl
  · exact (h hp).elim
theorem Cnt.f {p : Prop} {V R : Int} {ns : List Nd} {e : Ending} (h : Cnt p V R ns e) (hp : ¬ p) : e = .returned (.int .i64 0) := by
  rcases h with ⟨h, _⟩ | ⟨_, rfl⟩
  · exact (hp h).elim
  · rfl

/-- Which numbers BddCodes hands back, and whether. -/
def CdsV (p : Prop) (V R : Int) (ns : List Nd) (l : List Int) (b : Bool) : Prop :=
  (p ∧ (codesF (has ns R) (2 ^ V.toNat)).length ≤ 256 ∧ l = codesF (has ns R) (2 ^ V.toNat) ∧ b = true) ∨ (¬ (p ∧ (codesF (has ns R) (2 ^ V.toNat)).length ≤ 256) ∧ l = [] ∧ b = false)
theorem CdsV.same {p q : Prop} {V R : Int} {ns : List Nd} {l l' : List Int} {b b' : Bool} (h : CdsV p V R ns l b) (h' : CdsV q V R ns l' b') (hpq : p ↔ q) : l = l' ∧ b = b' := by
  rcases h with ⟨hp, hl, rfl, rfl⟩ | ⟨hp, rfl, rfl⟩ <;> rcases h' with ⟨hq, hl', rfl, rfl⟩ | ⟨hq, rfl, rfl⟩
  · exact ⟨rfl, rfl⟩
  · exact (hq ⟨hpq.1 hp, hl⟩).elim
  · exact (hp ⟨hpq.2 hq, hl'⟩).elim
  · exact ⟨rfl, rfl⟩
theorem CdsV.len {p : Prop} {V R : Int} {ns : List Nd} {l : List Int} {b : Bool} (h : CdsV p V R ns l b) : l.length ≤ 256 := by
  rcases h with ⟨_, hl, rfl, _⟩ | ⟨_, rfl, _⟩
  · exact hl
  · simp
def Cds (p : Prop) (V R : Int) (ns : List Nd) (B : Nat) (w' : World) (e : Ending) : Prop :=
  ∃ (l : List Int) (b : Bool) (A : Option Addr) (c : Nat), CdsV p V R ns l b ∧ e = .returned (.tuple #[.slice A l.length c, .bool b]) ∧ w'.ownsRow B 3 1 (.slice A l.length c) l.length (l.map (.int .i64))

set_option maxRecDepth 100000 in
set_option maxHeartbeats 400000 in
theorem implCodes_any (V R : Int) (A : Option Addr) (cap : Nat) (ns : List Nd) (w : World) (hA : NAt w A ns) (hn : ns.length ≤ 1048576) :
    Calls Try.prog 14 #[.agg #[.int .i64 V, .slice A ns.length cap, .int .i64 R]] w fun e w' => Cds (OkI V ns R) V R ns (w.heap.size + 1) w' e ∧ Below w.heap.size w w' := by
  have HA := Lib.hid hA
  clear hA
  by_cases hok : OkI V ns R
  case neg =>
    have HOK := Lib.hid hok
    clear hok
    go_enter Try.func14, Try.ntmps14
    go_wp2_with (go_at_call 40; refine (bddOk_any V R A cap ns _ (by exact HA.out.below ((Below.refl w.heap.size w).alloc (Nat.le_refl _) _)) hn).mono ?_; rintro e w1 ⟨hs, hb1⟩; obtain rfl := hs.f HOK.out; clear hs)
    go_ret2
    exact ⟨⟨[], false, none, 0, .inr ⟨fun h => HOK.out h.1, rfl, rfl⟩, rfl, World.ownsRow_nil _ _ _ _⟩, ((Below.refl w.heap.size w).alloc (Nat.le_refl _) _).trans (hb1.mono (by simp))⟩
  have HOK := Lib.hid hok
  obtain ⟨k, rfl⟩ := Int.eq_ofNat_of_zero_le hok.1.v0
  have hk : k ≤ 13 := by have := hok.1.v1; omega
  have HFM : Hid (Fm k ns) := by have := hok.1.fm; simpa [Hid] using this
  clear hok
  have hlen := codesF_len (has ns R) (2 ^ k)
  have hN' : 2 ^ k ≤ 8192 := Nat.pow_le_pow_right (n := 2) (by omega) hk
  obtain ⟨l, hl⟩ : ∃ l, l = codesF (has ns R) (2 ^ k) := ⟨_, rfl⟩
  have HL := Lib.hid hl
  rw [← hl] at hlen
  have hl13 : l.length ≤ 8192 := by omega
  clear hlen hN' hl
  by_cases hc : 256 < l.length
  · have hc' : (256 : Int) < (l.length : Int) := by omega
    go_enter Try.func14, Try.ntmps14
    go_wp2_with (first
      | (go_at_call 40; refine (bddOk_any k R A cap ns _ (by exact HA.out.below ((Below.refl w.heap.size w).alloc (Nat.le_refl _) _)) hn).mono ?_; rintro e w1 ⟨hs, hb1⟩; obtain rfl := hs.t HOK.out; have BX := Lib.hid ((Blk.new w 31 #[.int .i64 k, .slice A ns.length cap, .int .i64 R]).below hb1 (by simp)); obtain ⟨x0, x1, x2⟩ := BX.out.three; have hbw1 : Below w.heap.size w w1 := ((Below.refl w.heap.size w).alloc (Nat.le_refl _) _).trans (hb1.mono (by simp)); clear hs)
      | (go_at_call 41; refine (codes_any k hk R A cap ns _ (by exact HA.out.below hbw1) hn HFM.out HOK.out.1.root).mono ?_; rw [← HL.out]; rintro e w2 ⟨A2, c2, rfl, ho2, hb2⟩))
    go_ret2
    exact ⟨⟨[], false, none, 0, .inr ⟨fun h => by have := h.2; simp [← HL.out] at this; omega, rfl, rfl⟩, rfl, World.ownsRow_nil _ _ _ _⟩, hbw1.trans (hb2.mono hbw1.size)⟩
  · have hc' : ¬ (256 : Int) < (l.length : Int) := by omega
    go_enter Try.func14, Try.ntmps14
    go_wp2_with (first
      | (go_at_call 40; refine (bddOk_any k R A cap ns _ (by exact HA.out.below ((Below.refl w.heap.size w).alloc (Nat.le_refl _) _)) hn).mono ?_; rintro e w1 ⟨hs, hb1⟩; obtain rfl := hs.t HOK.out; have BX := Lib.hid ((Blk.new w 31 #[.int .i64 k, .slice A ns.length cap, .int .i64 R]).below hb1 (by simp)); obtain ⟨x0, x1, x2⟩ := BX.out.three; have hbw1 : Below w.heap.size w w1 := ((Below.refl w.heap.size w).alloc (Nat.le_refl _) _).trans (hb1.mono (by simp)); have hwx := BX.out.lt; clear hs)
      | (go_at_call 41; refine (codes_any k hk R A cap ns _ (by exact HA.out.below hbw1) hn HFM.out HOK.out.1.root).mono ?_; rw [← HL.out]; rintro e w2 ⟨A2, c2, rfl, ho2, hb2⟩))
    go_ret2
    exact ⟨⟨l, true, A2, c2, .inl ⟨HOK.out, by simp [← HL.out]; omega, by simp [HL.out], rfl⟩, rfl, own_mono ho2 (by omega)⟩, hbw1.trans (hb2.mono hbw1.size)⟩

set_option maxRecDepth 100000 in
set_option maxHeartbeats 800000 in
theorem specCodes_any (V R : Int) (A : Option Addr) (cap : Nat) (ns : List Nd) (w : World) (hA : NAt w A ns) (hn : ns.length ≤ 1048576) :
    Calls Try.prog 12 #[.agg #[.int .i64 V, .slice A ns.length cap, .int .i64 R]] w fun e w' => Cds (OkS V ns R) V R ns (w.heap.size + 1) w' e ∧ Below w.heap.size w w' := by
  have HA := Lib.hid hA
  clear hA
  by_cases hok : OkS V ns R
  case neg =>
    have HOK := Lib.hid hok
    clear hok
    go_enter Try.func12, Try.ntmps12
    go_wp2_with (first
      | (go_at_call 36; refine (specCount_any V R A cap ns _ (by exact HA.out.below ((Below.refl w.heap.size w).alloc (Nat.le_refl _) _)) hn).mono ?_; rintro e w1 ⟨hs, hb1⟩; obtain rfl := hs.f HOK.out; have BX := Lib.hid ((Blk.new w 31 #[.int .i64 V, .slice A ns.length cap, .int .i64 R]).below hb1 (by simp)); obtain ⟨x0, x1, x2⟩ := BX.out.three; have hbw1 : Below w.heap.size w w1 := ((Below.refl w.heap.size w).alloc (Nat.le_refl _) _).trans (hb1.mono (by simp)); clear hs)
      | (go_at_call 37; refine (specOk_any V R A cap ns _ (by exact HA.out.below hbw1) hn).mono ?_; rintro e w2 ⟨hs, hb2⟩; obtain rfl := hs.f HOK.out; clear hs))
    go_ret2
    exact ⟨⟨[], false, none, 0, .inr ⟨fun h => HOK.out h.1, rfl, rfl⟩, rfl, World.ownsRow_nil _ _ _ _⟩, hbw1.trans (hb2.mono hbw1.size)⟩
  have HOK := Lib.hid hok
  obtain ⟨k, rfl⟩ := Int.eq_ofNat_of_zero_le hok.1.v0
  have hk : k ≤ 13 := by have := hok.1.v1; omega
  have HFM : Hid (Fm k ns) := by have := hok.1.fm; simpa [Hid] using this
  clear hok
  have hlen := codesF_len (has ns R) (2 ^ k)
  have hN' : 2 ^ k ≤ 8192 := Nat.pow_le_pow_right (n := 2) (by omega) hk
  obtain ⟨ll, hl⟩ : ∃ ll, ll = (codesF (has ns R) (2 ^ k)).length := ⟨_, rfl⟩
  have HL := Lib.hid hl
  rw [← hl] at hlen
  have hl13 : ll ≤ 8192 := by omega
  clear hlen hN' hl
  have HLk : Hid ((codesF (has ns R) (2 ^ ((k : Int)).toNat)).length = ll) := by have := HL.out; simp [Hid, this]
  by_cases hc : 256 < ll
  · have hc' : (256 : Int) < (ll : Int) := by omega
    go_enter Try.func12, Try.ntmps12
    go_wp2_with (go_at_call 36; refine (specCount_any k R A cap ns _ (by exact HA.out.below ((Below.refl w.heap.size w).alloc (Nat.le_refl _) _)) hn).mono ?_; rintro e w1 ⟨hs, hb1⟩; obtain rfl := hs.t HOK.out; rw [HLk.out]; have hbw1 : Below w.heap.size w w1 := ((Below.refl w.heap.size w).alloc (Nat.le_refl _) _).trans (hb1.mono (by simp)); clear hs)
    go_ret2
    exact ⟨⟨[], false, none, 0, .inr ⟨fun h => by have := h.2; rw [HLk.out] at this; omega, rfl, rfl⟩, rfl, World.ownsRow_nil _ _ _ _⟩, hbw1⟩
  have hc' : ¬ (256 : Int) < (ll : Int) := by omega
  obtain ⟨N, hN⟩ : ∃ N, N = 2 ^ k := ⟨_, rfl⟩
  have hN' : N ≤ 8192 := by rw [hN]; exact Nat.pow_le_pow_right (by omega) hk
  have hNI : ((2 : Int) ^ k) = (N : Int) := by rw [hN]; simp
  have HNK := Lib.hid hN
  clear hN
  have HN1 : Hid (wrap64 (2 ^ k) = (N : Int)) := by
    show wrap64 (2 ^ k) = (N : Int)
    rw [hNI]; unfold wrap64; omega
  clear hNI
  go_enter Try.func12, Try.ntmps12
  go_wp2_with (first
    | (go_at_call 36; refine (specCount_any k R A cap ns _ (by exact HA.out.below ((Below.refl w.heap.size w).alloc (Nat.le_refl _) _)) hn).mono ?_; rintro e w1 ⟨hs, hb1⟩; obtain rfl := hs.t HOK.out; rw [HLk.out]; have BX := Lib.hid ((Blk.new w 31 #[.int .i64 k, .slice A ns.length cap, .int .i64 R]).below hb1 (by simp)); obtain ⟨x0, x1, x2⟩ := BX.out.three; have hbw1 : Below w.heap.size w w1 := ((Below.refl w.heap.size w).alloc (Nat.le_refl _) _).trans (hb1.mono (by simp)); clear hs)
    | (go_at_call 37; refine (specOk_any k R A cap ns _ (by exact HA.out.below hbw1) hn).mono ?_; rintro e w2 ⟨hs, hb2⟩; obtain rfl := hs.t HOK.out; have BX2 := Lib.hid (BX.out.below hb2 BX.out.lt); have hbw2 : Below w.heap.size w w2 := hbw1.trans (hb2.mono hbw1.size); clear hs))
  clear x0 x1 x2
  have hwx := BX2.out.lt
  go_loopw [4, 5] (fun o j wr => ∃ (i : Nat) (A' : Option Addr) (c' : Nat), i ≤ N ∧ o = .slice A' (codesF (has ns R) i).length c' ∧ Hid (wr.ownsRow (w.heap.size + 1) 3 1 (.slice A' (codesF (has ns R) i).length c') (codesF (has ns R) i).length ((codesF (has ns R) i).map (.int .i64))) ∧ Below w.heap.size w wr ∧ Hid (Blk wr w.heap.size 31 #[.int .i64 k, .slice A ns.length cap, .int .i64 R]) ∧ j = .int .i64 i) (fun _ j _ => N - (intOf j).toNat)
  case atStart => exact ⟨0, none, 0, Nat.zero_le _, rfl, World.ownsRow_nil _ _ _ _, hbw2, BX2, rfl⟩
  case round =>
    obtain ⟨i, A', c', hi, rfl, ho, hbw, hbx, rfl⟩ := hrel
    obtain ⟨x0, x1, x2⟩ := hbx.out.three
    have e1 := HN1.out
    by_cases hlt : i < N
    case neg =>
      obtain rfl : i = N := by omega
      have hlt' : ¬ (i : Int) < (i : Int) := by omega
      go_wp2_with fail
      go_ret2
      exact ⟨⟨_, true, A', c', .inl ⟨HOK.out, by rw [HLk.out]; omega, by have := HNK.out; simp [this], rfl⟩, rfl, ho.out⟩, hbw⟩
    have hlen := codesF_len (has ns R) i
    have hlt' : (i : Int) < (N : Int) := by omega
    have e2 : IntKind.i64.wrap ((i : Int) + 1) = (i : Int) + 1 := wrap_eq (by omega) (by omega)
    cases hh : has ns R i with
    | false =>
      have Hnx := Lib.hid (codesF_no hh)
      have HH := Lib.hid hh
      clear hh
      generalize hl : codesF (has ns R) i = l at *
      go_wp2_with (go_at_call 38; refine (l7Has_any k R A cap k ns i _ (by exact HA.out.below hbw) HFM.out hk HOK.out.1.root hn).mono ?_; rw [HH.out]; rintro e w3 ⟨rfl, hb3⟩)
      go_roundw
      case rel => exact ⟨i + 1, A', c', by omega, by rw [Hnx.out], by rw [Hnx.out]; exact own_below ho.out hb3, hbw.trans (hb3.mono hbw.size), hbx.out.below hb3 hbx.out.lt, by go_num⟩
      case measure => simp [intOf]; omega
    | true =>
      have Hnx := Lib.hid (codesF_yes hh)
      have HH := Lib.hid hh
      clear hh
      generalize hl : codesF (has ns R) i = l at *
      obtain ⟨i3, hi3, hz0, hz1, hz2⟩ := info_parts info3
      have Hi := Lib.hid hi3
      have Hz0 := Lib.hid hz0
      have Hz1 := Lib.hid hz1
      have Hz2 := Lib.hid hz2
      clear hi3 hz0 hz1 hz2
      go_wp2_with (first
        | (go_at_call 38; refine (l7Has_any k R A cap k ns i _ (by exact HA.out.below hbw) HFM.out hk HOK.out.1.root hn).mono ?_; rw [HH.out]; rintro e w3 ⟨rfl, hb3⟩)
        | (at_builtin; refine wpList_append_src rfl _ _ 26 rfl (w.heap.size + 1) 3 i3 (.int .i64 0) 1 8 Try.underlying26 Hi.out Hz0.out Hz1.out Hz2.out rfl (by decide) _ l.length (l.map (.int .i64)) rfl (by exact (own_below ho.out hb3).alloc _) (some ⟨w3.heap.size, 0, none⟩) 1 1 [.int .i64 i] rfl (by exact .inr ⟨_, rfl, Blk.news (Blk.new_at _ 3 #[.int .i64 i] rfl)⟩) rfl (by simp [Value.oneCell']) (by unfold maxLen; omega) (by omega) (by have := hb3.size; have := hbw.size; have := hbx.out.lt; simp; omega) ?_; intro A3 c3 w4 ho4 hg4 hor4))
      go_roundw
      case rel =>
        have hlow : ∀ q, q < w.heap.size + 1 → some q ≠ (Value.slice A' l.length c').ownBlock := fun q hq => own_low ho.out hq
        have hsz3 := hb3.size
        have hszr := hbw.size
        refine ⟨i + 1, A3, c3, by omega, by rw [Hnx.out]; simp, ?_, ?_, ?_, by go_num⟩
        · show w4.ownsRow _ _ _ _ _ _
          rw [Hnx.out]
          simpa using ho4
        · refine ((hbw.trans (hb3.mono hbw.size)).alloc (by omega) _).grown hg4 (by simp; omega) fun q hq => ?_
          rcases Nat.lt_or_ge q w.heap.size with h | h
          · exact (hlow q (by omega) hq.symm).elim
          · exact h
        · exact ((hbx.out.below hb3 hbx.out.lt).alloc _).grown hg4 (hlow _ (by omega))
      case measure => simp [intOf]; omega
end Go.Proofs.Ytfcolcemfdnkeaa
