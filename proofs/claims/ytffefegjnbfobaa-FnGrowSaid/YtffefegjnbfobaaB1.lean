/- Walks: 'formed'. -/
import Derived.Test.YtffefegjnbfobaaA
namespace Go.Proofs.Ytffefegjnbfobaa
open Go.RowKit
open B

theorem in_is (n lo hi : Int) (b : Bool) (h : decide (lo ≤ n ∧ n ≤ hi) = b) (w : World) : Calls Try.prog 69 #[.int .i64 n, .int .i64 lo, .int .i64 hi] w fun e w' => e = .returned (.bool b) ∧ w = w' := by
  subst h; exact in_any n lo hi w

theorem isVars_is (n : Int) (b : Bool) (h : decide (0 ≤ n ∧ n ≤ 13) = b) (w : World) : Calls Try.prog 62 #[.int .i64 n] w fun e w' => e = .returned (.bool b) ∧ w = w' := by
  go_enter Try.func62, Try.ntmps62
  go_wp2_with (go_at_call 69; refine (in_is _ _ _ b h _).mono ?_; rintro e w' ⟨rfl, rfl⟩)
  go_ret
  exact ⟨rfl, rfl⟩

set_option maxRecDepth 100000 in
set_option maxHeartbeats 400000 in
theorem formed_any (V R : Int) (A : Option Addr) (cap : Nat) (ns : List Nd) (w : World) (hA : NAt w A ns) (hn : ns.length ≤ 1048576) :
    Calls Try.prog 86 #[.agg #[.int .i64 V, .slice A ns.length cap, .int .i64 R]] w fun e w' => Says (Formed V ns R) e ∧ Below w.heap.size w w' := by
  by_cases hV : 0 ≤ V ∧ V ≤ 13
  case neg =>
    have hd : decide (0 ≤ V ∧ V ≤ 13) = false := by simpa using hV
    have hno : Hid (¬ Formed V ns R) := fun h => hV ⟨h.v0, h.v1⟩
    clear hV
    go_enter Try.func86, Try.ntmps86
    go_wp2_with (go_at_call 62; refine (isVars_is _ false hd _).mono ?_; rintro e w' ⟨rfl, rfl⟩)
    go_ret
    exact ⟨.no hno.out, (Below.refl _ _).alloc (Nat.le_refl _) _⟩
  obtain ⟨hV0, hV1⟩ := hV
  have hd : decide (0 ≤ V ∧ V ≤ 13) = true := by simp [hV0, hV1]
  by_cases hlen : ns.length ≤ 600
  case neg =>
    have hno : Hid (¬ Formed V ns R) := fun h => hlen h.len
    have hl : (600 : Int) < ns.length := by omega
    clear hlen
    go_enter Try.func86, Try.ntmps86
    go_wp2_with (go_at_call 62; refine (isVars_is _ true hd _).mono ?_; rintro e w' ⟨rfl, rfl⟩)
    go_ret
    exact ⟨.no hno.out, (Below.refl _ _).alloc (Nat.le_refl _) _⟩
  by_cases hR : 0 ≤ R ∧ R ≤ ns.length + 1
  case neg =>
    have hr : decide (0 ≤ R ∧ R ≤ (ns.length : Int) + 1) = false := by simpa using hR
    have hno : Hid (¬ Formed V ns R) := fun h => hR h.root
    clear hR
    go_enter Try.func86, Try.ntmps86
    go_wp2_with (first | (go_at_call 62; refine (isVars_is _ true hd _).mono ?_; rintro e w' ⟨rfl, rfl⟩) | (go_at_call 69; refine (in_is _ _ _ false hr _).mono ?_; rintro e w' ⟨rfl, rfl⟩))
    go_ret
    exact ⟨.no hno.out, (Below.refl _ _).alloc (Nat.le_refl _) _⟩
  have hr : decide (0 ≤ R ∧ R ≤ (ns.length : Int) + 1) = true := by simpa using hR
  have hl : decide ((600 : Int) < ns.length) = false := by simp; omega
  have HR := Lib.hid hR
  clear hR
  go_enter Try.func86, Try.ntmps86
  go_wp2_with (first | (go_at_call 62; refine (isVars_is _ true hd _).mono ?_; rintro e w' ⟨rfl, rfl⟩) | (go_at_call 69; refine (in_is _ _ _ true hr _).mono ?_; rintro e w' ⟨rfl, rfl⟩))
  clear hd hr
  go_loopw [30] (fun i wr => ∃ k : Nat, k ≤ ns.length ∧ Hid (∀ j n, j < k → ns[j]? = some n → B.Good V.toNat ns j n) ∧ Below w.heap.size w wr ∧ wr.cell? ⟨w.heap.size, 0, none⟩ = some (.int .i64 V) ∧ wr.cell? ⟨w.heap.size, 1, none⟩ = some (.slice A ns.length cap) ∧ w.heap.size < wr.heap.size ∧ i = .int .i64 k) (fun i _ => ns.length - (intOf i).toNat)
  case atStart => exact ⟨0, Nat.zero_le _, fun j n hj => absurd hj (Nat.not_lt_zero _), (Below.refl _ _).alloc (Nat.le_refl _) _, by simp [World.cell?_alloc_at], by simp [World.cell?_alloc_at], by simp, rfl⟩
  case round =>
    obtain ⟨k, hk, hgood, hbw, cV, cN, hsz, rfl⟩ := hrel
    by_cases hlt : k < ns.length
    case neg =>
      obtain rfl : k = ns.length := by omega
      go_wp2
      go_ret
      exact ⟨.yes ⟨hV0, hV1, hlen, HR.out, fun j n hj => hgood.out j n (List.getElem?_eq_some_iff.1 hj).1 hj⟩, hbw⟩
    obtain ⟨b, off, rfl, c1, c2, c3⟩ := hA.get hbw hlt
    have hget : ns[k]? = some ns[k] := List.getElem?_eq_getElem hlt
    generalize ns[k] = n at c1 c2 c3 hget
    have Hget := Lib.hid hget
    clear hget
    have e1 : IntKind.i64.wrap ((k : Int) + 1) = (k : Int) + 1 := wrap_eq (by omega) (by omega)
    by_cases hv : 0 ≤ n.v ∧ n.v ≤ V - 1
    case neg =>
      have d1 : decide (0 ≤ n.v ∧ n.v ≤ V - 1) = false := by simpa using hv
      have hno : Hid (¬ Formed V ns R) := fun h => hv (by have g := h.fm k n Hget.out; have := g.v0; have := g.v1; omega)
      clear hv
      go_wp2_with (go_at_call 69; refine (in_is _ _ _ false d1 _).mono ?_; rintro e w' ⟨rfl, rfl⟩)
      go_ret
      exact ⟨.no hno.out, hbw.alloc (by omega) _⟩
    have d1 : decide (0 ≤ n.v ∧ n.v ≤ V - 1) = true := by simpa using hv
    have Hv := Lib.hid hv
    clear hv
    by_cases hne : n.lo = n.hi
    · have d2 : (n.lo == n.hi) = true := by simpa using hne
      have hno : Hid (¬ Formed V ns R) := fun h => (h.fm k n Hget.out).ne hne
      clear hne
      go_wp2_with (go_at_call 69; refine (in_is _ _ _ true d1 _).mono ?_; rintro e w' ⟨rfl, rfl⟩)
      go_ret
      exact ⟨.no hno.out, hbw.alloc (by omega) _⟩
    have d2 : (n.lo == n.hi) = false := by simpa using hne
    have Hne := Lib.hid hne
    clear hne
    go_wp2_with (go_at_call 69; refine (in_is _ _ _ true d1 _).mono ?_; rintro e w' ⟨rfl, rfl⟩)
    clear d1 d2
    obtain ⟨wo, rfl⟩ : ∃ wo : World, wo = wr := ⟨_, rfl⟩
    go_loopw [55] (fun i wr => ∃ j : Nat, j ≤ 2 ∧ Hid (∀ x, (0 < j ∧ x = n.lo) ∨ (1 < j ∧ x = n.hi) → (0 ≤ x ∧ x ≤ (k : Int) + 1) ∧ (1 < x → n.v < (nd ns x).v)) ∧ Below w.heap.size w wr ∧ wr.cell? ⟨w.heap.size, 0, none⟩ = some (.int .i64 V) ∧ wr.cell? ⟨w.heap.size, 1, none⟩ = some (.slice (some ⟨b, off, none⟩) ns.length cap) ∧
      wr.cell? ⟨wo.heap.size, 0, none⟩ = some (.int .i64 n.v) ∧ wr.cell? ⟨wo.heap.size + 1, 0, none⟩ = some (.int .i64 n.lo) ∧ wr.cell? ⟨wo.heap.size + 1, 1, none⟩ = some (.int .i64 n.hi) ∧ w.heap.size < wr.heap.size ∧ i = .int .i64 j) (fun i _ => 2 - (intOf i).toNat)
    case atStart =>
      exact ⟨0, by omega, fun x h => by rcases h with ⟨h, _⟩ | ⟨h, _⟩ <;> exact absurd h (by omega), (hbw.alloc (by omega) _).alloc (by simp; omega) _, by simp [World.cell?_alloc_past, hsz, cV, Nat.lt_succ_of_lt], by simp [World.cell?_alloc_past, hsz, cN, Nat.lt_succ_of_lt],
        by simp [World.cell?_alloc_past, World.cell?_alloc_at], by simp [World.cell?_alloc_at], by simp [World.cell?_alloc_at], by simp; omega, rfl⟩
    case round =>
      obtain ⟨j, hj, hin, hbi, cV', cN', cv, cl, ch, hsi, rfl⟩ := hrel
      by_cases hj2 : j < 2
      · obtain ⟨x, hx, HX⟩ : ∃ x, wr.cell? ⟨wo.heap.size + 1, j, none⟩ = some (.int .i64 x) ∧ Hid (j = 0 ∧ x = n.lo ∨ j = 1 ∧ x = n.hi) := by
          rcases (show j = 0 ∨ j = 1 by omega) with rfl | rfl
          · exact ⟨_, cl, .inl ⟨rfl, rfl⟩⟩
          · exact ⟨_, ch, .inr ⟨rfl, rfl⟩⟩
        have hgx : Hid (Formed V ns R → (0 ≤ x ∧ x ≤ (k : Int) + 1) ∧ (1 < x → n.v < (nd ns x).v)) := fun h => by
          have g := h.fm k n Hget.out
          rcases HX.out with ⟨_, rfl⟩ | ⟨_, rfl⟩
          · exact ⟨⟨g.lo0, g.lo1⟩, g.lov⟩
          · exact ⟨⟨g.hi0, g.hi1⟩, g.hiv⟩
        have hstep : Hid ((0 ≤ x ∧ x ≤ (k : Int) + 1) ∧ (1 < x → n.v < (nd ns x).v) → ∀ y, (0 < j + 1 ∧ y = n.lo) ∨ (1 < j + 1 ∧ y = n.hi) → (0 ≤ y ∧ y ≤ (k : Int) + 1) ∧ (1 < y → n.v < (nd ns y).v)) := fun h y hy => by
          rcases HX.out with ⟨rfl, rfl⟩ | ⟨rfl, rfl⟩
          · rcases hy with ⟨_, rfl⟩ | ⟨hy, _⟩
            · exact h
            · omega
          · rcases hy with ⟨_, rfl⟩ | ⟨_, rfl⟩
            · exact hin.out _ (.inl ⟨by omega, rfl⟩)
            · exact h
        have CL := Lib.hid cl
        have CH := Lib.hid ch
        clear cl ch
        by_cases hrg : 0 ≤ x ∧ x ≤ (k : Int) + 1
        case neg =>
          have d1 : decide (0 ≤ x ∧ x ≤ (k : Int) + 1) = false := by simpa using hrg
          have hno : Hid (¬ Formed V ns R) := fun h => hrg (hgx.out h).1
          clear hrg
          go_wp2_with fail
          go_quiet ((go_at_call 69; exact quiet_leftN (in_is _ _ _ false d1 _)))
          go_wp2
          go_ret
          exact ⟨.no hno.out, below_drewN hbi _⟩
        have d1 : decide (0 ≤ x ∧ x ≤ (k : Int) + 1) = true := by simpa using hrg
        by_cases h1 : 1 < x
        case neg =>
          have d2 : decide (1 < x) = false := by simpa using h1
          have hok : Hid ((0 ≤ x ∧ x ≤ (k : Int) + 1) ∧ (1 < x → n.v < (nd ns x).v)) := ⟨hrg, fun h => absurd h h1⟩
          clear hrg h1
          go_wp2_with fail
          go_quiet ((go_at_call 69; exact quiet_leftN (in_is _ _ _ true d1 _)))
          go_wp2
          go_roundw
          case rel => exact ⟨j + 1, by omega, hstep.out hok.out, below_drewN hbi _, cV', cN', cv, CL.out, CH.out, hsi, by go_num⟩
          case measure => simp [intOf]; omega
        have d2 : decide (1 < x) = true := by simpa using h1
        have hxl : (x - 2).toNat < ns.length := by omega
        have e2 : IntKind.i64.wrap (x - 2) = x - 2 := wrap_eq (by omega) (by omega)
        have hx0 : 0 ≤ x - 2 := by omega
        have hx1 : x - 2 < (ns.length : Int) := by omega
        obtain ⟨b', off', hE, x1, _⟩ := hA.nd hbi h1 (by omega)
        obtain ⟨rfl, rfl⟩ : b = b' ∧ off = off' := by simpa using hE
        clear hE
        by_cases hvv : (nd ns x).v ≤ n.v
        · have d3 : decide ((nd ns x).v ≤ n.v) = true := by simpa using hvv
          have hno : Hid (¬ Formed V ns R) := fun h => by have := (hgx.out h).2 h1; omega
          clear hrg hvv
          go_wp2_with fail
          go_quiet ((go_at_call 69; exact quiet_leftN (in_is _ _ _ true d1 _)))
          go_wp2
          go_ret
          exact ⟨.no hno.out, below_drewN hbi _⟩
        · have d3 : decide ((nd ns x).v ≤ n.v) = false := by simpa using hvv
          have hok : Hid ((0 ≤ x ∧ x ≤ (k : Int) + 1) ∧ (1 < x → n.v < (nd ns x).v)) := ⟨hrg, fun _ => by omega⟩
          clear hrg hvv
          go_wp2_with fail
          go_quiet ((go_at_call 69; exact quiet_leftN (in_is _ _ _ true d1 _)))
          go_wp2
          go_roundw
          case rel => exact ⟨j + 1, by omega, hstep.out hok.out, below_drewN hbi _, cV', cN', cv, CL.out, CH.out, hsi, by go_num⟩
          case measure => simp [intOf]; omega
      · have H : Hid (B.Good V.toNat ns k n) := by
          have a := hin.out n.lo (.inl ⟨by omega, rfl⟩)
          have c := hin.out n.hi (.inr ⟨by omega, rfl⟩)
          have v := Hv.out
          exact ⟨v.1, by omega, Hne.out, a.1.1, a.1.2, c.1.1, c.1.2, a.2, c.2⟩
        go_wp2
        go_roundw
        case rel =>
          refine ⟨k + 1, by omega, fun j' m hj' hm => ?_, hbi, cV', cN', hsi, by go_num⟩
          by_cases e : j' = k
          · subst e
            have := Hget.out.symm.trans hm
            injection this with this
            subst this
            exact H.out
          · exact hgood.out j' m (by omega) hm
        case measure => simp [intOf]; omega
end Go.Proofs.Ytffefegjnbfobaa
