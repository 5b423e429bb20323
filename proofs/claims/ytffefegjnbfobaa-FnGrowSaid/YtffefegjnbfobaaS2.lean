/- Walks of the reference: l7VarOf, BddOk. -/
import Derived.Test.YtffefegjnbfobaaS1
import Derived.Test.YtffefegjnbfobaaE
import Derived.Test.YtffefegjnbfobaaExt
namespace Go.Proofs.Ytffefegjnbfobaa
open Go.RowKit
open B

set_option maxRecDepth 100000 in
set_option maxHeartbeats 400000 in
theorem varOf_any (V R : Int) (A : Option Addr) (cap : Nat) (ns : List Nd) (p : Int) (w : World) (hA : NAt w A ns) (hp : isP ns p) (hn : ns.length ≤ 1048576) (x : Int) (hx : Hid (x = if p < 2 then V else (nd ns p).v)) :
    Calls Try.prog 133 #[.agg #[.int .i64 V, .slice A ns.length cap, .int .i64 R], .int .i64 p] w fun e w' => e = .returned (.int .i64 x) ∧ w.alloc (.cells #[.int .i64 V, .slice A ns.length cap, .int .i64 R] 28) = w' := by
  by_cases h2 : p < 2
  · have hx' := hx.out
    rw [if_pos h2] at hx'
    subst hx'
    clear hx hA
    go_enter Try.func133, Try.ntmps133
    go_wp2_with fail
    go_ret
    exact ⟨rfl, rfl⟩
  · have hx' := hx.out
    rw [if_neg h2] at hx'
    subst hx'
    have hal : Below w.heap.size w (w.alloc (.cells #[.int .i64 V, .slice A ns.length cap, .int .i64 R] 28)) := (Below.refl _ _).alloc (Nat.le_refl _) _
    obtain ⟨nb, noff, rfl, x0, x1, x2⟩ := hA.nd hal (p := p) (by omega) hp.2
    have hp2 := hp.2
    have e2 : IntKind.i64.wrap (p - 2) = p - 2 := wrap_eq (by omega) (by omega)
    have hx0 : 0 ≤ p - 2 := by omega
    have hx1 : p - 2 < (ns.length : Int) := by omega
    clear hx hA hal
    go_enter Try.func133, Try.ntmps133
    go_wp2_with fail
    go_ret
    exact ⟨rfl, rfl⟩

theorem varOf_ext (V R : Int) (A : Option Addr) (cap : Nat) (ns : List Nd) (p : Int) (w : World) (hA : NAt w A ns) (hp : isP ns p) (hn : ns.length ≤ 1048576) (x : Int) (hx : Hid (x = if p < 2 then V else (nd ns p).v)) :
    Calls Try.prog 133 #[.agg #[.int .i64 V, .slice A ns.length cap, .int .i64 R], .int .i64 p] w fun e w' => e = .returned (.int .i64 x) ∧ Below w.heap.size w w' :=
  (varOf_any V R A cap ns p w hA hp hn x hx).mono fun _ _ ⟨he, hw⟩ => ⟨he, by subst hw; exact (Below.refl _ _).alloc (Nat.le_refl _) _⟩

set_option maxRecDepth 100000 in
set_option maxHeartbeats 1000000 in
theorem specOk_any (V R : Int) (A : Option Addr) (cap : Nat) (ns : List Nd) (w : World) (hA : NAt w A ns) (hn : ns.length ≤ 1048576) :
    Calls Try.prog 92 #[.agg #[.int .i64 V, .slice A ns.length cap, .int .i64 R]] w fun e w' => Says (OkS V ns R) e ∧ Below w.heap.size w w' := by
  have HA := Lib.hid hA
  clear hA
  have hb1 : ∀ o : Obj, Below w.heap.size w (w.alloc o) := fun o => (Below.refl _ _).alloc (Nat.le_refl _) _
  have HB1 := Lib.hid hb1
  clear hb1
  by_cases hV : 0 ≤ V ∧ V ≤ 13
  case neg =>
    have hd : decide (0 ≤ V ∧ V ≤ 13) = false := by simpa using hV
    have hno : Hid (¬ OkS V ns R) := fun h => hV ⟨h.1.v0, h.1.v1⟩
    clear hV
    go_enter Try.func92, Try.ntmps92
    go_wp2_with (go_at_call 65; refine (l7Vars_is _ false hd _).mono ?_; rintro e w' ⟨rfl, rfl⟩)
    go_ret
    exact ⟨.no hno.out, HB1.out _⟩
  obtain ⟨hV0, hV1⟩ := hV
  have hd : decide (0 ≤ V ∧ V ≤ 13) = true := by simp [hV0, hV1]
  by_cases hlen : ns.length ≤ 600
  case neg =>
    have hno : Hid (¬ OkS V ns R) := fun h => hlen h.1.len
    have hl : (600 : Int) < ns.length := by omega
    clear hlen
    go_enter Try.func92, Try.ntmps92
    go_wp2_with (go_at_call 65; refine (l7Vars_is _ true hd _).mono ?_; rintro e w' ⟨rfl, rfl⟩)
    go_ret
    exact ⟨.no hno.out, HB1.out _⟩
  have hl : decide ((600 : Int) < ns.length) = false := by simp; omega
  by_cases hR : 0 ≤ R ∧ R ≤ ns.length + 1
  case neg =>
    have hr : decide (0 ≤ R ∧ R ≤ (ns.length : Int) + 1) = false := by simpa using hR
    have hno : Hid (¬ OkS V ns R) := fun h => hR h.1.root
    clear hR
    go_enter Try.func92, Try.ntmps92
    go_wp2_with (first | (go_at_call 65; refine (l7Vars_is _ true hd _).mono ?_; rintro e w' ⟨rfl, rfl⟩) | (go_at_call 66; refine (l1In_is _ _ _ false hr _).mono ?_; rintro e w' ⟨rfl, rfl⟩))
    go_ret
    exact ⟨.no hno.out, HB1.out _⟩
  have hr : decide (0 ≤ R ∧ R ≤ (ns.length : Int) + 1) = true := by simpa using hR
  have HR := Lib.hid hR
  clear hR
  go_enter Try.func92, Try.ntmps92
  go_wp2_with (first | (go_at_call 65; refine (l7Vars_is _ true hd _).mono ?_; rintro e w' ⟨rfl, rfl⟩) | (go_at_call 66; refine (l1In_is _ _ _ true hr _).mono ?_; rintro e w' ⟨rfl, rfl⟩))
  clear hd hr hl
  go_loopw [3] (fun i wr => ∃ k : Nat, k ≤ ns.length ∧ Hid (∀ j n, j < k → ns[j]? = some n → B.Good V.toNat ns j n) ∧ Hid ((ns.take k).Nodup) ∧ Below w.heap.size w wr ∧ Hid (Blk wr w.heap.size 28 #[.int .i64 V, .slice A ns.length cap, .int .i64 R]) ∧ i = .int .i64 k) (fun i _ => ns.length - (intOf i).toNat)
  case atStart => exact ⟨0, Nat.zero_le _, fun j n hj => absurd hj (Nat.not_lt_zero _), by simp [Hid], HB1.out _, Blk.new _ _ _, rfl⟩
  case round =>
    obtain ⟨k, hk, hgood, hnd, hbw, hbox, rfl⟩ := hrel
    have y0 : wr.cell? ⟨w.heap.size, 0, none⟩ = some (.int .i64 V) := by rw [hbox.out.cell]; rfl
    have y1 : wr.cell? ⟨w.heap.size, 1, none⟩ = some (.slice A ns.length cap) := by rw [hbox.out.cell]; rfl
    have y2 : wr.cell? ⟨w.heap.size, 2, none⟩ = some (.int .i64 R) := by rw [hbox.out.cell]; rfl
    have hsz := hbox.out.lt
    by_cases hlt : k < ns.length
    case neg =>
      obtain rfl : k = ns.length := by omega
      have HF : Hid (Fm V.toNat ns) := fun j n h => hgood.out j n (by have := (List.getElem?_eq_some_iff.1 h).1; exact this) h
      have HD : Hid ns.Nodup := by have := hnd.out; rw [List.take_length] at this; exact this
      have HP : Hid (isP ns R) := HR.out
      go_wp2_with (go_at_call 134; refine (order_any wr.heap.size V R A cap V.toNat ns HF.out (by omega) R.toNat R [] none 0 _ (Nat.le_refl _) HP.out (Nat.le_refl _) (by intro W hW; exact HA.out.below (hbw.trans (hW.mono hbw.size))) (by exact Done.nil _) (by exact World.ownsRow_nil _ _ _ _)).mono ?_; rintro e w1 ⟨A', c', rfl, ho, hg, -⟩)
      have hb2 : Below w.heap.size w w1 := hbw.grown hg hbw.size (by intro q hq; simp [Value.ownBlock] at hq)
      have hbox2 := hbox.out.below ((Below.refl wr.heap.size wr).grown hg (Nat.le_refl _) (by intro q hq; simp [Value.ownBlock] at hq)) hsz
      have y1 : w1.cell? ⟨w.heap.size, 1, none⟩ = some (.slice A ns.length cap) := by rw [hbox2.cell]; rfl
      have hol : (ord ns R []).length ≤ ns.length := (Done.ord HF.out HP.out (Done.nil _)).len
      have HO := Lib.hid ho
      have HORD : Hid (∀ l, l = ord ns R [] → (OkS V ns R ↔ l = upto ns.length)) := fun l hl => by
        subst hl
        exact ⟨fun h => h.2.2, fun h => ⟨⟨hV0, hV1, hlen, HR.out, HF.out⟩, HD.out, h⟩⟩
      clear ho hg hbox2
      generalize hl : ord ns R [] = l at *
      have HL := Lib.hid (HORD.out l rfl)
      clear hl HORD y0 y2
      go_loopw [7] (fun i wr => ∃ k : Nat, k ≤ l.length ∧ Hid (l.take k = upto k) ∧ wr = w1 ∧ i = .int .i64 k) (fun i _ => l.length - (intOf i).toNat)
      case atStart => exact ⟨0, Nat.zero_le _, rfl, rfl, rfl⟩
      case round =>
        obtain ⟨k, hk, hpre, rfl, rfl⟩ := hrel
        by_cases hkl : k < l.length
        · obtain ⟨g, rfl, hg, hBg, hc⟩ := own_int HO.out hkl
          have e1 : IntKind.i64.wrap ((k : Int) + 1) = (k : Int) + 1 := wrap_eq (by omega) (by omega)
          have e2 : IntKind.i64.wrap ((k : Int) + 2) = (k : Int) + 2 := wrap_eq (by omega) (by omega)
          have hj1 : (k : Int) < (l.length : Int) := by omega
          by_cases he : l[k] = (k : Int) + 2
          · have Hnx : Hid (l.take (k + 1) = upto (k + 1)) := by
              show l.take (k + 1) = upto (k + 1)
              rw [List.take_add_one, hpre.out, upto_succ, List.getElem?_eq_getElem hkl, he]; rfl
            have d1 : (l[k] == (k : Int) + 2) = true := by simpa using he
            clear he
            generalize l[k] = x at *
            go_wp2_with fail
            go_roundw
            case rel => exact ⟨k + 1, by omega, Hnx, (by first | trivial | rfl), by go_num⟩
            case measure => simp [intOf]; omega
          · have Hno : Hid (¬ OkS V ns R) := fun h => by
              have h' := HL.out.1 h
              apply he
              subst h'
              simp [upto]
            have d1 : (l[k] == (k : Int) + 2) = false := by simpa using he
            clear he
            generalize l[k] = x at *
            go_wp2_with fail
            go_ret
            exact ⟨.no Hno.out, hb2⟩
        · obtain rfl : k = l.length := by omega
          by_cases he : l.length = ns.length
          · have Hyes : Hid (OkS V ns R) := HL.out.2 (by have := hpre.out; rw [List.take_length] at this; rw [← he]; exact this)
            have d1 : ((l.length : Int) == (ns.length : Int)) = true := by simp [he]
            go_wp2_with fail
            go_ret
            exact ⟨.yes Hyes.out, hb2⟩
          · have Hno : Hid (¬ OkS V ns R) := fun h => by
              have h' := HL.out.1 h
              apply he
              rw [h', length_upto]
            have d1 : ((l.length : Int) == (ns.length : Int)) = false := by simp; omega
            go_wp2_with fail
            go_ret
            exact ⟨.no Hno.out, hb2⟩
    obtain ⟨b, off, rfl, c1, c2, c3⟩ := HA.out.get hbw hlt
    have hget : ns[k]? = some ns[k] := List.getElem?_eq_getElem hlt
    generalize hnk : ns[k] = n at c1 c2 c3 hget
    have Hget := Lib.hid hget
    have Hnk := Lib.hid hnk
    clear hget hnk
    have e1 : IntKind.i64.wrap ((k : Int) + 1) = (k : Int) + 1 := wrap_eq (by omega) (by omega)
    have hX : Below w.heap.size w (wr.alloc (.cells #[.int .i64 n.v, .int .i64 n.lo, .int .i64 n.hi] 89)) := hbw.alloc (by omega) _
    have hbX := hbox.out.alloc (.cells #[.int .i64 n.v, .int .i64 n.lo, .int .i64 n.hi] 89)
    have hnX := Blk.new wr 89 #[.int .i64 n.v, .int .i64 n.lo, .int .i64 n.hi]
    have HX := Lib.hid hX
    have HbX := Lib.hid hbX
    have HnX := Lib.hid hnX
    clear hX hbX hnX
    go_wp2_with fail
    have hXs : (wr.alloc (.cells #[.int .i64 n.v, .int .i64 n.lo, .int .i64 n.hi] 89)).heap.size = wr.heap.size + 1 := by simp
    have HXs := Lib.hid hXs
    clear hXs
    generalize wr.alloc (.cells #[.int .i64 n.v, .int .i64 n.lo, .int .i64 n.hi] 89) = X at *
    clear y0 y1 y2 c1 c2 c3
    have e3 : IntKind.i64.wrap (V - 1) = V - 1 := wrap_eq (by omega) (by omega)
    have y0 : X.cell? ⟨w.heap.size, 0, none⟩ = some (.int .i64 V) := by rw [HbX.out.cell]; rfl
    have y1 : X.cell? ⟨w.heap.size, 1, none⟩ = some (.slice (some ⟨b, off, none⟩) ns.length cap) := by rw [HbX.out.cell]; rfl
    have y2 : X.cell? ⟨w.heap.size, 2, none⟩ = some (.int .i64 R) := by rw [HbX.out.cell]; rfl
    have z0 : X.cell? ⟨wr.heap.size, 0, none⟩ = some (.int .i64 n.v) := by rw [HnX.out.cell]; rfl
    have z1 : X.cell? ⟨wr.heap.size, 1, none⟩ = some (.int .i64 n.lo) := by rw [HnX.out.cell]; rfl
    have z2 : X.cell? ⟨wr.heap.size, 2, none⟩ = some (.int .i64 n.hi) := by rw [HnX.out.cell]; rfl
    go_cut [87] (fun s87 wc => ∃ bb, s87 = .bool bb ∧ Hid (bb = false ↔ B.Good V.toNat ns k n) ∧ Below X.heap.size X wc)
    case first =>
      obtain ⟨vl, HVL⟩ : ∃ vl, Hid (vl = if n.lo < 2 then V else (nd ns n.lo).v) := ⟨_, rfl⟩
      obtain ⟨vh, HVH⟩ : ∃ vh, Hid (vh = if n.hi < 2 then V else (nd ns n.hi).v) := ⟨_, rfl⟩
      have K1 := fun x : Ext X => ext_cell y0 (by have := HbX.out.lt; exact this) x
      have K2 := fun x : Ext X => ext_cell y1 (by have := HbX.out.lt; exact this) x
      have K3 := fun x : Ext X => ext_cell y2 (by have := HbX.out.lt; exact this) x
      have K4 := fun x : Ext X => ext_cell z0 (by have := HnX.out.lt; exact this) x
      have K5 := fun x : Ext X => ext_cell z1 (by have := HnX.out.lt; exact this) x
      have K6 := fun x : Ext X => ext_cell z2 (by have := HnX.out.lt; exact this) x
      by_cases p1 : 0 ≤ n.v ∧ n.v ≤ V - 1
      case neg =>
        have d1 : decide (0 ≤ n.v ∧ n.v ≤ V - 1) = false := by simpa using p1
        have hno : Hid (true = false ↔ B.Good V.toNat ns k n) := ⟨fun h => (Bool.noConfusion h), fun g => (p1 (by have := g.v0; have := g.v1; omega)).elim⟩
        clear p1
        go_quiet ((go_at_call 66; exact quiet_leftN (l1In_any _ _ _ _)))
        go_wp2_with fail
        go_meet
        case rel => exact ⟨true, rfl, hno.out, below_drewN (Below.refl _ _) _⟩
      have d1 : decide (0 ≤ n.v ∧ n.v ≤ V - 1) = true := by simpa using p1
      have P1 := Lib.hid p1
      clear p1
      by_cases p2 : n.lo = n.hi
      · have d2 : (n.lo == n.hi) = true := by simpa using p2
        have hno : Hid (true = false ↔ B.Good V.toNat ns k n) := ⟨fun h => (Bool.noConfusion h), fun g => (g.ne p2).elim⟩
        clear p2
        go_quiet ((go_at_call 66; exact quiet_leftN (l1In_any _ _ _ _)))
        go_wp2_with fail
        go_meet
        case rel => exact ⟨true, rfl, hno.out, below_drewN (Below.refl _ _) _⟩
      have d2 : (n.lo == n.hi) = false := by simpa using p2
      have P2 := Lib.hid p2
      clear p2
      by_cases p3 : 0 ≤ n.lo ∧ n.lo ≤ (k : Int) + 1
      case neg =>
        have d3 : decide (0 ≤ n.lo ∧ n.lo ≤ (k : Int) + 1) = false := by simpa using p3
        have hno : Hid (true = false ↔ B.Good V.toNat ns k n) := ⟨fun h => (Bool.noConfusion h), fun g => (p3 ⟨g.lo0, g.lo1⟩).elim⟩
        clear p3
        go_quiet ((go_at_call 66; exact quiet_leftN (l1In_any _ _ _ _)))
        go_wp2_with fail
        go_meet
        case rel => exact ⟨true, rfl, hno.out, below_drewN (Below.refl _ _) _⟩
      have d3 : decide (0 ≤ n.lo ∧ n.lo ≤ (k : Int) + 1) = true := by simpa using p3
      have P3 := Lib.hid p3
      clear p3
      by_cases p4 : 0 ≤ n.hi ∧ n.hi ≤ (k : Int) + 1
      case neg =>
        have d4 : decide (0 ≤ n.hi ∧ n.hi ≤ (k : Int) + 1) = false := by simpa using p4
        have hno : Hid (true = false ↔ B.Good V.toNat ns k n) := ⟨fun h => (Bool.noConfusion h), fun g => (p4 ⟨g.hi0, g.hi1⟩).elim⟩
        clear p4
        go_quiet ((go_at_call 66; exact quiet_leftN (l1In_any _ _ _ _)))
        go_wp2_with fail
        go_meet
        case rel => exact ⟨true, rfl, hno.out, below_drewN (Below.refl _ _) _⟩
      have d4 : decide (0 ≤ n.hi ∧ n.hi ≤ (k : Int) + 1) = true := by simpa using p4
      have P4 := Lib.hid p4
      clear p4
      have hlP : isP ns n.lo := ⟨P3.out.1, by have := P3.out.2; omega⟩
      have hhP : isP ns n.hi := ⟨P4.out.1, by have := P4.out.2; omega⟩
      have hwX : w.heap.size ≤ X.heap.size := HX.out.size
      by_cases p5 : vl ≤ n.v
      · have d5 : decide (vl ≤ n.v) = true := by simpa using p5
        have hno : Hid (true = false ↔ B.Good V.toNat ns k n) := ⟨fun h => (Bool.noConfusion h), fun g => by
          have := HVL.out
          split at this
          · have := g.v1; omega
          · have := g.lov (by omega); omega⟩
        clear p5
        refine wp_region_ext (by kernel_rfl) (by kernel_rfl) ?_
        repeat go_big_quiet_step ((first | (go_at_call 66; exact ext_same _ (l1In_any _ _ _ _)) | (go_at_call 133; with_reducible (exact ext_below _ (varOf_ext V R _ cap ns n.lo _ (HA.out.below (ext_from HX.out hwX _)) hlP hn vl HVL))) | (go_at_call 133; with_reducible (exact ext_below _ (varOf_ext V R _ cap ns n.hi _ (HA.out.below (ext_from HX.out hwX _)) hhP hn vh HVH)))))
        refine wpQuiet_nil ?_
        intro _ hw'
        obtain ⟨x, hw''⟩ := hw'
        subst hw''
        go_wp2_with fail
        go_meet
        case rel => exact ⟨true, rfl, hno.out, x.2⟩
      have d5 : decide (vl ≤ n.v) = false := by simpa using p5
      have P5 := Lib.hid p5
      clear p5
      by_cases p6 : vh ≤ n.v
      · have d6 : decide (vh ≤ n.v) = true := by simpa using p6
        have hno : Hid (true = false ↔ B.Good V.toNat ns k n) := ⟨fun h => (Bool.noConfusion h), fun g => by
          have := HVH.out
          split at this
          · have := g.v1; omega
          · have := g.hiv (by omega); omega⟩
        clear p6
        refine wp_region_ext (by kernel_rfl) (by kernel_rfl) ?_
        repeat go_big_quiet_step ((first | (go_at_call 66; exact ext_same _ (l1In_any _ _ _ _)) | (go_at_call 133; with_reducible (exact ext_below _ (varOf_ext V R _ cap ns n.lo _ (HA.out.below (ext_from HX.out hwX _)) hlP hn vl HVL))) | (go_at_call 133; with_reducible (exact ext_below _ (varOf_ext V R _ cap ns n.hi _ (HA.out.below (ext_from HX.out hwX _)) hhP hn vh HVH)))))
        refine wpQuiet_nil ?_
        intro _ hw'
        obtain ⟨x, hw''⟩ := hw'
        subst hw''
        go_wp2_with fail
        go_meet
        case rel => exact ⟨true, rfl, hno.out, x.2⟩
      · have d6 : decide (vh ≤ n.v) = false := by simpa using p6
        have hok : Hid (B.Good V.toNat ns k n) := ⟨P1.out.1, by have := P1.out.2; omega, P2.out, P3.out.1, P3.out.2, P4.out.1, P4.out.2, fun hl => by have := HVL.out; rw [if_neg (by omega)] at this; have := P5.out; omega, fun hl => by have := HVH.out; rw [if_neg (by omega)] at this; omega⟩
        clear p6
        refine wp_region_ext (by kernel_rfl) (by kernel_rfl) ?_
        repeat go_big_quiet_step ((first | (go_at_call 66; exact ext_same _ (l1In_any _ _ _ _)) | (go_at_call 133; with_reducible (exact ext_below _ (varOf_ext V R _ cap ns n.lo _ (HA.out.below (ext_from HX.out hwX _)) hlP hn vl HVL))) | (go_at_call 133; with_reducible (exact ext_below _ (varOf_ext V R _ cap ns n.hi _ (HA.out.below (ext_from HX.out hwX _)) hhP hn vh HVH)))))
        refine wpQuiet_nil ?_
        intro _ hw'
        obtain ⟨x, hw''⟩ := hw'
        subst hw''
        go_wp2_with fail
        go_meet
        case rel => exact ⟨false, rfl, ⟨fun _ => hok.out, fun _ => rfl⟩, x.2⟩
    case rest =>
      obtain ⟨bb, rfl, Hbb, hbc⟩ := hcut
      have hXw : w.heap.size ≤ X.heap.size := HX.out.size
      cases bb with
      | true =>
        have hno : Hid (¬ OkS V ns R) := fun h => by have := Hbb.out.2 (h.1.fm k n Hget.out); cases this
        clear y0 y1 y2 z0 z1 z2 e1 e3
        go_wp2_with fail
        go_ret
        exact ⟨.no hno.out, HX.out.trans (hbc.mono hXw)⟩
      | false =>
        have hG : Hid (B.Good V.toNat ns k n) := Hbb.out.1 rfl
        clear y0 y1 y2 z0 z1 z2 e1 e3
        obtain ⟨wo, rfl⟩ : ∃ wo : World, wo = wr := ⟨_, rfl⟩
        go_wp2_with fail
        go_loopw [5] (fun i wr => ∃ j : Nat, j ≤ k ∧ Hid (∀ t, t < j → ns[t]? ≠ some n) ∧ Below X.heap.size X wr ∧ i = .int .i64 j) (fun i _ => k - (intOf i).toNat)
        case atStart => exact ⟨0, Nat.zero_le _, fun t ht => absurd ht (Nat.not_lt_zero _), hbc, rfl⟩
        case round =>
          obtain ⟨j, hj, hdiff, hbj, rfl⟩ := hrel
          by_cases hjk : j < k
          case neg =>
            obtain rfl : j = k := by omega
            go_wp2_with fail
            go_roundw
            case rel =>
              refine ⟨j + 1, by omega, fun t m ht hm => ?_, ?_, HX.out.trans (hbj.mono hXw), HbX.out.below hbj HbX.out.lt, by go_num⟩
              · by_cases e : t = j
                · subst e
                  have := Hget.out.symm.trans hm
                  injection this with this
                  subst this
                  exact hG.out
                · exact hgood.out t m (by omega) hm
              · show (ns.take (j + 1)).Nodup
                rw [List.take_add_one, Hget.out, List.nodup_append]
                refine ⟨hnd.out, by simp, fun a ha b hb => ?_⟩
                simp at hb
                subst hb
                rintro rfl
                obtain ⟨i, hi, he⟩ := List.getElem_of_mem ha
                rw [List.length_take] at hi
                rw [List.getElem_take] at he
                exact hdiff.out i (by omega) (by rw [List.getElem?_eq_getElem (by omega), he])
            case measure => simp [intOf]; omega
          have hjl : j < ns.length := by omega
          have hbw' : Below w.heap.size w wr := HX.out.trans (hbj.mono hXw)
          obtain ⟨b', off', hE, x1, x2, x3⟩ := HA.out.get hbw' hjl
          obtain ⟨rfl, rfl⟩ : b = b' ∧ off = off' := by simpa using hE
          clear hE
          have hbx := HbX.out.below hbj HbX.out.lt
          have hnx := HnX.out.below hbj HnX.out.lt
          have y1 : wr.cell? ⟨w.heap.size, 1, none⟩ = some (.slice (some ⟨b, off, none⟩) ns.length cap) := by rw [hbx.cell]; rfl
          have z0 : wr.cell? ⟨wo.heap.size, 0, none⟩ = some (.int .i64 n.v) := by rw [hnx.cell]; rfl
          have z1 : wr.cell? ⟨wo.heap.size, 1, none⟩ = some (.int .i64 n.lo) := by rw [hnx.cell]; rfl
          have z2 : wr.cell? ⟨wo.heap.size, 2, none⟩ = some (.int .i64 n.hi) := by rw [hnx.cell]; rfl
          have hgj : ns[j]? = some ns[j] := List.getElem?_eq_getElem hjl
          have hj0 : (0 : Int) ≤ j := by omega
          have hj1 : (j : Int) < (ns.length : Int) := by omega
          generalize ns[j] = m at x1 x2 x3 hgj
          have Hgj := Lib.hid hgj
          have Hbx := Lib.hid hbx
          clear hgj hbx hnx
          obtain ⟨bb, e99, HBB⟩ : ∃ bb, (m.v == n.v && (m.lo == n.lo && m.hi == n.hi)) = bb ∧ Hid (bb = true ↔ m = n) := ⟨_, rfl, by
            cases n; cases m; simp [Hid]⟩
          have q1 := guard_node
          have q2 := eqin_node
          go_wp2_with fail
          go_quiet (fail)
          clear e99 q1 q2
          cases bb with
          | true =>
            have hno : Hid (¬ OkS V ns R) := fun h => by
              have e := HBB.out.1 rfl
              subst e
              have := (List.getElem?_inj hjl h.2.1).1 (Hgj.out.trans Hget.out.symm)
              omega
            go_wp2_with fail
            go_ret
            exact ⟨.no hno.out, below_drewN hbw' _⟩
          | false =>
            have hne : Hid (m ≠ n) := fun e => by have := HBB.out.2 e; cases this
            go_wp2_with fail
            go_roundw
            case rel =>
              refine ⟨j + 1, by omega, fun t ht => ?_, below_drewN hbj _, by go_num⟩
              by_cases e : t = j
              · subst e; rw [Hgj.out]; intro h; injection h with h; exact hne.out h
              · exact hdiff.out t (by omega)
            case measure => simp [intOf]; omega
end Go.Proofs.Ytffefegjnbfobaa
