/- CnfOf of both sides, walked. -/
import Derived.Test.YtffefegjnbfobaaWs
import Derived.Test.YtffefegjnbfobaaY
import Derived.Test.YtffefegjnbfobaaL0
import Derived.Deep.RegionHeld3
namespace Go.Proofs.Ytffefegjnbfobaa
open Go.RowKit
open B

theorem IntSS.set {w : World} {B : Nat} {v : Value} {us : List Value} {L : List (List Int)} (h : IntSS w B v us L) {g : Nat} {t : TypeId} {cs : Array Value} (hb : Blk w g t cs) (h1 : (3 : TypeId) ≠ t) (h2 : (23 : TypeId) ≠ t) (i : Nat) (u : Value) : IntSS (w.setCell ⟨g, i, none⟩ u) B v us L :=
  ⟨own_far h.out (p := ⟨g, i, none⟩) (own_ne_blk h.out hb h2) u, fun k hk => by
    obtain ⟨A, c, h3, h4⟩ := h.row k hk
    exact ⟨A, c, h3, own_far h4 (p := ⟨g, i, none⟩) (own_ne_blk h4 hb h1) u⟩, h.far⟩
theorem IntSS.set2 {w : World} {B : Nat} {v : Value} {us : List Value} {L : List (List Int)} (h : IntSS w B v us L) {g : Nat} {t : TypeId} {cs : Array Value} (hb : Blk w g t cs) (h1 : (3 : TypeId) ≠ t) (h2 : (23 : TypeId) ≠ t) (x y : Value) : IntSS ((w.setCell ⟨g, 0, none⟩ x).setCell ⟨g, 1, none⟩ y) B v us L :=
  (h.set hb h1 h2 0 x).set (hb.set_ 0 x) h1 h2 1 y
theorem Blk.put2 {w : World} {g : Nat} {t : TypeId} {a b : Value} (h : Blk w g t #[a, b]) (x y : Value) : Blk ((w.setCell ⟨g, 0, none⟩ x).setCell ⟨g, 1, none⟩ y) g t #[x, y] := by
  have := (h.set_ 0 x).set_ 1 y
  simpa only [List.setIfInBounds_toArray, List.set_cons_zero, List.set_cons_succ] using this
theorem Blk.two {w : World} {g : Nat} {t : TypeId} {x y : Value} (h : Blk w g t #[x, y]) : w.cell? ⟨g, 0, none⟩ = some x ∧ w.cell? ⟨g, 1, none⟩ = some y := ⟨by rw [h.cell]; rfl, by rw [h.cell]; rfl⟩
theorem below_put2 {B : Nat} {w w' : World} (h : Below B w w') {g : Nat} (hg : B ≤ g) (x y : Value) : Below B w ((w'.setCell ⟨g, 0, none⟩ x).setCell ⟨g, 1, none⟩ y) :=
  (h.setCell (p := ⟨g, 0, none⟩) hg _).setCell (p := ⟨g, 1, none⟩) hg _

/-- Which clauses CnfOf hands back, and whether. -/
def CnfV (p : Prop) (V R : Int) (ns : List Nd) (V' : Int) (L : List (List Int)) (b : Bool) : Prop :=
  (p ∧ (ways ns R [] []).length ≤ 60 ∧ V' = V ∧ L = ways ns R [] [] ∧ b = true) ∨ (¬ (p ∧ (ways ns R [] []).length ≤ 60) ∧ V' = 0 ∧ L = [] ∧ b = false)
theorem CnfV.same {p q : Prop} {V R : Int} {ns : List Nd} {V1 V2 : Int} {l l' : List (List Int)} {b b' : Bool} (h : CnfV p V R ns V1 l b) (h' : CnfV q V R ns V2 l' b') (hpq : p ↔ q) : V1 = V2 ∧ l = l' ∧ b = b' := by
  rcases h with ⟨hp, hl, rfl, rfl, rfl⟩ | ⟨hp, rfl, rfl, rfl⟩ <;> rcases h' with ⟨hq, hl', rfl, rfl, rfl⟩ | ⟨hq, rfl, rfl, rfl⟩
  · exact ⟨rfl, rfl, rfl⟩
  · exact (hq ⟨hpq.1 hp, hl⟩).elim
  · exact (hp ⟨hpq.2 hq, hl'⟩).elim
  · exact ⟨rfl, rfl, rfl⟩
def CnfR (p : Prop) (V R : Int) (ns : List Nd) (B : Nat) (w' : World) (e : Ending) : Prop :=
  ∃ (V' : Int) (L : List (List Int)) (b : Bool) (A : Option Addr) (c : Nat) (us : List Value), CnfV p V R ns V' L b ∧ e = .returned (.tuple #[.agg #[.int .i64 V', .slice A L.length c], .bool b]) ∧ IntSS w' B (.slice A L.length c) us L
theorem CnfR.none {p : Prop} {V R : Int} {ns : List Nd} {B : Nat} {w' : World} (h : ¬ (p ∧ (ways ns R [] []).length ≤ 60)) : CnfR p V R ns B w' (.returned (.tuple #[.agg #[.int .i64 0, .slice Option.none 0 0], .bool false])) :=
  ⟨0, [], false, Option.none, 0, [], .inr ⟨h, rfl, rfl, rfl⟩, rfl, IntSS.nil _ _⟩

/-- The cells of an empty Cnf. -/
abbrev zC : Array Value := #[.int .i64 0, .slice none 0 0]

set_option maxRecDepth 100000 in
set_option maxHeartbeats 400000 in
theorem specCnfOf_any (V R : Int) (A : Option Addr) (cap : Nat) (ns : List Nd) (w : World) (hA : NAt w A ns) (hn : ns.length ≤ 1048576) :
    Calls Try.prog 50 #[.agg #[.int .i64 V, .slice A ns.length cap, .int .i64 R]] w fun e w' => CnfR (OkS V ns R ∧ 1 ≤ V ∧ V ≤ 10) V R ns w.heap.size w' e ∧ Below w.heap.size w w' := by
  have HA := Lib.hid hA
  clear hA
  have hal : Below w.heap.size w ((w.alloc (.cells #[.int .i64 V, .slice A ns.length cap, .int .i64 R] 28)).alloc (.cells zC 41)) := ((Below.refl _ _).alloc (Nat.le_refl _) _).alloc (by simp) _
  have HAL := Lib.hid hal
  have BXa : Hid (Blk ((w.alloc (.cells #[.int .i64 V, .slice A ns.length cap, .int .i64 R] 28)).alloc (.cells zC 41)) w.heap.size 28 #[.int .i64 V, .slice A ns.length cap, .int .i64 R]) := (Blk.new w _ _).alloc _
  have BCa : Hid (Blk ((w.alloc (.cells #[.int .i64 V, .slice A ns.length cap, .int .i64 R] 28)).alloc (.cells zC 41)) (w.heap.size + 1) 41 zC) := Blk.new_at _ _ _ (by simp)
  clear hal
  by_cases hok : OkS V ns R
  case neg =>
    have HOK := Lib.hid hok
    clear hok
    go_enter Try.func50, Try.ntmps50
    go_wp2_with (go_at_call 92; refine (specOk_any V R A cap ns _ (by exact HA.out.below HAL.out) hn).mono ?_; rintro e w1 ⟨hs, hb1⟩; obtain rfl := hs.f HOK.out; have HB1 : Hid (Below w.heap.size w w1) := HAL.out.trans (hb1.mono (by simp only [World.size_alloc]; omega)); have BC1 := Lib.hid (BCa.out.below hb1 BCa.out.lt); obtain ⟨c0, c1⟩ := BC1.out.two; have f0 := BC1.out.frozen 0; have f1 := BC1.out.frozen 1; clear hs hb1)
    obtain ⟨u0, u1⟩ := (BC1.out.put2 (.int .i64 0) (.slice none 0 0)).two
    exact bodyPost_ret (v := .tuple #[.agg #[.int .i64 0, .slice none 0 0], .bool false]) (by simp [results, Try.results50, go_sem, u0, u1]) rfl ⟨CnfR.none (fun h => HOK.out h.1.1), below_put2 HB1.out (by omega) _ _⟩
  have HOK := Lib.hid hok
  obtain ⟨k, rfl⟩ := Int.eq_ofNat_of_zero_le hok.1.v0
  have hk : k ≤ 13 := by have := hok.1.v1; omega
  have HFM : Hid (Fm k ns) := by have := hok.1.fm; simpa [Hid] using this
  have HRT : Hid (isP ns R) := hok.1.root
  clear hok
  by_cases hin : (1 : Int) ≤ k ∧ (k : Int) ≤ 10
  case neg =>
    have HIN := Lib.hid hin
    have hd : decide ((1 : Int) ≤ (k : Int) ∧ (k : Int) ≤ 10) = false := by simpa using hin
    clear hin
    go_enter Try.func50, Try.ntmps50
    go_wp2_with (first
      | (go_at_call 92; refine (specOk_any k R A cap ns _ (by exact HA.out.below HAL.out) hn).mono ?_; rintro e w1 ⟨hs, hb1⟩; obtain rfl := hs.t HOK.out; have HB1 : Hid (Below w.heap.size w w1) := HAL.out.trans (hb1.mono (by simp only [World.size_alloc]; omega)); have BX1 := Lib.hid (BXa.out.below hb1 BXa.out.lt); have BC1 := Lib.hid (BCa.out.below hb1 BCa.out.lt); obtain ⟨x0, x1, x2⟩ := BX1.out.three; obtain ⟨c0, c1⟩ := BC1.out.two; have f0 := BC1.out.frozen 0; have f1 := BC1.out.frozen 1; clear hs hb1)
      | (go_at_call 66; refine (l1In_is k 1 10 false hd _).mono ?_; rintro e w2 ⟨rfl, rfl⟩))
    obtain ⟨u0, u1⟩ := (BC1.out.put2 (.int .i64 0) (.slice none 0 0)).two
    exact bodyPost_ret (v := .tuple #[.agg #[.int .i64 0, .slice none 0 0], .bool false]) (by simp [results, Try.results50, go_sem, u0, u1]) rfl ⟨CnfR.none (fun h => HIN.out h.1.2), below_put2 HB1.out (by omega) _ _⟩
  have HIN := Lib.hid hin
  have hd : decide ((1 : Int) ≤ (k : Int) ∧ (k : Int) ≤ 10) = true := by simpa using hin
  clear hin
  obtain ⟨L, hL⟩ : ∃ L, L = ways ns R [] [] := ⟨_, rfl⟩
  have HL := Lib.hid hL
  have hl61 : L.length ≤ 61 := by rw [hL]; exact ((Few.nil k).ways HFM.out HRT.out (by simp)).few
  have hT : ∀ w1 : World, Below w.heap.size w w1 → Calls Try.prog 105 #[.agg #[.int .i64 k, .slice A ns.length cap, .int .i64 R], .int .i64 R, .slice none 0 0, .slice none 0 0] w1 fun e w' => WaysPost w1.heap.size w1 (.slice none 0 0) L e w' := fun w1 hb => by
    have := specWays_any w1.heap.size k R A cap k ns HFM.out hk hn R.toNat R [] none 0 [] [] none 0 w1 (Nat.le_refl _) HRT.out (Nat.le_refl _) (fun W hW => (HA.out.below hb).below hW) (by simp) (fun x hx => by cases hx) (World.ownsRow_nil _ _ _ _) (Few.nil _) (IntSS.nil _ _)
    rw [hL]; exact this
  have HT := Lib.hid hT
  clear hT hL
  by_cases hc : 60 < L.length
  · have hc' : (60 : Int) < (L.length : Int) := by omega
    go_enter Try.func50, Try.ntmps50
    go_wp2_with (first
      | (go_at_call 92; refine (specOk_any k R A cap ns _ (by exact HA.out.below HAL.out) hn).mono ?_; rintro e w1 ⟨hs, hb1⟩; obtain rfl := hs.t HOK.out; have HB1 : Hid (Below w.heap.size w w1) := HAL.out.trans (hb1.mono (by simp only [World.size_alloc]; omega)); have BX1 := Lib.hid (BXa.out.below hb1 BXa.out.lt); have BC1 := Lib.hid (BCa.out.below hb1 BCa.out.lt); obtain ⟨x0, x1, x2⟩ := BX1.out.three; clear hs hb1)
      | (go_at_call 66; refine (l1In_is k 1 10 true hd _).mono ?_; rintro e w2 ⟨rfl, rfl⟩)
      | (go_at_call 105; refine (HT.out _ HB1.out).mono ?_; rintro e w3 ⟨A3, c3, us3, rfl, ho3, hg3, hor3⟩; have hb3 : Below w1.heap.size w1 w3 := (Below.refl _ _).grown hg3 (Nat.le_refl _) (fun x hx => by cases hx); have HB3 : Hid (Below w.heap.size w w3) := HB1.out.trans (hb3.mono HB1.out.size); have BC3 := Lib.hid (BC1.out.below hb3 BC1.out.lt); obtain ⟨c0, c1⟩ := BC3.out.two; have f0 := BC3.out.frozen 0; have f1 := BC3.out.frozen 1; clear ho3 hg3 hor3 hb3))
    obtain ⟨u0, u1⟩ := (BC3.out.put2 (.int .i64 0) (.slice none 0 0)).two
    exact bodyPost_ret (v := .tuple #[.agg #[.int .i64 0, .slice none 0 0], .bool false]) (by simp [results, Try.results50, go_sem, u0, u1]) rfl ⟨CnfR.none (fun h => by have h2 := h.2; rw [← HL.out] at h2; omega), below_put2 HB3.out (by omega) _ _⟩
  · have hc' : ¬ (60 : Int) < (L.length : Int) := by omega
    go_enter Try.func50, Try.ntmps50
    go_wp2_with (first
      | (go_at_call 92; refine (specOk_any k R A cap ns _ (by exact HA.out.below HAL.out) hn).mono ?_; rintro e w1 ⟨hs, hb1⟩; obtain rfl := hs.t HOK.out; have HB1 : Hid (Below w.heap.size w w1) := HAL.out.trans (hb1.mono (by simp only [World.size_alloc]; omega)); have BX1 := Lib.hid (BXa.out.below hb1 BXa.out.lt); have BC1 := Lib.hid (BCa.out.below hb1 BCa.out.lt); obtain ⟨x0, x1, x2⟩ := BX1.out.three; clear hs hb1)
      | (go_at_call 66; refine (l1In_is k 1 10 true hd _).mono ?_; rintro e w2 ⟨rfl, rfl⟩)
      | (go_at_call 105; refine (HT.out _ HB1.out).mono ?_; rintro e w3 ⟨A3, c3, us3, rfl, ho3, hg3, hor3⟩; have hb3 : Below w1.heap.size w1 w3 := (Below.refl _ _).grown hg3 (Nat.le_refl _) (fun x hx => by cases hx); have HB3 : Hid (Below w.heap.size w w3) := HB1.out.trans (hb3.mono HB1.out.size); have BX3 := Lib.hid (BX1.out.below hb3 BX1.out.lt); clear x0 x1 x2; obtain ⟨x0, x1, x2⟩ := BX3.out.three; have BC3 := Lib.hid (BC1.out.below hb3 BC1.out.lt); have HO3 := Lib.hid (ho3.mono HB1.out.size); obtain ⟨c0, c1⟩ := BC3.out.two; have f0 := BC3.out.frozen 0; have f1 := BC3.out.frozen 1; clear ho3 hg3 hor3 hb3))
    obtain ⟨u0, u1⟩ := (BC3.out.put2 (.int .i64 k) (.slice A3 L.length c3)).two
    exact bodyPost_ret (v := .tuple #[.agg #[.int .i64 k, .slice A3 L.length c3], .bool true]) (by simp [results, Try.results50, go_sem, u0, u1]) rfl ⟨⟨k, L, true, A3, c3, us3, .inl ⟨⟨HOK.out, HIN.out⟩, by rw [← HL.out]; omega, rfl, HL.out, rfl⟩, rfl, HO3.out.set2 BC3.out (by decide) (by decide) _ _⟩, below_put2 HB3.out (by omega) _ _⟩
-- by genwc.py
set_option maxRecDepth 100000 in
set_option maxHeartbeats 400000 in
theorem implCnfOf_any (V R : Int) (A : Option Addr) (cap : Nat) (ns : List Nd) (w : World) (hA : NAt w A ns) (hn : ns.length ≤ 1048576) :
    Calls Try.prog 51 #[.agg #[.int .i64 V, .slice A ns.length cap, .int .i64 R]] w fun e w' => CnfR (OkI V ns R ∧ 1 ≤ V ∧ V ≤ 10) V R ns w.heap.size w' e ∧ Below w.heap.size w w' := by
  have HA := Lib.hid hA
  clear hA
  have hal : Below w.heap.size w ((w.alloc (.cells #[.int .i64 V, .slice A ns.length cap, .int .i64 R] 28)).alloc (.cells zC 41)) := ((Below.refl _ _).alloc (Nat.le_refl _) _).alloc (by simp) _
  have HAL := Lib.hid hal
  have BXa : Hid (Blk ((w.alloc (.cells #[.int .i64 V, .slice A ns.length cap, .int .i64 R] 28)).alloc (.cells zC 41)) w.heap.size 28 #[.int .i64 V, .slice A ns.length cap, .int .i64 R]) := (Blk.new w _ _).alloc _
  have BCa : Hid (Blk ((w.alloc (.cells #[.int .i64 V, .slice A ns.length cap, .int .i64 R] 28)).alloc (.cells zC 41)) (w.heap.size + 1) 41 zC) := Blk.new_at _ _ _ (by simp)
  clear hal
  by_cases hok : OkI V ns R
  case neg =>
    have HOK := Lib.hid hok
    clear hok
    go_enter Try.func51, Try.ntmps51
    go_wp2_with (go_at_call 32; refine (bddOk_any V R A cap ns _ (by exact HA.out.below HAL.out) hn).mono ?_; rintro e w1 ⟨hs, hb1⟩; obtain rfl := hs.f HOK.out; have HB1 : Hid (Below w.heap.size w w1) := HAL.out.trans (hb1.mono (by simp only [World.size_alloc]; omega)); have BC1 := Lib.hid (BCa.out.below hb1 BCa.out.lt); obtain ⟨c0, c1⟩ := BC1.out.two; have f0 := BC1.out.frozen 0; have f1 := BC1.out.frozen 1; clear hs hb1)
    obtain ⟨u0, u1⟩ := (BC1.out.put2 (.int .i64 0) (.slice none 0 0)).two
    exact bodyPost_ret (v := .tuple #[.agg #[.int .i64 0, .slice none 0 0], .bool false]) (by simp [results, Try.results51, go_sem, u0, u1]) rfl ⟨CnfR.none (fun h => HOK.out h.1.1), below_put2 HB1.out (by omega) _ _⟩
  have HOK := Lib.hid hok
  obtain ⟨k, rfl⟩ := Int.eq_ofNat_of_zero_le hok.1.v0
  have hk : k ≤ 13 := by have := hok.1.v1; omega
  have HFM : Hid (Fm k ns) := by have := hok.1.fm; simpa [Hid] using this
  have HRT : Hid (isP ns R) := hok.1.root
  clear hok
  by_cases hin : (1 : Int) ≤ k ∧ (k : Int) ≤ 10
  case neg =>
    have HIN := Lib.hid hin
    have hd : decide ((1 : Int) ≤ (k : Int) ∧ (k : Int) ≤ 10) = false := by simpa using hin
    clear hin
    go_enter Try.func51, Try.ntmps51
    go_wp2_with (first
      | (go_at_call 32; refine (bddOk_any k R A cap ns _ (by exact HA.out.below HAL.out) hn).mono ?_; rintro e w1 ⟨hs, hb1⟩; obtain rfl := hs.t HOK.out; have HB1 : Hid (Below w.heap.size w w1) := HAL.out.trans (hb1.mono (by simp only [World.size_alloc]; omega)); have BX1 := Lib.hid (BXa.out.below hb1 BXa.out.lt); have BC1 := Lib.hid (BCa.out.below hb1 BCa.out.lt); obtain ⟨x0, x1, x2⟩ := BX1.out.three; obtain ⟨c0, c1⟩ := BC1.out.two; have f0 := BC1.out.frozen 0; have f1 := BC1.out.frozen 1; clear hs hb1)
      | (go_at_call 69; refine (in_is k 1 10 false hd _).mono ?_; rintro e w2 ⟨rfl, rfl⟩))
    obtain ⟨u0, u1⟩ := (BC1.out.put2 (.int .i64 0) (.slice none 0 0)).two
    exact bodyPost_ret (v := .tuple #[.agg #[.int .i64 0, .slice none 0 0], .bool false]) (by simp [results, Try.results51, go_sem, u0, u1]) rfl ⟨CnfR.none (fun h => HIN.out h.1.2), below_put2 HB1.out (by omega) _ _⟩
  have HIN := Lib.hid hin
  have hd : decide ((1 : Int) ≤ (k : Int) ∧ (k : Int) ≤ 10) = true := by simpa using hin
  clear hin
  obtain ⟨L, hL⟩ : ∃ L, L = ways ns R [] [] := ⟨_, rfl⟩
  have HL := Lib.hid hL
  have hl61 : L.length ≤ 61 := by rw [hL]; exact ((Few.nil k).ways HFM.out HRT.out (by simp)).few
  have hT : ∀ w1 : World, Below w.heap.size w w1 → Calls Try.prog 106 #[.agg #[.int .i64 k, .slice A ns.length cap, .int .i64 R], .int .i64 R, .slice none 0 0, .slice none 0 0] w1 fun e w' => WaysPost w1.heap.size w1 (.slice none 0 0) L e w' := fun w1 hb => by
    have := implWays_any w1.heap.size k R A cap k ns HFM.out hk hn R.toNat R [] none 0 [] [] none 0 w1 (Nat.le_refl _) HRT.out (Nat.le_refl _) (fun W hW => (HA.out.below hb).below hW) (by simp) (World.ownsRow_nil _ _ _ _) (Few.nil _) (IntSS.nil _ _)
    rw [hL]; exact this
  have HT := Lib.hid hT
  clear hT hL
  by_cases hc : 60 < L.length
  · have hc' : (60 : Int) < (L.length : Int) := by omega
    go_enter Try.func51, Try.ntmps51
    go_wp2_with (first
      | (go_at_call 32; refine (bddOk_any k R A cap ns _ (by exact HA.out.below HAL.out) hn).mono ?_; rintro e w1 ⟨hs, hb1⟩; obtain rfl := hs.t HOK.out; have HB1 : Hid (Below w.heap.size w w1) := HAL.out.trans (hb1.mono (by simp only [World.size_alloc]; omega)); have BX1 := Lib.hid (BXa.out.below hb1 BXa.out.lt); have BC1 := Lib.hid (BCa.out.below hb1 BCa.out.lt); obtain ⟨x0, x1, x2⟩ := BX1.out.three; clear hs hb1)
      | (go_at_call 69; refine (in_is k 1 10 true hd _).mono ?_; rintro e w2 ⟨rfl, rfl⟩))
    have NX : Hid (w.heap.size ≠ w1.heap.size) := Nat.ne_of_lt BX1.out.lt
    have NC : Hid (w.heap.size + 1 ≠ w1.heap.size) := Nat.ne_of_lt BC1.out.lt
    go_cut [4] (fun s4 wc => ∃ (g : Nat) (A3 : Option Addr) (c3 : Nat) (us3 : List Value), s4 = .pointer (some ⟨g, 0, none⟩) ∧ Hid (Blk wc g 41 #[.int .i64 k, .slice A3 L.length c3]) ∧ Hid (Below w.heap.size w wc) ∧ Hid (IntSS wc w.heap.size (.slice A3 L.length c3) us3 L) ∧ Hid (Blk wc (w.heap.size + 1) 41 zC))
    case first =>
      go_region_held3 (fun w' => w'.cell? ⟨w.heap.size, 0, none⟩ = some (.int .i64 k) ∧ w'.cell? ⟨w.heap.size, 1, none⟩ = some (.slice A ns.length cap) ∧ w'.cell? ⟨w.heap.size, 2, none⟩ = some (.int .i64 R)) (first | with_reducible (exact ⟨(BX1.out).three.1, (BX1.out).three.2.1, (BX1.out).three.2.2⟩) | with_reducible (exact ⟨(BX1.out.drew).three.1, (BX1.out.drew).three.2.1, (BX1.out.drew).three.2.2⟩) | with_reducible (exact ⟨((BX1.out.alloc _).drew).three.1, ((BX1.out.alloc _).drew).three.2.1, ((BX1.out.alloc _).drew).three.2.2⟩) | with_reducible (exact ⟨(BX1.out.drew.alloc _).three.1, (BX1.out.drew.alloc _).three.2.1, (BX1.out.drew.alloc _).three.2.2⟩) | with_reducible (exact ⟨(BX3.out).three.1, (BX3.out).three.2.1, (BX3.out).three.2.2⟩) | with_reducible (exact ⟨(BX3.out.alloc _).three.1, (BX3.out.alloc _).three.2.1, (BX3.out.alloc _).three.2.2⟩) | with_reducible (exact ⟨((BX3.out.far (p := ⟨w1.heap.size, 0, none⟩) NX.out _).far (p := ⟨w1.heap.size, 1, none⟩) NX.out _).three.1, ((BX3.out.far (p := ⟨w1.heap.size, 0, none⟩) NX.out _).far (p := ⟨w1.heap.size, 1, none⟩) NX.out _).three.2.1, ((BX3.out.far (p := ⟨w1.heap.size, 0, none⟩) NX.out _).far (p := ⟨w1.heap.size, 1, none⟩) NX.out _).three.2.2⟩)) (first
        | (go_at_call 106; refine (HT.out (w1.drew) (HB1.out.drew)).mono ?_; rintro e w3 ⟨A3, c3, us3, rfl, ho3, hg3, hor3⟩; have hb3' : Below (w1.drew).heap.size (w1.drew) w3 := (Below.refl _ _).grown hg3 (Nat.le_refl _) (fun x hx => by cases hx); have hb3 : Below w1.heap.size w1 w3 := ((Below.refl w1.heap.size w1).drew).trans (hb3'.mono (by simp)); have HB3 : Hid (Below w.heap.size w w3) := HB1.out.trans (hb3.mono HB1.out.size); have BX3 := Lib.hid (BX1.out.below hb3 BX1.out.lt); have BC3 := Lib.hid (BC1.out.below hb3 BC1.out.lt); have HO3 := Lib.hid (ho3.mono (show w.heap.size ≤ _ from (by have := HB1.out.size; simp; omega))); obtain ⟨c0, c1⟩ := BC3.out.two; have f0 := BC3.out.frozen 0; have f1 := BC3.out.frozen 1; have HX3 := Lib.hid hb3; clear ho3 hg3 hor3 hb3 hb3')
        | (go_at_call 106; refine (HT.out ((w1.alloc (.cells zC 41)).drew) ((HB1.out.alloc HB1.out.size _).drew)).mono ?_; rintro e w3 ⟨A3, c3, us3, rfl, ho3, hg3, hor3⟩; have hb3' : Below ((w1.alloc (.cells zC 41)).drew).heap.size ((w1.alloc (.cells zC 41)).drew) w3 := (Below.refl _ _).grown hg3 (Nat.le_refl _) (fun x hx => by cases hx); have hb3 : Below w1.heap.size w1 w3 := (((Below.refl w1.heap.size w1).alloc (Nat.le_refl _) _).drew).trans (hb3'.mono (by simp)); have BZ3 : Hid (Blk w3 w1.heap.size 41 zC) := (Blk.new w1 41 zC).drew.below hb3' (by simp); have zf0 := BZ3.out.frozen 0; have zf1 := BZ3.out.frozen 1; obtain ⟨zc0, zc1⟩ := BZ3.out.two; have HB3 : Hid (Below w.heap.size w w3) := HB1.out.trans (hb3.mono HB1.out.size); have BX3 := Lib.hid (BX1.out.below hb3 BX1.out.lt); have BC3 := Lib.hid (BC1.out.below hb3 BC1.out.lt); have HO3 := Lib.hid (ho3.mono (show w.heap.size ≤ _ from (by have := HB1.out.size; simp; omega))); obtain ⟨c0, c1⟩ := BC3.out.two; have f0 := BC3.out.frozen 0; have f1 := BC3.out.frozen 1; have HX3 := Lib.hid hb3; clear ho3 hg3 hor3 hb3 hb3')
        | (go_at_call 106; refine (HT.out (w1.drew.alloc (.cells zC 41)) (HB1.out.drew.alloc HB1.out.size _)).mono ?_; rintro e w3 ⟨A3, c3, us3, rfl, ho3, hg3, hor3⟩; have hb3' : Below (w1.drew.alloc (.cells zC 41)).heap.size (w1.drew.alloc (.cells zC 41)) w3 := (Below.refl _ _).grown hg3 (Nat.le_refl _) (fun x hx => by cases hx); have hb3 : Below w1.heap.size w1 w3 := ((Below.refl w1.heap.size w1).drew.alloc (Nat.le_refl _) _).trans (hb3'.mono (by simp)); have BZ3 : Hid (Blk w3 w1.heap.size 41 zC) := (Blk.new w1.drew 41 zC).below hb3' (by simp); have zf0 := BZ3.out.frozen 0; have zf1 := BZ3.out.frozen 1; obtain ⟨zc0, zc1⟩ := BZ3.out.two; have HB3 : Hid (Below w.heap.size w w3) := HB1.out.trans (hb3.mono HB1.out.size); have BX3 := Lib.hid (BX1.out.below hb3 BX1.out.lt); have BC3 := Lib.hid (BC1.out.below hb3 BC1.out.lt); have HO3 := Lib.hid (ho3.mono (show w.heap.size ≤ _ from (by have := HB1.out.size; simp; omega))); obtain ⟨c0, c1⟩ := BC3.out.two; have f0 := BC3.out.frozen 0; have f1 := BC3.out.frozen 1; have HX3 := Lib.hid hb3; clear ho3 hg3 hor3 hb3 hb3'))
      all_goals
        go_wp2_with fail
        go_meet
        case rel => first
          | exact ⟨w1.heap.size, A3, c3, us3, rfl, BZ3.out.put2 _ _, below_put2 HB3.out HB1.out.size _ _, HO3.out.set2 BZ3.out (by decide) (by decide) _ _, (BC3.out.far (p := ⟨w1.heap.size, 0, none⟩) NC.out _).far (p := ⟨w1.heap.size, 1, none⟩) NC.out _⟩
          | exact ⟨w3.heap.size, A3, c3, us3, rfl, Blk.new w3 _ _, HB3.out.alloc HB3.out.size _, HO3.out.alloc _, BC3.out.alloc _⟩
    case rest =>
      obtain ⟨g, A3, c3, us3, rfl, BG, HB3, HO3, BC3⟩ := hcut
      obtain ⟨z0, z1⟩ := BG.out.two
      obtain ⟨c0, c1⟩ := BC3.out.two
      have f0 := BC3.out.frozen 0
      have f1 := BC3.out.frozen 1
      go_wp2_with fail
      obtain ⟨u0, u1⟩ := (BC3.out.put2 (.int .i64 0) (.slice none 0 0)).two
      exact bodyPost_ret (v := .tuple #[.agg #[.int .i64 0, .slice none 0 0], .bool false]) (by simp [results, Try.results51, go_sem, u0, u1]) rfl ⟨CnfR.none (fun h => by have h2 := h.2; rw [← HL.out] at h2; omega), below_put2 HB3.out (by omega) _ _⟩
  · have hc' : ¬ (60 : Int) < (L.length : Int) := by omega
    go_enter Try.func51, Try.ntmps51
    go_wp2_with (first
      | (go_at_call 32; refine (bddOk_any k R A cap ns _ (by exact HA.out.below HAL.out) hn).mono ?_; rintro e w1 ⟨hs, hb1⟩; obtain rfl := hs.t HOK.out; have HB1 : Hid (Below w.heap.size w w1) := HAL.out.trans (hb1.mono (by simp only [World.size_alloc]; omega)); have BX1 := Lib.hid (BXa.out.below hb1 BXa.out.lt); have BC1 := Lib.hid (BCa.out.below hb1 BCa.out.lt); obtain ⟨x0, x1, x2⟩ := BX1.out.three; clear hs hb1)
      | (go_at_call 69; refine (in_is k 1 10 true hd _).mono ?_; rintro e w2 ⟨rfl, rfl⟩))
    have NX : Hid (w.heap.size ≠ w1.heap.size) := Nat.ne_of_lt BX1.out.lt
    have NC : Hid (w.heap.size + 1 ≠ w1.heap.size) := Nat.ne_of_lt BC1.out.lt
    go_cut [4] (fun s4 wc => ∃ (g : Nat) (A3 : Option Addr) (c3 : Nat) (us3 : List Value), s4 = .pointer (some ⟨g, 0, none⟩) ∧ Hid (Blk wc g 41 #[.int .i64 k, .slice A3 L.length c3]) ∧ Hid (Below w.heap.size w wc) ∧ Hid (IntSS wc w.heap.size (.slice A3 L.length c3) us3 L) ∧ Hid (Blk wc (w.heap.size + 1) 41 zC))
    case first =>
      go_region_held3 (fun w' => w'.cell? ⟨w.heap.size, 0, none⟩ = some (.int .i64 k) ∧ w'.cell? ⟨w.heap.size, 1, none⟩ = some (.slice A ns.length cap) ∧ w'.cell? ⟨w.heap.size, 2, none⟩ = some (.int .i64 R)) (first | with_reducible (exact ⟨(BX1.out).three.1, (BX1.out).three.2.1, (BX1.out).three.2.2⟩) | with_reducible (exact ⟨(BX1.out.drew).three.1, (BX1.out.drew).three.2.1, (BX1.out.drew).three.2.2⟩) | with_reducible (exact ⟨((BX1.out.alloc _).drew).three.1, ((BX1.out.alloc _).drew).three.2.1, ((BX1.out.alloc _).drew).three.2.2⟩) | with_reducible (exact ⟨(BX1.out.drew.alloc _).three.1, (BX1.out.drew.alloc _).three.2.1, (BX1.out.drew.alloc _).three.2.2⟩) | with_reducible (exact ⟨(BX3.out).three.1, (BX3.out).three.2.1, (BX3.out).three.2.2⟩) | with_reducible (exact ⟨(BX3.out.alloc _).three.1, (BX3.out.alloc _).three.2.1, (BX3.out.alloc _).three.2.2⟩) | with_reducible (exact ⟨((BX3.out.far (p := ⟨w1.heap.size, 0, none⟩) NX.out _).far (p := ⟨w1.heap.size, 1, none⟩) NX.out _).three.1, ((BX3.out.far (p := ⟨w1.heap.size, 0, none⟩) NX.out _).far (p := ⟨w1.heap.size, 1, none⟩) NX.out _).three.2.1, ((BX3.out.far (p := ⟨w1.heap.size, 0, none⟩) NX.out _).far (p := ⟨w1.heap.size, 1, none⟩) NX.out _).three.2.2⟩)) (first
        | (go_at_call 106; refine (HT.out (w1.drew) (HB1.out.drew)).mono ?_; rintro e w3 ⟨A3, c3, us3, rfl, ho3, hg3, hor3⟩; have hb3' : Below (w1.drew).heap.size (w1.drew) w3 := (Below.refl _ _).grown hg3 (Nat.le_refl _) (fun x hx => by cases hx); have hb3 : Below w1.heap.size w1 w3 := ((Below.refl w1.heap.size w1).drew).trans (hb3'.mono (by simp)); have HB3 : Hid (Below w.heap.size w w3) := HB1.out.trans (hb3.mono HB1.out.size); have BX3 := Lib.hid (BX1.out.below hb3 BX1.out.lt); have BC3 := Lib.hid (BC1.out.below hb3 BC1.out.lt); have HO3 := Lib.hid (ho3.mono (show w.heap.size ≤ _ from (by have := HB1.out.size; simp; omega))); obtain ⟨c0, c1⟩ := BC3.out.two; have f0 := BC3.out.frozen 0; have f1 := BC3.out.frozen 1; have HX3 := Lib.hid hb3; clear ho3 hg3 hor3 hb3 hb3')
        | (go_at_call 106; refine (HT.out ((w1.alloc (.cells zC 41)).drew) ((HB1.out.alloc HB1.out.size _).drew)).mono ?_; rintro e w3 ⟨A3, c3, us3, rfl, ho3, hg3, hor3⟩; have hb3' : Below ((w1.alloc (.cells zC 41)).drew).heap.size ((w1.alloc (.cells zC 41)).drew) w3 := (Below.refl _ _).grown hg3 (Nat.le_refl _) (fun x hx => by cases hx); have hb3 : Below w1.heap.size w1 w3 := (((Below.refl w1.heap.size w1).alloc (Nat.le_refl _) _).drew).trans (hb3'.mono (by simp)); have BZ3 : Hid (Blk w3 w1.heap.size 41 zC) := (Blk.new w1 41 zC).drew.below hb3' (by simp); have zf0 := BZ3.out.frozen 0; have zf1 := BZ3.out.frozen 1; obtain ⟨zc0, zc1⟩ := BZ3.out.two; have HB3 : Hid (Below w.heap.size w w3) := HB1.out.trans (hb3.mono HB1.out.size); have BX3 := Lib.hid (BX1.out.below hb3 BX1.out.lt); have BC3 := Lib.hid (BC1.out.below hb3 BC1.out.lt); have HO3 := Lib.hid (ho3.mono (show w.heap.size ≤ _ from (by have := HB1.out.size; simp; omega))); obtain ⟨c0, c1⟩ := BC3.out.two; have f0 := BC3.out.frozen 0; have f1 := BC3.out.frozen 1; have HX3 := Lib.hid hb3; clear ho3 hg3 hor3 hb3 hb3')
        | (go_at_call 106; refine (HT.out (w1.drew.alloc (.cells zC 41)) (HB1.out.drew.alloc HB1.out.size _)).mono ?_; rintro e w3 ⟨A3, c3, us3, rfl, ho3, hg3, hor3⟩; have hb3' : Below (w1.drew.alloc (.cells zC 41)).heap.size (w1.drew.alloc (.cells zC 41)) w3 := (Below.refl _ _).grown hg3 (Nat.le_refl _) (fun x hx => by cases hx); have hb3 : Below w1.heap.size w1 w3 := ((Below.refl w1.heap.size w1).drew.alloc (Nat.le_refl _) _).trans (hb3'.mono (by simp)); have BZ3 : Hid (Blk w3 w1.heap.size 41 zC) := (Blk.new w1.drew 41 zC).below hb3' (by simp); have zf0 := BZ3.out.frozen 0; have zf1 := BZ3.out.frozen 1; obtain ⟨zc0, zc1⟩ := BZ3.out.two; have HB3 : Hid (Below w.heap.size w w3) := HB1.out.trans (hb3.mono HB1.out.size); have BX3 := Lib.hid (BX1.out.below hb3 BX1.out.lt); have BC3 := Lib.hid (BC1.out.below hb3 BC1.out.lt); have HO3 := Lib.hid (ho3.mono (show w.heap.size ≤ _ from (by have := HB1.out.size; simp; omega))); obtain ⟨c0, c1⟩ := BC3.out.two; have f0 := BC3.out.frozen 0; have f1 := BC3.out.frozen 1; have HX3 := Lib.hid hb3; clear ho3 hg3 hor3 hb3 hb3'))
      all_goals
        go_wp2_with fail
        go_meet
        case rel => first
          | exact ⟨w1.heap.size, A3, c3, us3, rfl, BZ3.out.put2 _ _, below_put2 HB3.out HB1.out.size _ _, HO3.out.set2 BZ3.out (by decide) (by decide) _ _, (BC3.out.far (p := ⟨w1.heap.size, 0, none⟩) NC.out _).far (p := ⟨w1.heap.size, 1, none⟩) NC.out _⟩
          | exact ⟨w3.heap.size, A3, c3, us3, rfl, Blk.new w3 _ _, HB3.out.alloc HB3.out.size _, HO3.out.alloc _, BC3.out.alloc _⟩
    case rest =>
      obtain ⟨g, A3, c3, us3, rfl, BG, HB3, HO3, BC3⟩ := hcut
      obtain ⟨z0, z1⟩ := BG.out.two
      obtain ⟨c0, c1⟩ := BC3.out.two
      have f0 := BC3.out.frozen 0
      have f1 := BC3.out.frozen 1
      go_wp2_with fail
      obtain ⟨u0, u1⟩ := (BC3.out.put2 (.int .i64 k) (.slice A3 L.length c3)).two
      exact bodyPost_ret (v := .tuple #[.agg #[.int .i64 k, .slice A3 L.length c3], .bool true]) (by simp [results, Try.results51, go_sem, u0, u1]) rfl ⟨⟨k, L, true, A3, c3, us3, .inl ⟨⟨HOK.out, HIN.out⟩, by rw [← HL.out]; omega, rfl, HL.out, rfl⟩, rfl, HO3.out.set2 BC3.out (by decide) (by decide) _ _⟩, below_put2 HB3.out (by omega) _ _⟩
end Go.Proofs.Ytffefegjnbfobaa
