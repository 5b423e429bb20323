/- The law FnNumbers, walked. -/
import Derived.Test.YtffefegjnbfobaaH11
import Derived.Test.YtffefegjnbfobaaLd
import Derived.Test.YtffefegjnbfobaaFi
import Derived.Test.YtffefegjnbfobaaFs
import Derived.Test.YtffefegjnbfobaaNm
import Derived.Test.YtffefegjnbfobaaLe
namespace Go.Proofs.Ytffefegjnbfobaa
open Go.RowKit
open B

theorem Mkd.knownN {p : Prop} {V : Int} {r r' : Int × List Nd} {B : Nat} {w' : World} {e : Ending} (h : Mkd p V r B w' e) (hp : p) (hr : r = r') (hl : r'.2.length ≤ 600) :
    ∃ (A : Option Addr) (c : Nat), e = .returned (.tuple #[.agg #[.int .i64 V, .slice A r'.2.length c, .int .i64 r'.1], .bool true]) ∧ Hid (w'.ownsRow B 89 3 (.slice A r'.2.length c) r'.2.length (ncells r'.2)) := by
  subst hr
  obtain ⟨V', R', ms, b, A, c, hv, he, ho⟩ := h
  rcases hv with ⟨_, _, rfl, rfl, rfl, rfl⟩ | ⟨hn, _⟩
  · exact ⟨A, c, he, ho⟩
  · exact (hn ⟨hp, hl⟩).elim
theorem same_yesN {V R : Int} {ms : List Nd} (A A' : Option Addr) (c c' : Nat) (w : World) (hA : NAt w A ms) (hA' : NAt w A' ms) (hl : ms.length ≤ 1048576) :
    Calls Try.prog 15 #[.agg #[.int .i64 V, .slice A ms.length c, .int .i64 R], .agg #[.int .i64 V, .slice A' ms.length c', .int .i64 R]] w fun e w' => e = .returned (.bool true) ∧ Below w.heap.size w w' :=
  (ldBdd_any V V R R A A' c c' ms ms w hA hA' hl hl).mono fun _ _ hs => ⟨hs.1.t ⟨rfl, rfl, rfl⟩, hs.2⟩
/-- The first of a row reads the same in a later world. -/
theorem int_at {w w' : World} {B B' g c : Nat} {L : List Int} {y : Int} (h' : w'.ownsRow B' 3 1 (.slice (some ⟨g, 0, none⟩) L.length c) L.length (L.map (.int .i64))) (hz : 0 < L.length) (hc : w.cell? ⟨g, 0, none⟩ = some (.int .i64 y))
    (h : w.ownsRow B 3 1 (.slice (some ⟨g, 0, none⟩) L.length c) L.length (L.map (.int .i64))) : w'.cell? ⟨g, 0, none⟩ = some (.int .i64 y) := by
  rw [h'.cellAt 0 (by omega), ← h.cellAt 0 (by omega), hc]
/-- The set of a list. -/
structure OfL (K : Nat) (l : List Int) (R : Int) (ms : List Nd) : Prop where
  k : K ≤ 13
  from_ : FromP (K : Int) l
  mk_ : mk K 0 (memF l) [] = (R, ms)
  len : ms.length ≤ 600
section
variable {K : Nat} {l : List Int} {R : Int} {ms : List Nd}
theorem OfL.both (h : OfL K l R ms) : OkI K ms R ∧ ∀ c, c < 2 ^ K → has ms R c = memF l c := by
  have := mk_ok (k := K) (f := memF l) h.k (by rw [h.mk_]; exact h.len)
  rw [h.mk_] at this
  exact this
theorem OfL.codes (h : OfL K l R ms) : codesF (has ms R) (2 ^ K) = codesF (memF l) (2 ^ K) := codesF_congr h.both.2
theorem OfL.few (h : OfL K l R ms) : (codesF (memF l) (2 ^ K)).length ≤ 256 := Nat.le_trans (codes_mem l _) h.from_.2.2.1
theorem OfL.range (h : OfL K l R ms) : ∀ x, x ∈ l → 0 ≤ x ∧ x ≤ 2 ^ K - 1 := h.from_.2.2.2
theorem OfL.get (h : OfL K l R ms) {x : Int} (hx : x ∈ l) : ∃ c : Nat, x = c ∧ c < 2 ^ K ∧ has ms R c = true := by
  have hr := h.range x hx
  have e : ((2 : Int) ^ K) = ((2 ^ K : Nat) : Int) := by simp
  rw [e] at hr
  obtain ⟨c, rfl⟩ := Int.eq_ofNat_of_zero_le hr.1
  have hc : c < 2 ^ K := by omega
  exact ⟨c, rfl, hc, by rw [h.both.2 c hc]; unfold memF; simpa using hx⟩
theorem OfL.got (h : OfL K l R ms) {x : Int} (hx : x ∈ codesF (memF l) (2 ^ K)) : ∃ c : Nat, x = c ∧ c < 2 ^ K ∧ has ms R c = true := by
  obtain ⟨c, rfl, hc, hm⟩ := mem_codesF.1 hx
  exact ⟨c, rfl, hc, by rw [h.both.2 c hc]; exact hm⟩
/-- The list that is told again makes the set again. -/
theorem OfL.again (h : OfL K l R ms) : OfL K (codesF (memF l) (2 ^ K)) R ms := by
  refine ⟨h.k, ⟨h.from_.1, h.from_.2.1, h.few, fun x hx => ?_⟩, ?_, h.len⟩
  · obtain ⟨c, rfl, hc, _⟩ := mem_codesF.1 hx
    have e : ((2 : Int) ^ K) = ((2 ^ K : Nat) : Int) := by simp
    show 0 ≤ ((c : Nat) : Int) ∧ ((c : Nat) : Int) ≤ 2 ^ K - 1
    rw [e]; omega
  · rw [← h.mk_]; exact mk_congr _ _ _ _ _ (codes_back h.range).1
theorem codes_t (A : Option Addr) (cap : Nat) (w : World) (h : OfL K l R ms) (hA : NAt w A ms) :
    Calls Try.prog 16 #[.agg #[.int .i64 (K : Int), .slice A ms.length cap, .int .i64 R]] w fun e w' => (∃ (A' : Option Addr) (c' : Nat), e = .returned (.tuple #[.slice A' (codesF (memF l) (2 ^ K)).length c', .bool true]) ∧ Hid (w'.ownsRow (w.heap.size + 1) 3 1 (.slice A' (codesF (memF l) (2 ^ K)).length c') (codesF (memF l) (2 ^ K)).length ((codesF (memF l) (2 ^ K)).map (.int .i64)))) ∧ Below w.heap.size w w' :=
  (implCodes_any K R A cap ms w hA (by have := h.len; omega)).mono fun e w' hc => by
    obtain ⟨⟨l', b, A', c', hv, he, ho⟩, hb⟩ := hc
    have hf := h.few
    rcases hv with ⟨_, _, rfl, rfl⟩ | ⟨hn, _⟩
    · have hcd : codesF (has ms R) (2 ^ (K : Int).toNat) = codesF (memF l) (2 ^ K) := h.codes
      rw [hcd] at he ho
      exact ⟨⟨A', c', he, ho⟩, hb⟩
    · refine (hn ⟨h.both.1, ?_⟩).elim
      show (codesF (has ms R) (2 ^ K)).length ≤ 256
      rw [h.codes]; exact hf
theorem count_l (A : Option Addr) (cap : Nat) (w : World) (h : OfL K l R ms) (hA : NAt w A ms) :
    Calls Try.prog 17 #[.agg #[.int .i64 (K : Int), .slice A ms.length cap, .int .i64 R]] w fun e w' => e = .returned (.int .i64 ((codesF (memF l) (2 ^ K)).length : Int)) ∧ Below w.heap.size w w' :=
  count_t _ A cap w h.both.1 (by show ((codesF (has ms R) (2 ^ K)).length : Int) = _; rw [h.codes]) hA (by have := h.len; omega)
theorem eval_l {x : Int} (A : Option Addr) (cap : Nat) (w : World) (h : OkI (K : Int) ms R) (hx : ∃ c : Nat, x = c ∧ c < 2 ^ K ∧ has ms R c = true) (hl : ms.length ≤ 600) (hA : NAt w A ms) :
    Calls Try.prog 18 #[.agg #[.int .i64 (K : Int), .slice A ms.length cap, .int .i64 R], .int .i64 x] w fun e w' => e = .returned (.bool true) ∧ Below w.heap.size w w' := by
  obtain ⟨c, hc, h1, h2⟩ := hx
  exact eval_b x c true A cap w h hc h1 h2 hA (by omega)
theorem least_t (A : Option Addr) (cap : Nat) (w : World) (h : OfL K l R ms) (hA : NAt w A ms) :
    Calls Try.prog 19 #[.agg #[.int .i64 (K : Int), .slice A ms.length cap, .int .i64 R]] w fun e w' => ((codesF (memF l) (2 ^ K) = [] ∧ e = .returned (.tuple #[.int .i64 0, .bool false])) ∨ (∃ (h0 : 0 < (codesF (memF l) (2 ^ K)).length), e = .returned (.tuple #[.int .i64 (codesF (memF l) (2 ^ K))[0], .bool true]))) ∧ Below w.heap.size w w' :=
  (implLeast_any K R A cap ms w hA (by have := h.len; omega)).mono fun e w' hc => by
    refine ⟨?_, hc.2⟩
    have hcd : codesF (has ms R) (2 ^ (K : Int).toNat) = codesF (memF l) (2 ^ K) := h.codes
    rcases hc.1 with ⟨_, c, t, hct, he⟩ | ⟨hn, he⟩
    · rw [hcd] at hct
      exact .inr ⟨by rw [hct]; simp, by rw [he]; simp [hct]⟩
    · rw [hcd] at hn
      exact .inl ⟨Classical.byContradiction fun q => hn ⟨h.both.1, q⟩, he⟩
theorem least_0 {L : List Int} (A : Option Addr) (cap : Nat) (w : World) (h : OfL K l R ms) (hL : L = codesF (memF l) (2 ^ K)) (hz : L.length = 0) (hA : NAt w A ms) :
    Calls Try.prog 19 #[.agg #[.int .i64 (K : Int), .slice A ms.length cap, .int .i64 R]] w fun e w' => e = .returned (.tuple #[.int .i64 0, .bool false]) ∧ Below w.heap.size w w' := by
  subst hL
  refine (least_t A cap w h hA).mono fun e w' hh => ⟨?_, hh.2⟩
  rcases hh.1 with h1 | ⟨h0, _⟩
  · exact h1.2
  · omega
theorem least_p {L : List Int} (A : Option Addr) (cap : Nat) (w : World) (h : OfL K l R ms) (hL : L = codesF (memF l) (2 ^ K)) (hz : 0 < L.length) (hA : NAt w A ms) :
    Calls Try.prog 19 #[.agg #[.int .i64 (K : Int), .slice A ms.length cap, .int .i64 R]] w fun e w' => e = .returned (.tuple #[.int .i64 L[0], .bool true]) ∧ Below w.heap.size w w' := by
  subst hL
  refine (least_t A cap w h hA).mono fun e w' hh => ⟨?_, hh.2⟩
  rcases hh.1 with h1 | ⟨h0, h1⟩
  · rw [h1.1] at hz; simp at hz
  · exact h1
end

set_option maxRecDepth 100000 in
set_option maxHeartbeats 8000000 in
theorem fnNumbers_law (A : Option Addr) (n cap : Nat) (w : World) (hA : BAt w A n) (hn : n ≤ cap) (hc : cap ≤ maxLen) :
    Calls Try.prog 3 #[.slice A n cap] w fun e w' => e = .returned (.bool true) ∧ Below w.heap.size w w' := by
  have HA := Lib.hid hA
  have HC := Lib.hid hc
  unfold maxLen at hc
  clear hA
  have HB_w : Hid (Below w.heap.size w w) := Below.refl _ _
  by_cases hbig : 1048576 < n
  case pos =>
    clear hc
    go_enter Try.func3, Try.ntmps3
    go_wp2_with fail
    go_ret
    exact ⟨rfl, Below.refl _ _⟩
  clear hc
  go_enter Try.func3, Try.ntmps3
  go_upto_region 8 with (first
    | (go_at_call 12; (with_reducible refine (drawFrom_any A n cap _ (by exact HA.out) hn HC.out).mono ?_); rintro e w1 ⟨⟨V, l, Al, cl, rfl, hV0, hV1, hll, ho0⟩, hb⟩; have hx := hb; have HB_w1 : Hid (Below w.heap.size w w1) := HB_w.out.trans (hx.mono HB_w.out.size); have OL_w1 := Lib.hid (own_mono ho0 (show w.heap.size ≤ _ by have h_ := HB_w.out.size; first | omega | (simp; omega))); clear hx hb)
    | (go_at_call 13; (with_reducible refine (implFrom_any V Al cl l _ (by exact IAt.of_own OL_w1.out) (by omega)).mono ?_); rintro e w2 ⟨hmk, hb⟩; obtain ⟨V1, R1, m1, b1, A1, c1, hmv, rfl, ho1, hl1⟩ := hmk.is; have HMV := hmv; clear hmk; have hx := hb; have HB_w2 : Hid (Below w.heap.size w w2) := HB_w1.out.trans (hx.mono HB_w1.out.size); have OL_w2 := Lib.hid (own_below OL_w1.out hx); have O1_w2 := Lib.hid (own_mono ho1.out (show w.heap.size ≤ _ by have h_ := HB_w1.out.size; first | omega | (simp; omega))); clear hx hb)
    | (go_at_call 14; (with_reducible refine (specFrom_any V Al cl l _ (by exact IAt.of_own (OL_w2.out.alloc _)) (by omega)).mono ?_); rintro e w3 ⟨hmk, hb⟩; obtain ⟨A2, c2, rfl, ho2⟩ := hmk.again HMV.out; clear hmk; have hx : Below w2.heap.size w2 w3 := ((Below.refl w2.heap.size w2).alloc (Nat.le_refl _) _).trans (hb.mono (by simp)); have HB_w3 : Hid (Below w.heap.size w w3) := HB_w2.out.trans (hx.mono HB_w2.out.size); have OL_w3 := Lib.hid (own_below OL_w2.out hx); have O1_w3 := Lib.hid (own_below O1_w2.out hx); have X1_w3 : Hid (Blk w3 (w2.heap.size) 28 #[.int .i64 V1, .slice A1 m1.length c1, .int .i64 R1]) := (Blk.new_at _ 28 #[.int .i64 V1, .slice A1 m1.length c1, .int .i64 R1] (g := w2.heap.size) (by simp)).below hb (by simp); have O2_w3 := Lib.hid (own_mono ho2.out (show w.heap.size ≤ _ by have h_ := HB_w2.out.size; first | omega | (simp; omega))); clear hx hb; obtain ⟨q1_0, q1_1, q1_2⟩ := ((X1_w3.out.alloc (.cells #[.int .i64 V1, .slice A2 m1.length c2, .int .i64 R1] 28))).three)
    | (go_at_call 15; (with_reducible refine (same_yesN A1 A2 c1 c2 _ (by exact NAt.of_own (O1_w3.out.alloc _)) (by exact NAt.of_own (O2_w3.out.alloc _)) (by omega)).mono ?_); rintro e w4 ⟨rfl, hb⟩; have hx : Below w3.heap.size w3 w4 := ((Below.refl w3.heap.size w3).alloc (Nat.le_refl _) _).trans (hb.mono (by simp)); have HB_w4 : Hid (Below w.heap.size w w4) := HB_w3.out.trans (hx.mono HB_w3.out.size); have OL_w4 := Lib.hid (own_below OL_w3.out hx); have O1_w4 := Lib.hid (own_below O1_w3.out hx); have X1_w4 := Lib.hid (X1_w3.out.below hx X1_w3.out.lt); clear q1_0 q1_1 q1_2; clear hx hb))
  cases b1 with
  | false =>
    go_wp2_with fail
    go_ret
    exact ⟨rfl, HB_w4.out⟩
  | true =>
    obtain ⟨hp, hl16, rfl, hR1, hm1⟩ : FromP V l ∧ m1.length ≤ 600 ∧ V = V1 ∧ R1 = (mk V.toNat 0 (memF l) []).1 ∧ m1 = (mk V.toNat 0 (memF l) []).2 := by
      rcases HMV.out with ⟨hp, hl, rfl, rfl, rfl, _⟩ | ⟨_, _, _, _, h⟩
      · exact ⟨hp, hl, rfl, rfl, rfl⟩
      · cases h
    clear HMV
    obtain ⟨K, rfl⟩ := Int.eq_ofNat_of_zero_le hp.1
    have hK13 : K ≤ 13 := by have := hp.2.1; omega
    have HS : Hid (OfL K l R1 m1) := ⟨hK13, hp, by rw [hR1, hm1]; rfl, hl16⟩
    have hl256 : l.length ≤ 256 := hp.2.2.1
    have hf256 := HS.out.few
    have OK := Lib.hid HS.out.both.1
    obtain ⟨L, hL⟩ : ∃ L, L = codesF (memF l) (2 ^ K) := ⟨_, rfl⟩
    rw [← hL] at hf256
    have HL := Lib.hid hL
    have HNIL : Hid (L = [] ↔ l = []) := by show L = [] ↔ l = []; rw [hL]; exact (codes_back HS.out.range).2
    have HASC : Hid (L.Pairwise (· < ·)) := by show L.Pairwise (· < ·); rw [hL]; exact codes_asc _ _
    have HAG : Hid (OfL K L R1 m1) := by show OfL K L R1 m1; rw [hL]; exact HS.out.again
    have HGOT : Hid (∀ x, x ∈ L → ∃ c : Nat, x = c ∧ c < 2 ^ K ∧ has m1 R1 c = true) := fun x hx => HS.out.got (by rw [← hL]; exact hx)
    have HGET : Hid (∀ x, x ∈ l → ∃ c : Nat, x = c ∧ c < 2 ^ K ∧ has m1 R1 c = true) := fun x hx => HS.out.get hx
    have TC := Lib.hid (fun (A : Option Addr) (cap : Nat) (w : World) (hA : NAt w A m1) => codes_t A cap w HS.out hA)
    have TN := Lib.hid (fun (A : Option Addr) (cap : Nat) (w : World) (hA : NAt w A m1) => count_l A cap w HS.out hA)
    rw [← hL] at TC TN
    clear hp hR1 hm1 hL
    obtain ⟨d0, d1, d2⟩ := X1_w4.out.three
    go_wp2_with (first
      | (go_at_call 16; (with_reducible refine (TC.out A1 c1 _ (by exact NAt.of_own O1_w4.out)).mono ?_); rintro e w5 ⟨⟨AL, cL, rfl, ho⟩, hb⟩; have hx := hb; have HB_w5 : Hid (Below w.heap.size w w5) := HB_w4.out.trans (hx.mono HB_w4.out.size); have OL_w5 := Lib.hid (own_below OL_w4.out hx); have O1_w5 := Lib.hid (own_below O1_w4.out hx); have X1_w5 := Lib.hid (X1_w4.out.below hx X1_w4.out.lt); have OB_w5 := Lib.hid (own_mono ho.out (show w.heap.size ≤ _ by have h_ := HB_w4.out.size; first | omega | (simp; omega))); clear d0 d1 d2; clear hx hb; obtain ⟨q2_0, q2_1, q2_2⟩ := (X1_w5.out).three)
      | (go_at_call 17; (with_reducible refine (TN.out A1 c1 _ (by exact NAt.of_own O1_w5.out)).mono ?_); rintro e w6 ⟨rfl, hb⟩; have hx := hb; have HB_w6 : Hid (Below w.heap.size w w6) := HB_w5.out.trans (hx.mono HB_w5.out.size); have OL_w6 := Lib.hid (own_below OL_w5.out hx); have O1_w6 := Lib.hid (own_below O1_w5.out hx); have OB_w6 := Lib.hid (own_below OB_w5.out hx); have X1_w6 := Lib.hid (X1_w5.out.below hx X1_w5.out.lt); clear q2_0 q2_1 q2_2; clear hx hb))
    go_loopw [11] (fun s wr => ∃ j : Nat, j ≤ l.length ∧ Hid (Below w.heap.size w wr) ∧ Hid (World.ownsRow wr w.heap.size 3 1 (.slice Al l.length cl) l.length (l.map (.int .i64))) ∧ Hid (World.ownsRow wr w.heap.size 89 3 (.slice A1 m1.length c1) m1.length (ncells m1)) ∧ Hid (World.ownsRow wr w.heap.size 3 1 (.slice AL L.length cL) L.length (L.map (.int .i64))) ∧ Hid (Blk wr (w2.heap.size) 28 #[.int .i64 (K : Int), .slice A1 m1.length c1, .int .i64 R1]) ∧ s = .int .i64 j) (fun s _ => l.length - (intOf s).toNat)
    case atStart => exact ⟨0, Nat.zero_le _, Lib.hid (HB_w6.out), Lib.hid (OL_w6.out), Lib.hid (O1_w6.out), Lib.hid (OB_w6.out), Lib.hid (X1_w6.out), rfl⟩
    case round =>
      obtain ⟨j, hj, HB_wr, OL_wr, O1_wr, OB_wr, X1_wr, rfl⟩ := hrel
      by_cases hlt : j < l.length
      case pos =>
        obtain ⟨g, rfl, hg, hcell⟩ := (IAt.of_own OL_wr.out) (by omega)
        have ce := hcell j hlt
        have HX := Lib.hid (HGET.out _ (List.getElem_mem hlt))
        clear hcell
        generalize l[j] = x at ce HX
        have hj0 : (0 : Int) ≤ j := by omega
        have hj1 : (j : Int) < (l.length : Int) := by omega
        have K0 := fun x : Ext wr => ext_cell ce hg x
        have K1 := fun x : Ext wr => ext_cell X1_wr.out.three.1 (by have h := X1_wr.out.lt; exact h) x
        have K2 := fun x : Ext wr => ext_cell X1_wr.out.three.2.1 (by have h := X1_wr.out.lt; exact h) x
        have K3 := fun x : Ext wr => ext_cell X1_wr.out.three.2.2 (by have h := X1_wr.out.lt; exact h) x
        go_wp2_with fail
        refine wp_region_ext (by kernel_rfl) (by kernel_rfl) ?_
        repeat go_big_quiet_step ((go_at_call 18; with_reducible (exact ext_below _ (eval_l A1 c1 _ OK.out HX.out hl16 ((NAt.of_own O1_wr.out).below (Subtype.property _))))))
        refine wpQuiet_nil ?_
        intro _ hw'
        obtain ⟨x, hw''⟩ := hw'
        subst hw''
        clear K0 K1 K2 K3
        go_wp2_with fail
        go_roundw
        case rel => exact ⟨j + 1, by omega, HB_wr.out.trans (x.2.mono HB_wr.out.size), own_below OL_wr.out x.2, own_below O1_wr.out x.2, own_below OB_wr.out x.2, X1_wr.out.below x.2 X1_wr.out.lt, by go_num⟩
        case measure => simp [intOf]; omega
      obtain rfl : j = l.length := by omega
      go_wp2_with fail
      go_loopw [12] (fun s wt => ∃ j : Nat, j ≤ L.length ∧ Hid (Below w.heap.size w wt) ∧ Hid (World.ownsRow wt w.heap.size 3 1 (.slice Al l.length cl) l.length (l.map (.int .i64))) ∧ Hid (World.ownsRow wt w.heap.size 89 3 (.slice A1 m1.length c1) m1.length (ncells m1)) ∧ Hid (World.ownsRow wt w.heap.size 3 1 (.slice AL L.length cL) L.length (L.map (.int .i64))) ∧ Hid (Blk wt (w2.heap.size) 28 #[.int .i64 (K : Int), .slice A1 m1.length c1, .int .i64 R1]) ∧ s = .int .i64 j) (fun s _ => L.length - (intOf s).toNat)
      case atStart => exact ⟨0, Nat.zero_le _, Lib.hid (HB_wr.out), Lib.hid (OL_wr.out), Lib.hid (O1_wr.out), Lib.hid (OB_wr.out), Lib.hid (X1_wr.out), rfl⟩
      case round =>
        obtain ⟨wt, rfl⟩ : ∃ x : World, x = wr := ⟨_, rfl⟩
        obtain ⟨i, hi, HB_wt, OL_wt, O1_wt, OB_wt, X1_wt, rfl⟩ := hrel
        by_cases hlt2 : i < L.length
        case pos =>
          obtain ⟨g, rfl, hg, hcell⟩ := (IAt.of_own OB_wt.out) (by omega)
          have ce := hcell i hlt2
          have HX := Lib.hid (HGOT.out _ (List.getElem_mem hlt2))
          have hi0 : (0 : Int) ≤ i := by omega
          have hi1 : (i : Int) < (L.length : Int) := by omega
          rcases Nat.eq_zero_or_pos i with hz | hz
          · clear hcell
            generalize L[i] = y at ce HX
            have hd : decide (0 < (i : Int)) = false := by simp; omega
            have hdn : decide (0 < i) = false := by simp; omega
            have K0 := fun x : Ext wt => ext_cell ce hg x
            have K1 := fun x : Ext wt => ext_cell X1_wt.out.three.1 (by have h := X1_wt.out.lt; exact h) x
            have K2 := fun x : Ext wt => ext_cell X1_wt.out.three.2.1 (by have h := X1_wt.out.lt; exact h) x
            have K3 := fun x : Ext wt => ext_cell X1_wt.out.three.2.2 (by have h := X1_wt.out.lt; exact h) x
            clear hz
            go_wp2_with fail
            refine wp_region_ext (by kernel_rfl) (by kernel_rfl) ?_
            repeat go_big_quiet_step ((go_at_call 18; with_reducible (exact ext_below _ (eval_l A1 c1 _ OK.out HX.out hl16 ((NAt.of_own O1_wt.out).below (Subtype.property _))))))
            refine wpQuiet_nil ?_
            intro _ hw'
            obtain ⟨x, hw''⟩ := hw'
            subst hw''
            clear K0 K1 K2 K3
            go_wp2_with fail
            go_roundw
            case rel => exact ⟨i + 1, by omega, HB_wt.out.trans (x.2.mono HB_wt.out.size), own_below OL_wt.out x.2, own_below O1_wt.out x.2, own_below OB_wt.out x.2, X1_wt.out.below x.2 X1_wt.out.lt, by go_num⟩
            case measure => simp [intOf]; omega
          · have cd := hcell (i - 1) (by omega)
            have hlt3 := (List.pairwise_iff_getElem.1 HASC.out) (i - 1) i (by omega) hlt2 (by omega)
            clear hcell
            generalize L[i] = y at ce HX hlt3
            generalize L[i - 1] = y' at cd hlt3
            have hd : decide (0 < (i : Int)) = true := by simp; omega
            have hdn : decide (0 < i) = true := by simp; omega
            have e1 : IntKind.i64.wrap ((i : Int) - 1) = (i : Int) - 1 := wrap_eq (by omega) (by omega)
            have e2 : ((i : Int) - 1).toNat = i - 1 := by omega
            have e3 : (0 : Int) ≤ (i : Int) - 1 := by omega
            have e4 : (i : Int) - 1 < (L.length : Int) := by omega
            have e5 : decide (y ≤ y') = false := by simp; omega
            have K0 := fun x : Ext wt => ext_cell ce hg x
            have K4 := fun x : Ext wt => ext_cell cd hg x
            have K1 := fun x : Ext wt => ext_cell X1_wt.out.three.1 (by have h := X1_wt.out.lt; exact h) x
            have K2 := fun x : Ext wt => ext_cell X1_wt.out.three.2.1 (by have h := X1_wt.out.lt; exact h) x
            have K3 := fun x : Ext wt => ext_cell X1_wt.out.three.2.2 (by have h := X1_wt.out.lt; exact h) x
            clear hz hlt3
            go_wp2_with fail
            refine wp_region_ext (by kernel_rfl) (by kernel_rfl) ?_
            repeat go_big_quiet_step ((go_at_call 18; with_reducible (exact ext_below _ (eval_l A1 c1 _ OK.out HX.out hl16 ((NAt.of_own O1_wt.out).below (Subtype.property _))))))
            refine wpQuiet_nil ?_
            intro _ hw'
            obtain ⟨x, hw''⟩ := hw'
            subst hw''
            clear K0 K1 K2 K3 K4 e1 e2 e3 e4 e5
            go_wp2_with fail
            go_roundw
            case rel => exact ⟨i + 1, by omega, HB_wt.out.trans (x.2.mono HB_wt.out.size), own_below OL_wt.out x.2, own_below O1_wt.out x.2, own_below OB_wt.out x.2, X1_wt.out.below x.2 X1_wt.out.lt, by go_num⟩
            case measure => simp [intOf]; omega
        obtain rfl : i = L.length := by omega
        rcases Nat.eq_zero_or_pos L.length with hz | hz
        · have hLn : L = [] := List.eq_nil_of_length_eq_zero hz
          have hln := HNIL.out.1 hLn
          have TLL := Lib.hid (fun (A : Option Addr) (cap : Nat) (w : World) (hA : NAt w A m1) => least_0 A cap w HS.out HL.out hz hA)
          have hd : decide (0 < (l.length : Int)) = false := by rw [hln]; rfl
          have hdn : decide (0 < l.length) = false := by rw [hln]; rfl
          clear hLn hln hz
          go_wp2_with (first
            | (go_at_call 13; (with_reducible refine (implFrom_any (K : Int) AL cL L _ (by exact IAt.of_own OB_wt.out) (by omega)).mono ?_); rintro e w7 ⟨hmk, hb⟩; obtain ⟨A3, c3, rfl, ho⟩ := hmk.knownN HAG.out.from_ HAG.out.mk_ hl16; clear hmk; have hx := hb; have HB_w7 : Hid (Below w.heap.size w w7) := HB_wt.out.trans (hx.mono HB_wt.out.size); have OL_w7 := Lib.hid (own_below OL_wt.out hx); have O1_w7 := Lib.hid (own_below O1_wt.out hx); have OB_w7 := Lib.hid (own_below OB_wt.out hx); have X1_w7 := Lib.hid (X1_wt.out.below hx X1_wt.out.lt); have O3_w7 := Lib.hid (own_mono ho.out (show w.heap.size ≤ _ by have h_ := HB_wt.out.size; first | omega | (simp; omega))); clear hx hb; obtain ⟨q3_0, q3_1, q3_2⟩ := ((X1_w7.out.alloc (.cells #[.int .i64 (K : Int), .slice A3 m1.length c3, .int .i64 R1] 28))).three)
            | (go_at_call 19; (with_reducible refine (TLL.out A1 c1 _ (by exact NAt.of_own (O1_w7.out.alloc _))).mono ?_); rintro e w8 ⟨rfl, hb⟩; have hx : Below w7.heap.size w7 w8 := ((Below.refl w7.heap.size w7).alloc (Nat.le_refl _) _).trans (hb.mono (by simp)); have HB_w8 : Hid (Below w.heap.size w w8) := HB_w7.out.trans (hx.mono HB_w7.out.size); have OL_w8 := Lib.hid (own_below OL_w7.out hx); have O1_w8 := Lib.hid (own_below O1_w7.out hx); have OB_w8 := Lib.hid (own_below OB_w7.out hx); have O3_w8 := Lib.hid (own_below O3_w7.out hx); have X1_w8 := Lib.hid (X1_w7.out.below hx X1_w7.out.lt); have X3_w8 : Hid (Blk w8 (w7.heap.size) 28 #[.int .i64 (K : Int), .slice A3 m1.length c3, .int .i64 R1]) := (Blk.new_at _ 28 #[.int .i64 (K : Int), .slice A3 m1.length c3, .int .i64 R1] (g := w7.heap.size) (by simp)).below hb (by simp); clear q3_0 q3_1 q3_2; clear hx hb; obtain ⟨q4_0, q4_1, q4_2⟩ := (X3_w8.out).three; obtain ⟨q5_0, q5_1, q5_2⟩ := (X1_w8.out).three)
            | (go_at_call 15; (with_reducible refine (same_yesN A3 A1 c3 c1 _ (by exact NAt.of_own O3_w8.out) (by exact NAt.of_own O1_w8.out) (by omega)).mono ?_); rintro e w9 ⟨rfl, hb⟩; have hx := hb; have HB_w9 : Hid (Below w.heap.size w w9) := HB_w8.out.trans (hx.mono HB_w8.out.size); have OL_w9 := Lib.hid (own_below OL_w8.out hx); have O1_w9 := Lib.hid (own_below O1_w8.out hx); have OB_w9 := Lib.hid (own_below OB_w8.out hx); have O3_w9 := Lib.hid (own_below O3_w8.out hx); have X1_w9 := Lib.hid (X1_w8.out.below hx X1_w8.out.lt); have X3_w9 := Lib.hid (X3_w8.out.below hx X3_w8.out.lt); clear q4_0 q4_1 q4_2 q5_0 q5_1 q5_2; clear hx hb))
          go_ret
          exact ⟨rfl, HB_w9.out⟩
        · have hln : 0 < l.length := Nat.pos_of_ne_zero fun h => by have := HNIL.out.2 (List.eq_nil_of_length_eq_zero h); rw [this] at hz; simp at hz
          have TLL := Lib.hid (fun (A : Option Addr) (cap : Nat) (w : World) (hA : NAt w A m1) => least_p A cap w HS.out HL.out hz hA)
          have hd : decide (0 < (l.length : Int)) = true := by simp; omega
          have hdn : decide (0 < l.length) = true := by simp; omega
          obtain ⟨g, rfl, hg, hcell⟩ := (IAt.of_own OB_wt.out) hz
          have ce := Lib.hid (hcell 0 hz)
          clear hcell hln
          generalize L[0] = y at ce TLL
          have hzl : (0 : Int) < (L.length : Int) := by omega
          go_wp2_with (first
            | (go_at_call 13; (with_reducible refine (implFrom_any (K : Int) (some ⟨g, 0, none⟩) cL L _ (by exact IAt.of_own OB_wt.out) (by omega)).mono ?_); rintro e w7 ⟨hmk, hb⟩; obtain ⟨A3, c3, rfl, ho⟩ := hmk.knownN HAG.out.from_ HAG.out.mk_ hl16; clear hmk; have hx := hb; have HB_w7 : Hid (Below w.heap.size w w7) := HB_wt.out.trans (hx.mono HB_wt.out.size); have OL_w7 := Lib.hid (own_below OL_wt.out hx); have O1_w7 := Lib.hid (own_below O1_wt.out hx); have OB_w7 := Lib.hid (own_below OB_wt.out hx); have X1_w7 := Lib.hid (X1_wt.out.below hx X1_wt.out.lt); have O3_w7 := Lib.hid (own_mono ho.out (show w.heap.size ≤ _ by have h_ := HB_wt.out.size; first | omega | (simp; omega))); clear hx hb; obtain ⟨q6_0, q6_1, q6_2⟩ := ((X1_w7.out.alloc (.cells #[.int .i64 (K : Int), .slice A3 m1.length c3, .int .i64 R1] 28))).three)
            | (go_at_call 19; (with_reducible refine (TLL.out A1 c1 _ (by exact NAt.of_own (O1_w7.out.alloc _))).mono ?_); rintro e w8 ⟨rfl, hb⟩; have hx : Below w7.heap.size w7 w8 := ((Below.refl w7.heap.size w7).alloc (Nat.le_refl _) _).trans (hb.mono (by simp)); have HB_w8 : Hid (Below w.heap.size w w8) := HB_w7.out.trans (hx.mono HB_w7.out.size); have OL_w8 := Lib.hid (own_below OL_w7.out hx); have O1_w8 := Lib.hid (own_below O1_w7.out hx); have OB_w8 := Lib.hid (own_below OB_w7.out hx); have O3_w8 := Lib.hid (own_below O3_w7.out hx); have X1_w8 := Lib.hid (X1_w7.out.below hx X1_w7.out.lt); have X3_w8 : Hid (Blk w8 (w7.heap.size) 28 #[.int .i64 (K : Int), .slice A3 m1.length c3, .int .i64 R1]) := (Blk.new_at _ 28 #[.int .i64 (K : Int), .slice A3 m1.length c3, .int .i64 R1] (g := w7.heap.size) (by simp)).below hb (by simp); clear q6_0 q6_1 q6_2; clear hx hb; obtain ⟨q7_0, q7_1, q7_2⟩ := (X3_w8.out).three; obtain ⟨q8_0, q8_1, q8_2⟩ := (X1_w8.out).three)
            | (go_at_call 15; (with_reducible refine (same_yesN A3 A1 c3 c1 _ (by exact NAt.of_own O3_w8.out) (by exact NAt.of_own O1_w8.out) (by omega)).mono ?_); rintro e w9 ⟨rfl, hb⟩; have hx := hb; have HB_w9 : Hid (Below w.heap.size w w9) := HB_w8.out.trans (hx.mono HB_w8.out.size); have OL_w9 := Lib.hid (own_below OL_w8.out hx); have O1_w9 := Lib.hid (own_below O1_w8.out hx); have OB_w9 := Lib.hid (own_below OB_w8.out hx); have O3_w9 := Lib.hid (own_below O3_w8.out hx); have X1_w9 := Lib.hid (X1_w8.out.below hx X1_w8.out.lt); have X3_w9 := Lib.hid (X3_w8.out.below hx X3_w8.out.lt); clear q7_0 q7_1 q7_2 q8_0 q8_1 q8_2; clear hx hb; have cc := int_at OB_w9.out hz ce.out OB_wt.out))
          go_ret
          exact ⟨rfl, HB_w9.out⟩
end Go.Proofs.Ytffefegjnbfobaa
