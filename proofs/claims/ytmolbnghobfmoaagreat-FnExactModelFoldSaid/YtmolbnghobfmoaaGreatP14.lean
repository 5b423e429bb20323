/- Part 14 of what the row Row28 rests on: F6 Mb F7. -/
import Derived.Test.YtmolbnghobfmoaaGreatP1
import Derived.Test.YtmolbnghobfmoaaGreatP9
set_option maxRecDepth 100000
set_option maxHeartbeats 16000000
set_option linter.unusedSimpArgs false
set_option linter.unusedVariables false
namespace Go.Proofs.YtmolbnghobfmoaaGreat
open Go.RowKit
theorem zI9 {a b c d : Int} {x : Bool} (h : decide (a = c ∧ b = d) = x) (w : World) : (binOp .neq 40 (.agg #[.int .i64 a, .int .i64 b]) (.agg #[.int .i64 c, .int .i64 d])).run Tryz.prog w = .ok (.bool (!x)) w := by
 subst h
 by_cases h1 : a = c
 · subst h1
   by_cases h2 : b = d
   · subst h2; simp [go_sem]
   · have : (b == d) = false := by simpa using h2
     simp [go_sem, h2, this]
 · have : (a == c) = false := by simpa using h1
   simp [go_sem, h1, this]
theorem zIg {l : List No} {i : Nat} (h : i < l.length) (A : Option Addr) (ci : Nat) (w : World) (hA : zA9 w A l) (hl : l.length ≤ 1048576) (ht : (l[i]).t.size ≤ 1048576) :
 Calls Tryz.prog 139 #[.slice A i ci, .agg #[.int .i64 (l[i]).k, .int .i64 (l[i]).a, .int .i64 (l[i]).b, .int .i64 (l[i]).c, .int .i64 (l[i]).n, .int .i64 (l[i]).m, .int .i64 (l[i]).s.i, .int .i64 (l[i]).s.w, .string (l[i]).t]] w fun e w' => NsP (zIe (l.take i) l[i]) w e w' := by
 have := zIf A ci (l.take i) (l[i]).k (l[i]).a (l[i]).b (l[i]).c (l[i]).n (l[i]).m (l[i]).s.i (l[i]).s.w (l[i]).t w (hA.take i) (by rw [List.length_take]; omega) ht
 rw [List.length_take, Nat.min_eq_left (by omega)] at this
 exact this
theorem zIh (A : Option Addr) (ci : Nat) (l : List No) (x1 x2 x3 x4 : Value) (w : World) (hA : zA9 w A l) (hl : l.length ≤ 1048576) (hci : l.length ≤ ci) (ht : ∀ n ∈ l, n.t.size ≤ 1048576) :
 Calls Tryz.prog 82 #[.agg #[.slice A l.length ci, x1, x2, x3, x4]] w fun e w' => zAg (zAb l) e ∧ Below w.heap.size w w' := by
 have HA := Kh hA; have HT := Kh ht; clear hA ht; have HB0 := bx w #[.slice A l.length ci, x1, x2, x3, x4] 31; have HX0 := nx w #[.slice A l.length ci, x1, x2, x3, x4] 31
 go_enter Tryz.func82, Tryz.ntmps82
 go_wp2_with fail
 go_loopw [10] (fun i wr => ∃ r : Nat, r ≤ l.length ∧ Hid (∀ j (h : j < l.length), j < r → zAa (l.take j) l[j]) ∧ Hid (Below w.heap.size w wr) ∧ Hid (Blk wr w.heap.size 31 #[.slice A l.length ci, x1, x2, x3, x4]) ∧ i = .int .i64 (r : Int)) (fun i _ => l.length - (intOf i).toNat)
 case atStart => exact ⟨0, Nat.zero_le _, fun j h hj => absurd hj (by omega), HB0, HX0, rfl⟩
 case round =>
  obtain ⟨wz, rfl⟩ : ∃ x : World, x = wr := ⟨_, rfl⟩
  obtain ⟨r, hr, HSo, HBr, HXr, rfl⟩ := hrel
  by_cases hlt : r < l.length
  case neg =>
   obtain rfl : r = l.length := by omega
   have HOK : Hid (zAb l) := Kh (fun i hi => HSo.out i hi hi)
   go_wp2_with fail
   go_ret
   exact ⟨.yes HOK.out, HBr.out⟩
  have hj0 : (0 : Int) ≤ (r : Int) := by omega
  have hj1 : (r : Int) < (l.length : Int) := by omega
  have hj2 : (r : Int) ≤ (ci : Int) := by omega
  have e1 := wr1 (r := r) (by omega)
  obtain ⟨g, rfl, hg, hc⟩ := (HA.out.below HBr.out) (by omega)
  obtain ⟨y0, y1, y2, y3, y4, y5, y6, y7, y8⟩ := hc r hlt; have z0 : wz.cell? ⟨w.heap.size, 0, none⟩ = some (.slice (some ⟨g, 0, none⟩) l.length ci) := by rw [HXr.out.cell]; rfl
  obtain ⟨n, hn⟩ : ∃ n, l[r] = n := ⟨_, rfl⟩
  obtain ⟨S, B, HSB, T⟩ : ∃ (S : So) (B : Bool), Hid (zIe (l.take r) n = if B = true then some S else none) ∧ Hid (∀ W, Below wz.heap.size wz W → Calls Tryz.prog 139 #[.slice (some ⟨g, 0, none⟩) r ci, .agg #[.int .i64 n.k, .int .i64 n.a, .int .i64 n.b, .int .i64 n.c, .int .i64 n.n, .int .i64 n.m, .int .i64 n.s.i, .int .i64 n.s.w, .string n.t]] W fun e w' => e = .returned (.tuple #[.agg #[.int .i64 S.i, .int .i64 S.w], .bool B]) ∧ Below W.heap.size W w') := by
   have T := fun W (hb : Below wz.heap.size wz W) => zIg hlt (some ⟨g, 0, none⟩) ci W ((HA.out.below HBr.out).below hb) hl (HT.out _ (List.getElem_mem hlt))
   rw [hn] at T
   cases ho : zIe (l.take r) n with
   | some s => exact ⟨s, true, Kh rfl, Kh (fun W hb => (T W hb).mono fun e w' ⟨h1, h2⟩ => by
       rcases h1 with ⟨s', h3, h4⟩ | ⟨h3, _⟩
       · rw [ho] at h3; injection h3 with h3; subst h3; exact ⟨h4, h2⟩
       · rw [ho] at h3; cases h3)⟩
   | none => exact ⟨⟨0, 0⟩, false, Kh rfl, Kh (fun W hb => (T W hb).mono fun e w' ⟨h1, h2⟩ => by
       rcases h1 with ⟨s', h3, _⟩ | ⟨_, h4⟩
       · rw [ho] at h3; cases h3
       · exact ⟨h4, h2⟩)⟩
  have HNE := Kh hn; rw [hn] at y0 y1 y2 y3 y4 y5 y6 y7 y8; have BN : Hid (Blk (wz.alloc (.cells #[.int .i64 n.k, .int .i64 n.a, .int .i64 n.b, .int .i64 n.c, .int .i64 n.n, .int .i64 n.m, .int .i64 n.s.i, .int .i64 n.s.w, .string n.t] 42)) wz.heap.size 42 #[.int .i64 n.k, .int .i64 n.a, .int .i64 n.b, .int .i64 n.c, .int .i64 n.n, .int .i64 n.m, .int .i64 n.s.i, .int .i64 n.s.w, .string n.t]) := Blk.new _ _ _; have BM := Kh (HXr.out.alloc (.cells #[.int .i64 n.k, .int .i64 n.a, .int .i64 n.b, .int .i64 n.c, .int .i64 n.n, .int .i64 n.m, .int .i64 n.s.i, .int .i64 n.s.w, .string n.t] 42)); have BZ : Hid (Below wz.heap.size wz (wz.alloc (.cells #[.int .i64 n.k, .int .i64 n.a, .int .i64 n.b, .int .i64 n.c, .int .i64 n.n, .int .i64 n.m, .int .i64 n.s.i, .int .i64 n.s.w, .string n.t] 42))) := (Below.refl _ _).alloc (Nat.le_refl _) _; clear hc hn
  go_wp2_with fail
  generalize (wz.alloc (.cells #[.int .i64 n.k, .int .i64 n.a, .int .i64 n.b, .int .i64 n.c, .int .i64 n.n, .int .i64 n.m, .int .i64 n.s.i, .int .i64 n.s.w, .string n.t] 42)) = X at BN BM BZ ⊢; have key : ∀ (W : World), Blk W wz.heap.size 42 #[.int .i64 n.k, .int .i64 n.a, .int .i64 n.b, .int .i64 n.c, .int .i64 n.n, .int .i64 n.m, .int .i64 n.s.i, .int .i64 n.s.w, .string n.t] → Blk W w.heap.size 31 #[.slice (some ⟨g, 0, none⟩) l.length ci, x1, x2, x3, x4] → W.cell? ⟨w.heap.size, 0, none⟩ = some (.slice (some ⟨g, 0, none⟩) l.length ci) ∧ W.cell? ⟨wz.heap.size, 0, none⟩ = some (.int .i64 n.k) ∧ W.cell? ⟨wz.heap.size, 1, none⟩ = some (.int .i64 n.a) ∧ W.cell? ⟨wz.heap.size, 2, none⟩ = some (.int .i64 n.b) ∧ W.cell? ⟨wz.heap.size, 3, none⟩ = some (.int .i64 n.c) ∧ W.cell? ⟨wz.heap.size, 4, none⟩ = some (.int .i64 n.n) ∧ W.cell? ⟨wz.heap.size, 5, none⟩ = some (.int .i64 n.m) ∧ W.cell? ⟨wz.heap.size, 6, none⟩ = some (.int .i64 n.s.i) ∧ W.cell? ⟨wz.heap.size, 7, none⟩ = some (.int .i64 n.s.w) ∧ W.cell? ⟨wz.heap.size, 8, none⟩ = some (.string n.t) := fun W h1 h2 => ⟨by rw [h2.cell]; rfl, h1.nine.1, h1.nine.2.1, h1.nine.2.2.1, h1.nine.2.2.2.1, h1.nine.2.2.2.2.1, h1.nine.2.2.2.2.2.1, h1.nine.2.2.2.2.2.2.1, h1.nine.2.2.2.2.2.2.2.1, h1.nine.2.2.2.2.2.2.2.2⟩
  have KEY := Kh key; clear key
  go_cut [5, 6] (fun s5 s6 wc => ∃ gb : Nat, s5 = .pointer (some ⟨gb, 0, none⟩) ∧ s6 = .bool B ∧ Hid (Blk wc gb 40 #[.int .i64 S.i, .int .i64 S.w]) ∧ Hid (Blk wc wz.heap.size 42 #[.int .i64 n.k, .int .i64 n.a, .int .i64 n.b, .int .i64 n.c, .int .i64 n.n, .int .i64 n.m, .int .i64 n.s.i, .int .i64 n.s.w, .string n.t]) ∧ Hid (Blk wc w.heap.size 31 #[.slice (some ⟨g, 0, none⟩) l.length ci, x1, x2, x3, x4]) ∧ Hid (Below w.heap.size w wc))
  case first =>
   (go_region_held3 (fun W => W.cell? ⟨w.heap.size, 0, none⟩ = some (.slice (some ⟨g, 0, none⟩) l.length ci) ∧ W.cell? ⟨wz.heap.size, 0, none⟩ = some (.int .i64 n.k) ∧ W.cell? ⟨wz.heap.size, 1, none⟩ = some (.int .i64 n.a) ∧ W.cell? ⟨wz.heap.size, 2, none⟩ = some (.int .i64 n.b) ∧ W.cell? ⟨wz.heap.size, 3, none⟩ = some (.int .i64 n.c) ∧ W.cell? ⟨wz.heap.size, 4, none⟩ = some (.int .i64 n.n) ∧ W.cell? ⟨wz.heap.size, 5, none⟩ = some (.int .i64 n.m) ∧ W.cell? ⟨wz.heap.size, 6, none⟩ = some (.int .i64 n.s.i) ∧ W.cell? ⟨wz.heap.size, 7, none⟩ = some (.int .i64 n.s.w) ∧ W.cell? ⟨wz.heap.size, 8, none⟩ = some (.string n.t)) (first
    | exact KEY.out _ BN.out.drew BM.out.drew
    | exact KEY.out _ (BN.out.drew.alloc _) (BM.out.drew.alloc _)
    | exact KEY.out _ BN3.out BM3.out
    | exact KEY.out _ (BN3.out.alloc _) (BM3.out.alloc _)
    | exact KEY.out _ ((BN3.out.far (p := ⟨X.heap.size, 0, none⟩) NN.out _).far (p := ⟨X.heap.size, 1, none⟩) NN.out _) ((BM3.out.far (p := ⟨X.heap.size, 0, none⟩) NM.out _).far (p := ⟨X.heap.size, 1, none⟩) NM.out _)) (first
    | (go_at_call 139; refine (T.out X.drew BZ.out.drew).mono ?_; rintro e w3 ⟨rfl, hb3⟩; have HX3 := Kh ((Below.refl X.heap.size X).drew.trans hb3); have BN3 := Kh (BN.out.below HX3.out BN.out.lt); have BM3 := Kh (BM.out.below HX3.out BM.out.lt); clear hb3)
    | (go_at_call 139; refine (T.out (X.drew.alloc (.cells #[.int .i64 0, .int .i64 0] 40)) (BZ.out.drew.alloc BZ.out.size _)).mono ?_; rintro e w3 ⟨rfl, hb3⟩; have HX3 := Kh (((Below.refl X.heap.size X).drew.alloc (Nat.le_refl _) (.cells #[.int .i64 0, .int .i64 0] 40)).trans (hb3.mono (by simp))); have BN3 := Kh (BN.out.below HX3.out BN.out.lt); have BM3 := Kh (BM.out.below HX3.out BM.out.lt); have Z3 : Hid (Blk w3 X.heap.size 40 #[.int .i64 0, .int .i64 0]) := (Blk.new X.drew _ _).below hb3 (by simp); have NN := Kh (Nat.ne_of_lt BN.out.lt); have NM := Kh (Nat.ne_of_lt BM.out.lt); obtain ⟨q0, q1⟩ := Z3.out.two; have q2 := Z3.out.frozen 0; have q3 := Z3.out.frozen 1; clear hb3)))
   all_goals
    go_wp2_with fail
    go_meet
    case rel =>
     have hw3 : Below w.heap.size w w3 := HBr.out.trans ((BZ.out.trans (HX3.out.mono BZ.out.size)).mono HBr.out.size)
     first
      | exact ⟨X.heap.size, rfl, rfl, Z3.out.put2 _ _, (BN3.out.far (p := ⟨X.heap.size, 0, none⟩) NN.out _).far (p := ⟨X.heap.size, 1, none⟩) NN.out _, (BM3.out.far (p := ⟨X.heap.size, 0, none⟩) NM.out _).far (p := ⟨X.heap.size, 1, none⟩) NM.out _, zB2 hw3 (by have := HBr.out.size; have := BZ.out.size; omega) _ _⟩
      | exact ⟨w3.heap.size, rfl, rfl, Blk.new w3 _ _, BN3.out.alloc _, BM3.out.alloc _, hw3.alloc hw3.size _⟩
  case rest =>
   obtain ⟨gb, rfl, rfl, BG, BN, BM, HBc⟩ := hcut; obtain ⟨v0, v1⟩ := BG.out.two; obtain ⟨c0, c1, c2, c3, c4, c5, c6, c7, c8⟩ := BN.out.nine
   cases B with
   | false =>
    have HNO : Hid (¬ zAb l) := Kh (fun h => by have g1 := h r hlt; have g2 := HSB.out; rw [HNE.out] at g1; unfold zAa at g1; rw [g1] at g2; cases g2)
    go_wp2_with fail
    go_ret
    exact ⟨.no HNO.out, HBc.out⟩
   | true =>
    obtain ⟨x, hx⟩ : ∃ x, decide (S.i = n.s.i ∧ S.w = n.s.w) = x := ⟨_, rfl⟩
    have q := fun w => zI9 hx w
    have HXX := Kh hx; clear hx
    cases x with
    | true =>
     have HI : Hid (∀ j (h : j < l.length), j < r + 1 → zAa (l.take j) l[j]) := Kh (fun j h hj => by
      by_cases e : j = r
      · subst e; rw [HNE.out]; unfold zAa; rw [HSB.out, if_pos rfl, So.ext_iff.2 (of_decide_eq_true HXX.out)]
      · exact HSo.out j h (by omega))
     go_wp2_with fail
     go_roundw
     case rel => exact ⟨r + 1, by omega, HI, HBc, BM, by go_num⟩
     case measure => simp [intOf]; omega
    | false =>
     have HNO : Hid (¬ zAb l) := Kh (fun h => by have g1 := h r hlt; have g2 := HSB.out; rw [HNE.out] at g1; unfold zAa at g1; rw [g1, if_pos rfl] at g2; injection g2 with g2; exact of_decide_eq_false HXX.out (by rw [g2]; exact ⟨rfl, rfl⟩))
     go_wp2_with fail
     go_ret
     exact ⟨.no HNO.out, HBc.out⟩
end Go.Proofs.YtmolbnghobfmoaaGreat
namespace Go.Proofs.YtmolbnghobfmoaaGreat
open Go.RowKit
open Go.Maps (Keyed)
def zA7 (w : World) (k : TypeId) (b n : Nat) (F : Value → Bool) : Prop :=
 ∃ D : DataW Unit, w.ownsMap Tryz.prog k (plainElem Tryz.prog 4) b n D ∧ ∀ v kl, keyOf Tryz.prog k v = some kl → D.atKey kl (.lit (.bool false)) = .lit (.bool (F v))
theorem zA7.lt {w : World} {k : TypeId} {b n : Nat} {F : Value → Bool} (h : zA7 w k b n F) : b < w.heap.size := by
 obtain ⟨D, h, _⟩ := h
 exact h.lt
theorem zA7.of_block {w w' : World} {k : TypeId} {b n : Nat} {F : Value → Bool} (h : zA7 w k b n F) (hb : w'.heap[b]? = w.heap[b]?) : zA7 w' k b n F := by
 obtain ⟨D, ⟨es, clock, h1, h2⟩, h3⟩ := h
 exact ⟨D, ⟨es, clock, hb.trans h1, h2⟩, h3⟩
theorem zA7.below {w w' : World} {k : TypeId} {b n B : Nat} {F : Value → Bool} (h : zA7 w k b n F) (hb : Below B w w') (hlt : b < B) : zA7 w' k b n F := h.of_block (hb.block b hlt)
theorem zA7.alloc {w : World} {k : TypeId} {b n : Nat} {F : Value → Bool} (h : zA7 w k b n F) (o : Obj) : zA7 (w.alloc o) k b n F := h.of_block (Below.heap_alloc w o b h.lt)
theorem zA7.made (w : World) (k : TypeId) : zA7 (w.alloc (.map #[] 0)) k w.heap.size 0 (fun _ => false) :=
 ⟨.map [], World.ownsMap_made w _ _ _, fun _ _ _ => rfl⟩
theorem zRb (w : World) : (zeroValue 4).run Tryz.prog w = .ok (.bool false) w := by kernel_rfl
theorem zK7 {H : Type} {P : Program} {e : TypeId} (he : P.underlying e = some .bool) {v : Value} {z : DataW H × List MemPlace} (h : plainElem P e v = some z) : ∃ a, v = .bool a ∧ z = (.lit (.bool a), []) := by
 unfold plainElem at h; rw [he] at h
 cases v <;> simp at h
 exact ⟨_, rfl, h.symm⟩
theorem zA7.look {w : World} {k t : TypeId} {b n : Nat} {F : Value → Bool} (h : zA7 w k b n F) (K : Keyed Tryz.prog k) (ht : Tryz.prog.underlying t = some (.map k 4)) {key : Value} {kl : Lit} (hkey : keyOf Tryz.prog k key = some kl) :
 (Instr.lookup t (.map (some b)) key false).run Tryz.prog w = .ok (.bool (F key)) w := by
 obtain ⟨D, hown, hF⟩ := h; obtain ⟨v, ps, hrun, hv⟩ := hown.lookup K ht (zRb w) (plainElem_bool (H := Unit) Tryz.underlying4 false) hkey; obtain ⟨c, rfl, hc⟩ := zK7 Tryz.underlying4 hv; have h1 := (hF key kl hkey).symm.trans (congrArg Prod.fst hc); injection h1 with h1
 injection h1 with h1
 rw [hrun, h1]
theorem zA7.store {w : World} {k t : TypeId} {b n : Nat} {F : Value → Bool} (h : zA7 w k b n F) (K : Keyed Tryz.prog k) (ht : Tryz.prog.underlying t = some (.map k 4)) (hn : n < maxLen) {key : Value} {kl : Lit} (hkey : keyOf Tryz.prog k key = some kl) (x : Bool) :
 ∃ w', (Instr.mapUpdate t (.map (some b)) key (.bool x)).run Tryz.prog w = .ok () w' ∧ w.grownBy w' (some b) ∧ ∀ F' : Value → Bool, F' key = x → (∀ v, v ≠ key → F' v = F v) → zA7 w' k b (n + 1) F' := by
 obtain ⟨D, hown, hF⟩ := h; obtain ⟨w', hrun, hown', hg⟩ := hown.update K ht hn hkey (plainElem_bool (H := Unit) Tryz.underlying4 x)
 refine ⟨w', hrun, hg, fun F' h1 h2 => ⟨_, hown', fun v kv hkv => ?_⟩⟩
 by_cases e : v = key
 · subst e
   rw [hkey] at hkv; injection hkv with hkv
   subst hkv; rw [h1]
   exact Maps.atKey_put_same hown.isMap (K.key hkey) _ _
 · have hne : kv ≠ kl := fun h => e (K.inj hkv (h ▸ hkey))
   rw [h2 v e, Maps.atKey_put_other hne]
   exact hF v kv hkv
theorem zFt : Keyed Tryz.prog 9 := Go.Maps.string_keyed Tryz.underlying9
theorem zFr (s : ByteArray) (hs : s.size ≤ maxLen) : keyOf Tryz.prog 9 (.string s) = some (.string s.data.toList) := WideMaps.keyOf_string_mk Tryz.underlying9 hs
theorem zFs : Keyed Tryz.prog 3 := Go.Maps.int_keyed Tryz.underlying3
def zEo (x : Int) : Prop := (Lit.int .i64 x).wf = true
theorem zFq (x : Int) (hx : zEo x) : keyOf Tryz.prog 3 (.int .i64 x) = some (.int .i64 x) := Go.Maps.keyOf_int_mk Tryz.underlying3 hx
def zA1 (w : World) (A : Option Addr) (l : List Bi) : Prop :=
 0 < l.length → ∃ g, A = some ⟨g, 0, none⟩ ∧ g < w.heap.size ∧ ∀ k (h : k < l.length), w.cell? ⟨g, k * 2, none⟩ = some (.int .i64 l[k].st) ∧ w.cell? ⟨g, k * 2 + 1, none⟩ = some (.int .i64 l[k].nd)
theorem zA1.below {w w' : World} {A : Option Addr} {l : List Bi} (h : zA1 w A l) (hb : Below w.heap.size w w') : zA1 w' A l := fun hp => by
 obtain ⟨g, rfl, hg, hc⟩ := h hp
 refine ⟨g, rfl, Nat.lt_of_lt_of_le hg hb.size, fun k hk => ?_⟩
 have e : ∀ j, w'.cell? ⟨g, j, none⟩ = w.cell? ⟨g, j, none⟩ := fun j => hb.cell (p := ⟨g, j, none⟩) hg
 rw [e, e]
 exact hc k hk
open Classical in
noncomputable def zI0 (l : List No) (v : Value) : Bool := decide (∃ n ∈ l, v = .string n.t)
open Classical in
noncomputable def zOf (l : List Bi) (v : Value) : Bool := decide (∃ b ∈ l, v = .int .i64 b.st)
open Classical in
theorem zI1 {l : List No} {r : Nat} (h : r < l.length) : zI0 (l.take (r + 1)) (.string (l[r]).t) = true ∧ ∀ v, v ≠ .string (l[r]).t → zI0 (l.take (r + 1)) v = zI0 (l.take r) v := by
 unfold zI0; constructor
 · exact decide_eq_true ⟨l[r], List.mem_take_iff_getElem.2 ⟨r, by omega, rfl⟩, rfl⟩
 · intro v hv
   apply decide_eq_decide.2
   rw [List.take_succ_eq_append_getElem h]; constructor
   · rintro ⟨n, hn, e⟩
     rcases List.mem_append.1 hn with hn | hn
     · exact ⟨n, hn, e⟩
     · rw [List.mem_singleton] at hn; subst hn; exact (hv e).elim
   · rintro ⟨n, hn, e⟩; exact ⟨n, List.mem_append_left _ hn, e⟩
open Classical in
theorem zOg {l : List Bi} {r : Nat} (h : r < l.length) : zOf (l.take (r + 1)) (.int .i64 (l[r]).st) = true ∧ ∀ v, v ≠ .int .i64 (l[r]).st → zOf (l.take (r + 1)) v = zOf (l.take r) v := by
 unfold zOf; constructor
 · exact decide_eq_true ⟨l[r], List.mem_take_iff_getElem.2 ⟨r, by omega, rfl⟩, rfl⟩
 · intro v hv
   apply decide_eq_decide.2
   rw [List.take_succ_eq_append_getElem h]; constructor
   · rintro ⟨n, hn, e⟩
     rcases List.mem_append.1 hn with hn | hn
     · exact ⟨n, hn, e⟩
     · rw [List.mem_singleton] at hn; subst hn; exact (hv e).elim
   · rintro ⟨n, hn, e⟩; exact ⟨n, List.mem_append_left _ hn, e⟩
def zI2 (l : List No) (r : Nat) : Prop := ∃ i j, j < i ∧ i < r ∧ (noAt l i).t.size ≠ 0 ∧ (noAt l i).t = (noAt l j).t
def zOh (l : List Bi) (r : Nat) : Prop := ∃ i j, j < i ∧ i < r ∧ (l.getD i default).st = (l.getD j default).st
theorem zI3 (l : List No) : zI2 l l.length ↔ zI5 l := Iff.rfl
theorem zOi (l : List Bi) : zOh l l.length ↔ zOk l := Iff.rfl
open Classical in
theorem zI4 {l : List No} {r : Nat} (h : r < l.length) (hno : ¬ zI2 l r) : zI2 l (r + 1) ↔ (l[r]).t.size ≠ 0 ∧ zI0 (l.take r) (.string (l[r]).t) = true := by
 unfold zI0; rw [decide_eq_true_iff]; constructor
 · rintro ⟨i, j, hji, hi, hne, he⟩
   by_cases e : i = r
   · subst e
     rw [zIb h] at hne he; rw [zIb (by omega)] at he
     exact ⟨hne, l[j], List.mem_take_iff_getElem.2 ⟨j, by omega, rfl⟩, by rw [he]⟩
   · exact (hno ⟨i, j, hji, by omega, hne, he⟩).elim
 · rintro ⟨hne, n, hn, e⟩
   obtain ⟨j, hj, rfl⟩ := List.mem_take_iff_getElem.1 hn
   refine ⟨r, j, by omega, by omega, by rw [zIb h]; exact hne, ?_⟩
   rw [zIb h, zIb (by omega)]
   injection e
open Classical in
theorem zOj {l : List Bi} {r : Nat} (h : r < l.length) (hno : ¬ zOh l r) : zOh l (r + 1) ↔ zOf (l.take r) (.int .i64 (l[r]).st) = true := by
 have gd : ∀ {j : Nat} (hj : j < l.length), l.getD j default = l[j] := fun {j} hj => by rw [List.getD_eq_getElem?_getD, List.getElem?_eq_getElem hj]; rfl
 unfold zOf; rw [decide_eq_true_iff]; constructor
 · rintro ⟨i, j, hji, hi, he⟩
   by_cases e : i = r
   · subst e
     rw [gd h, gd (by omega)] at he
     exact ⟨l[j], List.mem_take_iff_getElem.2 ⟨j, by omega, rfl⟩, by rw [he]⟩
   · exact (hno ⟨i, j, hji, by omega, he⟩).elim
 · rintro ⟨n, hn, e⟩
   obtain ⟨j, hj, rfl⟩ := List.mem_take_iff_getElem.1 hn
   refine ⟨r, j, by omega, by omega, ?_⟩
   rw [gd h, gd (by omega)]
   injection e
theorem zPs (A0 A1 A2 : Option Addr) (c0 c1 c2 : Nat) (l : List No) (l1 l2 : List Bi) (x3 x4 : Value) (w : World) (hA : zA9 w A0 l) (h1 : zA1 w A1 l1) (h2 : zA1 w A2 l2) (hl : l.length ≤ 1048576) (hl1 : l1.length ≤ 1048576) (hl2 : l2.length ≤ 1048576)
 (ht : ∀ n ∈ l, n.t.size ≤ 1048576) (hi1 : ∀ b ∈ l1, zEo b.st) (hi2 : ∀ b ∈ l2, zEo b.st) :
    Calls Tryz.prog 83 #[.agg #[.slice A0 l.length c0, .slice A1 l1.length c1, .slice A2 l2.length c2, x3, x4]] w fun e w' => zAg (zI5 l ∨ zOk l1 ∨ zOk l2) e ∧ Below w.heap.size w w' := by
 have HA := Kh hA; have HA1 := Kh h1; have HA2 := Kh h2; have HT := Kh ht; have HI1 := Kh hi1; have HI2 := Kh hi2; clear hA h1 h2 ht hi1 hi2; have HB0 : Hid (Below w.heap.size w ((w.alloc (.cells #[.slice A0 l.length c0, .slice A1 l1.length c1, .slice A2 l2.length c2, x3, x4] 31)).alloc (.map #[] 0))) := ((Below.refl _ _).alloc (Nat.le_refl _) _).alloc (by simp) _
 have HX0 : Hid (Blk ((w.alloc (.cells #[.slice A0 l.length c0, .slice A1 l1.length c1, .slice A2 l2.length c2, x3, x4] 31)).alloc (.map #[] 0)) w.heap.size 31 #[.slice A0 l.length c0, .slice A1 l1.length c1, .slice A2 l2.length c2, x3, x4]) := (Blk.new _ _ _).alloc _
 have HM0 : Hid (zA7 ((w.alloc (.cells #[.slice A0 l.length c0, .slice A1 l1.length c1, .slice A2 l2.length c2, x3, x4] 31)).alloc (.map #[] 0)) 9 (w.heap.size + 1) 0 (fun _ => false)) := by
  have := zA7.made (w.alloc (.cells #[.slice A0 l.length c0, .slice A1 l1.length c1, .slice A2 l2.length c2, x3, x4] 31)) 9; simp only [World.size_alloc] at this
  exact this
 have HM00 := Kh (show zA7 ((w.alloc (.cells #[.slice A0 l.length c0, .slice A1 l1.length c1, .slice A2 l2.length c2, x3, x4] 31)).alloc (.map #[] 0)) 9 (w.heap.size + 1) 0 (zI0 (l.take 0)) from (by
  have e : (fun _ => false) = zI0 (l.take 0) := by funext v; simp [zI0]
  rw [← e]; exact HM0.out))
 have hmm := @run_makeMap Tryz.prog
 go_enter Tryz.func83, Tryz.ntmps83
 go_wp2_with fail
 go_loopw [15] (fun i wr => ∃ r : Nat, r ≤ l.length ∧ Hid (¬ zI2 l r) ∧ Hid (Below w.heap.size w wr) ∧ Hid (Blk wr w.heap.size 31 #[.slice A0 l.length c0, .slice A1 l1.length c1, .slice A2 l2.length c2, x3, x4]) ∧ Hid (zA7 wr 9 (w.heap.size + 1) r (zI0 (l.take r))) ∧ i = .int .i64 (r : Int)) (fun i _ => l.length - (intOf i).toNat)
 case atStart => exact ⟨0, Nat.zero_le _, (by rintro ⟨i, j, h1, h2, _⟩; omega), HB0, HX0, HM00, rfl⟩
 case round =>
  obtain ⟨wz, rfl⟩ : ∃ x : World, x = wr := ⟨_, rfl⟩
  obtain ⟨r, hr, HN, HBr, HXr, HMr, rfl⟩ := hrel
  by_cases hlt : r < l.length
  case neg =>
   obtain rfl : r = l.length := by omega
   obtain ⟨z0, z1, z2⟩ : wz.cell? ⟨w.heap.size, 0, none⟩ = some (.slice A0 l.length c0) ∧ wz.cell? ⟨w.heap.size, 1, none⟩ = some (.slice A1 l1.length c1) ∧ wz.cell? ⟨w.heap.size, 2, none⟩ = some (.slice A2 l2.length c2) := ⟨by rw [HXr.out.cell]; rfl, by rw [HXr.out.cell]; rfl, by rw [HXr.out.cell]; rfl⟩
   have BL0 : Hid (Blk (wz.alloc (.cells #[.slice A1 l1.length c1, .slice A2 l2.length c2] 29)) wz.heap.size 29 #[.slice A1 l1.length c1, .slice A2 l2.length c2]) := Blk.new _ _ _; have HBL0 := Kh (HBr.out.alloc HBr.out.size (.cells #[.slice A1 l1.length c1, .slice A2 l2.length c2] 29)); have HNames : Hid (¬ zI5 l) := Kh (fun h => HN.out ((zI3 l).2 h))
   have hszz : w.heap.size ≤ wz.heap.size := HBr.out.size; clear HXr HMr HN
   go_wp2_with fail
   go_loopw [38] (fun i wr => ∃ q : Nat, q ≤ 2 ∧ Hid ((1 ≤ q → ¬ zOk l1) ∧ (2 ≤ q → ¬ zOk l2)) ∧ Hid (Below w.heap.size w wr) ∧ Hid (Blk wr wz.heap.size 29 #[.slice A1 l1.length c1, .slice A2 l2.length c2]) ∧ i = .int .i64 (q : Int)) (fun i _ => 2 - (intOf i).toNat)
   case atStart => exact ⟨0, by omega, ⟨fun h => absurd h (by omega), fun h => absurd h (by omega)⟩, HBL0, BL0, rfl⟩
   case round =>
   obtain ⟨wy, rfl⟩ : ∃ x : World, x = wr := ⟨_, rfl⟩
   obtain ⟨q, hq, HQs, HBq, BLq, rfl⟩ := hrel
   rcases (show q = 0 ∨ q = 1 ∨ q = 2 by omega) with rfl | rfl | rfl
   · obtain ⟨z0, z1⟩ := BLq.out.two
     have HM0 : Hid (zA7 (wy.alloc (.map #[] 0)) 3 wy.heap.size 0 (zOf (l1.take 0))) := Kh (by
      have e : (fun _ => false) = zOf (l1.take 0) := by funext v; simp [zOf]
      rw [← e]; exact zA7.made wy 3)
     have HBs := Kh (HBq.out.alloc HBq.out.size (.map #[] 0)); have BLs := Kh (BLq.out.alloc (.map #[] 0)); have hltq : wz.heap.size < wy.heap.size := BLq.out.lt
     go_wp2_with fail
     go_loopw [45] (fun i wr => ∃ r : Nat, r ≤ l1.length ∧ Hid (¬ zOh l1 r) ∧ Hid (Below w.heap.size w wr) ∧ Hid (Blk wr wz.heap.size 29 #[.slice A1 l1.length c1, .slice A2 l2.length c2]) ∧ Hid (zA7 wr 3 wy.heap.size r (zOf (l1.take r))) ∧ Hid (wy.heap.size < wr.heap.size) ∧ i = .int .i64 (r : Int)) (fun i _ => l1.length - (intOf i).toNat)
     case atStart => exact ⟨0, Nat.zero_le _, (by rintro ⟨i, j, h1, h2, _⟩; omega), HBs, BLs, HM0, Kh (by simp), rfl⟩
     case round =>
      obtain ⟨wx, rfl⟩ : ∃ x : World, x = wr := ⟨_, rfl⟩
      obtain ⟨r, hr, HN, HBr, BLr, HMr, HSz, rfl⟩ := hrel
      by_cases hlt : r < l1.length
      case neg =>
       obtain rfl : r = l1.length := by omega
       have HNall : ¬ zOk l1 := fun h => HN.out ((zOi l1).2 h)
       have HQn : Hid ((1 ≤ 1 → ¬ zOk l1) ∧ (2 ≤ 1 → ¬ zOk l2)) := Kh ⟨fun _ => HNall, fun h => absurd h (by omega)⟩
       clear HNall
       go_wp2_with fail
       go_roundw
       case rel => exact ⟨1, by omega, HQn, HBr, BLr, by rfl⟩
       case measure => simp [intOf]
      have hj0 : (0 : Int) ≤ (r : Int) := by omega
      have hj1 : (r : Int) < (l1.length : Int) := by omega
      have e1 := wr1 (r := r) (by omega)
      obtain ⟨g, hA', hg, hc⟩ := (HA1.out.below HBr.out) (by omega)
      obtain ⟨y0, y1⟩ := hc r hlt; have Hks := Kh (zOj hlt HN.out); have Hft := Kh (zOg hlt); have hts := HI1.out _ (List.getElem_mem hlt); clear hc; generalize l1[r] = n at *; have hk : keyOf Tryz.prog 3 (.int .i64 n.st) = some (.int .i64 n.st) := zFq n.st hts; have HM1 := Kh (HMr.out.alloc (.cells #[.int .i64 n.st, .int .i64 n.nd] 55)); have HB1 := Kh (HBr.out.alloc HBr.out.size (.cells #[.int .i64 n.st, .int .i64 n.nd] 55)); have BL1 := Kh (BLr.out.alloc (.cells #[.int .i64 n.st, .int .i64 n.nd] 55)); have lk := HM1.out.look zFs Tryz.underlying154 hk; obtain ⟨w2, st, hgr, hF⟩ := HM1.out.store zFs Tryz.underlying154 (by unfold maxLen; omega) hk true
      have HF := Kh hF; have HGR := Kh hgr; have hgs := hgr.size; clear hF hgr hk; obtain ⟨q, hq⟩ : ∃ q, zOf (l1.take r) (.int .i64 n.st) = q := ⟨_, rfl⟩
      rw [hq] at lk; have HQ := Kh hq; clear hq hts
      cases q with
      | true =>
       have HNN : Hid (zOk l1) := Kh (by
        obtain ⟨i, j, h1, h2, h3⟩ := Hks.out.2 HQ.out
        exact ⟨i, j, h1, by omega, h3⟩)
       subst hA'
       go_wp2_with fail
       go_ret
       exact ⟨.yes (.inr (.inl HNN.out)), HB1.out⟩
      | false =>
       have HNN : Hid (¬ zOh l1 (r + 1)) := Kh (fun h => by have := (Hks.out.1 h); rw [HQ.out] at this; cases this)
       have G1 := Kh (HB1.out.grown HGR.out HB1.out.size (fun x hx => by injection hx with hx; have := HBq.out.size; omega))
       have G2 := Kh (BL1.out.grown HGR.out (by intro e; injection e with e; omega))
       have G3 := Kh (HF.out _ Hft.out.1 Hft.out.2); have G4 : Hid (wy.heap.size < w2.heap.size) := Kh (by have := HSz.out; have := hgs; simp at this; omega)
       subst hA'
       go_wp2_with fail
       go_roundw
       case rel => exact ⟨r + 1, by omega, HNN, G1, G2, G3, G4, by go_num⟩
       case measure => simp [intOf]; omega
   · obtain ⟨z0, z1⟩ := BLq.out.two
     have HM0 : Hid (zA7 (wy.alloc (.map #[] 0)) 3 wy.heap.size 0 (zOf (l2.take 0))) := Kh (by
      have e : (fun _ => false) = zOf (l2.take 0) := by funext v; simp [zOf]
      rw [← e]; exact zA7.made wy 3)
     have HBs := Kh (HBq.out.alloc HBq.out.size (.map #[] 0)); have BLs := Kh (BLq.out.alloc (.map #[] 0)); have hltq : wz.heap.size < wy.heap.size := BLq.out.lt
     go_wp2_with fail
     go_loopw [45] (fun i wr => ∃ r : Nat, r ≤ l2.length ∧ Hid (¬ zOh l2 r) ∧ Hid (Below w.heap.size w wr) ∧ Hid (Blk wr wz.heap.size 29 #[.slice A1 l1.length c1, .slice A2 l2.length c2]) ∧ Hid (zA7 wr 3 wy.heap.size r (zOf (l2.take r))) ∧ Hid (wy.heap.size < wr.heap.size) ∧ i = .int .i64 (r : Int)) (fun i _ => l2.length - (intOf i).toNat)
     case atStart => exact ⟨0, Nat.zero_le _, (by rintro ⟨i, j, h1, h2, _⟩; omega), HBs, BLs, HM0, Kh (by simp), rfl⟩
     case round =>
      obtain ⟨wx, rfl⟩ : ∃ x : World, x = wr := ⟨_, rfl⟩
      obtain ⟨r, hr, HN, HBr, BLr, HMr, HSz, rfl⟩ := hrel
      by_cases hlt : r < l2.length
      case neg =>
       obtain rfl : r = l2.length := by omega
       have HNall : ¬ zOk l2 := fun h => HN.out ((zOi l2).2 h)
       have HQn : Hid ((1 ≤ 2 → ¬ zOk l1) ∧ (2 ≤ 2 → ¬ zOk l2)) := Kh ⟨fun _ => HQs.out.1 (by omega), fun _ => HNall⟩
       clear HNall
       go_wp2_with fail
       go_roundw
       case rel => exact ⟨2, by omega, HQn, HBr, BLr, by rfl⟩
       case measure => simp [intOf]
      have hj0 : (0 : Int) ≤ (r : Int) := by omega
      have hj1 : (r : Int) < (l2.length : Int) := by omega
      have e1 := wr1 (r := r) (by omega)
      obtain ⟨g, hA', hg, hc⟩ := (HA2.out.below HBr.out) (by omega)
      obtain ⟨y0, y1⟩ := hc r hlt; have Hks := Kh (zOj hlt HN.out); have Hft := Kh (zOg hlt); have hts := HI2.out _ (List.getElem_mem hlt); clear hc; generalize l2[r] = n at *; have hk : keyOf Tryz.prog 3 (.int .i64 n.st) = some (.int .i64 n.st) := zFq n.st hts; have HM1 := Kh (HMr.out.alloc (.cells #[.int .i64 n.st, .int .i64 n.nd] 55)); have HB1 := Kh (HBr.out.alloc HBr.out.size (.cells #[.int .i64 n.st, .int .i64 n.nd] 55)); have BL1 := Kh (BLr.out.alloc (.cells #[.int .i64 n.st, .int .i64 n.nd] 55)); have lk := HM1.out.look zFs Tryz.underlying154 hk; obtain ⟨w2, st, hgr, hF⟩ := HM1.out.store zFs Tryz.underlying154 (by unfold maxLen; omega) hk true
      have HF := Kh hF; have HGR := Kh hgr; have hgs := hgr.size; clear hF hgr hk; obtain ⟨q, hq⟩ : ∃ q, zOf (l2.take r) (.int .i64 n.st) = q := ⟨_, rfl⟩
      rw [hq] at lk; have HQ := Kh hq; clear hq hts
      cases q with
      | true =>
       have HNN : Hid (zOk l2) := Kh (by
        obtain ⟨i, j, h1, h2, h3⟩ := Hks.out.2 HQ.out
        exact ⟨i, j, h1, by omega, h3⟩)
       subst hA'
       go_wp2_with fail
       go_ret
       exact ⟨.yes (.inr (.inr HNN.out)), HB1.out⟩
      | false =>
       have HNN : Hid (¬ zOh l2 (r + 1)) := Kh (fun h => by have := (Hks.out.1 h); rw [HQ.out] at this; cases this)
       have G1 := Kh (HB1.out.grown HGR.out HB1.out.size (fun x hx => by injection hx with hx; have := HBq.out.size; omega))
       have G2 := Kh (BL1.out.grown HGR.out (by intro e; injection e with e; omega))
       have G3 := Kh (HF.out _ Hft.out.1 Hft.out.2); have G4 : Hid (wy.heap.size < w2.heap.size) := Kh (by have := HSz.out; have := hgs; simp at this; omega)
       subst hA'
       go_wp2_with fail
       go_roundw
       case rel => exact ⟨r + 1, by omega, HNN, G1, G2, G3, G4, by go_num⟩
       case measure => simp [intOf]; omega
   · have HNo : Hid (¬ (zI5 l ∨ zOk l1 ∨ zOk l2)) := Kh (by rintro (h | h | h); exact HNames.out h; exact HQs.out.1 (by omega) h; exact HQs.out.2 (by omega) h)
     go_wp2_with fail
     go_ret
     exact ⟨.no HNo.out, HBq.out⟩
  have hj0 : (0 : Int) ≤ (r : Int) := by omega
  have hj1 : (r : Int) < (l.length : Int) := by omega
  have e1 := wr1 (r := r) (by omega)
  obtain ⟨g, rfl, hg, hc⟩ := (HA.out.below HBr.out) (by omega)
  obtain ⟨y0, y1, y2, y3, y4, y5, y6, y7, y8⟩ := hc r hlt; have Hks := Kh (zI4 hlt HN.out); have Hft := Kh (zI1 hlt); have hts := HT.out _ (List.getElem_mem hlt); clear hc; generalize l[r] = n at *; have hk : keyOf Tryz.prog 9 (.string n.t) = some (.string n.t.data.toList) := zFr n.t (by unfold maxLen; omega)
  have HM1 := Kh (HMr.out.alloc (.cells #[.int .i64 n.k, .int .i64 n.a, .int .i64 n.b, .int .i64 n.c, .int .i64 n.n, .int .i64 n.m, .int .i64 n.s.i, .int .i64 n.s.w, .string n.t] 42)); have HB1 := Kh (HBr.out.alloc HBr.out.size (.cells #[.int .i64 n.k, .int .i64 n.a, .int .i64 n.b, .int .i64 n.c, .int .i64 n.n, .int .i64 n.m, .int .i64 n.s.i, .int .i64 n.s.w, .string n.t] 42)); have HX1 := Kh (HXr.out.alloc (.cells #[.int .i64 n.k, .int .i64 n.a, .int .i64 n.b, .int .i64 n.c, .int .i64 n.n, .int .i64 n.m, .int .i64 n.s.i, .int .i64 n.s.w, .string n.t] 42)); have lk := HM1.out.look zFt Tryz.underlying153 hk; obtain ⟨w2, st, hgr, hF⟩ := HM1.out.store zFt Tryz.underlying153 (by unfold maxLen; omega) hk true
  have HF := Kh hF; have HGR := Kh hgr; clear hF hgr hk; obtain ⟨q, hq⟩ : ∃ q, zI0 (l.take r) (.string n.t) = q := ⟨_, rfl⟩
  rw [hq] at lk; have HQ := Kh hq; clear hq hts; have next : Hid (¬ zI2 l (r + 1)) → ∃ (_ : True), Hid (Below w.heap.size w w2) ∧ Hid (Blk w2 w.heap.size 31 #[.slice (some ⟨g, 0, none⟩) l.length c0, .slice A1 l1.length c1, .slice A2 l2.length c2, x3, x4]) ∧ Hid (zA7 w2 9 (w.heap.size + 1) (r + 1) (zI0 (l.take (r + 1)))) := fun _ => ⟨trivial, HB1.out.grown HGR.out HB1.out.size (fun x hx => by injection hx with hx; omega), HX1.out.grown HGR.out (by intro e; injection e with e; omega), Kh (HF.out _ Hft.out.1 Hft.out.2)⟩
  by_cases hz : n.t.size = 0
  · have y9 : (n.t.toList == []) = true := (zDf n.t).2 hz
    have HNN : Hid (¬ zI2 l (r + 1)) := Kh (fun h => (Hks.out.1 h).1 hz)
    obtain ⟨_, g1, g2, g3⟩ := next HNN; clear hz next
    go_wp2_with fail
    go_roundw
    case rel => exact ⟨r + 1, by omega, HNN, g1, g2, g3, by go_num⟩
    case measure => simp [intOf]; omega
  · have y9 : (n.t.toList == []) = false := by rw [Bool.eq_false_iff]; exact fun h => hz ((zDf n.t).1 h)
    cases q with
    | true =>
     have HNN : Hid (zI5 l) := Kh (by
      obtain ⟨i, j, h1, h2, h3⟩ := Hks.out.2 ⟨hz, HQ.out⟩
      exact ⟨i, j, h1, by omega, h3⟩)
     clear hz next
     go_wp2_with fail
     go_ret
     exact ⟨.yes (.inl HNN.out), HB1.out⟩
    | false =>
     have HNN : Hid (¬ zI2 l (r + 1)) := Kh (fun h => by have := (Hks.out.1 h).2; rw [HQ.out] at this; cases this)
     obtain ⟨_, g1, g2, g3⟩ := next HNN; clear hz next
     go_wp2_with fail
     go_roundw
     case rel => exact ⟨r + 1, by omega, HNN, g1, g2, g3, by go_num⟩
     case measure => simp [intOf]; omega
end Go.Proofs.YtmolbnghobfmoaaGreat
