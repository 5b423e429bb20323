/- The reader of draws: sound, diagram, walked; The reader of draws: diagram, walked. -/
import Derived.Test.YtffefegjnbfobaaH3
import Derived.Laws.OwnMore
import Derived.Test.YtffefegjnbfobaaBuild
import Derived.Deep.RegionLaw
import Derived.Deep.AppendLies
import Derived.Deep.RegionHeld3
import Derived.Deep.CutBlock
import Derived.RegionTactic
import Derived.BigRegion
import Derived.Deep.DeepCutAuto
namespace Go.Proofs.Ytffefegjnbfobaa
open Go.RowKit
open B

theorem ncells_put : ∀ (ms : List Nd) (j : Nat) (v : Int), ∃ ms' : List Nd, ms'.length = ms.length ∧ (ncells ms).set j (.int .i64 v) = ncells ms' := by
  intro ms
  induction ms with
  | nil => intro j v; exact ⟨[], rfl, by simp [ncells]⟩
  | cons n ms ih =>
    intro j v
    match j with
    | 0 => exact ⟨⟨v, n.lo, n.hi⟩ :: ms, rfl, by simp [ncells]⟩
    | 1 => exact ⟨⟨n.v, v, n.hi⟩ :: ms, rfl, by simp [ncells]⟩
    | 2 => exact ⟨⟨n.v, n.lo, v⟩ :: ms, rfl, by simp [ncells]⟩
    | j + 3 =>
      obtain ⟨ms', hl, h⟩ := ih j v
      exact ⟨n :: ms', by simp [hl], by simp only [ncells, List.flatMap_cons, List.cons_append, List.nil_append, List.set_cons_succ] at h ⊢; rw [h]⟩
theorem own_putcell {w : World} {B q c : Nat} {ms : List Nd} (h : w.ownsRow B 89 3 (.slice (some ⟨q, 0, none⟩) ms.length c) ms.length (ncells ms)) (j : Nat) (v : Int) :
    ∃ ms' : List Nd, ms'.length = ms.length ∧ (w.setCell ⟨q, j, none⟩ (.int .i64 v)).ownsRow B 89 3 (.slice (some ⟨q, 0, none⟩) ms'.length c) ms'.length (ncells ms') := by
  obtain ⟨ms', hl, hs⟩ := ncells_put ms j v
  refine ⟨ms', hl, ?_⟩
  rw [hl, ← hs]
  exact (h.stored j _).1
theorem own_pick {w w' : World} {B g : Nat} {e : TypeId} {size n : Nat} {v : Value} {xs : List Value} (h : w.ownsRow B e size v n xs) (hg : w.grownBy w' (some g)) (hB : g < B) : w'.ownsRow B e size v n xs :=
  h.kept hg (by
    cases hv : v.ownBlock with
    | none => exact .inl rfl
    | some b => exact .inr (by intro e; injection e with e; have := (h.lt b hv).1; omega))

/-- A diagram that was drawn: any. -/
def AnyD (v : Int) (N B : Nat) (w' : World) (e : Ending) : Prop :=
  ∃ (V R : Int) (ms : List Nd) (A : Option Addr) (c : Nat), e = .returned (.agg #[.int .i64 V, .slice A ms.length c, .int .i64 R]) ∧ -1 ≤ V ∧ V ≤ v ∧ ms.length ≤ N ∧ w'.ownsRow B 89 3 (.slice A ms.length c) ms.length (ncells ms)

set_option maxRecDepth 100000 in
set_option maxHeartbeats 400000 in
theorem sound_any (g p : Nat) (V : Int) (w : World) (hR : Rd w g p) (hp : p ≤ 1099511600000) (hV0 : -1 ≤ V) (hV1 : V ≤ 15) :
    Calls Try.prog 132 #[.pointer (some ⟨g, 0, none⟩), .int .i64 V] w fun e w' => AnyD 15 600 w.heap.size w' e ∧ (∃ q, q ≤ p + 10000 ∧ Rd w' g q) ∧ w.grownBy w' (some g) := by
  have HR := Lib.hid hR
  have hgl := hR.lt
  clear hR
  have RB_0 := Lib.hid (Blk.new w 28 zB)
  by_cases hV : 0 ≤ V ∧ V ≤ 13
  · have hd : decide (0 ≤ V ∧ V ≤ 13) = true := by simpa using hV
    obtain ⟨k, rfl⟩ := Int.eq_ofNat_of_zero_le hV.1
    have hk : k ≤ 13 := by omega
    clear hV
    go_enter Try.func132, Try.ntmps132
    go_wp2_with (first
      | (go_at_call 65; refine (l7Vars_is _ true hd _).mono ?_; rintro e w' ⟨rfl, rfl⟩)
      | (go_at_call 80; (with_reducible refine (set_any g p k _ (by exact HR.out.alloc _) hp hk).mono ?_); rintro e w1 ⟨⟨R, ms, A, c, rfl, ho0, hl, ho⟩, ⟨q, hq, hRq⟩, hG⟩; have OK := Lib.hid ho0; have HO := Lib.hid (own_mono ho (show w.heap.size ≤ _ by simp)); have HRq := Lib.hid hRq; have HG := Lib.hid (gtrans (World.grownBy_alloc w (.cells zB 28) (some g)) hG); have RB_1 := Lib.hid (RB_0.out.grown hG (by simp; omega)); obtain ⟨rx0, rx1, rx2⟩ := RB_1.out.three; have rz0 := RB_1.out.frozen 0; have rz1 := RB_1.out.frozen 1; have rz2 := RB_1.out.frozen 2; clear ho0 ho hRq hG))
    obtain ⟨u0, u1, u2⟩ := (RB_1.out.put3 (.int .i64 k) (.slice A ms.length c) (.int .i64 R)).three
    refine bodyPost_ret (v := .agg #[.int .i64 k, .slice A ms.length c, .int .i64 R]) (by simp [results, Try.results132, go_sem, u0, u1, u2]) rfl ⟨⟨k, R, ms, A, c, rfl, by omega, by omega, by omega, own_put3 HO.out (own_ne_blk HO.out RB_1.out (by decide)) _ _ _⟩, ⟨q, hq, ?_⟩, ?_⟩
    · exact ((HRq.out.set ⟨w.heap.size, 0, none⟩ _ hgl).set ⟨w.heap.size, 1, none⟩ _ hgl).set ⟨w.heap.size, 2, none⟩ _ hgl
    · exact gput (gput (gput HG.out ⟨w.heap.size, 0, none⟩ _ (Nat.le_refl _)) ⟨w.heap.size, 1, none⟩ _ (Nat.le_refl _)) ⟨w.heap.size, 2, none⟩ _ (Nat.le_refl _)
  · have hd : decide (0 ≤ V ∧ V ≤ 13) = false := by simpa using hV
    clear hV
    go_enter Try.func132, Try.ntmps132
    go_wp2_with (go_at_call 65; refine (l7Vars_is _ false hd _).mono ?_; rintro e w' ⟨rfl, rfl⟩)
    exact bodyPost_ret (v := .agg #[.int .i64 V, .slice none 0 0, .int .i64 0]) (by simp [results, Try.results132, go_sem]) rfl ⟨⟨V, 0, [], none, 0, rfl, by omega, by omega, by simp, World.ownsRow_nil _ _ _ _⟩, ⟨p, by omega, HR.out.alloc _⟩, World.grownBy_alloc _ _ _⟩

end Go.Proofs.Ytffefegjnbfobaa
namespace Go.Proofs.Ytffefegjnbfobaa
open Go.RowKit
open B

/-- The memory of diagram: the answer's box, the diagram's box d, its nodes. -/
structure DM (w : World) (g d q : Nat) (V R : Int) (A : Option Addr) (c : Nat) (ms : List Nd) (W : World) : Prop where
  gr : w.grownBy W (some g)
  rd : Rd W g q
  rb : Blk W w.heap.size 28 zB
  db : Blk W d 28 #[.int .i64 V, .slice A ms.length c, .int .i64 R]
  own : W.ownsRow w.heap.size 89 3 (.slice A ms.length c) ms.length (ncells ms)
  gl : g < w.heap.size
  dl : w.heap.size < d

section
variable {w W W' : World} {g d q : Nat} {V R : Int} {A : Option Addr} {c : Nat} {ms : List Nd}
theorem DM.pick (h : DM w g d q V R A c ms W) (hR : Rd W' g (q + 1)) (hG : W.grownBy W' (some g)) : DM w g d (q + 1) V R A c ms W' :=
  ⟨gtrans h.gr hG, hR, h.rb.grown hG (by intro e; injection e with e; have := h.gl; omega), h.db.grown hG (by intro e; injection e with e; have := h.gl; have := h.dl; omega), own_pick h.own hG h.gl, h.gl, h.dl⟩
theorem DM.alloc (h : DM w g d q V R A c ms W) (o : Obj) : DM w g d q V R A c ms (W.alloc o) :=
  ⟨gtrans h.gr (World.grownBy_alloc _ _ _), h.rd.alloc o, h.rb.alloc o, h.db.alloc o, h.own.alloc o, h.gl, h.dl⟩
theorem DM.drew (h : DM w g d q V R A c ms W) : DM w g d q V R A c ms W.drew :=
  ⟨⟨h.gr.os, h.gr.tape, h.gr.output, h.gr.size, h.gr.block⟩, h.rd.of_same fun _ _ => rfl, h.rb, h.db, h.own, h.gl, h.dl⟩
theorem DM.drewN (h : DM w g d q V R A c ms W) (n : Nat) : DM w g d q V R A c ms (W.drewN n) :=
  ⟨⟨h.gr.os, h.gr.tape, h.gr.output, h.gr.size, h.gr.block⟩, h.rd.of_same fun _ _ => rfl, h.rb, h.db, h.own, h.gl, h.dl⟩
theorem DM.box (h : DM w g d q V R A c ms W) (i : Nat) (u : Value) {V' R' : Int} {A' : Option Addr} {c' : Nat} {ms' : List Nd}
    (hs : (#[Value.int .i64 V, .slice A ms.length c, .int .i64 R]).setIfInBounds i u = #[.int .i64 V', .slice A' ms'.length c', .int .i64 R'])
    (ho : W.ownsRow w.heap.size 89 3 (.slice A' ms'.length c') ms'.length (ncells ms')) : DM w g d q V' R' A' c' ms' (W.setCell ⟨d, i, none⟩ u) := by
  have hd := h.dl
  have hg := h.gl
  refine ⟨gput h.gr ⟨d, i, none⟩ u (Nat.le_of_lt hd), h.rd.set ⟨d, i, none⟩ u (by show g < d; omega), h.rb.far (p := ⟨d, i, none⟩) (by show w.heap.size ≠ d; omega) u, ?_, own_far ho (p := ⟨d, i, none⟩) (own_ne_blk ho h.db (by decide)) u, hg, hd⟩
  rw [← hs]
  exact h.db.set_ i u
theorem DM.root (h : DM w g d q V R A c ms W) (x : Int) : DM w g d q V x A c ms (W.setCell ⟨d, 2, none⟩ (.int .i64 x)) := h.box 2 _ (by simp) h.own
theorem DM.vars (h : DM w g d q V R A c ms W) (x : Int) : DM w g d q x R A c ms (W.setCell ⟨d, 0, none⟩ (.int .i64 x)) := h.box 0 _ (by simp) h.own
theorem DM.node {b : Nat} (h : DM w g d q V R (some ⟨b, 0, none⟩) c ms W) (j : Nat) (x : Int) : ∃ ms' : List Nd, ms'.length = ms.length ∧ DM w g d q V R (some ⟨b, 0, none⟩) c ms' (W.setCell ⟨b, j, none⟩ (.int .i64 x)) := by
  obtain ⟨ms', hl, ho⟩ := own_putcell h.own j x
  have hb := (h.own.lt b rfl).1
  have hne1 := own_ne_blk h.own h.rb (by decide)
  have hne2 := own_ne_blk h.own h.db (by decide)
  refine ⟨ms', hl, gput h.gr ⟨b, j, none⟩ _ hb, h.rd.set ⟨b, j, none⟩ _ (by show g < b; have := h.gl; omega), h.rb.far (p := ⟨b, j, none⟩) (fun e => hne1 (by rw [e]; rfl)) _, ?_, ho, h.gl, h.dl⟩
  rw [hl]
  exact h.db.far (p := ⟨b, j, none⟩) (fun e => hne2 (by rw [e]; rfl)) _
theorem DM.form (h : DM w g d q V R A c ms W) (h0 : 0 < ms.length) : ∃ b, A = some ⟨b, 0, none⟩ := by
  rcases h.own.2 with ⟨he, hn⟩ | ⟨b, cap, cur, he, _⟩
  · omega
  · injection he with he
    exact ⟨b, he⟩
/-- Behind an append of one node, and the store of the new row. -/
theorem DM.app (h : DM w g d q V R A c ms W) {A' : Option Addr} {c' : Nat} (n : Nd) (hg : W.grownBy W' (Value.slice A ms.length c).ownBlock) (ho : W'.ownsRow w.heap.size 89 3 (.slice A' (ms.length + 1) c') (ms.length + 1) (ncells ms ++ [.int .i64 n.v, .int .i64 n.lo, .int .i64 n.hi])) :
    DM w g d q V R A' c' (ms ++ [n]) (W'.setCell ⟨d, 1, none⟩ (.slice A' (ms.length + 1) c')) := by
  have hd := h.dl
  have hgl := h.gl
  have ho' : W'.ownsRow w.heap.size 89 3 (.slice A' (ms ++ [n]).length c') (ms ++ [n]).length (ncells (ms ++ [n])) := by
    rw [ncells_app, List.length_append, List.length_singleton]; exact ho
  have hne1 := own_ne_blk h.own h.rb (by decide)
  have hne2 := own_ne_blk h.own h.db (by decide)
  have hlow : ∀ k, k < w.heap.size → some k ≠ (Value.slice A ms.length c).ownBlock := fun k hk => own_low h.own hk
  have hrb := h.rb.grown hg (fun e => hne1 e.symm)
  have hdb := h.db.grown hg (fun e => hne2 e.symm)
  refine ⟨⟨hg.os.trans h.gr.os, hg.tape.trans h.gr.tape, hg.output.trans h.gr.output, by simpa using Nat.le_trans h.gr.size hg.size, fun k hk hne => ?_⟩, ?_, hrb.far (p := ⟨d, 1, none⟩) (by show w.heap.size ≠ d; omega) _, ?_, own_far ho' (p := ⟨d, 1, none⟩) (own_ne_blk ho' hdb (by decide)) _, hgl, hd⟩
  · exact (Below.heap_setCell W' ⟨d, 1, none⟩ _ k (by show k ≠ d; omega)).trans ((hg.block k (Nat.lt_of_lt_of_le hk h.gr.size) (hlow k hk)).trans (h.gr.block k hk hne))
  · refine (h.rd.of_same fun k hk => hg.block k (Nat.lt_of_le_of_lt hk h.rd.lt) (hlow k (by omega))).set ⟨d, 1, none⟩ _ (by show g < d; omega)
  · have := hdb.set_ 1 (.slice A' (ms.length + 1) c')
    simpa using this
end
theorem ncells_any : ∀ (ms : List Nd) (j : Nat), j < ms.length * 3 → ∃ x : Int, (ncells ms)[j]? = some (.int .i64 x) := by
  intro ms
  induction ms with
  | nil => intro j h; simp at h
  | cons n ms ih =>
    intro j h
    match j with
    | 0 => exact ⟨n.v, by simp [ncells]⟩
    | 1 => exact ⟨n.lo, by simp [ncells]⟩
    | 2 => exact ⟨n.hi, by simp [ncells]⟩
    | j + 3 =>
      obtain ⟨x, hx⟩ := ih j (by simp at h; omega)
      exact ⟨x, by simpa [ncells] using hx⟩
theorem DM.cell {w W : World} {g d q b c : Nat} {V R : Int} {ms : List Nd} (h : DM w g d q V R (some ⟨b, 0, none⟩) c ms W) (j : Nat) (hj : j < ms.length * 3) : ∃ x : Int, W.cell? ⟨b, j, none⟩ = some (.int .i64 x) ∧ W.frozen? ⟨b, j, none⟩ = false := by
  obtain ⟨x, hx⟩ := ncells_any ms j hj
  exact ⟨x, (h.own.cellAt j hj).trans hx, h.own.frozenAt j⟩
/-- Some memory of diagram. -/
def DMx (w : World) (g d p : Nat) (W : World) : Prop := ∃ (q : Nat) (V R : Int) (A : Option Addr) (c : Nat) (ms : List Nd), q ≤ p ∧ -1 ≤ V ∧ V ≤ 16 ∧ ms.length ≤ 601 ∧ DM w g d q V R A c ms W

set_option maxRecDepth 100000 in
set_option maxHeartbeats 4000000 in
theorem drawn_any (g p : Nat) (V : Int) (w : World) (hR : Rd w g p) (hp : p ≤ 1099511500000) (hV0 : -1 ≤ V) (hV1 : V ≤ 15) :
    Calls Try.prog 91 #[.pointer (some ⟨g, 0, none⟩), .int .i64 V] w fun e w' => AnyD 16 601 w.heap.size w' e ∧ (∃ q, q ≤ p + 10020 ∧ Rd w' g q) ∧ w.grownBy w' (some g) := by
  have HR := Lib.hid hR
  have hgl := hR.lt
  clear hR
  have RB_0 := Lib.hid (Blk.new w 28 zB)
  go_enter Try.func91, Try.ntmps91
  go_upto_block 0 with (first
    | (go_at_call 132; (with_reducible refine (sound_any g p V _ (by exact HR.out.alloc _) (by omega) hV0 hV1).mono ?_); rintro e w1 ⟨⟨V1, R1, m1, A1, c1, rfl, hv0, hv1, hl1, ho⟩, ⟨q1, hq1, hRq⟩, hG⟩; have HO_1 := own_mono ho (show w.heap.size ≤ _ by simp); have RB_1 := RB_0.out.grown hG (by simp; omega); have M1 := Lib.hid (DM.mk (gtrans (gtrans (World.grownBy_alloc w (.cells zB 28) (some g)) hG) (World.grownBy_alloc w1 (.cells #[.int .i64 V1, .slice A1 m1.length c1, .int .i64 R1] 28) (some g))) (hRq.alloc _) (RB_1.alloc _) (Blk.new w1 28 #[.int .i64 V1, .slice A1 m1.length c1, .int .i64 R1]) (HO_1.alloc _) hgl RB_1.lt); clear ho hRq hG HO_1 RB_1)
    | (go_at_call 61; (with_reducible refine (pick_any g q1 10 _ (by exact M1.out.rd) (by omega) (by omega)).mono ?_); rintro e w2 ⟨hv, hR2, hG2⟩; obtain ⟨v, rfl, hk0, hk1⟩ := hv.pos (by omega); have M2 := Lib.hid (M1.out.pick hR2 hG2); obtain ⟨d0, d1, d2⟩ := M2.out.db.three; obtain ⟨rx0, rx1, rx2⟩ := M2.out.rb.three; have rz0 := M2.out.rb.frozen 0; have rz1 := M2.out.rb.frozen 1; have rz2 := M2.out.rb.frozen 2; clear hv hR2 hG2)
    | (go_at_call 61; (with_reducible refine (pick_any g (q1 + 1) 5 _ (by exact M2.out.rd) (by omega) (by omega)).mono ?_); rintro e w3 ⟨hv, hR2, hG2⟩; obtain ⟨v3, rfl, hk30, hk31⟩ := hv.pos (by omega); have M3 := Lib.hid (M2.out.pick hR2 hG2); clear hv hR2 hG2 d0 d1 d2 rx0 rx1 rx2 rz0 rz1 rz2; obtain ⟨d0, d1, d2⟩ := M3.out.db.three; have df0 := M3.out.db.frozen 0; have df1 := M3.out.db.frozen 1; have df2 := M3.out.db.frozen 2))
  · obtain ⟨u0, u1, u2⟩ := (M2.out.rb.put3 (.int .i64 V1) (.slice A1 m1.length c1) (.int .i64 R1)).three
    refine bodyPost_ret (v := .agg #[.int .i64 V1, .slice A1 m1.length c1, .int .i64 R1]) (by simp [results, Try.results91, go_sem, u0, u1, u2]) rfl ⟨⟨V1, R1, m1, A1, c1, rfl, by omega, by omega, by omega, own_put3 M2.out.own (own_ne_blk M2.out.own M2.out.rb (by decide)) _ _ _⟩, ⟨q1 + 1, by omega, ?_⟩, ?_⟩
    · exact ((M2.out.rd.set ⟨w.heap.size, 0, none⟩ _ hgl).set ⟨w.heap.size, 1, none⟩ _ hgl).set ⟨w.heap.size, 2, none⟩ _ hgl
    · exact gput (gput (gput M2.out.gr ⟨w.heap.size, 0, none⟩ _ (Nat.le_refl _)) ⟨w.heap.size, 1, none⟩ _ (Nat.le_refl _)) ⟨w.heap.size, 2, none⟩ _ (Nat.le_refl _)
  go_cut [] (fun wc => Hid (DMx w g w1.heap.size (p + 10010) wc))
  case first =>
    obtain ⟨i86, hi, hz0, hz1, hz2⟩ := info_parts info86
    have Hi := Lib.hid hi
    have Hz0 := Lib.hid hz0
    have Hz1 := Lib.hid hz1
    have Hz2 := Lib.hid hz2
    clear hi hz0 hz1 hz2
    have K3 : Hid (∀ Y w4, (w3.alloc Y).grownBy w4 (Value.slice A1 m1.length c1).ownBlock → w4.cell? ⟨w1.heap.size, 1, none⟩ = some (.slice A1 m1.length c1) ∧ w4.frozen? ⟨w1.heap.size, 1, none⟩ = false) := fun Y w4 hg => by
      have hb3 := (M3.out.db.alloc Y).grown hg (fun e => own_ne_blk M3.out.own M3.out.db (by decide) e.symm)
      exact ⟨by rw [hb3.cell]; rfl, hb3.frozen 1⟩
    have hws : w.heap.size ≤ w3.heap.size := M3.out.gr.size
    go_wp2_with (first
      | (go_at_call 61; (with_reducible refine (pick_any g (q1 + 1 + 1) _ _ (by exact M3.out.rd) (by omega) (by omega)).mono ?_); rintro e w4 ⟨hv, hR2, hG2⟩; obtain ⟨v4, rfl, hk40, hk41⟩ := hv.pos (by omega); have M4 := Lib.hid (M3.out.pick hR2 hG2); clear hv hR2 hG2; obtain ⟨e0, e1, e2⟩ := M4.out.db.three; have ef0 := M4.out.db.frozen 0; have ef1 := M4.out.db.frozen 1; have ef2 := M4.out.db.frozen 2)
      | (at_builtin; refine wpList_append_src rfl _ _ 26 rfl w.heap.size 89 i86 _ 3 24 Try.underlying26 Hi.out Hz0.out Hz1.out Hz2.out rfl (by decide) _ m1.length (ncells m1) rfl (by exact M3.out.own.alloc _) (some ⟨w3.heap.size, 0, none⟩) 1 1 [.int .i64 0, .int .i64 0, .int .i64 1] rfl (by exact .inr ⟨_, rfl, Blk.news (Blk.new_at _ 89 #[.int .i64 0, .int .i64 0, .int .i64 1] rfl)⟩) rfl (by simp [Value.oneCell']) (by unfold maxLen; omega) (by omega) (by simp; omega) ?_; intro A4 c4 w4 ho4 hg4 hor4; obtain ⟨c5, f5⟩ := K3.out _ w4 ⟨hg4.os, hg4.tape, hg4.output, hg4.size, hg4.block⟩))
    · go_meet
      case rel => exact ⟨_, _, _, _, _, _, by omega, hv0, by omega, by omega, M4.out.root _⟩
    · go_meet
      case rel => exact ⟨_, _, _, _, _, _, by omega, by omega, by omega, by omega, M3.out.vars _⟩
    · go_meet
      case rel => exact ⟨_, _, _, _, _, _, by omega, hv0, by omega, by rw [List.length_append, List.length_singleton]; omega, (M3.out.alloc _).app ⟨0, 0, 1⟩ ⟨hg4.os, hg4.tape, hg4.output, hg4.size, hg4.block⟩ ho4⟩
    · go_meet
      case rel => exact ⟨_, _, _, _, _, _, by omega, hv0, by omega, by omega, M3.out⟩
  case rest =>
  obtain ⟨w4, rfl⟩ : ∃ x : World, x = wc := ⟨_, rfl⟩
  obtain ⟨q, V, R, A, c, ms, hq, hV0, hV1, hl, M4⟩ := hcut.out
  have M4 := Lib.hid M4
  clear hcut M1 M2 M3 d0 d1 d2 df0 df1 df2
  obtain ⟨d0, d1, d2⟩ := M4.out.db.three
  obtain ⟨rx0, rx1, rx2⟩ := M4.out.rb.three
  have rz0 := M4.out.rb.frozen 0
  have rz1 := M4.out.rb.frozen 1
  have rz2 := M4.out.rb.frozen 2
  rcases Nat.eq_zero_or_pos ms.length with h0 | h0
  · have H0 : ¬ (0 : Int) < (ms.length : Int) := by omega
    clear h0
    go_wp2_with fail
    obtain ⟨u0, u1, u2⟩ := (M4.out.rb.put3 (.int .i64 V) (.slice A ms.length c) (.int .i64 R)).three
    refine bodyPost_ret (v := .agg #[.int .i64 V, .slice A ms.length c, .int .i64 R]) (by simp [results, Try.results91, go_sem, u0, u1, u2]) rfl ⟨⟨V, R, ms, A, c, rfl, by omega, by omega, by omega, own_put3 M4.out.own (own_ne_blk M4.out.own M4.out.rb (by decide)) _ _ _⟩, ⟨q, by omega, ?_⟩, ?_⟩
    · exact ((M4.out.rd.set ⟨w.heap.size, 0, none⟩ _ hgl).set ⟨w.heap.size, 1, none⟩ _ hgl).set ⟨w.heap.size, 2, none⟩ _ hgl
    · exact gput (gput (gput M4.out.gr ⟨w.heap.size, 0, none⟩ _ (Nat.le_refl _)) ⟨w.heap.size, 1, none⟩ _ (Nat.le_refl _)) ⟨w.heap.size, 2, none⟩ _ (Nat.le_refl _)
  obtain ⟨b, rfl⟩ := M4.out.form h0
  clear rx0 rx1 rx2 rz0 rz1 rz2
  go_upto_block 1 with (first
    | (go_at_call 61; (with_reducible refine (pick_any g q ms.length _ (by exact M4.out.rd) (by omega) (by omega)).mono ?_); rintro e w5 ⟨hv, hR2, hG2⟩; obtain ⟨i, rfl, hi0, hi1⟩ := hv.pos (by omega); obtain ⟨i, rfl⟩ := Int.eq_ofNat_of_zero_le hi0; have M5 := Lib.hid (M4.out.pick hR2 hG2); clear hv hR2 hG2; obtain ⟨e0, e1, e2⟩ := M5.out.db.three)
    | (go_at_call 61; (with_reducible refine (pick_any g (q + 1) 5 _ (by exact M5.out.rd) (by omega) (by omega)).mono ?_); rintro e w6 ⟨hv, hR2, hG2⟩; obtain ⟨v6, rfl, hk60, hk61⟩ := hv.pos (by omega); have M6 := Lib.hid (M5.out.pick hR2 hG2); clear hv hR2 hG2 d0 d1 d2 e0 e1 e2; obtain ⟨d0, d1, d2⟩ := M6.out.db.three))
  clear M5
  go_cut [] (fun wc => Hid (DMx w g w1.heap.size (p + 10016) wc))
  case first =>
    have hil : i < ms.length := by omega
    obtain ⟨a0, ca0, fa0⟩ := M6.out.cell (i * 3) (by omega)
    obtain ⟨a1, ca1, fa1⟩ := M6.out.cell (i * 3 + 1) (by omega)
    obtain ⟨a2, ca2, fa2⟩ := M6.out.cell (i * 3 + 2) (by omega)
    have HNE : Hid (w1.heap.size ≠ b) := fun e => own_ne_blk M6.out.own M6.out.db (by decide) (by rw [e]; rfl)
    have q0 : IntKind.i64.wrap (V + 3) = V + 3 := wrap_eq (by omega) (by omega)
    have q1 : IntKind.i64.wrap ((ms.length : Int) + 3) = (ms.length : Int) + 3 := wrap_eq (by omega) (by omega)
    go_wp2_with (first
      | (go_at_call 61; (with_reducible refine (pick_any g (q + 1 + 1) ms.length _ (by exact M6.out.rd) (by omega) (by omega)).mono ?_); rintro e w7 ⟨hv, hR2, hG2⟩; obtain ⟨j, rfl, hj0, hj1⟩ := hv.pos (by omega); obtain ⟨j, rfl⟩ := Int.eq_ofNat_of_zero_le hj0; have M7 := Lib.hid (M6.out.pick hR2 hG2); clear hv hR2 hG2 a0 ca0 fa0 a1 ca1 fa1 a2 ca2 fa2; obtain ⟨e0, e1, e2⟩ := M7.out.db.three; obtain ⟨a0, ca0, fa0⟩ := M7.out.cell (i * 3) (by omega); obtain ⟨a1, ca1, fa1⟩ := M7.out.cell (i * 3 + 1) (by omega); obtain ⟨a2, ca2, fa2⟩ := M7.out.cell (i * 3 + 2) (by omega); obtain ⟨b0, cb0, fb0⟩ := M7.out.cell (j * 3) (by omega); obtain ⟨b1, cb1, fb1⟩ := M7.out.cell (j * 3 + 1) (by omega); obtain ⟨b2, cb2, fb2⟩ := M7.out.cell (j * 3 + 2) (by omega)))
    · go_region_held3 (fun w' => w'.cell? ⟨w1.heap.size, 0, none⟩ = some (.int .i64 V) ∧ w'.cell? ⟨w1.heap.size, 1, none⟩ = some (.slice (some ⟨b, 0, none⟩) ms.length c)) (first | with_reducible (exact ⟨M6.out.drew.db.three.1, M6.out.drew.db.three.2.1⟩) | with_reducible (exact ⟨M7.out.db.three.1, M7.out.db.three.2.1⟩) | with_reducible (exact ⟨(M7.out.db.far (p := ⟨b, i * 3, none⟩) HNE.out _).three.1, (M7.out.db.far (p := ⟨b, i * 3, none⟩) HNE.out _).three.2.1⟩)) (first
        | (go_at_call 61; (with_reducible refine (pick_any g (q + 1 + 1) (V + 3) _ (by exact M6.out.drew.rd) (by omega) (by omega)).mono ?_); rintro e w7 ⟨hv, hR2, hG2⟩; obtain ⟨j, rfl, hj0, hj1⟩ := hv.pos (by omega); have M7 := Lib.hid (M6.out.drew.pick hR2 hG2); clear hv hR2 hG2 a0 ca0 fa0 a1 ca1 fa1 a2 ca2 fa2; obtain ⟨a0, ca0, fa0⟩ := M7.out.cell (i * 3) (by omega)))
      all_goals
        go_wp2_with fail
        go_meet
        case rel =>
          obtain ⟨m8, hl8, M8⟩ := M7.out.node (i * 3) (IntKind.i64.wrap (j - 1))
          exact ⟨_, _, _, _, _, _, by omega, hV0, hV1, by omega, M8⟩
    · go_region
      all_goals
        go_wp2_with fail
        go_meet
        case rel =>
          obtain ⟨m8, hl8, M8⟩ := M6.out.node (i * 3 + 1) a2
          exact ⟨_, _, _, _, _, _, by omega, hV0, hV1, by omega, M8.drew⟩
    · go_region_held3 (fun w' => w'.cell? ⟨w1.heap.size, 1, none⟩ = some (.slice (some ⟨b, 0, none⟩) ms.length c)) (first | with_reducible (exact M6.out.drew.db.three.2.1) | with_reducible (exact M7.out.db.three.2.1) | with_reducible (exact (M7.out.db.far (p := ⟨b, i * 3 + 2, none⟩) HNE.out _).three.2.1)) (first
        | (go_at_call 61; (with_reducible refine (pick_any g (q + 1 + 1) ((ms.length : Int) + 3) _ (by exact M6.out.drew.rd) (by omega) (by omega)).mono ?_); rintro e w7 ⟨hv, hR2, hG2⟩; obtain ⟨j, rfl, hj0, hj1⟩ := hv.pos (by omega); have M7 := Lib.hid (M6.out.drew.pick hR2 hG2); clear hv hR2 hG2 a0 ca0 fa0 a1 ca1 fa1 a2 ca2 fa2; obtain ⟨a0, ca0, fa0⟩ := M7.out.cell (i * 3 + 2) (by omega)))
      all_goals
        go_wp2_with fail
        go_meet
        case rel =>
          obtain ⟨m8, hl8, M8⟩ := M7.out.node (i * 3 + 2) j
          exact ⟨_, _, _, _, _, _, by omega, hV0, hV1, by omega, M8⟩
    · have hbl : b < w7.heap.size := (M7.out.own.lt b rfl).2
      have hdl : w1.heap.size < w7.heap.size := M7.out.db.lt
      have hne : ¬ w1.heap.size = b := HNE.out
      obtain ⟨m8, hl8, M8⟩ := M7.out.node (i * 3) b0
      obtain ⟨m9, hl9, M9⟩ := M8.node (i * 3 + 1) b1
      obtain ⟨m10, hl10, M10⟩ := M9.node (i * 3 + 2) b2
      obtain ⟨x0, cx0, fx0⟩ := M10.cell (j * 3) (by omega)
      obtain ⟨x1, cx1, fx1⟩ := M10.cell (j * 3 + 1) (by omega)
      obtain ⟨x2, cx2, fx2⟩ := M10.cell (j * 3 + 2) (by omega)
      have M10 := Lib.hid M10
      clear M8 M9
      go_region
      all_goals
        go_wp2_with fail
        go_meet
        case rel =>
          obtain ⟨m11, hl11, M11⟩ := M10.out.node (j * 3) a0
          obtain ⟨m12, hl12, M12⟩ := M11.node (j * 3 + 1) a1
          obtain ⟨m13, hl13, M13⟩ := M12.node (j * 3 + 2) a2
          exact ⟨_, _, _, _, _, _, by omega, hV0, hV1, by omega, (M13.alloc _).drew⟩
    · go_meet
      case rel => exact ⟨_, _, _, _, _, _, by omega, hV0, hV1, hl, M6.out⟩
  case rest =>
  obtain ⟨w7, rfl⟩ : ∃ x : World, x = wc := ⟨_, rfl⟩
  obtain ⟨q', V', R', A', c', ms', hq', hV0', hV1', hl', M7⟩ := hcut.out
  have M7 := Lib.hid M7
  clear hcut M6 d0 d1 d2
  obtain ⟨d0, d1, d2⟩ := M7.out.db.three
  obtain ⟨rx0, rx1, rx2⟩ := M7.out.rb.three
  have rz0 := M7.out.rb.frozen 0
  have rz1 := M7.out.rb.frozen 1
  have rz2 := M7.out.rb.frozen 2
  go_wp2_with fail
  obtain ⟨u0, u1, u2⟩ := (M7.out.rb.put3 (.int .i64 V') (.slice A' ms'.length c') (.int .i64 R')).three
  refine bodyPost_ret (v := .agg #[.int .i64 V', .slice A' ms'.length c', .int .i64 R']) (by simp [results, Try.results91, go_sem, u0, u1, u2]) rfl ⟨⟨V', R', ms', A', c', rfl, by omega, by omega, by omega, own_put3 M7.out.own (own_ne_blk M7.out.own M7.out.rb (by decide)) _ _ _⟩, ⟨q', by omega, ?_⟩, ?_⟩
  · exact ((M7.out.rd.set ⟨w.heap.size, 0, none⟩ _ hgl).set ⟨w.heap.size, 1, none⟩ _ hgl).set ⟨w.heap.size, 2, none⟩ _ hgl
  · exact gput (gput (gput M7.out.gr ⟨w.heap.size, 0, none⟩ _ (Nat.le_refl _)) ⟨w.heap.size, 1, none⟩ _ (Nat.le_refl _)) ⟨w.heap.size, 2, none⟩ _ (Nat.le_refl _)

end Go.Proofs.Ytffefegjnbfobaa
