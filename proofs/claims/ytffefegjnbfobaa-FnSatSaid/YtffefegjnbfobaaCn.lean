/- The reader of draws: clauses; the memory of cnf. -/
import Derived.Test.YtffefegjnbfobaaWc
import Derived.Test.YtffefegjnbfobaaH4
namespace Go.Proofs.Ytffefegjnbfobaa
open Go.RowKit
open B

/-- Clauses that were drawn: any, but few and short. -/
def AnyC (B : Nat) (w' : World) (e : Ending) : Prop :=
  ∃ (V : Int) (L : List (List Int)) (A : Option Addr) (c : Nat) (us : List Value), e = .returned (.agg #[.int .i64 V, .slice A L.length c]) ∧ -1 ≤ V ∧ V ≤ 11 ∧ L.length ≤ 62 ∧ (∀ l ∈ L, l.length ≤ 11) ∧ IntSS w' B (.slice A L.length c) us L

/-- The memory of cnf: the answer's box, the clauses' box d, the rows. -/
structure CM (w : World) (g d q : Nat) (V : Int) (A : Option Addr) (c : Nat) (us : List Value) (L : List (List Int)) (W : World) : Prop where
  gr : w.grownBy W (some g)
  rd : Rd W g q
  rb : Blk W w.heap.size 41 zC
  db : Blk W d 41 #[.int .i64 V, .slice A L.length c]
  rows : IntSS W w.heap.size (.slice A L.length c) us L
  gl : g < w.heap.size
  dl : w.heap.size < d

section
variable {w W W' : World} {g d q : Nat} {V : Int} {A : Option Addr} {c : Nat} {us : List Value} {L : List (List Int)}
theorem CM.pick (h : CM w g d q V A c us L W) (hR : Rd W' g (q + 1)) (hG : W.grownBy W' (some g)) : CM w g d (q + 1) V A c us L W' :=
  ⟨gtrans h.gr hG, hR, h.rb.grown hG (by intro e; injection e with e; have := h.gl; omega), h.db.grown hG (by intro e; injection e with e; have := h.gl; have := h.dl; omega), h.rows.kept hG (fun x hx => by injection hx with hx; have := h.gl; omega), h.gl, h.dl⟩
theorem CM.alloc (h : CM w g d q V A c us L W) (o : Obj) : CM w g d q V A c us L (W.alloc o) :=
  ⟨gtrans h.gr (World.grownBy_alloc _ _ _), h.rd.alloc o, h.rb.alloc o, h.db.alloc o, h.rows.alloc o, h.gl, h.dl⟩
theorem CM.below (h : CM w g d q V A c us L W) (hb : Below W.heap.size W W') : CM w g d q V A c us L W' :=
  ⟨gtrans h.gr (gbelow hb), h.rd.below hb, h.rb.below hb h.rb.lt, h.db.below hb h.db.lt, h.rows.below hb, h.gl, h.dl⟩
theorem CM.vars (h : CM w g d q V A c us L W) (x : Int) : CM w g d q x A c us L (W.setCell ⟨d, 0, none⟩ (.int .i64 x)) := by
  have hd := h.dl
  have hg := h.gl
  refine ⟨gput h.gr ⟨d, 0, none⟩ _ (Nat.le_of_lt hd), h.rd.set ⟨d, 0, none⟩ _ (by show g < d; omega), h.rb.far (p := ⟨d, 0, none⟩) (by show w.heap.size ≠ d; omega) _, ?_, h.rows.set h.db (by decide) (by decide) 0 _, hg, hd⟩
  have := h.db.set_ 0 (.int .i64 x)
  simpa using this
/-- Behind an append of one row, and the store of the new row of rows. -/
theorem CM.app (h : CM w g d q V A c us L W) {A' Al : Option Addr} {c' cl : Nat} {l : List Int} (hg : W.grownBy W' (Value.slice A L.length c).ownBlock)
    (ho : W'.ownsRow w.heap.size 23 1 (.slice A' (L.length + 1) c') (L.length + 1) (us ++ [.slice Al l.length cl]))
    (hl : W.ownsRow w.heap.size 3 1 (.slice Al l.length cl) l.length (l.map (.int .i64)))
    (hn : ∀ u ∈ us, ∀ x, u.ownBlock = some x → (Value.slice Al l.length cl).ownBlock ≠ some x) :
    CM w g d q V A' c' (us ++ [.slice Al l.length cl]) (L ++ [l]) (W'.setCell ⟨d, 1, none⟩ (.slice A' (L.length + 1) c')) := by
  have hd := h.dl
  have hgl := h.gl
  have hlow : ∀ k, k < w.heap.size → some k ≠ (Value.slice A L.length c).ownBlock := fun k hk => own_low h.rows.out hk
  have hrb := h.rb.grown hg (Ne.symm (own_ne_blk h.rows.out h.rb (by decide)))
  have hdb := h.db.grown hg (Ne.symm (own_ne_blk h.rows.out h.db (by decide)))
  have hr := h.rows.push ho hg hl hn
  refine ⟨⟨hg.os.trans h.gr.os, hg.tape.trans h.gr.tape, hg.output.trans h.gr.output, by simpa using Nat.le_trans h.gr.size hg.size, fun k hk hne => ?_⟩, ?_, hrb.far (p := ⟨d, 1, none⟩) (by show w.heap.size ≠ d; omega) _, ?_, ?_, hgl, hd⟩
  · exact (Below.heap_setCell W' ⟨d, 1, none⟩ _ k (by show k ≠ d; omega)).trans ((hg.block k (Nat.lt_of_lt_of_le hk h.gr.size) (hlow k hk)).trans (h.gr.block k hk hne))
  · exact (h.rd.of_same fun k hk => hg.block k (Nat.lt_of_le_of_lt hk h.rd.lt) (hlow k (by omega))).set ⟨d, 1, none⟩ _ (by show g < d; omega)
  · have := hdb.set_ 1 (.slice A' (L.length + 1) c')
    simpa using this
  · rw [show (L ++ [l]).length = L.length + 1 by simp]
    exact hr.set hdb (by decide) (by decide) 1 _
/-- Behind a growth of a row that is not (yet) one of the clauses. -/
theorem CM.row (h : CM w g d q V A c us L W) {Bq n : Nat} {v : Value} {xs : List Value} (ho : W.ownsRow Bq 3 1 v n xs) (hg : W.grownBy W' v.ownBlock) (hf : ∀ u ∈ us, ∀ x, u.ownBlock = some x → x < Bq) (hB : w.heap.size ≤ Bq) : CM w g d q V A c us L W' := by
  have hgl := h.gl
  have hlow : ∀ k, k < w.heap.size → some k ≠ v.ownBlock := fun k hk => own_low ho (by omega)
  refine ⟨⟨hg.os.trans h.gr.os, hg.tape.trans h.gr.tape, hg.output.trans h.gr.output, Nat.le_trans h.gr.size hg.size, fun k hk hne => (hg.block k (Nat.lt_of_lt_of_le hk h.gr.size) (hlow k hk)).trans (h.gr.block k hk hne)⟩, ?_, h.rb.grown hg (Ne.symm (own_ne_blk ho h.rb (by decide))), h.db.grown hg (Ne.symm (own_ne_blk ho h.db (by decide))), ?_, hgl, h.dl⟩
  · exact h.rd.of_same fun k hk => hg.block k (Nat.lt_of_le_of_lt hk h.rd.lt) (hlow k (by omega))
  · refine ⟨h.rows.out.kept hg (own_own h.rows.out ho (by decide)), fun i hi => ?_, h.rows.far⟩
    obtain ⟨Ai, ci, h1, h2⟩ := h.rows.row i hi
    refine ⟨Ai, ci, h1, h2.kept hg ?_⟩
    cases hb : (Value.slice Ai (L[i]).length ci).ownBlock with
    | none => exact .inl rfl
    | some x => exact .inr fun e => (by have h3 := hf _ (List.mem_of_getElem? h1) x hb; have h4 := (ho.lt x e.symm).1; omega)
/-- The rows' blocks lie below the world's end. -/
theorem CM.far (h : CM w g d q V A c us L W) : ∀ u ∈ us, ∀ x, u.ownBlock = some x → x < W.heap.size := fun _ hu _ hx => (h.rows.lt hu hx).2
end
end Go.Proofs.Ytffefegjnbfobaa
