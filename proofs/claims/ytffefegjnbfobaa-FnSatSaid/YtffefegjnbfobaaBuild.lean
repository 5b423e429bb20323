/- Words on maps of the call's own with integer elements: what a lookup and a store do, told by a function of the key; Walks: build: a table is laid down as 'mk' tells; A law: append onto a row of the call's own, whatever the source (nil, empty, or cells that are known); Walks: clone, table, diagram, same, BddOk of the program. -/
import Derived.Test.YtffefegjnbfobaaProg
import Derived.WalkKit
import Derived.Maps.Own
import Derived.Maps.OwnSet
import Derived.Deep.Strs
import Derived.StringKeys
import Derived.DeepKeys5
import Derived.Test.YtffefegjnbfobaaWd
import Derived.Laws.BytesArg
import Derived.Deep.DeepCutAuto
import Derived.Deep.CutBlock
import Derived.Deep.RegionLaw
import Derived.Deep.AppendLies
import Derived.Maps.AppendAt
import Derived.OwnWalk
namespace Go.Proofs.Ytffefegjnbfobaa
open Go.RowKit
open Go.Maps (Keyed)

/-- Block b is a map of at most n entries (keys of type k, elements int) that answers as F. -/
def MapF (w : World) (k : TypeId) (b n : Nat) (F : Value → Option Int) : Prop :=
  ∃ D : DataW Unit, w.ownsMap Try.prog k (plainElem Try.prog 3) b n D ∧ ∀ v kl, keyOf Try.prog k v = some kl →
    (F v = none → Maps.has D kl = false) ∧ (∀ x, F v = some x → Maps.has D kl = true ∧ D.atKey kl (.lit (.int .i64 0)) = .lit (.int .i64 x))

theorem MapF.lt {w : World} {k : TypeId} {b n : Nat} {F : Value → Option Int} (h : MapF w k b n F) : b < w.heap.size := by
  obtain ⟨D, h, _⟩ := h
  exact h.lt
theorem MapF.of_block {w w' : World} {k : TypeId} {b n : Nat} {F : Value → Option Int} (h : MapF w k b n F) (hb : w'.heap[b]? = w.heap[b]?) : MapF w' k b n F := by
  obtain ⟨D, ⟨es, clock, h1, h2⟩, h3⟩ := h
  exact ⟨D, ⟨es, clock, hb.trans h1, h2⟩, h3⟩
theorem MapF.below {w w' : World} {k : TypeId} {b n B : Nat} {F : Value → Option Int} (h : MapF w k b n F) (hb : Below B w w') (hlt : b < B) : MapF w' k b n F := h.of_block (hb.block b hlt)
theorem MapF.grown {w w' : World} {k : TypeId} {b n : Nat} {row : Option Nat} {F : Value → Option Int} (h : MapF w k b n F) (hg : w.grownBy w' row) (hne : some b ≠ row) : MapF w' k b n F := h.of_block (hg.block b h.lt hne)
theorem MapF.alloc {w : World} {k : TypeId} {b n : Nat} {F : Value → Option Int} (h : MapF w k b n F) (o : Obj) : MapF (w.alloc o) k b n F := h.of_block (Below.heap_alloc w o b h.lt)
theorem MapF.setCell {w : World} {k : TypeId} {b n : Nat} {F : Value → Option Int} (h : MapF w k b n F) {p : Addr} (hp : b ≠ p.block) (u : Value) : MapF (w.setCell p u) k b n F := h.of_block (Below.heap_setCell w p u b hp)
theorem MapF.mono {w : World} {k : TypeId} {b n n' : Nat} {F : Value → Option Int} (h : MapF w k b n F) (hn : n ≤ n') : MapF w k b n' F := by
  obtain ⟨D, h1, h3⟩ := h
  exact ⟨D, h1.mono hn, h3⟩
theorem MapF.made (w : World) (k : TypeId) : MapF (w.alloc (.map #[] 0)) k w.heap.size 0 (fun _ => none) :=
  ⟨.map [], World.ownsMap_made w _ _ _, fun _ _ _ => ⟨fun _ => rfl, fun _ h => by cases h⟩⟩

theorem zero_int (w : World) : (zeroValue 3).run Try.prog w = .ok (.int .i64 0) w := by kernel_rfl

theorem int_of_lit {a c : Int} (h : (DataW.lit (.int .i64 a) : DataW Unit) = .lit (.int .i64 c)) : a = c := by
  injection h with h
  injection h

theorem MapF.look {w : World} {k t : TypeId} {b n : Nat} {F : Value → Option Int} (h : MapF w k b n F) (K : Keyed Try.prog k) (ht : Try.prog.underlying t = some (.map k 3)) {key : Value} {kl : Lit} (hkey : keyOf Try.prog k key = some kl) :
    (Instr.lookup t (.map (some b)) key true).run Try.prog w = .ok (.tuple #[.int .i64 ((F key).getD 0), .bool (F key).isSome]) w := by
  obtain ⟨D, hown, hF⟩ := h
  have h0 : plainElem (H := Unit) Try.prog 3 (.int .i64 0) = some (.lit (.int .i64 0), []) := plainElem_int Try.underlying3 (by decide)
  obtain ⟨v, ps, hrun, hv⟩ := hown.look_ok K ht (zero_int w) h0 hkey
  obtain ⟨c, rfl, hc, _⟩ := plainElem_int_inv Try.underlying3 hv
  have hc := congrArg Prod.fst hc
  simp only at hc
  obtain ⟨f1, f2⟩ := hF key kl hkey
  rw [hrun]
  cases hf : F key with
  | none =>
    have e1 := f1 hf
    rw [Maps.atKey_of_not_has e1] at hc
    obtain rfl := int_of_lit hc
    rw [e1]; rfl
  | some x =>
    obtain ⟨e1, e2⟩ := f2 x hf
    rw [e2] at hc
    obtain rfl := int_of_lit hc
    rw [e1]; rfl

theorem MapF.store {w : World} {k t : TypeId} {b n : Nat} {F : Value → Option Int} (h : MapF w k b n F) (K : Keyed Try.prog k) (ht : Try.prog.underlying t = some (.map k 3)) (hn : n < maxLen) {key : Value} {kl : Lit} (hkey : keyOf Try.prog k key = some kl)
    {x : Int} (hx : (Lit.int .i64 x).wf = true) :
    ∃ w', (Instr.mapUpdate t (.map (some b)) key (.int .i64 x)).run Try.prog w = .ok () w' ∧ w.grownBy w' (some b) ∧ ∀ F' : Value → Option Int, F' key = some x → (∀ v, v ≠ key → F' v = F v) → MapF w' k b (n + 1) F' := by
  obtain ⟨D, hown, hF⟩ := h
  obtain ⟨w', hrun, hown', hg⟩ := hown.update K ht hn hkey (plainElem_int Try.underlying3 hx)
  refine ⟨w', hrun, hg, fun F' h1 h2 => ⟨_, hown', fun v kv hkv => ?_⟩⟩
  by_cases e : v = key
  · subst e
    rw [hkey] at hkv
    injection hkv with hkv
    subst hkv
    refine ⟨fun h => absurd (h1.symm.trans h) (by simp), fun y hy => ?_⟩
    rw [h1] at hy
    injection hy with hy
    subst hy
    exact ⟨Maps.has_put_same hown.isMap (K.key hkey) _, Maps.atKey_put_same hown.isMap (K.key hkey) _ _⟩
  · have hne : kv ≠ kl := fun h => e (K.inj hkv (h ▸ hkey))
    rw [h2 v e, Maps.has_put_other hne, Maps.atKey_put_other hne]
    exact hF v kv hkv

/-! ### the two kinds of keys -/
theorem keyed_string : Keyed Try.prog 9 := Go.Maps.string_keyed Try.underlying9
theorem key_string (s : ByteArray) (hs : s.size ≤ maxLen) : keyOf Try.prog 9 (.string s) = some (.string s.data.toList) := WideMaps.keyOf_string_mk Try.underlying9 hs
theorem laid : laidOutB Try.prog = true := by kernel_rfl
theorem keyed_node : Keyed Try.prog 89 := Keyed.of_law (deep_law_gate laid (of_decide_eq_true (by kernel_rfl)) (of_decide_eq_true (by kernel_rfl)) (by kernel_rfl) (by kernel_rfl))

def ndV (v lo hi : Int) : Value := .agg #[.int .i64 v, .int .i64 lo, .int .i64 hi]
theorem Try.cells3 : Try.prog.cellsOf 3 = 1 := by kernel_rfl
theorem cells_node : Try.prog.cellsOf 89 = 3 := by kernel_rfl
theorem key_node (v lo hi : Int) (hv : (Lit.int .i64 v).wf = true) (hlo : (Lit.int .i64 lo).wf = true) (hhi : (Lit.int .i64 hi).wf = true) : ∃ kl, keyOf Try.prog 89 (ndV v lo hi) = some kl := by
  have h := keyOf_asKey (H := Unit) (enc := fun _ => ()) (P := Try.prog) (w := default) (base := 0) (sp := fun _ => true) (held := true) (k := 89) (by kernel_rfl) (by kernel_rfl) (v := ndV v lo hi) (by simp [Value.formed, ndV, cells_node, Try.underlying89])
    (d := .agg [.lit (.int .i64 v), .lit (.int .i64 lo), .lit (.int .i64 hi)]) (ps := []) ⟨2, by
      have := Deep.trod_struct3_mk (enc := fun _ : TypeId × Value => ()) (P := Try.prog) (w := default) (base := 0) (spare := fun _ => true) (held := true) (n := 1) (cs := [.int .i64 v, .int .i64 lo, .int .i64 hi]) (y0 := (.lit (.int .i64 v), [])) (y1 := (.lit (.int .i64 lo), [])) (y2 := (.lit (.int .i64 hi), [])) Try.underlying89 (by rw [cells_node]; rfl)
        (by simp [DataW.trod, Try.underlying3, Try.cells3, hv]) (by simp [DataW.trod, Try.underlying3, Try.cells3, hlo]) (by simp [DataW.trod, Try.underlying3, Try.cells3, hhi])
      simpa [ndV, Value.cells] using this⟩
  exact ⟨_, h.1⟩

end Go.Proofs.Ytffefegjnbfobaa
namespace Go.Proofs.Ytffefegjnbfobaa
open Go.RowKit
open B

/-- The text of a table. -/
def bytesOf (f : Nat → Bool) (N : Nat) : ByteArray := strOfNums ((List.range N).map fun i => b2i (f i))
theorem bytesOf_size (f : Nat → Bool) (N : Nat) : (bytesOf f N).size = N := by simp [bytesOf, strOfNums_size]
theorem bytesOf_congr {f g : Nat → Bool} {N : Nat} (h : ∀ i, i < N → f i = g i) : bytesOf f N = bytesOf g N := by
  unfold bytesOf
  congr 1
  exact List.map_congr_left fun i hi => by rw [h i (List.mem_range.1 hi)]
theorem bytesOf_inj {f g : Nat → Bool} {N M : Nat} (h : bytesOf f N = bytesOf g M) : N = M ∧ ∀ i, i < N → f i = g i := by
  have hN : N = M := by rw [← bytesOf_size f N, h, bytesOf_size]
  subst hN
  refine ⟨rfl, fun i hi => ?_⟩
  have h1 := congrArg (fun s : ByteArray => s.data.toList[i]?) h
  simp only [bytesOf, strOfNums_data, List.map_map, List.getElem?_map, List.getElem?_range hi, Option.map_some, Function.comp] at h1
  cases hf : f i <;> cases hg : g i <;> simp [hf, hg, b2i] at h1 ⊢
theorem bytesOf_max {f : Nat → Bool} {N : Nat} (h : N ≤ 1048576) : (bytesOf f N).size ≤ maxLen := by rw [bytesOf_size]; unfold maxLen; omega

theorem conv_table {w : World} {g N : Nat} {f : Nat → Bool} (h : Blk w g 5 (rowF (fun c => u8b (f c)) N)) :
    (convert 83 9 (.slice (some ⟨g, 0, none⟩) N N)).run Try.prog w = .ok (.string (bytesOf f N)) w :=
  run_convert_bytes_arg w 83 5 Try.underlying83 Try.underlying5 g 0 N N _ (by simp) (fun i hi => by
    rw [Nat.zero_add, h.cell, rowF_get _ _ _ hi]
    simp [u8b, List.getD_eq_getElem?_getD, hi]) 9 Try.underlying9

def ncells (ns : List Nd) : List Value := ns.flatMap fun n => [.int .i64 n.v, .int .i64 n.lo, .int .i64 n.hi]
theorem ncells_length (ns : List Nd) : (ncells ns).length = ns.length * 3 := by
  induction ns with
  | nil => rfl
  | cons n ns ih => simp [ncells, List.flatMap_cons] at ih ⊢; omega
theorem ncells_one (ns : List Nd) : ∀ u ∈ ncells ns, u.oneCell' = true := by
  intro u hu
  simp only [ncells, List.mem_flatMap, List.mem_cons, List.not_mem_nil, or_false] at hu
  obtain ⟨n, _, rfl | rfl | rfl⟩ := hu <;> rfl
theorem ncells_app (a b : List Nd) : ncells (a ++ b) = ncells a ++ ncells b := by simp [ncells]

/-- What the builder's memory holds: the nodes ns, what was seen (S), where nodes are (M). -/
structure BI (w : World) (B bB m1 m2 vars : Nat) (v : Value) (ns : List Nd) (n1 : Nat) (S M : Value → Option Int) : Prop where
  blk : ∃ root : Int, Blk w bB 119 #[.int .i64 (vars : Int), v, .int .i64 root, .map (some m1), .map (some m2)]
  own : w.ownsRow B 89 3 v ns.length (ncells ns)
  seen : MapF w 9 m1 n1 S
  nodes : MapF w 89 m2 ns.length M
  bB : B ≤ bB
  m1B : B ≤ m1
  m2B : B ≤ m2
  ne : m1 ≠ m2
  hS : ∀ k f p, S (.string (bytesOf f (2 ^ k))) = some p → k ≤ vars → isP ns p ∧ vars - k ≤ vr vars ns p ∧ ∀ i, i < 2 ^ k → rel ns (vars - k) p i = f i
  hM : ∀ n : Nd, M (ndV n.v n.lo n.hi) = if n ∈ ns then some ((ns.idxOf n : Int) + 2) else none
  wf : Wf vars ns

theorem BI.of_same {w w' : World} {B bB m1 m2 vars : Nat} {v : Value} {ns : List Nd} {n1 : Nat} {S M : Value → Option Int} (h : BI w B bB m1 m2 vars v ns n1 S M) (hs : ∀ g, g < w.heap.size → w'.heap[g]? = w.heap[g]?) : BI w' B bB m1 m2 vars v ns n1 S M := by
  obtain ⟨⟨root, h1⟩, h2, h3, h4, h5, h6, h7, h8, h9, h10, h11⟩ := h
  refine ⟨⟨root, (hs _ h1.lt).trans h1⟩, ⟨h2.1, ?_⟩, h3.of_block (hs _ h3.lt), h4.of_block (hs _ h4.lt), h5, h6, h7, h8, h9, h10, h11⟩
  rcases h2.2 with h | ⟨g, cap, cur, e1, e2, e3, e4⟩
  · exact .inl h
  · exact .inr ⟨g, cap, cur, e1, e2, (hs g (Array.getElem?_eq_some_iff.1 e3).1).trans e3, e4⟩

theorem info86 : (Try.prog.info? 89).map (fun i => (i.zero, i.size, i.bytes)) = some (some (.agg #[.int .i64 0, .int .i64 0, .int .i64 0]), 3, 24) := by kernel_rfl

/-- Rows of bytes are left as they are. -/
def Bytes (w w' : World) : Prop := ∀ g cs, Blk w g 5 cs → Blk w' g 5 cs

theorem bytes_same {f g : Nat → Bool} {N : Nat} (h : ∀ i, i < N → f i = g i) : (!(bytesOf f N).toList == (bytesOf g N).toList) = false := by rw [bytesOf_congr h]; simp
theorem bytes_ne {f g : Nat → Bool} {N : Nat} (h : ¬ ∀ i, i < N → f i = g i) : (!(bytesOf f N).toList == (bytesOf g N).toList) = true := by
  rw [Bool.not_eq_true', beq_eq_false_iff_ne]
  intro e
  refine h (bytesOf_inj (N := N) (M := N) ?_).2
  rw [Go.ByteArray.toList_eq, Go.ByteArray.toList_eq] at e
  exact ByteArray.ext (Array.toList_inj.1 e)

theorem MapF.ne_blk {w : World} {k t : TypeId} {b n g : Nat} {F : Value → Option Int} {cs : Array Value} (h : MapF w k b n F) (hg : Blk w g t cs) : g ≠ b := by
  rintro rfl
  obtain ⟨D, ⟨es, clock, h1, _⟩, _⟩ := h
  unfold Blk at hg
  rw [h1] at hg
  cases hg
theorem MapF.ne_own {w : World} {k e : TypeId} {b n m base size : Nat} {v : Value} {xs : List Value} {F : Value → Option Int} (h : MapF w k b n F) (hv : w.ownsRow base e size v m xs) : v.ownBlock ≠ some b := by
  rcases hv.2 with ⟨rfl, _⟩ | ⟨g, cap, cur, rfl, _, hh, _⟩
  · simp [Value.ownBlock]
  · intro he
    have : g = b := by simpa [Value.ownBlock] using he
    subst this
    exact h.ne_blk (g := g) (t := e) hh rfl
theorem own_ne_blk {w : World} {base : Nat} {e t : TypeId} {size n g : Nat} {v : Value} {xs : List Value} {cs : Array Value} (h : w.ownsRow base e size v n xs) (hg : Blk w g t cs) (hne : e ≠ t) : v.ownBlock ≠ some g := by
  rcases h.2 with ⟨rfl, _⟩ | ⟨g', cap, cur, rfl, _, hh, _⟩
  · simp [Value.ownBlock]
  · intro he
    have : g' = g := by simpa [Value.ownBlock] using he
    subst this
    unfold Blk at hg
    rw [hh] at hg
    injection hg with hg
    injection hg with _ ht
    exact hne ht

/-- A store into the map of what was seen. -/
theorem BI.saw {w w' : World} {B bB m1 m2 vars : Nat} {v : Value} {ns : List Nd} {n1 : Nat} {S M : Value → Option Int} (h : BI w B bB m1 m2 vars v ns n1 S M) {k : Nat} {f : Nat → Bool} {p : Int} (hk : k ≤ vars) (hp : isP ns p) (hv : vars - k ≤ vr vars ns p)
    (hm : ∀ i, i < 2 ^ k → rel ns (vars - k) p i = f i) (hg : w.grownBy w' (some m1))
    (hF : ∀ F' : Value → Option Int, F' (.string (bytesOf f (2 ^ k))) = some p → (∀ x, x ≠ .string (bytesOf f (2 ^ k)) → F' x = S x) → MapF w' 9 m1 (n1 + 1) F') : ∃ S', BI w' B bB m1 m2 vars v ns (n1 + 1) S' M := by
  classical
  refine ⟨fun x => if x = .string (bytesOf f (2 ^ k)) then some p else S x, ?_⟩
  obtain ⟨root, hblk⟩ := h.blk
  refine ⟨⟨root, hblk.grown hg (fun e => h.seen.ne_blk hblk (by injection e))⟩, h.own.kept hg (.inr (h.seen.ne_own h.own)), hF _ (by simp) (fun x hx => by simp [hx]), h.nodes.grown hg (fun e => h.ne (by injection e with e; exact e.symm)), h.bB, h.m1B, h.m2B, h.ne, ?_, h.hM, h.wf⟩
  intro k' g q hq hk'
  by_cases e : (Value.string (bytesOf g (2 ^ k'))) = .string (bytesOf f (2 ^ k))
  · simp only [e, if_true] at hq
    injection hq with hq
    subst hq
    injection e with e
    obtain ⟨e1, e2⟩ := bytesOf_inj e
    have : k' = k := (Nat.pow_right_inj (by omega)).1 e1
    subst this
    exact ⟨hp, hv, fun i hi => (hm i hi).trans (e2 i hi).symm⟩
  · simp only [e, if_false] at hq
    exact h.hS k' g q hq hk'

theorem Bytes.grown {w w' : World} {m : Nat} (hg : w.grownBy w' (some m)) (hm : ∀ x xs, Blk w x 5 xs → x ≠ m) : Bytes w w' := fun _ _ h => h.grown hg (fun e => hm _ _ h (by injection e))
theorem Bytes.trans {a b c : World} (h : Bytes a b) (k : Bytes b c) : Bytes a c := fun _ _ hh => k _ _ (h _ _ hh)
theorem Bytes.below {w w' : World} (h : Below w.heap.size w w') : Bytes w w' := fun _ _ hh => hh.below h hh.lt

/-- Between the append of a node and its entry in the map. -/
structure Mid (w2 wc : World) (B bB m1 m2 vars n12 : Nat) (ns : List Nd) (n : Nd) (S M : Value → Option Int) (v3 : Value) : Prop where
  blk : ∃ root : Int, Blk wc bB 119 #[.int .i64 (vars : Int), v3, .int .i64 root, .map (some m1), .map (some m2)]
  own : wc.ownsRow B 89 3 v3 (ns.length + 1) (ncells (ns ++ [n]))
  seen : MapF wc 9 m1 n12 S
  nodes : MapF wc 89 m2 ns.length M
  below : Below B w2 wc
  bytes : Bytes w2 wc
  node : Blk wc w2.heap.size 89 #[.int .i64 n.v, .int .i64 n.lo, .int .i64 n.hi]

theorem mid_of {w2 w3 : World} {B bB m1 m2 vars n12 : Nat} {A2 : Option Addr} {cap2 : Nat} {ns : List Nd} {n : Nd} {S M : Value → Option Int} (h : BI w2 B bB m1 m2 vars (.slice A2 ns.length cap2) ns n12 S M) {g cap : Nat} {Y : Obj}
    (ho : w3.ownsRow B 89 3 (.slice (some ⟨g, 0, none⟩) (ns.length + 1) cap) (ns.length + 1) (ncells ns ++ [.int .i64 n.v, .int .i64 n.lo, .int .i64 n.hi]))
    (hg : ((w2.alloc (.cells #[.int .i64 n.v, .int .i64 n.lo, .int .i64 n.hi] 89)).alloc Y).grownBy w3 (Value.slice A2 ns.length cap2).ownBlock) (hor : (Value.slice A2 ns.length cap2).ownBlock = some g ∨ g = w2.heap.size + 2) :
    Mid w2 (w3.setCell ⟨bB, 1, none⟩ (.slice (some ⟨g, 0, none⟩) (ns.length + 1) cap)) B bB m1 m2 vars n12 ns n S M (.slice (some ⟨g, 0, none⟩) (ns.length + 1) cap) := by
  obtain ⟨root, hblk⟩ := h.blk
  have hB : B ≤ w2.heap.size := Nat.le_trans h.bB (Nat.le_of_lt hblk.lt)
  have hne := own_ne_blk h.own hblk (by decide)
  have hb3 := ((hblk.alloc _).alloc Y).grown hg (fun e => hne e.symm)
  have hgb : g ≠ bB := by
    rcases hor with e | e
    · rintro rfl; exact hne e
    · have := hblk.lt; omega
  have hns : (Value.slice A2 ns.length cap2).ownBlock ≠ some w2.heap.size := fun e => by
    have := (h.own.lt _ e).2; omega
  have hrow : ∀ k, (Value.slice A2 ns.length cap2).ownBlock = some k → B ≤ k := fun k e => (h.own.lt _ e).1
  have hbw : Below B w2 w3 := (((Below.refl B w2).alloc hB _).alloc (by simp; omega) Y).grown hg (by simp; omega) hrow
  refine ⟨⟨root, ?_⟩, ⟨?_, ?_⟩, ?_, ?_, hbw.setCell h.bB _, ?_, ?_⟩
  · exact hb3.set_ 1 _
  · rw [ncells_app]; exact ho.1
  · rw [ncells_app]
    rcases ho.2 with ⟨e, _⟩ | ⟨g', cap', cur, e1, e2, e3, e4⟩
    · cases e
    · refine .inr ⟨g', cap', cur, e1, e2, (Below.heap_setCell _ _ _ _ ?_).trans e3, e4⟩
      have : g = g' := by injection e1 with e1; injection e1 with e1; injection e1
      subst this; exact hgb
  · exact (((h.seen.alloc _).alloc Y).grown hg (fun e => (h.seen.ne_own h.own) e.symm)).setCell (p := ⟨bB, 1, none⟩) (fun e => h.seen.ne_blk hblk e.symm) _
  · exact (((h.nodes.alloc _).alloc Y).grown hg (fun e => (h.nodes.ne_own h.own) e.symm)).setCell (p := ⟨bB, 1, none⟩) (fun e => h.nodes.ne_blk hblk e.symm) _
  · intro x xs hx
    refine (((hx.alloc _).alloc Y).grown hg (fun e => own_ne_blk h.own hx (by decide) e.symm)).far (p := ⟨bB, 1, none⟩) ?_ _
    rintro rfl
    unfold Blk at hx hblk
    rw [hx] at hblk
    injection hblk with hblk
    injection hblk with _ ht
    exact absurd ht (by decide)
  · exact (((Blk.new w2 _ _).alloc Y).grown hg (fun e => hns e.symm)).far (p := ⟨bB, 1, none⟩) (by have := hblk.lt; show w2.heap.size ≠ bB; omega) _

/-- The node's entry. -/
theorem Mid.done {w2 wc w4 : World} {B bB m1 m2 vars n12 : Nat} {v2 v3 : Value} {ns : List Nd} {n : Nd} {S M : Value → Option Int} (h : BI w2 B bB m1 m2 vars v2 ns n12 S M) (m : Mid w2 wc B bB m1 m2 vars n12 ns n S M v3) (hn : n ∉ ns) (hw : Wf vars (ns ++ [n]))
    (hg : wc.grownBy w4 (some m2)) (hF : ∀ F' : Value → Option Int, F' (ndV n.v n.lo n.hi) = some ((ns.length : Int) + 2) → (∀ x, x ≠ ndV n.v n.lo n.hi → F' x = M x) → MapF w4 89 m2 (ns.length + 1) F') :
    ∃ M', BI w4 B bB m1 m2 vars v3 (ns ++ [n]) n12 S M' := by
  classical
  refine ⟨fun x => if x = ndV n.v n.lo n.hi then some ((ns.length : Int) + 2) else M x, ?_⟩
  obtain ⟨root, hblk⟩ := m.blk
  refine ⟨⟨root, hblk.grown hg (fun e => m.nodes.ne_blk hblk (by injection e))⟩, by rw [List.length_append]; exact m.own.kept hg (.inr (m.nodes.ne_own m.own)), m.seen.grown hg (fun e => h.ne (by injection e)), by rw [List.length_append]; exact hF _ (by simp) (fun x hx => by simp [hx]), h.bB, h.m1B, h.m2B, h.ne, ?_, ?_, hw⟩
  · intro k f p hp hk
    obtain ⟨a, b, c⟩ := h.hS k f p hp hk
    have hpre : ns <+: ns ++ [n] := List.prefix_append _ _
    exact ⟨isP_app hpre a, by rw [vr_app hpre a]; exact b, fun i hi => by rw [rel_app h.wf.fm hpre a]; exact c i hi⟩
  · intro x
    by_cases e : x = n
    · subst e
      simp [List.idxOf_append, hn]
    · have e' : ndV x.v x.lo x.hi ≠ ndV n.v n.lo n.hi := fun h => e (by
        cases x; cases n
        simp [ndV] at h
        simp [h])
      simp only [e', if_false]
      rw [h.hM x]
      by_cases hx : x ∈ ns
      · simp [hx, List.idxOf_append]
      · simp [hx, e]

set_option maxRecDepth 100000 in
set_option maxHeartbeats 1000000 in
theorem build_any (vars : Nat) (hvars : vars ≤ 13) (B bB m1 m2 : Nat) : ∀ (k low : Nat) (lowI : Int) (N : Nat) (tb : Nat) (f : Nat → Bool) (v : Value) (ns : List Nd) (n1 : Nat) (S M : Value → Option Int) (w : World),
    lowI = low → low + k = vars → N = 2 ^ k → BI w B bB m1 m2 vars v ns n1 S M → Blk w tb 5 (rowF (fun c => u8b (f c)) N) → ns.length + N ≤ 20000 → n1 + 2 * N ≤ 40000 →
    Calls Try.prog 115 #[.pointer (some ⟨bB, 0, none⟩), .slice (some ⟨tb, 0, none⟩) N N, .int .i64 lowI] w fun e w' =>
      e = .returned (.int .i64 (mk k low f ns).1) ∧ Below B w w' ∧ Bytes w w' ∧ ∃ v' n1' S' M', BI w' B bB m1 m2 vars v' (mk k low f ns).2 n1' S' M' ∧ n1' + 1 ≤ n1 + 2 * N ∧ (mk k low f ns).2.length + 1 ≤ ns.length + N := by
  intro k
  induction k with
  | zero =>
    rintro low _ N tb f v ns n1 S M w rfl hv hN hI hT hl1 hl2
    have hN : N = 1 := by simpa using hN
    subst hN
    have hc : w.cell? ⟨tb, 0, none⟩ = some (.int .u8 (b2i (f 0))) := by rw [hT.cell]; exact rowF_get _ _ _ (by omega)
    obtain ⟨b0, b1⟩ := b2i_bd (f 0)
    have hpost : Hid (∃ v' n1' S' M', BI w B bB m1 m2 vars v' (mk 0 low f ns).2 n1' S' M' ∧ n1' + 1 ≤ n1 + 2 * 1 ∧ (mk 0 low f ns).2.length + 1 ≤ ns.length + 1) := ⟨v, n1, S, M, hI, by omega, by simp [mk]⟩
    have hres : Hid ((mk 0 low f ns).1 = b2i (f 0)) := by simp [mk, b2i, Hid]
    clear hI hT
    go_enter Try.func115, Try.ntmps115
    go_wp2_with fail
    go_ret
    exact ⟨ret_int (by rw [hres.out]), Below.refl _ _, fun _ _ h => h, hpost.out⟩
  | succ k ih =>
    rintro low _ N tb f v ns n1 S M w rfl hv hN hI hT hl1 hl2
    obtain ⟨root, hblk⟩ := hI.blk
    have c3 : w.cell? ⟨bB, 3, none⟩ = some (.map (some m1)) := by rw [hblk.cell]; rfl
    have hkey : keyOf Try.prog 9 (.string (bytesOf f N)) = some (.string (bytesOf f N).data.toList) := key_string _ (bytesOf_max (by omega))
    have hlook := hI.seen.look keyed_string Try.underlying116 hkey
    have hconv := conv_table hT
    have hN1 : ((N : Int) == 1) = false := by
      rw [beq_eq_false_iff_ne]
      have : 1 ≤ 2 ^ k := Nat.one_le_two_pow
      rw [hN, Nat.pow_succ]; omega
    clear hkey
    cases hs : S (.string (bytesOf f N)) with
    | some p =>
      rw [hs] at hlook
      have hmk : mk (k + 1) low f ns = (p, ns) := by
        have h := hI.hS (k + 1) f p (by rw [← hN]; exact hs) (by omega)
        rw [show vars - (k + 1) = low by omega] at h
        exact mk_there hI.wf (k + 1) low f p hv h.1 h.2.1 h.2.2
      have hpost : Hid ((mk (k + 1) low f ns).1 = p ∧ ∃ v' n1' S' M', BI w B bB m1 m2 vars v' (mk (k + 1) low f ns).2 n1' S' M' ∧ n1' + 1 ≤ n1 + 2 * N ∧ (mk (k + 1) low f ns).2.length + 1 ≤ ns.length + N) := by
        have hpos : 1 ≤ N := by rw [hN]; exact Nat.one_le_two_pow
        rw [hmk]; exact ⟨rfl, v, n1, S, M, hI, by omega, by show ns.length + 1 ≤ _; omega⟩
      clear hI hT hs hblk hN hmk
      go_enter Try.func115, Try.ntmps115
      go_wp2_with fail
      go_ret
      exact ⟨ret_int hpost.out.1.symm, Below.refl _ _, fun _ _ h => h, hpost.out.2⟩
    | none =>
      rw [hs] at hlook
      obtain ⟨K, hNK⟩ : ∃ K, N = 2 * K := ⟨2 ^ k, by rw [hN, Nat.pow_succ]; omega⟩
      have hK : Hid (K = 2 ^ k) := by have := hN; rw [Nat.pow_succ] at this; show K = 2 ^ k; omega
      clear hN
      subst hNK
      have hK0 : 1 ≤ K := by have : 1 ≤ 2 ^ k := Nat.one_le_two_pow; have := hK.out; omega
      have hT' := Lib.hid hT
      have HI := Lib.hid hI
      have Hs := Lib.hid hs
      have hmk := fun W => mk_table K (by omega) W
      clear hI hT hs hblk
      go_enter Try.func115, Try.ntmps115
      go_wp2_with fail
      go_cut [10, 11] (fun s10 s11 wc => ∃ g0 g1, s10 = .slice (some ⟨g0, 0, none⟩) K K ∧ s11 = .slice (some ⟨g1, 0, none⟩) K K ∧ g0 ≠ g1 ∧ w.heap.size ≤ g0 ∧ w.heap.size ≤ g1 ∧ Below w.heap.size w wc ∧ Blk wc g0 5 (rowF (fun _ => .int .u8 0) K) ∧ Blk wc g1 5 (rowF (fun _ => .int .u8 0) K))
      case first =>
        go_region
        all_goals
          go_wp2_with fail
          go_meet
          case rel =>
            have b0 : Blk (w.alloc (.cells (madeCells #[.int .u8 0] K) 5)) w.heap.size 5 (rowF (fun _ => .int .u8 0) K) := by rw [made_rowF]; exact Blk.new _ _ _
            have b1 : Blk ((w.alloc (.cells (madeCells #[.int .u8 0] K) 5)).alloc (.cells (madeCells #[.int .u8 0] K) 5)) (w.heap.size + 1) 5 (rowF (fun _ => .int .u8 0) K) := by
              have := Blk.new (w.alloc (.cells (madeCells #[.int .u8 0] K) 5)) 5 (madeCells #[.int .u8 0] K)
              rw [made_rowF] at this ⊢
              simpa using this
            first
              | exact ⟨_, _, rfl, rfl, by omega, by omega, by omega, (((Below.refl _ _).alloc (Nat.le_refl _) _).alloc (by simp) _).drew, b0.alloc _, b1⟩
              | exact ⟨_, _, rfl, rfl, by omega, by omega, by omega, (((Below.refl _ _).alloc (Nat.le_refl _) _).alloc (by simp) _).drew, b1, b0.alloc _⟩
      case rest =>
        obtain ⟨g0, g1, rfl, rfl, hne, hg0, hg1, hbw, hB0, hB1⟩ := hcut
        clear hmk hlook hconv c3 hN1
        have HB0 := Lib.hid hB0
        have HB1 := Lib.hid hB1
        clear hB0 hB1
        go_wp2_with fail
        go_loopw [47] (fun i wr => ∃ j : Nat, j ≤ K ∧ i = .int .i64 j ∧ Below w.heap.size w wr ∧ Hid (Blk wr g0 5 (rowF (fun c => if c < j then u8b (f (2 * c)) else .int .u8 0) K)) ∧ Hid (Blk wr g1 5 (rowF (fun c => if c < j then u8b (f (2 * c + 1)) else .int .u8 0) K))) (fun i _ => K - (intOf i).toNat)
        case atStart => exact ⟨0, by omega, rfl, hbw, HB0.out, HB1.out⟩
        case round =>
          obtain ⟨j, hj, rfl, hbr, H0, H1⟩ := hrel
          by_cases hlt : j < K
          · have htl : tb < w.heap.size := hT'.out.lt
            have t0 : wr.cell? ⟨tb, 2 * j, none⟩ = some (.int .u8 (b2i (f (2 * j)))) := by rw [(hT'.out.below hbr htl).cell, rowF_get _ _ _ (by omega)]; rfl
            have t1 : wr.cell? ⟨tb, 2 * j + 1, none⟩ = some (.int .u8 (b2i (f (2 * j + 1)))) := by rw [(hT'.out.below hbr htl).cell, rowF_get _ _ _ (by omega)]; rfl
            have p0 : wr.cell? ⟨g0, j, none⟩ = some (.int .u8 0) := by rw [H0.out.cell, rowF_get _ _ _ hlt]; simp
            have p1 : wr.cell? ⟨g1, j, none⟩ = some (.int .u8 0) := by rw [H1.out.cell, rowF_get _ _ _ hlt]; simp
            have z0 := H0.out.frozen j
            have z1 := H1.out.frozen j
            go_wp2_with fail
            go_region
            go_wp2_with fail
            go_roundw
            case rel =>
              refine ⟨j + 1, by omega, by go_num, ((hbr.setCell (p := ⟨g0, j, none⟩) hg0 _).setCell (p := ⟨g1, j, none⟩) hg1 _).drew, ?_, ?_⟩
              · have h3 := (H0.out.set_ j (.int .u8 (b2i (f (2 * j))))).far (p := ⟨g1, j, none⟩) hne (.int .u8 (b2i (f (2 * j + 1))))
                rw [rowF_set] at h3
                show Blk _ _ _ _
                rw [rowF_congr (g := fun c => if c = j then Value.int .u8 (b2i (f (2 * j))) else if c < j then u8b (f (2 * c)) else .int .u8 0)]
                · exact h3
                · intro i hi
                  by_cases e : i = j
                  · subst e; simp [u8b]
                  · simp [e, show i < j + 1 ↔ i < j by omega]
              · have h3 := (H1.out.far (p := ⟨g0, j, none⟩) (Ne.symm hne) (.int .u8 (b2i (f (2 * j))))).set_ j (.int .u8 (b2i (f (2 * j + 1))))
                rw [rowF_set] at h3
                show Blk _ _ _ _
                rw [rowF_congr (g := fun c => if c = j then Value.int .u8 (b2i (f (2 * j + 1))) else if c < j then u8b (f (2 * c + 1)) else .int .u8 0)]
                · exact h3
                · intro i hi
                  by_cases e : i = j
                  · subst e; simp [u8b]
                  · simp [e, show i < j + 1 ↔ i < j by omega]
            case measure => simp [intOf]; omega
          · have hT0 : Blk wr g0 5 (rowF (fun c => u8b (f (2 * c))) K) := by
              rw [rowF_congr (g := fun c => if c < j then u8b (f (2 * c)) else .int .u8 0) fun i hi => by rw [if_pos (by omega)]]; exact H0.out
            have hT1 : Blk wr g1 5 (rowF (fun c => u8b (f (2 * c + 1))) K) := by
              rw [rowF_congr (g := fun c => if c < j then u8b (f (2 * c + 1)) else .int .u8 0) fun i hi => by rw [if_pos (by omega)]]; exact H1.out
            have hIr := HI.out.of_same (w' := wr) fun g hg => hbr.block g hg
            have hBB : B ≤ w.heap.size := Nat.le_trans hIr.bB (by obtain ⟨_, hb⟩ := HI.out.blk; exact Nat.le_of_lt hb.lt)
            have HT0 := Lib.hid hT0
            have HT1 := Lib.hid hT1
            have HIr := Lib.hid hIr
            clear hT0 hT1 hIr H0 H1 HB0 HB1
            go_wp2_with fail
            refine (ih (low + 1) _ K g0 (fun c => f (2 * c)) v ns n1 S M wr (by simp) (by omega) hK.out HIr.out HT0.out (by omega) (by omega)).mono ?_
            rintro e w1 ⟨rfl, hb1, hy1, v1, n11, S1, M1, hI1, hn1, hl3⟩
            have A := mk_laid k (low + 1) (fun c => f (2 * c)) ns (by omega) HI.out.wf
            have hmk : mk (k + 1) low f ns = if (mk k (low + 1) (fun c => f (2 * c)) ns).1 = (mk k (low + 1) (fun c => f (2 * c + 1)) (mk k (low + 1) (fun c => f (2 * c)) ns).2).1 then ((mk k (low + 1) (fun c => f (2 * c)) ns).1, (mk k (low + 1) (fun c => f (2 * c + 1)) (mk k (low + 1) (fun c => f (2 * c)) ns).2).2) else push ⟨low, (mk k (low + 1) (fun c => f (2 * c)) ns).1, (mk k (low + 1) (fun c => f (2 * c + 1)) (mk k (low + 1) (fun c => f (2 * c)) ns).2).1⟩ (mk k (low + 1) (fun c => f (2 * c + 1)) (mk k (low + 1) (fun c => f (2 * c)) ns).2).2 := rfl
            have Hmk := Lib.hid hmk
            clear hmk
            generalize mk k (low + 1) (fun c => f (2 * c)) ns = a at *
            have q0 := conv_table (hy1 _ _ HT0.out)
            have q1 := conv_table (hy1 _ _ HT1.out)
            have HI1 := Lib.hid hI1
            have HA := Lib.hid A
            have Hy1 := Lib.hid hy1
            clear hI1 A hy1
            obtain ⟨bb, e77, HBB⟩ : ∃ bb, (!(bytesOf (fun c => f (2 * c)) K).toList == (bytesOf (fun c => f (2 * c + 1)) K).toList) = bb ∧ Hid (bb = false ↔ ∀ i, i < K → f (2 * i) = f (2 * i + 1)) := by
              by_cases hfe : ∀ i, i < K → f (2 * i) = f (2 * i + 1)
              · exact ⟨false, bytes_same hfe, ⟨fun _ => hfe, fun _ => rfl⟩⟩
              · exact ⟨true, bytes_ne hfe, ⟨fun h => (Bool.noConfusion h), fun h => (hfe h).elim⟩⟩
            go_upto_if 77 with (fail)
            clear e77
            go_cut [13] (fun s13 wc => s13 = .int .i64 (mk (k + 1) low f ns).1 ∧ ∃ v' n1' S' M', BI wc B bB m1 m2 vars v' (mk (k + 1) low f ns).2 n1' S' M' ∧ n1' + 2 ≤ n1 + 4 * K ∧ (mk (k + 1) low f ns).2.length + 1 ≤ ns.length + 2 * K ∧ Below B w wc ∧ Bytes w wc)
            case first =>
              cases bb with
              | false =>
                have HF := Lib.hid (HBB.out.1 rfl)
                clear q0 q1
                go_wp2_with fail
                go_meet
                case rel =>
                  have A := HA.out
                  have e : mk k (low + 1) (fun c => f (2 * c + 1)) a.2 = a := mk_there A.wf k (low + 1) _ a.1 (by omega) A.place A.var fun i hi => (A.means i hi).trans (HF.out i (by rw [hK.out]; exact hi))
                  have e2 : mk (k + 1) low f ns = a := by rw [Hmk.out, e, if_pos rfl]
                  rw [e2]
                  exact ⟨rfl, v1, n11, S1, M1, HI1.out, by omega, by omega, (hbr.mono hBB).trans hb1, (Bytes.below hbr).trans Hy1.out⟩
              | true =>
                have HF : Hid (¬ ∀ i, i < K → f (2 * i) = f (2 * i + 1)) := fun h => by have := HBB.out.2 h; cases this
                clear q0 q1
                go_wp2_with fail
                refine (ih (low + 1) _ K g1 (fun c => f (2 * c + 1)) v1 a.2 n11 S1 M1 w1 (by simp) (by omega) hK.out HI1.out (Hy1.out _ _ HT1.out) (by omega) (by omega)).mono ?_
                rintro e w2 ⟨rfl, hb2, hy2, v2, n12, S2, M2, hI2, hn2, hl4⟩
                have Bl := mk_laid k (low + 1) (fun c => f (2 * c + 1)) a.2 (by omega) HA.out.wf
                generalize mk k (low + 1) (fun c => f (2 * c + 1)) a.2 = b at *
                have hab : a.1 ≠ b.1 := fun e => HF.out fun i hi => by
                  have h1 := HA.out.means i (by rw [← hK.out]; exact hi)
                  have h2 := Bl.means i (by rw [← hK.out]; exact hi)
                  rw [← h1, ← h2, ← e, rel_app HA.out.wf.fm Bl.pre HA.out.place]
                have e2 : mk (k + 1) low f ns = push ⟨low, a.1, b.1⟩ b.2 := by rw [Hmk.out, if_neg hab]
                have HE := Lib.hid e2
                have HI2 := Lib.hid hI2
                have HBl := Lib.hid Bl
                have Hy2 := Lib.hid hy2
                clear hab e2 hI2 Bl hy2 Hmk
                obtain ⟨root2, hblk2⟩ := HI2.out.blk
                have cm : (w2.alloc (.cells #[.int .i64 (low : Int), .int .i64 a.1, .int .i64 b.1] 89)).cell? ⟨bB, 4, none⟩ = some (.map (some m2)) := by rw [(hblk2.alloc _).cell]; rfl
                have cn : (w2.alloc (.cells #[.int .i64 (low : Int), .int .i64 a.1, .int .i64 b.1] 89)).cell? ⟨bB, 1, none⟩ = some v2 := by rw [(hblk2.alloc _).cell]; rfl
                clear hblk2
                have ab1 := HA.out.place
                have bb1 := HBl.out.place
                obtain ⟨kl, hkl⟩ := key_node low a.1 b.1 (WalkArith.wf_i64 (by omega)) (WalkArith.wf_i64 (by have := ab1.1; have := ab1.2; omega)) (WalkArith.wf_i64 (by have := bb1.1; have := bb1.2; omega))
                have hMn := HI2.out.hM ⟨low, a.1, b.1⟩
                have hlk0 : ∀ n, (Instr.lookup 117 (.map (some m2)) (ndV low a.1 b.1) true).run Try.prog ((w2.alloc (.cells #[.int .i64 (low : Int), .int .i64 a.1, .int .i64 b.1] 89)).drewN n) = _ := fun n =>
                  MapF.look (w := (w2.alloc (.cells #[.int .i64 (low : Int), .int .i64 a.1, .int .i64 b.1] 89)).drewN n) (HI2.out.nodes.alloc _) keyed_node Try.underlying117 hkl
                unfold ndV at hlk0
                clear ab1 bb1
                by_cases hin : (⟨low, a.1, b.1⟩ : Nd) ∈ b.2
                · have hE : push ⟨low, a.1, b.1⟩ b.2 = ((b.2.idxOf (⟨low, a.1, b.1⟩ : Nd) : Int) + 2, b.2) := by unfold push; rw [if_pos hin]
                  rw [if_pos hin] at hMn
                  simp only [ndV] at hMn
                  rw [hMn] at hlk0
                  clear hMn
                  rw [hE] at HE
                  clear hE hin hkl
                  go_wp2_with fail
                  go_quiet (fail)
                  go_wp2_with fail
                  go_meet
                  case rel =>
                    rw [HE.out]
                    have hal : ∀ o : Obj, ∀ g, g < w2.heap.size → ((w2.alloc o).drewN nq).heap[g]? = w2.heap[g]? := fun o g hg => Below.heap_alloc w2 o g hg
                    exact ⟨rfl, v2, n12, S2, M2, HI2.out.of_same (hal _), by omega, by show b.2.length + 1 ≤ _; omega, below_drewN ((((hbr.mono hBB).trans hb1).trans hb2).alloc (by have := hb1.size; have := hb2.size; have := hbr.size; omega) _) _,
                      ((Bytes.below hbr).trans Hy1.out).trans (Hy2.out.trans fun g cs h => (hal _ g h.lt).trans h)⟩
                · have hE : push ⟨low, a.1, b.1⟩ b.2 = ((b.2.length : Int) + 2, b.2 ++ [⟨low, a.1, b.1⟩]) := by unfold push; rw [if_neg hin]
                  rw [if_neg hin] at hMn
                  simp only [ndV] at hMn
                  rw [hMn] at hlk0
                  clear hMn
                  rw [hE] at HE
                  clear hE
                  have Hin := Lib.hid hin
                  have Hkl := Lib.hid hkl
                  clear hin hkl
                  obtain ⟨A2, cap2, hv2⟩ : ∃ A2 cap2, v2 = .slice A2 b.2.length cap2 := by
                    rcases HI2.out.own.2 with ⟨h1, h2⟩ | ⟨g, cap, cur, h1, _⟩
                    · exact ⟨none, 0, by rw [h1, h2]⟩
                    · exact ⟨_, _, h1⟩
                  rw [hv2] at cn
                  have Hv2 := Lib.hid hv2
                  clear hv2
                  go_wp2_with fail
                  go_quiet (fail)
                  go_wp2_with fail
                  obtain ⟨i86, hi, hz0, hz1, hz2⟩ := info_parts info86
                  have hown2 : w2.ownsRow B 89 3 (.slice A2 b.2.length cap2) b.2.length (ncells b.2) := by rw [← Hv2.out]; exact HI2.out.own
                  have HO := Lib.hid hown2
                  clear hown2 hlk0 cm
                  go_cut [] (fun wc => ∃ g cap, Mid w2 wc B bB m1 m2 vars n12 b.2 ⟨low, a.1, b.1⟩ S2 M2 (.slice (some ⟨g, 0, none⟩) (b.2.length + 1) cap))
                  case first =>
                    obtain ⟨root3, hblk3⟩ := HI2.out.blk
                    have hbs : B ≤ w2.heap.size := Nat.le_trans HI2.out.bB (Nat.le_of_lt hblk3.lt)
                    have HK3 : Hid (∀ Y w3, ((w2.alloc (.cells #[.int .i64 (low : Int), .int .i64 a.1, .int .i64 b.1] 89)).alloc Y).grownBy w3 (Value.slice A2 b.2.length cap2).ownBlock → w3.cell? ⟨bB, 1, none⟩ = some v2 ∧ w3.frozen? ⟨bB, 1, none⟩ = false) := fun Y w3 hg => by
                      have hb3 := ((hblk3.alloc (.cells #[.int .i64 (low : Int), .int .i64 a.1, .int .i64 b.1] 89)).alloc Y).grown hg (fun e => own_ne_blk HO.out hblk3 (by decide) e.symm)
                      exact ⟨by rw [hb3.cell]; rfl, hb3.frozen 1⟩
                    have cnY : ∀ n, (((w2.alloc (.cells #[.int .i64 (low : Int), .int .i64 a.1, .int .i64 b.1] 89)).drewN n).alloc (.cells #[.int .i64 (low : Int), .int .i64 a.1, .int .i64 b.1] 89)).cell? ⟨bB, 1, none⟩ = some (.slice A2 b.2.length cap2) := fun n => by
                      have hb4 := ((hblk3.alloc (.cells #[.int .i64 (low : Int), .int .i64 a.1, .int .i64 b.1] 89)).alloc (.cells #[.int .i64 (low : Int), .int .i64 a.1, .int .i64 b.1] 89)).cell 1
                      rw [← Hv2.out]
                      exact hb4
                    clear hblk3
                    go_region_law (refine step_append_lies _ rfl (.tmp 109) (.tmp 111) 26 rfl B 89 i86 _ 3 24 Try.underlying26 hi hz0 hz1 hz2 rfl (by decide) _ b.2.length (ncells b.2) rfl (by exact (HO.out.alloc _).alloc _) ⟨w2.heap.size + 1, 0, none⟩ 1 1 [.int .i64 (low : Int), .int .i64 a.1, .int .i64 b.1] rfl rfl (Blk.news (Blk.new_at _ 89 #[.int .i64 (low : Int), .int .i64 a.1, .int .i64 b.1] (by simp))) (by simp [Value.oneCell']) (by decide) (by unfold maxLen; omega) (by omega) (by simp; omega) (w2.heap.size + 2) (by simp) ?_; intro g cap w3 ho3 hg3 hor3 hl3; obtain ⟨c5, f5⟩ := HK3.out _ w3 ⟨hg3.os, hg3.tape, hg3.output, hg3.size, hg3.block⟩)
                    all_goals
                      go_wp2_with fail
                      go_meet
                      case rel => exact ⟨g, cap, mid_of (n := ⟨low, a.1, b.1⟩) (w3 := w3) (Y := .cells #[.int .i64 (low : Int), .int .i64 a.1, .int .i64 b.1] 89) (by rw [← Hv2.out]; exact HI2.out) ho3 ⟨hg3.os, hg3.tape, hg3.output, hg3.size, hg3.block⟩ hor3⟩
                  case rest =>
                    obtain ⟨g, cap, hmid⟩ := hcut
                    clear hi hz0 hz1 hz2 cn
                    obtain ⟨root4, hblk4⟩ := hmid.blk
                    have k0 : wc.cell? ⟨bB, 4, none⟩ = some (.map (some m2)) := by rw [hblk4.cell]; rfl
                    have k1 : wc.cell? ⟨w2.heap.size, 0, none⟩ = some (.int .i64 low) := by rw [hmid.node.cell]; rfl
                    have k2 : wc.cell? ⟨w2.heap.size, 1, none⟩ = some (.int .i64 a.1) := by rw [hmid.node.cell]; rfl
                    have k3 : wc.cell? ⟨w2.heap.size, 2, none⟩ = some (.int .i64 b.1) := by rw [hmid.node.cell]; rfl
                    obtain ⟨w4, hrun4, hg4, hF4⟩ := MapF.store (w := wc.drew) (t := 117) (x := (b.2.length : Int) + 2) hmid.nodes keyed_node Try.underlying117 (by unfold maxLen; omega) Hkl.out (WalkArith.wf_i64 (by omega))
                    unfold ndV at hrun4
                    have HM := Lib.hid hmid
                    have HF4 := Lib.hid hF4
                    clear hmid hblk4 hF4
                    go_wp2_with fail
                    go_region
                    go_wp2_with fail
                    go_meet
                    case rel =>
                      have L := mk_laid (vars := vars) (k + 1) low f ns hv HI.out.wf
                      rw [HE.out] at L
                      obtain ⟨M4, h4⟩ := Mid.done HI2.out HM.out Hin.out L.wf ⟨hg4.os, hg4.tape, hg4.output, hg4.size, hg4.block⟩ HF4.out
                      rw [HE.out]
                      have hbg : Below B wc w4 := (Below.refl B wc).grown ⟨hg4.os, hg4.tape, hg4.output, hg4.size, hg4.block⟩ (by have := hb1.size; have := hb2.size; have := hbr.size; have := HM.out.below.size; omega) (fun k e => by injection e with e; subst e; exact HI2.out.m2B)
                      exact ⟨rfl, _, n12, S2, M4, h4, by omega, by simp; omega, (((hbr.mono hBB).trans hb1).trans hb2).trans (HM.out.below.trans hbg),
                        ((Bytes.below hbr).trans Hy1.out).trans (Hy2.out.trans (HM.out.bytes.trans (Bytes.grown ⟨hg4.os, hg4.tape, hg4.output, hg4.size, hg4.block⟩ fun x xs hx => HM.out.nodes.ne_blk hx)))⟩
            case rest =>
              obtain ⟨rfl, v', n', S', M', hI', hn', hl', hbw', hby'⟩ := hcut
              obtain ⟨root5, hblk5⟩ := hI'.blk
              have k0 : wc.cell? ⟨bB, 3, none⟩ = some (.map (some m1)) := by rw [hblk5.cell]; rfl
              have L := mk_laid (vars := vars) (k + 1) low f ns hv HI.out.wf
              have hkey : keyOf Try.prog 9 (.string (bytesOf f (2 * K))) = some (.string (bytesOf f (2 * K)).data.toList) := key_string _ (bytesOf_max (by omega))
              have hp0 := L.place.1
              have hp1 := L.place.2
              obtain ⟨w4, hrun4, hg4, hF4⟩ := MapF.store (w := wc) (t := 116) (x := (mk (k + 1) low f ns).1) hI'.seen keyed_string Try.underlying116 (by unfold maxLen; omega) hkey (WalkArith.wf_i64 (by omega))
              have hKK : 2 * K = 2 ^ (k + 1) := by rw [hK.out, Nat.pow_succ]; omega
              have hfin : Hid (∃ v' n1' S' M', BI w4 B bB m1 m2 vars v' (mk (k + 1) low f ns).2 n1' S' M' ∧ n1' + 1 ≤ n1 + 2 * (2 * K) ∧ (mk (k + 1) low f ns).2.length + 1 ≤ ns.length + 2 * K) := by
                rw [hKK] at hF4
                obtain ⟨S5, h5⟩ := hI'.saw (k := k + 1) (f := f) (by omega) L.place (by rw [show vars - (k + 1) = low by omega]; exact L.var) (by rw [show vars - (k + 1) = low by omega]; exact L.means) hg4 hF4
                exact ⟨v', n' + 1, S5, M', h5, by omega, hl'⟩
              have hbg : Below B wc w4 := (Below.refl B wc).grown hg4 (by have := hbr.size; have := hbw'.size; omega) (fun k e => by injection e with e; subst e; exact hI'.m1B)
              have hby4 : Bytes wc w4 := Bytes.grown hg4 fun x xs hx => hI'.seen.ne_blk hx
              have HB4 := Lib.hid hby4
              have HB' := Lib.hid hby'
              clear hI' L hkey hF4 hKK hblk5 hby4 hby'
              go_wp2_with fail
              go_ret
              exact ⟨rfl, hbw'.trans hbg, HB'.out.trans HB4.out, hfin.out⟩

end Go.Proofs.Ytffefegjnbfobaa
namespace Go.Proofs.Ytffefegjnbfobaa
open Go.RowKit

/-- The source of an append: nil, or cells that hold the news. -/
def Src (w : World) (A : Option Addr) (m c : Nat) (news : List Value) : Prop :=
  (A = none ∧ m = 0 ∧ c = 0 ∧ news = []) ∨ ∃ ad, A = some ad ∧ ∀ j u, news[j]? = some u → w.cell? (ad.add j) = some u

section
variable {P : Program} {w : World}
theorem own_slice {base : Nat} {e : TypeId} {size n : Nat} {v : Value} {xs : List Value} (h : w.ownsRow base e size v n xs) : ∃ A c, v = .slice A n c := by
  rcases h.2 with ⟨rfl, rfl⟩ | ⟨g, cap, cur, rfl, _⟩
  · exact ⟨_, _, rfl⟩
  · exact ⟨_, _, rfl⟩

theorem own_far {base : Nat} {e : TypeId} {size n : Nat} {v : Value} {xs : List Value} (h : w.ownsRow base e size v n xs) {p : Addr} (hp : v.ownBlock ≠ some p.block) (u : Value) : (w.setCell p u).ownsRow base e size v n xs := by
  refine ⟨h.1, ?_⟩
  rcases h.2 with h2 | ⟨g, cap, cur, hv, hg, hh, r⟩
  · exact .inl h2
  · exact .inr ⟨g, cap, cur, hv, hg, (Below.heap_setCell _ _ _ _ (fun e => hp (by subst hv; simp [Value.ownBlock, e]))).trans hh, r⟩
theorem own_below {base : Nat} {e : TypeId} {size n : Nat} {v : Value} {xs : List Value} (h : w.ownsRow base e size v n xs) {w' : World} (hb : Below w.heap.size w w') : w'.ownsRow base e size v n xs := by
  refine ⟨h.1, ?_⟩
  rcases h.2 with h2 | ⟨g, cap, cur, hv, hg, hh, r⟩
  · exact .inl h2
  · exact .inr ⟨g, cap, cur, hv, hg, (hb.block g (Array.getElem?_eq_some_iff.1 hh).1).trans hh, r⟩
theorem own_mono {base base' : Nat} {e : TypeId} {size n : Nat} {v : Value} {xs : List Value} (h : w.ownsRow base e size v n xs) (hb : base' ≤ base) : w.ownsRow base' e size v n xs := by
  refine ⟨h.1, ?_⟩
  rcases h.2 with h2 | ⟨g, cap, cur, hv, hg, r⟩
  · exact .inl h2
  · exact .inr ⟨g, cap, cur, hv, by omega, r⟩
theorem Src.of_own {base : Nat} {e : TypeId} {size n c : Nat} {A : Option Addr} {xs : List Value} (h : w.ownsRow base e size (.slice A n c) n xs) : Src w A n c xs := by
  rcases h.2 with ⟨h1, rfl⟩ | ⟨g, cap, cur, h1, _⟩
  · injection h1 with h1 _ h3
    exact .inl ⟨h1, rfl, h3, List.eq_nil_of_length_eq_zero (by have := h.1; omega)⟩
  · injection h1 with h1 _ h3
    subst h1
    exact .inr ⟨_, rfl, h.cells (g := g) rfl⟩

theorem run_append_src (base : Nat) (t ty e : TypeId) (i : TypeInfo) (z : Value) (size bytes : Nat) (ht : P.underlying t = some (.slice e)) (hi : P.info? e = some i) (hz : i.zero = some z)
    (hsize : i.size = size) (hby : i.bytes = bytes) (hzs : z.cells.size = size) (hsz : 0 < size) (v : Value) (n : Nat) (xs : List Value) (hown : w.ownsRow base e size v n xs)
    (A : Option Addr) (m c : Nat) (news : List Value) (hsrc : Src w A m c news) (hl : news.length = m * size) (h1 : ∀ u ∈ news, u.oneCell' = true)
    (h63 : n + m ≤ maxLen) (hbytes : (n + m) * bytes ≤ 140737488355328) (hbase : base ≤ w.heap.size) :
    ∃ A' c' w', (Builtin.append_ #[t, t] ty #[v, .slice A m c]).run P w = .ok (.slice A' (n + m) c') w' ∧ w'.ownsRow base e size (.slice A' (n + m) c') (n + m) (xs ++ news) ∧ w.grownBy w' v.ownBlock ∧
      ((Value.slice A' (n + m) c').ownBlock = v.ownBlock ∨ (Value.slice A' (n + m) c').ownBlock = some w.heap.size) := by
  rcases hsrc with ⟨rfl, rfl, rfl, rfl⟩ | ⟨ad, rfl, hc⟩
  · obtain ⟨A, c, rfl⟩ := own_slice hown
    refine ⟨A, c, w, run_append_owned_none w base t ty e i size ht hi _ n xs hown, by simpa using hown, World.grownBy.refl w _, .inl rfl⟩
  · obtain ⟨v', w', hr, h2, h3, _, h5⟩ := run_append_own_at (P := P) w base t ty e i z size bytes ht hi hz hsize hby hzs hsz v n xs hown ad m c news hl hc h1 h63 hbytes hbase
    obtain ⟨A', c', rfl⟩ := own_slice h2
    exact ⟨A', c', w', hr, h2, h3, h5⟩

theorem wp_append_src {o : Oper} {a : Act} {K : Act → World → Prop} {Q : Exit → Act → World → Prop} (s x : Operand) (t : TypeId)
    (ho : o.op = .call { callee := .builtin .append, args := #[s, x], argTypes := #[t, t] })
    (base : Nat) (e : TypeId) (i : TypeInfo) (z : Value) (size bytes : Nat) (ht : P.underlying t = some (.slice e)) (hi : P.info? e = some i) (hz : i.zero = some z)
    (hsize : i.size = size) (hby : i.bytes = bytes) (hzs : z.cells.size = size) (hsz : 0 < size) (v : Value) (n : Nat) (xs : List Value) (hs : a.eval s = v) (hown : w.ownsRow base e size v n xs)
    (A : Option Addr) (m c : Nat) (news : List Value) (hx : a.eval x = .slice A m c) (hsrc : Src w A m c news) (hl : news.length = m * size) (h1 : ∀ u ∈ news, u.oneCell' = true)
    (h63 : n + m ≤ maxLen) (hbytes : (n + m) * bytes ≤ 140737488355328) (hbase : base ≤ w.heap.size)
    (h : ∀ A' c' w', w'.ownsRow base e size (.slice A' (n + m) c') (n + m) (xs ++ news) → w.grownBy w' v.ownBlock → ((Value.slice A' (n + m) c').ownBlock = v.ownBlock ∨ (Value.slice A' (n + m) c').ownBlock = some w.heap.size) → K (a.put o.dst (.slice A' (n + m) c')) w') : o.wp P a w K Q := by
  obtain ⟨A', c', w', hr, h2, h3, h4⟩ := run_append_src (P := P) (w := w) base t o.type e i z size bytes ht hi hz hsize hby hzs hsz v n xs hown A m c news hsrc hl h1 h63 hbytes hbase
  unfold Oper.wp execOp
  simp only [ho, resolve, invoke, builtin, Sem.run_bind, Sem.run_pure, Result.andThen_ok, List.map_toArray, List.map_cons, List.map_nil, hs, hx, hr]
  exact h A' c' w' h2 h3 h4

theorem wpList_append_src {ops : Array Oper} {rest : List Oper} {o : Oper} {a : Act} {Q : Exit → Act → World → Prop} (hgd : o.guard = none) (s x : Operand) (t : TypeId)
    (ho : o.op = .call { callee := .builtin .append, args := #[s, x], argTypes := #[t, t] })
    (base : Nat) (e : TypeId) (i : TypeInfo) (z : Value) (size bytes : Nat) (ht : P.underlying t = some (.slice e)) (hi : P.info? e = some i) (hz : i.zero = some z)
    (hsize : i.size = size) (hby : i.bytes = bytes) (hzs : z.cells.size = size) (hsz : 0 < size) (v : Value) (n : Nat) (xs : List Value) (hs : a.eval s = v) (hown : w.ownsRow base e size v n xs)
    (A : Option Addr) (m c : Nat) (news : List Value) (hx : a.eval x = .slice A m c) (hsrc : Src w A m c news) (hl : news.length = m * size) (h1 : ∀ u ∈ news, u.oneCell' = true)
    (h63 : n + m ≤ maxLen) (hbytes : (n + m) * bytes ≤ 140737488355328) (hbase : base ≤ w.heap.size)
    (h : ∀ A' c' w', w'.ownsRow base e size (.slice A' (n + m) c') (n + m) (xs ++ news) → w.grownBy w' v.ownBlock → ((Value.slice A' (n + m) c').ownBlock = v.ownBlock ∨ (Value.slice A' (n + m) c').ownBlock = some w.heap.size) → wpList P ops Q rest (a.put o.dst (.slice A' (n + m) c')) w') : wpList P ops Q (o :: rest) a w :=
  wpList_plain hgd fun _ hK => wp_append_src s x t ho base e i z size bytes ht hi hz hsize hby hzs hsz v n xs hs hown A m c news hx hsrc hl h1 h63 hbytes hbase fun A' c' w' h2 h3 h4 => hK _ _ (h A' c' w' h2 h3 h4)

theorem step_append_src {ops : Array Oper} {o : Oper} {a : Act} {K : Act → World → Prop} {Q : Exit → Act → World → Prop} {E : Prop} (hgd : o.guard = none) (s x : Operand) (t : TypeId)
    (ho : o.op = .call { callee := .builtin .append, args := #[s, x], argTypes := #[t, t] })
    (base : Nat) (e : TypeId) (i : TypeInfo) (z : Value) (size bytes : Nat) (ht : P.underlying t = some (.slice e)) (hi : P.info? e = some i) (hz : i.zero = some z)
    (hsize : i.size = size) (hby : i.bytes = bytes) (hzs : z.cells.size = size) (hsz : 0 < size) (v : Value) (n : Nat) (xs : List Value) (hs : a.eval s = v) (hown : w.ownsRow base e size v n xs)
    (A : Option Addr) (m c : Nat) (news : List Value) (hx : a.eval x = .slice A m c) (hsrc : Src w A m c news) (hl : news.length = m * size) (h1 : ∀ u ∈ news, u.oneCell' = true)
    (h63 : n + m ≤ maxLen) (hbytes : (n + m) * bytes ≤ 140737488355328) (hbase : base ≤ w.heap.size)
    (h : ∀ A' c' w', w'.ownsRow base e size (.slice A' (n + m) c') (n + m) (xs ++ news) → w.grownBy w' v.ownBlock → ((Value.slice A' (n + m) c').ownBlock = v.ownBlock ∨ (Value.slice A' (n + m) c').ownBlock = some w.heap.size) → K (a.put o.dst (.slice A' (n + m) c')) w') :
    if Region.wanted o (yielded ops a.tmps) = true then Oper.wp P o a w K Q else E := by
  have hw : Region.wanted o (yielded ops a.tmps) = true := by simp [Region.wanted, hgd]
  rw [if_pos hw]
  exact wp_append_src s x t ho base e i z size bytes ht hi hz hsize hby hzs hsz v n xs hs hown A m c news hx hsrc hl h1 h63 hbytes hbase h
end
theorem own_low {w : World} {base : Nat} {e : TypeId} {size : Nat} {v : Value} {n : Nat} {xs : List Value} (h : w.ownsRow base e size v n xs) {b : Nat} (hb : b < base) : some b ≠ v.ownBlock := fun e1 => by
  rcases h.2 with ⟨rfl, _⟩ | ⟨g, cap, cur, rfl, hg, _⟩
  · cases e1
  · injection e1 with e1
    have e1 : b = g := e1
    omega

end Go.Proofs.Ytffefegjnbfobaa
namespace Go.Proofs.Ytffefegjnbfobaa
open Go.RowKit
open B

set_option maxRecDepth 100000 in
set_option maxHeartbeats 400000 in
theorem clone_any (V R : Int) (A : Option Addr) (c : Nat) (ns : List Nd) (w : World) (hs : ∀ W, Below w.heap.size w W → Src W A ns.length c (ncells ns)) (hn : ns.length ≤ 1048576) :
    Calls Try.prog 116 #[.agg #[.int .i64 V, .slice A ns.length c, .int .i64 R]] w fun e w' => ∃ A' c', e = .returned (.agg #[.int .i64 V, .slice A' ns.length c', .int .i64 R]) ∧
      w'.ownsRow w.heap.size 89 3 (.slice A' ns.length c') ns.length (ncells ns) ∧ Below w.heap.size w w' := by
  have HS := Lib.hid hs
  clear hs
  obtain ⟨i86, hi, hz0, hz1, hz2⟩ := info_parts info86
  go_enter Try.func116, Try.ntmps116
  go_wp2_with fail
  have hB1 : ∀ k, Blk (((w.alloc (.cells #[.int .i64 V, .slice A ns.length c, .int .i64 R] 28)).alloc (.cells #[.int .i64 0, .slice none 0 0, .int .i64 0] 28)).drewN k) w.heap.size 28 #[.int .i64 V, .slice A ns.length c, .int .i64 R] := fun _ => (Blk.new w _ _).alloc _
  have hB2 : ∀ k, Blk (((w.alloc (.cells #[.int .i64 V, .slice A ns.length c, .int .i64 R] 28)).alloc (.cells #[.int .i64 0, .slice none 0 0, .int .i64 0] 28)).drewN k) (w.heap.size + 1) 28 #[.int .i64 0, .slice none 0 0, .int .i64 0] := fun _ => Blk.new_at _ _ _ (by simp)
  have HF : Hid (∀ w3, ((w.alloc (.cells #[.int .i64 V, .slice A ns.length c, .int .i64 R] 28)).alloc (.cells #[.int .i64 0, .slice none 0 0, .int .i64 0] 28)).drew.grownBy w3 none →
      (w3.cell? ⟨w.heap.size, 0, none⟩ = some (.int .i64 V) ∧ w3.cell? ⟨w.heap.size, 2, none⟩ = some (.int .i64 R)) ∧ (w3.cell? ⟨w.heap.size + 1, 0, none⟩ = some (.int .i64 0) ∧ w3.cell? ⟨w.heap.size + 1, 1, none⟩ = some (.slice none 0 0) ∧ w3.cell? ⟨w.heap.size + 1, 2, none⟩ = some (.int .i64 0)) ∧
      w3.frozen? ⟨w.heap.size + 1, 0, none⟩ = false ∧ w3.frozen? ⟨w.heap.size + 1, 1, none⟩ = false ∧ w3.frozen? ⟨w.heap.size + 1, 2, none⟩ = false ∧ Blk w3 (w.heap.size + 1) 28 #[.int .i64 0, .slice none 0 0, .int .i64 0]) := fun w3 hg => by
    have b1 := (hB1 1).grown hg (by simp)
    have b2 := (hB2 1).grown hg (by simp)
    exact ⟨⟨by rw [b1.cell]; rfl, by rw [b1.cell]; rfl⟩, ⟨by rw [b2.cell]; rfl, by rw [b2.cell]; rfl, by rw [b2.cell]; rfl⟩, b2.frozen _, b2.frozen _, b2.frozen _, b2⟩
  have hbw : Below w.heap.size w ((w.alloc (.cells #[.int .i64 V, .slice A ns.length c, .int .i64 R] 28)).alloc (.cells #[.int .i64 0, .slice none 0 0, .int .i64 0] 28)) := ((Below.refl _ _).alloc (Nat.le_refl _) _).alloc (by simp) _
  have HBW := Lib.hid hbw
  clear hB1 hB2 hbw
  go_region_law (refine step_append_src rfl (.const (.slice none 0 0)) (.tmp 6) 26 rfl w.heap.size 89 i86 _ 3 24 Try.underlying26 hi hz0 hz1 hz2 rfl (by decide) _ 0 [] rfl (World.ownsRow_nil _ _ _ _) A ns.length c (ncells ns) rfl (HS.out _ HBW.out.drew) (ncells_length ns) (ncells_one ns) (by unfold maxLen; omega) (by omega) (by simp; omega) ?_; intro A' c' w3 ho3 hg3 hor3; replace hg3 : World.grownBy _ w3 none := hg3; simp only [Nat.zero_add, List.nil_append] at ho3; obtain ⟨⟨x0, x1⟩, ⟨x2, x3, x4⟩, y0, y1, y2, b3⟩ := HF.out w3 hg3)
  all_goals
    go_wp2_with fail
    have b4 := ((b3.set_ 0 (.int .i64 V)).set_ 1 (.slice A' ns.length c')).set_ 2 (.int .i64 R)
    have z0 := b4.cell 0
    have z1 := b4.cell 1
    have z2 := b4.cell 2
    simp only [List.setIfInBounds_toArray, List.set_cons_zero, List.set_cons_succ, List.getElem?_toArray, List.getElem?_cons_zero, List.getElem?_cons_succ] at z0 z1 z2
    refine bodyPost_ret (v := .agg #[.int .i64 V, .slice A' ns.length c', .int .i64 R]) (by simp [results, Try.results116, go_sem, z0, z1, z2]) rfl ⟨A', c', rfl, ?_, ?_⟩
    · have hne := own_ne_blk ho3 b3 (by decide)
      exact own_far (own_far (own_far ho3 (p := ⟨w.heap.size + 1, 0, none⟩) hne _) (p := ⟨w.heap.size + 1, 1, none⟩) hne _) (p := ⟨w.heap.size + 1, 2, none⟩) hne _
    · exact (((((HBW.out.drew.grown hg3 (by simp; omega) (by simp)).setCell (p := ⟨w.heap.size + 1, 0, none⟩) (by simp) _).setCell (p := ⟨w.heap.size + 1, 1, none⟩) (by simp) _).setCell (p := ⟨w.heap.size + 1, 2, none⟩) (by simp) _))

end Go.Proofs.Ytffefegjnbfobaa
