/- Words on maps of the call's own with integer elements: what a lookup and a store do, told by a function of the key. -/
import Derived.Test.YtffefegjnbfobaaProg
import Derived.WalkKit
import Derived.Maps.Own
import Derived.Maps.OwnSet
import Derived.Deep.Strs
import Derived.StringKeys
import Derived.DeepKeys5
namespace Go.Proofs.Ytffefegjnbfobaa
open Go.RowKit
open Go.Maps (Keyed)

/-- Block b is a map of at most n entries (keys of type k, elements int) that answers as F. -/
def MapF (w : World) (k : TypeId) (b n : Nat) (F : Value → Option Int) : Prop :=
  ∃ D : DataW Unit, w.ownsMap Try.prog k (plainElem Try.prog 3) b n D ∧ ∀ v kl, keyOf Try.prog k v = some kl →
    (F v = none → Maps.has D kl = false) ∧ (∀ x, F v = some x → Maps.has D kl = true ∧ D.atKey kl (.lit (.int .i64 0)) = .lit (.int .i64 x))

theorem MapF.lt {w : World} {k : TypeId} {b n : Nat} {F : Value → Option Int} (h : MapF w k b n F) : b < w.heap.size := by
  obtain ⟨D, h, _⟩ := h
  exact h.lt
theorem MapF.of_block {w w' : World} {k : TypeId} {b n : Nat} {F : Value → Option Int} (h : MapF w k b n F) (hb : w'.heap[b]? = w.heap[b]?) : MapF w' k b n F := by
  obtain ⟨D, ⟨es, clock, h1, h2⟩, h3⟩ := h
  exact ⟨D, ⟨es, clock, hb.trans h1, h2⟩, h3⟩
theorem MapF.below {w w' : World} {k : TypeId} {b n B : Nat} {F : Value → Option Int} (h : MapF w k b n F) (hb : Below B w w') (hlt : b < B) : MapF w' k b n F := h.of_block (hb.block b hlt)
theorem MapF.grown {w w' : World} {k : TypeId} {b n : Nat} {row : Option Nat} {F : Value → Option Int} (h : MapF w k b n F) (hg : w.grownBy w' row) (hne : some b ≠ row) : MapF w' k b n F := h.of_block (hg.block b h.lt hne)
theorem MapF.alloc {w : World} {k : TypeId} {b n : Nat} {F : Value → Option Int} (h : MapF w k b n F) (o : Obj) : MapF (w.alloc o) k b n F := h.of_block (Below.heap_alloc w o b h.lt)
theorem MapF.setCell {w : World} {k : TypeId} {b n : Nat} {F : Value → Option Int} (h : MapF w k b n F) {p : Addr} (hp : b ≠ p.block) (u : Value) : MapF (w.setCell p u) k b n F := h.of_block (Below.heap_setCell w p u b hp)
theorem MapF.mono {w : World} {k : TypeId} {b n n' : Nat} {F : Value → Option Int} (h : MapF w k b n F) (hn : n ≤ n') : MapF w k b n' F := by
  obtain ⟨D, h1, h3⟩ := h
  exact ⟨D, h1.mono hn, h3⟩
theorem MapF.made (w : World) (k : TypeId) : MapF (w.alloc (.map #[] 0)) k w.heap.size 0 (fun _ => none) :=
  ⟨.map [], World.ownsMap_made w _ _ _, fun _ _ _ => ⟨fun _ => rfl, fun _ h => by cases h⟩⟩

theorem zero_int (w : World) : (zeroValue 3).run Try.prog w = .ok (.int .i64 0) w := by kernel_rfl

theorem int_of_lit {a c : Int} (h : (DataW.lit (.int .i64 a) : DataW Unit) = .lit (.int .i64 c)) : a = c := by
  injection h with h
  injection h

theorem MapF.look {w : World} {k t : TypeId} {b n : Nat} {F : Value → Option Int} (h : MapF w k b n F) (K : Keyed Try.prog k) (ht : Try.prog.underlying t = some (.map k 3)) {key : Value} {kl : Lit} (hkey : keyOf Try.prog k key = some kl) :
    (Instr.lookup t (.map (some b)) key true).run Try.prog w = .ok (.tuple #[.int .i64 ((F key).getD 0), .bool (F key).isSome]) w := by
  obtain ⟨D, hown, hF⟩ := h
  have h0 : plainElem (H := Unit) Try.prog 3 (.int .i64 0) = some (.lit (.int .i64 0), []) := plainElem_int Try.underlying3 (by decide)
  obtain ⟨v, ps, hrun, hv⟩ := hown.look_ok K ht (zero_int w) h0 hkey
  obtain ⟨c, rfl, hc, _⟩ := plainElem_int_inv Try.underlying3 hv
  have hc := congrArg Prod.fst hc
  simp only at hc
  obtain ⟨f1, f2⟩ := hF key kl hkey
  rw [hrun]
  cases hf : F key with
  | none =>
    have e1 := f1 hf
    rw [Maps.atKey_of_not_has e1] at hc
    obtain rfl := int_of_lit hc
    rw [e1]; rfl
  | some x =>
    obtain ⟨e1, e2⟩ := f2 x hf
    rw [e2] at hc
    obtain rfl := int_of_lit hc
    rw [e1]; rfl

theorem MapF.store {w : World} {k t : TypeId} {b n : Nat} {F : Value → Option Int} (h : MapF w k b n F) (K : Keyed Try.prog k) (ht : Try.prog.underlying t = some (.map k 3)) (hn : n < maxLen) {key : Value} {kl : Lit} (hkey : keyOf Try.prog k key = some kl)
    {x : Int} (hx : (Lit.int .i64 x).wf = true) :
    ∃ w', (Instr.mapUpdate t (.map (some b)) key (.int .i64 x)).run Try.prog w = .ok () w' ∧ w.grownBy w' (some b) ∧ ∀ F' : Value → Option Int, F' key = some x → (∀ v, v ≠ key → F' v = F v) → MapF w' k b (n + 1) F' := by
  obtain ⟨D, hown, hF⟩ := h
  obtain ⟨w', hrun, hown', hg⟩ := hown.update K ht hn hkey (plainElem_int Try.underlying3 hx)
  refine ⟨w', hrun, hg, fun F' h1 h2 => ⟨_, hown', fun v kv hkv => ?_⟩⟩
  by_cases e : v = key
  · subst e
    rw [hkey] at hkv
    injection hkv with hkv
    subst hkv
    refine ⟨fun h => absurd (h1.symm.trans h) (by simp), fun y hy => ?_⟩
    rw [h1] at hy
    injection hy with hy
    subst hy
    exact ⟨Maps.has_put_same hown.isMap (K.key hkey) _, Maps.atKey_put_same hown.isMap (K.key hkey) _ _⟩
  · have hne : kv ≠ kl := fun h => e (K.inj hkv (h ▸ hkey))
    rw [h2 v e, Maps.has_put_other hne, Maps.atKey_put_other hne]
    exact hF v kv hkv

/-! ### the two kinds of keys -/
theorem keyed_string : Keyed Try.prog 9 := Go.Maps.string_keyed Try.underlying9
theorem key_string (s : ByteArray) (hs : s.size ≤ maxLen) : keyOf Try.prog 9 (.string s) = some (.string s.data.toList) := WideMaps.keyOf_string_mk Try.underlying9 hs
theorem laid : laidOutB Try.prog = true := by kernel_rfl
theorem keyed_node : Keyed Try.prog 89 := Keyed.of_law (deep_law_gate laid (of_decide_eq_true (by kernel_rfl)) (of_decide_eq_true (by kernel_rfl)) (by kernel_rfl) (by kernel_rfl))

def ndV (v lo hi : Int) : Value := .agg #[.int .i64 v, .int .i64 lo, .int .i64 hi]
theorem Try.cells3 : Try.prog.cellsOf 3 = 1 := by kernel_rfl
theorem cells_node : Try.prog.cellsOf 89 = 3 := by kernel_rfl
theorem key_node (v lo hi : Int) (hv : (Lit.int .i64 v).wf = true) (hlo : (Lit.int .i64 lo).wf = true) (hhi : (Lit.int .i64 hi).wf = true) : ∃ kl, keyOf Try.prog 89 (ndV v lo hi) = some kl := by
  have h := keyOf_asKey (H := Unit) (enc := fun _ => ()) (P := Try.prog) (w := default) (base := 0) (sp := fun _ => true) (held := true) (k := 89) (by kernel_rfl) (by kernel_rfl) (v := ndV v lo hi) (by simp [Value.formed, ndV, cells_node, Try.underlying89])
    (d := .agg [.lit (.int .i64 v), .lit (.int .i64 lo), .lit (.int .i64 hi)]) (ps := []) ⟨2, by
      have := Deep.trod_struct3_mk (enc := fun _ : TypeId × Value => ()) (P := Try.prog) (w := default) (base := 0) (spare := fun _ => true) (held := true) (n := 1) (cs := [.int .i64 v, .int .i64 lo, .int .i64 hi]) (y0 := (.lit (.int .i64 v), [])) (y1 := (.lit (.int .i64 lo), [])) (y2 := (.lit (.int .i64 hi), [])) Try.underlying89 (by rw [cells_node]; rfl)
        (by simp [DataW.trod, Try.underlying3, Try.cells3, hv]) (by simp [DataW.trod, Try.underlying3, Try.cells3, hlo]) (by simp [DataW.trod, Try.underlying3, Try.cells3, hhi])
      simpa [ndV, Value.cells] using this⟩
  exact ⟨_, h.1⟩

end Go.Proofs.Ytffefegjnbfobaa
