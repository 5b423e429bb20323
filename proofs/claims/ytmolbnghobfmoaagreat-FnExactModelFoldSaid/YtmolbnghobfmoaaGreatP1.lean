/- Part 1 of what the row Row28 rests on: Ba Ew Em. -/
import Derived.Test.YtmolbnghobfmoaaGreatProg
import Derived.WalkKit
import Derived.Lib.Hide
import Derived.Deep.QuietTactic
import Derived.BigQuiet
import Derived.Deep.Draws
import Derived.Shelf.Abstract
import Derived.Maps.Own
import Derived.Maps.OwnSet
import Derived.Deep.Strs
import Derived.StringKeys
import Derived.DeepKeys5
import Derived.Laws.BytesArg
import Derived.Deep.DeepCutAuto
import Derived.Deep.CutBlock
import Derived.Deep.RegionLaw
import Derived.Deep.AppendLies
import Derived.Maps.AppendAt
import Derived.OwnWalk
import Derived.StillTailTactics
import Derived.IntWalk
import Derived.Deep.RegionHeld3
import Derived.Laws.BitsLemmas
set_option maxRecDepth 100000
set_option maxHeartbeats 16000000
set_option linter.unusedSimpArgs false
set_option linter.unusedVariables false
namespace Go.Proofs.YtmolbnghobfmoaaGreat
open Go.RowKit
theorem Kh {p : Prop} (h : p) : Hid p := h
theorem bx (w : World) (cs : Array Value) (t : TypeId) : Hid (Below w.heap.size w (w.alloc (.cells cs t))) := (Below.refl _ _).alloc (Nat.le_refl _) _
theorem zB1 {B : Nat} {a w : World} (h : Below B a w) (n : Nat) : Below B a (w.drewN n) := ⟨h.os, h.tape, h.output, h.size, h.block⟩
theorem zB0 {W w1 : World} (hb : Below W.heap.size W w1) : (∀ b o, b < W.heap.size → w1.cell? ⟨b, o, none⟩ = W.cell? ⟨b, o, none⟩) ∧ (∀ b o, b < W.heap.size → w1.frozen? ⟨b, o, none⟩ = W.frozen? ⟨b, o, none⟩) :=
 ⟨fun b o h => hb.cell (p := ⟨b, o, none⟩) h, fun b o h => hb.frozen (p := ⟨b, o, none⟩) h⟩
theorem zKv {k : IntKind} {a b : Int} (h : a = b) : Ending.returned (.int k a) = .returned (.int k b) := by rw [h]
theorem zKu {a b : Bool} (h : a = b) : Ending.returned (.bool a) = .returned (.bool b) := by rw [h]
def zAg (p : Prop) (e : Ending) : Prop := (e = .returned (.bool true) ∧ p) ∨ (e = .returned (.bool false) ∧ ¬ p)
theorem zAg.yes {p : Prop} (h : p) : zAg p (.returned (.bool true)) := .inl ⟨rfl, h⟩
theorem zAg.no {p : Prop} (h : ¬ p) : zAg p (.returned (.bool false)) := .inr ⟨rfl, h⟩
theorem zAg.of {p : Prop} {b : Bool} (h : b = true ↔ p) : zAg p (.returned (.bool b)) := by
 cases b
 · exact .no (fun hp => by simpa using h.2 hp)
 · exact .yes (h.1 rfl)
section
variable {P : Program} {f : FuncId} {args : Array Value} {w : World} {v : Value}
theorem zKt {n : Nat} (h : Calls P f args (w.drewN n) fun e w' => e = .returned v ∧ w.drewN n = w') : Calls P f args (w.drewN n) fun e w'' => e = .returned v ∧ ∃ m, w'' = w.drewN m :=
 h.mono fun _ _ ⟨he, hm⟩ => ⟨he, n, hm.symm⟩
end
theorem zRa {n : Int} (h0 : -9223372036854775808 ≤ n) (h1 : n ≤ 9223372036854775807) : IntKind.i64.wrap n = n := by rw [IntKind.wrap_i64]; omega
theorem in_any (n lo hi : Int) (w : World) : Calls Tryz.prog 143 #[.int .i64 n, .int .i64 lo, .int .i64 hi] w fun e w' => e = .returned (.bool (decide (lo ≤ n ∧ n ≤ hi))) ∧ w = w' := by
 by_cases h : lo ≤ n
 · go_enter Tryz.func143, Tryz.ntmps143
   go_wp2
   go_ret
   exact ⟨by simp [h], rfl⟩
 · have h' : decide (lo ≤ n) = false := by simpa using h
   go_enter Tryz.func143, Tryz.ntmps143
   go_wp2
   go_ret
   exact ⟨by simp, rfl⟩
theorem zEx (n lo hi : Int) (b : Bool) (h : decide (lo ≤ n ∧ n ≤ hi) = b) (w : World) : Calls Tryz.prog 143 #[.int .i64 n, .int .i64 lo, .int .i64 hi] w fun e w' => e = .returned (.bool b) ∧ w = w' := by
 subst h; exact in_any n lo hi w
theorem zLg {P : Program} (t e : TypeId) (i : TypeInfo) (z : Value) (ht : P.underlying t = some (.slice e)) (hi : P.info? e = some i) (hz : i.zero = some z)
 (kl kc : IntKind) (n c : Nat) (hnc : n ≤ c) (hbytes : i.bytes * c ≤ 281474976710656) (h63 : c ≤ 9223372036854775807) (w : World) :
    (Instr.makeSlice t (.int kl (n : Int)) (.int kc (c : Int))).run P w = .ok (.slice (some ⟨w.heap.size, 0, none⟩) n c) (w.alloc (.cells (madeCells z.cells (c * i.size)) e)) := by
 have hb : (i.bytes : Int) * (c : Int) ≤ 281474976710656 := by
  have h : ((i.bytes * c : Nat) : Int) ≤ 281474976710656 := by omega
  rwa [Int.natCast_mul] at h
 have hr := run_make (P := P) w t e i z ht hi hz kl kc n c (by omega) (by omega) hb (by omega)
 simp only [Int.toNat_natCast] at hr
 exact hr
def zL2 (f : Nat → Value) (n : Nat) : Array Value := Array.ofFn (n := n) fun i => f i.val
theorem zL4 (f : Nat → Value) (n i : Nat) (h : i < n) : (zL2 f n)[i]? = some (f i) := by simp [zL2, h]
theorem zL3 {f g : Nat → Value} {n : Nat} (h : ∀ i, i < n → f i = g i) : zL2 f n = zL2 g n := by
 apply Array.ext
 · simp [zL2]
 · intro i h1 h2
   simp [zL2] at h1 ⊢
   exact h i h1
theorem zL5 (f : Nat → Value) (n k : Nat) (v : Value) : (zL2 f n).setIfInBounds k v = zL2 (fun c => if c = k then v else f c) n := by
 apply Array.ext
 · simp [zL2]
 · intro i h1 h2
   rw [Array.getElem_setIfInBounds (by simpa [zL2] using h2)]
   simp [zL2, eq_comm]
theorem zH9 (z : Value) (n : Nat) : madeCells #[z] n = zL2 (fun _ => z) n := by
 apply Array.ext
 · simp [zL2, size_madeCells]
 · intro i h1 h2
   have h := congrArg (fun l : List Value => l[i]?) (toList_madeCells_one z n)
   simp [size_madeCells] at h1
   simp [h1] at h
   simp [zL2]
   simpa [size_madeCells, h1] using h
def Blk (w : World) (g : Nat) (t : TypeId) (cs : Array Value) : Prop := w.heap[g]? = some (.cells cs t (0, 0))
theorem Blk.lt {w : World} {g : Nat} {t : TypeId} {cs : Array Value} (h : Blk w g t cs) : g < w.heap.size := by
 rcases Nat.lt_or_ge g w.heap.size with hlt | hge
 · exact hlt
 · unfold Blk at h; rw [Array.getElem?_eq_none hge] at h; cases h
theorem Blk.cell {w : World} {g : Nat} {t : TypeId} {cs : Array Value} (h : Blk w g t cs) (i : Nat) : w.cell? ⟨g, i, none⟩ = cs[i]? := cell_of_row w g i cs t (0, 0) h
theorem Blk.frozen {w : World} {g : Nat} {t : TypeId} {cs : Array Value} (h : Blk w g t cs) (i : Nat) : w.frozen? ⟨g, i, none⟩ = false := by
 unfold Blk at h; simp [World.frozen?, h]
theorem Blk.new (w : World) (t : TypeId) (cs : Array Value) : Blk (w.alloc (.cells cs t)) w.heap.size t cs := heap_alloc_new w _
theorem Blk.new_at (w : World) (t : TypeId) (cs : Array Value) {g : Nat} (hg : g = w.heap.size) : Blk (w.alloc (.cells cs t)) g t cs := by subst hg; exact Blk.new w t cs
theorem Blk.news {w : World} {g : Nat} {t : TypeId} {cs : Array Value} (h : Blk w g t cs) : ∀ j u, cs.toList[j]? = some u → w.cell? ((⟨g, 0, none⟩ : Addr).add j) = some u := fun j u hu => by
 have hadd : (⟨g, 0, none⟩ : Addr).add j = ⟨g, j, none⟩ := by unfold Addr.add; split <;> simp_all
 rw [hadd, h.cell]; simpa using hu
theorem Blk.alloc {w : World} {g : Nat} {t : TypeId} {cs : Array Value} (h : Blk w g t cs) (o : Obj) : Blk (w.alloc o) g t cs := (Below.heap_alloc w o g h.lt).trans h
theorem Blk.set_ {w : World} {g : Nat} {t : TypeId} {cs : Array Value} (h : Blk w g t cs) (i : Nat) (u : Value) : Blk (w.setCell ⟨g, i, none⟩ u) g t (cs.setIfInBounds i u) := by
 unfold Blk at h ⊢; simp [World.setCell, Array.getElem?_modify, h]
theorem Blk.far {w : World} {g : Nat} {t : TypeId} {cs : Array Value} (h : Blk w g t cs) {p : Addr} (hp : g ≠ p.block) (u : Value) : Blk (w.setCell p u) g t cs := (Below.heap_setCell w p u g hp).trans h
theorem Blk.below {w w' : World} {g : Nat} {t : TypeId} {cs : Array Value} {B : Nat} (h : Blk w g t cs) (hb : Below B w w') (hg : g < B) : Blk w' g t cs := (hb.block g hg).trans h
theorem Blk.grown {w w' : World} {g : Nat} {t : TypeId} {cs : Array Value} {row : Option Nat} (h : Blk w g t cs) (hb : w.grownBy w' row) (hg : some g ≠ row) : Blk w' g t cs := (hb.block g h.lt hg).trans h
theorem zJg {w : World} {base : Nat} {e t : TypeId} {size n g : Nat} {v : Value} {xs : List Value} {cs : Array Value} (h : w.ownsRow base e size v n xs) (hg : Blk w g t cs) (hne : e ≠ t) : v.ownBlock ≠ some g := by
 rcases h.2 with ⟨rfl, _⟩ | ⟨g', cap, cur, rfl, _, hh, _⟩
 · simp [Value.ownBlock]
 · intro he
   have : g' = g := by simpa [Value.ownBlock] using he
   subst this; unfold Blk at hg; rw [hh] at hg; injection hg with hg
   injection hg with _ ht
   exact hne ht
def Src (w : World) (A : Option Addr) (m c : Nat) (news : List Value) : Prop :=
 (A = none ∧ m = 0 ∧ c = 0 ∧ news = []) ∨ ∃ ad, A = some ad ∧ ∀ j u, news[j]? = some u → w.cell? (ad.add j) = some u
section
variable {P : Program} {w : World}
theorem zJp {base : Nat} {e : TypeId} {size n : Nat} {v : Value} {xs : List Value} (h : w.ownsRow base e size v n xs) : ∃ A c, v = .slice A n c := by
 rcases h.2 with ⟨rfl, rfl⟩ | ⟨g, cap, cur, rfl, _⟩
 · exact ⟨_, _, rfl⟩
 · exact ⟨_, _, rfl⟩
theorem zJb {base : Nat} {e : TypeId} {size n : Nat} {v : Value} {xs : List Value} (h : w.ownsRow base e size v n xs) {p : Addr} (hp : v.ownBlock ≠ some p.block) (u : Value) : (w.setCell p u).ownsRow base e size v n xs := by
 refine ⟨h.1, ?_⟩
 rcases h.2 with h2 | ⟨g, cap, cur, hv, hg, hh, r⟩
 · exact .inl h2
 · exact .inr ⟨g, cap, cur, hv, hg, (Below.heap_setCell _ _ _ _ (fun e => hp (by subst hv; simp [Value.ownBlock, e]))).trans hh, r⟩
theorem zJ9 {base : Nat} {e : TypeId} {size n : Nat} {v : Value} {xs : List Value} (h : w.ownsRow base e size v n xs) {w' : World} (hb : Below w.heap.size w w') : w'.ownsRow base e size v n xs := by
 refine ⟨h.1, ?_⟩
 rcases h.2 with h2 | ⟨g, cap, cur, hv, hg, hh, r⟩
 · exact .inl h2
 · exact .inr ⟨g, cap, cur, hv, hg, (hb.block g (Array.getElem?_eq_some_iff.1 hh).1).trans hh, r⟩
theorem zJf {base base' : Nat} {e : TypeId} {size n : Nat} {v : Value} {xs : List Value} (h : w.ownsRow base e size v n xs) (hb : base' ≤ base) : w.ownsRow base' e size v n xs := by
 refine ⟨h.1, ?_⟩
 rcases h.2 with h2 | ⟨g, cap, cur, hv, hg, r⟩
 · exact .inl h2
 · exact .inr ⟨g, cap, cur, hv, by omega, r⟩
theorem Src.of_own {base : Nat} {e : TypeId} {size n c : Nat} {A : Option Addr} {xs : List Value} (h : w.ownsRow base e size (.slice A n c) n xs) : Src w A n c xs := by
 rcases h.2 with ⟨h1, rfl⟩ | ⟨g, cap, cur, h1, _⟩
 · injection h1 with h1 _ h3
   exact .inl ⟨h1, rfl, h3, List.eq_nil_of_length_eq_zero (by have := h.1; omega)⟩
 · injection h1 with h1 _ h3
   subst h1
   exact .inr ⟨_, rfl, h.cells (g := g) rfl⟩
theorem zLe (base : Nat) (t ty e : TypeId) (i : TypeInfo) (z : Value) (size bytes : Nat) (ht : P.underlying t = some (.slice e)) (hi : P.info? e = some i) (hz : i.zero = some z)
 (hsize : i.size = size) (hby : i.bytes = bytes) (hzs : z.cells.size = size) (hsz : 0 < size) (v : Value) (n : Nat) (xs : List Value) (hown : w.ownsRow base e size v n xs)
    (A : Option Addr) (m c : Nat) (news : List Value) (hsrc : Src w A m c news) (hl : news.length = m * size) (h1 : ∀ u ∈ news, u.oneCell' = true)
    (h63 : n + m ≤ maxLen) (hbytes : (n + m) * bytes ≤ 140737488355328) (hbase : base ≤ w.heap.size) :
    ∃ A' c' w', (Builtin.append_ #[t, t] ty #[v, .slice A m c]).run P w = .ok (.slice A' (n + m) c') w' ∧ w'.ownsRow base e size (.slice A' (n + m) c') (n + m) (xs ++ news) ∧ w.grownBy w' v.ownBlock ∧
     ((Value.slice A' (n + m) c').ownBlock = v.ownBlock ∨ (Value.slice A' (n + m) c').ownBlock = some w.heap.size) := by
 rcases hsrc with ⟨rfl, rfl, rfl, rfl⟩ | ⟨ad, rfl, hc⟩
 · obtain ⟨A, c, rfl⟩ := zJp hown
   refine ⟨A, c, w, run_append_owned_none w base t ty e i size ht hi _ n xs hown, by simpa using hown, World.grownBy.refl w _, .inl rfl⟩
 · obtain ⟨v', w', hr, h2, h3, _, h5⟩ := run_append_own_at (P := P) w base t ty e i z size bytes ht hi hz hsize hby hzs hsz v n xs hown ad m c news hl hc h1 h63 hbytes hbase
   obtain ⟨A', c', rfl⟩ := zJp h2
   exact ⟨A', c', w', hr, h2, h3, h5⟩
theorem zR3 {o : Oper} {a : Act} {K : Act → World → Prop} {Q : Exit → Act → World → Prop} (s x : Operand) (t : TypeId)
 (ho : o.op = .call { callee := .builtin .append, args := #[s, x], argTypes := #[t, t] })
    (base : Nat) (e : TypeId) (i : TypeInfo) (z : Value) (size bytes : Nat) (ht : P.underlying t = some (.slice e)) (hi : P.info? e = some i) (hz : i.zero = some z)
    (hsize : i.size = size) (hby : i.bytes = bytes) (hzs : z.cells.size = size) (hsz : 0 < size) (v : Value) (n : Nat) (xs : List Value) (hs : a.eval s = v) (hown : w.ownsRow base e size v n xs)
    (A : Option Addr) (m c : Nat) (news : List Value) (hx : a.eval x = .slice A m c) (hsrc : Src w A m c news) (hl : news.length = m * size) (h1 : ∀ u ∈ news, u.oneCell' = true)
    (h63 : n + m ≤ maxLen) (hbytes : (n + m) * bytes ≤ 140737488355328) (hbase : base ≤ w.heap.size)
    (h : ∀ A' c' w', w'.ownsRow base e size (.slice A' (n + m) c') (n + m) (xs ++ news) → w.grownBy w' v.ownBlock → ((Value.slice A' (n + m) c').ownBlock = v.ownBlock ∨ (Value.slice A' (n + m) c').ownBlock = some w.heap.size) → K (a.put o.dst (.slice A' (n + m) c')) w') : o.wp P a w K Q := by
 obtain ⟨A', c', w', hr, h2, h3, h4⟩ := zLe (P := P) (w := w) base t o.type e i z size bytes ht hi hz hsize hby hzs hsz v n xs hown A m c news hsrc hl h1 h63 hbytes hbase; unfold Oper.wp execOp; simp only [ho, resolve, invoke, builtin, Sem.run_bind, Sem.run_pure, Result.andThen_ok, List.map_toArray, List.map_cons, List.map_nil, hs, hx, hr]
 exact h A' c' w' h2 h3 h4
theorem zR2 {ops : Array Oper} {rest : List Oper} {o : Oper} {a : Act} {Q : Exit → Act → World → Prop} (hgd : o.guard = none) (s x : Operand) (t : TypeId)
 (ho : o.op = .call { callee := .builtin .append, args := #[s, x], argTypes := #[t, t] })
    (base : Nat) (e : TypeId) (i : TypeInfo) (z : Value) (size bytes : Nat) (ht : P.underlying t = some (.slice e)) (hi : P.info? e = some i) (hz : i.zero = some z)
    (hsize : i.size = size) (hby : i.bytes = bytes) (hzs : z.cells.size = size) (hsz : 0 < size) (v : Value) (n : Nat) (xs : List Value) (hs : a.eval s = v) (hown : w.ownsRow base e size v n xs)
    (A : Option Addr) (m c : Nat) (news : List Value) (hx : a.eval x = .slice A m c) (hsrc : Src w A m c news) (hl : news.length = m * size) (h1 : ∀ u ∈ news, u.oneCell' = true)
    (h63 : n + m ≤ maxLen) (hbytes : (n + m) * bytes ≤ 140737488355328) (hbase : base ≤ w.heap.size)
    (h : ∀ A' c' w', w'.ownsRow base e size (.slice A' (n + m) c') (n + m) (xs ++ news) → w.grownBy w' v.ownBlock → ((Value.slice A' (n + m) c').ownBlock = v.ownBlock ∨ (Value.slice A' (n + m) c').ownBlock = some w.heap.size) → wpList P ops Q rest (a.put o.dst (.slice A' (n + m) c')) w') : wpList P ops Q (o :: rest) a w :=
 wpList_plain hgd fun _ hK => zR3 s x t ho base e i z size bytes ht hi hz hsize hby hzs hsz v n xs hs hown A m c news hx hsrc hl h1 h63 hbytes hbase fun A' c' w' h2 h3 h4 => hK _ _ (h A' c' w' h2 h3 h4)
theorem zOl {ops : Array Oper} {o : Oper} {a : Act} {K : Act → World → Prop} {Q : Exit → Act → World → Prop} {E : Prop} (hgd : o.guard = none) (s x : Operand) (t : TypeId)
 (ho : o.op = .call { callee := .builtin .append, args := #[s, x], argTypes := #[t, t] })
    (base : Nat) (e : TypeId) (i : TypeInfo) (z : Value) (size bytes : Nat) (ht : P.underlying t = some (.slice e)) (hi : P.info? e = some i) (hz : i.zero = some z)
    (hsize : i.size = size) (hby : i.bytes = bytes) (hzs : z.cells.size = size) (hsz : 0 < size) (v : Value) (n : Nat) (xs : List Value) (hs : a.eval s = v) (hown : w.ownsRow base e size v n xs)
    (A : Option Addr) (m c : Nat) (news : List Value) (hx : a.eval x = .slice A m c) (hsrc : Src w A m c news) (hl : news.length = m * size) (h1 : ∀ u ∈ news, u.oneCell' = true)
    (h63 : n + m ≤ maxLen) (hbytes : (n + m) * bytes ≤ 140737488355328) (hbase : base ≤ w.heap.size)
    (h : ∀ A' c' w', w'.ownsRow base e size (.slice A' (n + m) c') (n + m) (xs ++ news) → w.grownBy w' v.ownBlock → ((Value.slice A' (n + m) c').ownBlock = v.ownBlock ∨ (Value.slice A' (n + m) c').ownBlock = some w.heap.size) → K (a.put o.dst (.slice A' (n + m) c')) w') :
    if Region.wanted o (yielded ops a.tmps) = true then Oper.wp P o a w K Q else E := by
 have hw : Region.wanted o (yielded ops a.tmps) = true := by simp [Region.wanted, hgd]
 rw [if_pos hw]
 exact zR3 s x t ho base e i z size bytes ht hi hz hsize hby hzs hsz v n xs hs hown A m c news hx hsrc hl h1 h63 hbytes hbase h
end
theorem zJe {w : World} {base : Nat} {e : TypeId} {size : Nat} {v : Value} {n : Nat} {xs : List Value} (h : w.ownsRow base e size v n xs) {b : Nat} (hb : b < base) : some b ≠ v.ownBlock := fun e1 => by
 rcases h.2 with ⟨rfl, _⟩ | ⟨g, cap, cur, rfl, hg, _⟩
 · cases e1
 · injection e1 with e1
   have e1 : b = g := e1; omega
def Ext (X : World) : Type := { w' : World // Below X.heap.size X w' }
instance (X : World) : Nonempty (Ext X) := ⟨⟨X, Below.refl _ _⟩⟩
section
variable {P : Program} {X : World}
theorem zR4 {id : Nat} {Q : Exit → Act → World → Prop} {a : Act} {l : List Oper} (hm : P.follows .mixedOrders = true) (hB : Region.lexB .any l.toArray = true)
 (h : wpQuiet P l.toArray (fun w' => ∃ x : Ext X, w' = x.1) (fun a' => ∀ w', (∃ x : Ext X, w' = x.1) → Q .normal a' w') l a) : (Code.region id l.toArray true).wp P Q a X :=
 wp_region_quiet (C := fun w' => ∃ x : Ext X, w' = x.1) hm hB ⟨⟨_, (Below.refl X.heap.size X).drew⟩, rfl⟩ (by simpa using h)
theorem zDv {f : FuncId} {args : Array Value} {v : Value} (x : Ext X) (h : Calls P f args x.1 fun e w' => e = .returned v ∧ x.1 = w') : Calls P f args x.1 fun e w'' => e = .returned v ∧ ∃ y : Ext X, w'' = y.1 :=
 h.mono fun _ _ ⟨he, hw⟩ => ⟨he, x, hw.symm⟩
theorem zDs {f : FuncId} {args : Array Value} {v : Value} (x : Ext X) (h : Calls P f args x.1 fun e w' => e = .returned v ∧ Below x.1.heap.size x.1 w') : Calls P f args x.1 fun e w'' => e = .returned v ∧ ∃ y : Ext X, w'' = y.1 :=
 h.mono fun _ w'' ⟨he, hw⟩ => ⟨he, ⟨w'', x.2.trans (hw.mono x.2.size)⟩, rfl⟩
theorem zDu {B : Nat} {w : World} (h : Below B w X) (hB : B ≤ X.heap.size) (x : Ext X) : Below B w x.1 := h.trans (x.2.mono hB)
theorem zDt {a : Addr} {v : Value} (h : X.cell? a = some v) (hb : a.block < X.heap.size) (x : Ext X) : x.1.cell? a = some v := (x.2.cell hb).trans h
end
theorem zF2 : (Tryz.prog.info? 3).map (fun i => (i.zero, i.size, i.bytes)) = some (some (.int .i64 0), 1, 8) := by kernel_rfl
theorem zF9 (l : List Int) : ∀ u ∈ l.map (Value.int .i64), u.oneCell' = true := by
 intro u hu; obtain ⟨x, _, rfl⟩ := List.mem_map.1 hu; rfl
theorem zJd {w : World} {base : Nat} {A : Option Addr} {c : Nat} {l : List Int} (h : w.ownsRow base 3 1 (.slice A l.length c) l.length (l.map (.int .i64))) {k : Nat} (hk : k < l.length) :
 ∃ g, A = some ⟨g, 0, none⟩ ∧ g < w.heap.size ∧ base ≤ g ∧ w.cell? ⟨g, k, none⟩ = some (.int .i64 l[k]) := by
 obtain ⟨g, cap, h1, h2, h3⟩ := h.form (by omega)
 injection h1 with h1 _ _
 subst h1
 refine ⟨g, rfl, h3, h2, ?_⟩
 rw [h.cellAt k (by omega), List.getElem?_map, List.getElem?_eq_getElem hk]; rfl
theorem zAg.is {p : Prop} {e : Ending} (h : zAg p e) : ∃ b, e = .returned (.bool b) ∧ Hid (b = true ↔ p) := by
 rcases h with ⟨rfl, h⟩ | ⟨rfl, h⟩
 · exact ⟨true, rfl, ⟨fun _ => h, fun _ => rfl⟩⟩
 · exact ⟨false, rfl, ⟨fun h => (Bool.noConfusion h), fun g => (h g).elim⟩⟩
theorem zAg.same {p q : Prop} {e : Ending} {b : Bool} (h : zAg p e) (hb : b = true ↔ q) (hpq : p ↔ q) : e = .returned (.bool b) := by
 obtain ⟨c, rfl, hc⟩ := h.is; rw [show c = b from by rw [Bool.eq_iff_iff, hb, ← hpq]; exact hc]
theorem Blk.three {w : World} {g : Nat} {t : TypeId} {x y z : Value} (h : Blk w g t #[x, y, z]) : w.cell? ⟨g, 0, none⟩ = some x ∧ w.cell? ⟨g, 1, none⟩ = some y ∧ w.cell? ⟨g, 2, none⟩ = some z := by
 rw [h.cell, h.cell, h.cell]; exact ⟨rfl, rfl, rfl⟩
theorem zAg.t {p : Prop} {e : Ending} (h : zAg p e) (hp : p) : e = .returned (.bool true) := by
 rcases h with ⟨rfl, _⟩ | ⟨rfl, h⟩
 · rfl
 · exact (h hp).elim
theorem zAg.f {p : Prop} {e : Ending} (h : zAg p e) (hp : ¬ p) : e = .returned (.bool false) := by
 rcases h with ⟨rfl, h⟩ | ⟨rfl, _⟩
 · exact (hp h).elim
 · rfl
def IAt (w : World) (A : Option Addr) (l : List Int) : Prop :=
 0 < l.length → ∃ g, A = some ⟨g, 0, none⟩ ∧ g < w.heap.size ∧ ∀ k (h : k < l.length), w.cell? ⟨g, k, none⟩ = some (.int .i64 l[k])
theorem IAt.of_own {w : World} {base : Nat} {A : Option Addr} {c : Nat} {l : List Int} (h : w.ownsRow base 3 1 (.slice A l.length c) l.length (l.map (.int .i64))) : IAt w A l := fun hp => by
 obtain ⟨g, rfl, hg, _, _⟩ := zJd h hp
 refine ⟨g, rfl, hg, fun k hk => ?_⟩
 obtain ⟨g', e, _, _, hc⟩ := zJd h hk; injection e with e
 injection e with e
 subst e
 exact hc
theorem IAt.below {w w' : World} {A : Option Addr} {l : List Int} (h : IAt w A l) (hb : Below w.heap.size w w') : IAt w' A l := fun hp => by
 obtain ⟨g, rfl, hg, hc⟩ := h hp
 exact ⟨g, rfl, Nat.lt_of_lt_of_le hg hb.size, fun k hk => (hb.cell (p := ⟨g, k, none⟩) hg).trans (hc k hk)⟩
theorem Blk.put3 {w : World} {g : Nat} {t : TypeId} {a b c : Value} (h : Blk w g t #[a, b, c]) (x y z : Value) :
 Blk (((w.setCell ⟨g, 0, none⟩ x).setCell ⟨g, 1, none⟩ y).setCell ⟨g, 2, none⟩ z) g t #[x, y, z] := by
 have := ((h.set_ 0 x).set_ 1 y).set_ 2 z; simpa only [List.setIfInBounds_toArray, List.set_cons_zero, List.set_cons_succ] using this
theorem Blk.drew {w : World} {g : Nat} {t : TypeId} {cs : Array Value} (h : Blk w g t cs) : Blk w.drew g t cs := h
theorem Blk.ne {w : World} {g q : Nat} {t t' : TypeId} {cs cs' : Array Value} (h : Blk w g t cs) (h' : Blk w q t' cs') (hne : t ≠ t') : g ≠ q := by
 rintro rfl; unfold Blk at h h'; rw [h] at h'; injection h' with h'
 injection h' with _ h'
 exact hne h'
theorem zJm {w : World} {b b' : Nat} {e e' : TypeId} {s s' n n' : Nat} {v v' : Value} {xs xs' : List Value} (h : w.ownsRow b e s v n xs) (h' : w.ownsRow b' e' s' v' n' xs') (hne : e ≠ e') : v.ownBlock = none ∨ v.ownBlock ≠ v'.ownBlock := by
 rcases h.2 with ⟨rfl, _⟩ | ⟨g, cap, cur, rfl, _, hh, _⟩
 · exact .inl rfl
 · refine .inr fun he => ?_
   rcases h'.2 with ⟨rfl, _⟩ | ⟨g', cap', cur', rfl, _, hh', _⟩
   · cases he
   · have : g = g' := by simpa [Value.ownBlock] using he
     subst this; rw [hh] at hh'; injection hh' with hh'
     injection hh' with _ ht
     exact hne ht
theorem Blk.put2 {w : World} {g : Nat} {t : TypeId} {a b : Value} (h : Blk w g t #[a, b]) (x y : Value) : Blk ((w.setCell ⟨g, 0, none⟩ x).setCell ⟨g, 1, none⟩ y) g t #[x, y] := by
 have := (h.set_ 0 x).set_ 1 y; simpa only [List.setIfInBounds_toArray, List.set_cons_zero, List.set_cons_succ] using this
theorem Blk.two {w : World} {g : Nat} {t : TypeId} {x y : Value} (h : Blk w g t #[x, y]) : w.cell? ⟨g, 0, none⟩ = some x ∧ w.cell? ⟨g, 1, none⟩ = some y := ⟨by rw [h.cell]; rfl, by rw [h.cell]; rfl⟩
theorem zB2 {B : Nat} {w w' : World} (h : Below B w w') {g : Nat} (hg : B ≤ g) (x y : Value) : Below B w ((w'.setCell ⟨g, 0, none⟩ x).setCell ⟨g, 1, none⟩ y) :=
 (h.setCell (p := ⟨g, 0, none⟩) hg _).setCell (p := ⟨g, 1, none⟩) hg _
def zGy (n : Nat) (left : Int) : Int := if left < n then -1 else left - n
theorem nx (w : World) (cs : Array Value) (t : TypeId) : Hid (Blk (w.alloc (.cells cs t)) w.heap.size t cs) := Blk.new w t cs
theorem wr1 {r : Nat} (h : r ≤ 4611686018427387904) : IntKind.i64.wrap ((r : Int) + 1) = (r : Int) + 1 := zRa (by omega) (by omega)
theorem mkf (fn : Fn) (first cap : Array Value) (w : World) : (Instr.makeFunc fn first cap).run Tryz.prog w = .ok (.func fn first cap) w := rfl
end Go.Proofs.YtmolbnghobfmoaaGreat
namespace Go.Proofs.YtmolbnghobfmoaaGreat
def tb (x i : Nat) : Nat := x / 2 ^ i % 2
theorem zP4 (x i : Nat) : tb x i < 2 := Nat.mod_lt _ (by decide)
theorem zP5 (x i : Nat) : x % 2 ^ (i + 1) = x % 2 ^ i + tb x i * 2 ^ i := by rw [Nat.mod_pow_succ, Nat.mul_comm]; rfl
theorem zP6 (x i : Nat) : tb x i = (x.testBit i).toNat := by
 unfold tb; rw [Nat.testBit_eq_decide_div_mod_eq]; have := Nat.mod_lt (x / 2 ^ i) (show 0 < 2 by decide)
 generalize x / 2 ^ i % 2 = y at *
 rcases (show y = 0 ∨ y = 1 by omega) with rfl | rfl <;> rfl
theorem tb_and (a b i : Nat) : tb (a &&& b) i = tb a i * tb b i := by
 simp only [zP6, Nat.testBit_and]; cases a.testBit i <;> cases b.testBit i <;> rfl
theorem tb_or (a b i : Nat) : tb (a ||| b) i = tb a i + tb b i - tb a i * tb b i := by
 simp only [zP6, Nat.testBit_or]; cases a.testBit i <;> cases b.testBit i <;> rfl
theorem tb_xor (a b i : Nat) : tb (a ^^^ b) i = (tb a i + tb b i) % 2 := by
 simp only [zP6, Nat.testBit_xor]; cases a.testBit i <;> cases b.testBit i <;> rfl
theorem zP3 {x w i : Nat} (h : x < 2 ^ w) (hi : w ≤ i) : tb x i = 0 := by
 rw [zP6, Nat.testBit_lt_two_pow (Nat.lt_of_lt_of_le h (Nat.pow_le_pow_right (by decide) hi))]; rfl
theorem tb_mod {x w i : Nat} (h : i < w) : tb (x % 2 ^ w) i = tb x i := by
 simp only [zP6, Nat.testBit_mod_two_pow, h, decide_true, Bool.true_and]
theorem tb_mul (x c i : Nat) : tb (x * 2 ^ c) i = if c ≤ i then tb x (i - c) else 0 := by
 simp only [zP6, Nat.mul_comm x, Nat.testBit_two_pow_mul]; split <;> rename_i h
 · simp [h]
 · simp; omega
theorem zP2 (x c i : Nat) : tb (x / 2 ^ c) i = tb x (i + c) := by
 simp only [zP6, Nat.testBit_div_two_pow]
def sgn (w a : Nat) : Int := if a < 2 ^ (w - 1) then (a : Int) else (a : Int) - ((2 ^ w : Nat) : Int)
def toW (w : Nat) (x : Int) : Nat := (x % ((2 ^ w : Nat) : Int)).toNat
theorem zPi (w : Nat) (x : Int) : toW w x < 2 ^ w := by
 have hp : (0 : Int) < ((2 ^ w : Nat) : Int) := by have := Nat.two_pow_pos w; omega
 have h0 := Int.emod_nonneg x (Int.ne_of_gt hp); have h1 := Int.emod_lt_of_pos x hp; unfold toW; omega
theorem zPh (w : Nat) (x : Int) : (toW w x : Int) = x % ((2 ^ w : Nat) : Int) := by
 have hp : (0 : Int) < ((2 ^ w : Nat) : Int) := by have := Nat.two_pow_pos w; omega
 have h0 := Int.emod_nonneg x (Int.ne_of_gt hp); unfold toW; omega
theorem zPw {w : Nat} (h : 1 ≤ w) : 2 ^ w = 2 * 2 ^ (w - 1) := by
 obtain ⟨v, rfl⟩ : ∃ v, w = v + 1 := ⟨w - 1, by omega⟩
 rw [Nat.pow_succ, Nat.add_sub_cancel]; omega
theorem zKc {w : Nat} (h : w ≤ 16) : 2 ^ w ≤ 65536 := Nat.pow_le_pow_right (n := 2) (by decide) h
theorem zN5 {w a : Nat} (hw : 1 ≤ w) (ha : a < 2 ^ w) : -((2 ^ (w - 1) : Nat) : Int) ≤ sgn w a ∧ sgn w a < ((2 ^ (w - 1) : Nat) : Int) := by
 have := zPw hw; unfold sgn; split <;> omega
def pop : Nat → Nat → Nat
 | 0, _ => 0
 | w + 1, a => pop w a + tb a w
theorem zK9 (w a : Nat) : pop w a ≤ w := by
 induction w with
 | zero => exact Nat.le_refl _
 | succ w ih => have := zP4 a w; simp only [pop]; omega
theorem zK8 (w : Nat) : ∀ a, a < 2 ^ w → (pop w a = w ↔ a = 2 ^ w - 1) := by
 have key : ∀ w a, (pop w a = w ↔ a % 2 ^ w = 2 ^ w - 1) := by
  intro w
  induction w with
  | zero => intro a; simp [pop, Nat.mod_one]
  | succ w ih =>
   intro a; have h1 := zP4 a w; have h2 := zK9 w a; have h3 := zP5 a w; have h4 := Nat.mod_lt a (Nat.two_pow_pos w); have h5 : 2 ^ (w + 1) = 2 * 2 ^ w := by rw [Nat.pow_succ]; omega
   have h6 := ih a; simp only [pop]; rw [h3, h5]; generalize 2 ^ w = p at *; generalize a % p = m at *; generalize tb a w = t at *
   rcases (show t = 0 ∨ t = 1 by omega) with rfl | rfl
   · simp only [Nat.zero_mul]; omega
   · simp only [Nat.one_mul]; omega
 intro a ha; have := key w a; rwa [Nat.mod_eq_of_lt ha] at this
def zIx (k w a : Nat) : Nat :=
 if k = 1 then 2 ^ w - 1 - a else if k = 2 then toW w (-(a : Int)) else if k = 3 then (if a = 0 then 0 else 1) else if k = 4 then (if a = 2 ^ w - 1 then 1 else 0) else pop w a % 2
def sar (w a c : Nat) : Nat := toW w (sgn w a / ((2 ^ c : Nat) : Int))
def zL0 (w a r : Nat) : Nat := (a % 2 ^ (w - r)) * 2 ^ r + a / 2 ^ (w - r)
def zCs (k w a b : Nat) : Bool :=
 if k = 21 then decide (a = b) else if k = 22 then decide (a < b) else if k = 23 then decide (sgn w a < sgn w b) else if k = 24 then decide (a ≤ b)
 else if k = 25 then decide (sgn w a ≤ sgn w b) else if k = 26 then decide (2 ^ w ≤ a + b)
 else if k = 27 then !decide (-((2 ^ (w - 1) : Nat) : Int) ≤ sgn w a + sgn w b ∧ sgn w a + sgn w b ≤ ((2 ^ (w - 1) : Nat) : Int) - 1) else decide (2 ^ w ≤ a * b)
def zN2 (k w a b : Nat) : Nat :=
 if sgn w b = 0 then (if k = 15 then a else if sgn w a < 0 then 1 else 2 ^ w - 1) else if k = 14 then toW w ((sgn w a).tdiv (sgn w b)) else toW w ((sgn w a).tmod (sgn w b))
def zPu (k w a b : Nat) : Nat :=
 if k = 6 then a &&& b else if k = 7 then a ||| b else if k = 8 then a ^^^ b else if k = 9 then (a + b) % 2 ^ w else if k = 10 then toW w ((a : Int) - b) else if k = 11 then a * b % 2 ^ w
 else if k = 12 then (if b = 0 then 2 ^ w - 1 else a / b) else if k = 13 then (if b = 0 then a else a % b) else if k = 14 ∨ k = 15 then zN2 k w a b
 else if k = 16 then a * 2 ^ min b w % 2 ^ w else if k = 17 then a / 2 ^ min b w else if k = 18 then sar w a (min b w)
 else if k = 19 then zL0 w a (b % w) else if k = 20 then zL0 w a ((w - b % w) % w) else (zCs k w a b).toNat
def zPt (k w : Nat) : Nat := if k ≤ 20 then w else 1
def zIw (k w : Nat) : Nat := if k ≤ 2 then w else 1
def zEe (w a more : Nat) (sign : Bool) : Nat := if sign then toW (w + more) (sgn w a) else a
theorem shl_bit {w a b i : Nat} (hi : i < w) : tb (a * 2 ^ min b w % 2 ^ w) i = if b ≤ i then tb a (i - b) else 0 := by
 rw [tb_mod hi, tb_mul]
 by_cases h : b ≤ i
 · rw [if_pos h, if_pos (by omega), Nat.min_eq_left (by omega)]
 · rw [if_neg h, if_neg (by omega)]
theorem zN7 {w a b i : Nat} (ha : a < 2 ^ w) : tb (a / 2 ^ min b w) i = if i + b < w then tb a (i + b) else 0 := by
 rw [zP2]
 by_cases h : i + b < w
 · rw [if_pos h, Nat.min_eq_left (by omega)]
 · rw [if_neg h, zP3 ha (by omega)]
theorem top_bit {w a : Nat} (hw : 1 ≤ w) (ha : a < 2 ^ w) : tb a (w - 1) = if a < 2 ^ (w - 1) then 0 else 1 := by
 have h := zPw hw; unfold tb; generalize 2 ^ (w - 1) = p at *; rw [h] at ha; split <;> rename_i hp
 · rw [Nat.div_eq_of_lt hp]
 · rw [show a / p = 1 by apply Nat.div_eq_of_lt_le <;> omega]
theorem sar_eq {w a c : Nat} (ha : a < 2 ^ w) (hc : c ≤ w) : sar w a c = if a < 2 ^ (w - 1) then a / 2 ^ c else 2 ^ w - 2 ^ (w - c) + a / 2 ^ c := by
 have hq : a / 2 ^ c < 2 ^ w := Nat.lt_of_le_of_lt (Nat.div_le_self _ _) ha; unfold sar sgn; split
 · unfold toW
   rw [← Int.natCast_ediv, ← Int.natCast_emod, Nat.mod_eq_of_lt hq]
   exact Int.toNat_natCast _
 · have hs : 2 ^ w = 2 ^ (w - c) * 2 ^ c := by rw [← Nat.pow_add, Nat.sub_add_cancel hc]
   have hd : a / 2 ^ c < 2 ^ (w - c) := by rw [Nat.div_lt_iff_lt_mul (Nat.two_pow_pos c), ← hs]; exact ha
   have hle : 2 ^ (w - c) ≤ 2 ^ w := Nat.pow_le_pow_right (by decide) (by omega)
   have e : ((a : Int) - ((2 ^ w : Nat) : Int)) / ((2 ^ c : Nat) : Int) = ((a / 2 ^ c : Nat) : Int) - ((2 ^ (w - c) : Nat) : Int) := by
    have : ((2 ^ w : Nat) : Int) = ((2 ^ (w - c) : Nat) : Int) * ((2 ^ c : Nat) : Int) := by rw [hs]; exact Int.natCast_mul _ _
    rw [this, Int.sub_eq_add_neg, ← Int.neg_mul, Int.add_mul_ediv_right _ _ (by have := Nat.two_pow_pos c; omega)]
    rw [← Int.natCast_ediv]; rfl
   have hp : (0 : Int) < ((2 ^ w : Nat) : Int) := by have := Nat.two_pow_pos w; omega
   unfold toW; rw [e, ← Int.add_emod_right]; generalize 2 ^ w = P at *; generalize 2 ^ (w - c) = Q at *; generalize a / 2 ^ c = q at *; rw [Int.emod_eq_of_lt (by omega) (by omega)]
   omega
theorem sar_bit {w a b i : Nat} (hw : 1 ≤ w) (ha : a < 2 ^ w) (hi : i < w) : tb (sar w a (min b w)) i = if i + b < w then tb a (i + b) else tb a (w - 1) := by
 have hc : min b w ≤ w := Nat.min_le_right _ _; rw [sar_eq ha hc, top_bit hw ha]; split
 · exact zN7 ha
 · rename_i hn
   have hd : a / 2 ^ min b w < 2 ^ (w - min b w) := by
    rw [Nat.div_lt_iff_lt_mul (Nat.two_pow_pos _), ← Nat.pow_add, Nat.sub_add_cancel hc]; exact ha
   have hm : 2 ^ w - 2 ^ (w - min b w) = 2 ^ (w - min b w) * (2 ^ min b w - 1) := by
    rw [Nat.mul_sub, ← Nat.pow_add, Nat.sub_add_cancel hc, Nat.mul_one]
   rw [hm, zP6, Nat.testBit_two_pow_mul_add _ hd]
   by_cases h : i + b < w
   · rw [if_pos (show i < w - min b w by omega), if_pos h, ← zP6, zP2, Nat.min_eq_left (by omega)]
   · rw [if_neg (show ¬ i < w - min b w by omega), if_neg h, Nat.testBit_two_pow_sub_one, decide_eq_true (by omega)]; rfl
def zPl (w a r i : Nat) : Nat := (a % 2 ^ min i (w - r)) * 2 ^ r + a % 2 ^ i / 2 ^ (w - r)
theorem zPp (w a r : Nat) : zPl w a r 0 = 0 := by
 have h1 : a % 2 ^ 0 = 0 := by rw [Nat.pow_zero, Nat.mod_one]
 have h2 : min 0 (w - r) = 0 := by omega
 unfold zPl; rw [h2, h1]; simp
theorem zPm {w a r : Nat} (ha : a < 2 ^ w) : zPl w a r w = zL0 w a r := by
 unfold zPl zL0; rw [Nat.min_eq_right (by omega), Nat.mod_eq_of_lt (a := a) (b := 2 ^ w) ha]
theorem zPo {w a r i : Nat} (hr : r < w) (hi : i < w) : zPl w a r (i + 1) = zPl w a r i + tb a i * 2 ^ ((i + r) % w) := by
 unfold zPl
 by_cases h : i < w - r
 · rw [Nat.min_eq_left (show i + 1 ≤ w - r by omega), Nat.min_eq_left (show i ≤ w - r by omega), Nat.mod_eq_of_lt (show i + r < w by omega), zP5, Nat.add_mul]
   have e1 : (a % 2 ^ i + tb a i * 2 ^ i) / 2 ^ (w - r) = 0 := by
    rw [← zP5]; exact Nat.div_eq_of_lt (Nat.lt_of_lt_of_le (Nat.mod_lt _ (Nat.two_pow_pos _)) (Nat.pow_le_pow_right (by decide) (by omega)))
   have e2 : a % 2 ^ i / 2 ^ (w - r) = 0 := Nat.div_eq_of_lt (Nat.lt_of_lt_of_le (Nat.mod_lt _ (Nat.two_pow_pos _)) (Nat.pow_le_pow_right (by decide) (by omega)))
   rw [e1, e2, Nat.mul_assoc, ← Nat.pow_add]; omega
 · rw [Nat.min_eq_right (show w - r ≤ i + 1 by omega), Nat.min_eq_right (show w - r ≤ i by omega), zP5]
   have e : (i + r) % w = i - (w - r) := by rw [show i + r = (i - (w - r)) + w by omega, Nat.add_mod_right, Nat.mod_eq_of_lt (by omega)]
   have e2 : 2 ^ i = 2 ^ (i - (w - r)) * 2 ^ (w - r) := by rw [← Nat.pow_add, Nat.sub_add_cancel (by omega)]
   rw [e, show tb a i * 2 ^ i = tb a i * 2 ^ (i - (w - r)) * 2 ^ (w - r) by rw [Nat.mul_assoc, ← e2], Nat.add_mul_div_right _ _ (Nat.two_pow_pos _)]
   omega
structure So where
 i : Int
 w : Int
deriving DecidableEq, Inhabited
structure No where
 k : Int
 a : Int
 b : Int
 c : Int
 n : Int
 m : Int
 s : So
 t : ByteArray
deriving DecidableEq
instance : Inhabited No := ⟨⟨0, 0, 0, 0, 0, 0, ⟨0, 0⟩, ByteArray.empty⟩⟩
structure Bi where
 st : Int
 nd : Int
deriving DecidableEq, Inhabited
structure Mo where
 ns : List No
 ins : List Bi
 nxs : List Bi
 bads : List Int
 hols : List Int
deriving DecidableEq
def noAt (l : List No) (p : Int) : No := l.getD p.toNat default
def wS (w : Int) : So := ⟨0, w⟩
def sortOk (s : So) : Prop := (0 ≤ s.i ∧ s.i ≤ 2) ∧ 1 ≤ s.w ∧ s.w ≤ 16
instance (s : So) : Decidable (sortOk s) := by unfold sortOk; infer_instance
def zQi (w v : Int) : Prop := (1 ≤ w ∧ w ≤ 16) ∧ 0 ≤ v ∧ v ≤ ((2 ^ w.toNat : Nat) : Int) - 1
instance (w v : Int) : Decidable (zQi w v) := by unfold zQi; infer_instance
def cellsOf (s : So) : Nat := if sortOk s then 2 ^ s.i.toNat else 0
def zBn (s : So) : Int := (cellsOf s : Int) * max 0 (min 16 s.w)
def zK1 (k : Int) : Int :=
 if (1 ≤ k ∧ k ≤ 5) ∨ (30 ≤ k ∧ k ≤ 32) then 1 else if (6 ≤ k ∧ k ≤ 29) ∨ k = 37 then 2 else if k = 33 ∨ k = 38 then 3 else if 34 ≤ k ∧ k ≤ 36 then 0 else -1
def zBu (t : ByteArray) (i : Nat) : Int := ((t.data.toList.getD i 0).toNat : Int)
def zH0 (x : Int) : Prop := 97 ≤ x ∧ x ≤ 122
instance (x : Int) : Decidable (zH0 x) := by unfold zH0; infer_instance
def zDb (x : Int) : Prop := 48 ≤ x ∧ x ≤ 57
instance (x : Int) : Decidable (zDb x) := by unfold zDb; infer_instance
def zCm (t : ByteArray) (i : Nat) : Prop := zH0 (zBu t i) ∨ (0 < i ∧ zDb (zBu t i))
instance (t : ByteArray) (i : Nat) : Decidable (zCm t i) := by unfold zCm; infer_instance
def zFh (t : ByteArray) : Prop := (1 ≤ t.size ∧ t.size ≤ 8) ∧ ∀ i, i < t.size → zCm t i
instance (t : ByteArray) : Decidable (zFh t) := by unfold zFh; infer_instance
def zI6 (k : Int) : Prop := k = 35 ∨ k = 36
instance (k : Int) : Decidable (zI6 k) := by unfold zI6; infer_instance
def zJt (many j behind p : Int) : Prop := if j < many then 0 ≤ p ∧ p ≤ behind - 1 else p = 0
instance (many j behind p : Int) : Decidable (zJt many j behind p) := by unfold zJt; infer_instance
def zE5 (behind : Int) (n : No) : Prop :=
 0 ≤ zK1 n.k ∧ (zJt (zK1 n.k) 0 behind n.a ∧ zJt (zK1 n.k) 1 behind n.b ∧ zJt (zK1 n.k) 2 behind n.c) ∧
 ((n.k = 34 ∨ n.k = 30 ∨ n.k = 31 ∨ n.k = 32) ∨ n.n = 0) ∧ (n.k = 30 ∨ n.m = 0) ∧ (if zI6 n.k then zFh n.t else n.t.size = 0)
instance (behind : Int) (n : No) : Decidable (zE5 behind n) := by unfold zE5; infer_instance
def zNp (n : No) (a b c : So) : Option So :=
 if n.k = 35 ∨ n.k = 36 then (if sortOk n.s then some n.s else none)
 else if n.k = 34 then (if n.s.i = 0 ∧ zQi n.s.w n.n then some n.s else none)
 else if n.k = 33 then (if a = wS 1 ∧ b = c then some b else none)
 else if n.k = 21 then (if a = b then some (wS 1) else none)
 else if n.k = 37 then (if 0 < a.i ∧ b = wS a.i then some (wS a.w) else none)
 else if n.k = 38 then (if 0 < a.i ∧ b = wS a.i ∧ c = wS a.w then some a else none)
 else if a.i ≠ 0 ∨ b.i ≠ 0 then none
 else if n.k = 1 ∨ n.k = 2 then some a
 else if 3 ≤ n.k ∧ n.k ≤ 5 then some (wS 1)
 else if n.k = 30 then (if (0 ≤ n.n ∧ n.n ≤ a.w - 1) ∧ 0 ≤ n.m ∧ n.m ≤ n.n then some (wS (n.n - n.m + 1)) else none)
 else if n.k = 31 ∨ n.k = 32 then (if 0 ≤ n.n ∧ n.n ≤ 16 - a.w then some (wS (a.w + n.n)) else none)
 else if n.k = 29 then (if a.w + b.w ≤ 16 then some (wS (a.w + b.w)) else none)
 else if a = b then some (if 22 ≤ n.k ∧ n.k ≤ 28 then wS 1 else a) else none
def zJu (l : List No) (n : No) (j p : Int) : So := if j < zK1 n.k then (noAt l p).s else ⟨0, 0⟩
def zK4 (l : List No) (n : No) : Prop :=
 (0 < zK1 n.k → sortOk (noAt l n.a).s) ∧ (1 < zK1 n.k → sortOk (noAt l n.b).s) ∧ (2 < zK1 n.k → sortOk (noAt l n.c).s)
instance (l : List No) (n : No) : Decidable (zK4 l n) := by unfold zK4; infer_instance
def zIe (l : List No) (n : No) : Option So :=
 if l.length ≤ 60 ∧ zE5 l.length n ∧ zK4 l n then zNp n (zJu l n 0 n.a) (zJu l n 1 n.b) (zJu l n 2 n.c) else none
def zAa (l : List No) (n : No) : Prop := zIe l n = some n.s
instance (l : List No) (n : No) : Decidable (zAa l n) := by unfold zAa; infer_instance
def zAb (l : List No) : Prop := ∀ i (h : i < l.length), zAa (l.take i) l[i]
def zI5 (l : List No) : Prop := ∃ i j, j < i ∧ i < l.length ∧ (noAt l i).t.size ≠ 0 ∧ (noAt l i).t = (noAt l j).t
def zOk (l : List Bi) : Prop := ∃ i j, j < i ∧ i < l.length ∧ (l.getD i default).st = (l.getD j default).st
inductive Made (l : List No) : Nat → Prop
 | self {i : Nat} (h : i < l.length) (hk : zI6 (noAt l i).k) : Made l i
 | a {i : Nat} (h : i < l.length) (hp : 0 < zK1 (noAt l i).k) (hm : Made l (noAt l i).a.toNat) : Made l i
 | b {i : Nat} (h : i < l.length) (hp : 1 < zK1 (noAt l i).k) (hm : Made l (noAt l i).b.toNat) : Made l i
 | c {i : Nat} (h : i < l.length) (hp : 2 < zK1 (noAt l i).k) (hm : Made l (noAt l i).c.toNat) : Made l i
def zFk (l : List No) (p : Int) : Prop := 0 ≤ p ∧ p ≤ (l.length : Int) - 1
def zBe (l : List No) (init : Bool) (b : Bi) : Prop :=
 zFk l b.st ∧ zFk l b.nd ∧ (noAt l b.st).k = 36 ∧
  (if init then ((noAt l b.st).s = (noAt l b.nd).s ∨ (noAt l b.nd).s = wS (noAt l b.st).s.w) ∧ ¬ Made l b.nd.toNat else (noAt l b.st).s = (noAt l b.nd).s)
def zKi (l : List No) (p : Int) : Prop := zFk l p ∧ (noAt l p).s = wS 1
def zBk (l : List No) (k : Int) : Int := (l.map fun n => if n.k = k then zBn n.s else 0).sum
open Classical in
noncomputable def zHv (m : Mo) : Int :=
 if m.ns.length > 60 ∨ m.ins.length > 60 ∨ m.nxs.length > 60 ∨ m.bads.length > 4 ∨ m.hols.length > 4 then 1
 else if ¬ zAb m.ns then 2
 else if zI5 m.ns ∨ zOk m.ins ∨ zOk m.nxs then 3
 else if ¬ ((∀ b ∈ m.ins, zBe m.ns true b) ∧ ∀ b ∈ m.nxs, zBe m.ns false b) then 4
 else if ¬ ((∀ p ∈ m.bads, zKi m.ns p) ∧ ∀ p ∈ m.hols, zKi m.ns p) then 5
 else if zBk m.ns 36 > 8 ∨ zBk m.ns 35 > 5 then 6 else 0
structure MoOk (m : Mo) : Prop where
 few : m.ns.length ≤ 60
 fewI : m.ins.length ≤ 60
 fewN : m.nxs.length ≤ 60
 fewB : m.bads.length ≤ 4
 fewH : m.hols.length ≤ 4
 nodes : zAb m.ns
 once : ¬ zI5 m.ns
 onceI : ¬ zOk m.ins
 onceN : ¬ zOk m.nxs
 inits : ∀ b ∈ m.ins, zBe m.ns true b
 nexts : ∀ b ∈ m.nxs, zBe m.ns false b
 bad : ∀ p ∈ m.bads, zKi m.ns p
 hold : ∀ p ∈ m.hols, zKi m.ns p
 states : zBk m.ns 36 ≤ 8
 inputs : zBk m.ns 35 ≤ 5
theorem zHu (m : Mo) : MoOk m ↔ zHv m = 0 := by
 unfold zHv; constructor
 · intro h
   rw [if_neg (by have := h.few; have := h.fewI; have := h.fewN; have := h.fewB; have := h.fewH; omega), if_neg (by simpa using h.nodes), if_neg (by simp [h.once, h.onceI, h.onceN]),
    if_neg (by simpa using ⟨h.inits, h.nexts⟩), if_neg (by simpa using ⟨h.bad, h.hold⟩), if_neg (by have := h.states; have := h.inputs; omega)]
 · intro h
   split at h
   · cases h
   split at h
   · cases h
   split at h
   · cases h
   split at h
   · cases h
   split at h
   · cases h
   split at h
   · cases h
   rename_i h1 h2 h3 h4 h5 h6
   have h2 := Classical.not_not.1 h2; have h4 := Classical.not_not.1 h4; have h5 := Classical.not_not.1 h5
   exact ⟨by omega, by omega, by omega, by omega, by omega, h2, fun h => h3 (.inl h), fun h => h3 (.inr (.inl h)), fun h => h3 (.inr (.inr h)), h4.1, h4.2, h5.1, h5.2, by omega, by omega⟩
def hd0 (v : List Int) : Int := v.getD 0 0
def zIm (so : Int → So) (va : Int → List Int) (n : No) : List Int :=
 if n.k = 34 then [n.n]
 else if n.k = 33 then (if hd0 (va n.a) = 1 then va n.b else va n.c)
 else if n.k = 21 then [if va n.a = va n.b then 1 else 0]
 else if n.k = 37 then [(va n.a).getD (hd0 (va n.b)).toNat 0]
 else if n.k = 38 then (va n.a).set (hd0 (va n.b)).toNat (hd0 (va n.c))
 else if n.k = 29 then [hd0 (va n.a) * ((2 ^ (so n.b).w.toNat : Nat) : Int) + hd0 (va n.b)]
 else if n.k = 30 then [hd0 (va n.a) / ((2 ^ n.m.toNat : Nat) : Int) % ((2 ^ (n.n - n.m + 1).toNat : Nat) : Int)]
 else if n.k = 31 ∨ n.k = 32 then [(zEe (so n.a).w.toNat (hd0 (va n.a)).toNat n.n.toNat (decide (n.k = 32)) : Nat)]
 else if n.k ≤ 5 then [(zIx n.k.toNat (so n.a).w.toNat (hd0 (va n.a)).toNat : Nat)]
 else [(zPu n.k.toNat (so n.a).w.toNat (hd0 (va n.a)).toNat (hd0 (va n.b)).toNat : Nat)]
def zDw (s : So) (v : List Int) : Prop := v.length = cellsOf s ∧ ∀ x ∈ v, zQi s.w x
inductive Kn
 | no
 | at (p : Int)
 | con (w v : Int)
def zFc (L : List No) (p : Int) : Bool := decide ((noAt L p).k = 34)
def isC (L : List No) (p v : Int) : Bool := decide ((noAt L p).k = 34 ∧ (noAt L p).n = v)
def zAr (L : List No) (n : No) : Bool :=
 decide (0 < zK1 n.k) && (zFc L n.a && ((decide (zK1 n.k ≤ 1) || zFc L n.b) && (decide (zK1 n.k ≤ 2) || zFc L n.c)))
def zD7 (L : List No) (n : No) : Int := hd0 (zIm (fun p => (noAt L p).s) (fun p => [(noAt L p).n]) n)
def zAn (n : No) : Kn :=
 if n.k = 6 ∨ n.k = 7 then .at n.a else if n.k = 8 ∨ n.k = 10 then .con n.s.w 0 else if n.k = 21 ∨ n.k = 24 ∨ n.k = 25 then .con 1 1 else if n.k = 22 ∨ n.k = 23 then .con 1 0 else .no
def zIz (L : List No) (c : Int) : Int := ((2 ^ (noAt L c).s.w.toNat : Nat) : Int) - 1
def zB7 (L : List No) (k c other : Int) : Kn :=
 if k = 6 then (if isC L c 0 then .at c else if isC L c (zIz L c) then .at other else .no)
 else if k = 7 then (if isC L c 0 then .at other else if isC L c (zIz L c) then .at c else .no)
 else if k = 8 ∨ k = 9 then (if isC L c 0 then .at other else .no)
 else if k = 11 then (if isC L c 0 then .at c else if isC L c 1 then .at other else .no)
 else .no
def zKw (L : List No) (n : No) : Kn := if (n.k = 10 ∨ (16 ≤ n.k ∧ n.k ≤ 20)) ∧ isC L n.b 0 then .at n.a else .no
def Kn.or (x y : Kn) : Kn := match x with
 | .no => y
 | _ => x
def zJr (L : List No) (n : No) : Kn :=
 (if n.a = n.b then zAn n else .no).or ((zB7 L n.k n.a n.b).or ((zB7 L n.k n.b n.a).or (zKw L n)))
def zIv (L : List No) (n : No) : Kn :=
 if n.k = 1 ∨ n.k = 2 then (if (noAt L n.a).k = n.k then .at (noAt L n.a).a else .no)
 else if n.k = 30 then (if n.m = 0 ∧ n.n = (noAt L n.a).s.w - 1 then .at n.a else .no)
 else if n.k = 31 ∨ n.k = 32 then (if n.n = 0 then .at n.a else .no)
 else .no
def zFu (L : List No) (n : No) : Kn :=
 if zAr L n then .con n.s.w (zD7 L n)
 else if n.k = 33 then (if isC L n.a 1 then .at n.b else if isC L n.a 0 then .at n.c else if n.b = n.c then .at n.b else .no)
 else if n.k = 37 then (if (noAt L n.a).k = 38 ∧ (noAt L n.a).b = n.b then .at (noAt L n.a).c else .no)
 else if zK1 n.k = 1 then zIv L n
 else if 6 ≤ n.k ∧ n.k ≤ 29 then zJr L n
 else .no
def zKj (L : List No) (n : No) : Nat := L.findIdx (fun x => decide (x = n))
def zKm (L : List No) (n : No) : List No × Int := if n ∈ L then (L, zKj L n) else (L ++ [n], L.length)
def zD0 (w v : Int) : No := ⟨34, 0, 0, 0, v, 0, ⟨0, w⟩, ByteArray.empty⟩
def zPq (k : Int) : Prop := k = 6 ∨ k = 7 ∨ k = 8 ∨ k = 9 ∨ k = 11 ∨ k = 21 ∨ k = 26 ∨ k = 27 ∨ k = 28
instance (k : Int) : Decidable (zPq k) := by unfold zPq; infer_instance
def zOm (n : No) : No := if zPq n.k ∧ n.b < n.a then { n with a := n.b, b := n.a } else n
def zGt (L : List No) (n : No) : List No × Int := match zFu L n with
 | .at p => (L, p)
 | .con w v => zKm L (zD0 w v)
 | .no => zKm L (zOm n)
def toP (T : List Int) (p : Int) : Int := T.getD p.toNat 0
def zJv (T : List Int) (n : No) : No :=
 { n with a := if 0 < zK1 n.k then toP T n.a else n.a, b := if 1 < zK1 n.k then toP T n.b else n.b, c := if 2 < zK1 n.k then toP T n.c else n.c }
def zE4 (x : List No × List Int) (n : No) : List No × List Int := ((zGt x.1 (zJv x.2 n)).1, x.2 ++ [(zGt x.1 (zJv x.2 n)).2])
def zE0 (l : List No) : List No × List Int := l.foldl zE4 ([], [])
def zHy (m : Mo) (L : List No) (T : List Int) : Mo :=
 ⟨L, m.ins.map (fun b => ⟨toP T b.st, toP T b.nd⟩), m.nxs.map (fun b => ⟨toP T b.st, toP T b.nd⟩), m.bads.map (toP T), m.hols.map (toP T)⟩
def nilM : Mo := ⟨[], [], [], [], []⟩
open Classical in
noncomputable def zE1 (m : Mo) : Mo := if MoOk m then zHy m (zE0 m.ns).1 (zE0 m.ns).2 else nilM
theorem zE3 {m : Mo} (h : MoOk m) : zE1 m = zHy m (zE0 m.ns).1 (zE0 m.ns).2 := by unfold zE1; rw [if_pos h]
theorem zE2 {m : Mo} (h : ¬ MoOk m) : zE1 m = nilM := by unfold zE1; rw [if_neg h]
end Go.Proofs.YtmolbnghobfmoaaGreat
