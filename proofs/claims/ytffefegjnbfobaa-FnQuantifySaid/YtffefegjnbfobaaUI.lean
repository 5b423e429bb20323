/- Which bits a diagram uses; BddUses of the program, walked. -/
import Derived.Test.YtffefegjnbfobaaL0
namespace Go.Proofs.Ytffefegjnbfobaa
open Go.RowKit
open B

def UsesP (ns : List Nd) (i : Int) : Prop := ∃ n, n ∈ ns ∧ n.v = i

theorem uses_range {V R i : Int} {ns : List Nd} (hok : OkS V ns R) (h : UsesP ns i) : 0 ≤ i ∧ i ≤ V - 1 := by
  obtain ⟨n, hn, rfl⟩ := h
  obtain ⟨k, hk, he⟩ := List.getElem_of_mem hn
  have g := hok.1.fm k n (by rw [List.getElem?_eq_getElem hk, he])
  have := g.v0; have := g.v1; have := hok.1.v0
  omega

end Go.Proofs.Ytffefegjnbfobaa
namespace Go.Proofs.Ytffefegjnbfobaa
open Go.RowKit
open B

set_option maxRecDepth 100000 in
theorem uses_clos (n : Nd) (i : Int) (bi : Nat) (w : World) (hc : w.cell? ⟨bi, 0, none⟩ = some (.int .i64 i)) (hbi : bi < w.heap.size) : Calls Try.prog 114 #[.agg #[.int .i64 n.v, .int .i64 n.lo, .int .i64 n.hi], .pointer (some ⟨bi, 0, none⟩)] w fun e w' => e = .returned (.bool (n.v == i)) ∧ Below w.heap.size w w' := by
  have hc' : (w.alloc (.cells #[.int .i64 n.v, .int .i64 n.lo, .int .i64 n.hi] 89)).cell? ⟨bi, 0, none⟩ = some (.int .i64 i) := by rw [World.cell?_alloc_past _ _ _ hbi]; exact hc
  go_enter Try.func114, Try.ntmps114
  go_wp2_with fail
  go_ret
  exact ⟨by simp, (Below.refl w.heap.size w).alloc (Nat.le_refl _) _⟩

set_option maxRecDepth 100000 in
theorem index_any (i : Int) (bi : Nat) (A : Option Addr) (cap : Nat) (ns : List Nd) (w : World) (hA : NAt w A ns) (hn : ns.length ≤ 1048576) (hc : w.cell? ⟨bi, 0, none⟩ = some (.int .i64 i)) (hbi : bi < w.heap.size) :
    Calls Try.prog 142 #[.slice A ns.length cap, .func (.func 114) #[] #[.pointer (some ⟨bi, 0, none⟩)]] w fun e w' => ∃ r : Int, e = .returned (.int .i64 r) ∧ (0 ≤ r ↔ UsesP ns i) ∧ Below w.heap.size w w' := by
  have HA := Lib.hid hA
  have HCI := Lib.hid hc
  clear hA hc
  have he' : ∀ (args : Array Value) (w : World), (callFunc 114 args).run Try.prog w = .ok (.enter 114 args) w := enters_of Try.func114 (by kernel_rfl) rfl
  go_enter Try.func142, Try.ntmps142
  go_wp2_with fail
  go_loopw [8] (fun j wr => ∃ k : Nat, k ≤ ns.length ∧ Hid (∀ t n, t < k → ns[t]? = some n → n.v ≠ i) ∧ Below w.heap.size w wr ∧ j = .int .i64 k) (fun j _ => ns.length - (intOf j).toNat)
  case atStart => exact ⟨0, Nat.zero_le _, fun t n ht => absurd ht (Nat.not_lt_zero _), Below.refl _ _, rfl⟩
  case round =>
    obtain ⟨k, hk, hno, hbw, rfl⟩ := hrel
    by_cases hlt : k < ns.length
    case neg =>
      obtain rfl : k = ns.length := by omega
      have hn' : Hid (¬ UsesP ns i) := fun ⟨n, hn, he⟩ => by
        obtain ⟨t, ht, hte⟩ := List.getElem_of_mem hn
        exact hno.out t n ht (by rw [List.getElem?_eq_getElem ht, hte]) he
      go_wp2_with fail
      go_ret
      exact ⟨-1, rfl, ⟨fun h => absurd h (by omega), fun h => (hn'.out h).elim⟩, hbw⟩
    obtain ⟨b, off, rfl, c1, c2, c3⟩ := HA.out.get hbw hlt
    have hget : ns[k]? = some ns[k] := List.getElem?_eq_getElem hlt
    generalize ns[k] = n at c1 c2 c3 hget
    have Hget := Lib.hid hget
    clear hget
    have e1 : IntKind.i64.wrap ((k : Int) + 1) = (k : Int) + 1 := wrap_eq (by omega) (by omega)
    have hj1 : (k : Int) < (ns.length : Int) := by omega
    by_cases he : n.v = i
    · have d1 : (n.v == i) = true := by simpa using he
      have Hyes : Hid (UsesP ns i) := ⟨n, List.mem_of_getElem? Hget.out, he⟩
      clear he
      go_wp2_with (go_at_call 114; refine (uses_clos n i bi _ (by exact (hbw.cell (p := ⟨bi, 0, none⟩) hbi).trans HCI.out) (by have := hbw.size; omega)).mono ?_; rw [d1]; rintro e w1 ⟨rfl, hb1⟩)
      go_ret
      exact ⟨k, rfl, ⟨fun _ => Hyes.out, fun _ => by omega⟩, hbw.trans (hb1.mono hbw.size)⟩
    · have d1 : (n.v == i) = false := by simpa using he
      have HE := Lib.hid he
      clear he
      go_wp2_with (go_at_call 114; refine (uses_clos n i bi _ (by exact (hbw.cell (p := ⟨bi, 0, none⟩) hbi).trans HCI.out) (by have := hbw.size; omega)).mono ?_; rw [d1]; rintro e w1 ⟨rfl, hb1⟩)
      go_roundw
      case rel =>
        refine ⟨k + 1, by omega, fun t m ht hm => ?_, hbw.trans (hb1.mono hbw.size), by go_num⟩
        by_cases e : t = k
        · subst e
          have := Hget.out.symm.trans hm
          injection this with this
          subst this
          exact HE.out
        · exact hno.out t m (by omega) hm
      case measure => simp [intOf]; omega

set_option maxRecDepth 100000 in
theorem contains_any (i : Int) (bi : Nat) (A : Option Addr) (cap : Nat) (ns : List Nd) (w : World) (hA : NAt w A ns) (hn : ns.length ≤ 1048576) (hc : w.cell? ⟨bi, 0, none⟩ = some (.int .i64 i)) (hbi : bi < w.heap.size) :
    Calls Try.prog 113 #[.slice A ns.length cap, .func (.func 114) #[] #[.pointer (some ⟨bi, 0, none⟩)]] w fun e w' => Says (UsesP ns i) e ∧ Below w.heap.size w w' := by
  go_enter Try.func113, Try.ntmps113
  go_wp2_with (go_at_call 142; refine (index_any i bi A cap ns _ hA hn hc hbi).mono ?_; rintro e w1 ⟨r, rfl, hr, hb1⟩)
  go_ret
  exact ⟨.of (by simpa using hr), hb1⟩

set_option maxRecDepth 100000 in
theorem implUses_any (V R i : Int) (A : Option Addr) (cap : Nat) (ns : List Nd) (w : World) (hA : NAt w A ns) (hn : ns.length ≤ 1048576) :
    Calls Try.prog 57 #[.agg #[.int .i64 V, .slice A ns.length cap, .int .i64 R], .int .i64 i] w fun e w' => Says (OkI V ns R ∧ UsesP ns i) e ∧ Below w.heap.size w w' := by
  have HA := Lib.hid hA
  clear hA
  have hmf : ∀ fn first cap w, (Instr.makeFunc fn first cap).run Try.prog w = .ok (.func fn first cap) w := fun _ _ _ _ => rfl
  by_cases hok : OkI V ns R
  case neg =>
    have HOK := Lib.hid hok
    clear hok
    go_enter Try.func57, Try.ntmps57
    go_wp2_with (go_at_call 32; refine (bddOk_any V R A cap ns _ (by exact HA.out.below (((Below.refl w.heap.size w).alloc (Nat.le_refl _) _).alloc (by simp) _)) hn).mono ?_; rintro e w1 ⟨hs, hb1⟩; obtain rfl := hs.f HOK.out; clear hs)
    go_ret
    exact ⟨.no fun h => HOK.out h.1, (((Below.refl w.heap.size w).alloc (Nat.le_refl _) _).alloc (by simp) _).trans (hb1.mono (by simp; omega))⟩
  have HOK := Lib.hid hok
  clear hok
  go_enter Try.func57, Try.ntmps57
  go_wp2_with (first
    | (go_at_call 32; refine (bddOk_any V R A cap ns _ (by exact HA.out.below (((Below.refl w.heap.size w).alloc (Nat.le_refl _) _).alloc (by simp) _)) hn).mono ?_; rintro e w1 ⟨hs, hb1⟩; obtain rfl := hs.t HOK.out; have BX := Lib.hid (((Blk.new w 28 #[.int .i64 V, .slice A ns.length cap, .int .i64 R]).alloc _).below hb1 (by simp; omega)); have BI := Lib.hid ((Blk.new_at (w.alloc (.cells #[.int .i64 V, .slice A ns.length cap, .int .i64 R] 28)) 3 #[.int .i64 i] (g := w.heap.size + 1) (by simp)).below hb1 (by simp)); have x1 := BX.out.cell 1; simp only [List.getElem?_toArray, List.getElem?_cons_zero, List.getElem?_cons_succ] at x1; have hbw1 : Below w.heap.size w w1 := (((Below.refl w.heap.size w).alloc (Nat.le_refl _) _).alloc (by simp) _).trans (hb1.mono (by simp; omega)); clear hs)
    | (go_at_call 113; refine (contains_any i (w.heap.size + 1) A cap ns _ (by exact HA.out.below hbw1) hn (by exact BI.out.cell 0) (by exact BI.out.lt)).mono ?_; rintro e w2 ⟨hs, hb2⟩; obtain ⟨bb, rfl, hbb⟩ := hs.is; have HBB := Lib.hid hbb.out; clear hbb hs))
  go_ret
  exact ⟨.of ⟨fun h => ⟨HOK.out, HBB.out.1 (by simpa using h)⟩, fun h => by simpa using HBB.out.2 h.2⟩, hbw1.trans (hb2.mono hbw1.size)⟩

end Go.Proofs.Ytffefegjnbfobaa
