/- The reader of draws: sound, diagram, walked. -/
import Derived.Test.YtffefegjnbfobaaH3
import Derived.Laws.OwnMore
namespace Go.Proofs.Ytffefegjnbfobaa
open Go.RowKit
open B

theorem ncells_put : ∀ (ms : List Nd) (j : Nat) (v : Int), ∃ ms' : List Nd, ms'.length = ms.length ∧ (ncells ms).set j (.int .i64 v) = ncells ms' := by
  intro ms
  induction ms with
  | nil => intro j v; exact ⟨[], rfl, by simp [ncells]⟩
  | cons n ms ih =>
    intro j v
    match j with
    | 0 => exact ⟨⟨v, n.lo, n.hi⟩ :: ms, rfl, by simp [ncells]⟩
    | 1 => exact ⟨⟨n.v, v, n.hi⟩ :: ms, rfl, by simp [ncells]⟩
    | 2 => exact ⟨⟨n.v, n.lo, v⟩ :: ms, rfl, by simp [ncells]⟩
    | j + 3 =>
      obtain ⟨ms', hl, h⟩ := ih j v
      exact ⟨n :: ms', by simp [hl], by simp only [ncells, List.flatMap_cons, List.cons_append, List.nil_append, List.set_cons_succ] at h ⊢; rw [h]⟩
theorem own_putcell {w : World} {B q c : Nat} {ms : List Nd} (h : w.ownsRow B 89 3 (.slice (some ⟨q, 0, none⟩) ms.length c) ms.length (ncells ms)) (j : Nat) (v : Int) :
    ∃ ms' : List Nd, ms'.length = ms.length ∧ (w.setCell ⟨q, j, none⟩ (.int .i64 v)).ownsRow B 89 3 (.slice (some ⟨q, 0, none⟩) ms'.length c) ms'.length (ncells ms') := by
  obtain ⟨ms', hl, hs⟩ := ncells_put ms j v
  refine ⟨ms', hl, ?_⟩
  rw [hl, ← hs]
  exact (h.stored j _).1
theorem own_pick {w w' : World} {B g : Nat} {e : TypeId} {size n : Nat} {v : Value} {xs : List Value} (h : w.ownsRow B e size v n xs) (hg : w.grownBy w' (some g)) (hB : g < B) : w'.ownsRow B e size v n xs :=
  h.kept hg (by
    cases hv : v.ownBlock with
    | none => exact .inl rfl
    | some b => exact .inr (by intro e; injection e with e; have := (h.lt b hv).1; omega))

/-- A diagram that was drawn: any. -/
def AnyD (v : Int) (N B : Nat) (w' : World) (e : Ending) : Prop :=
  ∃ (V R : Int) (ms : List Nd) (A : Option Addr) (c : Nat), e = .returned (.agg #[.int .i64 V, .slice A ms.length c, .int .i64 R]) ∧ -1 ≤ V ∧ V ≤ v ∧ ms.length ≤ N ∧ w'.ownsRow B 89 3 (.slice A ms.length c) ms.length (ncells ms)

set_option maxRecDepth 100000 in
set_option maxHeartbeats 400000 in
theorem sound_any (g p : Nat) (V : Int) (w : World) (hR : Rd w g p) (hp : p ≤ 1099511600000) (hV0 : -1 ≤ V) (hV1 : V ≤ 15) :
    Calls Try.prog 132 #[.pointer (some ⟨g, 0, none⟩), .int .i64 V] w fun e w' => AnyD 15 600 w.heap.size w' e ∧ (∃ q, q ≤ p + 10000 ∧ Rd w' g q) ∧ w.grownBy w' (some g) := by
  have HR := Lib.hid hR
  have hgl := hR.lt
  clear hR
  have RB_0 := Lib.hid (Blk.new w 28 zB)
  by_cases hV : 0 ≤ V ∧ V ≤ 13
  · have hd : decide (0 ≤ V ∧ V ≤ 13) = true := by simpa using hV
    obtain ⟨k, rfl⟩ := Int.eq_ofNat_of_zero_le hV.1
    have hk : k ≤ 13 := by omega
    clear hV
    go_enter Try.func132, Try.ntmps132
    go_wp2_with (first
      | (go_at_call 65; refine (l7Vars_is _ true hd _).mono ?_; rintro e w' ⟨rfl, rfl⟩)
      | (go_at_call 80; (with_reducible refine (set_any g p k _ (by exact HR.out.alloc _) hp hk).mono ?_); rintro e w1 ⟨⟨R, ms, A, c, rfl, ho0, hl, ho⟩, ⟨q, hq, hRq⟩, hG⟩; have OK := Lib.hid ho0; have HO := Lib.hid (own_mono ho (show w.heap.size ≤ _ by simp)); have HRq := Lib.hid hRq; have HG := Lib.hid (gtrans (World.grownBy_alloc w (.cells zB 28) (some g)) hG); have RB_1 := Lib.hid (RB_0.out.grown hG (by simp; omega)); obtain ⟨rx0, rx1, rx2⟩ := RB_1.out.three; have rz0 := RB_1.out.frozen 0; have rz1 := RB_1.out.frozen 1; have rz2 := RB_1.out.frozen 2; clear ho0 ho hRq hG))
    obtain ⟨u0, u1, u2⟩ := (RB_1.out.put3 (.int .i64 k) (.slice A ms.length c) (.int .i64 R)).three
    refine bodyPost_ret (v := .agg #[.int .i64 k, .slice A ms.length c, .int .i64 R]) (by simp [results, Try.results132, go_sem, u0, u1, u2]) rfl ⟨⟨k, R, ms, A, c, rfl, by omega, by omega, by omega, own_put3 HO.out (own_ne_blk HO.out RB_1.out (by decide)) _ _ _⟩, ⟨q, hq, ?_⟩, ?_⟩
    · exact ((HRq.out.set ⟨w.heap.size, 0, none⟩ _ hgl).set ⟨w.heap.size, 1, none⟩ _ hgl).set ⟨w.heap.size, 2, none⟩ _ hgl
    · exact gput (gput (gput HG.out ⟨w.heap.size, 0, none⟩ _ (Nat.le_refl _)) ⟨w.heap.size, 1, none⟩ _ (Nat.le_refl _)) ⟨w.heap.size, 2, none⟩ _ (Nat.le_refl _)
  · have hd : decide (0 ≤ V ∧ V ≤ 13) = false := by simpa using hV
    clear hV
    go_enter Try.func132, Try.ntmps132
    go_wp2_with (go_at_call 65; refine (l7Vars_is _ false hd _).mono ?_; rintro e w' ⟨rfl, rfl⟩)
    exact bodyPost_ret (v := .agg #[.int .i64 V, .slice none 0 0, .int .i64 0]) (by simp [results, Try.results132, go_sem]) rfl ⟨⟨V, 0, [], none, 0, rfl, by omega, by omega, by simp, World.ownsRow_nil _ _ _ _⟩, ⟨p, by omega, HR.out.alloc _⟩, World.grownBy_alloc _ _ _⟩
end Go.Proofs.Ytffefegjnbfobaa
