/- BddFrom of the program, walked. -/
import Derived.Test.YtffefegjnbfobaaFr
namespace Go.Proofs.Ytffefegjnbfobaa
open Go.RowKit
open B

theorem tab0 (l : List Int) (N : Nat) : madeCells #[.int .u8 0] N = rowF (fun c => u8b (memF (l.take 0) c)) N := by
  rw [made_rowF]; exact rowF_congr fun i _ => by simp [memF, u8b, b2i]

set_option maxRecDepth 100000 in
set_option maxHeartbeats 800000 in
theorem implFrom_any (V : Int) (A : Option Addr) (cap : Nat) (l : List Int) (w : World) (hA : IAt w A l) (hn : l.length ≤ 1048576) :
    Calls Try.prog 13 #[.int .i64 V, .slice A l.length cap] w fun e w' => Mkd (FromP V l) V (mk V.toNat 0 (memF l) []) w.heap.size w' e ∧ Below w.heap.size w w' := by
  have HA := Lib.hid hA
  clear hA
  have HB0 : Hid (Below w.heap.size w (w.alloc (.cells zB 28))) := (Below.refl _ _).alloc (Nat.le_refl _) _
  by_cases hV : 0 ≤ V ∧ V ≤ 13
  case neg =>
    have hd : decide (0 ≤ V ∧ V ≤ 13) = false := by simpa using hV
    have HV := Lib.hid hV
    clear hV
    go_enter Try.func13, Try.ntmps13
    go_wp2_with (go_at_call 62; refine (isVars_is _ false hd _).mono ?_; rintro e w' ⟨rfl, rfl⟩)
    exact bodyPost_ret (v := .tuple #[.agg zB, .bool false]) (by simp [results, Try.results13, go_sem]) rfl ⟨Mkd.none (fun h => HV.out ⟨h.1, h.2.1⟩), HB0.out⟩
  have hd : decide (0 ≤ V ∧ V ≤ 13) = true := by simpa using hV
  have HV := Lib.hid hV
  obtain ⟨K, rfl⟩ := Int.eq_ofNat_of_zero_le hV.1
  have hK : K ≤ 13 := by omega
  clear hV
  by_cases hl : 256 < l.length
  case pos =>
    have HL := Lib.hid hl
    go_enter Try.func13, Try.ntmps13
    go_wp2_with (go_at_call 62; refine (isVars_is _ true hd _).mono ?_; rintro e w' ⟨rfl, rfl⟩)
    exact bodyPost_ret (v := .tuple #[.agg zB, .bool false]) (by simp [results, Try.results13, go_sem]) rfl ⟨Mkd.none (fun h => by have h1 := h.2.2.1; have h2 := HL.out; omega), HB0.out⟩
  by_cases hb : ∀ x, x ∈ l → 0 ≤ x ∧ x ≤ 2 ^ K - 1
  case neg =>
    have HN := Lib.hid hb
    clear hb
    go_enter Try.func13, Try.ntmps13
    go_wp2_with (first
      | (go_at_call 62; refine (isVars_is _ true hd _).mono ?_; rintro e w' ⟨rfl, rfl⟩)
      | (go_at_call 63; (with_reducible refine (below_any A cap K l _ (by exact HA.out.below HB0.out) hn hK).mono ?_); rintro e w' ⟨hs, rfl⟩; obtain rfl := hs.f HN.out; clear hs))
    exact bodyPost_ret (v := .tuple #[.agg zB, .bool false]) (by simp [results, Try.results13, go_sem]) rfl ⟨Mkd.none (fun h => HN.out h.2.2.2), HB0.out⟩
  have HALL := Lib.hid hb
  clear hb
  have HP : Hid (FromP (K : Int) l) := ⟨HV.out.1, HV.out.2, by omega, HALL.out⟩
  obtain ⟨N, hN⟩ : ∃ N, N = 2 ^ K := ⟨_, rfl⟩
  have hN' : N ≤ 8192 := by rw [hN]; exact Nat.pow_le_pow_right (n := 2) (j := 13) (by omega) hK
  have hNI : ((2 : Int) ^ K) = (N : Int) := by rw [hN]; simp
  have e1 : wrap64 (2 ^ K) = (N : Int) := by rw [hNI]; unfold wrap64; omega
  have HAN : Hid (∀ x, x ∈ l → 0 ≤ x ∧ x < (N : Int)) := fun x hx => by have := HALL.out x hx; rw [hNI] at this; omega
  have HNK := Lib.hid hN
  have hmk := fun W => mk_table N (by omega) W
  clear hN hNI
  go_enter Try.func13, Try.ntmps13
  go_wp2_with (first
    | (go_at_call 62; refine (isVars_is _ true hd _).mono ?_; rintro e w' ⟨rfl, rfl⟩)
    | (go_at_call 63; (with_reducible refine (below_any A cap K l _ (by exact HA.out.below HB0.out) hn hK).mono ?_); rintro e w' ⟨hs, rfl⟩; obtain rfl := hs.t HALL.out; clear hs))
  clear e1 hmk
  go_loopw [29] (fun i wr => ∃ k : Nat, k ≤ l.length ∧ Hid (Below w.heap.size w wr) ∧ Hid (Blk wr w.heap.size 28 zB) ∧ Hid (Blk wr (w.heap.size + 1) 5 (rowF (fun c => u8b (memF (l.take k) c)) N)) ∧ i = .int .i64 k) (fun i _ => l.length - (intOf i).toNat)
  case atStart => exact ⟨0, Nat.zero_le _, HB0.out.alloc (by simp) _, (Blk.new w _ _).alloc _, by show Blk _ _ _ _; rw [← tab0 l N]; exact Blk.new_at _ _ _ (by simp), rfl⟩
  case round =>
    obtain ⟨k, hk, HBr, RB_r, HT, rfl⟩ := hrel
    by_cases hlt : k < l.length
    case neg =>
      obtain rfl : k = l.length := by omega
      have HTT : Hid (Blk wr (w.heap.size + 1) 5 (rowF (fun c => u8b (memF l c)) N)) := by have h := HT.out; rw [List.take_length] at h; exact h
      go_wp2_with (go_at_call 64; (with_reducible refine (diagram_any K N (w.heap.size + 1) (memF l) HNK.out hK _ (by exact HTT.out)).mono ?_); rintro e w2 hd2; have HW2 : Hid (Below w.heap.size w w2) := HBr.out.trans (hd2.1.mono HBr.out.size); have B2 := Lib.hid (RB_r.out.below hd2.1 RB_r.out.lt); obtain ⟨V', R', ms, bb, A', c', hmv, rfl, ho, hml⟩ := (hd2.mkd HP.out).is; obtain ⟨x0, x1, x2⟩ := B2.out.three; have y0 := B2.out.frozen 0; have y1 := B2.out.frozen 1; have y2 := B2.out.frozen 2; clear hd2)
      obtain ⟨u0, u1, u2⟩ := (B2.out.put3 (.int .i64 V') (.slice A' ms.length c') (.int .i64 R')).three
      refine bodyPost_ret (v := .tuple #[.agg #[.int .i64 V', .slice A' ms.length c', .int .i64 R'], .bool bb]) (by simp [results, Try.results13, go_sem, u0, u1, u2]) rfl ⟨⟨V', R', ms, bb, A', c', hmv.out, rfl, own_put3 (own_mono ho.out HBr.out.size) (own_ne_blk ho.out B2.out (by decide)) _ _ _⟩, below_put3 HW2.out (Nat.le_refl _) _ _ _⟩
    obtain ⟨g, rfl, hg, hc⟩ := (HA.out.below HBr.out) (by omega)
    have c1 := hc k hlt
    have hxr := HAN.out _ (List.getElem_mem hlt)
    have HPUT := Lib.hid (fun (c : Nat) (h : l[k] = (c : Int)) => memF_put (N := N) hlt h u8b)
    clear hc
    generalize l[k] = x at c1 hxr HPUT
    obtain ⟨c, rfl⟩ := Int.eq_ofNat_of_zero_le hxr.1
    have hcN : c < N := by omega
    have tc := (HT.out.cell c).trans (rowF_get _ N c hcN)
    have tf := HT.out.frozen c
    have hj0 : (0 : Int) ≤ k := by omega
    have hj1 : (k : Int) < (l.length : Int) := by omega
    clear hxr
    go_wp2_with fail
    go_roundw
    case rel =>
      refine ⟨k + 1, by omega, HBr.out.setCell (p := ⟨w.heap.size + 1, c, none⟩) (Nat.le_succ _) _, RB_r.out.far (p := ⟨w.heap.size + 1, c, none⟩) (by show _ ≠ w.heap.size + 1; omega) _, ?_, by go_num⟩
      have h := HT.out.set_ c (u8b true)
      rw [HPUT.out c rfl] at h
      exact h
    case measure => simp [intOf]; omega
end Go.Proofs.Ytffefegjnbfobaa
