/- BddGrow, walked, both sides. -/
import Derived.Test.YtffefegjnbfobaaT
namespace Go.Proofs.Ytffefegjnbfobaa
open Go.RowKit
open B

/-- The cells of an empty diagram. -/
abbrev zB : Array Value := #[.int .i64 0, .slice none 0 0, .int .i64 0]
abbrev dB (V R : Int) (A : Option Addr) (n cap : Nat) : Array Value := #[.int .i64 V, .slice A n cap, .int .i64 R]

theorem OkI.nat {V R : Int} {ns : List Nd} (h : OkI V ns R) : ∃ k : Nat, V = k ∧ k ≤ 13 ∧ Fm k ns ∧ isP ns R := by
  obtain ⟨k, rfl⟩ := Int.eq_ofNat_of_zero_le h.1.v0
  exact ⟨k, rfl, by have := h.1.v1; omega, by have := h.1.fm; simpa using this, h.1.root⟩
theorem OkS.nat {V R : Int} {ns : List Nd} (h : OkS V ns R) : ∃ k : Nat, V = k ∧ k ≤ 13 ∧ Fm k ns ∧ isP ns R := by
  obtain ⟨k, rfl⟩ := Int.eq_ofNat_of_zero_le h.1.v0
  exact ⟨k, rfl, by have := h.1.v1; omega, by have := h.1.fm; simpa using this, h.1.root⟩

set_option maxRecDepth 100000 in
set_option maxHeartbeats 400000 in
theorem implGrow_any (V R : Int) (A : Option Addr) (cap : Nat) (ns : List Nd) (v : Int) (w : World) (hA : NAt w A ns) (hn : ns.length ≤ 1048576) :
    Calls Try.prog 37 #[.agg (dB V R A ns.length cap), .int .i64 v] w fun e w' => Mkd (OkI V ns R ∧ V ≤ v ∧ v ≤ 13) v (mk v.toNat 0 (has ns R) []) w.heap.size w' e ∧ Below w.heap.size w w' := by
  have HA := Lib.hid hA
  clear hA
  have HB0 : Hid (Below w.heap.size w ((w.alloc (.cells (dB V R A ns.length cap) 28)).alloc (.cells zB 28))) := ((Below.refl _ _).alloc (Nat.le_refl _) _).alloc (by simp) _
  have HX0 : Hid (Blk ((w.alloc (.cells (dB V R A ns.length cap) 28)).alloc (.cells zB 28)) w.heap.size 28 (dB V R A ns.length cap)) := (Blk.new w _ _).alloc _
  have HR0 : Hid (Blk ((w.alloc (.cells (dB V R A ns.length cap) 28)).alloc (.cells zB 28)) (w.heap.size + 1) 28 zB) := Blk.new_at _ _ _ (by simp)
  by_cases hok : OkI V ns R
  case neg =>
    have HOK := Lib.hid hok
    clear hok
    go_enter Try.func37, Try.ntmps37
    go_wp2_with (go_at_call 32; refine (bddOk_any V R A cap ns _ (by exact HA.out.below HB0.out) hn).mono ?_; rintro e w1 ⟨hs, hb1⟩; obtain rfl := hs.f HOK.out; clear hs; have R1 := Lib.hid (HR0.out.below hb1 HR0.out.lt); obtain ⟨x0, x1, x2⟩ := R1.out.three; have y0 := R1.out.frozen 0; have y1 := R1.out.frozen 1; have y2 := R1.out.frozen 2; have HB1 : Hid (Below w.heap.size w w1) := HB0.out.trans (hb1.mono HB0.out.size))
    obtain ⟨u0, u1, u2⟩ := (R1.out.put3 (.int .i64 0) (.slice none 0 0) (.int .i64 0)).three
    refine bodyPost_ret (v := .tuple #[.agg zB, .bool false]) (by simp [results, Try.results37, go_sem, u0, u1, u2]) rfl ⟨Mkd.none (fun h => HOK.out h.1), below_put3 HB1.out (by omega) _ _ _⟩
  have HOK := Lib.hid hok
  by_cases hv : v < V
  case pos =>
    have HV := Lib.hid hv
    go_enter Try.func37, Try.ntmps37
    go_wp2_with (go_at_call 32; refine (bddOk_any V R A cap ns _ (by exact HA.out.below HB0.out) hn).mono ?_; rintro e w1 ⟨hs, hb1⟩; obtain rfl := hs.t HOK.out; clear hs; have R1 := Lib.hid (HR0.out.below hb1 HR0.out.lt); obtain ⟨x0, x1, x2⟩ := R1.out.three; have X1 := Lib.hid (HX0.out.below hb1 HX0.out.lt); obtain ⟨z0, z1, z2⟩ := X1.out.three; have y0 := R1.out.frozen 0; have y1 := R1.out.frozen 1; have y2 := R1.out.frozen 2; have HB1 : Hid (Below w.heap.size w w1) := HB0.out.trans (hb1.mono HB0.out.size))
    obtain ⟨u0, u1, u2⟩ := (R1.out.put3 (.int .i64 0) (.slice none 0 0) (.int .i64 0)).three
    refine bodyPost_ret (v := .tuple #[.agg zB, .bool false]) (by simp [results, Try.results37, go_sem, u0, u1, u2]) rfl ⟨Mkd.none (fun h => by have := h.2.1; omega), below_put3 HB1.out (by omega) _ _ _⟩
  obtain ⟨k, rfl, hk, hf, hR⟩ := OkI.nat hok
  have HF := Lib.hid hf
  have HR := Lib.hid hR
  have hv' : ¬ v < (k : Int) := hv
  clear hok hf hR hv
  have hmf : ∀ (fn : Fn) (first cap : Array Value) (w : World), (Instr.makeFunc fn first cap).run Try.prog w = .ok (.func fn first cap) w := fun _ _ _ _ => rfl
  go_enter Try.func37, Try.ntmps37
  go_wp2_with (first
    | (go_at_call 32; refine (bddOk_any k R A cap ns _ (by exact HA.out.below HB0.out) hn).mono ?_; rintro e w1 ⟨hs, hb1⟩; obtain rfl := hs.t HOK.out; clear hs; have R1 := Lib.hid (HR0.out.below hb1 HR0.out.lt); have X1 := Lib.hid (HX0.out.below hb1 HX0.out.lt); obtain ⟨z0, z1, z2⟩ := X1.out.three; have HB1 : Hid (Below w.heap.size w w1) := HB0.out.trans (hb1.mono HB0.out.size))
    | (go_at_call 74; refine (told_any v 70 _ _ (has ns R) _ has_enters (by exact fun h0 h1 W c hb hc => has_any k R A cap k ns c W (HA.out.below (HB1.out.trans (hb.mono HB1.out.size))) HF.out hk HR.out (by have : 2 ^ v.toNat ≤ 2 ^ 13 := Nat.pow_le_pow_right (by omega) (by omega); omega) hn)).mono ?_; rintro e w2 ⟨hm, hb2⟩; obtain ⟨V', R', ms, bb, A', c', hmv, rfl, ho, hml⟩ := hm.is; have R2 := Lib.hid (R1.out.below hb2 R1.out.lt); have HB2 : Hid (Below w.heap.size w w2) := HB1.out.trans (hb2.mono HB1.out.size); obtain ⟨x0, x1, x2⟩ := R2.out.three; have y0 := R2.out.frozen 0; have y1 := R2.out.frozen 1; have y2 := R2.out.frozen 2))
  obtain ⟨u0, u1, u2⟩ := (R2.out.put3 (.int .i64 V') (.slice A' ms.length c') (.int .i64 R')).three
  refine bodyPost_ret (v := .tuple #[.agg #[.int .i64 V', .slice A' ms.length c', .int .i64 R'], .bool bb]) (by simp [results, Try.results37, go_sem, u0, u1, u2]) rfl ⟨⟨V', R', ms, bb, A', c', hmv.out.conv ⟨fun h => ⟨HOK.out, by omega, h.2⟩, fun h => ⟨by omega, h.2.2⟩⟩ (fun _ => rfl), rfl, own_put3 (own_mono ho.out HB1.out.size) (own_ne_blk ho.out R2.out (by decide)) _ _ _⟩, below_put3 HB2.out (by omega) _ _ _⟩
end Go.Proofs.Ytffefegjnbfobaa
