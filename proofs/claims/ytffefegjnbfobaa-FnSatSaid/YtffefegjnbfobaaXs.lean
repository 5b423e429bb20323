/- CnfSet of the program, walked. -/
import Derived.Test.YtffefegjnbfobaaXc
namespace Go.Proofs.Ytffefegjnbfobaa
open Go.RowKit
open B

set_option maxRecDepth 100000 in
theorem cnfSet1_any (g B : Nat) (V : Int) (A : Option Addr) (cap c : Nat) (us : List Value) (L : List (List Int)) (W : World) (hb : Blk W g 41 #[.int .i64 V, .slice A L.length cap]) (hA : IntSS W B (.slice A L.length cap) us L) (hf : Few13 L) (hx : LitsN L) (hc : c < 16384) :
    Calls Try.prog 75 #[.int .i64 (c : Int), .pointer (some ⟨g, 0, none⟩)] W fun e W' => e = .returned (.bool (holdF L c)) ∧ Below W.heap.size W W' := by
  obtain ⟨y0, y1⟩ := hb.two
  have HA := Lib.hid hA
  have HF := Lib.hid hf
  have HX := Lib.hid hx
  clear hb hA hf hx
  go_enter Try.func75, Try.ntmps75
  go_wp2_with (go_at_call 76; refine (clausesHold_any B A cap us L c _ HA.out HF.out HX.out hc).mono ?_; rintro e w1 ⟨rfl, hb1⟩)
  go_ret
  exact ⟨rfl, hb1⟩

set_option maxRecDepth 100000 in
set_option maxHeartbeats 400000 in
theorem implCnfSet_any (B : Nat) (V : Int) (A : Option Addr) (cap : Nat) (us : List Value) (L : List (List Int)) (w : World) (hA : IntSS w B (.slice A L.length cap) us L) (hn : L.length ≤ 1048576) (hs : ∀ l ∈ L, l.length ≤ 1048576) :
    Calls Try.prog 22 #[.agg #[.int .i64 V, .slice A L.length cap]] w fun e w' => Mkd (okC V L = true) V (mk V.toNat 0 (holdF L) []) w.heap.size w' e ∧ Below w.heap.size w w' := by
  have HA := Lib.hid hA
  have HSh := Lib.hid hs
  clear hA hs
  have HB1 : Hid (Below w.heap.size w ((w.alloc (.cells #[.int .i64 V, .slice A L.length cap] 41)).alloc (.cells zB 28))) := ((Below.refl _ _).alloc (Nat.le_refl _) _).alloc (by simp) _
  have CB_1 : Hid (Blk ((w.alloc (.cells #[.int .i64 V, .slice A L.length cap] 41)).alloc (.cells zB 28)) w.heap.size 41 #[.int .i64 V, .slice A L.length cap]) := (Blk.new w _ _).alloc _
  have RB_1 : Hid (Blk ((w.alloc (.cells #[.int .i64 V, .slice A L.length cap] 41)).alloc (.cells zB 28)) (w.heap.size + 1) 28 zB) := Blk.new_at _ _ _ (by simp)
  have HA1 : Hid (IntSS ((w.alloc (.cells #[.int .i64 V, .slice A L.length cap] 41)).alloc (.cells zB 28)) B (.slice A L.length cap) us L) := (HA.out.alloc _).alloc _
  have hmf : ∀ (fn : Fn) (first cap : Array Value) (w : World), (Instr.makeFunc fn first cap).run Try.prog w = .ok (.func fn first cap) w := fun _ _ _ _ => rfl
  cases hok : okC V L
  · have HO : Hid (okC V L = false) := hok
    clear hok
    go_enter Try.func22, Try.ntmps22
    go_wp2_with (go_at_call 72; refine (implCnfOk_any B V A cap us L _ (by exact HA1.out) hn HSh.out).mono ?_; rw [HO.out]; rintro e w2 ⟨rfl, hb⟩; have HB2 : Hid (Below w.heap.size w w2) := HB1.out.trans (hb.mono HB1.out.size); have RB_2 := Lib.hid (RB_1.out.below hb RB_1.out.lt); obtain ⟨rx0, rx1, rx2⟩ := RB_2.out.three; have rf2_0 := RB_2.out.frozen 0; have rf2_1 := RB_2.out.frozen 1; have rf2_2 := RB_2.out.frozen 2; clear hb)
    obtain ⟨u0, u1, u2⟩ := (RB_2.out.put3 (.int .i64 0) (.slice none 0 0) (.int .i64 0)).three
    exact bodyPost_ret (v := .tuple #[.agg #[.int .i64 0, .slice none 0 0, .int .i64 0], .bool false]) (by simp [results, Try.results22, go_sem, u0, u1, u2]) rfl ⟨Mkd.none (by simp), below_put3 HB2.out (by omega) _ _ _⟩
  · have HO : Hid (okC V L = true) := hok
    have hl := okC_lits hok
    have HF : Hid (Few13 L) := ⟨by omega, fun l hm => by have := (hl.2.2 l hm).1; omega⟩
    have HX : Hid (LitsN L) := fun l hm x hx => by have := (hl.2.2 l hm).2 x hx; exact ⟨this.1, by omega, by omega⟩
    have HV : Hid (1 ≤ V ∧ V ≤ 10) := hl.1
    clear hok hl
    go_enter Try.func22, Try.ntmps22
    go_wp2_with (first
      | (go_at_call 72; refine (implCnfOk_any B V A cap us L _ (by exact HA1.out) hn HSh.out).mono ?_; rw [HO.out]; rintro e w2 ⟨rfl, hb⟩; have HB2 : Hid (Below w.heap.size w w2) := HB1.out.trans (hb.mono HB1.out.size); have RB_2 := Lib.hid (RB_1.out.below hb RB_1.out.lt); have CB_2 := Lib.hid (CB_1.out.below hb CB_1.out.lt); have HA2 := Lib.hid (HA1.out.below hb); obtain ⟨cx0, cx1⟩ := CB_2.out.two; clear hb)
      | (go_at_call 74; (with_reducible refine (told_any V 75 _ _ (holdF L) _ cnfSet1_enters (by exact fun h0 h1 W c hb hc => cap1 (cnfSet1_any w.heap.size B V A cap c us L W (CB_2.out.below hb CB_2.out.lt) (HA2.out.below hb) HF.out HX.out (lt14 hc h1)))).mono ?_); rintro e w3 ⟨hm, hb⟩; obtain ⟨V', R', ms, bb, A', c', hmv, rfl, ho, hml⟩ := hm.is; have HB3 : Hid (Below w.heap.size w w3) := HB2.out.trans (hb.mono HB2.out.size); have RB_3 := Lib.hid (RB_2.out.below hb RB_2.out.lt); obtain ⟨rx0, rx1, rx2⟩ := RB_3.out.three; have rf2_0 := RB_3.out.frozen 0; have rf2_1 := RB_3.out.frozen 1; have rf2_2 := RB_3.out.frozen 2; clear hm hb))
    obtain ⟨u0, u1, u2⟩ := (RB_3.out.put3 (.int .i64 V') (.slice A' ms.length c') (.int .i64 R')).three
    refine bodyPost_ret (v := .tuple #[.agg #[.int .i64 V', .slice A' ms.length c', .int .i64 R'], .bool bb]) (by simp [results, Try.results22, go_sem, u0, u1, u2]) rfl ⟨⟨V', R', ms, bb, A', c', hmv.out.conv ⟨fun _ => by first | trivial | rfl, fun _ => by have := HV.out; omega⟩ (fun _ => rfl), rfl, own_put3 (own_mono ho.out HB2.out.size) (own_ne_blk ho.out RB_3.out (by decide)) _ _ _⟩, below_put3 HB3.out (by omega) _ _ _⟩
end Go.Proofs.Ytffefegjnbfobaa
