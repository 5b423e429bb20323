/- Sets of few bits, by what is in them: each maker of the program hands back the one diagram of its set. -/
import Derived.Test.YtffefegjnbfobaaQA
import Derived.Test.YtffefegjnbfobaaLe
import Derived.Test.YtffefegjnbfobaaY
namespace Go.Proofs.Ytffefegjnbfobaa
open Go.RowKit
open B

/-- The diagram of the numbers for which F holds. -/
def IsSet (K : Nat) (F : Nat → Bool) (R : Int) (ms : List Nd) : Prop := K ≤ 6 ∧ mk K 0 F [] = (R, ms)

section
variable {K : Nat} {F G : Nat → Bool} {R R' : Int} {ms ms' : List Nd}
theorem IsSet.len (h : IsSet K F R ms) : ms.length ≤ 63 := by
  have h1 := mk_len K 0 F []
  rw [h.2] at h1
  have h2 : 2 ^ K ≤ 2 ^ 6 := Nat.pow_le_pow_right (by omega) h.1
  simp at h1
  omega
theorem IsSet.both (h : IsSet K F R ms) : OkI K ms R ∧ ∀ c, c < 2 ^ K → has ms R c = F c := by
  have := mk_ok (k := K) (f := F) (by have := h.1; omega) (by rw [h.2]; have := h.len; show ms.length ≤ 600; omega)
  rw [h.2] at this
  exact this
theorem IsSet.ok (h : IsSet K F R ms) : OkI K ms R := h.both.1
theorem IsSet.has (h : IsSet K F R ms) {c : Nat} (hc : c < 2 ^ K) : has ms R c = F c := h.both.2 c hc
theorem IsSet.same (h : IsSet K F R ms) (h' : IsSet K G R' ms') (e : ∀ c, c < 2 ^ K → F c = G c) : R = R' ∧ ms = ms' := by
  have := h.2
  rw [mk_congr K 0 F G [] e, h'.2] at this
  injection this with h1 h2
  exact ⟨h1.symm, h2.symm⟩
theorem IsSet.conv (h : IsSet K F R ms) (e : ∀ c, c < 2 ^ K → F c = G c) : IsSet K G R ms := ⟨h.1, by rw [← mk_congr K 0 F G [] e]; exact h.2⟩
theorem IsSet.sameB (h : IsSet K F R ms) (h' : IsSet K G R' ms') (e : ∀ c, c < 2 ^ K → F c = G c) : SameB (K : Int) (K : Int) R R' ms ms' := ⟨rfl, h.same h' e⟩
theorem isSet_of (hk : K ≤ 6) (h : OkI K ms R) : IsSet K (B.has ms R) R ms := ⟨hk, h.2⟩

/-- What a maker hands back that makes the set of G. -/
def MkSet (K : Nat) (G : Nat → Bool) (B : Nat) (w' : World) (e : Ending) : Prop :=
  ∃ (R : Int) (ms : List Nd) (A : Option Addr) (c : Nat), e = .returned (.tuple #[.agg #[.int .i64 (K : Int), .slice A ms.length c, .int .i64 R], .bool true]) ∧ Hid (w'.ownsRow B 89 3 (.slice A ms.length c) ms.length (ncells ms)) ∧ Hid (IsSet K G R ms) ∧ ms.length ≤ 63
theorem Mkd.set {p : Prop} {B : Nat} {w' : World} {e : Ending} (hk : K ≤ 6) (h : Mkd p (K : Int) (mk (K : Int).toNat 0 F []) B w' e) (hp : p) (he : ∀ c, c < 2 ^ K → F c = G c) : MkSet K G B w' e := by
  obtain ⟨V', R', ms, b, A, c, hv, rfl, ho⟩ := h
  have hs : IsSet K F (mk K 0 F []).1 (mk K 0 F []).2 := ⟨hk, rfl⟩
  have hl := hs.len
  rcases hv with ⟨_, _, rfl, rfl, rfl, rfl⟩ | ⟨hn, _⟩
  · exact ⟨_, _, A, c, rfl, ho, hs.conv he, hl⟩
  · exact (hn ⟨hp, by show (mk K 0 F []).2.length ≤ 600; omega⟩).elim

variable (A A' : Option Addr) (cap cap' : Nat) (w : World)
theorem not_set (h : IsSet K F R ms) (hA : NAt w A ms) :
    Calls Try.prog 28 #[.agg (dB K R A ms.length cap)] w fun e w' => MkSet K (fun c => !F c) w.heap.size w' e ∧ Below w.heap.size w w' :=
  (implNot_any K R A cap ms w hA (by have := h.len; omega)).mono fun _ _ hm => ⟨hm.1.set h.1 h.ok fun c hc => by rw [h.has hc], hm.2⟩
theorem and_set (h : IsSet K F R ms) (h' : IsSet K G R' ms') (hA : NAt w A ms) (hA' : NAt w A' ms') :
    Calls Try.prog 29 #[.agg (dB K R A ms.length cap), .agg (dB K R' A' ms'.length cap')] w fun e w' => MkSet K (fun c => F c && G c) w.heap.size w' e ∧ Below w.heap.size w w' :=
  (implAnd_any K R A cap ms K R' A' cap' ms' w hA (by have := h.len; omega) hA' (by have := h'.len; omega)).mono fun _ _ hm => ⟨hm.1.set h.1 ⟨h.ok, h'.ok, rfl⟩ fun c hc => by rw [h.has hc, h'.has hc], hm.2⟩
theorem or_set (h : IsSet K F R ms) (h' : IsSet K G R' ms') (hA : NAt w A ms) (hA' : NAt w A' ms') :
    Calls Try.prog 30 #[.agg (dB K R A ms.length cap), .agg (dB K R' A' ms'.length cap')] w fun e w' => MkSet K (fun c => F c || G c) w.heap.size w' e ∧ Below w.heap.size w w' :=
  (implOr_any K R A cap ms K R' A' cap' ms' w hA (by have := h.len; omega) hA' (by have := h'.len; omega)).mono fun _ _ hm => ⟨hm.1.set h.1 ⟨h.ok, h'.ok, rfl⟩ fun c hc => by rw [h.has hc, h'.has hc], hm.2⟩
theorem xor_set (h : IsSet K F R ms) (h' : IsSet K G R' ms') (hA : NAt w A ms) (hA' : NAt w A' ms') :
    Calls Try.prog 31 #[.agg (dB K R A ms.length cap), .agg (dB K R' A' ms'.length cap')] w fun e w' => MkSet K (fun c => F c != G c) w.heap.size w' e ∧ Below w.heap.size w w' :=
  (implXor_any K R A cap ms K R' A' cap' ms' w hA (by have := h.len; omega) hA' (by have := h'.len; omega)).mono fun _ _ hm => ⟨hm.1.set h.1 ⟨h.ok, h'.ok, rfl⟩ fun c hc => by rw [h.has hc, h'.has hc], hm.2⟩
theorem sand_set (h : IsSet K F R ms) (h' : IsSet K G R' ms') (hA : NAt w A ms) (hA' : NAt w A' ms') :
    Calls Try.prog 35 #[.agg (dB K R A ms.length cap), .agg (dB K R' A' ms'.length cap')] w fun e w' => MkSet K (fun c => F c && G c) w.heap.size w' e ∧ Below w.heap.size w w' :=
  (specAnd_any K R A cap ms K R' A' cap' ms' w hA (by have := h.len; omega) hA' (by have := h'.len; omega)).mono fun _ _ hm => ⟨hm.1.set h.1 ⟨(okS_iff _ _ _).2 h.ok, (okS_iff _ _ _).2 h'.ok, rfl⟩ fun c hc => by rw [h.has hc, h'.has hc], hm.2⟩
theorem if_set {H : Nat → Bool} {R'' : Int} {ms'' : List Nd} (A'' : Option Addr) (cap'' : Nat) (h : IsSet K F R ms) (h' : IsSet K G R' ms') (h'' : IsSet K H R'' ms'') (hA : NAt w A ms) (hA' : NAt w A' ms') (hA'' : NAt w A'' ms'') :
    Calls Try.prog 33 #[.agg (dB K R A ms.length cap), .agg (dB K R' A' ms'.length cap'), .agg (dB K R'' A'' ms''.length cap'')] w fun e w' => MkSet K (fun c => (F c && G c) || (!F c && H c)) w.heap.size w' e ∧ Below w.heap.size w w' :=
  (implIf_any K R A cap ms K R' A' cap' ms' K R'' A'' cap'' ms'' w hA (by have := h.len; omega) hA' (by have := h'.len; omega) hA'' (by have := h''.len; omega)).mono fun _ _ hm => ⟨hm.1.set h.1 ⟨h.ok, h'.ok, h''.ok, rfl, rfl⟩ fun c hc => by unfold ifF; rw [h.has hc, h'.has hc, h''.has hc], hm.2⟩
end

theorem count_in (f g : Nat → Bool) (n : Nat) : (codesF (fun c => f c && g c) n).length + (codesF (fun c => f c || g c) n).length = (codesF f n).length + (codesF g n).length := by
  unfold codesF
  simp only [List.length_map]
  induction n with
  | zero => simp
  | succ n ih =>
    simp only [List.range_succ, List.filter_append, List.length_append]
    cases hf : f n <;> cases hg : g n <;> simp [hf, hg] <;> omega
theorem codesF_eq {h h' : Nat → Bool} {n : Nat} (e : ∀ c, c < n → h c = h' c) : codesF h n = codesF h' n := by
  unfold codesF
  congr 1
  exact List.filter_congr fun c hc => e c (by simpa using hc)
theorem IsSet.count {K : Nat} {F : Nat → Bool} {R : Int} {ms : List Nd} (h : IsSet K F R ms) : (codesF (B.has ms R) (2 ^ K)).length = (codesF F (2 ^ K)).length := by
  rw [codesF_eq fun c hc => h.has hc]
end Go.Proofs.Ytffefegjnbfobaa
