/- The given statement FnExactModelFold: at every call of the law, with no condition, the program's ModelFold and the reference's answer alike, both stay within what they may touch, and the law's answer is yes. Part 40 of what the row Row28 rests on: Row28. -/
import Derived.Test.YtmolbnghobfmoaaGreatP36
import Derived.Test.YtmolbnghobfmoaaGreatP39
set_option maxRecDepth 100000
set_option maxHeartbeats 16000000
set_option linter.unusedSimpArgs false
set_option linter.unusedVariables false
namespace Go.Proofs.YtmolbnghobfmoaaGreat.fnExactModelFold
open Go.ChangeShapes Go.WideShapes Go.ChangeAt Go.RowKit
theorem lifted (os : Os) (started : os.Started) (H : Type) (enc : TypeId × Value → H) :
 ReturnsInHanded {} Tryz.checked os 3 .any (Rows.fnExactModelFoldSpec.pre6 enc Tryz.prog Tryz.f3 Rows.fnExactModelFoldRow.domain false) (Rows.fnExactModelFoldSpec.post enc Tryz.prog Tryz.f3 false true false false) := by
 refine returnsInHanded_of_change (C := Tryz.checked) rowOwn started (by kernel_rfl) Tryz.func3
  (ChangeSpec.witness6 (enc := enc) (C := Tryz.checked) false ⟨#[], #[.agg #[.slice none 0 0, .slice none 0 0, .slice none 0 0, .slice none 0 0, .slice none 0 0]], []⟩ 8 (by kernel_rfl) (by kernel_rfl) (by kernel_rfl) (by kernel_rfl)) ?_
 intro W base args ds gs before hval0 hW hcnd _; have hval : ∀ (j : Nat) t v, Tryz.f3.params[j]? = some t → args[j]? = some v → Value.okWide Tryz.prog W .any base t v := hval0
 have hW' := hW; obtain ⟨p, q, hA0, hV, rfl, hfz, hnd⟩ := hW; have hA : DataW.TrodAll enc Tryz.prog W 0 (fun _ => true) true Tryz.f3.params.toList args.toList ds p := hA0
 rw [Tryz.params3] at hA hval; obtain ⟨v0, d0, rfl, rfl, h0⟩ := trodAll_one hA; obtain ⟨rfl, rfl⟩ := trodVars_none hV; clear hA0 hval0; simp only [List.append_nil] at hW'; have hlt := hW'.lt; obtain ⟨A0, A1, A2, A3, A4, c0, c1, c2, c3, c4, m, rfl, hM0⟩ := zJ3 (hval 0 _ v0 rfl rfl) h0; have hlt0 : ∀ x ∈ p, x.block < W.heap.size := fun x hx => hlt x (by simp [hx])
 refine (zDz A0 A1 A2 A3 A4 c0 c1 c2 c3 c4 m W hM0).mono fun e W' ⟨he, hb⟩ => ?_
 subst he
 refine ⟨_, rfl, _, [], _, [], p, [], hW', ?_, ?_, ?_, hb.frame _, fun h => by cases h⟩
 · exact trodAll_mk1 (shut_bool Tryz.underlying4 true)
 · exact trodAll_mk1 (Below.trod rowLaid (by kernel_rfl) (of_decide_eq_true (by kernel_rfl)) h0 hb hlt0)
 · rfl
theorem proved : Rows.FnExactModelFoldSaid :=
 OpenClaim.holds_of_wide 3 Tryz.f3 rfl rfl rfl rfl rfl rfl rfl ⟨rfl, rfl, rfl, rfl, rfl⟩ rfl rfl rfl rfl rfl (by kernel_rfl) Tryz.func3 (by kernel_rfl)
  (of_decide_eq_true (by kernel_rfl)) (by unfold Func.isWrapper; first | (rw [if_pos (by decide +kernel)]; kernel_rfl) | (rw [if_neg (by decide +kernel)]; exact ⟨rfl, rfl⟩))
  (fun os started H enc _ => lifted os started H enc)
end Go.Proofs.YtmolbnghobfmoaaGreat.fnExactModelFold
