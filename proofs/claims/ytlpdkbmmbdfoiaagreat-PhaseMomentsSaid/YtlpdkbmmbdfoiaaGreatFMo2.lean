/-
  PhaseMoments: for every input the law returns true, and the input reads as it did. No condition.
-/
import Derived.Test.YtlpdkbmmbdfoiaaGreatFLf3
set_option linter.unusedVariables false
set_option linter.unusedSimpArgs false
namespace Go.Proofs.YtlpdkbmmbdfoiaaGreat
open Go.ChangeShapes Go.WideShapes Go.ChangeAt Go.RowKit
set_option maxRecDepth 100000 in
theorem zqo (os : Os) (started : os.Started) (H : Type) (enc : TypeId × Value → H) :
 ReturnsInHanded {} Tryz.checked os 6 .any (Rows.phaseMomentsSpec.pre6 enc Tryz.prog Tryz.f6 Rows.phaseMomentsRow.domain false) (Rows.phaseMomentsSpec.post enc Tryz.prog Tryz.f6 false true false false) := by
 refine returnsInHanded_of_change (C := Tryz.checked) Tryz.ownK started (by kernel_rfl) Tryz.func6
  (ChangeSpec.witness6 (enc := enc) (C := Tryz.checked) false ⟨#[], #[.slice none 0 0, .int .u8 0, .int .u8 0, .int .u8 0], []⟩ 8 (by kernel_rfl) (by kernel_rfl) (by kernel_rfl) (by kernel_rfl)) ?_
 intro W base args ds gs before hval0 hW hcnd _
 have hval : ∀ (j : Nat) t v, Tryz.f6.params[j]? = some t → args[j]? = some v → Value.okWide Tryz.prog W .any base t v := hval0
 have hW' := hW
 obtain ⟨p, q, hA0, hV, rfl, hfz, hnd⟩ := hW
 have hA : DataW.TrodAll enc Tryz.prog W 0 (fun _ => true) true Tryz.f6.params.toList args.toList ds p := hA0
 rw [Tryz.params6] at hA hval
 obtain ⟨rfl, rfl⟩ := trodVars_none hV
 simp only [List.append_nil] at hW'
 have hback := fun (W' : World) (hb : Below W.heap.size W W') => zoh (enc := enc) Tryz.laidOut hb (by kernel_rfl) hA hW'.lt
 obtain ⟨v0, vs0, d0, ds0, p0, q0, e0, rfl, _, h0, hA⟩ := trodAll_cons hA
 obtain ⟨v1, vs1, d1, ds1, p1, q1, rfl, rfl, _, h1, hA⟩ := trodAll_cons hA
 obtain ⟨v2, vs2, d2, ds2, p2, q2, rfl, rfl, _, h2, hA⟩ := trodAll_cons hA
 obtain ⟨v3, vs3, d3, ds3, p3, q3, rfl, rfl, _, h3, hA⟩ := trodAll_cons hA
 obtain ⟨rfl, rfl, _⟩ := trodAll_nil hA
 obtain rfl : args = #[v0, v1, v2, v3] := by cases args; simp_all
 obtain ⟨l0, g0⟩ := u8s_came (hval 0 22 v0 rfl rfl) h0
 obtain ⟨x1, rfl, g1⟩ := u8_came (hval 1 5 v1 rfl rfl) h1
 obtain ⟨x2, rfl, g2⟩ := u8_came (hval 2 5 v2 rfl rfl) h2
 obtain ⟨x3, rfl, g3⟩ := u8_came (hval 3 5 v3 rfl rfl) h3
 refine (pmoments_any _ l0 x1 x2 x3 W g0.1 g0.2 g1 g2 g3).mono fun e W' ⟨he, hnx⟩ => ?_
 subst he
 refine ⟨_, rfl, _, _, _, [], p, [], hW', ?_, hback _ hnx, ?_, hnx.frame _, fun h => by cases h⟩
 ·exact trodAll_mk1 (shut_bool Tryz.underlying4 _)
 ·rfl
theorem phaseMoments_holds : Rows.PhaseMomentsSaid :=
 OpenClaim.holds_of_wide 6 Tryz.f6 rfl rfl rfl rfl rfl rfl rfl ⟨rfl, rfl, rfl, rfl, rfl⟩ rfl rfl rfl rfl rfl (by kernel_rfl) Tryz.func6 (by kernel_rfl)
  (of_decide_eq_true (by kernel_rfl)) (by unfold Func.isWrapper; first | (rw [if_pos (by decide +kernel)]; kernel_rfl) | (rw [if_neg (by decide +kernel)]; exact ⟨rfl, rfl⟩))
  (fun os started H enc _ => zqo os started H enc)
end Go.Proofs.YtlpdkbmmbdfoiaaGreat
