/-
  PhaseScales: for every input the law returns true, and the input reads as it did. No condition.
-/
import Derived.Test.YtlpdkbmmbdfoiaaGSc2
import Derived.Test.YtlpdkbmmbdfoiaaGLf3
set_option linter.unusedVariables false
set_option linter.unusedSimpArgs false
namespace Go.Proofs.Ytlpdkbmmbdfoiaa
open Go.ChangeShapes Go.WideShapes Go.ChangeAt Go.RowKit
set_option maxRecDepth 100000 in
theorem zfq (os:Os) (started:os.Started) (H:Type) (enc:TypeId×Value→H):
 ReturnsInHanded {} Try.checked os 3 .any (Rows.phaseScalesSpec.pre6 enc Try.prog Try.f3 Rows.phaseScalesRow.domain false) (Rows.phaseScalesSpec.post enc Try.prog Try.f3 false true false false):=by
 refine returnsInHanded_of_change (C:=Try.checked) Try.ownK started (by kernel_rfl) Try.func3
  (ChangeSpec.witness6 (enc:=enc) (C:=Try.checked) false ⟨#[],#[.slice none 0 0, .int .u8 0],[]⟩ 8 (by kernel_rfl) (by kernel_rfl) (by kernel_rfl) (by kernel_rfl)) ?_
 intro W base args ds gs before hval0 hW hcnd _
 have hval:∀ (j:Nat) t v,Try.f3.params[j]? =some t→args[j]? =some v→Value.okWide Try.prog W .any base t v:=hval0
 have hW':=hW
 obtain⟨p,q,hA0,hV,rfl,hfz,hnd⟩:=hW
 have hA:DataW.TrodAll enc Try.prog W 0 (fun _=>true) true Try.f3.params.toList args.toList ds p:=hA0
 rw[Try.params3]at hA hval
 obtain⟨rfl,rfl⟩:=trodVars_none hV
 simp only[List.append_nil]at hW'
 have hback:=fun(W':World) (hb:Below W.heap.size W W')=>zoh (enc:=enc) Try.laidOut hb (by kernel_rfl) hA hW'.lt
 obtain⟨v0,vs0,d0,ds0,p0,q0,e0,rfl,_,h0,hA⟩:=trodAll_cons hA
 obtain⟨v1,vs1,d1,ds1,p1,q1,rfl,rfl,_,h1,hA⟩:=trodAll_cons hA
 obtain⟨rfl,rfl,_⟩:=trodAll_nil hA
 obtain rfl:args=#[v0,v1]:=by cases args;simp_all
 obtain⟨l0,g0⟩:=u8s_came (hval 0 22 v0 rfl rfl) h0
 obtain⟨x1,rfl,g1⟩:=u8_came (hval 1 5 v1 rfl rfl) h1
 refine(pscales_any _ l0 x1 W g0.1 g0.2 g1).mono fun e W' ⟨he,hnx⟩=> ?_
 subst he
 refine⟨_,rfl,_,_,_,[],p,[],hW',?_,hback _ hnx,?_,hnx.frame _,fun h=>by cases h⟩
 ·exact trodAll_mk1 (shut_bool Try.underlying4 _)
 ·rfl
theorem phaseScales_holds :Rows.PhaseScalesSaid:=
 OpenClaim.holds_of_wide 3 Try.f3 rfl rfl rfl rfl rfl rfl rfl ⟨rfl,rfl,rfl,rfl,rfl⟩ rfl rfl rfl rfl rfl (by kernel_rfl) Try.func3 (by kernel_rfl)
  (of_decide_eq_true (by kernel_rfl)) (by unfold Func.isWrapper;first | (rw[if_pos (by decide+kernel)];kernel_rfl) | (rw[if_neg (by decide+kernel)];exact⟨rfl,rfl⟩))
  (fun os started H enc _=>zfq os started H enc)
end Go.Proofs.Ytlpdkbmmbdfoiaa
