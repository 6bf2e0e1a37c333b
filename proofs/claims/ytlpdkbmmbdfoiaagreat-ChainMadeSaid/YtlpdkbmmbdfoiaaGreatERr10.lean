/-
  ChainMade: for every input the law returns true, and the input reads as it did. No condition.
-/
import Derived.Test.YtlpdkbmmbdfoiaaGreatELf3
set_option linter.unusedVariables false
set_option linter.unusedSimpArgs false
namespace Go.Proofs.YtlpdkbmmbdfoiaaGreat
open Go.ChangeShapes Go.WideShapes Go.ChangeAt Go.RowKit
set_option maxRecDepth 100000 in
theorem zqv (os:Os) (started:os.Started) (H:Type) (enc:TypeId×Value->H):
 ReturnsInHanded {} Tryz.checked os 10 .any (Rows.chainMadeSpec.pre6 enc Tryz.prog Tryz.f10 Rows.chainMadeRow.domain false) (Rows.chainMadeSpec.post enc Tryz.prog Tryz.f10 false true false false):=by
 refine returnsInHanded_of_change (C:=Tryz.checked) Tryz.ownK started (by kernel_rfl) Tryz.func10
  (ChangeSpec.witness6 (enc:=enc) (C:=Tryz.checked) false ⟨#[],#[.slice none 0 0, .int .u8 0, .int .u8 0],[]⟩ 8 (by kernel_rfl) (by kernel_rfl) (by kernel_rfl) (by kernel_rfl)) ?_
 intro W base args ds gs before hval0 hW hcnd _
 have hval:∀ (j:Nat) t v,Tryz.f10.params[j]? =some t->args[j]? =some v->Value.okWide Tryz.prog W .any base t v:=hval0
 have hW':=hW
 obtain⟨p,q,hA0,hV,rfl,hfz,hnd⟩:=hW
 have hA:DataW.TrodAll enc Tryz.prog W 0 (fun _=>true) true Tryz.f10.params.toList args.toList ds p:=hA0
 rw[Tryz.params10]at hA hval
 obtain⟨rfl,rfl⟩:=trodVars_none hV
 simp only[List.append_nil]at hW'
 have hback:=fun(W':World) (hb:Below W.heap.size W W')=>zoh (enc:=enc) Tryz.laidOut hb (by kernel_rfl) hA hW'.lt
 obtain⟨v0,vs0,d0,ds0,p0,q0,e0,rfl,_,h0,hA⟩:=trodAll_cons hA
 obtain⟨v1,vs1,d1,ds1,p1,q1,rfl,rfl,_,h1,hA⟩:=trodAll_cons hA
 obtain⟨v2,vs2,d2,ds2,p2,q2,rfl,rfl,_,h2,hA⟩:=trodAll_cons hA
 obtain⟨rfl,rfl,_⟩:=trodAll_nil hA
 obtain rfl:args=#[v0,v1,v2]:=by cases args;simp_all
 obtain⟨l0,g0⟩:=u8s_came (hval 0 22 v0 rfl rfl) h0
 obtain⟨x1,rfl,g1⟩:=u8_came (hval 1 5 v1 rfl rfl) h1
 obtain⟨x2,rfl,g2⟩:=u8_came (hval 2 5 v2 rfl rfl) h2
 refine(made_any _ l0 x1 x2 W g0.1 g0.2 g1 g2).mono fun e W' ⟨he,hnx⟩=> ?_
 subst he
 refine⟨_,rfl,_,_,_,[],p,[],hW',?_,hback _ hnx,?_,hnx.frame _,fun h=>by cases h⟩
 ·exact trodAll_mk1 (shut_bool Tryz.underlying4 _)
 ·rfl
theorem chainMade_holds :Rows.ChainMadeSaid:=
 OpenClaim.holds_of_wide 10 Tryz.f10 rfl rfl rfl rfl rfl rfl rfl ⟨rfl,rfl,rfl,rfl,rfl⟩ rfl rfl rfl rfl rfl (by kernel_rfl) Tryz.func10 (by kernel_rfl)
  (of_decide_eq_true (by kernel_rfl)) (by unfold Func.isWrapper;first | (rw[if_pos (by decide+kernel)];kernel_rfl) | (rw[if_neg (by decide+kernel)];exact⟨rfl,rfl⟩))
  (fun os started H enc _=>zqv os started H enc)
end Go.Proofs.YtlpdkbmmbdfoiaaGreat
