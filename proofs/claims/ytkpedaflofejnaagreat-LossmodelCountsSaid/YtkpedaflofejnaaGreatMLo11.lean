/- Lemmas. -/
import Derived.Test.YtkpedaflofejnaaGreatMPh7
import Derived.ProofKit
set_option linter.unusedVariables false
set_option linter.unusedSimpArgs false
namespace Go.Proofs.YtkpedaflofejnaaGreat
open Go.RowKit
section
variable {P:Program} {md:Region.Mode} {ops:Array Oper} {Q:Exit->Act->World->Prop} {S:World->Prop} {need:List Nat}
def wpN (P:Program) (md:Region.Mode) (ops:Array Oper) (Q:Exit->Act->World->Prop) (S:World->Prop) (need:List Nat):Nat->Array Bool->Act->World->Prop
 | 0,l,a,w=>Region.ready md ops l= []/\Q .normal a w
 | k+1,l,a,w=>(Region.ready md ops l= []->Q .normal a w)/\∀i∈Region.ready md ops l,wpOp P ops Q i (λ b v=>(need.contains i=false->S v)/\wpN P md ops Q S need k (l.setIfInBounds i true) b v) a w
def waitT (md:Region.Mode) (ops:Array Oper) (i:Nat):Nat->Nat->Bool
 | 0,_=>false
 | k+1,j=>match ops[j]? with
   | none=>false
   | some o=>o.after.any λ e=>Region.binds md e&&(e.on==i || waitT md ops i k e.on)
def waitB (md:Region.Mode) (ops:Array Oper) (need:List Nat) (i:Nat):Bool:=need.all λ j=>waitT md ops i 14 j
def shutB (md:Region.Mode) (ops:Array Oper) (l:Array Bool):Bool:=
 (List.range ops.size).all λ j=> !l.getD j false || match ops[j]? with
  | none=>true
  | some o=>o.after.all λ e=> !Region.binds md e || l.getD e.on false
def Shut (md:Region.Mode) (ops:Array Oper) (l:Array Bool):Prop:=∀ (j:Nat) (o:Oper),ops[j]? =some o->l.getD j false=true->∀e∈o.after,Region.binds md e=true->l.getD e.on false=true
theorem zdg {l:Array Bool} (h:shutB md ops l=true):Shut md ops l:=by
 intro j o ho hl e he hb;have hj:j<ops.size:=(Array.getElem?_eq_some_iff.1 ho).1;have h1:=List.all_eq_true.1 h j (List.mem_range.2 hj);rw[ho,hl]at h1;simp only[Bool.not_true,Bool.false_or]at h1;have h2:=Array.all_eq_true_iff_forall_mem.1 h1 e he;rw[hb]at h2;simpa using h2
theorem Shut.set {l:Array Bool} (h:Shut md ops l) {i:Nat} (hi:i∈Region.ready md ops l):Shut md ops (l.setIfInBounds i true):=by
 intro j o ho hl e he hb;by_cases hij:i=j
 ·subst hij;obtain⟨_,p,hp,hall⟩:=mem_ready.1 hi;rw[ho]at hp;injection hp with hp
  subst hp;exact getD_set_true (hall e he hb)
 ·rw[getD_set_ne false hij]at hl;exact getD_set_true (h j o ho hl e he hb)
theorem zgi {i:Nat} {l:Array Bool} (hs:Shut md ops l):∀ (k j:Nat) (o:Oper),waitT md ops i k j=true->ops[j]? =some o->(∀e∈o.after,Region.binds md e=true->l.getD e.on false=true)->l.getD i false=true
 | 0,_,_,h,_,_=>by cases h
 | k+1,j,o,h,ho,hall=>by
   rw[waitT,ho]at h;obtain⟨e,he,h2⟩:=Array.any_eq_true'.1 h;simp only[Bool.and_eq_true,Bool.or_eq_true,beq_iff_eq]at h2;obtain⟨hb,h3⟩:=h2;have hl:=hall e he hb;rcases h3 with h3 | h3
   ·rw[<-h3];exact hl
   ·cases hp:ops[e.on]? with
    | none=>
      cases k with
      | zero=>cases h3
      | succ k=>rw[waitT,hp]at h3;cases h3
    | some p=>exact zgi hs k e.on p h3 hp (hs e.on p hp hl)
theorem zni {i:Nat} {l:Array Bool} (h1:l.getD i false=true) (h0:l.getD i true=false):False:=by
 rcases zOG i l.size with h' | h'
 ·simp[h']at h0 h1;rw[h0]at h1;cases h1
 ·simp[Array.getElem?_eq_none h']at h1
theorem zaj {i j:Nat} {o:Oper} {l:Array Bool} (hj:j∈Region.ready md ops l) (hi:i∈Region.ready md ops l) (ho:ops[j]? =some o):∀e∈o.after,Region.binds md e=true->e.on≠i:=by
 intro e he hb heq;obtain⟨_,o',ho',hall⟩:=mem_ready.1 hj;rw[ho]at ho';injection ho' with ho'
 subst ho';have h1:=hall e he hb;rw[heq]at h1;exact zni h1 (mem_ready.1 hi).1
theorem wpN.first {i:Nat} {o:Oper} {v:Value} (hi:ops[i]? =some o) (hs:Region.noSelect ops=true) (hw:waitB md ops need i=true) (hQ:∀c a w,Q (.panic c) (a.put o.dst v) w->Q (.panic c) a w):
 ∀ (k:Nat) (l:Array Bool) (a:Act) (w:World),Shut md ops l->(∀j p,ops[j]? =some p->j≠i->l.getD j true=false->(∀e∈p.after,Region.binds md e=true->e.on≠i)->o.apart ops p=true)->
  i∈Region.ready md ops l->YieldsIf P ops S o v a->S w->wpN P md ops Q S need k (l.setIfInBounds i true) (a.put o.dst v) w->wpN P md ops Q S need (k+1) l a w
 | 0,l,a,w,_,_,hr,hy,hS,H=>by
   refine⟨(λ h=>by rw[h]at hr;cases hr),λ j hj=> ?_⟩;by_cases e:j=i
   ·subst e;exact hy.wpOp hi hS ⟨λ _=>hS,H⟩
   ·have h1:=ready_mono hj e;rw[H.1]at h1;cases h1
 | k+1,l,a,w,hsh,hfr,hr,hy,hS,H=>by
   refine⟨(λ h=>by rw[h]at hr;cases hr),λ j hj=> ?_⟩;by_cases e:j=i
   ·subst e;exact hy.wpOp hi hS ⟨λ _=>hS,H⟩
   ·obtain⟨hun,p,hp,_⟩:=mem_ready.1 hj;have hno:=zaj hj hr hp
    have hnd:need.contains j=false:=by
     cases hc:need.contains j with
     | false=>rfl
     | true=>
       obtain⟨_,p',hp',hall⟩:=mem_ready.1 hj;exact(zni (zgi hsh 14 j p' (List.all_eq_true.1 hw j (by simpa using hc)) hp' hall) (mem_ready.1 hr).1).elim
    (have hsel:=fun(j:Nat) (o:Oper) cs b (h:ops[j]? =some o)=>Region.noSelect_spec hs j o cs b h);have h2:=wpOp_putIf hp (hfr j p hp e hun hno) (λ cs b=>hsel i o cs b hi) (λ cs b=>hsel j p cs b hp) hQ hy (H.2 j (ready_mono hj e));refine wpOp_mono (λ b u g=>⟨λ _=>g.2.1 hnd,wpN.first hi hs hw hQ k (l.setIfInBounds j true) b u (hsh.set hj) ?_ (ready_mono hr (Ne.symm e)) g.1 (g.2.1 hnd) ?_⟩) h2
    ·intro x q hq hxi hxl hxw;refine hfr x q hq hxi ?_ hxw;by_cases hjx:j=x
     ·subst hjx;exact hun
     ·rwa[getD_set_ne true hjx]at hxl
    ·rw[Array.setIfInBounds_comm _ _ e];exact g.2.2
theorem wpN.one (k:Nat) {fuel:Nat} {l:Array Bool} {a:Act} {w:World} (hr:Region.ready md ops l= [k]) (hi:(ops[k]?).isSome=true)
 (h:∀o,ops[k]? =some o->∀K:Act->World->Prop,zI (∀b v,(need.contains k=false->S v)->wpN P md ops Q S need fuel (l.setIfInBounds k true) b v->K b v)->if Region.wanted o (yielded ops a.tmps)=true then o.wp P a w K Q else K (a.put o.dst undef) w):wpN P md ops Q S need (fuel+1) l a w:=by
 obtain⟨o,ho⟩:=Option.isSome_iff_exists.1 hi;refine⟨(λ h0=>by rw[hr]at h0;cases h0),λ j hj=> ?_⟩;rw[hr]at hj;obtain rfl:j=k:=by simpa using hj
 have h1:=h o ho _ (zH λ b v h2 h3=>(⟨h2,h3⟩:(need.contains j=false->S v)/\_));unfold wpOp;simp only[ho];by_cases hw:Region.wanted o (yielded ops a.tmps)=true
 ·rw[zIP hw]at h1 |-
  exact Or.inl h1
 ·rw[zIN hw]at h1 |-
  exact h1
end
section
variable {P:Program} {md:Region.Mode} {ops:Array Oper} {Q:Exit->Act->World->Prop} {S:World->Prop} {need:List Nat} {fuel:Nat} {l l':Array Bool} {a a':Act} {w:World} {o:Oper} {v:Value}
theorem wpN.t (i:Nat) (h:wpN P md ops Q S need fuel l' a' w) (ho:ops[i]? =some o:=by(simp only[List.getElem?_toArray,List.getElem?_cons_succ,List.getElem?_cons_zero];rfl)) (hs:Region.noSelect ops=true:=by kernel_rfl) (hw:waitB md ops need i=true:=by kernel_rfl) (hc:shutB md ops l=true:=by kernel_rfl) (hf:Region.free md ops l i=true:=by kernel_rfl) (hr:(Region.ready md ops l).contains i=true:=by kernel_rfl) (hS:S w:=by assumption)
 (hQ:∀c a w,Q (.panic c) (a.put o.dst v) w->Q (.panic c) a w:=by exact λ _ _ _ h=>h) (hy:YieldsIf P ops S o v a:=by first | exact Or.inr ⟨by rfl,rfl⟩ | (refine Or.inl ⟨by rfl,?_⟩;intro w hSw;(try dsimp only at hSw);go_simp;try with_reducible rfl))
 (hl:l.setIfInBounds i true=l':=by((try simp only[List.setIfInBounds_toArray,List.set_cons_zero,List.set_cons_succ]);rfl)) (ha:a.put o.dst v=a':=by(simp only[Act.put,List.setIfInBounds_toArray,List.set_cons_zero,List.set_cons_succ];rfl)):wpN P md ops Q S need (fuel+1) l a w:=by
 subst hl ha;exact wpN.first ho hs hw hQ fuel l a w (zdg hc) (Region.free_spec ho hf) (by simpa using hr) hy hS h
theorem wpN.oo (k:Nat) (h:∀K:Act->World->Prop,zI (∀b v,(need.contains k=false->S v)->wpN P md ops Q S need fuel (l.setIfInBounds k true) b v->K b v)->if Region.wanted o (yielded ops a.tmps)=true then o.wp P a w K Q else K (a.put o.dst undef) w)
 (ho:ops[k]? =some o:=by(simp only[List.getElem?_toArray,List.getElem?_cons_succ,List.getElem?_cons_zero];rfl)) (hr:Region.ready md ops l= [k]:=by kernel_rfl):wpN P md ops Q S need (fuel+1) l a w:=
 wpN.one k hr (by rw[ho];rfl) λ o' h'=>by rw[ho]at h';injection h' with h';subst h';exact h
end
section
variable {P:Program} {md:Region.Mode} {ops:Array Oper} {Q:Exit->Act->World->Prop} {S:World->Prop} {z:Nat}
def wpL (P:Program) (md:Region.Mode) (ops:Array Oper) (Q:Exit->Act->World->Prop) (S:World->Prop) (z:Nat):Nat->Array Bool->Act->World->Prop
 | 0,l,a,w=>Region.ready md ops l= []/\Q .normal a w
 | k+1,l,a,w=>(Region.ready md ops l= []->Q .normal a w)/\∀i∈Region.ready md ops l,wpOp P ops Q i (λ b v=>((l.setIfInBounds i true).getD z false=false->S v)/\wpL P md ops Q S z k (l.setIfInBounds i true) b v) a w
theorem wpL.any :∀ (k:Nat) (l:Array Bool) (a:Act) (w:World),wpL P md ops Q S z k l a w->wpAny P md ops Q k l a w
 | 0,_,_,_,h=>h
 | k+1,_,_,_,h=>⟨h.1,λ i hi=>wpOp_mono (λ b v g=>wpL.any k _ b v g.2) (h.2 i hi)⟩
theorem wpL.first {i:Nat} {o:Oper} {v:Value} (hi:ops[i]? =some o) (hs:Region.noSelect ops=true) (hw:waitT md ops i 14 z=true) (hQ:∀c a w,Q (.panic c) (a.put o.dst v) w->Q (.panic c) a w):
 ∀ (k:Nat) (l:Array Bool) (a:Act) (w:World),Shut md ops l->l.getD z false=false->(∀j p,ops[j]? =some p->j≠i->l.getD j true=false->(∀e∈p.after,Region.binds md e=true->e.on≠i)->o.apart ops p=true)->
  i∈Region.ready md ops l->YieldsIf P ops S o v a->S w->wpL P md ops Q S z k (l.setIfInBounds i true) (a.put o.dst v) w->wpL P md ops Q S z (k+1) l a w
 | 0,l,a,w,_,_,_,hr,hy,hS,H=>by
   refine⟨(λ h=>by rw[h]at hr;cases hr),λ j hj=> ?_⟩;by_cases e:j=i
   ·subst e;exact hy.wpOp hi hS ⟨λ _=>hS,H⟩
   ·have h1:=ready_mono hj e;rw[H.1]at h1;cases h1
 | k+1,l,a,w,hsh,hlz,hfr,hr,hy,hS,H=>by
   refine⟨(λ h=>by rw[h]at hr;cases hr),λ j hj=> ?_⟩;by_cases e:j=i
   ·subst e;exact hy.wpOp hi hS ⟨λ _=>hS,H⟩
   ·obtain⟨hun,p,hp,_⟩:=mem_ready.1 hj;have hno:=zaj hj hr hp
    have hjz:j≠z:=by
     intro hjz;subst hjz;obtain⟨_,p',hp',hall⟩:=mem_ready.1 hj;exact zni (zgi hsh 14 j p' hw hp' hall) (mem_ready.1 hr).1
    have hiz:i≠z:=by
     intro hiz;subst hiz;obtain⟨_,p',hp',hall⟩:=mem_ready.1 hr;exact zni (zgi hsh 14 i p' hw hp' hall) (mem_ready.1 hr).1
    (have hz1:(l.setIfInBounds j true).getD z false=false:=by rw[getD_set_ne false hjz];exact hlz);(have hz2:((l.setIfInBounds i true).setIfInBounds j true).getD z false=false:=by rw[getD_set_ne false hjz,getD_set_ne false hiz];exact hlz);(have hsel:=fun(j:Nat) (o:Oper) cs b (h:ops[j]? =some o)=>Region.noSelect_spec hs j o cs b h);have h2:=wpOp_putIf hp (hfr j p hp e hun hno) (λ cs b=>hsel i o cs b hi) (λ cs b=>hsel j p cs b hp) hQ hy (H.2 j (ready_mono hj e));refine wpOp_mono (λ b u g=>⟨λ _=>g.2.1 hz2,wpL.first hi hs hw hQ k (l.setIfInBounds j true) b u (hsh.set hj) hz1 ?_ (ready_mono hr (Ne.symm e)) g.1 (g.2.1 hz2) ?_⟩) h2
    ·intro x q hq hxi hxl hxw;refine hfr x q hq hxi ?_ hxw;by_cases hjx:j=x
     ·subst hjx;exact hun
     ·rwa[getD_set_ne true hjx]at hxl
    ·rw[Array.setIfInBounds_comm _ _ e];exact g.2.2
theorem wpL.firstU {i:Nat} {o:Oper} {v:Value} (hi:ops[i]? =some o) (hs:Region.noSelect ops=true) (hiz:i≠z) (hQ:∀c a w,Q (.panic c) (a.put o.dst v) w->Q (.panic c) a w):
 ∀ (k:Nat) (l:Array Bool) (a:Act) (w:World),Shut md ops l->(∀j p,ops[j]? =some p->j≠i->l.getD j true=false->(∀e∈p.after,Region.binds md e=true->e.on≠i)->o.apart ops p=true)->
  i∈Region.ready md ops l->YieldsIf P ops (λ _=>True) o v a->(l.getD z false=false->S w)->wpL P md ops Q S z k (l.setIfInBounds i true) (a.put o.dst v) w->wpL P md ops Q S z (k+1) l a w
 | 0,l,a,w,_,_,hr,hy,hS,H=>by
   refine⟨(λ h=>by rw[h]at hr;cases hr),λ j hj=> ?_⟩;by_cases e:j=i
   ·subst e;exact hy.wpOp hi trivial ⟨λ h=>hS (by rwa[getD_set_ne false hiz]at h),H⟩
   ·have h1:=ready_mono hj e;rw[H.1]at h1;cases h1
 | k+1,l,a,w,hsh,hfr,hr,hy,hS,H=>by
   refine⟨(λ h=>by rw[h]at hr;cases hr),λ j hj=> ?_⟩;by_cases e:j=i
   ·subst e;exact hy.wpOp hi trivial ⟨λ h=>hS (by rwa[getD_set_ne false hiz]at h),H⟩
   ·obtain⟨hun,p,hp,_⟩:=mem_ready.1 hj;have hno:=zaj hj hr hp;(have hsel:=fun(j:Nat) (o:Oper) cs b (h:ops[j]? =some o)=>Region.noSelect_spec hs j o cs b h);have h2:=wpOp_putIf hp (hfr j p hp e hun hno) (λ cs b=>hsel i o cs b hi) (λ cs b=>hsel j p cs b hp) hQ hy (H.2 j (ready_mono hj e))
    have hzz:(l.setIfInBounds j true).getD z false=false->((l.setIfInBounds i true).setIfInBounds j true).getD z false=false:=λ h=>by
     rw[<-Array.setIfInBounds_comm _ _ e,getD_set_ne false hiz];exact h
    refine wpOp_mono (λ b u g=>⟨λ h=>g.2.1 (hzz h),wpL.firstU hi hs hiz hQ k (l.setIfInBounds j true) b u (hsh.set hj) ?_ (ready_mono hr (Ne.symm e)) g.1 (λ h=>g.2.1 (hzz h)) ?_⟩) h2
    ·intro x q hq hxi hxl hxw;refine hfr x q hq hxi ?_ hxw;by_cases hjx:j=x
     ·subst hjx;exact hun
     ·rwa[getD_set_ne true hjx]at hxl
    ·rw[Array.setIfInBounds_comm _ _ e];exact g.2.2
theorem wpL.take (i:Nat) {fuel:Nat} {l:Array Bool} {a:Act} {w:World} (hs:Region.noSelect ops=true) (hw:waitT md ops i 14 z=true) (hz:l.getD z false=false) (hc:shutB md ops l=true) (hf:Region.free md ops l i=true) (hr:(Region.ready md ops l).contains i=true) (hS:S w) (hi:(ops[i]?).isSome=true)
 (h:∀o,ops[i]? =some o->∃v,(∀c a w,Q (.panic c) (a.put o.dst v) w->Q (.panic c) a w)/\YieldsIf P ops S o v a/\wpL P md ops Q S z fuel (l.setIfInBounds i true) (a.put o.dst v) w):wpL P md ops Q S z (fuel+1) l a w:=by
 obtain⟨o,ho⟩:=Option.isSome_iff_exists.1 hi;obtain⟨v,h1,h2,h3⟩:=h o ho;exact wpL.first ho hs hw h1 fuel l a w (zdg hc) hz (Region.free_spec ho hf) (by simpa using hr) h2 hS h3
theorem wpL.takeU (i:Nat) {fuel:Nat} {l:Array Bool} {a:Act} {w:World} (hs:Region.noSelect ops=true) (hiz:Nat.beq i z=false) (hc:shutB md ops l=true) (hf:Region.free md ops l i=true) (hr:(Region.ready md ops l).contains i=true) (hS:S w) (hi:(ops[i]?).isSome=true)
 (h:∀o,ops[i]? =some o->∃v,(∀c a w,Q (.panic c) (a.put o.dst v) w->Q (.panic c) a w)/\YieldsIf P ops (λ _=>True) o v a/\wpL P md ops Q S z fuel (l.setIfInBounds i true) (a.put o.dst v) w):wpL P md ops Q S z (fuel+1) l a w:=by
 obtain⟨o,ho⟩:=Option.isSome_iff_exists.1 hi;obtain⟨v,h1,h2,h3⟩:=h o ho;exact wpL.firstU ho hs (λ e=>by subst e;rw[Nat.beq_refl]at hiz;cases hiz) h1 fuel l a w (zdg hc) (Region.free_spec ho hf) (by simpa using hr) h2 (λ _=>hS) h3
theorem wpL.one (k:Nat) {fuel:Nat} {l:Array Bool} {a:Act} {w:World} (hr:Region.ready md ops l= [k]) (hi:(ops[k]?).isSome=true)
 (h:∀o,ops[k]? =some o->∀K:Act->World->Prop,zI (∀b v,((l.setIfInBounds k true).getD z false=false->S v)->wpL P md ops Q S z fuel (l.setIfInBounds k true) b v->K b v)->if Region.wanted o (yielded ops a.tmps)=true then o.wp P a w K Q else K (a.put o.dst undef) w):wpL P md ops Q S z (fuel+1) l a w:=by
 obtain⟨o,ho⟩:=Option.isSome_iff_exists.1 hi;refine⟨(λ h0=>by rw[hr]at h0;cases h0),λ j hj=> ?_⟩;rw[hr]at hj;obtain rfl:j=k:=by simpa using hj
 have h1:=h o ho _ (zH λ b v h2 h3=>(⟨h2,h3⟩:((l.setIfInBounds j true).getD z false=false->S v)/\_));unfold wpOp;simp only[ho];by_cases hw:Region.wanted o (yielded ops a.tmps)=true
 ·rw[zIP hw]at h1 |-
  exact Or.inl h1
 ·rw[zIN hw]at h1 |-
  exact h1
theorem wpL.done {l:Array Bool} {a:Act} {w:World} (hr:Region.ready md ops l= []) (h:Q .normal a w):∀fuel,wpL P md ops Q S z fuel l a w
 | 0=>⟨hr,h⟩
 | _+1=>⟨λ _=>h,by rw[hr];simp⟩
theorem wpL.start {id:Nat} {a:Act} {w:World} (z:Nat) (S:World->Prop) (hm:P.follows .mixedOrders=true) (hS:S w.drew) (h:S w.drew->wpL P .any ops Q S z ops.size (Array.replicate ops.size false) a w.drew):(Code.region id ops true).wp P Q a w:=
 wp_region_any hm (wpL.any _ _ _ _ (h hS))
end
section
variable {P:Program} {md:Region.Mode} {ops:Array Oper} {Q:Exit->Act->World->Prop} {S:World->Prop} {z:Nat} {fuel:Nat} {l l':Array Bool} {a a':Act} {w:World} {o:Oper} {v:Value}
theorem zY (i:Nat) (h:wpL P md ops Q S z fuel l' a' w) (ho:ops[i]? =some o:=by(simp only[List.getElem?_toArray,List.getElem?_cons_succ,List.getElem?_cons_zero];rfl)) (hs:Region.noSelect ops=true:=by kernel_rfl) (hw:waitT md ops i 14 z=true:=by kernel_rfl) (hz:l.getD z false=false:=by kernel_rfl) (hc:shutB md ops l=true:=by kernel_rfl) (hf:Region.free md ops l i=true:=by kernel_rfl) (hr:(Region.ready md ops l).contains i=true:=by kernel_rfl) (hS:S w:=by assumption)
 (hQ:∀c a w,Q (.panic c) (a.put o.dst v) w->Q (.panic c) a w:=by exact λ _ _ _ h=>h) (hy:YieldsIf P ops S o v a:=by first | exact Or.inr ⟨by rfl,rfl⟩ | (refine Or.inl ⟨by rfl,?_⟩;intro w hSw;(try dsimp only at hSw);go_simp;try with_reducible rfl))
 (hl:l.setIfInBounds i true=l':=by((try simp only[List.setIfInBounds_toArray,List.set_cons_zero,List.set_cons_succ]);rfl)) (ha:a.put o.dst v=a':=by(simp only[Act.put,List.setIfInBounds_toArray,List.set_cons_zero,List.set_cons_succ];rfl)):wpL P md ops Q S z (fuel+1) l a w:=by
 subst hl ha;exact wpL.first ho hs hw hQ fuel l a w (zdg hc) hz (Region.free_spec ho hf) (by simpa using hr) hy hS h
theorem zU (i:Nat) (h:wpL P md ops Q S z fuel l' a' w) (ho:ops[i]? =some o:=by(simp only[List.getElem?_toArray,List.getElem?_cons_succ,List.getElem?_cons_zero];rfl)) (hs:Region.noSelect ops=true:=by kernel_rfl) (hiz:Nat.beq i z=false:=by kernel_rfl) (hc:shutB md ops l=true:=by kernel_rfl) (hf:Region.free md ops l i=true:=by kernel_rfl) (hr:(Region.ready md ops l).contains i=true:=by kernel_rfl) (hS:S w:=by assumption)
 (hQ:∀c a w,Q (.panic c) (a.put o.dst v) w->Q (.panic c) a w:=by exact λ _ _ _ h=>h) (hy:YieldsIf P ops (λ _=>True) o v a:=by first | exact Or.inr ⟨by rfl,rfl⟩ | (refine Or.inl ⟨by rfl,?_⟩;intro w hSw;(try dsimp only at hSw);go_simp;try with_reducible rfl))
 (hl:l.setIfInBounds i true=l':=by((try simp only[List.setIfInBounds_toArray,List.set_cons_zero,List.set_cons_succ]);rfl)) (ha:a.put o.dst v=a':=by(simp only[Act.put,List.setIfInBounds_toArray,List.set_cons_zero,List.set_cons_succ];rfl)):wpL P md ops Q S z (fuel+1) l a w:=by
 subst hl ha;exact wpL.firstU ho hs (λ e=>by subst e;rw[Nat.beq_refl]at hiz;cases hiz) hQ fuel l a w (zdg hc) (Region.free_spec ho hf) (by simpa using hr) hy (λ _=>hS) h
theorem zW (k:Nat) (h:∀K:Act->World->Prop,zI (∀b v,((l.setIfInBounds k true).getD z false=false->S v)->wpL P md ops Q S z fuel (l.setIfInBounds k true) b v->K b v)->if Region.wanted o (yielded ops a.tmps)=true then o.wp P a w K Q else K (a.put o.dst undef) w)
 (ho:ops[k]? =some o:=by(simp only[List.getElem?_toArray,List.getElem?_cons_succ,List.getElem?_cons_zero];rfl)) (hr:Region.ready md ops l= [k]:=by kernel_rfl):wpL P md ops Q S z (fuel+1) l a w:=
 wpL.one k hr (by rw[ho];rfl) λ o' h'=>by rw[ho]at h';injection h' with h';subst h';exact h
end
def zgb (n:Nat):List Rat:=List.replicate n 0
theorem zva (n:Nat):(zgb n).length=n:=by simp[zgb]
theorem load_c4 {P:Program} {w:World} {b:Nat} {v0 v1 v2 v3:Value} {ty:TypeId} (hagg:∀w,(isAgg ty).run P w= .ok true w) (hs:∀w,(sizeOf ty).run P w= .ok 4 w) (h:C4 w b v0 v1 v2 v3):
 (loadVar ty ⟨b,0,none⟩).run P w= .ok (.agg #[v0,v1,v2,v3]) w:=by
 obtain⟨lt,c0,c1,c2,c3,f0,f1,f2,f3⟩:=h;simp only[loadVar,Sem.run_bind,hagg,hs,Result.andThen_ok];go_simp
theorem zno {P:Program} {fn:Func} {R:Ending->World->Prop} {a:Act} {w:World} {p:Tmp} {ty:TypeId} {b:Nat} {v0 v1 v2 v3:Value} (h:fn.results=#[.cell p ty])
 (hp:a.tmps.getD p undef= .pointer (some ⟨b,0,none⟩)) (hagg:∀w,(isAgg ty).run P w= .ok true w) (hs:∀w,(sizeOf ty).run P w= .ok 4 w) (hc:C4 w b v0 v1 v2 v3) (hd:a.defers= [])
 (hR:R (.returned (.agg #[v0,v1,v2,v3])) w):bodyPost P fn R .ret a w:=by
 refine bodyPost_ret ?_ hd hR;rw[ztl h,hp];simp only[asAddr,Sem.run_pure,Result.andThen_ok,load_c4 hagg hs hc]
theorem Tryz.aggL (w:World):(isAgg 30).run Tryz.prog w= .ok true w:=by go_simp
theorem Tryz.sizeL (w:World):(sizeOf 30).run Tryz.prog w= .ok 4 w:=by go_simp
theorem zph {P:Program} (t e:TypeId) (i:TypeInfo) (ht:P.underlying t=some (.slice e)) (hi:P.info? e=some i) (hz:i.zero=some (.slice none 0 0)) (hsize:i.size=1) (hby:i.bytes=24)
 {ops:Array Oper} {o:Oper} {a:Act} {w:World} {K:Act->World->Prop} {Q:Exit->Act->World->Prop} {E:Prop} (hgd:o.guard=none) (s x:Operand)
 (ho:o.op= .call { callee:= .builtin .append,args:=#[s,x],argTypes:=#[t,t] }) (B:Nat) (v:Value) (xs:List Value) (hs:a.eval s=v) (hown:zbc w e B 1 v xs.length xs) (y:Value) (hy:zlb y) (g:Nat) (hxe:a.eval x= .slice (some ⟨g,0,none⟩) 1 1)
 (hc:w.cell? ⟨g,0,none⟩=some y) (hn:xs.length<=1000) (hbase:B<=w.heap.size)
 (h:∀v' w',zbc w' e B 1 v' (xs++ [y]).length (xs++ [y])->w.grownBy w' v.ownBlock->zdc w v->zlb v'->K (a.put o.dst v') w'):
 if Region.wanted o (yielded ops a.tmps)=true then Oper.wp P o a w K Q else E:=by
 rw[zIP (by simp[Region.wanted,hgd])];obtain⟨y1,y2,y3,rfl,_⟩:=hy
 obtain⟨v',w',hr,k2,k3,k4,k5⟩:=zqe (P:=P) w B t o.type e i _ 1 24 ht hi hz hsize hby rfl zD v xs.length xs hown.own ⟨g,0,none⟩ 1 1 [Value.slice y1 y2 y3] rfl
  (λ j u hu=>by
   have hj:=(List.getElem?_eq_some_iff.1 hu).1;(have :j=0:=by simp at hj;omega);subst this;simp at hu;subst hu;rw[Addr.add_lit,Nat.zero_add];exact hc) (λ u hu=>by simp at hu;subst hu;rfl) (by simp[maxLen];omega) zO hbase hown.nl (λ u hu z=>by simp at hu;subst hu;simp) (λ c hc z=>by
   have hc2:c∈ [Value.slice none 0 0]:=hc;simp at hc2;subst hc2;simp)
 unfold Oper.wp execOp;simp only[ho,resolve,invoke,builtin,Sem.run_bind,Sem.run_pure,Result.andThen_ok,List.map_toArray,List.map_cons,List.map_nil,hs,hxe,hr]
 have hw:zbc w' e B 1 v' (xs++ [Value.slice y1 y2 y3]).length (xs++ [Value.slice y1 y2 y3]):=by
  rw[zLA];exact⟨k2,k5⟩
 exact h v' w' hw k3 hown.nl hw.sl
set_option maxHeartbeats 3200000
set_option maxRecDepth 100000 in
theorem lzeros_any (b n:Nat) (w:World) (hc:w.cell? ⟨b,0,none⟩=some (.int .i64 (n:Nat))) (hn1:1<=n) (hn:n<=200):
 Calls Tryz.prog 104 #[.pointer (some ⟨b,0,none⟩)] w (λ e w'=>∃v,e= .returned v/\zid w' 53 w.heap.size v n/\(∀t,t<n->zol w' v t 0)/\Below w.heap.size w w'):=by
 obtain⟨i0,hi,hz0,hz1,hz2⟩:=info_parts Tryz.infoF;have hM:=make_fr (P:=Tryz.prog) 23 53 i0 Tryz.underlying23 hi hz0 hz1 (by rw[hz2];decide);clear hi hz0 hz1 hz2;go_enter Tryz.func104,Tryz.ntmps104;go_wp2_with (refine hM w rfl _ _ rfl w.heap.size _ n rfl rfl rfl zO (zLR _) ?_;intro vO w5 hO5 hb5 hvO;have HO5:=zH hO5;have HB5:=zH hb5;have slO:=hO5.sl;have lnO:=hO5.len;clear hO5 hb5);clear hM;go_loopg [8] (n) (λ g u8 wr=>∃ (i:Nat),i<=n/\g=n-i/\u8= .int .i64 i/\zid wr 53 w.heap.size vO n/\(∀t,t<i->zol wr vO t 0)/\Below w.heap.size w wr);case atStart=>exact⟨0,zZL _,rfl,rfl,HO5.o,λ t h=>zO,HB5.o⟩
 case round=>
  obtain⟨i,hin,hg,rfl,ho,he,hbr⟩:=hrel;obtain⟨w6,hw6⟩:∃w6,w6=wr:=⟨_,rfl⟩;subst hw6;have HG:=zH hg;have HE:=zH he;have HO:=zH ho;have HBR:=zH hbr;clear he hg HO5 HB5;by_cases hil:i<n
  ·have i1:(0:Int)<=(i:Int):=zO;have i2:(i:Int)<(n:Nat):=zO;clear ho hbr
   go_wp2_with (first
    |(go_at_call 105;(with_reducible refine(zvq _).mono ?_);rintro e31 w31 ⟨v31,rfl,hv31,hb31⟩;obtain⟨t6,a61,l61,k61,a62,l62,k62,rfl⟩:=hv31.iF;have ho3:=HO.o.bw hb31;obtain⟨c0,d0,_⟩:=ho3.cell (i*3) zO;obtain⟨c1,d1,_⟩:=ho3.cell (i*3+1) zO;obtain⟨c2,d2,_⟩:=ho3.cell (i*3+2) zO;have f0:=ho3.frozen (i*3);have f1:=ho3.frozen (i*3+1);have f2:=ho3.frozen (i*3+2);have n01:=ho3.inj (show i*3≠i*3+1 by omega);have n02:=ho3.inj (show i*3≠i*3+2 by omega);have n12:=ho3.inj (show i*3+1≠i*3+2 by omega);have HS3:=zH (ho3.set3 i (.bool t6) (.slice a61 l61 k61) (.slice a62 l62 k62) zZ zZ zZ);have HE3:=zH (λ t ht=>(HE.o t ht).bw hb31);have HO3:=zH ho3;have HV6:=zH hv31;have HB3:=zH (zsb HBR.o hb31 HBR.o.size);clear ho3 hv31 hb31))
   go_roundg (n- (i+1));case measure=>(have:=HG.o;omega)
   case rel=>
    refine⟨i+1,zO,rfl,by go_num,HS3.o.1,λ t ht=> ?_,HB3.o.trans HS3.o.2⟩;rcases zOG t i with h6 | h6
    ·exact zol.set3_other HO3.o hil zO (HE3.o t h6) _ _ _ zZ zZ
    ·obtain rfl:t=i:=zO;exact zol.set3 HO3.o hil HV6.o
  ·obtain rfl:i=n:=zO;go_wp2_with fail;go_ret;exact⟨vO,rfl,HO.o,HE.o,HBR.o⟩
theorem zel (b n:Nat) (w:World) (hc:w.cell? ⟨b,0,none⟩=some (.int .i64 (n:Nat))) (hn1:1<=n) (hn:n<=200):
 Calls Tryz.prog 104 #[.pointer (some ⟨b,0,none⟩)] w (λ e w'=>∃v,e= .returned v/\zra w' 53 w.heap.size v (zgb n)/\Below w.heap.size w w'):=
 (lzeros_any b n w hc hn1 hn).mono λ e w' ⟨v,h1,h2,h3,h4⟩=>⟨v,h1,h2.frRow (zva n) (λ j hj=>by
  have e:(zgb n)[j]=0:=by simp[zgb]
  rw[e];exact h3 j (by rw[zva]at hj;exact hj)),h4⟩
set_option maxRecDepth 100000 in
theorem zfi (v:Value) (u:List Nat) (i x:Nat) (ii xx:Int) (w:World) (hv:zjb w v u) (hii:ii=(i:Nat)) (hxx:xx=(x:Nat)) (hi:i<u.length) (hn:u.length<=100):
 Calls Tryz.prog 48 #[v, .int .i64 ii, .int .i64 xx] w λ e w'=>∃v',e= .returned v'/\zib w' 3 w.heap.size v' ((u.set i x).map zod)/\Below w.heap.size w w':=by
 obtain⟨i3,hi3,hz3,hs3,hy3⟩:=info_parts Tryz.infoInt;subst hii;subst hxx;obtain⟨n,hnn⟩:∃n,u.length=n:=⟨_,rfl⟩;rw[hnn]at hi hn;have hln:slen v=n:=by rw[hv.len,hnn]
 have HV:=zH hv;have HN:=zH hnn;have i1:(0:Int)<=(i:Int):=zO;have i2:(i:Int)<(n:Nat):=zO;clear hv hnn;go_enter Tryz.func48,Tryz.ntmps48;go_wp2_with (refine zmb w rfl _ _ 31 rfl w.heap.size 3 i3 (.int .i64 0) 8 Tryz.underlying31 hi3 hz3 hs3 hy3 rfl (.slice none 0 0) [] rfl (zib.nil _ _ _) v rfl HV.o.sl (u.map zod) (by rw[zMP];exact HV.o.len) (λ j hj=>zta.cell HV.o j hj) (λ x hx=>by obtain⟨y,_,rfl⟩:=List.mem_map.1 hx;rfl) (by simp[maxLen,HN.o];omega) (by simp[HN.o];omega) (zLR _) ?_;intro v5 w5 ho5 hg5 hb5;rw[List.nil_append]at ho5;have HO:=zH ho5;have HB:=zH hb5;have s5:=ho5.sl;(have l5:slen v5=n:=by rw[ho5.len,zMP,HN.o]);obtain⟨z0,cz⟩:∃z,w5.cell? (ptr v5 i)=some z:=⟨_,ho5.cell i (by rw[zMP,HN.o];exact hi)⟩;have fz:=ho5.frozen i (by rw[zMP,HN.o];exact hi);clear ho5 hg5 hb5);go_ret;have hset:=HO.o.set i (by rw[zMP,HN.o];exact hi) (zod x);rw[<-List.map_set]at hset;exact⟨_,rfl,hset.1,HB.o.trans hset.2⟩
end Go.Proofs.YtkpedaflofejnaaGreat
