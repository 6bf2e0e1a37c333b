/-
  Regions that draw their order: the condition on the world is asked until one named operation, a store, is taken; other operations may still come behind it. No program is named here.
-/
import Derived.Test.YtlpdkbmmbdfoiaaGreatLOrd

namespace Go.Proofs.YtlpdkbmmbdfoiaaGreat
open Go.RowKit
section
variable {P:Program} {md:Region.Mode} {ops:Array Oper} {Q:Exit→Act→World→Prop} {S:World→Prop} {z:Nat}
def wpL (P:Program) (md:Region.Mode) (ops:Array Oper) (Q:Exit→Act→World→Prop) (S:World→Prop) (z:Nat):Nat→Array Bool→Act→World→Prop
 | 0,l,a,w=>Region.ready md ops l= []∧Q .normal a w
 | k+1,l,a,w=>(Region.ready md ops l= []→Q .normal a w)∧∀i∈Region.ready md ops l,wpOp P ops Q i (fun b v=>((l.setIfInBounds i true).getD z false=false→S v)∧wpL P md ops Q S z k (l.setIfInBounds i true) b v) a w
theorem wpL.any :∀ (k:Nat) (l:Array Bool) (a:Act) (w:World),wpL P md ops Q S z k l a w→wpAny P md ops Q k l a w
 | 0,_,_,_,h=>h
 | k+1,_,_,_,h=>⟨h.1,fun i hi=>wpOp_mono (fun b v g=>wpL.any k _ b v g.2) (h.2 i hi)⟩
theorem wpL.first {i:Nat} {o:Oper} {v:Value} (hi:ops[i]? =some o) (hs:Region.noSelect ops=true) (hw:waitT md ops i 14 z=true) (hQ:∀c a w,Q (.panic c) (a.put o.dst v) w→Q (.panic c) a w):
 ∀ (k:Nat) (l:Array Bool) (a:Act) (w:World),Shut md ops l→l.getD z false=false→(∀j p,ops[j]? =some p→j≠i→l.getD j true=false→(∀e∈p.after,Region.binds md e=true→e.on≠i)→o.apart ops p=true)→
  i∈Region.ready md ops l→YieldsIf P ops S o v a→S w→wpL P md ops Q S z k (l.setIfInBounds i true) (a.put o.dst v) w→wpL P md ops Q S z (k+1) l a w
 | 0,l,a,w,_,_,_,hr,hy,hS,H=>by
   refine⟨(fun h=>by rw[h]at hr;cases hr),fun j hj=> ?_⟩
   by_cases e:j=i
   ·subst e;exact hy.wpOp hi hS ⟨fun _=>hS,H⟩
   ·have h1:=ready_mono hj e
    rw[H.1]at h1
    cases h1
 | k+1,l,a,w,hsh,hlz,hfr,hr,hy,hS,H=>by
   refine⟨(fun h=>by rw[h]at hr;cases hr),fun j hj=> ?_⟩
   by_cases e:j=i
   ·subst e;exact hy.wpOp hi hS ⟨fun _=>hS,H⟩
   ·obtain⟨hun,p,hp,_⟩:=mem_ready.1 hj
    have hno:=zeh hj hr hp
    have hjz:j≠z:=by
     intro hjz
     subst hjz
     obtain⟨_,p',hp',hall⟩:=mem_ready.1 hj
     exact zqg (zng hsh 14 j p' hw hp' hall) (mem_ready.1 hr).1
    have hiz:i≠z:=by
     intro hiz
     subst hiz
     obtain⟨_,p',hp',hall⟩:=mem_ready.1 hr
     exact zqg (zng hsh 14 i p' hw hp' hall) (mem_ready.1 hr).1
    have hz1:(l.setIfInBounds j true).getD z false=false:=by rw[getD_set_ne false hjz];exact hlz
    have hz2:((l.setIfInBounds i true).setIfInBounds j true).getD z false=false:=by rw[getD_set_ne false hjz,getD_set_ne false hiz];exact hlz
    have hsel:=fun(j:Nat) (o:Oper) cs b (h:ops[j]? =some o)=>Region.noSelect_spec hs j o cs b h
    have h2:=wpOp_putIf hp (hfr j p hp e hun hno) (fun cs b=>hsel i o cs b hi) (fun cs b=>hsel j p cs b hp) hQ hy (H.2 j (ready_mono hj e))
    refine wpOp_mono (fun b u g=>⟨fun _=>g.2.1 hz2,wpL.first hi hs hw hQ k (l.setIfInBounds j true) b u (hsh.set hj) hz1 ?_ (ready_mono hr (Ne.symm e)) g.1 (g.2.1 hz2) ?_⟩) h2
    ·intro x q hq hxi hxl hxw
     refine hfr x q hq hxi ?_ hxw
     by_cases hjx:j=x
     ·subst hjx;exact hun
     ·rwa[getD_set_ne true hjx]at hxl
    ·rw[Array.setIfInBounds_comm _ _ e]
     exact g.2.2
theorem wpL.firstU {i:Nat} {o:Oper} {v:Value} (hi:ops[i]? =some o) (hs:Region.noSelect ops=true) (hiz:i≠z) (hQ:∀c a w,Q (.panic c) (a.put o.dst v) w→Q (.panic c) a w):
 ∀ (k:Nat) (l:Array Bool) (a:Act) (w:World),Shut md ops l→(∀j p,ops[j]? =some p→j≠i→l.getD j true=false→(∀e∈p.after,Region.binds md e=true→e.on≠i)→o.apart ops p=true)→
  i∈Region.ready md ops l→YieldsIf P ops (fun _=>True) o v a→(l.getD z false=false→S w)→wpL P md ops Q S z k (l.setIfInBounds i true) (a.put o.dst v) w→wpL P md ops Q S z (k+1) l a w
 | 0,l,a,w,_,_,hr,hy,hS,H=>by
   refine⟨(fun h=>by rw[h]at hr;cases hr),fun j hj=> ?_⟩
   by_cases e:j=i
   ·subst e;exact hy.wpOp hi trivial ⟨fun h=>hS (by rwa[getD_set_ne false hiz]at h),H⟩
   ·have h1:=ready_mono hj e
    rw[H.1]at h1
    cases h1
 | k+1,l,a,w,hsh,hfr,hr,hy,hS,H=>by
   refine⟨(fun h=>by rw[h]at hr;cases hr),fun j hj=> ?_⟩
   by_cases e:j=i
   ·subst e;exact hy.wpOp hi trivial ⟨fun h=>hS (by rwa[getD_set_ne false hiz]at h),H⟩
   ·obtain⟨hun,p,hp,_⟩:=mem_ready.1 hj
    have hno:=zeh hj hr hp
    have hsel:=fun(j:Nat) (o:Oper) cs b (h:ops[j]? =some o)=>Region.noSelect_spec hs j o cs b h
    have h2:=wpOp_putIf hp (hfr j p hp e hun hno) (fun cs b=>hsel i o cs b hi) (fun cs b=>hsel j p cs b hp) hQ hy (H.2 j (ready_mono hj e))
    have hzz:(l.setIfInBounds j true).getD z false=false→((l.setIfInBounds i true).setIfInBounds j true).getD z false=false:=fun h=>by
     rw[←Array.setIfInBounds_comm _ _ e,getD_set_ne false hiz];exact h
    refine wpOp_mono (fun b u g=>⟨fun h=>g.2.1 (hzz h),wpL.firstU hi hs hiz hQ k (l.setIfInBounds j true) b u (hsh.set hj) ?_ (ready_mono hr (Ne.symm e)) g.1 (fun h=>g.2.1 (hzz h)) ?_⟩) h2
    ·intro x q hq hxi hxl hxw
     refine hfr x q hq hxi ?_ hxw
     by_cases hjx:j=x
     ·subst hjx;exact hun
     ·rwa[getD_set_ne true hjx]at hxl
    ·rw[Array.setIfInBounds_comm _ _ e]
     exact g.2.2
theorem wpL.take (i:Nat) {fuel:Nat} {l:Array Bool} {a:Act} {w:World} (hs:Region.noSelect ops=true) (hw:waitT md ops i 14 z=true) (hz:l.getD z false=false) (hc:shutB md ops l=true) (hf:Region.free md ops l i=true) (hr:(Region.ready md ops l).contains i=true) (hS:S w) (hi:(ops[i]?).isSome=true)
 (h:∀o,ops[i]? =some o→∃v,(∀c a w,Q (.panic c) (a.put o.dst v) w→Q (.panic c) a w)∧YieldsIf P ops S o v a∧wpL P md ops Q S z fuel (l.setIfInBounds i true) (a.put o.dst v) w):wpL P md ops Q S z (fuel+1) l a w:=by
 obtain⟨o,ho⟩:=Option.isSome_iff_exists.1 hi
 obtain⟨v,h1,h2,h3⟩:=h o ho
 exact wpL.first ho hs hw h1 fuel l a w (zri hc) hz (Region.free_spec ho hf) (by simpa using hr) h2 hS h3
theorem wpL.takeU (i:Nat) {fuel:Nat} {l:Array Bool} {a:Act} {w:World} (hs:Region.noSelect ops=true) (hiz:Nat.beq i z=false) (hc:shutB md ops l=true) (hf:Region.free md ops l i=true) (hr:(Region.ready md ops l).contains i=true) (hS:S w) (hi:(ops[i]?).isSome=true)
 (h:∀o,ops[i]? =some o→∃v,(∀c a w,Q (.panic c) (a.put o.dst v) w→Q (.panic c) a w)∧YieldsIf P ops (fun _=>True) o v a∧wpL P md ops Q S z fuel (l.setIfInBounds i true) (a.put o.dst v) w):wpL P md ops Q S z (fuel+1) l a w:=by
 obtain⟨o,ho⟩:=Option.isSome_iff_exists.1 hi
 obtain⟨v,h1,h2,h3⟩:=h o ho
 exact wpL.firstU ho hs (fun e=>by subst e;rw[Nat.beq_refl]at hiz;cases hiz) h1 fuel l a w (zri hc) (Region.free_spec ho hf) (by simpa using hr) h2 (fun _=>hS) h3
theorem wpL.one (k:Nat) {fuel:Nat} {l:Array Bool} {a:Act} {w:World} (hr:Region.ready md ops l= [k]) (hi:(ops[k]?).isSome=true)
 (h:∀o,ops[k]? =some o→∀K:Act→World→Prop,Hid (∀b v,((l.setIfInBounds k true).getD z false=false→S v)→wpL P md ops Q S z fuel (l.setIfInBounds k true) b v→K b v)→if Region.wanted o (yielded ops a.tmps)=true then o.wp P a w K Q else K (a.put o.dst undef) w):wpL P md ops Q S z (fuel+1) l a w:=by
 obtain⟨o,ho⟩:=Option.isSome_iff_exists.1 hi
 refine⟨(fun h0=>by rw[hr]at h0;cases h0),fun j hj=> ?_⟩
 rw[hr]at hj
 obtain rfl:j=k:=by simpa using hj
 have h1:=h o ho _ (zH fun b v h2 h3=>(⟨h2,h3⟩:((l.setIfInBounds j true).getD z false=false→S v)∧_))
 unfold wpOp
 simp only[ho]
 by_cases hw:Region.wanted o (yielded ops a.tmps)=true
 ·rw[if_pos hw]at h1 ⊢
  exact Or.inl h1
 ·rw[if_neg hw]at h1 ⊢
  exact h1
theorem wpL.done {l:Array Bool} {a:Act} {w:World} (hr:Region.ready md ops l= []) (h:Q .normal a w):∀fuel,wpL P md ops Q S z fuel l a w
 | 0=>⟨hr,h⟩
 | _+1=>⟨fun _=>h,by rw[hr];simp⟩
theorem wpL.start {id:Nat} {a:Act} {w:World} (z:Nat) (S:World→Prop) (hm:P.follows .mixedOrders=true) (hS:S w.drew) (h:S w.drew→wpL P .any ops Q S z ops.size (Array.replicate ops.size false) a w.drew):(Code.region id ops true).wp P Q a w:=
 wp_region_any hm (wpL.any _ _ _ _ (h hS))
end
section
variable {P:Program} {md:Region.Mode} {ops:Array Oper} {Q:Exit→Act→World→Prop} {S:World→Prop} {z:Nat} {fuel:Nat} {l l':Array Bool} {a a':Act} {w:World} {o:Oper} {v:Value}
theorem wpL.t (i:Nat) (h:wpL P md ops Q S z fuel l' a' w) (ho:ops[i]? =some o:=by(simp only[List.getElem?_toArray,List.getElem?_cons_succ,List.getElem?_cons_zero];rfl)) (hs:Region.noSelect ops=true:=by kernel_rfl) (hw:waitT md ops i 14 z=true:=by kernel_rfl) (hz:l.getD z false=false:=by kernel_rfl) (hc:shutB md ops l=true:=by kernel_rfl) (hf:Region.free md ops l i=true:=by kernel_rfl) (hr:(Region.ready md ops l).contains i=true:=by kernel_rfl) (hS:S w:=by assumption)
 (hQ:∀c a w,Q (.panic c) (a.put o.dst v) w→Q (.panic c) a w:=by exact fun _ _ _ h=>h) (hy:YieldsIf P ops S o v a:=by first | exact Or.inr ⟨by rfl,rfl⟩ | (refine Or.inl ⟨by rfl,?_⟩;intro w hSw;(try dsimp only at hSw);go_simp;try with_reducible rfl))
 (hl:l.setIfInBounds i true=l':=by((try simp only[List.setIfInBounds_toArray,List.set_cons_zero,List.set_cons_succ]);rfl)) (ha:a.put o.dst v=a':=by(simp only[Act.put,List.setIfInBounds_toArray,List.set_cons_zero,List.set_cons_succ];rfl)):wpL P md ops Q S z (fuel+1) l a w:=by
 subst hl ha
 exact wpL.first ho hs hw hQ fuel l a w (zri hc) hz (Region.free_spec ho hf) (by simpa using hr) hy hS h
theorem wpL.u (i:Nat) (h:wpL P md ops Q S z fuel l' a' w) (ho:ops[i]? =some o:=by(simp only[List.getElem?_toArray,List.getElem?_cons_succ,List.getElem?_cons_zero];rfl)) (hs:Region.noSelect ops=true:=by kernel_rfl) (hiz:Nat.beq i z=false:=by kernel_rfl) (hc:shutB md ops l=true:=by kernel_rfl) (hf:Region.free md ops l i=true:=by kernel_rfl) (hr:(Region.ready md ops l).contains i=true:=by kernel_rfl) (hS:S w:=by assumption)
 (hQ:∀c a w,Q (.panic c) (a.put o.dst v) w→Q (.panic c) a w:=by exact fun _ _ _ h=>h) (hy:YieldsIf P ops (fun _=>True) o v a:=by first | exact Or.inr ⟨by rfl,rfl⟩ | (refine Or.inl ⟨by rfl,?_⟩;intro w hSw;(try dsimp only at hSw);go_simp;try with_reducible rfl))
 (hl:l.setIfInBounds i true=l':=by((try simp only[List.setIfInBounds_toArray,List.set_cons_zero,List.set_cons_succ]);rfl)) (ha:a.put o.dst v=a':=by(simp only[Act.put,List.setIfInBounds_toArray,List.set_cons_zero,List.set_cons_succ];rfl)):wpL P md ops Q S z (fuel+1) l a w:=by
 subst hl ha
 exact wpL.firstU ho hs (fun e=>by subst e;rw[Nat.beq_refl]at hiz;cases hiz) hQ fuel l a w (zri hc) (Region.free_spec ho hf) (by simpa using hr) hy (fun _=>hS) h
theorem wpL.oo (k:Nat) (h:∀K:Act→World→Prop,Hid (∀b v,((l.setIfInBounds k true).getD z false=false→S v)→wpL P md ops Q S z fuel (l.setIfInBounds k true) b v→K b v)→if Region.wanted o (yielded ops a.tmps)=true then o.wp P a w K Q else K (a.put o.dst undef) w)
 (ho:ops[k]? =some o:=by(simp only[List.getElem?_toArray,List.getElem?_cons_succ,List.getElem?_cons_zero];rfl)) (hr:Region.ready md ops l= [k]:=by kernel_rfl):wpL P md ops Q S z (fuel+1) l a w:=
 wpL.one k hr (by rw[ho];rfl) fun o' h'=>by rw[ho]at h';injection h' with h';subst h';exact h
end
end Go.Proofs.YtlpdkbmmbdfoiaaGreat
