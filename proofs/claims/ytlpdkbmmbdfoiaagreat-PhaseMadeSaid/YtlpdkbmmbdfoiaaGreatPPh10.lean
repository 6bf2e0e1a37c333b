/- Lemmas. -/
import Derived.Test.YtlpdkbmmbdfoiaaGreatPOrd
set_option linter.unusedVariables false
set_option linter.unusedSimpArgs false
namespace Go.Proofs.YtlpdkbmmbdfoiaaGreat
open Go.RowKit
section
variable {P:Program} {md:Region.Mode} {ops:Array Oper} {Q:Exit->Act->World->Prop} {S:World->Prop} {z:Nat}
def wpL (P:Program) (md:Region.Mode) (ops:Array Oper) (Q:Exit->Act->World->Prop) (S:World->Prop) (z:Nat):Nat->Array Bool->Act->World->Prop
 | 0,l,a,w=>Region.ready md ops l= []/\Q .normal a w
 | k+1,l,a,w=>(Region.ready md ops l= []->Q .normal a w)/\∀i∈Region.ready md ops l,wpOp P ops Q i (λ b v=>((l.setIfInBounds i true).getD z false=false->S v)/\wpL P md ops Q S z k (l.setIfInBounds i true) b v) a w
theorem wpL.any :∀ (k:Nat) (l:Array Bool) (a:Act) (w:World),wpL P md ops Q S z k l a w->wpAny P md ops Q k l a w
 | 0,_,_,_,h=>h
 | k+1,_,_,_,h=>⟨h.1,λ i hi=>wpOp_mono (λ b v g=>wpL.any k _ b v g.2) (h.2 i hi)⟩
theorem wpL.first {i:Nat} {o:Oper} {v:Value} (hi:ops[i]? =some o) (hs:Region.noSelect ops=true) (hw:waitT md ops i 14 z=true) (hQ:∀c a w,Q (.panic c) (a.put o.dst v) w->Q (.panic c) a w):
 ∀ (k:Nat) (l:Array Bool) (a:Act) (w:World),Shut md ops l->l.getD z false=false->(∀j p,ops[j]? =some p->j≠i->l.getD j true=false->(∀e∈p.after,Region.binds md e=true->e.on≠i)->o.apart ops p=true)->
  i∈Region.ready md ops l->YieldsIf P ops S o v a->S w->wpL P md ops Q S z k (l.setIfInBounds i true) (a.put o.dst v) w->wpL P md ops Q S z (k+1) l a w
 | 0,l,a,w,_,_,_,hr,hy,hS,H=>by
   refine⟨(λ h=>by rw[h]at hr;cases hr),λ j hj=> ?_⟩;by_cases e:j=i
   ·subst e;exact hy.wpOp hi hS ⟨λ _=>hS,H⟩
   ·have h1:=ready_mono hj e;rw[H.1]at h1;cases h1
 | k+1,l,a,w,hsh,hlz,hfr,hr,hy,hS,H=>by
   refine⟨(λ h=>by rw[h]at hr;cases hr),λ j hj=> ?_⟩;by_cases e:j=i
   ·subst e;exact hy.wpOp hi hS ⟨λ _=>hS,H⟩
   ·obtain⟨hun,p,hp,_⟩:=mem_ready.1 hj;have hno:=znj hj hr hp
    have hjz:j≠z:=by
     intro hjz;subst hjz;obtain⟨_,p',hp',hall⟩:=mem_ready.1 hj;exact zaj (zui hsh 14 j p' hw hp' hall) (mem_ready.1 hr).1
    have hiz:i≠z:=by
     intro hiz;subst hiz;obtain⟨_,p',hp',hall⟩:=mem_ready.1 hr;exact zaj (zui hsh 14 i p' hw hp' hall) (mem_ready.1 hr).1
    (have hz1:(l.setIfInBounds j true).getD z false=false:=by rw[getD_set_ne false hjz];exact hlz);(have hz2:((l.setIfInBounds i true).setIfInBounds j true).getD z false=false:=by rw[getD_set_ne false hjz,getD_set_ne false hiz];exact hlz);(have hsel:=fun(j:Nat) (o:Oper) cs b (h:ops[j]? =some o)=>Region.noSelect_spec hs j o cs b h);have h2:=wpOp_putIf hp (hfr j p hp e hun hno) (λ cs b=>hsel i o cs b hi) (λ cs b=>hsel j p cs b hp) hQ hy (H.2 j (ready_mono hj e));refine wpOp_mono (λ b u g=>⟨λ _=>g.2.1 hz2,wpL.first hi hs hw hQ k (l.setIfInBounds j true) b u (hsh.set hj) hz1 ?_ (ready_mono hr (Ne.symm e)) g.1 (g.2.1 hz2) ?_⟩) h2
    ·intro x q hq hxi hxl hxw;refine hfr x q hq hxi ?_ hxw;by_cases hjx:j=x
     ·subst hjx;exact hun
     ·rwa[getD_set_ne true hjx]at hxl
    ·rw[Array.setIfInBounds_comm _ _ e];exact g.2.2
theorem wpL.firstU {i:Nat} {o:Oper} {v:Value} (hi:ops[i]? =some o) (hs:Region.noSelect ops=true) (hiz:i≠z) (hQ:∀c a w,Q (.panic c) (a.put o.dst v) w->Q (.panic c) a w):
 ∀ (k:Nat) (l:Array Bool) (a:Act) (w:World),Shut md ops l->(∀j p,ops[j]? =some p->j≠i->l.getD j true=false->(∀e∈p.after,Region.binds md e=true->e.on≠i)->o.apart ops p=true)->
  i∈Region.ready md ops l->YieldsIf P ops (λ _=>True) o v a->(l.getD z false=false->S w)->wpL P md ops Q S z k (l.setIfInBounds i true) (a.put o.dst v) w->wpL P md ops Q S z (k+1) l a w
 | 0,l,a,w,_,_,hr,hy,hS,H=>by
   refine⟨(λ h=>by rw[h]at hr;cases hr),λ j hj=> ?_⟩;by_cases e:j=i
   ·subst e;exact hy.wpOp hi trivial ⟨λ h=>hS (by rwa[getD_set_ne false hiz]at h),H⟩
   ·have h1:=ready_mono hj e;rw[H.1]at h1;cases h1
 | k+1,l,a,w,hsh,hfr,hr,hy,hS,H=>by
   refine⟨(λ h=>by rw[h]at hr;cases hr),λ j hj=> ?_⟩;by_cases e:j=i
   ·subst e;exact hy.wpOp hi trivial ⟨λ h=>hS (by rwa[getD_set_ne false hiz]at h),H⟩
   ·obtain⟨hun,p,hp,_⟩:=mem_ready.1 hj;have hno:=znj hj hr hp;(have hsel:=fun(j:Nat) (o:Oper) cs b (h:ops[j]? =some o)=>Region.noSelect_spec hs j o cs b h);have h2:=wpOp_putIf hp (hfr j p hp e hun hno) (λ cs b=>hsel i o cs b hi) (λ cs b=>hsel j p cs b hp) hQ hy (H.2 j (ready_mono hj e))
    have hzz:(l.setIfInBounds j true).getD z false=false->((l.setIfInBounds i true).setIfInBounds j true).getD z false=false:=λ h=>by
     rw[<-Array.setIfInBounds_comm _ _ e,getD_set_ne false hiz];exact h
    refine wpOp_mono (λ b u g=>⟨λ h=>g.2.1 (hzz h),wpL.firstU hi hs hiz hQ k (l.setIfInBounds j true) b u (hsh.set hj) ?_ (ready_mono hr (Ne.symm e)) g.1 (λ h=>g.2.1 (hzz h)) ?_⟩) h2
    ·intro x q hq hxi hxl hxw;refine hfr x q hq hxi ?_ hxw;by_cases hjx:j=x
     ·subst hjx;exact hun
     ·rwa[getD_set_ne true hjx]at hxl
    ·rw[Array.setIfInBounds_comm _ _ e];exact g.2.2
theorem wpL.take (i:Nat) {fuel:Nat} {l:Array Bool} {a:Act} {w:World} (hs:Region.noSelect ops=true) (hw:waitT md ops i 14 z=true) (hz:l.getD z false=false) (hc:shutB md ops l=true) (hf:Region.free md ops l i=true) (hr:(Region.ready md ops l).contains i=true) (hS:S w) (hi:(ops[i]?).isSome=true)
 (h:∀o,ops[i]? =some o->∃v,(∀c a w,Q (.panic c) (a.put o.dst v) w->Q (.panic c) a w)/\YieldsIf P ops S o v a/\wpL P md ops Q S z fuel (l.setIfInBounds i true) (a.put o.dst v) w):wpL P md ops Q S z (fuel+1) l a w:=by
 obtain⟨o,ho⟩:=Option.isSome_iff_exists.1 hi;obtain⟨v,h1,h2,h3⟩:=h o ho;exact wpL.first ho hs hw h1 fuel l a w (zlf hc) hz (Region.free_spec ho hf) (by simpa using hr) h2 hS h3
theorem wpL.takeU (i:Nat) {fuel:Nat} {l:Array Bool} {a:Act} {w:World} (hs:Region.noSelect ops=true) (hiz:Nat.beq i z=false) (hc:shutB md ops l=true) (hf:Region.free md ops l i=true) (hr:(Region.ready md ops l).contains i=true) (hS:S w) (hi:(ops[i]?).isSome=true)
 (h:∀o,ops[i]? =some o->∃v,(∀c a w,Q (.panic c) (a.put o.dst v) w->Q (.panic c) a w)/\YieldsIf P ops (λ _=>True) o v a/\wpL P md ops Q S z fuel (l.setIfInBounds i true) (a.put o.dst v) w):wpL P md ops Q S z (fuel+1) l a w:=by
 obtain⟨o,ho⟩:=Option.isSome_iff_exists.1 hi;obtain⟨v,h1,h2,h3⟩:=h o ho;exact wpL.firstU ho hs (λ e=>by subst e;rw[Nat.beq_refl]at hiz;cases hiz) h1 fuel l a w (zlf hc) (Region.free_spec ho hf) (by simpa using hr) h2 (λ _=>hS) h3
theorem wpL.one (k:Nat) {fuel:Nat} {l:Array Bool} {a:Act} {w:World} (hr:Region.ready md ops l= [k]) (hi:(ops[k]?).isSome=true)
 (h:∀o,ops[k]? =some o->∀K:Act->World->Prop,zI (∀b v,((l.setIfInBounds k true).getD z false=false->S v)->wpL P md ops Q S z fuel (l.setIfInBounds k true) b v->K b v)->if Region.wanted o (yielded ops a.tmps)=true then o.wp P a w K Q else K (a.put o.dst undef) w):wpL P md ops Q S z (fuel+1) l a w:=by
 obtain⟨o,ho⟩:=Option.isSome_iff_exists.1 hi;refine⟨(λ h0=>by rw[hr]at h0;cases h0),λ j hj=> ?_⟩;rw[hr]at hj;obtain rfl:j=k:=by simpa using hj
 have h1:=h o ho _ (zH λ b v h2 h3=>(⟨h2,h3⟩:((l.setIfInBounds j true).getD z false=false->S v)/\_));unfold wpOp;simp only[ho];by_cases hw:Region.wanted o (yielded ops a.tmps)=true
 ·rw[zIP hw]at h1 |-
  exact Or.inl h1
 ·rw[zIN hw]at h1 |-
  exact h1
theorem wpL.done {l:Array Bool} {a:Act} {w:World} (hr:Region.ready md ops l= []) (h:Q .normal a w):∀fuel,wpL P md ops Q S z fuel l a w
 | 0=>⟨hr,h⟩
 | _+1=>⟨λ _=>h,by rw[hr];simp⟩
theorem wpL.start {id:Nat} {a:Act} {w:World} (z:Nat) (S:World->Prop) (hm:P.follows .mixedOrders=true) (hS:S w.drew) (h:S w.drew->wpL P .any ops Q S z ops.size (Array.replicate ops.size false) a w.drew):(Code.region id ops true).wp P Q a w:=
 wp_region_any hm (wpL.any _ _ _ _ (h hS))
end
section
variable {P:Program} {md:Region.Mode} {ops:Array Oper} {Q:Exit->Act->World->Prop} {S:World->Prop} {z:Nat} {fuel:Nat} {l l':Array Bool} {a a':Act} {w:World} {o:Oper} {v:Value}
theorem zY (i:Nat) (h:wpL P md ops Q S z fuel l' a' w) (ho:ops[i]? =some o:=by(simp only[List.getElem?_toArray,List.getElem?_cons_succ,List.getElem?_cons_zero];rfl)) (hs:Region.noSelect ops=true:=by kernel_rfl) (hw:waitT md ops i 14 z=true:=by kernel_rfl) (hz:l.getD z false=false:=by kernel_rfl) (hc:shutB md ops l=true:=by kernel_rfl) (hf:Region.free md ops l i=true:=by kernel_rfl) (hr:(Region.ready md ops l).contains i=true:=by kernel_rfl) (hS:S w:=by assumption)
 (hQ:∀c a w,Q (.panic c) (a.put o.dst v) w->Q (.panic c) a w:=by exact λ _ _ _ h=>h) (hy:YieldsIf P ops S o v a:=by first | exact Or.inr ⟨by rfl,rfl⟩ | (refine Or.inl ⟨by rfl,?_⟩;intro w hSw;(try dsimp only at hSw);go_simp;try with_reducible rfl))
 (hl:l.setIfInBounds i true=l':=by((try simp only[List.setIfInBounds_toArray,List.set_cons_zero,List.set_cons_succ]);rfl)) (ha:a.put o.dst v=a':=by(simp only[Act.put,List.setIfInBounds_toArray,List.set_cons_zero,List.set_cons_succ];rfl)):wpL P md ops Q S z (fuel+1) l a w:=by
 subst hl ha;exact wpL.first ho hs hw hQ fuel l a w (zlf hc) hz (Region.free_spec ho hf) (by simpa using hr) hy hS h
theorem zU (i:Nat) (h:wpL P md ops Q S z fuel l' a' w) (ho:ops[i]? =some o:=by(simp only[List.getElem?_toArray,List.getElem?_cons_succ,List.getElem?_cons_zero];rfl)) (hs:Region.noSelect ops=true:=by kernel_rfl) (hiz:Nat.beq i z=false:=by kernel_rfl) (hc:shutB md ops l=true:=by kernel_rfl) (hf:Region.free md ops l i=true:=by kernel_rfl) (hr:(Region.ready md ops l).contains i=true:=by kernel_rfl) (hS:S w:=by assumption)
 (hQ:∀c a w,Q (.panic c) (a.put o.dst v) w->Q (.panic c) a w:=by exact λ _ _ _ h=>h) (hy:YieldsIf P ops (λ _=>True) o v a:=by first | exact Or.inr ⟨by rfl,rfl⟩ | (refine Or.inl ⟨by rfl,?_⟩;intro w hSw;(try dsimp only at hSw);go_simp;try with_reducible rfl))
 (hl:l.setIfInBounds i true=l':=by((try simp only[List.setIfInBounds_toArray,List.set_cons_zero,List.set_cons_succ]);rfl)) (ha:a.put o.dst v=a':=by(simp only[Act.put,List.setIfInBounds_toArray,List.set_cons_zero,List.set_cons_succ];rfl)):wpL P md ops Q S z (fuel+1) l a w:=by
 subst hl ha;exact wpL.firstU ho hs (λ e=>by subst e;rw[Nat.beq_refl]at hiz;cases hiz) hQ fuel l a w (zlf hc) (Region.free_spec ho hf) (by simpa using hr) hy (λ _=>hS) h
theorem zW (k:Nat) (h:∀K:Act->World->Prop,zI (∀b v,((l.setIfInBounds k true).getD z false=false->S v)->wpL P md ops Q S z fuel (l.setIfInBounds k true) b v->K b v)->if Region.wanted o (yielded ops a.tmps)=true then o.wp P a w K Q else K (a.put o.dst undef) w)
 (ho:ops[k]? =some o:=by(simp only[List.getElem?_toArray,List.getElem?_cons_succ,List.getElem?_cons_zero];rfl)) (hr:Region.ready md ops l= [k]:=by kernel_rfl):wpL P md ops Q S z (fuel+1) l a w:=
 wpL.one k hr (by rw[ho];rfl) λ o' h'=>by rw[ho]at h';injection h' with h';subst h';exact h
end
def zcb (n:Nat):List Rat:=List.replicate n 0
theorem zpa (n:Nat):(zcb n).length=n:=by simp[zcb]
theorem zem (b n:Nat) (w:World) (hc:w.cell? ⟨b,0,none⟩=some (.int .i64 (n:Nat))) (hn1:1<=n) (hn:n<=4):
 Calls Tryz.prog 164 #[.pointer (some ⟨b,0,none⟩)] w (λ e w'=>∃v,e= .returned v/\zua w' 38 w.heap.size v (zcb n)/\Below w.heap.size w w'):=
 (blank1_any b n w hc hn1 hn).mono λ e w' ⟨v,h1,h2,h3,h4⟩=>⟨v,h1,h2.frRow (zpa n) (λ j hj=>by
  have e:(zcb n)[j]=0:=by simp[zcb]
  rw[e];exact h3 j (by rw[zpa]at hj;exact hj)),h4⟩
theorem load_c4 {P:Program} {w:World} {b:Nat} {v0 v1 v2 v3:Value} {ty:TypeId} (hagg:∀w,(isAgg ty).run P w= .ok true w) (hs:∀w,(sizeOf ty).run P w= .ok 4 w) (h:C4 w b v0 v1 v2 v3):
 (loadVar ty ⟨b,0,none⟩).run P w= .ok (.agg #[v0,v1,v2,v3]) w:=by
 obtain⟨lt,c0,c1,c2,c3,f0,f1,f2,f3⟩:=h;simp only[loadVar,Sem.run_bind,hagg,hs,Result.andThen_ok];go_simp
theorem zvj {P:Program} {fn:Func} {R:Ending->World->Prop} {a:Act} {w:World} {p:Tmp} {ty:TypeId} {b:Nat} {v0 v1 v2 v3:Value} (h:fn.results=#[.cell p ty])
 (hp:a.tmps.getD p undef= .pointer (some ⟨b,0,none⟩)) (hagg:∀w,(isAgg ty).run P w= .ok true w) (hs:∀w,(sizeOf ty).run P w= .ok 4 w) (hc:C4 w b v0 v1 v2 v3) (hd:a.defers= [])
 (hR:R (.returned (.agg #[v0,v1,v2,v3])) w):bodyPost P fn R .ret a w:=by
 refine bodyPost_ret ?_ hd hR;rw[zlm h,hp];simp only[asAddr,Sem.run_pure,Result.andThen_ok,load_c4 hagg hs hc]
theorem zdb {P:Program} {fn:Func} {R:Ending->World->Prop} {a:Act} {w:World} {p u:Tmp} {ty:TypeId} {b:Nat} {v0 v1 v2 v3:Value} (h:fn.results=#[.cell p ty, .tmp u])
 (hp:a.tmps.getD p undef= .pointer (some ⟨b,0,none⟩)) (hagg:∀w,(isAgg ty).run P w= .ok true w) (hs:∀w,(sizeOf ty).run P w= .ok 4 w) (hc:C4 w b v0 v1 v2 v3) (hd:a.defers= [])
 (hR:R (.returned (.tuple #[.agg #[v0,v1,v2,v3],a.tmps.getD u undef])) w):bodyPost P fn R .ret a w:=by
 refine bodyPost_ret ?_ hd hR;rw[results_cell_tmp h,hp];simp only[asAddr,Sem.run_pure,Result.andThen_ok,load_c4 hagg hs hc]
theorem Tryz.aggL (w:World):(isAgg 52).run Tryz.prog w= .ok true w:=by go_simp
theorem Tryz.sizeL (w:World):(sizeOf 52).run Tryz.prog w= .ok 4 w:=by go_simp
theorem zjm {P:Program} (t e:TypeId) (i:TypeInfo) (ht:P.underlying t=some (.slice e)) (hi:P.info? e=some i) (hz:i.zero=some (.slice none 0 0)) (hsize:i.size=1) (hby:i.bytes=24)
 {ops:Array Oper} {o:Oper} {a:Act} {w:World} {K:Act->World->Prop} {Q:Exit->Act->World->Prop} {E:Prop} (hgd:o.guard=none) (s x:Operand)
 (ho:o.op= .call { callee:= .builtin .append,args:=#[s,x],argTypes:=#[t,t] }) (B:Nat) (v:Value) (xs:List Value) (hs:a.eval s=v) (hown:zkc w e B 1 v xs.length xs) (y:Value) (hy:zvc y) (g:Nat) (hxe:a.eval x= .slice (some ⟨g,0,none⟩) 1 1)
 (hc:w.cell? ⟨g,0,none⟩=some y) (hn:xs.length<=1000) (hbase:B<=w.heap.size)
 (h:∀v' w',zkc w' e B 1 v' (xs++ [y]).length (xs++ [y])->w.grownBy w' v.ownBlock->zrb w v->zvc v'->K (a.put o.dst v') w'):
 if Region.wanted o (yielded ops a.tmps)=true then Oper.wp P o a w K Q else E:=by
 rw[zIP (by simp[Region.wanted,hgd])];obtain⟨y1,y2,y3,rfl,_⟩:=hy
 obtain⟨v',w',hr,k2,k3,k4,k5⟩:=zid (P:=P) w B t o.type e i _ 1 24 ht hi hz hsize hby rfl zD v xs.length xs hown.own ⟨g,0,none⟩ 1 1 [Value.slice y1 y2 y3] rfl
  (λ j u hu=>by
   have hj:=(List.getElem?_eq_some_iff.1 hu).1;(have :j=0:=by simp at hj;omega);subst this;simp at hu;subst hu;rw[Addr.add_lit,Nat.zero_add];exact hc) (λ u hu=>by simp at hu;subst hu;rfl) (by simp[maxLen];omega) zO hbase hown.nl (λ u hu z=>by simp at hu;subst hu;simp) (λ c hc z=>by
   have hc2:c∈ [Value.slice none 0 0]:=hc;simp at hc2;subst hc2;simp)
 unfold Oper.wp execOp;simp only[ho,resolve,invoke,builtin,Sem.run_bind,Sem.run_pure,Result.andThen_ok,List.map_toArray,List.map_cons,List.map_nil,hs,hxe,hr]
 have hw:zkc w' e B 1 v' (xs++ [Value.slice y1 y2 y3]).length (xs++ [Value.slice y1 y2 y3]):=by
  rw[zLA];exact⟨k2,k5⟩
 exact h v' w' hw k3 hown.nl hw.sl
theorem zyj {vr:Value} {rs:List Value} {n i:Nat} (hn:1<=n) (hv:rs= []->vr.ownBlock=none):zpe.Pos vr rs (zcb n) (zcb n) (List.replicate i (zcb n)):=
 ⟨by rw[zpa];exact hn,by rw[zpa];exact hn,λ j h=>by rw[List.getElem_replicate,zpa];exact hn,hv⟩
set_option maxRecDepth 100000 in
set_option maxHeartbeats 3200000 in
theorem zfl (n:Nat) (w:World) (hn1:1<=n) (hn:n<=4):
 Calls Tryz.prog 87 #[.int .i64 (n:Nat)] w (λ e w'=>∃vs ve vr rs,e= .returned (.agg #[.string { data:=#[] },vs,vr,ve])/\zpe w' w.heap.size vs ve vr rs (zcb n) (zcb n) (List.replicate n (zcb n))/\Below w.heap.size w w'):=by
 obtain⟨i4,hi4,hz4,hs4,hy4⟩:=info_parts Tryz.infoRow;have hAR:=fun{ops:Array Oper} {o:Oper} {a:Act} {w:World} {K:Act->World->Prop} {Q:Exit->Act->World->Prop} {E:Prop}=>zjm (P:=Tryz.prog) 24 25 i4 Tryz.underlying24 hi4 hz4 hs4 hy4 (ops:=ops) (o:=o) (a:=a) (w:=w) (K:=K) (Q:=Q) (E:=E)
 clear hi4 hz4 hs4 hy4;have hN:((w.alloc (.cells #[.int .i64 (n:Nat)] 3)).alloc (.cells #[.string { data:=#[] }, .slice none 0 0, .slice none 0 0, .slice none 0 0] 52)).cell? ⟨w.heap.size,0,none⟩=some (.int .i64 (n:Nat)):=by go_simp
 have hT:=C4.new (w.alloc (.cells #[.int .i64 (n:Nat)] 3)) 52 (.string { data:=#[] }) (.slice none 0 0) (.slice none 0 0) (.slice none 0 0);have hbw:=zaa (zca w (.cells #[.int .i64 (n:Nat)] 3)) (zca (w.alloc (.cells #[.int .i64 (n:Nat)] 3)) (.cells #[.string { data:=#[] }, .slice none 0 0, .slice none 0 0, .slice none 0 0] 52));go_enter Tryz.func87,Tryz.ntmps87;go_upto_region 2 with fail;have htb:(w.alloc (.cells #[.int .i64 (n:Nat)] 3)).heap.size=w.heap.size+1:=by show(w.heap.push _).size=_;rw[Array.size_push]
 rw[htb]at hT;generalize hW:(w.alloc (.cells #[.int .i64 (n:Nat)] 3)).alloc (.cells #[.string { data:=#[] }, .slice none 0 0, .slice none 0 0, .slice none 0 0] 52)=W2 at *
 have HN:=zH hN;have HT:=zH hT;have HBW:=zH hbw;clear hN hT hbw htb hW;have tok1:True:=trivial
 go_wp2_with (first
  |(go_at_call 164;have _t:=tok1;(with_reducible refine(zem _ n _ HN.o hn1 hn).mono ?_);rintro e5 w5 ⟨v5,rfl,hv5,hb5⟩;obtain⟨s1,s2,s3,rfl,_⟩:=id hv5.sl;have HV5:=zH hv5;have HB5:=zH hb5;have HN5:=zH (zba hb5 HN.o);clear hv5 hb5 tok1 _t)
  |(go_at_call 164
    (with_reducible refine(zem _ n _ HN5.o hn1 hn).mono ?_);rintro e6 w6 ⟨v6,rfl,hv6,hb6⟩
    obtain⟨e1,e2,e3,rfl,_⟩:=id hv6.sl;have hba:=zca w6 (.cells #[.string { data:=#[] }, .slice s1 s2 s3, .slice none 0 0, .slice e1 e2 e3] 52);have HB6:=zH (zaa (zaa HB5.o hb6) hba);have HC6:=zH (C4.new w6 52 (.string { data:=#[] }) (.slice s1 s2 s3) (.slice none 0 0) (.slice e1 e2 e3));obtain⟨g5,k1,_,k3,k4,_⟩:=HV5.o.blk (by rw[zpa];exact hn1);obtain⟨g6,m1,_,m3,m4,_⟩:=hv6.blk (by rw[zpa];exact hn1);have HW6:zI (zpe w6 W2.heap.size (.slice s1 s2 s3) (.slice e1 e2 e3) (.slice none 0 0) [] (zcb n) (zcb n) []):=zH ⟨HV5.o.moves (zkb.bw (B:=W2.heap.size) hb6) (zLR _),hv6.mono HB5.o.size,zkc.nil _ _ _ _,rfl,λ j h=>(by cases h),(by rw[k1,m1];intro e;injection e with e;omega),λ j h=>(by cases h),λ i j h=>(by cases h),zLT HB5.o.size hb6.size⟩;have HL6:=zH (HW6.o.bw hba);have HSZ:zI (W2.heap.size<=w6.heap.size):=zH (zLT HB5.o.size hb6.size);clear hv6 hb6 hba k1 k3 k4 m1 m3 m4 HV5 HB5 HN5 HW6))
 obtain⟨b4,hb4⟩:∃b,w6.heap.size=b:=⟨_,rfl⟩;rw[hb4]at HC6 |-
 have HB4:zI (W2.heap.size<=b4):=zH (by rw[<-hb4];exact HSZ.o);clear hb4;go_loopg [5] (n) (λ g u5 wr=>∃ (i:Nat) (vr:Value) (rs:List Value),i<=n/\g=n-i/\u5= .int .i64 i/\zpe wr W2.heap.size (.slice s1 s2 s3) (.slice e1 e2 e3) vr rs (zcb n) (zcb n) (List.replicate i (zcb n))/\(rs= []->vr.ownBlock=none)/\C4 wr b4 (.string { data:=#[] }) (.slice s1 s2 s3) vr (.slice e1 e2 e3)/\Below W2.heap.size W2 wr);case atStart=>exact⟨0,_,_,zZL _,rfl,rfl,HL6.o,λ _=>rfl,HC6.o,HB6.o⟩
 case round=>
  obtain⟨i,vr,rs,hin,hg,rfl,hl,hnv,hc,hbr⟩:=hrel;obtain⟨wx,hwx⟩:∃w6,w6=wr:=⟨_,rfl⟩;subst hwx;have HG:=zH hg;have HL:=zH hl;have HNV:=zH hnv;have HC:=zH hc;have HBR:=zH hbr;have hN:=zba hbr HN.o;clear hg hl hnv HL6 HC6 HB6;by_cases hil:i<n
  ·have i1:(0:Int)<=(i:Int):=zO;have i2:(i:Int)<(n:Nat):=zO;go_wp2_with fail;obtain⟨hlt4,c0,c1,c2,c3,f0,f1,f2,f3⟩:=hc;obtain⟨y1,y2,y3,rfl,_⟩:=id HL.o.ra.sl;have hbD:=zfa (B:=wx.heap.size) wx;have HND:=zH (zba hbD hN);have HLD:=zH (HL.o.bw hbD);have HCD:=zH (HC.o.bS hbD);have HBD:=zH (zea HBR.o hbD HBR.o.size);clear hN hbr;refine wpL.start 7 (λ w'=>w'.cell? ⟨b4,2,none⟩=some (.slice y1 y2 y3)) (by kernel_rfl) (zba hbD c2) (λ hHeld=> ?_);clear c0 c1 c2 c3 f0 f1 f2 f3 hbD;generalize wx.drew=wd at *
   refine zU 0 ?_;refine zU 2 ?_;refine zY 1 ?_;(refine zW 3 ?_;intro K hK);refine zsa 164 #[.pointer (some ⟨w.heap.size,0,none⟩)] ?_ ?_ (zem _ n wd HND.o hn1 hn) ?_
   ·rfl
   ·go_simp
   rintro e7 w7 ⟨v7,rfl,hv7,hb7⟩;obtain⟨r1,r2,r3,rfl,_⟩:=id hv7.sl;refine⟨_,rfl,?_⟩;refine hK.o _ _ (λ _=>zba hb7 hHeld) ?_;have h7:=zba hb7 hHeld;clear hK K hHeld;refine zS ?_;(refine zW 4 ?_;intro K hK);rw[zIP (by rfl)];go_simp;have hb8:=zca w7 (.cells #[.slice r1 r2 r3] 25);refine hK.o _ _ (λ _=>zba hb8 h7) ?_;clear hK K;refine zS ?_;have hle:=HBD.o.size;have hrow:=(hv7.mono hle).moves (zkb.bw (B:=W2.heap.size) hb8) (zLR _);have L8:=(HLD.o.bw hb7).bw hb8;(have hzl:0<(zcb n).length:=by rw[zpa];exact hn1);have n1:=zcq HLD.o.s hv7 hzl;have n2:=zcq HLD.o.e hv7 hzl;(have n3:∀ (j:Nat) (h:j<rs.length),rs[j].ownBlock≠(Value.slice r1 r2 r3).ownBlock:=λ j h=>(zcq (HLD.o.rows j h (by rw[<-HLD.o.rl];exact h)) hv7 hzl).symm);(have hrl:rs.length<=1000:=by have h:=HLD.o.rl;rw[zRP]at h;omega);have C8:=(HCD.o.bS hb7).bS hb8;have hb48:=zea (zea HBD.o hb7 HBD.o.size) hb8 (zLT HBD.o.size hb7.size);(have hc8:(w7.alloc (.cells #[.slice r1 r2 r3] 25)).cell? ⟨w7.heap.size,0,none⟩=some (.slice r1 r2 r3):=by go_simp);have hsz8:=hb48.size;have hslr:=hv7.sl;generalize w7.alloc (.cells #[.slice r1 r2 r3] 25)=w8 at *
   generalize w7.heap.size=g7 at *
   clear hv7 hb7 hb8 h7 HLD HCD hle;(refine zW 5 ?_;intro K hK);refine hAR rfl _ _ (by rfl) W2.heap.size (.slice y1 y2 y3) rs (by rfl) L8.ra (.slice r1 r2 r3) hslr g7 (by rfl) hc8 hrl hsz8 ?_;intro v9 w9 ho9 hg9 hn9 hs9;obtain⟨x1,x2,x3,rfl,_⟩:=id hs9
   have hnv:(Value.slice y1 y2 y3).ownBlock≠some b4:=by
    rcases Nat.eq_zero_or_pos rs.length with h0 | h0
    ·rw[HNV.o (List.length_eq_zero_iff.1 h0)];intro e;cases e
    ·exact L8.ra.neB h0 (λ j hj=>(L8.rows j hj (by rw[<-L8.rl];exact hj)).sl) C8.c0
   have C9:=C8.grown hg9 hnv;have P9:zpe.Pos (.slice x1 x2 x3) (rs++ [.slice r1 r2 r3]) (zcb n) (zcb n) (List.replicate (i+1) (zcb n)):=zyj hn1 (λ h=>by simp at h);have h9:=L8.push hrow n1 n2 n3 ho9 hg9 hn9;rw[<-List.replicate_succ']at h9;have HL10:=zH (h9.1.over P9 C9.c0 (p:=⟨b4,2,none⟩) rfl C9.c2 zZ (.slice x1 x2 x3));have HC10:=zH (C9.set2 (.slice x1 x2 x3));have HB10:=zH ((hb48.trans h9.2).setCell (p:=⟨b4,2,none⟩) HB4.o (.slice x1 x2 x3));have hc92:=C9.c2;have hf92:=C9.f2;refine hK.o _ _ (λ h=>hc92) ?_;clear hK K h9 P9 C9 C8 L8 hnv hrow n1 n2 n3 ho9 hg9 hn9 hb48;refine zS ?_;(refine zW 6 ?_;intro K hK);rw[zIP (by rfl)];go_simp;refine hK.o _ _ (λ h=>hc92) ?_;clear hK K;refine zS ?_;(refine zW 7 ?_;intro K hK);rw[zIP (by rfl)];go_simp;refine hK.o _ _ (λ h=>by first | cases h | simp at h) ?_;clear hK K hc92 hf92;refine wpL.done (by kernel_rfl) ?_ _;go_wp2_with fail;go_roundg (n- (i+1));(case measure=>(have:=HG.o;omega));case rel=>exact⟨i+1,_,_,zO,rfl,by go_num,HL10.o,λ h=>by simp at h,HC10.o,HB10.o⟩
  ·obtain rfl:i=n:=zO;have HT2:=zH (HT.o.bS hbr);obtain⟨hlt4,c0,c1,c2,c3,f0,f1,f2,f3⟩:=hc;obtain⟨tlt4,d0,d1,d2,d3,g0,g1,g2,g3⟩:=HT2.o;obtain⟨y1,y2,y3,rfl,_⟩:=id HL.o.ra.sl;have P9:zpe.Pos (.slice y1 y2 y3) rs (zcb i) (zcb i) (List.replicate i (zcb i)):=zyj hn1 HNV.o;have HL9:=zH ((HL.o.set4 P9 HT2.o zZ zZ zZ { data:=#[] } (.slice s1 s2 s3) (.slice y1 y2 y3) (.slice e1 e2 e3)).mono HBW.o.size);have HB9:=zH (zjb (zaa HBW.o hbr) (zLS _) (.string { data:=#[] }) (.slice s1 s2 s3) (.slice y1 y2 y3) (.slice e1 e2 e3));clear hbr P9;go_wp2_with fail;refine zvj rfl rfl Tryz.aggL Tryz.sizeL (HT2.o.set _ _ _ _) rfl ?_;exact⟨_,_,_,_,rfl,HL9.o,HB9.o⟩
instance (s :Bool) (n d:Nat):Decidable (zlk s n d):=inferInstanceAs (Decidable (_/\_/\_/\_))
set_option maxRecDepth 100000 in
set_option maxHeartbeats 3200000 in
theorem rate_any (va:Value) (s:Bool) (n d:Nat) (w:World) (ha:zzb w va s n d):Calls Tryz.prog 86 #[va] w (λ e w'=>e= .returned (.bool (decide (zlk s n d)))/\Below w.heap.size w w'):=by
 obtain⟨x0,y0,rfl,h1,h2⟩:=id ha;obtain⟨a11,l11,k11,rfl,_⟩:=h1.slen.1;obtain⟨a12,l12,k12,rfl,_⟩:=h2.slen.1;have hba:=zca w (.cells #[.bool s, .slice a11 l11 k11, .slice a12 l12 k12] 38);have HC:=zH (C3.new w 38 (.bool s) (.slice a11 l11 k11) (.slice a12 l12 k12));have HA:=zH (ha.bw hba);have HB:=zH hba;obtain⟨_,c0,c1,c2,_,_,_⟩:=HC.o;clear ha hba h1 h2;by_cases hk:okN n d
 ·have HK:=zH hk;obtain⟨q,hq⟩:∃q,fq s n d=q:=⟨_,rfl⟩
  have HRED:zI (∀w0 vx,zzb w0 vx s n d->Calls Tryz.prog 89 #[vx] w0 (RF0 w0 q)):=zH (λ w0 vx h=>by
   refine(zyg vx _ _ _ w0 h).mono ?_;rintro e w' ⟨v,er,rfl,hb,h1,_⟩;obtain⟨rfl,h2⟩:=h1 HK.o;rw[hq]at h2;exact⟨v,rfl,h2,hb⟩)
  have HPQ:zI (zlk s n d↔0<q/\zza q.num.natAbs<=32/\zza q.den<=32):=zH (by
   unfold zlk;rw[hq];exact⟨λ h=>h.2,λ h=>⟨HK.o,h⟩⟩)
  clear hk;go_enter Tryz.func86,Tryz.ntmps86
  go_upto_region 2 with(first
   |(go_at_call 89;(with_reducible refine(HRED.o _ _ HA.o).mono ?_);rintro e3 w3 ⟨v3,rfl,hv3,hb3⟩;obtain⟨x3,y3,rfl,n1,n2⟩:=id hv3;obtain⟨a31,l31,k31,rfl,_⟩:=id n1.v.sl;obtain⟨a32,l32,k32,rfl,_⟩:=id n2.v.sl;have hba:=zca w3 (.cells #[.bool (decide (q<0)), .slice a31 l31 k31, .slice a32 l32 k32] 38);have HC3:=zH (C3.new w3 38 (.bool (decide (q<0))) (.slice a31 l31 k31) (.slice a32 l32 k32));have HN1:=zH (n1.bw hba).nat;have HN2:=zH (n2.bw hba).nat;have HB3:=zH (zaa HB.o (zaa hb3 hba));clear c0 c1 c2 hv3 hb3 hba n1 n2))
  obtain⟨b3,hb3⟩:∃b,w3.heap.size=b:=⟨_,rfl⟩;rw[hb3]at HC3 |-
  clear hb3;generalize w3.alloc (.cells #[.bool (decide (q<0)), .slice a31 l31 k31, .slice a32 l32 k32] 38)=W3 at *
  obtain⟨_,c0,c1,c2,_,_,_⟩:=HC3.o;obtain⟨m1,hm1⟩:∃m,zza q.num.natAbs=m:=⟨_,rfl⟩;obtain⟨m2,hm2⟩:∃m,zza q.den=m:=⟨_,rfl⟩;have HM1:=zH hm1;have HM2:=zH hm2
  have HZ:zI (m1=0->¬0<q):=zH (λ h0 hq0=>by
   rw[<-hm1]at h0;have h3:q.num.natAbs<2^0:=zoc.1 (Nat.le_of_eq h0);(have h4:q.num.natAbs=0:=by simpa using h3);rw[Rat.num_eq_zero.1 (Int.natAbs_eq_zero.1 h4)]at hq0;exact absurd hq0 zD)
  have HNZ:zI (¬q<0->m1≠0->0<q):=zH (λ h0 h3=>by
   have h4:q≠0:=λ e=>by
    rw[e]at hm1;exact h3 (by rw[<-hm1];decide)
   grind)
  rw[hm1,hm2]at HPQ;clear hm1 hm2
  have HEND:zI (∀b:Bool,(b=true↔(0<q/\m1<=32/\m2<=32))->decide (zlk s n d)=b):=zH (λ b hb=>by
   cases b with
   | true=>exact zDT (HPQ.o.2 (hb.1 rfl))
   | false=>exact zDF (λ h=>by have:=hb.2 (HPQ.o.1 h);cases this))
  by_cases h1:q<0
  ·have e1:decide (q<0)=true:=zDT h1
   go_wp2_with (first
    |(go_at_call 156;(with_reducible refine(zbb _ q.num.natAbs _ HN1.o).mono ?_);rw[HM1.o];rintro e4 w4 ⟨rfl,rfl⟩)
    |(go_at_call 156;(with_reducible refine(zbb _ q.den _ HN2.o).mono ?_);rw[HM2.o];rintro e5 w5 ⟨rfl,rfl⟩))
   go_ret;exact⟨by rw[HEND.o false (by simp;intro h;exact absurd (Rat.le_of_lt h) (Rat.not_le.2 h1))];rfl,HB3.o⟩
  ·have e1:decide (q<0)=false:=zDF h1;by_cases h2:m1=0
   ·have e2:decide ((0:Int)<(m1:Nat))=false:=zDF zO
    go_wp2_with (first
     |(go_at_call 156;(with_reducible refine(zbb _ q.num.natAbs _ HN1.o).mono ?_);rw[HM1.o];rintro e4 w4 ⟨rfl,rfl⟩)
     |(go_at_call 156;(with_reducible refine(zbb _ q.den _ HN2.o).mono ?_);rw[HM2.o];rintro e5 w5 ⟨rfl,rfl⟩))
    go_ret;exact⟨by rw[HEND.o false (by simp;intro h;exact absurd h (HZ.o h2))];rfl,HB3.o⟩
   ·have e2:decide ((0:Int)<(m1:Nat))=true:=zDT zO;by_cases h3:m1<=32
    ·have e3:decide (((m1:Nat):Int)<=32)=true:=zDT zO;by_cases h4:m2<=32
     ·have e4:decide (((m2:Nat):Int)<=32)=true:=zDT zO
      go_wp2_with (first
       |(go_at_call 156;(with_reducible refine(zbb _ q.num.natAbs _ HN1.o).mono ?_);rw[HM1.o];rintro e4 w4 ⟨rfl,rfl⟩)
       |(go_at_call 156;(with_reducible refine(zbb _ q.den _ HN2.o).mono ?_);rw[HM2.o];rintro e5 w5 ⟨rfl,rfl⟩))
      go_ret;exact⟨by rw[HEND.o true ⟨λ _=>⟨HNZ.o h1 h2,h3,h4⟩,λ _=>rfl⟩];rfl,HB3.o⟩
     ·have e4:decide (((m2:Nat):Int)<=32)=false:=zDF zO
      go_wp2_with (first
       |(go_at_call 156;(with_reducible refine(zbb _ q.num.natAbs _ HN1.o).mono ?_);rw[HM1.o];rintro e4 w4 ⟨rfl,rfl⟩)
       |(go_at_call 156;(with_reducible refine(zbb _ q.den _ HN2.o).mono ?_);rw[HM2.o];rintro e5 w5 ⟨rfl,rfl⟩))
      go_ret;exact⟨by rw[HEND.o false (by simp;intro _ _;omega)];rfl,HB3.o⟩
    ·have e3:decide (((m1:Nat):Int)<=32)=false:=zDF zO
     go_wp2_with (first
      |(go_at_call 156;(with_reducible refine(zbb _ q.num.natAbs _ HN1.o).mono ?_);rw[HM1.o];rintro e4 w4 ⟨rfl,rfl⟩)
      |(go_at_call 156;(with_reducible refine(zbb _ q.den _ HN2.o).mono ?_);rw[HM2.o];rintro e5 w5 ⟨rfl,rfl⟩))
     go_ret;exact⟨by rw[HEND.o false (by simp;intro _ _;omega)];rfl,HB3.o⟩
 ·have HRED:zI (∀w0 vx,zzb w0 vx s n d->Calls Tryz.prog 89 #[vx] w0 (λ e w'=>e= .returned (.tuple #[.agg #[.bool false, .slice none 0 0, .slice none 0 0], .int .i64 1])/\Below w0.heap.size w0 w')):=zH (λ w0 vx h=>by
   refine(zyg vx _ _ _ w0 h).mono ?_;rintro e w' ⟨v,er,rfl,hb,_,h1⟩;obtain⟨rfl,rfl⟩:=h1 hk;exact⟨rfl,hb⟩)
  have HF:zI (decide (zlk s n d)=false):=zH (zDF (λ h=>hk h.1));clear hk;go_enter Tryz.func86,Tryz.ntmps86
  go_wp2_with (first
   |(go_at_call 89;(with_reducible refine(HRED.o _ _ HA.o).mono ?_);rintro e3 w3 ⟨rfl,hb3⟩;have HB3:=zH (zaa HB.o (zaa hb3 (zca w3 (.cells #[.bool false, .slice none 0 0, .slice none 0 0] 38))))))
  go_ret;exact⟨by rw[HF.o];rfl,HB3.o⟩
end Go.Proofs.YtlpdkbmmbdfoiaaGreat
