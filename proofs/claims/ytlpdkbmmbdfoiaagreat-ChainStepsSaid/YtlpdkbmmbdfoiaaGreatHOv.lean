/-
  Fractions over one denominator: sums, products, weights. No program is named here.
-/
import Derived.Test.YtlpdkbmmbdfoiaaGreatHOrd
import Derived.Test.YtlpdkbmmbdfoiaaGreatHRb8
import Derived.Test.YtlpdkbmmbdfoiaaGreatHGn
import Derived.Lib.OwnKind
set_option linter.unusedVariables false
set_option linter.unusedSimpArgs false
namespace Go.Proofs.YtlpdkbmmbdfoiaaGreat
open Go.RowKit
section
variable {P:Program} {md:Region.Mode} {ops:Array Oper} {Q:Exit→Act→World→Prop} {S:World→Prop} {z:Nat}
def wpL (P:Program) (md:Region.Mode) (ops:Array Oper) (Q:Exit→Act→World→Prop) (S:World→Prop) (z:Nat):Nat→Array Bool→Act→World→Prop
 | 0,l,a,w=>Region.ready md ops l= []∧Q .normal a w
 | k+1,l,a,w=>(Region.ready md ops l= []→Q .normal a w)∧∀i∈Region.ready md ops l,wpOp P ops Q i (fun b v=>((l.setIfInBounds i true).getD z false=false→S v)∧wpL P md ops Q S z k (l.setIfInBounds i true) b v) a w
theorem wpL.any :∀ (k:Nat) (l:Array Bool) (a:Act) (w:World),wpL P md ops Q S z k l a w→wpAny P md ops Q k l a w
 | 0,_,_,_,h=>h
 | k+1,_,_,_,h=>⟨h.1,fun i hi=>wpOp_mono (fun b v g=>wpL.any k _ b v g.2) (h.2 i hi)⟩
theorem wpL.first {i:Nat} {o:Oper} {v:Value} (hi:ops[i]? =some o) (hs:Region.noSelect ops=true) (hw:waitT md ops i 14 z=true) (hQ:∀c a w,Q (.panic c) (a.put o.dst v) w→Q (.panic c) a w):
 ∀ (k:Nat) (l:Array Bool) (a:Act) (w:World),Shut md ops l→l.getD z false=false→(∀j p,ops[j]? =some p→j≠i→l.getD j true=false→(∀e∈p.after,Region.binds md e=true→e.on≠i)→o.apart ops p=true)→
  i∈Region.ready md ops l→YieldsIf P ops S o v a→S w→wpL P md ops Q S z k (l.setIfInBounds i true) (a.put o.dst v) w→wpL P md ops Q S z (k+1) l a w
 | 0,l,a,w,_,_,_,hr,hy,hS,H=>by
   refine⟨(fun h=>by rw[h]at hr;cases hr),fun j hj=> ?_⟩
   by_cases e:j=i
   ·subst e;exact hy.wpOp hi hS ⟨fun _=>hS,H⟩
   ·have h1:=ready_mono hj e
    rw[H.1]at h1
    cases h1
 | k+1,l,a,w,hsh,hlz,hfr,hr,hy,hS,H=>by
   refine⟨(fun h=>by rw[h]at hr;cases hr),fun j hj=> ?_⟩
   by_cases e:j=i
   ·subst e;exact hy.wpOp hi hS ⟨fun _=>hS,H⟩
   ·obtain⟨hun,p,hp,_⟩:=mem_ready.1 hj
    have hno:=zeh hj hr hp
    have hjz:j≠z:=by
     intro hjz
     subst hjz
     obtain⟨_,p',hp',hall⟩:=mem_ready.1 hj
     exact zqg (zng hsh 14 j p' hw hp' hall) (mem_ready.1 hr).1
    have hiz:i≠z:=by
     intro hiz
     subst hiz
     obtain⟨_,p',hp',hall⟩:=mem_ready.1 hr
     exact zqg (zng hsh 14 i p' hw hp' hall) (mem_ready.1 hr).1
    have hz1:(l.setIfInBounds j true).getD z false=false:=by rw[getD_set_ne false hjz];exact hlz
    have hz2:((l.setIfInBounds i true).setIfInBounds j true).getD z false=false:=by rw[getD_set_ne false hjz,getD_set_ne false hiz];exact hlz
    have hsel:=fun(j:Nat) (o:Oper) cs b (h:ops[j]? =some o)=>Region.noSelect_spec hs j o cs b h
    have h2:=wpOp_putIf hp (hfr j p hp e hun hno) (fun cs b=>hsel i o cs b hi) (fun cs b=>hsel j p cs b hp) hQ hy (H.2 j (ready_mono hj e))
    refine wpOp_mono (fun b u g=>⟨fun _=>g.2.1 hz2,wpL.first hi hs hw hQ k (l.setIfInBounds j true) b u (hsh.set hj) hz1 ?_ (ready_mono hr (Ne.symm e)) g.1 (g.2.1 hz2) ?_⟩) h2
    ·intro x q hq hxi hxl hxw
     refine hfr x q hq hxi ?_ hxw
     by_cases hjx:j=x
     ·subst hjx;exact hun
     ·rwa[getD_set_ne true hjx]at hxl
    ·rw[Array.setIfInBounds_comm _ _ e]
     exact g.2.2
theorem wpL.firstU {i:Nat} {o:Oper} {v:Value} (hi:ops[i]? =some o) (hs:Region.noSelect ops=true) (hiz:i≠z) (hQ:∀c a w,Q (.panic c) (a.put o.dst v) w→Q (.panic c) a w):
 ∀ (k:Nat) (l:Array Bool) (a:Act) (w:World),Shut md ops l→(∀j p,ops[j]? =some p→j≠i→l.getD j true=false→(∀e∈p.after,Region.binds md e=true→e.on≠i)→o.apart ops p=true)→
  i∈Region.ready md ops l→YieldsIf P ops (fun _=>True) o v a→(l.getD z false=false→S w)→wpL P md ops Q S z k (l.setIfInBounds i true) (a.put o.dst v) w→wpL P md ops Q S z (k+1) l a w
 | 0,l,a,w,_,_,hr,hy,hS,H=>by
   refine⟨(fun h=>by rw[h]at hr;cases hr),fun j hj=> ?_⟩
   by_cases e:j=i
   ·subst e;exact hy.wpOp hi trivial ⟨fun h=>hS (by rwa[getD_set_ne false hiz]at h),H⟩
   ·have h1:=ready_mono hj e
    rw[H.1]at h1
    cases h1
 | k+1,l,a,w,hsh,hfr,hr,hy,hS,H=>by
   refine⟨(fun h=>by rw[h]at hr;cases hr),fun j hj=> ?_⟩
   by_cases e:j=i
   ·subst e;exact hy.wpOp hi trivial ⟨fun h=>hS (by rwa[getD_set_ne false hiz]at h),H⟩
   ·obtain⟨hun,p,hp,_⟩:=mem_ready.1 hj
    have hno:=zeh hj hr hp
    have hsel:=fun(j:Nat) (o:Oper) cs b (h:ops[j]? =some o)=>Region.noSelect_spec hs j o cs b h
    have h2:=wpOp_putIf hp (hfr j p hp e hun hno) (fun cs b=>hsel i o cs b hi) (fun cs b=>hsel j p cs b hp) hQ hy (H.2 j (ready_mono hj e))
    have hzz:(l.setIfInBounds j true).getD z false=false→((l.setIfInBounds i true).setIfInBounds j true).getD z false=false:=fun h=>by
     rw[←Array.setIfInBounds_comm _ _ e,getD_set_ne false hiz];exact h
    refine wpOp_mono (fun b u g=>⟨fun h=>g.2.1 (hzz h),wpL.firstU hi hs hiz hQ k (l.setIfInBounds j true) b u (hsh.set hj) ?_ (ready_mono hr (Ne.symm e)) g.1 (fun h=>g.2.1 (hzz h)) ?_⟩) h2
    ·intro x q hq hxi hxl hxw
     refine hfr x q hq hxi ?_ hxw
     by_cases hjx:j=x
     ·subst hjx;exact hun
     ·rwa[getD_set_ne true hjx]at hxl
    ·rw[Array.setIfInBounds_comm _ _ e]
     exact g.2.2
theorem wpL.take (i:Nat) {fuel:Nat} {l:Array Bool} {a:Act} {w:World} (hs:Region.noSelect ops=true) (hw:waitT md ops i 14 z=true) (hz:l.getD z false=false) (hc:shutB md ops l=true) (hf:Region.free md ops l i=true) (hr:(Region.ready md ops l).contains i=true) (hS:S w) (hi:(ops[i]?).isSome=true)
 (h:∀o,ops[i]? =some o→∃v,(∀c a w,Q (.panic c) (a.put o.dst v) w→Q (.panic c) a w)∧YieldsIf P ops S o v a∧wpL P md ops Q S z fuel (l.setIfInBounds i true) (a.put o.dst v) w):wpL P md ops Q S z (fuel+1) l a w:=by
 obtain⟨o,ho⟩:=Option.isSome_iff_exists.1 hi
 obtain⟨v,h1,h2,h3⟩:=h o ho
 exact wpL.first ho hs hw h1 fuel l a w (zri hc) hz (Region.free_spec ho hf) (by simpa using hr) h2 hS h3
theorem wpL.takeU (i:Nat) {fuel:Nat} {l:Array Bool} {a:Act} {w:World} (hs:Region.noSelect ops=true) (hiz:Nat.beq i z=false) (hc:shutB md ops l=true) (hf:Region.free md ops l i=true) (hr:(Region.ready md ops l).contains i=true) (hS:S w) (hi:(ops[i]?).isSome=true)
 (h:∀o,ops[i]? =some o→∃v,(∀c a w,Q (.panic c) (a.put o.dst v) w→Q (.panic c) a w)∧YieldsIf P ops (fun _=>True) o v a∧wpL P md ops Q S z fuel (l.setIfInBounds i true) (a.put o.dst v) w):wpL P md ops Q S z (fuel+1) l a w:=by
 obtain⟨o,ho⟩:=Option.isSome_iff_exists.1 hi
 obtain⟨v,h1,h2,h3⟩:=h o ho
 exact wpL.firstU ho hs (fun e=>by subst e;rw[Nat.beq_refl]at hiz;cases hiz) h1 fuel l a w (zri hc) (Region.free_spec ho hf) (by simpa using hr) h2 (fun _=>hS) h3
theorem wpL.one (k:Nat) {fuel:Nat} {l:Array Bool} {a:Act} {w:World} (hr:Region.ready md ops l= [k]) (hi:(ops[k]?).isSome=true)
 (h:∀o,ops[k]? =some o→∀K:Act→World→Prop,Hid (∀b v,((l.setIfInBounds k true).getD z false=false→S v)→wpL P md ops Q S z fuel (l.setIfInBounds k true) b v→K b v)→if Region.wanted o (yielded ops a.tmps)=true then o.wp P a w K Q else K (a.put o.dst undef) w):wpL P md ops Q S z (fuel+1) l a w:=by
 obtain⟨o,ho⟩:=Option.isSome_iff_exists.1 hi
 refine⟨(fun h0=>by rw[hr]at h0;cases h0),fun j hj=> ?_⟩
 rw[hr]at hj
 obtain rfl:j=k:=by simpa using hj
 have h1:=h o ho _ (zH fun b v h2 h3=>(⟨h2,h3⟩:((l.setIfInBounds j true).getD z false=false→S v)∧_))
 unfold wpOp
 simp only[ho]
 by_cases hw:Region.wanted o (yielded ops a.tmps)=true
 ·rw[if_pos hw]at h1 ⊢
  exact Or.inl h1
 ·rw[if_neg hw]at h1 ⊢
  exact h1
theorem wpL.done {l:Array Bool} {a:Act} {w:World} (hr:Region.ready md ops l= []) (h:Q .normal a w):∀fuel,wpL P md ops Q S z fuel l a w
 | 0=>⟨hr,h⟩
 | _+1=>⟨fun _=>h,by rw[hr];simp⟩
theorem wpL.start {id:Nat} {a:Act} {w:World} (z:Nat) (S:World→Prop) (hm:P.follows .mixedOrders=true) (hS:S w.drew) (h:S w.drew→wpL P .any ops Q S z ops.size (Array.replicate ops.size false) a w.drew):(Code.region id ops true).wp P Q a w:=
 wp_region_any hm (wpL.any _ _ _ _ (h hS))
end
section
variable {P:Program} {md:Region.Mode} {ops:Array Oper} {Q:Exit→Act→World→Prop} {S:World→Prop} {z:Nat} {fuel:Nat} {l l':Array Bool} {a a':Act} {w:World} {o:Oper} {v:Value}
theorem wpL.t (i:Nat) (h:wpL P md ops Q S z fuel l' a' w) (ho:ops[i]? =some o:=by(simp only[List.getElem?_toArray,List.getElem?_cons_succ,List.getElem?_cons_zero];rfl)) (hs:Region.noSelect ops=true:=by kernel_rfl) (hw:waitT md ops i 14 z=true:=by kernel_rfl) (hz:l.getD z false=false:=by kernel_rfl) (hc:shutB md ops l=true:=by kernel_rfl) (hf:Region.free md ops l i=true:=by kernel_rfl) (hr:(Region.ready md ops l).contains i=true:=by kernel_rfl) (hS:S w:=by assumption)
 (hQ:∀c a w,Q (.panic c) (a.put o.dst v) w→Q (.panic c) a w:=by exact fun _ _ _ h=>h) (hy:YieldsIf P ops S o v a:=by first | exact Or.inr ⟨by rfl,rfl⟩ | (refine Or.inl ⟨by rfl,?_⟩;intro w hSw;(try dsimp only at hSw);go_simp;try with_reducible rfl))
 (hl:l.setIfInBounds i true=l':=by((try simp only[List.setIfInBounds_toArray,List.set_cons_zero,List.set_cons_succ]);rfl)) (ha:a.put o.dst v=a':=by(simp only[Act.put,List.setIfInBounds_toArray,List.set_cons_zero,List.set_cons_succ];rfl)):wpL P md ops Q S z (fuel+1) l a w:=by
 subst hl ha
 exact wpL.first ho hs hw hQ fuel l a w (zri hc) hz (Region.free_spec ho hf) (by simpa using hr) hy hS h
theorem wpL.u (i:Nat) (h:wpL P md ops Q S z fuel l' a' w) (ho:ops[i]? =some o:=by(simp only[List.getElem?_toArray,List.getElem?_cons_succ,List.getElem?_cons_zero];rfl)) (hs:Region.noSelect ops=true:=by kernel_rfl) (hiz:Nat.beq i z=false:=by kernel_rfl) (hc:shutB md ops l=true:=by kernel_rfl) (hf:Region.free md ops l i=true:=by kernel_rfl) (hr:(Region.ready md ops l).contains i=true:=by kernel_rfl) (hS:S w:=by assumption)
 (hQ:∀c a w,Q (.panic c) (a.put o.dst v) w→Q (.panic c) a w:=by exact fun _ _ _ h=>h) (hy:YieldsIf P ops (fun _=>True) o v a:=by first | exact Or.inr ⟨by rfl,rfl⟩ | (refine Or.inl ⟨by rfl,?_⟩;intro w hSw;(try dsimp only at hSw);go_simp;try with_reducible rfl))
 (hl:l.setIfInBounds i true=l':=by((try simp only[List.setIfInBounds_toArray,List.set_cons_zero,List.set_cons_succ]);rfl)) (ha:a.put o.dst v=a':=by(simp only[Act.put,List.setIfInBounds_toArray,List.set_cons_zero,List.set_cons_succ];rfl)):wpL P md ops Q S z (fuel+1) l a w:=by
 subst hl ha
 exact wpL.firstU ho hs (fun e=>by subst e;rw[Nat.beq_refl]at hiz;cases hiz) hQ fuel l a w (zri hc) (Region.free_spec ho hf) (by simpa using hr) hy (fun _=>hS) h
theorem wpL.oo (k:Nat) (h:∀K:Act→World→Prop,Hid (∀b v,((l.setIfInBounds k true).getD z false=false→S v)→wpL P md ops Q S z fuel (l.setIfInBounds k true) b v→K b v)→if Region.wanted o (yielded ops a.tmps)=true then o.wp P a w K Q else K (a.put o.dst undef) w)
 (ho:ops[k]? =some o:=by(simp only[List.getElem?_toArray,List.getElem?_cons_succ,List.getElem?_cons_zero];rfl)) (hr:Region.ready md ops l= [k]:=by kernel_rfl):wpL P md ops Q S z (fuel+1) l a w:=
 wpL.one k hr (by rw[ho];rfl) fun o' h'=>by rw[ho]at h';injection h' with h';subst h';exact h
end
set_option maxRecDepth 100000 in
set_option maxHeartbeats 1600000 in
theorem r2sub_can (va vb:Value) (p q:Rat) (w:World) (ha:zqa w va p) (hb:zqa w vb q) (hp:fits p) (hq:fits q) (hf:fits (p-q)):Calls Tryz.prog 39 #[va,vb] w (RF0 w (p-q)):=by
 obtain⟨ta,x0,y0,rfl,⟨a1,a2,a3,rfl,_⟩,⟨a4,a5,a6,rfl,_⟩⟩:=ha.isF
 obtain⟨tb,x1,y1,rfl,⟨b1,b2,b3,rfl,_⟩,⟨b4,b5,b6,rfl,_⟩⟩:=hb.isF
 obtain⟨hA,hB,hR,hbw⟩:=zmc w 38 (.bool ta) (.slice a1 a2 a3) (.slice a4 a5 a6) (.bool tb) (.slice b1 b2 b3) (.slice b4 b5 b6) (.bool false) (.slice none 0 0) (.slice none 0 0) _ rfl
 have HA:=zH (ha.below hbw)
 have HB:=zH (hb.below hbw)
 have HC1:=zH hA
 have HC2:=zH hB
 have HC3:=zH hR
 have HBW:=zH hbw
 have HN:Hid (fits (-q)):=zH ⟨by rw[Rat.neg_num,Int.natAbs_neg];exact hq.1,hq.2⟩
 have HP:=zH hp
 have HE:Hid (p+ -q=p-q):=zH (Rat.sub_eq_add_neg p q).symm
 have HF:Hid (fits (p+ -q)):=zH (by rw[HE.out];exact hf)
 rw[←HE.out]
 clear hA hB hR hbw ha hb hp hq hf
 go_enter Tryz.func39,Tryz.ntmps39
 go_upto_region 1 with fail
 generalize ((w.alloc (.cells #[.bool ta, .slice a1 a2 a3, .slice a4 a5 a6] 38)).alloc (.cells #[.bool tb, .slice b1 b2 b3, .slice b4 b5 b6] 38)).alloc (.cells #[.bool false, .slice none 0 0, .slice none 0 0] 38)=W2 at *
 obtain⟨_,c0,c1,c2,_,_,_⟩:=HC1.out
 obtain⟨_,d0,d1,d2,_,_,_⟩:=HC2.out
 have hbD:=zja (B:=W2.heap.size) W2
 have HAD:=zH (HA.out.below hbD)
 have HBD:=zH (HB.out.below hbD)
 have HRD:=zH (HC3.out.belowS hbD)
 have HWD:=zH (zaa HBW.out hbD)
 refine wpL.start 6 (fun w'=>w'.cell? ⟨w.heap.size,0,none⟩=some (.bool ta)∧w'.cell? ⟨w.heap.size,1,none⟩=some (.slice a1 a2 a3)∧w'.cell? ⟨w.heap.size,2,none⟩=some (.slice a4 a5 a6)∧w'.cell? ⟨w.heap.size+1,0,none⟩=some (.bool tb)∧w'.cell? ⟨w.heap.size+1,1,none⟩=some (.slice b1 b2 b3)∧w'.cell? ⟨w.heap.size+1,2,none⟩=some (.slice b4 b5 b6)) (by kernel_rfl) ⟨zba hbD c0,zba hbD c1,zba hbD c2,zba hbD d0,zba hbD d1,zba hbD d2⟩ (fun hHeld=> ?_)
 clear c0 c1 c2 d0 d1 d2 hbD HA HB HC1 HC2 HC3 HBW
 generalize W2.drew=wd at *
 refine wpL.t 0 ?_
 refine wpL.t 1 ?_
 (refine wpL.oo 2 ?_;intro K hK)
 refine zxa 105 #[.agg #[.bool tb, .slice b1 b2 b3, .slice b4 b5 b6]] ?_ ?_ (r2opp_can _ _ _ HBD.out) ?_
 ·rfl
 ·go_simp
 rintro e7 w7 ⟨v7,rfl,hv7,hb7⟩
 have hH7:=And.intro (zba hb7 hHeld.1) (And.intro (zba hb7 hHeld.2.1) (And.intro (zba hb7 hHeld.2.2.1) (And.intro (zba hb7 hHeld.2.2.2.1) (And.intro (zba hb7 hHeld.2.2.2.2.1) (zba hb7 hHeld.2.2.2.2.2)))))
 refine⟨_,rfl,?_⟩
 refine hK.out _ _ (fun _=>hH7) ?_
 have HA7:=zH (HAD.out.below hb7)
 have HR7:=zH (HRD.out.belowS hb7)
 have HW7:=zH (zaa HWD.out hb7)
 clear hK K hHeld HAD HBD HRD HWD hb7
 try simp only[Act.put,List.setIfInBounds_toArray,List.set_cons_zero,List.set_cons_succ]
 (refine wpL.oo 3 ?_;intro K hK)
 refine zxa 19 #[.agg #[.bool ta, .slice a1 a2 a3, .slice a4 a5 a6],v7] ?_ ?_ (r2add_can _ _ _ _ _ HA7.out hv7 HP.out HN.out HF.out) ?_
 ·rfl
 ·go_simp
 rintro e8 w8 ⟨v8,rfl,hv8,hb8⟩
 obtain⟨t8,x8,y8,rfl,⟨a81,l81,k81,rfl,_⟩,⟨a82,l82,k82,rfl,_⟩⟩:=hv8.isF
 have hH8:=And.intro (zba hb8 hH7.1) (And.intro (zba hb8 hH7.2.1) (And.intro (zba hb8 hH7.2.2.1) (And.intro (zba hb8 hH7.2.2.2.1) (And.intro (zba hb8 hH7.2.2.2.2.1) (zba hb8 hH7.2.2.2.2.2)))))
 refine⟨_,rfl,?_⟩
 refine hK.out _ _ (fun _=>hH8) ?_
 have HR8:=zH (HR7.out.belowS hb8)
 have HW8:=zH (zaa HW7.out hb8)
 clear hK K hH7 HA7 HR7 HW7 hb8
 try simp only[Act.put,List.setIfInBounds_toArray,List.set_cons_zero,List.set_cons_succ]
 have hHeld:=hH8
 refine wpL.u 4 ?_
 refine wpL.u 5 ?_
 clear hHeld
 obtain⟨_,g0,g1,g2,f0,f1,f2⟩:=HR8.out
 (refine wpL.oo 6 ?_;intro K hK)
 rw[if_pos (by rfl)]
 go_simp
 refine hK.out _ _ (fun h=>by first | cases h | simp at h) ?_
 clear hK K hH8 g0 g1 g2 f0 f1 f2
 try simp only[Act.put,List.setIfInBounds_toArray,List.set_cons_zero,List.set_cons_succ]
 (refine wpL.oo 7 ?_;intro K hK)
 rw[if_pos (by rfl)]
 go_simp
 refine hK.out _ _ (fun h=>by first | cases h | simp at h) ?_
 clear hK K
 refine wpL.done (by kernel_rfl) ?_ _
 try simp only[Act.put,List.setIfInBounds_toArray,List.set_cons_zero,List.set_cons_succ]
 go_wp2_with fail
 refine zoa rfl rfl Tryz.aggF Tryz.sizeF (HR8.out.set _ _ _) rfl ?_
 exact⟨_,rfl,hv8.set3 HR8.out (fun z=>by simp) (fun z=>by simp) _ _ _,zga HW8.out (Nat.le_trans (Nat.le_succ _) (Nat.le_succ _)) _ _ _⟩
def zlb (w:World) (v:Value):Prop:=∀g,v.ownBlock=some g→∀cur e fz,w.heap[g]? =some (.cells cur e fz)→∀c∈cur.toList,∀z,c≠ .int .u32 z
theorem zlb.nil (w:World):zlb w (.slice none 0 0):=fun g h=>by cases h
theorem zai {z:Array Value} {n:Nat} {c:Value} (h:c∈(Builtin.zeroCells z n).toList):c∈z.toList:=by
 unfold Builtin.zeroCells at h
 simp at h
 obtain⟨a,h1,h2⟩:=h
 have hz:0<z.size:=Nat.pos_of_ne_zero (fun h=>by rw[h]at h1;omega)
 rw[getElem!_pos z (a%z.size) (Nat.mod_lt _ hz)]at h2
 rw[←h2]
 simp
theorem zwd {P:Program} (w:World) (B:Nat) (t ty e:TypeId) (i:TypeInfo) (z:Value) (size bytes:Nat) (ht:P.underlying t=some (.slice e)) (hi:P.info? e=some i) (hz:i.zero=some z)
 (hsize:i.size=size) (hby:i.bytes=bytes) (hzs:z.cells.size=size) (hsz:0<size)
 (v:Value) (n:Nat) (xs:List Value) (hown:w.ownsRow B e size v n xs) (a:Addr) (m c:Nat) (news:List Value) (hl:news.length=m*size)
 (hnews:∀j u,news[j]? =some u→w.cell? (a.add j)=some u) (h1:∀u∈news,u.oneCell'=true)
 (h63:n+m≤maxLen) (hbytes:(n+m)*bytes≤140737488355328) (hbase:B≤w.heap.size)
 (hnl:zlb w v) (hnn:∀c∈news,∀z,c≠ .int .u32 z) (hnz:∀c∈z.cells.toList,∀z,c≠ .int .u32 z):
 ∃v' w',(Builtin.append_ #[t,t] ty #[v, .slice (some a) m c]).run P w= .ok v' w'∧w'.ownsRow B e size v' (n+m) (xs++news)∧w.grownBy w' v.ownBlock∧
  (v'.ownBlock=v.ownBlock∨v'.ownBlock=some w.heap.size)∧zlb w' v':=by
 obtain⟨v',w',h2,h3,h4,_⟩:=run_append_own (P:=P) w B t ty e i z size bytes ht hi hz hsize hby hzs hsz v n xs hown a m c news hl hnews h1 h63 hbytes hbase
 refine⟨v',w',h2,h3,h4,?_⟩
 have fresh:∀ (cs:Array Value) (k kc:Nat),(∀c∈cs.toList,∀z,c≠ .int .u32 z)→zlb (w.drew.alloc (.cells cs e)) (.slice (some ⟨w.heap.size,0,none⟩) k kc):=by
  intro cs k kc h g' hg' cur' e' fz' hc' c hc
  simp only[Value.ownBlock,Option.some.injEq]at hg'
  subst hg'
  rw[show(w.drew.alloc (.cells cs e)).heap[w.heap.size]? =some (.cells cs e (0,0))from heap_alloc_new w.drew _]at hc'
  injection hc' with hc'
  injection hc' with hc' _
  subst hc'
  exact h c hc
 have hsmall:n+m≤9223372036854775807:=by simp only[maxLen]at h63;omega
 rcases hown.2 with⟨rfl,rfl⟩ | ⟨g,cap,cur,rfl,hbg,hg,hnc,hcm,hcs,htake⟩
 ·have hx:xs= []:=List.eq_nil_of_length_eq_zero (by simpa using hown.1)
  subst hx
  by_cases hm:m=0
  ·subst hm
   refine(fun h=>⟨Or.inl (by rw[h]),by rw[h];exact zlb.nil _⟩:v'= .slice none 0 0→_) ?_
   rcases h3.2 with⟨rfl,_⟩ | ⟨g,cap,cur,rfl,_,_,h5,_⟩
   ·rfl
   ·exfalso
    have hn:news= []:=List.eq_nil_of_length_eq_zero (by simpa using hl)
    subst hn
    have hr:(Builtin.append_ #[t,t] ty #[.slice none 0 0, .slice (some a) 0 c]).run P w= .ok (.slice none 0 0) w:=by
     simp[Builtin.append_,run_underlying ht,sizeOf,typeInfo,hi,Builtin.lenOf,Builtin.firstCells,loadCells,loadCellsFrom]
    rw[hr]at h2
    injection h2 with h2 _
    cases h2
  ·have hr:=run_append_nil (P:=P) w t ty e i z ht hi hz a m c news (by rw[hl,hsize]) hnews (by omega) (by omega) (by rw[hby];have hb:=hbytes;simp only[Nat.zero_add]at hb;omega)
   rw[hr]at h2
   injection h2 with h2 h2w
   refine⟨Or.inr (by rw[←h2];rfl),?_⟩
   rw[←h2,←h2w]
   exact fresh _ _ _ (fun c hc=>by
    simp only[Array.toList_append,List.mem_append]at hc
    rcases hc with h | h
    ·exact hnn c h
    ·exact hnz c (zai h))
 ·by_cases hroom:n+m≤cap
  ·have hfit:n*i.size+news.length≤cur.size:=by rw[hl,hcs,hsize,←Nat.add_mul];exact Nat.mul_le_mul_right _ hroom
   have hr:=run_append_room (P:=P) w t ty e i ht hi g n cap cur hg a m c news (by rw[hl,hsize]) hnews h1 hroom hfit
   rw[hr]at h2
   injection h2 with h2 h2w
   refine⟨Or.inl (by rw[←h2];rfl),?_⟩
   rw[←h2,←h2w]
   intro g' hg' cur' e' fz' hc' c hc
   simp only[Value.ownBlock,Option.some.injEq]at hg'
   subst hg'
   rw[setRow_heap w g cur _ e _ hg]at hc'
   injection hc' with hc'
   injection hc' with hc' _
   subst hc'
   have hcc:=hnl g rfl cur e _ hg
   simp only[List.mem_append]at hc
   rcases hc with(h | h) | h
   ·exact hcc c (List.mem_of_mem_take h)
   ·exact hnn c h
   ·exact hcc c (List.mem_of_mem_drop h)
  ·have holds:∀j u,xs[j]? =some u→w.cell? ((⟨g,0,none⟩:Addr).add j)=some u:=hown.cells (g:=g) rfl
   have hr:=run_append_grow (P:=P) w t ty e i z ht hi hz ⟨g,0,none⟩ n cap xs (by rw[hown.1,hsize]) holds a m c news (by rw[hl,hsize]) hnews (by omega) (by omega) (growslice_fits (by omega) (by rw[hby];exact hbytes))
   rw[hr]at h2
   injection h2 with h2 h2w
   refine⟨Or.inr (by rw[←h2];rfl),?_⟩
   rw[←h2,←h2w]
   have hcc:=hnl g rfl cur e _ hg
   rw[←htake]
   exact fresh _ _ _ (fun c hc=>by
    simp only[Array.toList_append,List.mem_append]at hc
    rcases hc with(h | h) | h
    ·exact hcc c (List.mem_of_mem_take h)
    ·exact hnn c h
    ·exact hnz c (zai h))
structure zlc (w:World) (e:TypeId) (B size:Nat) (v:Value) (n:Nat) (xs:List Value):Prop where
 own:w.ownsRow B e size v n xs
 nl:zlb w v
section
variable {w:World} {e:TypeId} {B size n:Nat} {v:Value} {xs:List Value}
theorem zlc.nil (w:World) (e:TypeId) (B size:Nat):zlc w e B size (.slice none 0 0) 0 []:=⟨World.ownsRow_nil w B e size,zlb.nil _⟩
theorem zlc.sl (h:zlc w e B size v n xs):zgc v:=by
 rcases h.own.2 with⟨rfl,h0⟩ | ⟨g,cap,cur,rfl,hb,hg,hn,hm,hs,ht⟩
 ·exact zgc.nil
 ·exact⟨_,_,_,rfl,hn,hm,fun e=>by cases e⟩
theorem zlc.len (h:zlc w e B size v n xs):slen v=n:=by
 rcases h.own.2 with⟨rfl,h0⟩ | ⟨g,cap,cur,rfl,hb,hg,hn,hm,hs,ht⟩
 ·rw[h0];rfl
 ·rfl
theorem zlc.clen (h:zlc w e B size v n xs):xs.length=n*size:=h.own.1
theorem zlc.cell (h:zlc w e B size v n xs) (j:Nat) (hj:j<xs.length):w.cell? (ptr v j)=some xs[j]:=by
 have hl:=h.own.1
 obtain⟨ho,_⟩:=h
 rcases ho.2 with⟨rfl,h0⟩ | ⟨g,cap,cur,rfl,hb,hg,hn,hm,hs,ht⟩
 ·rw[h0]at hl;omega
 ·have:=World.ownsRow.cellAt ho j (by omega)
  simp only[ptr,base,Addr.add_lit,Nat.zero_add]
  rw[this,List.getElem?_eq_getElem hj]
theorem zlc.grown {w':World} {row:Option Nat} (h:zlc w e B size v n xs) (hg:w.grownBy w' row) (hne:v.ownBlock=none∨v.ownBlock≠row):zlc w' e B size v n xs:=by
 refine⟨World.ownsRow.kept h.own hg hne,fun g hgv cur e' fz hc c hcc=> ?_⟩
 have hlt:=(World.ownsRow.lt h.own g hgv).2
 rw[hg.block g hlt (by rw[←hgv];rcases hne with h1 | h1;· rw[h1]at hgv;cases hgv
                       ·exact h1)]at hc
 exact h.nl g hgv cur e' fz hc c hcc
theorem zlc.below {w':World} (h:zlc w e B size v n xs) (hb:Below w.heap.size w w'):zlc w' e B size v n xs:=
 h.grown (zze hb) (by cases hv:v.ownBlock<;>simp)
theorem zlc.block (h:zlc w e B size v n xs):∀k,v.ownBlock=some k→B≤k∧k<w.heap.size:=World.ownsRow.lt h.own
theorem zfc.grownR {w':World} {row:Option Nat} {x:Value} {l:List Nat} (h:zfc w x l) (hg:w.grownBy w' row) (hn:∀v,v.ownBlock=row→zlb w v):zfc w' x l:=by
 refine⟨h.sl,h.len,fun j hj=> ?_,h.lm⟩
 have hc:=h.cell j hj
 refine hg.cell hc (fun e=> ?_)
 have h2:=hn (.slice (some ⟨(ptr x j).block,0,none⟩) 0 0) (by rw[←e];rfl) (ptr x j).block rfl
 unfold World.cell? at hc
 split at hc
 ·rename_i cur e' fz hh
  split at hc
  ·cases hc
  ·exact h2 cur e' fz hh _ (by have:=Array.mem_of_getElem? hc;simpa using this) _ rfl
 ·cases hc
theorem zlb.any {v u:Value} (h:zlb w v) (he:u.ownBlock=v.ownBlock):zlb w u:=fun g hg=>h g (by rw[←he];exact hg)
theorem zjb.grown {w':World} {x:Value} {m:Nat} (h:zjb w x m) (hg:w.grownBy w' v.ownBlock) (hn:zlb w v):zjb w' x m:=⟨h.1.grownR hg (fun u hu=>hn.any hu),h.2⟩
theorem zqa.grown {w':World} {x:Value} {q:Rat} (h:zqa w x q) (hg:w.grownBy w' v.ownBlock) (hn:zlb w v):zqa w' x q:=by
 obtain⟨a,b,rfl,h1,h2⟩:=h;exact⟨a,b,rfl,h1.grown hg hn,h2.grown hg hn⟩
end
theorem zwf {P:Program} (w0:World) {ops:Array Oper} {rest:List Oper} {o:Oper} {a:Act} {Q:Exit→Act→World→Prop} (hgd:o.guard=none) (s x:Operand) (t:TypeId)
 (ho:o.op= .call { callee:= .builtin .append,args:=#[s,x],argTypes:=#[t,t] })
 (B:Nat) (e e':TypeId) (i:TypeInfo) (z:Value) (size bytes:Nat) (ht:P.underlying t=some (.slice e)) (hi:P.info? e=some i) (hz:i.zero=some z)
 (hsize:i.size=size) (hby:i.bytes=bytes) (hzs:z.cells.size=size) (hsz:0<size) (hnz:∀c∈z.cells.toList,∀z,c≠ .int .u32 z)
 (v:Value) (n:Nat) (xs:List Value) (hs:a.eval s=v) (hown:zlc w0 e B size v n xs) (news:Array Value) (hns:news.size=size) (hxe:a.eval x= .slice (some ⟨w0.heap.size,0,none⟩) 1 1)
 (h1:∀u∈news.toList,u.oneCell'=true) (hnn:∀c∈news.toList,∀z,c≠ .int .u32 z)
 (h63:n+1≤maxLen) (hbytes:(n+1)*bytes≤140737488355328) (hbase:B≤w0.heap.size)
 (h:∀v' w',zlc w' e B size v' (n+1) (xs++news.toList)→w0.grownBy w' v.ownBlock→(v'.ownBlock=v.ownBlock∨v'.ownBlock=some (w0.heap.size+1))→wpList P ops Q rest (a.put o.dst v') w'):
 wpList P ops Q (o::rest) a (w0.alloc (.cells news e')):=by
 refine wpList_plain hgd fun K hK=> ?_
 have hg0:=World.grownBy_alloc w0 (.cells news e') (v.ownBlock)
 have hown1:=hown.below (zca w0 (.cells news e'))
 obtain⟨v',w',hr,h2,h3,h4,h5⟩:=zwd (P:=P) (w0.alloc (.cells news e')) B t o.type e i z size bytes ht hi hz hsize hby hzs hsz v n xs hown1.own ⟨w0.heap.size,0,none⟩ 1 1 news.toList (by simp[hns])
  (fun j u hu=>by
   have hc:=cell_of_row (w0.alloc (.cells news e')) w0.heap.size j news e' (0,0) (heap_alloc_new w0 _)
   rw[Addr.add_lit,Nat.zero_add,hc];simpa using hu) h1 h63 hbytes (by simp;omega) hown1.nl hnn hnz
 unfold Oper.wp execOp
 simp only[ho,resolve,invoke,builtin,Sem.run_bind,Sem.run_pure,Result.andThen_ok,List.map_toArray,List.map_cons,List.map_nil,hs,hxe,hr]
 exact hK _ _ (h v' w' ⟨h2,h5⟩ (zsc hg0 h3) (by simpa using h4))
structure zhb (B:Nat) (w w':World):Prop where
 size:w.heap.size≤w'.heap.size
 row:∀g,B≤g→g<w.heap.size→w'.heap[g]? =w.heap[g]?
 limb:∀p z,w.cell? p=some (.int .u32 z)→w'.cell? p=some (.int .u32 z)
theorem zhb.refl (B:Nat) (w:World):zhb B w w:=⟨Nat.le_refl _,fun _ _ _=>rfl,fun _ _ h=>h⟩
theorem zhb.trans {B:Nat} {a b c:World} (h:zhb B a b) (k:zhb B b c):zhb B a c:=
 ⟨Nat.le_trans h.size k.size,fun g h1 h2=>(k.row g h1 (Nat.lt_of_lt_of_le h2 h.size)).trans (h.row g h1 h2),fun p z hp=>k.limb p z (h.limb p z hp)⟩
theorem zhb.below {B:Nat} {w w':World} (h:Below w.heap.size w w'):zhb B w w':=⟨h.size,fun g _ h2=>h.block g h2,fun p z hp=>zba h hp⟩
theorem zhb.set {B:Nat} {w:World} {p:Addr} {x:Value} (hp:p.block<B) (hc:w.cell? p=some x) (hx:∀z,x≠ .int .u32 z) (u:Value):zhb B w (w.setCell p u):=by
 refine⟨by simp[World.setCell],fun g h1 h2=>Below.heap_setCell _ _ _ _ (by omega),fun q z hq=> ?_⟩
 rw[World.cell?_setCell_other]
 ·exact hq
 ·intro e
  rw[←e,hc]at hq
  injection hq with hq
  exact hx _ hq
theorem zfc.moves {B:Nat} {w w':World} {v:Value} {l:List Nat} (h:zfc w v l) (hm:zhb B w w'):zfc w' v l:=⟨h.sl,h.len,fun j hj=>hm.limb _ _ (h.cell j hj),h.lm⟩
theorem zjb.moves {B:Nat} {w w':World} {v:Value} {n:Nat} (h:zjb w v n) (hm:zhb B w w'):zjb w' v n:=⟨h.v.moves hm,h.2⟩
theorem zlc.moves {B B':Nat} {w w':World} {e:TypeId} {size n:Nat} {v:Value} {xs:List Value} (h:zlc w e B' size v n xs) (hm:zhb B w w') (hB:B≤B'):zlc w' e B' size v n xs:=by
 have hlt:=h.block
 refine⟨⟨h.own.1,?_⟩,fun g hg cur e' fz hc=> ?_⟩
 ·rcases h.own.2 with⟨rfl,h0⟩ | ⟨g,cap,cur,rfl,hb,hg,rest⟩
  ·exact .inl ⟨rfl,h0⟩
  ·refine .inr ⟨g,cap,cur,rfl,hb,?_,rest⟩
   rw[hm.row g (Nat.le_trans hB hb) (hlt g rfl).2];exact hg
 ·obtain⟨h1,h2⟩:=hlt g hg
  rw[hm.row g (Nat.le_trans hB h1) h2]at hc
  exact h.nl g hg cur e' fz hc
theorem zlc.kinds {w:World} {e e':TypeId} {B B' size size' n n':Nat} {v v':Value} {xs xs':List Value} (h:zlc w e B size v n xs) (h':zlc w e' B' size' v' n' xs') (hne:e≠e'):v.ownBlock=none∨v.ownBlock≠v'.ownBlock:=by
 cases hv:v.ownBlock with
 | none=>exact Or.inl rfl
 | some g=>
   refine Or.inr (fun he=> ?_)
   obtain⟨c,fz,h1⟩:=Lib.ownsRow_kind h.own g hv
   obtain⟨c',fz',h2⟩:=Lib.ownsRow_kind h'.own g he.symm
   rw[h1]at h2
   injection h2 with h2
   injection h2 with _ h2
   exact hne h2
def zwe (w:World) (xs:List Value) (q:List Rat):Prop:=
 ∀ (j:Nat) (h:j<q.length),∃a b,xs[j*3]? =some (.bool (decide (q[j]<0)))∧xs[j*3+1]? =some a∧xs[j*3+2]? =some b∧zjb w a q[j].num.natAbs∧zjb w b q[j].den
def zya (w:World) (e:TypeId) (B:Nat) (v:Value) (q:List Rat):Prop:=∃xs,zlc w e B 3 v q.length xs∧zwe w xs q
section
variable {w:World} {e:TypeId} {B:Nat} {v:Value} {q:List Rat}
theorem zya.nil (w:World) (e:TypeId) (B:Nat):zya w e B (.slice none 0 0) []:=⟨[],zlc.nil _ _ _ _,fun j h=>by simp at h⟩
theorem zya.fracs (h:zya w e B v q):zbb w v q:=by
 obtain⟨xs,h1,h2⟩:=h
 refine⟨h1.sl,h1.len,fun j hj=> ?_⟩
 obtain⟨a,b,e1,e2,e3,e4,e5⟩:=h2 j hj
 have hc:∀i u,xs[i]? =some u→w.cell? (ptr v i)=some u:=fun i u hi=>by
  obtain⟨h6,h7⟩:=List.getElem?_eq_some_iff.1 hi
  rw[h1.cell i h6,h7]
 exact⟨a,b,hc _ _ e1,hc _ _ e2,hc _ _ e3,e4,e5⟩
theorem zya.sl (h:zya w e B v q):zgc v:=h.fracs.sl
theorem zya.block (h:zya w e B v q):∀k,v.ownBlock=some k→B≤k∧k<w.heap.size:=by obtain⟨xs,h1,_⟩:=h;exact h1.block
theorem zya.moves {B':Nat} {w':World} (h:zya w e B v q) (hm:zhb B' w w') (hB:B'≤B):zya w' e B v q:=by
 obtain⟨xs,h1,h2⟩:=h
 refine⟨xs,h1.moves hm hB,fun j hj=> ?_⟩
 obtain⟨a,b,e1,e2,e3,e4,e5⟩:=h2 j hj
 exact⟨a,b,e1,e2,e3,e4.moves hm,e5.moves hm⟩
theorem zwe.grown {w':World} {u:Value} {xs:List Value} (h2:zwe w xs q) (hg:w.grownBy w' u.ownBlock) (hn:zlb w u):zwe w' xs q:=fun j hj=>by
 obtain⟨a,b,e1,e2,e3,e4,e5⟩:=h2 j hj
 exact⟨a,b,e1,e2,e3,e4.grown hg hn,e5.grown hg hn⟩
theorem zya.grown {w':World} {u:Value} (h:zya w e B v q) (hg:w.grownBy w' u.ownBlock) (hn:zlb w u) (hne:v.ownBlock=none∨v.ownBlock≠u.ownBlock):zya w' e B v q:=by
 obtain⟨xs,h1,h2⟩:=h
 exact⟨xs,h1.grown hg hne,h2.grown hg hn⟩
theorem zya.mono {B':Nat} (h:zya w e B v q) (hB:B'≤B):zya w e B' v q:=by
 obtain⟨xs,h1,h2⟩:=h
 refine⟨xs,⟨⟨h1.own.1,?_⟩,h1.nl⟩,h2⟩
 rcases h1.own.2 with h | ⟨g,cap,cur,rfl,hb,rest⟩
 ·exact .inl h
 ·exact .inr ⟨g,cap,cur,rfl,by omega,rest⟩
theorem zwe.snoc {xs:List Value} (h2:zwe w xs q) (hl:xs.length=q.length*3) {x y z:Value} {r:Rat} (hf:zqa w (.agg #[x,y,z]) r):zwe w (xs++ [x,y,z]) (q++ [r]):=by
 intro j hj
 obtain⟨a,b,ha,h4,h5⟩:=hf
 injection ha with ha
 injection ha with ha
 simp only[List.cons.injEq,and_true]at ha
 obtain⟨rfl,rfl,rfl⟩:=ha
 rcases Nat.lt_or_ge j q.length with h | h
 ·obtain⟨a,b,e1,e2,e3,e4,e5⟩:=h2 j h
  rw[List.getElem_append_left h]
  exact⟨a,b,by rw[List.getElem?_append_left (by omega)];exact e1,by rw[List.getElem?_append_left (by omega)];exact e2,by rw[List.getElem?_append_left (by omega)];exact e3,e4,e5⟩
 ·obtain rfl:j=q.length:=by simp at hj;omega
  have e0:(q++ [r])[q.length]'hj=r:=by simp
  rw[e0,←hl]
  refine⟨y,z,?_,?_,?_,h4,h5⟩
  ·rw[List.getElem?_append_right (Nat.le_refl _)];simp
  ·rw[List.getElem?_append_right (by omega)];simp
  ·rw[List.getElem?_append_right (by omega)];simp
end
theorem zpp {P:Program} (t e:TypeId) (i:TypeInfo) (ht:P.underlying t=some (.slice e)) (hi:P.info? e=some i) (hz:i.zero=some (.agg #[.bool false, .slice none 0 0, .slice none 0 0])) (hsize:i.size=3) (hby:i.bytes=56)
 (w0:World) {ops:Array Oper} {rest:List Oper} {o:Oper} {a:Act} {Q:Exit→Act→World→Prop} (hgd:o.guard=none) (s x:Operand)
 (ho:o.op= .call { callee:= .builtin .append,args:=#[s,x],argTypes:=#[t,t] }) (B:Nat) (e':TypeId)
 (v:Value) (q:List Rat) (hs:a.eval s=v) (hown:zya w0 e B v q) (c0 c1 c2:Value) (r:Rat) (hf:zqa w0 (.agg #[c0,c1,c2]) r) (hxe:a.eval x= .slice (some ⟨w0.heap.size,0,none⟩) 1 1) (hn:q.length≤1000) (hbase:B≤w0.heap.size)
 (h:∀v' w',zya w' e B v' (q++ [r])→w0.grownBy w' v.ownBlock→zlb w0 v→(v'.ownBlock=v.ownBlock∨v'.ownBlock=some (w0.heap.size+1))→zgc v'→wpList P ops Q rest (a.put o.dst v') w'):
 wpList P ops Q (o::rest) a (w0.alloc (.cells #[c0,c1,c2] e')):=by
 obtain⟨xs,h1,h2⟩:=hown
 have hl:xs.length=q.length*3:=h1.clen
 have hf2:=hf
 obtain⟨a1,b1,ha,h4,h5⟩:=hf2
 injection ha with ha
 injection ha with ha
 simp only[List.cons.injEq,and_true]at ha
 obtain⟨rfl,rfl,rfl⟩:=ha
 obtain⟨p1,p2,p3,rfl,_⟩:=h4.v.sl
 obtain⟨s1,s2,s3,rfl,_⟩:=h5.v.sl
 refine zwf w0 hgd s x t ho B e e' i _ 3 56 ht hi hz hsize hby rfl (by decide) (fun c hc z=>by
  have hc2:c∈ [Value.bool false, .slice none 0 0, .slice none 0 0]:=hc
  simp at hc2;rcases hc2 with rfl | rfl<;>simp) v q.length xs hs h1 #[.bool (decide (r<0)), .slice p1 p2 p3, .slice s1 s2 s3] rfl hxe
  (fun u hu=>by simp at hu;rcases hu with rfl | rfl | rfl<;>rfl) (fun u hu z=>by simp at hu;rcases hu with rfl | rfl | rfl<;>simp) (by simp[maxLen];omega) (by omega) hbase ?_
 intro v' w' k1 k2 k3
 refine h v' w' ⟨_,?_,(zwe.snoc (r:=r) h2 hl hf).grown k2 h1.nl⟩ k2 h1.nl k3 k1.sl
 rw[List.length_append]
 exact k1
theorem zxl {P:Program} (t e:TypeId) (i:TypeInfo) (z:Value) (bytes:Nat) (ht:P.underlying t=some (.slice e)) (hi:P.info? e=some i) (hz:i.zero=some z) (hsize:i.size=1) (hby:i.bytes=bytes) (hby2:bytes≤64) (hzc:z.cells=#[z]) (hzn:∀k,z≠ .int .u32 k)
 (w0:World) {ops:Array Oper} {rest:List Oper} {o:Oper} {a:Act} {Q:Exit→Act→World→Prop} (hgd:o.guard=none) (s x:Operand)
 (ho:o.op= .call { callee:= .builtin .append,args:=#[s,x],argTypes:=#[t,t] }) (B:Nat) (e':TypeId)
 (v:Value) (xs:List Value) (hs:a.eval s=v) (hown:zlc w0 e B 1 v xs.length xs) (c:Value) (hc1:c.oneCell'=true) (hcn:∀k,c≠ .int .u32 k) (hxe:a.eval x= .slice (some ⟨w0.heap.size,0,none⟩) 1 1) (hn:xs.length≤1000) (hbase:B≤w0.heap.size)
 (h:∀v' w',zlc w' e B 1 v' (xs++ [c]).length (xs++ [c])→w0.grownBy w' v.ownBlock→zlb w0 v→(v'.ownBlock=v.ownBlock∨v'.ownBlock=some (w0.heap.size+1))→zgc v'→wpList P ops Q rest (a.put o.dst v') w'):
 wpList P ops Q (o::rest) a (w0.alloc (.cells #[c] e')):=by
 refine zwf w0 hgd s x t ho B e e' i _ 1 bytes ht hi hz hsize hby (by rw[hzc];rfl) (by decide) (fun d hd=>by rw[hzc]at hd;simp at hd;subst hd;exact hzn) v xs.length xs hs hown #[c] rfl hxe
  (fun u hu=>by simp at hu;subst hu;exact hc1) (fun u hu z=>by simp at hu;subst hu;exact hcn z) (by simp[maxLen];omega) (by have :(xs.length+1)*bytes≤1001*64:=Nat.mul_le_mul (by omega) hby2;omega) hbase ?_
 intro v' w' k1 k2 k3
 refine h v' w' ?_ k2 hown.nl k3 k1.sl
 rw[List.length_append]
 exact k1
end Go.Proofs.YtlpdkbmmbdfoiaaGreat
namespace Go.Proofs.YtlpdkbmmbdfoiaaGreat
def sg :Nat→(Nat→Rat)→Rat
 | 0,_=>0
 | n+1,f=>sg n f+f n
theorem zma {n:Nat} {f g:Nat→Rat} (h:∀i,i<n→f i=g i):sg n f=sg n g:=by
 induction n with
 | zero=>rfl
 | succ n ih=>rw[sg,sg,ih (fun i hi=>h i (by omega)),h n (by omega)]
theorem zsi (n:Nat):sg n (fun _=>0)=0:=by
 induction n with
 | zero=>rfl
 | succ n ih=>rw[sg,ih];grind
theorem zvd (n:Nat) (f g:Nat→Rat):sg n (fun i=>f i+g i)=sg n f+sg n g:=by
 induction n with
 | zero=>simp[sg];grind
 | succ n ih=>simp only[sg,ih];grind
theorem zcb (n:Nat) (c:Rat) (f:Nat→Rat):sg n (fun i=>c*f i)=c*sg n f:=by
 induction n with
 | zero=>simp[sg]
 | succ n ih=>simp only[sg,ih];grind
theorem znc (n:Nat) (c:Rat) (f:Nat→Rat):sg n (fun i=>f i*c)=sg n f*c:=by
 induction n with
 | zero=>simp[sg]
 | succ n ih=>simp only[sg,ih];grind
theorem zdn (n m:Nat) (f:Nat→Nat→Rat):sg n (fun i=>sg m (fun j=>f i j))=sg m (fun j=>sg n (fun i=>f i j)):=by
 induction n with
 | zero=>simp only[sg];rw[zsi]
 | succ n ih=>simp only[sg];rw[ih,←zvd]
theorem zfd {m k:Nat} (h:k<m) (f:Nat→Rat):sg m (fun a=>if k=a then f a else 0)=f k:=by
 induction m with
 | zero=>omega
 | succ m ih=>
   rw[sg]
   by_cases hk:k=m
   ·subst hk
    rw[zma (g:=fun _=>0) (fun i hi=>if_neg (by omega)),zsi,if_pos rfl]
    grind
   ·rw[ih (by omega),if_neg hk]
    grind
def zlt (q:Rat) (k:Nat):Prop:=∃ (z:Int) (D:Nat),D≠0∧q=mkRat z D∧z.natAbs+D≤2^k
theorem slimS_zero :zlt 0 0:=⟨0,1,by decide,by decide+kernel,by decide⟩
theorem slimS_add {p q:Rat} {j k:Nat} (hp:zlt p j) (hq:zlt q k):zlt (p+q) (j+k):=by
 obtain⟨z,D,h1,rfl,h2⟩:=hp
 obtain⟨n,d,h3,rfl,h4⟩:=hq
 refine⟨z*d+n*D,D*d,Nat.mul_ne_zero h1 h3,Rat.mkRat_add_mkRat _ _ h1 h3,?_⟩
 rw[Nat.pow_add]
 have h5:=Nat.mul_le_mul h2 h4
 have h6:=Int.natAbs_add_le (z*d) (n*D)
 rw[Int.natAbs_mul,Int.natAbs_mul,Int.natAbs_natCast,Int.natAbs_natCast]at h6
 rw[Nat.add_mul,Nat.mul_add,Nat.mul_add]at h5
 have e:n.natAbs*D=D*n.natAbs:=Nat.mul_comm _ _
 have:=Nat.zero_le (z.natAbs*n.natAbs)
 omega
theorem slimS_mul {p q:Rat} {j k:Nat} (hp:zlt p j) (hq:zlt q k):zlt (p*q) (j+k):=by
 obtain⟨z,D,h1,rfl,h2⟩:=hp
 obtain⟨n,d,h3,rfl,h4⟩:=hq
 refine⟨z*n,D*d,Nat.mul_ne_zero h1 h3,Rat.mkRat_mul_mkRat _ _ _ _,?_⟩
 rw[Nat.pow_add]
 have h5:=Nat.mul_le_mul h2 h4
 rw[Int.natAbs_mul]
 rw[Nat.add_mul,Nat.mul_add,Nat.mul_add]at h5
 have:=Nat.zero_le (z.natAbs*d)
 have:=Nat.zero_le (D*n.natAbs)
 omega
theorem zzs (q:Rat):zlt q (wt q):=by
 refine⟨q.num,q.den,q.den_nz,(Rat.mkRat_self q).symm,?_⟩
 unfold wt
 have h0:zua q.num.natAbs≤zua q.num.natAbs:=Nat.le_refl _
 have h1:zua q.den≤zua q.den:=Nat.le_refl _
 rw[zwb]at h0 h1
 split
 ·next hz=>
  have e:q=0:=Rat.num_eq_zero.1 hz
  subst e
  decide
 ·split
  ·next hz hd=>simp only[hd,Nat.add_zero];omega
  ·next hz hd=>
   have hn:q.num.natAbs≠0:=by omega
   have hd0:=q.den_nz
   have h2:1<zua q.den:=zse.2 (by omega)
   have h3:0<zua q.num.natAbs:=zld.2 hn
   rw[Nat.pow_add]
   have e1:2^1≤2^zua q.num.natAbs:=Nat.pow_le_pow_right (by decide) h3
   have e2:2^1≤2^zua q.den:=Nat.pow_le_pow_right (by decide) (by omega)
   generalize 2^zua q.num.natAbs=A at *
   generalize 2^zua q.den=B at *
   obtain⟨a,rfl⟩:∃a,A=a+2:=⟨A-2,by omega⟩
   obtain⟨b,rfl⟩:∃b,B=b+2:=⟨B-2,by omega⟩
   have e3:(a+2)*(b+2)=a*b+2*a+2*b+4:=by grind
   rw[e3]
   have:=Nat.zero_le (a*b)
   omega
theorem ziu {q:Rat} {k:Nat} (h:zlt q k) (hk:k≤4095):fits q:=by
 obtain⟨z,D,h1,rfl,h3⟩:=h
 have e:mkRat z D=fq (decide (z<0)) z.natAbs D:=by
  unfold fq sgn
  by_cases hz:z<0
  ·rw[decide_eq_true hz,if_pos rfl];congr 1;omega
  ·rw[decide_eq_false hz,if_neg (by decide)];congr 1;omega
 rw[e]
 have h5:2^k<2^(k+1):=Nat.pow_lt_pow_right (by decide) (Nat.lt_succ_self k)
 have h6:k+1≤4096:=by omega
 refine⟨?_,?_⟩
 ·rw[zif _ _ _ h1]
  exact Nat.le_trans (zre (Nat.lt_of_le_of_lt (Nat.div_le_self _ _) (Nat.lt_of_le_of_lt (Nat.le_trans (Nat.le_add_right z.natAbs D) h3) h5))) h6
 ·rw[zsm _ _ _ h1]
  exact Nat.le_trans (zre (Nat.lt_of_le_of_lt (Nat.div_le_self _ _) (Nat.lt_of_le_of_lt (Nat.le_trans (Nat.le_add_left D z.natAbs) h3) h5))) h6
def sgN :Nat→(Nat→Nat)→Nat
 | 0,_=>0
 | n+1,f=>sgN n f+f n
theorem sgN_le {k n:Nat} (f:Nat→Nat) (h:k≤n):sgN k f≤sgN n f:=by
 induction n with
 | zero=>obtain rfl:k=0:=by omega
         exact Nat.le_refl _
 | succ n ih=>
   by_cases hk:k=n+1
   ·subst hk;exact Nat.le_refl _
   ·have:=ih (by omega);rw[sgN];omega
theorem slimS_sg {n:Nat} {f:Nat→Rat} {w:Nat→Nat} (h:∀i,i<n→zlt (f i) (w i)):zlt (sg n f) (sgN n w):=by
 induction n with
 | zero=>exact slimS_zero
 | succ n ih=>exact slimS_add (ih fun i hi=>h i (by omega)) (h n (by omega))
theorem sg_mul_fits {n:Nat} {x y:Nat→Rat} (hw:sgN n (fun i=>wt (x i)+wt (y i))≤3800) (k:Nat) (hk:k≤n):fits (sg k fun i=>x i*y i):=
 ziu (slimS_sg (w:=fun i=>wt (x i)+wt (y i)) fun i _=>slimS_mul (zzs _) (zzs _)) (by have:=sgN_le (fun i=>wt (x i)+wt (y i)) hk;omega)
theorem mul_fits26 {x y:Rat} (hw:wt x+wt y≤3800):fits (x*y):=ziu (slimS_mul (zzs _) (zzs _)) (by omega)
def over (D B:Nat) (q:Rat):Prop:=∃z:Int,q=mkRat z D∧z.natAbs≤B
theorem over.zero (D B:Nat):over D B 0:=⟨0,by simp,by simp⟩
theorem over.mono {D A B:Nat} {q:Rat} (h:over D A q) (hB:A≤B):over D B q:=by
 obtain⟨z,h1,h2⟩:=h
 exact⟨z,h1,by omega⟩
theorem over.add {D A B:Nat} {p q:Rat} (hD:D≠0) (hp:over D A p) (hq:over D B q):over D (A+B) (p+q):=by
 obtain⟨y,rfl,h1⟩:=hp
 obtain⟨z,rfl,h2⟩:=hq
 refine⟨y+z,?_,?_⟩
 ·rw[Rat.mkRat_add_mkRat _ _ hD hD,←Int.add_mul]
  exact Rat.mkRat_mul_right hD
 ·have:=Int.natAbs_add_le y z
  omega
theorem over.neg {D A:Nat} {p:Rat} (hp:over D A p):over D A (-p):=by
 obtain⟨y,rfl,h1⟩:=hp
 exact⟨-y,by rw[Rat.neg_mkRat],by omega⟩
theorem over.mul {D E A B:Nat} {p q:Rat} (hp:over D A p) (hq:over E B q):over (D*E) (A*B) (p*q):=by
 obtain⟨y,rfl,h1⟩:=hp
 obtain⟨z,rfl,h2⟩:=hq
 exact⟨y*z,Rat.mkRat_mul_mkRat _ _ _ _,by rw[Int.natAbs_mul];exact Nat.mul_le_mul h1 h2⟩
theorem over.scale {D A m:Nat} {p:Rat} (hm:m≠0) (hp:over D A p):over (D*m) (A*m) p:=by
 obtain⟨y,rfl,h1⟩:=hp
 exact⟨y*m,(Rat.mkRat_mul_right hm).symm,by rw[Int.natAbs_mul,Int.natAbs_natCast];exact Nat.mul_le_mul_right _ h1⟩
theorem over.sg {D B n:Nat} {f:Nat→Rat} (hD:D≠0) (h:∀i,i<n→over D B (f i)):over D (n*B) (sg n f):=by
 induction n with
 | zero=>exact over.zero _ _
 | succ n ih=>rw[Nat.succ_mul];exact over.add hD (ih fun i hi=>h i (by omega)) (h n (by omega))
theorem over.fq {D B:Nat} {q:Rat} (h:over D B q):∃ (s:Bool) (n:Nat),q=fq s n D∧n≤B:=by
 obtain⟨z,rfl,h2⟩:=h
 refine⟨decide (z<0),z.natAbs,?_,h2⟩
 unfold Go.Proofs.YtlpdkbmmbdfoiaaGreat.fq sgn
 by_cases hz:z<0
 ·rw[decide_eq_true hz,if_pos rfl];congr 1;omega
 ·rw[decide_eq_false hz,if_neg (by decide)];congr 1;omega
theorem over.wt {D B a b:Nat} {q:Rat} (hD:D≠0) (h:over D B q) (ha:B<2^a) (hb:D<2^b):wt q≤a+b:=by
 obtain⟨s,n,rfl,h1⟩:=h.fq
 have h2:zua (Go.Proofs.YtlpdkbmmbdfoiaaGreat.fq s n D).num.natAbs≤a:=by
  rw[zif _ _ _ hD]
  exact zre (Nat.lt_of_le_of_lt (Nat.div_le_self _ _) (Nat.lt_of_le_of_lt h1 ha))
 have h3:zua (Go.Proofs.YtlpdkbmmbdfoiaaGreat.fq s n D).den≤b:=by
  rw[zsm _ _ _ hD]
  exact zre (Nat.lt_of_le_of_lt (Nat.div_le_self _ _) hb)
 unfold Go.Proofs.YtlpdkbmmbdfoiaaGreat.wt
 split
 ·omega
 ·split<;>omega
theorem over.fits {D B:Nat} {q:Rat} (hD:D≠0) (h:over D B q) (ha:B<2^4096) (hb:D<2^4096):fits q:=by
 obtain⟨s,n,rfl,h1⟩:=h.fq
 refine⟨?_,?_⟩
 ·rw[zif _ _ _ hD]
  exact zre (Nat.lt_of_le_of_lt (Nat.div_le_self _ _) (Nat.lt_of_le_of_lt h1 ha))
 ·rw[zsm _ _ _ hD]
  exact zre (Nat.lt_of_le_of_lt (Nat.div_le_self _ _) hb)
theorem inv_mk {p d:Nat} (hp:p≠0) (hd:d≠0):(mkRat (p:Int) d)⁻¹=mkRat (d:Int) p:=by
 rw[←Rat.divInt_ofNat,←Rat.divInt_ofNat,Rat.inv_divInt]
theorem over.one {D:Nat} (hD:D≠0):over D D 1:=⟨D,by
 have:=Rat.mkRat_self 1
 have h:=Rat.mkRat_mul_right (n:=1) (d:=1) hD
 rw[Int.one_mul,Nat.one_mul]at h
 rw[h];exact this.symm,by simp⟩
theorem zup (l:List Rat):zgg l=sg l.length (fun j=>l.getD j 0):=by
 have key:∀k,k≤l.length→zgg (l.take k)=sg k (fun j=>l.getD j 0):=by
  intro k
  induction k with
  | zero=>intro _;simp[sg,zgg]
  | succ k ih=>
    intro h
    rw[lsum_take l k (by omega),sg,ih (by omega)]
    simp[List.getD,List.getElem?_eq_getElem (show k<l.length by omega)]
 have:=key l.length (Nat.le_refl _)
 rwa[List.take_length]at this
end Go.Proofs.YtlpdkbmmbdfoiaaGreat
