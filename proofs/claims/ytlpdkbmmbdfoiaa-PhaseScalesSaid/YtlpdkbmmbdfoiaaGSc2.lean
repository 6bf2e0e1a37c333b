/-
  package drydocklaw20: PhaseScales, the walk.
-/
import Derived.Test.YtlpdkbmmbdfoiaaGPp6
import Derived.Test.YtlpdkbmmbdfoiaaGSc1
import Derived.Test.YtlpdkbmmbdfoiaaGPx1
import Derived.Test.YtlpdkbmmbdfoiaaGPs1
set_option linter.unusedVariables false
set_option linter.unusedSimpArgs false
namespace Go.Proofs.Ytlpdkbmmbdfoiaa
open Go.RowKit
theorem fits_small :∀k,k<10→fits (fq false k 1):=by decide+kernel
structure ScF (a b:LQ) (k mx my p q:Rat) (c d:LQ):Prop where
 fk:fits k
 fx:fits mx
 fy:fits my
 fp:fits p
 fkx:fits (k*my)
 e1:k*my=mx
 e2:p=q
 pc:zxb c
 pd:zxb d
 fa:∀w va vk,zgm w va a→zqa w vk k→Calls Try.prog 9 #[va,vk] w (fun e w'=>∃v,e= .returned v∧zgm w' v c∧Below w.heap.size w w')
 fb:∀w va vk,zgm w va b→zqa w vk k→Calls Try.prog 9 #[va,vk] w (fun e w'=>∃v,e= .returned v∧zgm w' v d∧Below w.heap.size w w')
 ma:∀w vl,zgm w vl a→Calls Try.prog 7 #[vl] w (RF0 w mx)
 mc:∀w vl,zgm w vl c→Calls Try.prog 7 #[vl] w (RF0 w my)
 bab:∀w va vb,zgm w va a→zgm w vb b→Calls Try.prog 8 #[va,vb] w (RF0 w p)
 bcd:∀w va vb,zgm w va c→zgm w vb d→Calls Try.prog 8 #[va,vb] w (RF0 w q)
theorem sc_facts {a b:LQ} {k:Nat} (ha:zch 2 a) (hb:zch 2 b) (hk1:1≤k) (hk:k<10):ScF a b (fq false k 1) (zfo a 1) (zfo (scL (fq false k 1) a) 1) (befQ a b) (befQ (scL (fq false k 1) a) (scL (fq false k 1) b)) (scL (fq false k 1) a) (scL (fq false k 1) b):=by
 have pa:=ha.law (by decide)
 have pb:=hb.law (by decide)
 have pc:=ha.scale hk1 hk
 have pd:=hb.scale hk1 hk
 have m1:=(tape_mom ha).1
 have m2:=tape_mom_sc ha hk1 hk
 have hf:fits (fq false k 1):=fits_small k hk
 have e1:=momQ_sc pa pc
 exact⟨hf,znq m1 rfl,znq m2 rfl,bef_fits (zxh ha hb),by rw[e1];exact znq m1 rfl,e1,(befQ_sc pa pb pc pd (kf_pos hk1)).symm,pc,pd,
  fun w va vk h1 h2=>zjq va vk a _ w h1 h2 pa hf pc,fun w va vk h1 h2=>zjq va vk b _ w h1 h2 pb hf pd,
  fun w vl h=>zep vl _ w h.lawC pa m1,fun w vl h=>zep vl _ w h.lawC pc m2,
  fun w va vb h1 h2=>zof va vb a b w h1.lawC h2.lawC pa pb (zxh ha hb),fun w va vb h1 h2=>zof va vb _ _ w h1.lawC h2.lawC pc pd (tape_bef_sc ha hb hk1 hk)⟩
section
variable {P:Program} {ops:Array Oper} {Q:Exit→Act→World→Prop}
def scA (a:Act) (u12 u13 u41 u42 u43 u44 u45 u46:Value):Act:=((((((((a.put (some 12) u12).put (some 13) u13).put (some 41) u41).put (some 42) u42).put (some 43) u43).put (some 44) u44).put (some 45) u45).put (some 46) u46)
theorem zhq {md:Region.Mode} {ops:Array Oper} {l:Array Bool} (h:Shut md ops l) (j:Nat) (o:Oper) (ho:ops[j]? =some o) (hd:zaq l j):∀e∈o.after,Region.binds md e=true→zaq l e.on:=h j o ho hd
theorem wpI.scA {id:Nat} {a:Act} {w:World} (R:Array Bool→Value→Value→Value→Value→Value→Value→Value→Value→World→Prop) (hm:P.follows .mixedOrders=true) (hb:backB .any ops=true) {s12 s13 s41 s42 s43 s44 s45 s46:Value} (ha:a=Go.Proofs.Ytlpdkbmmbdfoiaa.scA a s12 s13 s41 s42 s43 s44 s45 s46) (h0:R (Array.replicate ops.size false) s12 s13 s41 s42 s43 s44 s45 s46 w.drew)
 (hstep:∀l u12 u13 u41 u42 u43 u44 u45 u46 w i o,R l u12 u13 u41 u42 u43 u44 u45 u46 w→Shut .any ops l→¬zaq l i→ops[i]? =some o→(∀e∈o.after,Region.binds .any e=true→zaq l e.on)→∀K:Act→World→Prop,Hid (∀u12 u13 u41 u42 u43 u44 u45 u46 v,R (l.setIfInBounds i true) u12 u13 u41 u42 u43 u44 u45 u46 v→K (Go.Proofs.Ytlpdkbmmbdfoiaa.scA a u12 u13 u41 u42 u43 u44 u45 u46) v)→if Region.wanted o (yielded ops (Go.Proofs.Ytlpdkbmmbdfoiaa.scA a u12 u13 u41 u42 u43 u44 u45 u46).tmps)=true then o.wp P (Go.Proofs.Ytlpdkbmmbdfoiaa.scA a u12 u13 u41 u42 u43 u44 u45 u46) w K Q else K ((Go.Proofs.Ytlpdkbmmbdfoiaa.scA a u12 u13 u41 u42 u43 u44 u45 u46).put o.dst undef) w)
 (hdone:∀l u12 u13 u41 u42 u43 u44 u45 u46 w,R l u12 u13 u41 u42 u43 u44 u45 u46 w→(∀i,i<ops.size→zaq l i)→Q .normal (Go.Proofs.Ytlpdkbmmbdfoiaa.scA a u12 u13 u41 u42 u43 u44 u45 u46) w):(Code.region id ops true).wp P Q a w:=by
 refine wpI.start (fun l b v=>∃u12 u13 u41 u42 u43 u44 u45 u46,b=Go.Proofs.Ytlpdkbmmbdfoiaa.scA a u12 u13 u41 u42 u43 u44 u45 u46∧R l u12 u13 u41 u42 u43 u44 u45 u46 v) hm hb ⟨_,_,_,_,_,_,_,_,ha,h0⟩ ?_ ?_
 ·rintro l b v i o ⟨u12,u13,u41,u42,u43,u44,u45,u46,rfl,hR⟩ hsh hnd ho hall K hK
  exact hstep l _ _ _ _ _ _ _ _ v i o hR hsh hnd ho hall K (zH fun x12 x13 x41 x42 x43 x44 x45 x46 v hx=>hK.out _ _ ⟨x12,x13,x41,x42,x43,x44,x45,x46,rfl,hx⟩)
 ·rintro l b v ⟨u12,u13,u41,u42,u43,u44,u45,u46,rfl,hR⟩ hd
  exact hdone l _ _ _ _ _ _ _ _ v hR hd
end
set_option maxRecDepth 100000 in
set_option maxHeartbeats 12800000 in
theorem pscales_any (v:Value) (l:List Nat) (x:Nat) (w:World) (h:zhc w v (bytes l)) (hb:∀x∈l,x<256) (hx:x<256):Calls Try.prog 3 #[v, .int .u8 (x:Nat)] w (fun e w'=>e= .returned (.bool true)∧Below w.heap.size w w'):=by
 have HV:=zH h
 have HB:=zH (Below.refl w.heap.size w)
 have HX:=zH hx
 have sv:=zhc.sl h
 clear h hx
 go_enter Try.func3,Try.ntmps3
 go_upto_region 2 with(first
  |(go_at_call 5;(with_reducible refine(tpair_any _ l _ HV.out hb).mono ?_);rintro e1 w1 ⟨va,vb,a,b,rfl,hva,hvb,hla,hlb,hb1⟩
    obtain⟨saA,snA,skA,raA,rnA,rkA,eaA,enA,ekA,rfl⟩:=hva.slices2
    obtain⟨saB,snB,skB,raB,rnB,rkB,eaB,enB,ekB,rfl⟩:=hvb.slices2
    have hba:=zca w1 (.cells #[.string { data:=#[] }, .slice saA snA skA, .slice raA rnA rkA, .slice eaA enA ekA] 26)
    have hbb:=zca (w1.alloc (.cells #[.string { data:=#[] }, .slice saA snA skA, .slice raA rnA rkA, .slice eaA enA ekA] 26)) (.cells #[.string { data:=#[] }, .slice saB snB skB, .slice raB rnB rkB, .slice eaB enB ekB] 26)
    have hz1:(w1.alloc (.cells #[.string { data:=#[] }, .slice saA snA skA, .slice raA rnA rkA, .slice eaA enA ekA] 26)).heap.size=w1.heap.size+1:=by show(w1.heap.push _).size=_;rw[Array.size_push]
    have HC1:=zH ((C4.new w1 26 (.string { data:=#[] }) (.slice saA snA skA) (.slice raA rnA rkA) (.slice eaA enA ekA)).belowS hbb)
    have hc2:=C4.new (w1.alloc (.cells #[.string { data:=#[] }, .slice saA snA skA, .slice raA rnA rkA, .slice eaA enA ekA] 26)) 26 (.string { data:=#[] }) (.slice saB snB skB) (.slice raB rnB rkB) (.slice eaB enB ekB)
    rw[hz1]at hc2
    have HC2:=zH hc2
    have hbc:=zaa hba hbb
    have HVA:=zH (hva.below hbc)
    have HVB:=zH (hvb.below hbc)
    have HB1:=zH (zaa hb1 hbc)
    have HLA:=zH hla
    have HLB:=zH hlb
    clear hva hvb hb1 hba hbb hz1 hc2 hbc hla hlb))
 clear HB HV sv hb
 obtain⟨k1,hk1⟩:∃b,w1.heap.size=b:=⟨_,rfl⟩
 rw[hk1]at HC1 HC2 ⊢
 clear hk1
 generalize (w1.alloc (.cells #[.string { data:=#[] }, .slice saA snA skA, .slice raA rnA rkA, .slice eaA enA ekA] 26)).alloc (.cells #[.string { data:=#[] }, .slice saB snB skB, .slice raB rnB rkB, .slice eaB enB ekB] 26)=W1 at *
 have hx8:=HX.out
 have tok9:True:=trivial
 obtain⟨k,hkk⟩:∃k,1+x%9=k:=⟨_,rfl⟩
 have hk1:1≤k:=by omega
 have hk10:k<10:=by omega
 have HKE:Hid (Value.int .i64 (1+(x:Int)%9)= .int .i64 ((k:Nat):Int)):=zH (by congr 1;omega)
 obtain⟨K,mx,my,p,q,c,d,hK9,hF⟩:∃K mx my p q c d,fq false k 1=K∧ScF a b K mx my p q c d:=⟨_,_,_,_,_,_,_,rfl,sc_facts HLA.out HLB.out hk1 hk10⟩
 have HM:=zH hF
 have HMK:Hid (∀w0,Calls Try.prog 6 #[.int .i64 (1+(x:Int)%9)] w0 (RF1 w0 K)):=zH (fun w0=>by rw[←hK9,HKE.out];exact zdp k w0 (by omega))
 clear hF hK9 hk1 hk10 hkk HKE HLA HLB
 go_upto_region 3 with(first
  |(go_at_call 6;(with_reducible refine((HMK.out _)).mono ?_);rintro e7 w7 ⟨v7,rfl,hv7,hb7⟩
    clear tok9
    obtain⟨t7,x7,y7,rfl,⟨a71,l71,k71,rfl,_⟩,⟨a72,l72,k72,rfl,_⟩⟩:=hv7.isF
    have hba:=zca w7 (.cells #[.bool t7, .slice a71 l71 k71, .slice a72 l72 k72] 32)
    have hbb:=zaa hb7 hba
    have HC7:=zH (C3.new w7 32 (.bool t7) (.slice a71 l71 k71) (.slice a72 l72 k72))
    have HF7:=zH (hv7.below hba)
    replace HB1:=zH (zaa HB1.out hbb);replace HC1:=zH (HC1.out.belowS hbb);replace HC2:=zH (HC2.out.belowS hbb);replace HVA:=zH (HVA.out.below hbb);replace HVB:=zH (HVB.out.below hbb)
    clear hv7 hb7 hba hbb))
 obtain⟨b7,hb7⟩:∃b,w7.heap.size=b:=⟨_,rfl⟩
 rw[hb7]at HC7 ⊢
 clear hb7
 generalize w7.alloc (.cells #[.bool t7, .slice a71 l71 k71, .slice a72 l72 k72] 32)=W7 at *
 clear hx8
 obtain⟨-,c0,c1,c2,c3,-,-,-,-⟩:=HC1.out
 go_upto_region 4 with(first
  |(go_at_call 7;(with_reducible refine((HM.out.ma _ _ HVA.out)).mono ?_);rintro e8 w8 ⟨v8,rfl,hv8,hb8⟩
    clear c0 c1 c2 c3
    obtain⟨t8,x8,y8,rfl,⟨a81,l81,k81,rfl,_⟩,⟨a82,l82,k82,rfl,_⟩⟩:=hv8.isF
    have hba:=zca w8 (.cells #[.bool t8, .slice a81 l81 k81, .slice a82 l82 k82] 32)
    have hbb:=zaa hb8 hba
    have HC8:=zH (C3.new w8 32 (.bool t8) (.slice a81 l81 k81) (.slice a82 l82 k82))
    have HF8:=zH (hv8.below hba)
    replace HB1:=zH (zaa HB1.out hbb);replace HC1:=zH (HC1.out.belowS hbb);replace HC2:=zH (HC2.out.belowS hbb);replace HVA:=zH (HVA.out.below hbb);replace HVB:=zH (HVB.out.below hbb);replace HC7:=zH (HC7.out.belowS hbb);replace HF7:=zH (HF7.out.below hbb)
    clear hv8 hb8 hba hbb))
 obtain⟨b8,hb8⟩:∃b,w8.heap.size=b:=⟨_,rfl⟩
 rw[hb8]at HC8 ⊢
 clear hb8
 generalize w8.alloc (.cells #[.bool t8, .slice a81 l81 k81, .slice a82 l82 k82] 32)=W8 at *
 obtain⟨-,c0,c1,c2,c3,-,-,-,-⟩:=HC1.out
 obtain⟨-,d0,d1,d2,d3,-,-,-,-⟩:=HC2.out
 go_upto_region 5 with(first
  |(go_at_call 8;(with_reducible refine((HM.out.bab _ _ _ HVA.out HVB.out)).mono ?_);rintro e10 w10 ⟨v10,rfl,hv10,hb10⟩
    clear c0 c1 c2 c3 d0 d1 d2 d3
    obtain⟨t10,x10,y10,rfl,⟨a101,l101,k101,rfl,_⟩,⟨a102,l102,k102,rfl,_⟩⟩:=hv10.isF
    have hba:=zca w10 (.cells #[.bool t10, .slice a101 l101 k101, .slice a102 l102 k102] 32)
    have hbb:=zaa hb10 hba
    have HC10:=zH (C3.new w10 32 (.bool t10) (.slice a101 l101 k101) (.slice a102 l102 k102))
    have HF10:=zH (hv10.below hba)
    replace HB1:=zH (zaa HB1.out hbb);replace HC1:=zH (HC1.out.belowS hbb);replace HC2:=zH (HC2.out.belowS hbb);replace HVA:=zH (HVA.out.below hbb);replace HVB:=zH (HVB.out.below hbb);replace HC7:=zH (HC7.out.belowS hbb);replace HF7:=zH (HF7.out.below hbb);replace HC8:=zH (HC8.out.belowS hbb);replace HF8:=zH (HF8.out.below hbb)
    clear hv10 hb10 hba hbb))
 obtain⟨b10,hb10⟩:∃b,w10.heap.size=b:=⟨_,rfl⟩
 rw[hb10]at HC10 ⊢
 clear hb10
 generalize w10.alloc (.cells #[.bool t10, .slice a101 l101 k101, .slice a102 l102 k102] 32)=W10 at *
 obtain⟨W6,hw6⟩:∃w6,w6=W10:=⟨_,rfl⟩
 subst hw6
 refine wpI.scA (s12:=undef) (s13:=undef) (s41:=undef) (s42:=undef) (s43:=undef) (s44:=undef) (s45:=undef) (s46:=undef) (fun l u12 u13 u41 u42 u43 u44 u45 u46 W'=>l.size=10∧((zaq l 9∧ScC W6 W' c d u12 u13)∨(zaq l 8∧¬zaq l 9∧ScB W6 W' c d u12 u13 u46)∨ScI l W6 W' (.agg #[.string { data:=#[] }, .slice saA snA skA, .slice raA rnA rkA, .slice eaA enA ekA]) (.agg #[.string { data:=#[] }, .slice saB snB skB, .slice raB rnB rkB, .slice eaB enB ekB]) (.agg #[.bool t7, .slice a71 l71 k71, .slice a72 l72 k72]) c d u12 u13 u41 u42 u43 u44 u45 u46)) (by kernel_rfl) (by kernel_rfl) (by simp only[Go.Proofs.Ytlpdkbmmbdfoiaa.scA,Act.put,List.setIfInBounds_toArray,List.set_cons_zero,List.set_cons_succ]) ?_ ?_ ?_
 ·have hno:∀j,¬zaq (Array.replicate 10 false) j:=fun j h=>by
   unfold zaq at h
   rw[Array.getD_eq_getD_getElem?,Array.getElem?_replicate]at h
   split at h<;>simp at h
  refine⟨by simp,Or.inr (Or.inr ⟨hno 8,hno 9,zja _,?_,?_,?_,?_,?_,?_,?_,?_,?_⟩)⟩
  all_goals exact fun h=>absurd h (hno _)
 ·rintro l u12 u13 u41 u42 u43 u44 u45 u46 w' i o ⟨hlz,hg⟩ hsh hnd ho hall K hK
  have hi:i<10:=(Array.getElem?_eq_some_iff.1 ho).1
  simp only[Go.Proofs.Ytlpdkbmmbdfoiaa.scA,Act.put,List.setIfInBounds_toArray,List.set_cons_zero,List.set_cons_succ]
  rcases hg with⟨h9,_⟩ | ⟨h8,hn9,g⟩ | g
  ·exfalso
   have h9a:=zhq hsh 9 _ (by rfl) h9
   simp[Region.binds]at h9a
   rcases(show i=0∨i=1∨i=2∨i=3∨i=4∨i=5∨i=6∨i=7∨i=8∨i=9 by omega)with rfl | rfl | rfl | rfl | rfl | rfl | rfl | rfl | rfl | rfl
   all_goals first
    | exact hnd h9
    |(simp[h9a]at hnd;done)
  ·have h8a:=zhq hsh 8 _ (by rfl) h8
   simp[Region.binds]at h8a
   have h5a:=zhq hsh 5 _ (by rfl) h8a.2.2.1
   simp[Region.binds]at h5a
   rcases(show i=0∨i=1∨i=2∨i=3∨i=4∨i=5∨i=6∨i=7∨i=8∨i=9 by omega)with rfl | rfl | rfl | rfl | rfl | rfl | rfl | rfl | rfl | rfl
   all_goals first
    | exact absurd h8 hnd
    |(simp[h8a,h5a]at hnd;done)
    | skip
   simp only[List.getElem?_toArray,List.getElem?_cons_succ,List.getElem?_cons_zero,Option.some.injEq]at ho
   subst ho
   obtain⟨hB,b12,b13,f0,f1,f2,f3,rfl,rfl,hne,hle,⟨y1,y2,y3⟩,hc,hl,hm⟩:=id g
   obtain⟨s1,s2,s3,r1,r2,r3,e1,e2,e3,rfl⟩:=hm.slices2
   obtain⟨_,x0,x1,x2,x3,q0,q1,q2,q3⟩:=y2
   rw[if_pos (by rfl)]
   go_simp
   have hq:=hK.out _ _ u41 u42 u43 u44 u45 (.agg #[.string { data:=#[] }, .slice s1 s2 s3, .slice r1 r2 r3, .slice e1 e2 e3]) _ ⟨by simpa using hlz,Or.inl ⟨by unfold zaq;simp[hlz],g.s9 (b:=b13) HM.out.pc HM.out.pd rfl rfl⟩⟩
   simp only[Go.Proofs.Ytlpdkbmmbdfoiaa.scA,Act.put,List.setIfInBounds_toArray,List.set_cons_zero,List.set_cons_succ]at hq
   exact hq
  ·obtain⟨-,c0,c1,c2,c3,-,-,-,-⟩:=HC1.out.belowS g.bel
   obtain⟨-,d0,d1,d2,d3,-,-,-,-⟩:=HC2.out.belowS g.bel
   obtain⟨_,g0,g1,g2,_,_,_⟩:=HC7.out.belowS g.bel
   clear hsh
   rcases(show i=0∨i=1∨i=2∨i=3∨i=4∨i=5∨i=6∨i=7∨i=8∨i=9 by omega)with rfl | rfl | rfl | rfl | rfl | rfl | rfl | rfl | rfl | rfl
   all_goals
    simp only[List.getElem?_toArray,List.getElem?_cons_succ,List.getElem?_cons_zero,Option.some.injEq]at ho
    subst ho
    simp[Region.binds]at hall
   ·rw[if_pos (by rfl)]
    go_simp
    have hq:=hK.out u12 u13 _ u42 u43 u44 u45 u46 _ ⟨by simpa using hlz,Or.inr (Or.inr g.s0)⟩
    simp only[Go.Proofs.Ytlpdkbmmbdfoiaa.scA,Act.put,List.setIfInBounds_toArray,List.set_cons_zero,List.set_cons_succ]at hq
    exact hq
   ·rw[if_pos (by rfl)]
    go_simp
    have hq:=hK.out u12 u13 u41 _ u43 u44 u45 u46 _ ⟨by simpa using hlz,Or.inr (Or.inr g.s1)⟩
    simp only[Go.Proofs.Ytlpdkbmmbdfoiaa.scA,Act.put,List.setIfInBounds_toArray,List.set_cons_zero,List.set_cons_succ]at hq
    exact hq
   ·obtain rfl:=g.p0 hall.1
    obtain rfl:=g.p1 hall.2
    rw[if_pos (by rfl)]
    go_simp
    go_at_call 9
    with_reducible refine(HM.out.fa _ _ _ (HVA.out.below g.bel) (HF7.out.below g.bel)).mono ?_
    rintro e2 w2 ⟨v2,rfl,hv2,hb2⟩
    have hq:=hK.out _ _ _ _ _ _ _ _ w2 ⟨by simpa using hlz,Or.inr (Or.inr (g.s2 hb2 hv2))⟩
    simp only[Go.Proofs.Ytlpdkbmmbdfoiaa.scA,Act.put,List.setIfInBounds_toArray,List.set_cons_zero,List.set_cons_succ]at hq
    exact hq
   ·rw[if_pos (by rfl)]
    go_simp
    have hq:=hK.out u12 u13 u41 u42 u43 _ u45 u46 _ ⟨by simpa using hlz,Or.inr (Or.inr g.s3)⟩
    simp only[Go.Proofs.Ytlpdkbmmbdfoiaa.scA,Act.put,List.setIfInBounds_toArray,List.set_cons_zero,List.set_cons_succ]at hq
    exact hq
   ·rw[if_pos (by rfl)]
    go_simp
    have hq:=hK.out u12 u13 u41 u42 u43 u44 _ u46 _ ⟨by simpa using hlz,Or.inr (Or.inr g.s4)⟩
    simp only[Go.Proofs.Ytlpdkbmmbdfoiaa.scA,Act.put,List.setIfInBounds_toArray,List.set_cons_zero,List.set_cons_succ]at hq
    exact hq
   ·obtain rfl:=g.p3 hall.1
    obtain rfl:=g.p4 hall.2.1
    rw[if_pos (by rfl)]
    go_simp
    go_at_call 9
    with_reducible refine(HM.out.fb _ _ _ (HVB.out.below g.bel) (HF7.out.below g.bel)).mono ?_
    rintro e2 w2 ⟨v2,rfl,hv2,hb2⟩
    have hq:=hK.out _ _ _ _ _ _ _ _ w2 ⟨by simpa using hlz,Or.inr (Or.inr (g.s5 hb2 hv2))⟩
    simp only[Go.Proofs.Ytlpdkbmmbdfoiaa.scA,Act.put,List.setIfInBounds_toArray,List.set_cons_zero,List.set_cons_succ]at hq
    exact hq
   ·rw[if_pos (by rfl)]
    go_simp
    have hq:=hK.out _ u13 u41 u42 u43 u44 u45 u46 _ ⟨by simpa using hlz,Or.inr (Or.inr (g.s6 26))⟩
    simp only[Go.Proofs.Ytlpdkbmmbdfoiaa.scA,Act.put,List.setIfInBounds_toArray,List.set_cons_zero,List.set_cons_succ]at hq
    exact hq
   ·rw[if_pos (by rfl)]
    go_simp
    have hq:=hK.out u12 _ u41 u42 u43 u44 u45 u46 _ ⟨by simpa using hlz,Or.inr (Or.inr (g.s7 26))⟩
    simp only[Go.Proofs.Ytlpdkbmmbdfoiaa.scA,Act.put,List.setIfInBounds_toArray,List.set_cons_zero,List.set_cons_succ]at hq
    exact hq
   ·have h6:zaq l 6:=by simp[hall]
    have h2:zaq l 2:=by simp[hall]
    have h5:zaq l 5:=by simp[hall]
    have h7:zaq l 7:=by simp[hall]
    obtain⟨b12,e12,z1,z2,z3⟩:=g.p6 h6
    subst e12
    obtain⟨s1,s2,s3,r1,r2,r3,e1,e2,e3,e43⟩:=(g.p2 h2).slices2
    subst e43
    obtain⟨_,x0,x1,x2,x3,q0,q1,q2,q3⟩:=z2
    rw[if_pos (by rfl)]
    go_simp
    have hq:=hK.out (.pointer (some ⟨b12,0,none⟩)) u13 u41 u42 (.agg #[.string { data:=#[] }, .slice s1 s2 s3, .slice r1 r2 r3, .slice e1 e2 e3]) u44 u45 u46 _ ⟨by simpa using hlz,Or.inr (Or.inl ⟨by unfold zaq;simp[hlz],fun hd=>g.n9 ((zaq.set hd).resolve_left (by decide)),g.s8 (b:=b12) h2 h5 h6 h7 HM.out.pc HM.out.pd rfl rfl⟩)⟩
    simp only[Go.Proofs.Ytlpdkbmmbdfoiaa.scA,Act.put,List.setIfInBounds_toArray,List.set_cons_zero,List.set_cons_succ]at hq
    exact hq
   ·exact absurd (by simp[hall]) g.n8
 ·rintro l u12 u13 u41 u42 u43 u44 u45 u46 w' ⟨hlz,hg⟩ hd
  rcases hg with⟨_,g⟩ | ⟨_,hn9,_⟩ | g
  ·obtain⟨hbe,b12,b13,f0,f1,f2,f3,g0,g1,g2,g3,rfl,rfl,hc,hd2,hl,hm⟩:=g
   obtain⟨W12,hw3⟩:∃w3,w3=w':=⟨_,rfl⟩
   subst hw3
   obtain⟨s12,n12,k12,r12,m12,j12,e12,o12,i12,he⟩:=hl.slices2
   injection he with he
   injection he with he
   simp only[List.cons.injEq,and_true]at he
   obtain⟨rfl,rfl,rfl,rfl⟩:=he
   obtain⟨s13,n13,k13,r13,m13,j13,e13,o13,i13,he⟩:=hm.slices2
   injection he with he
   injection he with he
   simp only[List.cons.injEq,and_true]at he
   obtain⟨rfl,rfl,rfl,rfl⟩:=he
   have HC12:=zH hc
   have HC13:=zH hd2
   have HV12:=zH hl
   have HV13:=zH hm
   replace HB1:=zH (zaa HB1.out hbe);replace HC7:=zH (HC7.out.belowS hbe);replace HF7:=zH (HF7.out.below hbe);replace HC8:=zH (HC8.out.belowS hbe);replace HF8:=zH (HF8.out.below hbe);replace HC10:=zH (HC10.out.belowS hbe);replace HF10:=zH (HF10.out.below hbe)
   clear hbe hc hd2 hl hm hd HC1 HC2 HVA HVB
   simp only[Go.Proofs.Ytlpdkbmmbdfoiaa.scA,Act.put,List.setIfInBounds_toArray,List.set_cons_zero,List.set_cons_succ]
   obtain⟨-,c0,c1,c2,c3,-,-,-,-⟩:=HC12.out
   go_upto_region 7 with(first
    |(go_at_call 7;(with_reducible refine((HM.out.mc _ _ HV12.out)).mono ?_);rintro e14 w14 ⟨v14,rfl,hv14,hb14⟩
      clear c0 c1 c2 c3
      obtain⟨t14,x14,y14,rfl,⟨a141,l141,k141,rfl,_⟩,⟨a142,l142,k142,rfl,_⟩⟩:=hv14.isF
      have hba:=zca w14 (.cells #[.bool t14, .slice a141 l141 k141, .slice a142 l142 k142] 32)
      have hbb:=zaa hb14 hba
      have HC14:=zH (C3.new w14 32 (.bool t14) (.slice a141 l141 k141) (.slice a142 l142 k142))
      have HF14:=zH (hv14.below hba)
      replace HB1:=zH (zaa HB1.out hbb);replace HC7:=zH (HC7.out.belowS hbb);replace HF7:=zH (HF7.out.below hbb);replace HC8:=zH (HC8.out.belowS hbb);replace HF8:=zH (HF8.out.below hbb);replace HC10:=zH (HC10.out.belowS hbb);replace HF10:=zH (HF10.out.below hbb);replace HC12:=zH (HC12.out.belowS hbb);replace HV12:=zH (HV12.out.below hbb);replace HC13:=zH (HC13.out.belowS hbb);replace HV13:=zH (HV13.out.below hbb)
      clear hv14 hb14 hba hbb))
   obtain⟨b14,hb14⟩:∃b,w14.heap.size=b:=⟨_,rfl⟩
   rw[hb14]at HC14 ⊢
   clear hb14
   generalize w14.alloc (.cells #[.bool t14, .slice a141 l141 k141, .slice a142 l142 k142] 32)=W14 at *
   obtain⟨-,c0,c1,c2,c3,-,-,-,-⟩:=HC12.out
   obtain⟨-,d0,d1,d2,d3,-,-,-,-⟩:=HC13.out
   go_upto_region 10 with(first
    |(go_at_call 8;(with_reducible refine((HM.out.bcd _ _ _ HV12.out HV13.out)).mono ?_);rintro e16 w16 ⟨v16,rfl,hv16,hb16⟩
      clear c0 c1 c2 c3 d0 d1 d2 d3
      obtain⟨t16,x16,y16,rfl,⟨a161,l161,k161,rfl,_⟩,⟨a162,l162,k162,rfl,_⟩⟩:=hv16.isF
      have hba:=zca w16 (.cells #[.bool t16, .slice a161 l161 k161, .slice a162 l162 k162] 32)
      have hbb:=zaa hb16 hba
      have HC16:=zH (C3.new w16 32 (.bool t16) (.slice a161 l161 k161) (.slice a162 l162 k162))
      have HF16:=zH (hv16.below hba)
      replace HB1:=zH (zaa HB1.out hbb);replace HC7:=zH (HC7.out.belowS hbb);replace HF7:=zH (HF7.out.below hbb);replace HC8:=zH (HC8.out.belowS hbb);replace HF8:=zH (HF8.out.below hbb);replace HC10:=zH (HC10.out.belowS hbb);replace HF10:=zH (HF10.out.below hbb);replace HC14:=zH (HC14.out.belowS hbb);replace HF14:=zH (HF14.out.below hbb)
      clear hv16 hb16 hba hbb))
   obtain⟨b16,hb16⟩:∃b,w16.heap.size=b:=⟨_,rfl⟩
   rw[hb16]at HC16 ⊢
   clear hb16
   generalize w16.alloc (.cells #[.bool t16, .slice a161 l161 k161, .slice a162 l162 k162] 32)=W16 at *
   clear HC12 HV12 HC13 HV13
   obtain⟨_,c0,c1,c2,_,_,_⟩:=HC7.out
   obtain⟨_,d0,d1,d2,_,_,_⟩:=HC14.out
   go_upto_region 11 with(first
    |(go_at_call 10;(with_reducible refine((ziq _ _ K my _ HF7.out HF14.out HM.out.fk HM.out.fy HM.out.fkx)).mono ?_);rintro e18 w18 ⟨v18,rfl,hv18,hb18⟩
      clear c0 c1 c2 d0 d1 d2
      obtain⟨t18,x18,y18,rfl,⟨a181,l181,k181,rfl,_⟩,⟨a182,l182,k182,rfl,_⟩⟩:=hv18.isF
      have hba:=zca w18 (.cells #[.bool t18, .slice a181 l181 k181, .slice a182 l182 k182] 32)
      have hbb:=zaa hb18 hba
      have HC18:=zH (C3.new w18 32 (.bool t18) (.slice a181 l181 k181) (.slice a182 l182 k182))
      have HF18:=zH (hv18.below hba)
      replace HB1:=zH (zaa HB1.out hbb);replace HC8:=zH (HC8.out.belowS hbb);replace HF8:=zH (HF8.out.below hbb);replace HC10:=zH (HC10.out.belowS hbb);replace HF10:=zH (HF10.out.below hbb);replace HC16:=zH (HC16.out.belowS hbb);replace HF16:=zH (HF16.out.below hbb)
      clear hv18 hb18 hba hbb))
   obtain⟨b18,hb18⟩:∃b,w18.heap.size=b:=⟨_,rfl⟩
   rw[hb18]at HC18 ⊢
   clear hb18
   generalize w18.alloc (.cells #[.bool t18, .slice a181 l181 k181, .slice a182 l182 k182] 32)=W18 at *
   clear HC7 HF7 HC14 HF14
   obtain⟨_,c0,c1,c2,_,_,_⟩:=HC18.out
   obtain⟨_,d0,d1,d2,_,_,_⟩:=HC8.out
   have tok1:True:=trivial
   go_wp2_with (first
    |(go_at_call 11;(with_reducible refine(psame_t _ _ HF18.out HF8.out HM.out.fkx HM.out.e1).mono ?_);rintro e60 w60 ⟨rfl,hb60⟩
      clear c0 c1 c2 d0 d1 d2
      replace HB1:=zH (zaa HB1.out hb60);replace HC10:=zH (HC10.out.belowS hb60);replace HF10:=zH (HF10.out.below hb60);replace HC16:=zH (HC16.out.belowS hb60);replace HF16:=zH (HF16.out.below hb60)
      obtain⟨_,c0,c1,c2,_,_,_⟩:=HC10.out
      obtain⟨_,d0,d1,d2,_,_,_⟩:=HC16.out
      clear hb60)
    |(go_at_call 11;(with_reducible refine(psame_t _ _ HF10.out HF16.out HM.out.fp HM.out.e2).mono ?_);rintro e61 w61 ⟨rfl,hb61⟩
      clear c0 c1 c2 d0 d1 d2
      replace HB1:=zH (zaa HB1.out hb61)
      clear hb61)
    |(go_at_call 12;(with_reducible refine(awake20_any _).mono ?_);rintro e70 w70 ⟨rfl,hb70⟩
      clear tok1
      replace HB1:=zH (zaa HB1.out hb70)
      clear hb70))
   go_ret
   exact⟨rfl,HB1.out⟩
  ·exact absurd (hd 9 (by decide)) hn9
  ·exact absurd (hd 9 (by decide)) g.n9
end Go.Proofs.Ytlpdkbmmbdfoiaa
