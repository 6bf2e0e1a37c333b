/-
  PhaseMade: for every input the law returns true, and the input reads as it did. No condition.
-/
import Derived.Test.YtlpdkbmmbdfoiaaGreatPTp1
import Derived.Test.YtlpdkbmmbdfoiaaGreatRows
import Derived.OpenShut
set_option linter.unusedVariables false
set_option linter.unusedSimpArgs false
namespace Go.Proofs.YtlpdkbmmbdfoiaaGreat
open Go.RowKit
set_option maxRecDepth 100000 in
set_option maxHeartbeats 12800000 in
theorem agrees_any (vp va vb:Value) (p:Rat) (a b:LQ) (n:Nat) (w:World) (hp:zia w vp p) (ha:zgd w va a) (hb:zgd w vb b) {s11:Bool} {x1 z1:List Nat} {g1:Int} {s13:Bool} {x2 z2:List Nat} {l3:LQ} {g3:Int} {l4:LQ} {g4:Int} {l5:LQ} {g5:Int} {s27:Bool} {x6 z6:List Nat}
 (hF:AgF a b p n s11 x1 z1 g1 s13 x2 z2 l3 g3 l4 g4 l5 g5 s27 x6 z6):Calls Tryz.prog 55 #[va,vb,vp, .int .i64 (n:Nat)] w (λ e w'=>e= .returned (.bool true)/\Below w.heap.size w w'):=by
 obtain⟨saA,snA,skA,raA,rnA,rkA,eaA,enA,ekA,rfl⟩:=ha.slices2;obtain⟨saB,snB,skB,raB,rnB,rkB,eaB,enB,ekB,rfl⟩:=hb.slices2;obtain⟨t3,a31,l31,k31,a32,l32,k32,rfl⟩:=hp.iF;obtain⟨hc1,hc2,hc3,hbw⟩:=bef_box w 52 38 (.string { data:=#[] }) (.slice saA snA skA) (.slice raA rnA rkA) (.slice eaA enA ekA) (.string { data:=#[] }) (.slice saB snB skB) (.slice raB rnB rkB) (.slice eaB enB ekB) (.bool t3) (.slice a31 l31 k31) (.slice a32 l32 k32) _ rfl;have HC1:=zH hc1;have HC2:=zH hc2;have HC3:=zH hc3;have HB1:=zH hbw;have HVA:=zH (ha.bw hbw);have HVB:=zH (hb.bw hbw);have HVP:=zH (hp.bw hbw);have HM:=zH hF;clear hc1 hc2 hc3 hbw ha hb hp hF;have q1:(g1==g1)=true:=by simp
 have q3:(g3==g3)=true:=by simp
 have q4:(g4==g4)=true:=by simp
 have q5:(g5==g5)=true:=by simp
 obtain⟨s12,hs12⟩:∃s,s11=s:=⟨_,rfl⟩;obtain⟨s14,hs14⟩:∃s,s13=s:=⟨_,rfl⟩;obtain⟨s28,hs28⟩:∃s,s27=s:=⟨_,rfl⟩;have HS:=zH (zAI hs12 (zAI hs14 hs28));have HRM:zI (∀w0 vl,zgd w0 vl a->Calls Tryz.prog 124 #[vl, .int .i64 (n:Nat)] w0 (RFX w0 s12 x1 z1 g1)):=zH (by rw[<-hs12];exact HM.o.rm);have HRE:zI (∀w0 vl,zgd w0 vl a->Calls Tryz.prog 125 #[vl] w0 (RFX w0 s14 x2 z2 0)):=zH (by rw[<-hs14];exact HM.o.re);have HRB:zI (∀w0 va vb,zgd w0 va a->zgd w0 vb b->Calls Tryz.prog 129 #[va,vb] w0 (RFX w0 s28 x6 z6 0)):=zH (by rw[<-hs28];exact HM.o.rb);clear hs12 hs14 hs28;go_enter Tryz.func55,Tryz.ntmps55;go_upto_region 1 with fail;generalize ((w.alloc (.cells #[.string { data:=#[] }, .slice saA snA skA, .slice raA rnA rkA, .slice eaA enA ekA] 52)).alloc (.cells #[.string { data:=#[] }, .slice saB snB skB, .slice raB rnB rkB, .slice eaB enB ekB] 52)).alloc (.cells #[.bool t3, .slice a31 l31 k31, .slice a32 l32 k32] 38)=W1 at *
 obtain⟨-,c0,c1,c2,c3,-,-,-,-⟩:=HC1.o
 go_upto_region 2 with(first
  |(go_at_call 37;(with_reducible refine((HM.o.pm _ _ HVA.o)).mono ?_);rintro e11 w11 ⟨v11,rfl,hv11,hb11⟩;clear c0 c1 c2 c3;obtain⟨a111,l111,k111,a112,l112,k112,rfl⟩:=hv11.isF;have hba:=zca w11 (.cells #[.bool s11, .slice a111 l111 k111, .slice a112 l112 k112] 38);have hbb:=zaa hb11 hba;have HC11:=zH (C3.new w11 38 (.bool s11) (.slice a111 l111 k111) (.slice a112 l112 k112));have HF11:=zH (hv11.bw hba);replace HB1:=zH (zaa HB1.o hbb);replace HC1:=zH (HC1.o.bS hbb);replace HC2:=zH (HC2.o.bS hbb);replace HC3:=zH (HC3.o.bS hbb);replace HVA:=zH (HVA.o.bw hbb);replace HVB:=zH (HVB.o.bw hbb);replace HVP:=zH (HVP.o.bw hbb);clear hv11 hb11 hba hbb))
 obtain⟨b11,hb11⟩:∃b,w11.heap.size=b:=⟨_,rfl⟩;rw[hb11]at HC11 |-
 clear hb11;generalize w11.alloc (.cells #[.bool s11, .slice a111 l111 k111, .slice a112 l112 k112] 38)=W11 at *
 obtain⟨-,c0,c1,c2,c3,-,-,-,-⟩:=HC1.o
 go_upto_region 3 with(first
  |(go_at_call 124;(with_reducible refine((HRM.o _ _ HVA.o)).mono ?_);rintro e12 w12 ⟨v12,rfl,hv12,hb12⟩;clear c0 c1 c2 c3;obtain⟨a121,l121,k121,a122,l122,k122,rfl⟩:=hv12.isF;have hba:=zca w12 (.cells #[.bool s12, .slice a121 l121 k121, .slice a122 l122 k122] 38);have hbb:=zaa hb12 hba;have HC12:=zH (C3.new w12 38 (.bool s12) (.slice a121 l121 k121) (.slice a122 l122 k122));have HF12:=zH (hv12.bw hba);replace HB1:=zH (zaa HB1.o hbb);replace HC1:=zH (HC1.o.bS hbb);replace HC2:=zH (HC2.o.bS hbb);replace HC3:=zH (HC3.o.bS hbb);replace HVA:=zH (HVA.o.bw hbb);replace HVB:=zH (HVB.o.bw hbb);replace HVP:=zH (HVP.o.bw hbb);replace HC11:=zH (HC11.o.bS hbb);replace HF11:=zH (HF11.o.bw hbb);clear hv12 hb12 hba hbb))
 obtain⟨b12,hb12⟩:∃b,w12.heap.size=b:=⟨_,rfl⟩;rw[hb12]at HC12 |-
 clear hb12;generalize w12.alloc (.cells #[.bool s12, .slice a121 l121 k121, .slice a122 l122 k122] 38)=W12 at *
 obtain⟨-,c0,c1,c2,c3,-,-,-,-⟩:=HC1.o
 go_upto_region 4 with(first
  |(go_at_call 36;(with_reducible refine((HM.o.pe _ _ HVA.o)).mono ?_);rintro e13 w13 ⟨v13,rfl,hv13,hb13⟩;clear c0 c1 c2 c3;obtain⟨a131,l131,k131,a132,l132,k132,rfl⟩:=hv13.isF;have hba:=zca w13 (.cells #[.bool s13, .slice a131 l131 k131, .slice a132 l132 k132] 38);have hbb:=zaa hb13 hba;have HC13:=zH (C3.new w13 38 (.bool s13) (.slice a131 l131 k131) (.slice a132 l132 k132));have HF13:=zH (hv13.bw hba);replace HB1:=zH (zaa HB1.o hbb);replace HC1:=zH (HC1.o.bS hbb);replace HC2:=zH (HC2.o.bS hbb);replace HC3:=zH (HC3.o.bS hbb);replace HVA:=zH (HVA.o.bw hbb);replace HVB:=zH (HVB.o.bw hbb);replace HVP:=zH (HVP.o.bw hbb);replace HC11:=zH (HC11.o.bS hbb);replace HF11:=zH (HF11.o.bw hbb);replace HC12:=zH (HC12.o.bS hbb);replace HF12:=zH (HF12.o.bw hbb);clear hv13 hb13 hba hbb))
 obtain⟨b13,hb13⟩:∃b,w13.heap.size=b:=⟨_,rfl⟩;rw[hb13]at HC13 |-
 clear hb13;generalize w13.alloc (.cells #[.bool s13, .slice a131 l131 k131, .slice a132 l132 k132] 38)=W13 at *
 obtain⟨-,c0,c1,c2,c3,-,-,-,-⟩:=HC1.o
 go_upto_region 5 with(first
  |(go_at_call 125;(with_reducible refine((HRE.o _ _ HVA.o)).mono ?_);rintro e14 w14 ⟨v14,rfl,hv14,hb14⟩;clear c0 c1 c2 c3;obtain⟨a141,l141,k141,a142,l142,k142,rfl⟩:=hv14.isF;have hba:=zca w14 (.cells #[.bool s14, .slice a141 l141 k141, .slice a142 l142 k142] 38);have hbb:=zaa hb14 hba;have HC14:=zH (C3.new w14 38 (.bool s14) (.slice a141 l141 k141) (.slice a142 l142 k142));have HF14:=zH (hv14.bw hba);replace HB1:=zH (zaa HB1.o hbb);replace HC1:=zH (HC1.o.bS hbb);replace HC2:=zH (HC2.o.bS hbb);replace HC3:=zH (HC3.o.bS hbb);replace HVA:=zH (HVA.o.bw hbb);replace HVB:=zH (HVB.o.bw hbb);replace HVP:=zH (HVP.o.bw hbb);replace HC11:=zH (HC11.o.bS hbb);replace HF11:=zH (HF11.o.bw hbb);replace HC12:=zH (HC12.o.bS hbb);replace HF12:=zH (HF12.o.bw hbb);replace HC13:=zH (HC13.o.bS hbb);replace HF13:=zH (HF13.o.bw hbb);clear hv14 hb14 hba hbb))
 obtain⟨b14,hb14⟩:∃b,w14.heap.size=b:=⟨_,rfl⟩;rw[hb14]at HC14 |-
 clear hb14;generalize w14.alloc (.cells #[.bool s14, .slice a141 l141 k141, .slice a142 l142 k142] 38)=W14 at *
 obtain⟨_,c0,c1,c2,_,_,_⟩:=HC11.o;obtain⟨_,d0,d1,d2,_,_,_⟩:=HC12.o;obtain⟨_,r0,r1,r2,_,_,_⟩:=HC13.o;obtain⟨_,t0,t1,t2,_,_,_⟩:=HC14.o;have HG12:zI (FX W14 (.agg #[.bool s12, .slice a121 l121 k121, .slice a122 l122 k122]) s11 x1 z1):=zH (by have h:=HF12.o;rw[<-HS.o.1]at h |-;exact h);have HG14:zI (FX W14 (.agg #[.bool s14, .slice a141 l141 k141, .slice a142 l142 k142]) s13 x2 z2):=zH (by have h:=HF14.o;rw[<-HS.o.2.1]at h |-;exact h);clear HF12 HF14;have tok1:True:=trivial
 go_upto_region 7 with(first
  |(go_at_call 61;have _t:=tok1;(with_reducible refine(same_fx _ _ s11 x1 z1 _ HF11.o HG12.o).mono ?_);rintro e41 w41 ⟨rfl,hb41⟩;clear c0 c1 c2 d0 d1 d2 r0 r1 r2 t0 t1 t2;replace HB1:=zH (zaa HB1.o hb41);replace HC1:=zH (HC1.o.bS hb41);replace HC2:=zH (HC2.o.bS hb41);replace HC3:=zH (HC3.o.bS hb41);replace HVA:=zH (HVA.o.bw hb41);replace HVB:=zH (HVB.o.bw hb41);replace HVP:=zH (HVP.o.bw hb41);replace HC13:=zH (HC13.o.bS hb41);replace HF13:=zH (HF13.o.bw hb41);replace HC14:=zH (HC14.o.bS hb41);replace HG14:=zH (HG14.o.bw hb41);obtain⟨_,r0,r1,r2,_,_,_⟩:=HC13.o;obtain⟨_,t0,t1,t2,_,_,_⟩:=HC14.o;clear hb41 tok1 _t)
  |(go_at_call 61;(with_reducible refine(same_fx _ _ s13 x2 z2 _ HF13.o HG14.o).mono ?_);rintro e42 w42 ⟨rfl,hb42⟩;clear r0 r1 r2 t0 t1 t2;replace HB1:=zH (zaa HB1.o hb42);replace HC1:=zH (HC1.o.bS hb42);replace HC2:=zH (HC2.o.bS hb42);replace HC3:=zH (HC3.o.bS hb42);replace HVA:=zH (HVA.o.bw hb42);replace HVB:=zH (HVB.o.bw hb42);replace HVP:=zH (HVP.o.bw hb42);clear hb42))
 clear HC11 HC12 HC13 HC14 HF11 HG12 HF13 HG14;obtain⟨-,c0,c1,c2,c3,-,-,-,-⟩:=HC1.o;obtain⟨-,d0,d1,d2,d3,-,-,-,-⟩:=HC2.o
 go_upto_region 8 with(first
  |(go_at_call 35;(with_reducible refine((HM.o.ps _ _ _ HVA.o HVB.o)).mono ?_);rintro e15 w15 ⟨v15,rfl,hv15,hb15⟩;clear c0 c1 c2 c3 d0 d1 d2 d3;obtain⟨s15,n15,k15,r15,m15,j15,e15,o15,i15,rfl⟩:=hv15.slices2;have hba:=zca w15 (.cells #[.string { data:=#[] }, .slice s15 n15 k15, .slice r15 m15 j15, .slice e15 o15 i15] 52);have hbb:=zaa hb15 hba;have HC15:=zH (C4.new w15 52 (.string { data:=#[] }) (.slice s15 n15 k15) (.slice r15 m15 j15) (.slice e15 o15 i15));have HV15:=zH (hv15.bw hba);replace HB1:=zH (zaa HB1.o hbb);replace HC1:=zH (HC1.o.bS hbb);replace HC2:=zH (HC2.o.bS hbb);replace HC3:=zH (HC3.o.bS hbb);replace HVA:=zH (HVA.o.bw hbb);replace HVB:=zH (HVB.o.bw hbb);replace HVP:=zH (HVP.o.bw hbb);clear hv15 hb15 hba hbb))
 obtain⟨b15,hb15⟩:∃b,w15.heap.size=b:=⟨_,rfl⟩;rw[hb15]at HC15 |-
 clear hb15;generalize w15.alloc (.cells #[.string { data:=#[] }, .slice s15 n15 k15, .slice r15 m15 j15, .slice e15 o15 i15] 52)=W15 at *
 obtain⟨-,c0,c1,c2,c3,-,-,-,-⟩:=HC1.o;obtain⟨-,d0,d1,d2,d3,-,-,-,-⟩:=HC2.o
 go_upto_region 9 with(first
  |(go_at_call 126;(with_reducible refine((HM.o.rs _ _ _ HVA.o HVB.o)).mono ?_);rintro e16 w16 ⟨v16,rfl,hv16,hb16⟩;clear c0 c1 c2 c3 d0 d1 d2 d3;obtain⟨s16,n16,k16,r16,m16,j16,e16,o16,i16,rfl⟩:=hv16.slices2;have hba:=zca w16 (.cells #[.string { data:=#[] }, .slice s16 n16 k16, .slice r16 m16 j16, .slice e16 o16 i16] 52);have hbb:=zaa hb16 hba;have HC16:=zH (C4.new w16 52 (.string { data:=#[] }) (.slice s16 n16 k16) (.slice r16 m16 j16) (.slice e16 o16 i16));have HV16:=zH (hv16.bw hba);replace HB1:=zH (zaa HB1.o hbb);replace HC1:=zH (HC1.o.bS hbb);replace HC2:=zH (HC2.o.bS hbb);replace HC3:=zH (HC3.o.bS hbb);replace HVA:=zH (HVA.o.bw hbb);replace HVB:=zH (HVB.o.bw hbb);replace HVP:=zH (HVP.o.bw hbb);replace HC15:=zH (HC15.o.bS hbb);replace HV15:=zH (HV15.o.bw hbb);clear hv16 hb16 hba hbb))
 obtain⟨b16,hb16⟩:∃b,w16.heap.size=b:=⟨_,rfl⟩;rw[hb16]at HC16 |-
 clear hb16;generalize w16.alloc (.cells #[.string { data:=#[] }, .slice s16 n16 k16, .slice r16 m16 j16, .slice e16 o16 i16] 52)=W16 at *
 obtain⟨-,c0,c1,c2,c3,-,-,-,-⟩:=HC1.o;obtain⟨-,d0,d1,d2,d3,-,-,-,-⟩:=HC2.o
 go_upto_region 10 with(first
  |(go_at_call 57;(with_reducible refine((HM.o.pf _ _ _ HVA.o HVB.o)).mono ?_);rintro e17 w17 ⟨v17,rfl,hv17,hb17⟩;clear c0 c1 c2 c3 d0 d1 d2 d3;obtain⟨s17,n17,k17,r17,m17,j17,e17,o17,i17,rfl⟩:=hv17.slices2;have hba:=zca w17 (.cells #[.string { data:=#[] }, .slice s17 n17 k17, .slice r17 m17 j17, .slice e17 o17 i17] 52);have hbb:=zaa hb17 hba;have HC17:=zH (C4.new w17 52 (.string { data:=#[] }) (.slice s17 n17 k17) (.slice r17 m17 j17) (.slice e17 o17 i17));have HV17:=zH (hv17.bw hba);replace HB1:=zH (zaa HB1.o hbb);replace HC1:=zH (HC1.o.bS hbb);replace HC2:=zH (HC2.o.bS hbb);replace HC3:=zH (HC3.o.bS hbb);replace HVA:=zH (HVA.o.bw hbb);replace HVB:=zH (HVB.o.bw hbb);replace HVP:=zH (HVP.o.bw hbb);replace HC15:=zH (HC15.o.bS hbb);replace HV15:=zH (HV15.o.bw hbb);replace HC16:=zH (HC16.o.bS hbb);replace HV16:=zH (HV16.o.bw hbb);clear hv17 hb17 hba hbb))
 obtain⟨b17,hb17⟩:∃b,w17.heap.size=b:=⟨_,rfl⟩;rw[hb17]at HC17 |-
 clear hb17;generalize w17.alloc (.cells #[.string { data:=#[] }, .slice s17 n17 k17, .slice r17 m17 j17, .slice e17 o17 i17] 52)=W17 at *
 obtain⟨-,c0,c1,c2,c3,-,-,-,-⟩:=HC1.o;obtain⟨-,d0,d1,d2,d3,-,-,-,-⟩:=HC2.o
 go_upto_region 11 with(first
  |(go_at_call 127;(with_reducible refine((HM.o.rf _ _ _ HVA.o HVB.o)).mono ?_);rintro e18 w18 ⟨v18,rfl,hv18,hb18⟩;clear c0 c1 c2 c3 d0 d1 d2 d3;obtain⟨s18,n18,k18,r18,m18,j18,e18,o18,i18,rfl⟩:=hv18.slices2;have hba:=zca w18 (.cells #[.string { data:=#[] }, .slice s18 n18 k18, .slice r18 m18 j18, .slice e18 o18 i18] 52);have hbb:=zaa hb18 hba;have HC18:=zH (C4.new w18 52 (.string { data:=#[] }) (.slice s18 n18 k18) (.slice r18 m18 j18) (.slice e18 o18 i18));have HV18:=zH (hv18.bw hba);replace HB1:=zH (zaa HB1.o hbb);replace HC1:=zH (HC1.o.bS hbb);replace HC2:=zH (HC2.o.bS hbb);replace HC3:=zH (HC3.o.bS hbb);replace HVA:=zH (HVA.o.bw hbb);replace HVB:=zH (HVB.o.bw hbb);replace HVP:=zH (HVP.o.bw hbb);replace HC15:=zH (HC15.o.bS hbb);replace HV15:=zH (HV15.o.bw hbb);replace HC16:=zH (HC16.o.bS hbb);replace HV16:=zH (HV16.o.bw hbb);replace HC17:=zH (HC17.o.bS hbb);replace HV17:=zH (HV17.o.bw hbb);clear hv18 hb18 hba hbb))
 obtain⟨b18,hb18⟩:∃b,w18.heap.size=b:=⟨_,rfl⟩;rw[hb18]at HC18 |-
 clear hb18;generalize w18.alloc (.cells #[.string { data:=#[] }, .slice s18 n18 k18, .slice r18 m18 j18, .slice e18 o18 i18] 52)=W18 at *
 obtain⟨-,c0,c1,c2,c3,-,-,-,-⟩:=HC1.o;obtain⟨-,d0,d1,d2,d3,-,-,-,-⟩:=HC2.o;obtain⟨_,f0,f1,f2,_,_,_⟩:=HC3.o
 go_upto_region 12 with(first
  |(go_at_call 56;(with_reducible refine((HM.o.px _ _ _ _ HVP.o HVA.o HVB.o)).mono ?_);rintro e19 w19 ⟨v19,rfl,hv19,hb19⟩;clear c0 c1 c2 c3 d0 d1 d2 d3 f0 f1 f2;obtain⟨s19,n19,k19,r19,m19,j19,e19,o19,i19,rfl⟩:=hv19.slices2;have hba:=zca w19 (.cells #[.string { data:=#[] }, .slice s19 n19 k19, .slice r19 m19 j19, .slice e19 o19 i19] 52);have hbb:=zaa hb19 hba;have HC19:=zH (C4.new w19 52 (.string { data:=#[] }) (.slice s19 n19 k19) (.slice r19 m19 j19) (.slice e19 o19 i19));have HV19:=zH (hv19.bw hba);replace HB1:=zH (zaa HB1.o hbb);replace HC1:=zH (HC1.o.bS hbb);replace HC2:=zH (HC2.o.bS hbb);replace HC3:=zH (HC3.o.bS hbb);replace HVA:=zH (HVA.o.bw hbb);replace HVB:=zH (HVB.o.bw hbb);replace HVP:=zH (HVP.o.bw hbb);replace HC15:=zH (HC15.o.bS hbb);replace HV15:=zH (HV15.o.bw hbb);replace HC16:=zH (HC16.o.bS hbb);replace HV16:=zH (HV16.o.bw hbb);replace HC17:=zH (HC17.o.bS hbb);replace HV17:=zH (HV17.o.bw hbb);replace HC18:=zH (HC18.o.bS hbb);replace HV18:=zH (HV18.o.bw hbb);clear hv19 hb19 hba hbb))
 obtain⟨b19,hb19⟩:∃b,w19.heap.size=b:=⟨_,rfl⟩;rw[hb19]at HC19 |-
 clear hb19;generalize w19.alloc (.cells #[.string { data:=#[] }, .slice s19 n19 k19, .slice r19 m19 j19, .slice e19 o19 i19] 52)=W19 at *
 obtain⟨-,c0,c1,c2,c3,-,-,-,-⟩:=HC1.o;obtain⟨-,d0,d1,d2,d3,-,-,-,-⟩:=HC2.o;obtain⟨_,f0,f1,f2,_,_,_⟩:=HC3.o
 go_upto_region 13 with(first
  |(go_at_call 128;(with_reducible refine((HM.o.rx _ _ _ _ HVP.o HVA.o HVB.o)).mono ?_);rintro e20 w20 ⟨v20,rfl,hv20,hb20⟩;clear c0 c1 c2 c3 d0 d1 d2 d3 f0 f1 f2;obtain⟨s20,n20,k20,r20,m20,j20,e20,o20,i20,rfl⟩:=hv20.slices2;have hba:=zca w20 (.cells #[.string { data:=#[] }, .slice s20 n20 k20, .slice r20 m20 j20, .slice e20 o20 i20] 52);have hbb:=zaa hb20 hba;have HC20:=zH (C4.new w20 52 (.string { data:=#[] }) (.slice s20 n20 k20) (.slice r20 m20 j20) (.slice e20 o20 i20));have HV20:=zH (hv20.bw hba);replace HB1:=zH (zaa HB1.o hbb);replace HC1:=zH (HC1.o.bS hbb);replace HC2:=zH (HC2.o.bS hbb);replace HVA:=zH (HVA.o.bw hbb);replace HVB:=zH (HVB.o.bw hbb);replace HC15:=zH (HC15.o.bS hbb);replace HV15:=zH (HV15.o.bw hbb);replace HC16:=zH (HC16.o.bS hbb);replace HV16:=zH (HV16.o.bw hbb);replace HC17:=zH (HC17.o.bS hbb);replace HV17:=zH (HV17.o.bw hbb);replace HC18:=zH (HC18.o.bS hbb);replace HV18:=zH (HV18.o.bw hbb);replace HC19:=zH (HC19.o.bS hbb);replace HV19:=zH (HV19.o.bw hbb);clear hv20 hb20 hba hbb))
 obtain⟨b20,hb20⟩:∃b,w20.heap.size=b:=⟨_,rfl⟩;rw[hb20]at HC20 |-
 clear hb20;generalize w20.alloc (.cells #[.string { data:=#[] }, .slice s20 n20 k20, .slice r20 m20 j20, .slice e20 o20 i20] 52)=W20 at *
 obtain⟨-,c0,c1,c2,c3,-,-,-,-⟩:=HC1.o;obtain⟨-,d0,d1,d2,d3,-,-,-,-⟩:=HC2.o
 go_upto_region 14 with(first
  |(go_at_call 32;(with_reducible refine((HM.o.pb _ _ _ HVA.o HVB.o)).mono ?_);rintro e27 w27 ⟨v27,rfl,hv27,hb27⟩;clear c0 c1 c2 c3 d0 d1 d2 d3;obtain⟨a271,l271,k271,a272,l272,k272,rfl⟩:=hv27.isF;have hba:=zca w27 (.cells #[.bool s27, .slice a271 l271 k271, .slice a272 l272 k272] 38);have hbb:=zaa hb27 hba;have HC27:=zH (C3.new w27 38 (.bool s27) (.slice a271 l271 k271) (.slice a272 l272 k272));have HF27:=zH (hv27.bw hba);replace HB1:=zH (zaa HB1.o hbb);replace HC1:=zH (HC1.o.bS hbb);replace HC2:=zH (HC2.o.bS hbb);replace HVA:=zH (HVA.o.bw hbb);replace HVB:=zH (HVB.o.bw hbb);replace HC15:=zH (HC15.o.bS hbb);replace HV15:=zH (HV15.o.bw hbb);replace HC16:=zH (HC16.o.bS hbb);replace HV16:=zH (HV16.o.bw hbb);replace HC17:=zH (HC17.o.bS hbb);replace HV17:=zH (HV17.o.bw hbb);replace HC18:=zH (HC18.o.bS hbb);replace HV18:=zH (HV18.o.bw hbb);replace HC19:=zH (HC19.o.bS hbb);replace HV19:=zH (HV19.o.bw hbb);replace HC20:=zH (HC20.o.bS hbb);replace HV20:=zH (HV20.o.bw hbb);clear hv27 hb27 hba hbb))
 obtain⟨b27,hb27⟩:∃b,w27.heap.size=b:=⟨_,rfl⟩;rw[hb27]at HC27 |-
 clear hb27;generalize w27.alloc (.cells #[.bool s27, .slice a271 l271 k271, .slice a272 l272 k272] 38)=W27 at *
 obtain⟨-,c0,c1,c2,c3,-,-,-,-⟩:=HC1.o;obtain⟨-,d0,d1,d2,d3,-,-,-,-⟩:=HC2.o
 go_upto_region 15 with(first
  |(go_at_call 129;(with_reducible refine((HRB.o _ _ _ HVA.o HVB.o)).mono ?_);rintro e28 w28 ⟨v28,rfl,hv28,hb28⟩;clear c0 c1 c2 c3 d0 d1 d2 d3;obtain⟨a281,l281,k281,a282,l282,k282,rfl⟩:=hv28.isF;have hba:=zca w28 (.cells #[.bool s28, .slice a281 l281 k281, .slice a282 l282 k282] 38);have hbb:=zaa hb28 hba;have HC28:=zH (C3.new w28 38 (.bool s28) (.slice a281 l281 k281) (.slice a282 l282 k282));have HF28:=zH (hv28.bw hba);replace HB1:=zH (zaa HB1.o hbb);replace HC15:=zH (HC15.o.bS hbb);replace HV15:=zH (HV15.o.bw hbb);replace HC16:=zH (HC16.o.bS hbb);replace HV16:=zH (HV16.o.bw hbb);replace HC17:=zH (HC17.o.bS hbb);replace HV17:=zH (HV17.o.bw hbb);replace HC18:=zH (HC18.o.bS hbb);replace HV18:=zH (HV18.o.bw hbb);replace HC19:=zH (HC19.o.bS hbb);replace HV19:=zH (HV19.o.bw hbb);replace HC20:=zH (HC20.o.bS hbb);replace HV20:=zH (HV20.o.bw hbb);replace HC27:=zH (HC27.o.bS hbb);replace HF27:=zH (HF27.o.bw hbb);clear hv28 hb28 hba hbb))
 obtain⟨b28,hb28⟩:∃b,w28.heap.size=b:=⟨_,rfl⟩;rw[hb28]at HC28 |-
 clear hb28;generalize w28.alloc (.cells #[.bool s28, .slice a281 l281 k281, .slice a282 l282 k282] 38)=W28 at *
 clear HC1 HC2 HC3 HVA HVB HVP;have HG28:zI (FX W28 (.agg #[.bool s28, .slice a281 l281 k281, .slice a282 l282 k282]) s27 x6 z6):=zH (by have h:=HF28.o;rw[<-HS.o.2.2]at h |-;exact h);clear HF28;obtain⟨-,c0,c1,c2,c3,-,-,-,-⟩:=HC15.o;obtain⟨-,d0,d1,d2,d3,-,-,-,-⟩:=HC16.o;have tok1:True:=trivial;have tok2:True:=trivial
 go_wp2_with (first
  |(go_at_call 30;have _t:=tok1;(with_reducible refine(ztq _ _ l3 _ HV15.o HV16.o).mono ?_);rintro e51 w51 ⟨rfl,hb51⟩;clear c0 c1 c2 c3 d0 d1 d2 d3;replace HB1:=zH (zaa HB1.o hb51);replace HC17:=zH (HC17.o.bS hb51);replace HV17:=zH (HV17.o.bw hb51);replace HC18:=zH (HC18.o.bS hb51);replace HV18:=zH (HV18.o.bw hb51);replace HC19:=zH (HC19.o.bS hb51);replace HV19:=zH (HV19.o.bw hb51);replace HC20:=zH (HC20.o.bS hb51);replace HV20:=zH (HV20.o.bw hb51);replace HC27:=zH (HC27.o.bS hb51);replace HF27:=zH (HF27.o.bw hb51);replace HC28:=zH (HC28.o.bS hb51);replace HG28:=zH (HG28.o.bw hb51);obtain⟨-,c0,c1,c2,c3,-,-,-,-⟩:=HC17.o;obtain⟨-,d0,d1,d2,d3,-,-,-,-⟩:=HC18.o;clear hb51 tok1 _t)
  |(go_at_call 30;have _t:=tok2;(with_reducible refine(ztq _ _ l4 _ HV17.o HV18.o).mono ?_);rintro e52 w52 ⟨rfl,hb52⟩;clear c0 c1 c2 c3 d0 d1 d2 d3;replace HB1:=zH (zaa HB1.o hb52);replace HC19:=zH (HC19.o.bS hb52);replace HV19:=zH (HV19.o.bw hb52);replace HC20:=zH (HC20.o.bS hb52);replace HV20:=zH (HV20.o.bw hb52);replace HC27:=zH (HC27.o.bS hb52);replace HF27:=zH (HF27.o.bw hb52);replace HC28:=zH (HC28.o.bS hb52);replace HG28:=zH (HG28.o.bw hb52);obtain⟨-,c0,c1,c2,c3,-,-,-,-⟩:=HC19.o;obtain⟨-,d0,d1,d2,d3,-,-,-,-⟩:=HC20.o;clear hb52 tok2 _t)
  |(go_at_call 30;(with_reducible refine(ztq _ _ l5 _ HV19.o HV20.o).mono ?_);rintro e53 w53 ⟨rfl,hb53⟩;clear c0 c1 c2 c3 d0 d1 d2 d3;replace HB1:=zH (zaa HB1.o hb53);replace HC27:=zH (HC27.o.bS hb53);replace HF27:=zH (HF27.o.bw hb53);replace HC28:=zH (HC28.o.bS hb53);replace HG28:=zH (HG28.o.bw hb53);obtain⟨_,c0,c1,c2,_,_,_⟩:=HC27.o;obtain⟨_,d0,d1,d2,_,_,_⟩:=HC28.o;clear hb53)
  |(go_at_call 61;(with_reducible refine(same_fx _ _ s27 x6 z6 _ HF27.o HG28.o).mono ?_);rintro e54 w54 ⟨rfl,hb54⟩;clear c0 c1 c2 d0 d1 d2;replace HB1:=zH (zaa HB1.o hb54);clear hb54))
 go_ret;exact⟨rfl,HB1.o⟩
set_option maxRecDepth 100000 in
set_option maxHeartbeats 12800000 in
theorem pmade_any (v:Value) (l:List Nat) (n x y:Nat) (w:World) (h:zhd w v (bytes l)) (hb:∀x∈l,x<256) (hn:n<256) (hx:x<256) (hy:y<256):Calls Tryz.prog 12 #[v, .int .u8 (n:Nat), .int .u8 (x:Nat), .int .u8 (y:Nat)] w (λ e w'=>e= .returned (.bool true)/\Below w.heap.size w w'):=by
 have HV:=zH h;have HX:=zH hx;have HY:=zH hy;have HN:=zH hn;have sv:=zhd.sl h;have HL2:zI (∀w0 bt a l,zbc w0 bt l a->Calls Tryz.prog 54 #[.pointer (some ⟨bt,0,none⟩), .int .i64 3] w0 (RTLaw w0 bt l 3)):=zH (λ w0 bt a l h=>tlaw_any bt a l 3 w0 h zD zD);clear h hx hy hn;go_enter Tryz.func12,Tryz.ntmps12;have tok1:True:=trivial
 go_upto_region 3 with(first
  |(go_at_call 41;(with_reducible refine(new_any _ l _ HV.o hb).mono ?_);rintro e3 w3 ⟨bt,rfl,hbt,hT3,hb3⟩;have HB3:=zH hb3;have HBT:=zH hbt;have HBTL:=zH hT3.lt;have HSZ:=zH hb3.size;clear hb3 hbt)
  |(go_at_call 54;have _t:=tok1;(with_reducible refine(HL2.o _ bt _ _ hT3).mono ?_);rintro e4 w4 ⟨v4,a4,x4,rfl,hv4,ha4,hT4,hm4⟩;obtain⟨saA,snA,skA,raA,rnA,rkA,eaA,enA,ekA,rfl⟩:=hv4.lawE.slices2;have HV4:=zH hv4;have HM4:=zH hm4;clear hv4 hm4 tok1 _t)
  |(go_at_call 54;(with_reducible refine(HL2.o _ bt _ _ hT4).mono ?_);rintro e5 w5 ⟨v5,a5,x5,rfl,hv5,ha5,hT5,hm5⟩;obtain⟨saB,snB,skB,raB,rnB,rkB,eaB,enB,ekB,rfl⟩:=hv5.lawE.slices2;have HM5:=zH (HM4.o.trans hm5);have hbt3:bt<w3.heap.size:=HBTL.o;have hva:=(HV4.o.moves (hm5.moves hbt3)).lawE;have hvb:=hv5.lawE;have hb1:Below w.heap.size w w5:=HB3.o.trans (HM5.o.bw w.heap.size (by have h1:=HBT.o;omega) (by have h1:=HSZ.o;omega));have hba:=zca w5 (.cells #[.string { data:=#[] }, .slice saA snA skA, .slice raA rnA rkA, .slice eaA enA ekA] 52);have hbb:=zca (w5.alloc (.cells #[.string { data:=#[] }, .slice saA snA skA, .slice raA rnA rkA, .slice eaA enA ekA] 52)) (.cells #[.string { data:=#[] }, .slice saB snB skB, .slice raB rnB rkB, .slice eaB enB ekB] 52);(have hz1:(w5.alloc (.cells #[.string { data:=#[] }, .slice saA snA skA, .slice raA rnA rkA, .slice eaA enA ekA] 52)).heap.size=w5.heap.size+1:=by show(w5.heap.push _).size=_;rw[Array.size_push]);have HC1:=zH ((C4.new w5 52 (.string { data:=#[] }) (.slice saA snA skA) (.slice raA rnA rkA) (.slice eaA enA ekA)).bS hbb);have hc2:=C4.new (w5.alloc (.cells #[.string { data:=#[] }, .slice saA snA skA, .slice raA rnA rkA, .slice eaA enA ekA] 52)) 52 (.string { data:=#[] }) (.slice saB snB skB) (.slice raB rnB rkB) (.slice eaB enB ekB);rw[hz1]at hc2;have HC2:=zH hc2;have hbc:=zaa hba hbb;have HVA:=zH (hva.bw hbc);have HVB:=zH (hvb.bw hbc);have HB1:=zH (zaa hb1 hbc);have HLA:=zH ha4;have HLB:=zH ha5;clear hva hvb hb1 hba hbb hz1 hc2 hbc ha4 ha5 hv5 hm5 hbt3 hT3 hT4 hT5))
 clear HB3 HV sv hb HL2 HBT HBTL HSZ HM4 HM5 HV4;obtain⟨k1,hk1⟩:∃b,w5.heap.size=b:=⟨_,rfl⟩;rw[hk1]at HC1 HC2 |-
 clear hk1;generalize (w5.alloc (.cells #[.string { data:=#[] }, .slice saA snA skA, .slice raA rnA rkA, .slice eaA enA ekA] 52)).alloc (.cells #[.string { data:=#[] }, .slice saB snB skB, .slice raB rnB rkB, .slice eaB enB ekB] 52)=W1 at *
 have hx8:=HX.o;have hy8:=HY.o;obtain⟨m,hm⟩:∃m,min x y=m:=⟨_,rfl⟩;have hnd:m<y+1:=zO;have hmin:(if y<x then(y:Int)else(x:Int))=((m:Nat):Int):=by split<;>omega
 have hmin2:(if y<x then Value.int .u8 (y:Int)else Value.int .u8 (x:Int))=Value.int .u8 ((m:Nat):Int):=by split<;>(congr 1;omega)
 obtain⟨s1,x1,z1,e1,s2,x2,z2,l3,e3,l4,e4,l5,e5,s6,x6,z6,hF⟩:=ag_facts (n:=n%5) HLA.o HLB.o hnd zO;obtain⟨p,hp⟩:∃p,fq false m (y+1)=p:=⟨_,rfl⟩;have HMK:zI (∀w0,Calls Tryz.prog 18 #[.int .i64 ((m:Nat):Int), .int .i64 ((y:Int)+1)] w0 (RF0 w0 p)):=zH (λ w0=>by rw[<-hp];exact zlo m (y+1) _ _ w0 zO zO zO zO zO);rw[hp]at hF;have hn5:(n:Int)%5=((n%5:Nat):Int):=zO;have HAG:zI (∀w0 vp va vb,zia w0 vp p->zgd w0 va a4->zgd w0 vb a5->Calls Tryz.prog 55 #[va,vb,vp, .int .i64 ((n:Int)%5)] w0 (λ e w'=>e= .returned (.bool true)/\Below w0.heap.size w0 w')):=zH (λ w0 vp va vb h1 h2 h3=>by rw[hn5];exact agrees_any vp va vb p a4 a5 (n%5) w0 h1 h2 h3 hF);clear hF hp hnd hm hn5 HLA HLB
 go_upto_region 4 with(first
  |(go_at_call 18;(with_reducible refine(HMK.o _).mono ?_);rintro e9 w9 ⟨v9,rfl,hv9,hb9⟩;obtain⟨t9,a91,l91,k91,a92,l92,k92,rfl⟩:=hv9.iF;have hba:=zca w9 (.cells #[.bool t9, .slice a91 l91 k91, .slice a92 l92 k92] 38);have hbb:=zaa hb9 hba;have HC9:=zH (C3.new w9 38 (.bool t9) (.slice a91 l91 k91) (.slice a92 l92 k92));have HF9:=zH (hv9.bw hba);replace HB1:=zH (zaa HB1.o hbb);replace HC1:=zH (HC1.o.bS hbb);replace HC2:=zH (HC2.o.bS hbb);replace HVA:=zH (HVA.o.bw hbb);replace HVB:=zH (HVB.o.bw hbb);clear hv9 hb9 hba hbb))
 obtain⟨b9,hb9⟩:∃b,w9.heap.size=b:=⟨_,rfl⟩;rw[hb9]at HC9 |-
 clear hb9;generalize w9.alloc (.cells #[.bool t9, .slice a91 l91 k91, .slice a92 l92 k92] 38)=W9 at *
 clear hx8 hy8 hmin hmin2 HMK;have hn8:=HN.o;obtain⟨-,c0,c1,c2,c3,-,-,-,-⟩:=HC1.o;obtain⟨-,d0,d1,d2,d3,-,-,-,-⟩:=HC2.o;obtain⟨_,f0,f1,f2,_,_,_⟩:=HC9.o
 go_wp2_with (first
  |(go_at_call 55;(with_reducible refine(HAG.o _ _ _ _ HF9.o HVA.o HVB.o).mono ?_);rintro e51 w51 ⟨rfl,hb51⟩;clear c0 c1 c2 c3 d0 d1 d2 d3 f0 f1 f2;replace HB1:=zH (zaa HB1.o hb51);clear hb51)
  |(go_at_call 25;(with_reducible refine(awake20_any _).mono ?_);rintro e52 w52 ⟨rfl,hb52⟩;replace HB1:=zH (zaa HB1.o hb52);clear hb52))
 go_ret;exact⟨rfl,HB1.o⟩
end Go.Proofs.YtlpdkbmmbdfoiaaGreat
namespace Go.Proofs.YtlpdkbmmbdfoiaaGreat
open Go.ChangeShapes Go.WideShapes Go.ChangeAt Go.RowKit
section
variable {H:Type} {enc:TypeId×Value->H} {P:Program}
theorem zhk (hl:laidOutB P=true) {W W':World} (hb:Below W.heap.size W W'):∀ {ts:List TypeId} {vs:List Value} {ds:List (DataW H)} {ps:List MemPlace},(ts.all λ t=>P.readableRec t&&decide (t<P.types.size))=true->
 DataW.TrodAll enc P W 0 (λ _=>true) true ts vs ds ps->(∀x∈ps,x.block<W.heap.size)->DataW.TrodAll enc P W' 0 (λ b=>decide (b<W.heap.size)) true ts vs ds ps
 | [],vs,ds,ps,_,h,_=>by
   obtain⟨rfl,rfl,rfl⟩:=trodAll_nil h;exact trodAll_mk0
 | t::ts,vs,ds,ps,hr,h,hlt=>by
   obtain⟨v,vs',d,ds',p,q,rfl,rfl,rfl,h1,h2⟩:=trodAll_cons h;simp only[List.all_cons,Bool.and_eq_true,decide_eq_true_eq]at hr;obtain⟨⟨r1,r2⟩,r3⟩:=hr;exact trodAll_cons_mk (Below.trod hl r1 r2 h1 hb λ x hx=>hlt x (List.mem_append_left _ hx)) (zhk hl hb (ts:=ts) r3 h2 λ x hx=>hlt x (List.mem_append_right _ hx))
end
section
variable {H:Type} {enc:TypeId×Value->H}
set_option maxRecDepth 100000 in
theorem u8_came {W:World} {base:Nat} {v:Value} {d:DataW H} {p:List MemPlace} (hv:Value.okWide Tryz.prog W .any base 5 v) (h:DataW.Trod enc Tryz.prog W 0 (λ _=>true) true 5 v d p):∃x:Nat,v= .int .u8 x/\x<256:=by
 obtain⟨n,rfl,rfl,rfl,hwn⟩:=open_int Tryz.underlying5 hv h
 have hn:0<=n/\n<256:=by
  simp[Lit.wf,IntKind.min,IntKind.max,IntKind.signed,IntKind.bits]at hwn;omega
 exact⟨n.toNat,by congr 1;omega,zO⟩
end
theorem Tryz.ownK :ownKnob Tryz.prog.godebug=none:=by kernel_rfl
theorem Tryz.laidOut :laidOutB Tryz.prog=true:=by kernel_rfl
theorem Tryz.cellsU8 :Tryz.prog.cellsOf 5=1:=by kernel_rfl
def U8V (w:World) (v:Value) (l:List Nat):Prop:=zhd w v (bytes l)/\∀x∈l,x<256
section
variable {H:Type} {enc:TypeId×Value->H}
theorem bytes_in {W:World} {a:Addr} {len cap:Nat} {zs:List Int} (hl:len<=cap) (hm:cap<=maxLen) (hz:zs.length=cap) (hcell:∀i,i<zs.length->W.cell? (a.add i)=some (.int .u8 (zs.getD i 0))) (hwz:∀n∈zs,(Lit.int .u8 n).wf=true):
 U8V W (.slice (some a) len cap) ((zs.take len).map Int.toNat):=by
 have hb:∀n∈zs,0<=n/\n<256:=λ n hn=>by
  have:=hwz n hn;simp[Lit.wf,IntKind.min,IntKind.max,IntKind.signed,IntKind.bits]at this;omega
 refine⟨⟨⟨a,len,cap,rfl,hl,hm,λ e=>by cases e⟩,by simp[bytes,slen];omega,λ j hj=> ?_⟩,λ x hx=> ?_⟩
 ·have hj2:j<len:=by simp[bytes]at hj;omega
  have hj3:j<zs.length:=zO;have h1:=hcell j hj3;have h2:=hb _ (zGM hj3);have e1:zs.getD j 0=zs[j]:=by simp[List.getD,zGE hj3]
  rw[e1]at h1;simp only[ptr,base,bytes,List.getElem_map,List.getElem_take];rw[h1]
  congr 2
  omega
 ·obtain⟨n,hn,rfl⟩:=List.mem_map.1 hx;have:=hb n (List.mem_of_mem_take hn);omega
set_option maxRecDepth 100000 in
theorem u8s_came {W:World} {base:Nat} {v:Value} {d:DataW H} {p:List MemPlace} (hv:Value.okWide Tryz.prog W .any base 22 v) (h:DataW.Trod enc Tryz.prog W 0 (λ _=>true) true 22 v d p):∃l,U8V W v l:=by
 obtain⟨a,len,cap,rfl⟩:=okWide_slice Tryz.underlying22 hv;obtain⟨fuel,hf⟩:=h;rcases open_ints Tryz.underlying22 Tryz.underlying5 Tryz.cellsU8 hf with⟨hcs,hx⟩ | ⟨a,len',cap',zs,hcs,_,hl,hm,hz,hx,hcell,hwz⟩
 ·simp[Value.cells]at hcs;obtain⟨rfl,rfl,rfl⟩:=hcs;exact⟨[],⟨zvc.nil,rfl,λ j h=>by simp[bytes]at h⟩,λ x h=>by simp at h⟩
 ·simp[Value.cells]at hcs;obtain⟨rfl,rfl,rfl⟩:=hcs;simp only[if_true]at hz;exact⟨_,bytes_in hl hm hz hcell hwz⟩
end
set_option maxRecDepth 100000 in
theorem zum (os:Os) (started:os.Started) (H:Type) (enc:TypeId×Value->H):
 ReturnsInHanded {} Tryz.checked os 12 .any (Rows.phaseMadeSpec.pre6 enc Tryz.prog Tryz.f12 Rows.phaseMadeRow.domain false) (Rows.phaseMadeSpec.post enc Tryz.prog Tryz.f12 false true false false):=by
 refine returnsInHanded_of_change (C:=Tryz.checked) Tryz.ownK started (by kernel_rfl) Tryz.func12
  (ChangeSpec.witness6 (enc:=enc) (C:=Tryz.checked) false ⟨#[],#[.slice none 0 0, .int .u8 0, .int .u8 0, .int .u8 0],[]⟩ 8 (by kernel_rfl) (by kernel_rfl) (by kernel_rfl) (by kernel_rfl)) ?_
 intro W base args ds gs before hval0 hW hcnd _;have hval:∀ (j:Nat) t v,Tryz.f12.params[j]? =some t->args[j]? =some v->Value.okWide Tryz.prog W .any base t v:=hval0;have hW':=hW;obtain⟨p,q,hA0,hV,rfl,hfz,hnd⟩:=hW;have hA:DataW.TrodAll enc Tryz.prog W 0 (λ _=>true) true Tryz.f12.params.toList args.toList ds p:=hA0;rw[Tryz.params12]at hA hval;obtain⟨rfl,rfl⟩:=trodVars_none hV;simp only[List.append_nil]at hW';have hback:=fun(W':World) (hb:Below W.heap.size W W')=>zhk (enc:=enc) Tryz.laidOut hb (by kernel_rfl) hA hW'.lt
 obtain⟨v0,vs0,d0,ds0,p0,q0,e0,rfl,_,h0,hA⟩:=trodAll_cons hA;obtain⟨v1,vs1,d1,ds1,p1,q1,rfl,rfl,_,h1,hA⟩:=trodAll_cons hA;obtain⟨v2,vs2,d2,ds2,p2,q2,rfl,rfl,_,h2,hA⟩:=trodAll_cons hA;obtain⟨v3,vs3,d3,ds3,p3,q3,rfl,rfl,_,h3,hA⟩:=trodAll_cons hA;obtain⟨rfl,rfl,_⟩:=trodAll_nil hA;obtain rfl:args=#[v0,v1,v2,v3]:=by cases args;simp_all
 obtain⟨l0,g0⟩:=u8s_came (hval 0 22 v0 rfl rfl) h0;obtain⟨x1,rfl,g1⟩:=u8_came (hval 1 5 v1 rfl rfl) h1;obtain⟨x2,rfl,g2⟩:=u8_came (hval 2 5 v2 rfl rfl) h2;obtain⟨x3,rfl,g3⟩:=u8_came (hval 3 5 v3 rfl rfl) h3;refine(pmade_any _ l0 x1 x2 x3 W g0.1 g0.2 g1 g2 g3).mono λ e W' ⟨he,hnx⟩=> ?_
 subst he;refine⟨_,rfl,_,_,_,[],p,[],hW',?_,hback _ hnx,?_,hnx.frame _,λ h=>by cases h⟩
 ·exact trodAll_mk1 (shut_bool Tryz.underlying4 _)
 ·rfl
theorem phaseMade_holds :Rows.PhaseMadeSaid:=
 OpenClaim.holds_of_wide 12 Tryz.f12 rfl rfl rfl rfl rfl rfl rfl ⟨rfl,rfl,rfl,rfl,rfl⟩ rfl rfl rfl rfl rfl (by kernel_rfl) Tryz.func12 (by kernel_rfl)
  (of_decide_eq_true (by kernel_rfl)) (by unfold Func.isWrapper;first | (rw[zIP (by decide+kernel)];kernel_rfl) | (rw[zIN (by decide+kernel)];exact⟨rfl,rfl⟩))
  (λ os started H enc _=>zum os started H enc)
end Go.Proofs.YtlpdkbmmbdfoiaaGreat
