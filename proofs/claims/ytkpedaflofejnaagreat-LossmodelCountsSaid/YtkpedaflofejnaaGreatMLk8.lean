/- Lemmas. -/
import Derived.Test.YtkpedaflofejnaaGreatMLm8
set_option linter.unusedVariables false
set_option linter.unusedSimpArgs false
namespace Go.Proofs.YtkpedaflofejnaaGreat
open Go.RowKit
set_option maxRecDepth 100000 in
set_option maxHeartbeats 25600000 in
theorem zth (vlaw vrep:Value) (l:LQ) (rl:List Rat) (k m ms:Nat) (D B:Nat) (w:World) (h:RMisA w vlaw vrep l rl k m ms D B):
 Calls Tryz.prog 15 #[vlaw, .int .i64 (k:Nat), .int .i64 (m:Nat),vrep, .int .i64 (ms:Nat)] w (zlf w (zue l.start.length (k+m) m) (cntC (lwF l) (λ i=>rl.getD i 0) (k+m) m ms)):=by
 obtain⟨nm,vS,vR,vE,rfl,hS,hR,hE⟩:=id h.law;obtain⟨sa,sn,sk,rfl,_⟩:=id hS.sl;obtain⟨ra,rn,rk,rfl,_⟩:=id hR.sl;obtain⟨ea,en,ek,rfl,_⟩:=id hE.sl;have hba:=zba w (.cells #[.string nm, .slice sa sn sk, .slice ra rn rk, .slice ea en ek] 30);have hbb:=zba (w.alloc (.cells #[.string nm, .slice sa sn sk, .slice ra rn rk, .slice ea en ek] 30)) (.cells #[.slice none 0 0, .slice none 0 0, .slice none 0 0] 34);have hT:=(C4.new w 30 (.string nm) (.slice sa sn sk) (.slice ra rn rk) (.slice ea en ek)).bS hbb;have hC:=C3.newB (b:=w.heap.size+1) (w.alloc (.cells #[.string nm, .slice sa sn sk, .slice ra rn rk, .slice ea en ek] 30)) 34 (.slice none 0 0) (.slice none 0 0) (.slice none 0 0) (by simp);have HT:=zH hT;have HC:=zH hC;have HBW:=zH (zaa hba hbb);have HA:=zH h;have hP1:=h.lp.n1;have hP4:=h.lp.n4;obtain⟨P,hP⟩:∃P,l.start.length=P:=⟨_,rfl⟩;rw[hP]at hP1 hP4;have hsn:sn=P:=by rw[<-hP];exact hS.len
 subst hsn;have HP:=zH hP;have hrn:sn=rn:=by have h1:rn=l.rates.length:=hR.len;rw[h1,h.lp.rl,hP]
 have hen:sn=en:=by have h1:en=l.exit.length:=hE.len;rw[h1,h.lp.el,hP]
 subst hrn;subst hen;obtain⟨L,hL⟩:∃L,zue l.start.length (k+m) m=L:=⟨_,rfl⟩;have HL:=zH hL;have HL2:zI (zue sn (k+m) m=L):=zH (by rw[<-hP];exact hL);rw[hL];have ssl:=hS.sl;have esl:=hE.sl;have rasl:=hR.sl;have HSS:=zH hS;have HRR:=zH hR;have HEE:=zH hE;have k1:=h.k1;have k6:=h.k6;have m4:=h.m4;have km:=h.km;have hms:=h.ms;obtain⟨-,d0,d1,d2,d3,-,-,-,-⟩:=hT;obtain⟨-,g0,g1,g2,u0,u1,u2⟩:=hC;clear h hR hE hba hbb hP hL hS;have e1:decide ((ms:Int)<0)=false:=zDF zO;have e2:decide (m<ms)=false:=zDF zO;go_enter Tryz.func15,Tryz.ntmps15
 go_upto_region 4 with(first
  |(go_at_call 51;(with_reducible refine(zoq k m _ k1 k6 m4 km).mono ?_);rintro e3 w3 ⟨rfl,hb3⟩;have HB3:=zH (zaa HBW.o hb3);have HT3:=zH (HT.o.bS hb3);have HC3:=zH (HC.o.bS hb3);clear d0 d1 d2 d3 g0 g1 g2 u0 u1 u2;obtain⟨-,d0,d1,d2,d3,-,-,-,-⟩:=HT3.o;clear hb3)
  |(go_at_call 53;(with_reducible refine(zql _ l _ (HA.o.law.bw HB3.o).lawC HA.o.lp).mono ?_);rintro e4 w4 ⟨rfl,hb4⟩;have HB4:=zH (zaa HB3.o hb4);have HT4:=zH (HT3.o.bS hb4);have HC4:=zH (HC3.o.bS hb4);clear d0 d1 d2 d3 hb4)
  |(go_at_call 52;(with_reducible refine(zfn _ rl m _ (HA.o.rep.bw HB4.o) HA.o.repl HA.o.repn m4).mono ?_);rintro e5 w5 ⟨rfl,hb5⟩;have HB5:=zH (zaa HB4.o hb5);have HT5:=zH (HT4.o.bS hb5);have HC5:=zH (HC4.o.bS hb5);obtain⟨-,d0,d1,d2,d3,-,-,-,-⟩:=HT5.o;clear hb5)
  |(go_at_call 70;(with_reducible refine(zln sn (k+m) m _ _ _ _ zO zO zO hP1 hP4 zO zO).mono ?_);rintro e6 w6 ⟨lv,rsl,rfl,hv6,hb6⟩;rw[HL2.o]at hv6;have HV:=zH hv6.rowsV;have HB6:=zH (zaa HB5.o hb6);have HT6:=zH (HT5.o.bS hb6);have HC6:=zH (HC5.o.bS hb6);have hlsl:=hv6.rowsV.sl;have hlln:slen lv=L.length:=hv6.rowsV.len;clear hb6 hv6 d0 d1 d2 d3))
 have HLB:zI (L.length<=1000):=zH (by
  rw[<-HL2.o,zhr];refine zLT (spl_le _ (show m+1<=k+m+1 by omega)) ?_;rw[<-zig];exact zbi _ zO _ zO)
 have hLB:=HLB.o;by_cases hLL:L.length<128
 case neg=>
  have e3:decide ((128:Int)<(L.length:Int)+1)=true:=zDT zO;have HLL:=zH hLL;obtain⟨-,g0,g1,g2,u0,u1,u2⟩:=HC6.o;clear hLL;go_wp2_with fail;refine zka rfl rfl Tryz.aggCh Tryz.sizeCh (HC6.o.set _ _ _) rfl ?_;exact⟨λ h=>absurd h HLL.o,λ _=>⟨rfl,zea HB6.o (zLS _) (.slice none 0 0) (.slice none 0 0) (.slice none 0 0)⟩⟩
 have e3:decide ((128:Int)<(L.length:Int)+1)=false:=zDF zO;clear HLB hLB
 go_upto_region 7 with(first
  |(go_at_call 57;(with_reducible refine(rstart_any (L.length+1) _ _ zO zO zO).mono ?_);rintro e7 w7 ⟨vs,vl,vr,rs,rfl,hB7,hb7⟩;obtain⟨vr1,vr2,vr3,rfl,_⟩:=id hB7.law.ra.sl;obtain⟨vs1,vs2,vs3,rfl,_⟩:=id hB7.law.s.sl;obtain⟨vl1,vl2,vl3,rfl,_⟩:=id hB7.lost.sl;have HM:=zH hB7;have HB7:=zH hb7;clear hB7 hb7))
 obtain⟨M,hM⟩:∃M:RkD,M=⟨w6.heap.size,w7.heap.size,lv, .slice vs1 vs2 vs3, .slice vl1 vl2 vl3, .slice vr1 vr2 vr3,rs,L⟩:=⟨_,rfl⟩;obtain⟨rep,hrep⟩:∃f:Nat->Rat,(λ i=>rl.getD i 0)=f:=⟨_,rfl⟩;have HREP:=zH hrep;obtain⟨mvf,hmvf⟩:∃f:List Nat->List Mv,cntR (lwF l) rep=f:=⟨_,rfl⟩;obtain⟨st,hst⟩:∃f:List Nat->Rat,cntS (lwF l) ms=f:=⟨_,rfl⟩;have HMV:=zH hmvf;have HST:=zH hst;have hba7:=zba w7 (.cells #[.slice vr1 vr2 vr3, .slice vs1 vs2 vs3, .slice vl1 vl2 vl3] 34)
 have HOK:zI (M.Ok w6 (w7.alloc (.cells #[.slice vr1 vr2 vr3, .slice vs1 vs2 vs3, .slice vl1 vl2 vl3] 34)) (stF M.L st 0) (zzc M.L mvf 0 (znb M.L []))):=zH (by
  subst hM;exact⟨HV.o,zLR _,zaa HB7.o hba7,(HM.o.congr (λ i _=>zcq) (λ i j _ _=>zxm)).bw hba7,by show L.length<=150;omega⟩)
 have HCB:=zH (C3.new w7 34 (.slice vr1 vr2 vr3) (.slice vs1 vs2 vs3) (.slice vl1 vl2 vl3));have HML:zI (M.L=L/\M.B=w6.heap.size/\M.hi=w7.heap.size/\M.lv=lv/\M.vr= .slice vr1 vr2 vr3/\M.vs= .slice vs1 vs2 vs3/\M.vl= .slice vl1 vl2 vl3):=zH (by subst hM;exact⟨rfl,rfl,rfl,rfl,rfl,rfl,rfl⟩)
 have HADD:zI (∀ (wq:World) (sq:Nat->Rat) (pre:List Mv) (fr:Nat) (x:Mv) (fi ji:Int) (vx:Value),M.Ok w6 wq sq (zzc M.L mvf fr (znb M.L pre))->zna wq vx x.2->∀ (hfr:fr<M.L.length),fi=(fr:Nat)->ji=(L.idxOf x.1:Nat)->M.L[fr]≠x.1->(∀y∈pre++ [x],over D B y.2)->pre.length<1000->
  Calls Tryz.prog 59 #[.agg #[.slice vr1 vr2 vr3, .slice vs1 vs2 vs3, .slice vl1 vl2 vl3], .int .i64 fi, .int .i64 ji,vx] wq (λ e w'=>e= .returned (.tuple #[])/\M.Step w6 wq w' sq (zzc M.L mvf fr (znb M.L (pre++ [x]))))):=zH (λ wq sq pre fr x fi ji vx h1 h2 hfr h3 h4 h5 h6 h7=>by
  have h:=radd_M (M:=M) x fi ji vx h1 h2 hfr h3 (by rw[HML.o.1];exact h4) h5 HA.o.room h6 h7;rw[HML.o.2.2.2.2.1,HML.o.2.2.2.2.2.1,HML.o.2.2.2.2.2.2]at h;exact h)
 have HIDX:zI (∀ (wq:World) (v:Value) (u:List Nat),Below w6.heap.size w6 wq->zjb wq v u->u.length=sn+1->Calls Tryz.prog 60 #[lv,v] wq (λ e w'=>e= .returned (.int .i64 (L.idxOf u:Nat))/\Below wq.heap.size wq w')):=zH (λ wq v u h1 h2 h3=>
  zfp lv v L u wq (HV.o.bw h1) h2 (λ x hx=>by
   rw[<-HL2.o]at hx;rw[h3];exact(cnt_vec (P:=sn) (n:=k+m) (m:=m) hP1 zO zO hx).1) zO (by rw[h3];omega))
 have HOV:zI (∀v∈L,∀x∈cntM (lwF l) rep v,over D B x.2):=zH (λ v hv=>by
  rw[<-hrep];exact HA.o.ov v (by rw[HL.o];exact hv))
 have HLW:zI (LawD w6 (.agg #[.string nm, .slice sa sn sk, .slice ra sn rk, .slice ea sn ek]) l):=zH (HA.o.law.bw HB6.o);have HRV:zI (zpa w6 vrep rl):=zH (HA.o.rep.bw HB6.o);have HSS6:zI (zpa w6 (.slice sa sn sk) l.start):=zH (HSS.o.bw HB6.o);have HRR6:=zH (HRR.o.bw HB6.o);have HEE6:=zH (HEE.o.bw HB6.o);have vrsl:=HRV.o.sl;have vrln:slen vrep=rl.length:=HRV.o.len;have vrl4:rl.length<=4:=by have h:=HA.o.repn;omega
 have svs:=HM.o.law.s.sl;have svn:vs2=L.length+1:=by have h:=HM.o.law.s.fracs.len;rw[zwa]at h;exact h
 subst svn;obtain⟨bC,hbC⟩:∃b,w7.heap.size=b:=⟨_,rfl⟩;rw[hbC]at HCB HML |-
 clear hM hrep hmvf hst hba7 hbC HM HB7;generalize w7.alloc (.cells #[.slice vr1 vr2 vr3, .slice vs1 (L.length+1) vs3, .slice vl1 vl2 vl3] 34)=W8 at *
 go_wp2_with fail;go_loopg [14] (L.length) (λ g u14 wr=>∃a:Nat,a<=L.length/\g=L.length-a/\u14= .int .i64 a/\M.Ok w6 wr (stF M.L st a) (zzc M.L mvf a (znb M.L []))/\C3 wr bC (.slice vr1 vr2 vr3) (.slice vs1 (L.length+1) vs3) (.slice vl1 vl2 vl3));case atStart=>exact⟨0,zZL _,rfl,rfl,HOK.o,HCB.o⟩
 case round=>
  obtain⟨a,haL,hg,rfl,hk,hc⟩:=hrel;obtain⟨wx,hwx⟩:∃w6,w6=wr:=⟨_,rfl⟩;subst hwx;have HG:=zH hg;have HKX:=zH hk;have HCX:=zH hc;clear hg hk hc HOK HCB;by_cases hal:a<L.length
  ·obtain⟨r,hr0,hrv⟩:=HV.o.at' a hal;have hmem:=zGM hal;have HVC:=zH (cnt_vec (P:=sn) (n:=k+m) (m:=m) hP1 zO zO (by rw[HL2.o];exact hmem));have HOVA:=zH (HOV.o _ hmem);have haM:zI (a<M.L.length):=zH (by rw[HML.o.1];exact hal)
   have HMA:zI (∀ (h:a<M.L.length),M.L[a]=L[a]'hal):=zH (λ h=>by
    have h1:=HML.o.1;simp only[h1])
   have HTN:zI (∀r c,zzc M.L mvf a (znb M.L (mvf (L[a]'hal))) r c=zzc M.L mvf (a+1) (znb M.L []) r c):=zH (λ r c=>by
    have h4:=zym (mv:=mvf) (r:=r) (c:=c) haM.o;rw[HMA.o haM.o]at h4;exact h4)
   have HSA:zI (stF M.L st (a+1) a=st (L[a]'hal)/\(st (L[a]'hal)=0->∀i,stF M.L st a i=stF M.L st (a+1) i)):=zH (by
    refine⟨?_,λ h0 i=> ?_⟩
    ·rw[stF_at haM.o,HMA.o haM.o]
    ·exact zdq haM.o (by rw[HMA.o haM.o];exact h0))
   generalize L[a]'hal=v at *
   have cr:=zca HKX.o.bel hr0;have HR:=zH hrv;have rsl:=hrv.sl;(have rln:slen r=sn+1:=by rw[hrv.len];exact HVC.o.1);have i5:(0:Int)<=(a:Int):=zO;have i6:(a:Int)<(L.length:Nat):=zO;obtain⟨x0,hx0⟩:∃x0,v.getD 0 0=x0:=⟨_,rfl⟩;have HX0:=zH hx0;have hx0m:x0<=m:=by rw[<-hx0];exact HVC.o.2.2
   have HV0:zI (w6.cell? (ptr r 0)=some (.int .i64 (x0:Nat))):=zH (by
    have h:=HR.o.getD (j:=0) (by rw[HVC.o.1];omega);rw[hx0]at h;exact h)
   have cv:=zca HKX.o.bel HV0.o;clear hr0 hrv hmem hx0;go_upto_if 77 with fail;clear cr;go_cut [] (λ wy=>M.Ok w6 wy (stF M.L st (a+1)) (zzc M.L mvf a (znb M.L []))/\C3 wy bC (.slice vr1 vr2 vr3) (.slice vs1 (L.length+1) vs3) (.slice vl1 vl2 vl3))
   case first =>
    by_cases hxm:x0=ms
    ·have e5:((x0:Int)==(ms:Int))=true:=by simp;omega
     have HSTV:zI (st v=zaf (λ i=>l.start.getD i 0) v.tail 0 0 1):=zH (by
      rw[<-HST.o];unfold cntS;rw[getD0,HX0.o,zIP hxm];rfl)
     have HTL:zI (zjb wx (cut 1 r 1 (sn+1)) v.tail):=zH (by
      have h:=(HR.o.bw HKX.o.bel).tail (by rw[HVC.o.1];omega);rw[rln]at h;exact h)
     have HTS:zI (v.tail.length=sn/\v.tail.sum<=8):=zH ⟨by rw[List.length_tail,HVC.o.1,Nat.add_sub_cancel],by
      have h:=HVC.o.2.1
      cases v with
      | nil=>simp
      | cons y u=>rw[List.sum_cons]at h;show u.sum<=8;omega⟩
     obtain⟨-,-,q1,-,-,-,-⟩:=HCX.o;obtain⟨-,d0,d1,d2,d3,-,-,-,-⟩:=HT6.o.bS HKX.o.bel;clear hxm;go_upto_region 12 with fail;clear cv;refine wpL.st5 8 q1 d0 d1 d2 d3 (λ wd hbD hHeld=> ?_);have HKD:=zH (HKX.o.bw hbD);have HCD:=zH (HCX.o.bS hbD);have HTD:=zH (HTL.o.bw hbD);clear q1 d0 d1 d2 d3 hbD;refine zU 0 ?_;refine zY 1 ?_;refine zU 2 ?_;refine zY 3 ?_;refine zU 4 ?_;have hsl1:=slice_one wd r sn rsl rln;(refine zW 5 ?_;intro K hK);rw[zIP (by rfl)];go_simp;refine hK.o _ _ (λ _=>hHeld) ?_;clear hK K hsl1;refine zS ?_;(refine zCF 6 71 #[.agg #[.string nm, .slice sa sn sk, .slice ra sn rk, .slice ea sn ek],cut 1 r 1 (sn+1)] (rchance_any _ _ l v.tail _ (HLW.o.bw HKD.o.bel) HA.o.lp HTD.o (by rw[HTS.o.1,HP.o]) HTS.o.2) λ t7 a71 l71 k71 a72 l72 k72 w7' hv7 hb7=>⟨kcl5 hb7 hHeld,λ hH7=> ?_⟩);rw[<-HSTV.o,<-HSA.o.1]at hv7;have HK7:=zH (HKD.o.bw hb7);have HC7:=zH (HCD.o.bS hb7);have HV7:=zH hv7;clear hHeld hv7 hb7 HKD HTD HCD;have hbld:=HK7.o.bld;(have hjR:a<(zch (M.L.length+1) (stF M.L st a)).length:=by rw[zwa];have:=haM.o;omega);have hrow:=hbld.law.s;have hput:=hbld.putS (i:=a) (s':=stF M.L st (a+1)) (by have:=haM.o;omega) (λ k _ hk=>zeq hk) HV7.o;rw[HML.o.2.2.2.2.2.1]at hrow hput;obtain⟨y0,z0,y1,y2,y3,y4,f0,f1,f2,vssl,n01,n02,n12⟩:=hrow.prep hjR;have HPUT:=zH hput;have ha9:(a:Int)<(L.length:Int)+1:=zO;clear hbld hrow hput hjR;(refine zW 7 ?_;intro K hK);rw[zIP (by rfl)];go_simp;refine hK.o _ _ (λ _=>hH7) ?_;clear hK K;refine zS ?_;(refine zW 8 ?_;intro K hK);rw[zIP (by rfl)];go_simp;refine hK.o _ _ (λ h=>by first | cases h | simp at h) ?_;clear hK K hH7 y2 y3 y4 f0 f1 f2 n01 n02 n12;refine wpL.done (by kernel_rfl) ?_ _;go_wp2_with fail;go_meet;case rel=>exact⟨⟨HK7.o.vec,HK7.o.le,HK7.o.bel.trans (HPUT.o.2.1.mono HK7.o.le),by rw[HML.o.2.2.2.2.2.1];exact HPUT.o.1,HK7.o.len⟩,HC7.o.moves HPUT.o.2.2 (Nat.le_of_eq HML.o.2.2.1)⟩
    ·have e5:((x0:Int)==(ms:Int))=false:=by simp;omega
     have HST0:zI (st v=0):=zH (by
      rw[<-HST.o];unfold cntS;rw[getD0,HX0.o,zIN hxm])
     clear hxm;go_wp2_with fail;go_meet;case rel=>exact⟨HKX.o.congr (λ i _=>HSA.o.2 HST0.o i) (λ _ _ _ _=>rfl),HCX.o⟩
   case rest=>
    obtain⟨hk,hc⟩:=hcut;obtain⟨wm,hwm⟩:∃w6,w6=wc:=⟨_,rfl⟩;subst hwm;have HKM:=zH hk;have HCM:=zH hc;clear hk hc cv HKX HCX HSA;go_wp2_with fail;have HK0:zI (M.Ok w6 wm (stF M.L st (a+1)) (zzc M.L mvf a (znb M.L (zgh (lwF l) rep v 0)))):=HKM;go_loopg [16] (sn) (λ g u16 wr=>∃p:Nat,p<=sn/\g=sn-p/\u16= .int .i64 p/\M.Ok w6 wr (stF M.L st (a+1)) (zzc M.L mvf a (znb M.L (zgh (lwF l) rep v p)))/\C3 wr bC (.slice vr1 vr2 vr3) (.slice vs1 (L.length+1) vs3) (.slice vl1 vl2 vl3));case atStart=>exact⟨0,zZL _,rfl,rfl,HK0.o,HCM.o⟩
    case round=>
     obtain⟨p,hpn,hg,rfl,hk,hc⟩:=hrel;obtain⟨wy,hwy⟩:∃w6,w6=wr:=⟨_,rfl⟩;subst hwy;have HG2:=zH hg;have HKY:=zH hk;have HCY:=zH hc;clear hg hk hc HK0 HCM;by_cases hpl:p<sn
     ·(have hpl2:p<l.start.length:=by rw[HP.o];exact hpl);obtain⟨x1,hx1⟩:∃x1,v.getD (p+1) 0=x1:=⟨_,rfl⟩;have HX1:=zH hx1;have hx18:x1<=8:=by rw[<-hx1];exact zhq HVC.o.2.1 _
      have HV1:zI (w6.cell? (ptr r (p+1))=some (.int .i64 (x1:Nat))):=zH (by
       have h:=HR.o.getD (j:=p+1) (by rw[HVC.o.1];omega);rw[hx1]at h;exact h)
      have HPL:zI (zgh (lwF l) rep v (p+1)=(zgh (lwF l) rep v p++if 0<x0 then repM (lwF l) rep v p else [])++if 0<x1 then sevR (lwF l) v p else []):=zH (by
       rw[zvp,List.append_assoc,<-hx1,<-HX0.o];rfl)
      have HMEM:zI (∀y∈zgh (lwF l) rep v (p+1),over D B y.2):=zH (λ y hy=>HOVA.o y (cntRP_mem (by show p+1<=l.start.length;omega) hy))
      have HLEN:zI ((zgh (lwF l) rep v (p+1)).length<=24):=zH (by
       have h1:=cntRP_len (lwF l) rep v (p+1);have h2:(lwF l).n=sn:=HP.o;rw[h2]at h1;have h3:(p+1)*(sn+2)<=4*6:=zMM zO zO;omega)
      have cv:=zca HKY.o.bel HV0.o;have cw:=zca HKY.o.bel HV1.o;obtain⟨-,d0,d1,d2,d3,-,-,-,-⟩:=HT6.o.bS HKY.o.bel;have i7:(0:Int)<=(p:Int):=zO;have i8:(p:Int)<(sn:Nat):=zO;have i9:(0:Int)<=((p+1:Nat):Int):=zO;have i10:((p+1:Nat):Int)<((sn+1:Nat):Int):=zO;have i11:(0:Int)<=(p:Int)+1:=zO;have i12:(p:Int)+1<(sn:Int)+1:=zO;(have hwp:IntKind.i64.wrap ((p:Int)+1)=((p+1:Nat):Int):=by rw[zub zO zO];omega);clear hx1;go_upto_if 96 with fail;clear d0 d1 d2 d3;go_cut [] (λ wz=>M.Ok w6 wz (stF M.L st (a+1)) (zzc M.L mvf a (znb M.L (zgh (lwF l) rep v p++if 0<x0 then repM (lwF l) rep v p else [])))/\C3 wz bC (.slice vr1 vr2 vr3) (.slice vs1 (L.length+1) vs3) (.slice vl1 vl2 vl3))
      case first =>
       by_cases h0:0<x0
       ·have e5:decide (0<x0)=true:=zDT h0;obtain⟨y,rfl⟩:∃y,x0=y+1:=⟨x0-1,zO⟩;(have hyr:y<rl.length:=by rw[HA.o.repn];omega);(have hp3:p+1<v.length:=by rw[HVC.o.1];omega);have hvl:v.length=sn+1:=HVC.o.1;obtain⟨mx,hmx⟩:∃mx:Mv,(zbf (zyb v 0) (p+1),rep y*(lwF l).S p)=mx:=⟨_,rfl⟩
        have HRM:zI (repM (lwF l) rep v p= [mx]):=zH (by
         unfold repM;rw[HX0.o,<-hmx,Nat.add_sub_cancel])
        have HM1:zI (mx.1=zbf (zyb v 0) (p+1)):=zH (by rw[<-hmx]);have HM2:zI (mx.2=rl.getD y 0*l.start.getD p 0):=zH (by rw[<-hmx,<-HREP.o];rfl)
        have HNE:zI (v≠mx.1):=zH (by
         rw[<-hmx];exact zei zO (by rw[HX0.o];omega) zO)
        have HSUB:zI (∀z∈zgh (lwF l) rep v p++ [mx],over D B z.2):=zH (λ z hz=>HMEM.o z (by
         rw[HPL.o,zIP h0,HRM.o];exact List.mem_append_left _ hz))
        have HFR:zI (fits (rl.getD y 0*l.start.getD p 0)):=zH (by
         rw[<-HM2.o];exact HA.o.room.fits (HSUB.o mx (by simp)))
        have HLIM:zI (fits (rl.getD y 0)/\fits (l.start.getD p 0)):=zH (by
         constructor
         ·rw[zGD,zGE hyr];exact(HA.o.repl _ (zGM hyr)).1.fits
         ·rw[zGD,zGE hpl2];exact(HA.o.lp.st _ (zGM hpl2)).fits)
        have HPLEN:zI ((zgh (lwF l) rep v p).length<1000):=zH (by
         have h:=HLEN.o;rw[HPL.o,zLA,zLA]at h;omega)
        have HM1L:zI (mx.1.length=sn+1):=zH (by rw[HM1.o,zwd,zdb,hvl]);have H0:=zH h0;have hwy0:IntKind.i64.wrap (y:Int)=(y:Int):=zub zO zO;have hwx1:IntKind.i64.wrap ((x1:Int)+1)=(x1:Int)+1:=zub zO zO
        have HVE:zI ((v.set 0 y).set (p+1) (x1+1)=mx.1):=zH (by
         rw[HM1.o];unfold zbf zyb;rw[HX0.o,Nat.add_sub_cancel,getD_set_ne zO,HX1.o])
        clear hmx h0;go_upto_region 17 with fail;refine wpL.st2 15 cv cw (λ wd hbD hHeld=> ?_);have HKD:=zH (HKY.o.bw hbD);have HCD:=zH (HCY.o.bS hbD);have HRD:=zH (HR.o.bw HKD.o.bel);clear cv cw hbD;refine zU 0 ?_;refine zU 1 ?_;refine zU 2 ?_;refine zY 3 ?_;refine zU 4 ?_;(try rw[hwy0]);refine zU 6 ?_;refine zU 7 ?_;refine zU 8 ?_;refine zU 9 ?_;refine zU 10 ?_;refine zU 11 ?_;refine zY 12 ?_;refine zU 13 ?_;(try rw[hwx1]);(refine zW 5 ?_;intro K hK);refine zla 61 #[r, .int .i64 0, .int .i64 (y:Int)] ?_ ?_ (zqh r v 0 y 0 (y:Int) wd HRD.o rfl rfl zO zO) ?_
        ·rfl
        ·go_simp
        rintro e5 w5 ⟨v5,rfl,ho5,hb5⟩;have HO5:=zH ho5.natsV;have HK5:=zH (HKD.o.bw hb5);have HC5:=zH (HCD.o.bS hb5);have hH5:=kcl2 hb5 hHeld;refine⟨_,rfl,?_⟩;refine hK.o _ _ (λ _=>hH5) ?_;clear hK K hHeld hb5 ho5 HKD HCD;refine zS ?_;(refine zW 14 ?_;intro K hK);refine zla 61 #[v5, .int .i64 ((p:Int)+1), .int .i64 ((x1:Int)+1)] ?_ ?_ (zqh v5 (v.set 0 y) (p+1) (x1+1) ((p:Int)+1) ((x1:Int)+1) w5 HO5.o zO zO (by rw[zGS];omega) (by rw[zGS];omega)) ?_
        ·rfl
        ·go_simp
        rintro e6 w6' ⟨v6,rfl,ho6,hb6⟩;rw[HVE.o]at ho6;have HO6:=zH ho6.natsV;have HK6:=zH (HK5.o.bw hb6);have HC6':=zH (HC5.o.bS hb6);have hH6:=kcl2 hb6 hH5;have v6sl:=ho6.sl;refine⟨_,rfl,?_⟩;refine hK.o _ _ (λ _=>hH6) ?_;clear hK K hH5 hb6 ho6 HK5 HC5 HO5;refine zS ?_;(refine zW 15 ?_;intro K hK);rw[zIP (by rfl)];go_simp;refine hK.o _ _ (λ h=>by first | cases h | simp at h) ?_;clear hK K hH6;refine wpL.done (by kernel_rfl) ?_ _;refine zS ?_;have cv:=zca HK6.o.bel HV0.o;obtain⟨-,-,d1,-,-,-,-,-,-⟩:=HT6.o.bS HK6.o.bel;obtain⟨-,q0,q1,q2,-,-,-⟩:=HC6'.o;obtain⟨tr,ra1,rl1,rk1,ra2,rl2,rk2,z0,z1,z2,hrf⟩:=(HRV.o.bw HK6.o.bel).cellsAt hyr;obtain⟨ts,sa1,sl1,sk1,sa2,sl2,sk2,y0,y1,y2,hsf⟩:=(HSS6.o.bw HK6.o.bel).cellsAt hpl2;have HRF:=zH hrf;have HSF:=zH hsf;have hyl:(y:Int)<(rl.length:Nat):=zO;have hy0:(0:Int)<=(y:Int):=zO;clear hrf hsf;go_upto_region 18 with fail;refine wpL.st11 18 q0 q1 q2 cv z0 z1 z2 d1 y0 y1 y2 (λ wd hbD hHeld=> ?_);have HKD:=zH (HK6.o.bw hbD);have HCD:=zH (HC6'.o.bS hbD);have HOD:=zH (HO6.o.bw hbD);have HRFD:=zH (HRF.o.bw hbD);have HSFD:=zH (HSF.o.bw hbD);clear q0 q1 q2 cv z0 z1 z2 d1 y0 y1 y2 hbD HK6 HC6' HO6 HRF HSF;refine zY 0 ?_;refine zU 1 ?_;refine zU 2 ?_;refine zU 3 ?_;refine zU 5 ?_;refine zU 6 ?_;refine zU 7 ?_;refine zY 8 ?_;refine zU 9 ?_;(try rw[hwy0]);refine zU 10 ?_;refine zY 11 ?_;refine zU 12 ?_;refine zY 13 ?_;refine zU 14 ?_;refine zU 15 ?_;refine zY 16 ?_;(refine zW 4 ?_;intro K hK);refine zla 60 #[lv,v6] ?_ ?_ (HIDX.o wd v6 mx.1 HKD.o.bel HOD.o HM1L.o) ?_
        ·rfl
        ·go_simp
        rintro e7 w7 ⟨rfl,hb7⟩;have HK7:=zH (HKD.o.bw hb7);have HC7:=zH (HCD.o.bS hb7);have HRF7:=zH (HRFD.o.bw hb7);have HSF7:=zH (HSFD.o.bw hb7);have hH7:=kcl11 hb7 hHeld;refine⟨_,rfl,?_⟩;refine hK.o _ _ (λ _=>hH7) ?_;clear hK K hHeld hb7 HKD HCD HOD HRFD HSFD;refine zS ?_;(refine zCF 17 58 #[.agg #[.bool tr, .slice ra1 rl1 rk1, .slice ra2 rl2 rk2], .agg #[.bool ts, .slice sa1 sl1 sk1, .slice sa2 sl2 sk2]] (zjn _ _ _ _ _ HRF7.o HSF7.o HLIM.o.1 HLIM.o.2 HFR.o) λ t7 a71 l71 k71 a72 l72 k72 w8' hv8 hb8=>⟨kcl11 hb8 hH7,λ hH8=> ?_⟩);rw[<-HM2.o]at hv8;have HV8:=zH hv8;have HK8:=zH (HK7.o.bw hb8);have HC8:=zH (HC7.o.bS hb8);clear hH7 hv8 hb8 HK7 HC7 HRF7 HSF7;(refine zW 18 ?_;intro K hK);refine zla 59 #[.agg #[.slice vr1 vr2 vr3, .slice vs1 (L.length+1) vs3, .slice vl1 vl2 vl3], .int .i64 (a:Nat), .int .i64 (L.idxOf mx.1:Nat), .agg #[.bool t7, .slice a71 l71 k71, .slice a72 l72 k72]] ?_ ?_ (HADD.o _ _ _ _ mx _ _ _ HK8.o HV8.o haM.o rfl rfl (by rw[HMA.o haM.o];exact HNE.o) HSUB.o HPLEN.o) ?_
        ·rfl
        ·go_simp
        rintro e9 w9 ⟨rfl,hs9⟩;have HS9:=zH hs9;refine⟨_,rfl,?_⟩;refine hK.o _ _ (λ h=>by first | cases h | simp at h) ?_;clear hK K hH8 hs9;refine wpL.done (by kernel_rfl) ?_ _;go_wp2_with fail;go_meet
        case rel=>
         rw[zIP H0.o,HRM.o];exact⟨HS9.o.1,HC8.o.moves HS9.o.2.2 (Nat.le_of_eq HML.o.2.2.1)⟩
       ·have H0:=zH h0;have e5:decide (0<x0)=false:=zDF h0;clear h0;go_wp2_with fail;go_meet
        case rel=>
         rw[zIN H0.o,List.append_nil];exact⟨HKY.o,HCY.o⟩
      case rest=>
       obtain⟨hk,hc⟩:=hcut;obtain⟨wz,hwz⟩:∃w6,w6=wc:=⟨_,rfl⟩;subst hwz;have HKZ:=zH hk;have HCZ:=zH hc;obtain⟨pre,hpre⟩:∃pre,(zgh (lwF l) rep v p++if 0<x0 then repM (lwF l) rep v p else [])=pre:=⟨_,rfl⟩;rw[hpre]at HKZ HPL;clear hk hc hpre cv cw HKY HCY;have cw:=zca HKZ.o.bel HV1.o;by_cases h1:x1=0
       ·subst h1;have e6:(((0:Nat):Int)==0)=true:=rfl;go_wp2_with fail;go_roundg (sn- (p+1));case measure=>(have:=HG2.o;omega)
        case rel=>
         refine⟨p+1,zO,rfl,by go_num,?_,HCZ.o⟩;rw[HPL.o,zIN zO,List.append_nil];exact HKZ.o
       ·obtain⟨z,rfl⟩:∃z,x1=z+1:=⟨x1-1,zO⟩;(have e6:(((z+1:Nat):Int)==0)=false:=by simp;omega);(have e6b:((z:Int)+1==0)=false:=by simp;omega);have hwz0:IntKind.i64.wrap (z:Int)=(z:Int):=zub zO zO;(have hwz1:IntKind.i64.wrap ((z:Int)+1-1)=(z:Int):=by rw[zub zO zO];omega);have hvl:v.length=sn+1:=HVC.o.1;have HDR:zI (v.set (p+1) z=zyb v (p+1)):=zH (by unfold zyb;rw[HX1.o,Nat.add_sub_cancel])
        have HSR:zI (sevR (lwF l) v p=zvf (lwF l) v p sn++ [(zbf (zyb v (p+1)) 0,((z+1:Nat):Rat)*(lwF l).E p)]):=zH (by
         have h2:(lwF l).n=sn:=HP.o;rw[sevR_eq,h2,HX1.o])
        have HPL2:zI (zgh (lwF l) rep v (p+1)=pre++(zvf (lwF l) v p sn++ [(zbf (zyb v (p+1)) 0,((z+1:Nat):Rat)*(lwF l).E p)])):=zH (by rw[HPL.o,zIP zO,HSR.o]);have HFN:zI (fits (fq false (z+1) 1)):=zH ((Sz.choice (d:=z+1) (k:=1) zO zD zD).fits zD);clear h1
        go_upto_region 22 with(first
         |(go_at_call 23;(with_reducible refine(r2int_ii (z+1) _ _ (by first | rfl | omega) zO).mono ?_);rintro e3 w3 ⟨v3,rfl,hv3,hb3⟩;obtain⟨t3,a31,l31,k31,a32,l32,k32,rfl⟩:=hv3.iF;have hbb:=zba w3 (.cells #[.bool t3, .slice a31 l31 k31, .slice a32 l32 k32] 53);have HW3:zI (wz.heap.size<=w3.heap.size):=zH hb3.size;have HN3:=zH (C3.new w3 53 (.bool t3) (.slice a31 l31 k31) (.slice a32 l32 k32));have HNV:=zH (hv3.bw hbb);have HB3':=zH (zaa hb3 hbb);have cw:=zca (zaa hb3 hbb) cw;clear hv3 hb3 hbb)
         |(go_at_call 61;(with_reducible refine(zqh r v (p+1) z _ _ _ ((HR.o.bw HKZ.o.bel).bw HB3'.o) zO (by first | rfl | omega | exact hwz0 | exact hwz1) zO zO).mono ?_);rintro e5 w5 ⟨vle,rfl,ho5,hb5⟩;rw[HDR.o]at ho5;have HLE:=zH ho5;have HB5':=zH (zaa HB3'.o hb5);have HN5:=zH (HN3.o.bS hb5);have HNV5:=zH (HNV.o.bw hb5);have lesl:=ho5.sl;have HSZ3:zI (bC<=(w3.alloc (.cells #[.bool t3, .slice a31 l31 k31, .slice a32 l32 k32] 53)).heap.size):=zH (zLT (zLO HCZ.o.lt) HB3'.o.size);clear ho5 hb5))
        clear cw;obtain⟨bN,hbN⟩:∃b,w3.heap.size=b:=⟨_,rfl⟩;have HBN:zI (bC<=bN):=zH (by rw[<-hbN];exact zLT (zLO HCZ.o.lt) HW3.o);(rw[hbN]at HN5 HN3 |-);clear hbN;have HLEB:zI (zib w5 3 bC vle ((zyb v (p+1)).map zod)):=zH (HLE.o.mono HSZ3.o);have HK5:=zH (HKZ.o.bw HB5'.o);have HC5:=zH (HCZ.o.bS HB5'.o);clear HKZ HCZ HLE HB3' HB5' HN3 HNV HW3 HSZ3;go_wp2_with fail;go_loopg [20] (sn) (λ g u20 wr=>∃q:Nat,q<=sn/\g=sn-q/\u20= .int .i64 q/\M.Ok w6 wr (stF M.L st (a+1)) (zzc M.L mvf a (znb M.L (pre++zvf (lwF l) v p q)))/\C3 wr bC (.slice vr1 vr2 vr3) (.slice vs1 (L.length+1) vs3) (.slice vl1 vl2 vl3)/\C3 wr bN (.bool t3) (.slice a31 l31 k31) (.slice a32 l32 k32)/\zna wr (.agg #[.bool t3, .slice a31 l31 k31, .slice a32 l32 k32]) (fq false (z+1) 1)/\zib wr 3 bC vle ((zyb v (p+1)).map zod));case atStart=>exact⟨0,zZL _,rfl,rfl,by rw[show zvf (lwF l) v p 0= []from rfl,List.append_nil];exact HK5.o,HC5.o,HN5.o,HNV5.o,HLEB.o⟩
        case round=>
         obtain⟨q,hqn,hg,rfl,hk,hc,hn3,hnv,hle⟩:=hrel;obtain⟨wu,hwu⟩:∃w6,w6=wr:=⟨_,rfl⟩;subst hwu;have HG3:=zH hg;have HKU:=zH hk;have HCU:=zH hc;have HNU:=zH hn3;have HNVU:=zH hnv;have HLU:=zH hle;clear hg hk hc hn3 hnv hle HK5 HC5 HN5 HNV5 HLEB;(have hpr:p<l.rates.length:=by rw[HA.o.lp.rl];exact hpl2);have HROW:=zH (HA.o.lp.row p hpr);by_cases hql:q<sn
         ·obtain⟨-,d0,d1,d2,d3,-,-,-,-⟩:=HT6.o.bS HKU.o.bel;by_cases hqp:q=p
          ·subst hqp;(have e7:((q:Int)==(q:Int))=true:=by simp);have HSK:=zH (sevRP_skip (lwF l) v q);go_wp2_with fail;go_roundg (sn- (q+1));(case measure=>(have:=HG3.o;omega));case rel=>exact⟨q+1,zO,rfl,by go_num,by rw[HSK.o];exact HKU.o,HCU.o,HNU.o,HNVU.o,HLU.o⟩
          ·(have e7:((q:Int)==(p:Int))=false:=by simp;omega);(have hul:(zyb v (p+1)).length=sn+1:=by rw[zdb,hvl]);have cl:=(HLU.o.natsV).getD (j:=q+1) zO;have hx28:=zxg (i:=p+1) (zhq HVC.o.2.1) (q+1);obtain⟨x2,hx2⟩:∃x2,(zyb v (p+1)).getD (q+1) 0=x2:=⟨_,rfl⟩;rw[hx2]at cl hx28;obtain⟨mx,hmx⟩:∃mx:Mv,sevQ (lwF l) v p q=mx:=⟨_,rfl⟩;have HNX:zI (zvf (lwF l) v p (q+1)=zvf (lwF l) v p q++ [mx]):=zH (by rw[sevRP_next _ _ hqp,hmx]);have HM1:zI ((zyb v (p+1)).set (q+1) (x2+1)=mx.1):=zH (by rw[<-hmx,<-hx2];rfl)
           have HM2:zI (mx.2=fq false (z+1) 1*(l.rates[p]'hpr).getD q 0):=zH (by
            rw[<-hmx];(show(v.getD (p+1) 0:Rat)*(l.rates.getD p []).getD q 0=_);rw[HX1.o,zdr,zGD (l:=l.rates),zGE hpr];rfl)
           have HM1L:zI (mx.1.length=sn+1):=zH (by rw[<-HM1.o,zGS,hul])
           have HNE:zI (v≠mx.1):=zH (by
            rw[<-hmx];exact zei zO (by rw[HX1.o];omega) zO)
           have HSUBX:zI (∀zz∈(pre++zvf (lwF l) v p q)++ [mx],over D B zz.2):=zH (λ zz hz=>HMEM.o zz (by
            rw[HPL2.o]
            have hsub:∀y∈zvf (lwF l) v p q++ [mx],y∈zvf (lwF l) v p sn:=λ y hy=>by
             rw[<-HNX.o]at hy;obtain⟨i,hi,rfl⟩:=List.mem_map.1 hy;have hi2:=List.mem_filter.1 hi;exact List.mem_map.2 ⟨i,List.mem_filter.2 ⟨List.mem_range.2 (by have:=List.mem_range.1 hi2.1;omega),hi2.2⟩,rfl⟩
            rw[List.append_assoc]at hz;rcases List.mem_append.1 hz with h | h
            ·exact List.mem_append_left _ h
            ·exact List.mem_append_right _ (List.mem_append_left _ (hsub zz h))))
           have HFR:zI (fits (fq false (z+1) 1*(l.rates[p]'hpr).getD q 0)):=zH (by
            rw[<-HM2.o];exact HA.o.room.fits (HSUBX.o mx (by simp)))
           have hqr:q<(l.rates[p]'hpr).length:=by rw[HROW.o.1,HP.o];exact hql
           have HLIM:zI (fits ((l.rates[p]'hpr).getD q 0)):=zH (by
            rw[zGD,zGE hqr];exact(HROW.o.2.1 _ (zGM hqr)).fits)
           have HPLEN:zI ((pre++zvf (lwF l) v p q).length<1000):=zH (by
            have h:=HLEN.o;rw[HPL2.o,zLA]at h
            have h2:(zvf (lwF l) v p q).length<=q:=by
             unfold zvf;rw[zMP];have h3:=List.length_filter_le (λ i=>decide (i≠p)) (List.range q);rwa[List.length_range]at h3
            rw[zLA];omega)
           obtain⟨rr,crr,hrr⟩:=(HRR6.o.bw HKU.o.bel).at' p hpr;obtain⟨tr,ra1,rl1,rk1,ra2,rl2,rk2,z0,z1,z2,hrf⟩:=hrr.cellsAt hqr;have rrsl:=hrr.sl;(have rrln:slen rr=sn:=by rw[hrr.len,HROW.o.1,HP.o]);have HRF:=zH hrf;(have lele:slen vle=sn+1:=by rw[HLU.o.natsV.len,hul]);obtain⟨-,q0,q1,q2,-,-,-⟩:=HCU.o;obtain⟨-,n0,n1,n2,-,-,-⟩:=HNU.o;have hwq:IntKind.i64.wrap ((q:Int)+1)=(q:Int)+1:=zub zO zO;have hwx2:IntKind.i64.wrap ((x2:Int)+1)=(x2:Int)+1:=zub zO zO;have j9:(0:Int)<=(q:Int)+1:=zO;have j10:(q:Int)+1<(sn:Int)+1:=zO;have j11:(0:Int)<=(q:Int):=zO;have j12:(q:Int)<(sn:Nat):=zO;clear hrf hrr hmx hx2;go_upto_region 26 with fail;refine wpL.st12 24 q0 q1 q2 cl n0 n1 n2 d2 crr z0 z1 z2 (λ wd hbD hHeld=> ?_);have HKD:=zH (HKU.o.bw hbD);have HCD:=zH (HCU.o.bS hbD);have HND:=zH (HNU.o.bS hbD);have HNVD:=zH (HNVU.o.bw hbD);have HLD:=zH (HLU.o.bw hbD);have HRFD:=zH (HRF.o.bw hbD);clear q0 q1 q2 cl n0 n1 n2 d0 d1 d2 d3 crr z0 z1 z2 hbD HKU HCU HNU HNVU HLU HRF;refine zY 0 ?_;refine zU 1 ?_;refine zU 2 ?_;refine zU 3 ?_;refine zU 4 ?_;refine zU 5 ?_;(try rw[hwq]);refine zU 6 ?_;refine zU 7 ?_;refine zU 8 ?_;(try rw[hwq]);refine zU 9 ?_;refine zY 10 ?_;refine zU 11 ?_;(try rw[hwx2]);refine zY 14 ?_;refine zU 15 ?_;refine zY 16 ?_;refine zU 17 ?_;refine zU 18 ?_;refine zY 19 ?_;refine zU 20 ?_;refine zU 21 ?_;refine zY 22 ?_;(refine zW 12 ?_;intro K hK);refine zla 61 #[vle, .int .i64 ((q:Int)+1), .int .i64 ((x2:Int)+1)] ?_ ?_ (zqh vle (zyb v (p+1)) (q+1) (x2+1) ((q:Int)+1) ((x2:Int)+1) wd HLD.o.natsV zO zO zO zO) ?_
           ·rfl
           ·go_simp
           rintro e6' w6' ⟨v6,rfl,ho6,hb6⟩;rw[HM1.o]at ho6;have HO6:=zH ho6.natsV;have HK6:=zH (HKD.o.bw hb6);have HC6':=zH (HCD.o.bS hb6);have HN6:=zH (HND.o.bS hb6);have HNV6:=zH (HNVD.o.bw hb6);have HL6:=zH (HLD.o.bw hb6);have HRF6:=zH (HRFD.o.bw hb6);have hH6:=kcl12 hb6 hHeld;refine⟨_,rfl,?_⟩;refine hK.o _ _ (λ _=>hH6) ?_;clear hK K hHeld hb6 ho6 HKD HCD HND HNVD HLD HRFD;refine zS ?_;(refine zW 13 ?_;intro K hK);refine zla 60 #[lv,v6] ?_ ?_ (HIDX.o w6' v6 mx.1 HK6.o.bel HO6.o HM1L.o) ?_
           ·rfl
           ·go_simp
           rintro e7' w7 ⟨rfl,hb7⟩;have HK7:=zH (HK6.o.bw hb7);have HC7:=zH (HC6'.o.bS hb7);have HN7:=zH (HN6.o.bS hb7);have HNV7:=zH (HNV6.o.bw hb7);have HL7:=zH (HL6.o.bw hb7);have HRF7:=zH (HRF6.o.bw hb7);have hH7:=kcl12 hb7 hH6;refine⟨_,rfl,?_⟩;refine hK.o _ _ (λ _=>hH7) ?_;clear hK K hH6 hb7 HK6 HC6' HN6 HNV6 HL6 HRF6 HO6;refine zS ?_;(refine zCF 23 58 #[.agg #[.bool t3, .slice a31 l31 k31, .slice a32 l32 k32], .agg #[.bool tr, .slice ra1 rl1 rk1, .slice ra2 rl2 rk2]] (zjn _ _ _ _ _ HNV7.o HRF7.o HFN.o HLIM.o HFR.o) λ t7 a71 l71 k71 a72 l72 k72 w8' hv8 hb8=>⟨kcl12 hb8 hH7,λ hH8=> ?_⟩);rw[<-HM2.o]at hv8;have HV8:=zH hv8;have HK8:=zH (HK7.o.bw hb8);have HC8:=zH (HC7.o.bS hb8);have HN8:=zH (HN7.o.bS hb8);have HNV8:=zH (HNV7.o.bw hb8);have HL8:=zH (HL7.o.bw hb8);clear hH7 hv8 hb8 HK7 HC7 HN7 HNV7 HL7 HRF7;(refine zW 24 ?_;intro K hK);refine zla 59 #[.agg #[.slice vr1 vr2 vr3, .slice vs1 (L.length+1) vs3, .slice vl1 vl2 vl3], .int .i64 (a:Nat), .int .i64 (L.idxOf mx.1:Nat), .agg #[.bool t7, .slice a71 l71 k71, .slice a72 l72 k72]] ?_ ?_ (HADD.o _ _ _ _ mx _ _ _ HK8.o HV8.o haM.o rfl rfl (by rw[HMA.o haM.o];exact HNE.o) HSUBX.o HPLEN.o) ?_
           ·rfl
           ·go_simp
           rintro e9 w9 ⟨rfl,hs9⟩;have HS9:=zH hs9;refine⟨_,rfl,?_⟩;refine hK.o _ _ (λ h=>by first | cases h | simp at h) ?_;clear hK K hH8 hs9;refine wpL.done (by kernel_rfl) ?_ _;go_wp2_with fail;go_roundg (sn- (q+1));case measure=>(have:=HG3.o;omega)
           case rel=>
            have hhi:=HML.o.2.2.1;refine⟨q+1,zO,rfl,by go_num,?_,HC8.o.moves HS9.o.2.2 (Nat.le_of_eq hhi),HN8.o.moves HS9.o.2.2 (by rw[hhi];exact HBN.o),HNV8.o.moves HS9.o.2.2,HL8.o.movesB HS9.o.2.2 (Nat.le_of_eq hhi)⟩;rw[HNX.o,<-List.append_assoc];exact HS9.o.1
         ·obtain rfl:q=sn:=zO;(have hul:(zyb v (p+1)).length=q+1:=by rw[zdb,hvl]);have cv:=zca HKU.o.bel HV0.o;obtain⟨mx,hmx⟩:∃mx:Mv,(zbf (zyb v (p+1)) 0,((z+1:Nat):Rat)*(lwF l).E p)=mx:=⟨_,rfl⟩
          have HM1:zI ((zyb v (p+1)).set 0 (x0+1)=mx.1):=zH (by
           rw[<-hmx];(show _=(zyb v (p+1)).set 0 ((zyb v (p+1)).getD 0 0+1));unfold zyb;rw[getD_set_ne zO,HX0.o])
          have hpe:p<l.exit.length:=by rw[HA.o.lp.el];exact hpl2
          have HM2:zI (mx.2=fq false (z+1) 1*l.exit.getD p 0):=zH (by
           rw[<-hmx,zdr];rfl)
          have HM1L:zI (mx.1.length=q+1):=zH (by rw[<-HM1.o,zGS,hul])
          have HNE:zI (v≠mx.1):=zH (by
           rw[<-hmx];exact zei zO (by rw[HX1.o];omega) zO)
          rw[hmx]at HPL2
          have HSUBX:zI (∀zz∈(pre++zvf (lwF l) v p q)++ [mx],over D B zz.2):=zH (λ zz hz=>HMEM.o zz (by
           rw[HPL2.o,<-List.append_assoc];exact hz))
          have HFR:zI (fits (fq false (z+1) 1*l.exit.getD p 0)):=zH (by
           rw[<-HM2.o];exact HA.o.room.fits (HSUBX.o mx (by simp)))
          have HLIM:zI (fits (l.exit.getD p 0)):=zH (by
           rw[zGD,zGE hpe];exact(HA.o.lp.ex _ (zGM hpe)).fits)
          have HPLEN:zI ((pre++zvf (lwF l) v p q).length<1000):=zH (by
           have h:=HLEN.o;rw[HPL2.o,<-List.append_assoc,zLA]at h;omega)
          obtain⟨tr,ra1,rl1,rk1,ra2,rl2,rk2,z0,z1,z2,hrf⟩:=(HEE6.o.bw HKU.o.bel).cellsAt hpe;have HRF:=zH hrf;(have lele:slen vle=q+1:=by rw[HLU.o.natsV.len,hul]);obtain⟨-,q0,q1,q2,-,-,-⟩:=HCU.o;obtain⟨-,n0,n1,n2,-,-,-⟩:=HNU.o;obtain⟨-,d0,d1,d2,d3,-,-,-,-⟩:=HT6.o.bS HKU.o.bel;have hwx0:IntKind.i64.wrap ((x0:Int)+1)=(x0:Int)+1:=zub zO zO;clear hrf hmx;go_upto_region 27 with fail;refine wpL.st11 17 q0 q1 q2 cv n0 n1 n2 d3 z0 z1 z2 (λ wd hbD hHeld=> ?_);have HKD:=zH (HKU.o.bw hbD);have HCD:=zH (HCU.o.bS hbD);have HNVD:=zH (HNVU.o.bw hbD);have HLD:=zH (HLU.o.bw hbD);have HRFD:=zH (HRF.o.bw hbD);clear q0 q1 q2 cv n0 n1 n2 d0 d1 d2 d3 z0 z1 z2 hbD HKU HCU HNU HNVU HLU HRF;refine zY 0 ?_;refine zU 1 ?_;refine zU 2 ?_;refine zU 3 ?_;refine zU 4 ?_;refine zU 5 ?_;refine zY 6 ?_;refine zU 7 ?_;(try rw[hwx0]);refine zY 10 ?_;refine zU 11 ?_;refine zY 12 ?_;refine zU 13 ?_;refine zU 14 ?_;refine zY 15 ?_;(refine zW 8 ?_;intro K hK);refine zla 61 #[vle, .int .i64 0, .int .i64 ((x0:Int)+1)] ?_ ?_ (zqh vle (zyb v (p+1)) 0 (x0+1) 0 ((x0:Int)+1) wd HLD.o.natsV rfl zO zO zO) ?_
          ·rfl
          ·go_simp
          rintro e6' w6' ⟨v6,rfl,ho6,hb6⟩;rw[HM1.o]at ho6;have HO6:=zH ho6.natsV;have HK6:=zH (HKD.o.bw hb6);have HC6':=zH (HCD.o.bS hb6);have HNV6:=zH (HNVD.o.bw hb6);have HRF6:=zH (HRFD.o.bw hb6);have hH6:=kcl11 hb6 hHeld;refine⟨_,rfl,?_⟩;refine hK.o _ _ (λ _=>hH6) ?_;clear hK K hHeld hb6 ho6 HKD HCD HNVD HLD HRFD;refine zS ?_;(refine zW 9 ?_;intro K hK);refine zla 60 #[lv,v6] ?_ ?_ (HIDX.o w6' v6 mx.1 HK6.o.bel HO6.o HM1L.o) ?_
          ·rfl
          ·go_simp
          rintro e7' w7 ⟨rfl,hb7⟩;have HK7:=zH (HK6.o.bw hb7);have HC7:=zH (HC6'.o.bS hb7);have HNV7:=zH (HNV6.o.bw hb7);have HRF7:=zH (HRF6.o.bw hb7);have hH7:=kcl11 hb7 hH6;refine⟨_,rfl,?_⟩;refine hK.o _ _ (λ _=>hH7) ?_;clear hK K hH6 hb7 HK6 HC6' HNV6 HRF6 HO6;refine zS ?_;(refine zCF 16 58 #[.agg #[.bool t3, .slice a31 l31 k31, .slice a32 l32 k32], .agg #[.bool tr, .slice ra1 rl1 rk1, .slice ra2 rl2 rk2]] (zjn _ _ _ _ _ HNV7.o HRF7.o HFN.o HLIM.o HFR.o) λ t7 a71 l71 k71 a72 l72 k72 w8' hv8 hb8=>⟨kcl11 hb8 hH7,λ hH8=> ?_⟩);rw[<-HM2.o]at hv8;have HV8:=zH hv8;have HK8:=zH (HK7.o.bw hb8);have HC8:=zH (HC7.o.bS hb8);clear hH7 hv8 hb8 HK7 HC7 HNV7 HRF7;(refine zW 17 ?_;intro K hK);refine zla 59 #[.agg #[.slice vr1 vr2 vr3, .slice vs1 (L.length+1) vs3, .slice vl1 vl2 vl3], .int .i64 (a:Nat), .int .i64 (L.idxOf mx.1:Nat), .agg #[.bool t7, .slice a71 l71 k71, .slice a72 l72 k72]] ?_ ?_ (HADD.o _ _ _ _ mx _ _ _ HK8.o HV8.o haM.o rfl rfl (by rw[HMA.o haM.o];exact HNE.o) HSUBX.o HPLEN.o) ?_
          ·rfl
          ·go_simp
          rintro e9 w9 ⟨rfl,hs9⟩;have HS9:=zH hs9;refine⟨_,rfl,?_⟩;refine hK.o _ _ (λ h=>by first | cases h | simp at h) ?_;clear hK K hH8 hs9;refine wpL.done (by kernel_rfl) ?_ _;go_wp2_with fail;go_roundg (q- (p+1));case measure=>(have:=HG2.o;omega)
          case rel=>
           refine⟨p+1,zO,rfl,by go_num,?_,HC8.o.moves HS9.o.2.2 (Nat.le_of_eq HML.o.2.2.1)⟩;rw[HPL2.o,<-List.append_assoc];exact HS9.o.1
     ·obtain rfl:p=sn:=zO;obtain⟨-,d0,d1,d2,d3,-,-,-,-⟩:=HT6.o.bS HKY.o.bel
      have HKE:zI (M.Ok w6 wy (stF M.L st (a+1)) (zzc M.L mvf (a+1) (znb M.L []))):=zH (by
       refine HKY.o.congr (λ i _=>rfl) (λ r c _ _=> ?_)
       have e:zgh (lwF l) rep v p=mvf v:=by
        rw[<-HMV.o,<-cntRP_all (lwF l) rep v];have h2:(lwF l).n=p:=HP.o;rw[h2]
       rw[e];exact HTN.o r c)
      go_wp2_with fail;go_roundg (L.length- (a+1));(case measure=>(have:=HG.o;omega));case rel=>exact⟨a+1,zO,rfl,by go_num,HKE.o,HCY.o⟩
  ·obtain rfl:a=L.length:=zO;obtain⟨c,hc⟩:∃c:CQ,cntC (lwF l) (λ i=>rl.getD i 0) (k+m) m ms=c:=⟨_,rfl⟩
   have HKC:zI (M.Ok w6 wx (stF M.L st L.length) (zzc M.L (cntM (lwF l) rep) L.length (znb M.L []))):=zH (by
    refine HKX.o.congr (λ i _=>rfl) (λ r c _ _=> ?_);rw[<-HMV.o];exact tabM_congr (λ v _ c=>cnt_same HA.o.lp.diag) r c)
   have HCC:zI ((⟨zhi (M.L.length+1) (zzc M.L (cntM (lwF l) rep) L.length (znb M.L [])),zch (M.L.length+1) (stF M.L st L.length),zvg (M.L.length+1)⟩:CQ)=c):=zH (by
    rw[<-hc,HREP.o];unfold cntC;rw[HST.o];have e:zue (lwF l).n (k+m) m=L:=HL.o;rw[e];exact cnt_fin HML.o.1)
   have HC7:=zH hc;have hdn:=rvalid23_any _ _ wx HKC.o.bld.chain;rw[HCC.o,HML.o.2.2.2.2.1,HML.o.2.2.2.2.2.1,HML.o.2.2.2.2.2.2]at hdn;have HDN:=zH hdn;have HCR:=zH (HC6.o.bS HKC.o.bel);have HBX:=zH (zaa HB6.o HKC.o.bel);obtain⟨-,q0,q1,q2,-,-,-⟩:=HCX.o;clear hc hdn HKX;have HLL:=zH hLL;by_cases hv:zic c.raw
   ·have HVV:=zH hv;clear hv
    go_wp2_with (first
     |(go_at_call 63;(with_reducible refine HDN.o.mono ?_);rintro e8 w8 ⟨v8,er8,rfl,hb8,h81,_⟩;obtain⟨rfl,rfl⟩:=h81 HVV.o;have HCY:=zH (HCR.o.bS hb8);have HKY:=zH (HKC.o.bw hb8);have HBY:=zH (zaa HBX.o hb8);obtain⟨-,g0,g1,g2,u0,u1,u2⟩:=HCY.o;clear hb8 h81))
    refine zka rfl rfl Tryz.aggCh Tryz.sizeCh (HCY.o.set _ _ _) rfl ?_;rw[HC7.o];have hch:=(HKY.o.bld.over3 HCY.o (by rw[HML.o.2.1];have:=HC6.o.lt;omega) zZ zZ zZ (.slice vr1 vr2 vr3) (.slice vs1 (L.length+1) vs3) (.slice vl1 vl2 vl3)).chain;rw[HCC.o,HML.o.2.2.2.2.1,HML.o.2.2.2.2.2.1,HML.o.2.2.2.2.2.2]at hch;exact⟨λ _=>⟨_,_,rfl,zea HBY.o (zLS _) _ _ _,λ _=>⟨rfl,hch⟩,λ h=>absurd HVV.o h⟩,λ h=>absurd HLL.o zO⟩
   ·have HVV:=zH hv;clear hv
    go_wp2_with (first
     |(go_at_call 63;(with_reducible refine HDN.o.mono ?_);rintro e8 w8 ⟨v8,er8,rfl,hb8,_,h81⟩;obtain⟨rfl,rfl⟩:=h81 HVV.o;have HCY:=zH (HCR.o.bS hb8);have HBY:=zH (zaa HBX.o hb8);obtain⟨-,g0,g1,g2,u0,u1,u2⟩:=HCY.o;clear hb8 h81))
    refine zka rfl rfl Tryz.aggCh Tryz.sizeCh (HCY.o.set _ _ _) rfl ?_;rw[HC7.o];exact⟨λ _=>⟨_,_,rfl,zea HBY.o (zLS _) _ _ _,λ h=>absurd h HVV.o,λ _=>⟨rfl,rfl⟩⟩,λ h=>absurd HLL.o zO⟩
end Go.Proofs.YtkpedaflofejnaaGreat
