/- Lemmas. -/
import Derived.Test.YtkpedaflofejnaaGreatMLn7
set_option linter.unusedVariables false
set_option linter.unusedSimpArgs false
namespace Go.Proofs.YtkpedaflofejnaaGreat
open Go.RowKit
def zlf (w0:World) (L:List (List Nat)) (c:CQ) (e:Ending) (w:World):Prop:=
 (L.length<128->RChain w0 c e w)/\(128<=L.length->e= .returned (.tuple #[.agg #[.slice none 0 0, .slice none 0 0, .slice none 0 0], .int .i64 2])/\Below w0.heap.size w0 w)
theorem counts_i (P n m:Nat) (PP nn mm:Int) (w:World) (h1:PP=(P:Nat)) (h2:nn=(n:Nat)) (h3:mm=(m:Nat)) (hP:1<=P) (hP4:P<=4) (hn:n<=8) (hm:m<=n):
 Calls Tryz.prog 67 #[.int .i64 PP, .int .i64 nn, .int .i64 mm] w (RVecs w (zue P n m)):=by
 subst h1;subst h2;subst h3;exact counts_any P n m w hP hP4 hn hm
theorem zom (k m:Nat) (w:World) (h1:1<=k) (h2:k<=6) (h3:m<=4) (h4:k+m<=8):Calls Tryz.prog 37 #[.int .i64 (k:Nat), .int .i64 (m:Nat)] w (λ e w'=>e= .returned (.bool true)/\Below w.heap.size w w'):=by
 refine(zdo (k:Nat) (m:Nat) w).mono ?_;rintro e w' ⟨rfl,hb⟩;exact⟨by rw[zDT zO],hb⟩
structure MisA (w:World) (vlaw vrep:Value) (l:LQ) (rl:List Rat) (k m ms:Nat) (D B:Nat):Prop where
 law:LawV w vlaw l
 lp:LawP l
 val:∀w',Below w.heap.size w w'->Calls Tryz.prog 40 #[vlaw] w' (λ e w''=>e= .returned (.bool true)/\Below w'.heap.size w' w'')
 rep:znc w vrep rl
 repl:∀q∈rl,zdh q/\q≠0
 repn:rl.length=max m 1
 k1:1<=k
 k6:k<=6
 m4:m<=4
 km:k+m<=8
 ms:ms<=m
 room:zqk D B
 ov:∀v∈zue l.start.length (k+m) m,∀x∈cntM (lwF l) (λ i=>rl.getD i 0) v,over D B x.2
theorem cnt_vec {P n m:Nat} (hP:1<=P) (hm:m<=n) (hn:n<=8) {v:List Nat} (h:v∈zue P n m):v.length=P+1/\v.sum<=8/\v.getD 0 0<=m:=by
 obtain⟨h1,h2,h3⟩:=(zik hP hm).1 h;exact⟨h1,zO,by rw[<-getD0];exact h3⟩
theorem zjb.getD {w:World} {v:Value} {l:List Nat} (h:zjb w v l) {j:Nat} (hj:j<l.length):w.cell? (ptr v j)=some (.int .i64 (l.getD j 0:Nat)):=by
 rw[h.at' j hj,zGD,zGE hj];rfl
theorem zjb.tail {w:World} {v:Value} {l:List Nat} (h:zjb w v l) (hl:2<=l.length):zjb w (cut 1 v 1 (slen v)) l.tail:=by
 have h1:=h.len;have hle:=h.sl.le;refine⟨h.sl.cut zO hle.1,by rw[h.sl.slen_cut,zMP,List.length_tail,h1],λ j hj=> ?_⟩;have hj2:j+1<l.length:=by rw[zMP,List.length_tail]at hj;omega
 rw[ptr_cut h.sl zO,show 1*1+j=j+1 by omega];have h2:=zta.cell h (j+1) (by rw[zMP];exact hj2);rw[h2]
 congr 1
 rw[List.getElem_map,List.getElem_map,List.getElem_tail]
theorem slice_one (w:World) (r:Value) (n:Nat) (h:zlb r) (hn:slen r=n+1):(Instr.slice 31 r (some (.int .i64 1)) none none).run Tryz.prog w= .ok (cut 1 r 1 (n+1)) w:=by
 have ht:Tryz.prog.underlying 31=some (.slice (Tryz.prog.elem 31)):=by kernel_rfl
 rw[zvo w h ht zD (by rw[hn];omega),hn];have hs:(sizeOf (Tryz.prog.elem 31)).run Tryz.prog w= .ok 1 w:=by kernel_rfl
 rw[hs];rfl
theorem cnt_fin {L L':List (List Nat)} {mv:List Nat->List Mv} {st:List Nat->Rat} (h:L'=L):(⟨zhi (L'.length+1) (zzc L' mv L.length (znb L' [])),zch (L'.length+1) (stF L' st L.length),zvg (L'.length+1)⟩:CQ)=vecC L mv st:=by
 subst h;unfold vecC
 congr 1
 ·exact tabM_end (mv:=mv) rfl
 ·exact stF_end (mv:=mv) rfl
 ·unfold zvg;exact List.map_congr_left λ s _=>decide_eq_decide.2 zO
set_option maxRecDepth 100000 in
set_option maxHeartbeats 12800000 in
theorem zej (vlaw vrep:Value) (l:LQ) (rl:List Rat) (k m ms:Nat) (D B:Nat) (w:World) (h:MisA w vlaw vrep l rl k m ms D B):
 Calls Tryz.prog 14 #[vlaw, .int .i64 (k:Nat), .int .i64 (m:Nat),vrep, .int .i64 (ms:Nat)] w (zlf w (zue l.start.length (k+m) m) (cntC (lwF l) (λ i=>rl.getD i 0) (k+m) m ms)):=by
 obtain⟨nm,vS,vR,vE,rfl,hS,hR,hE⟩:=id h.law;obtain⟨sa,sn,sk,rfl,_⟩:=id hS.sl;obtain⟨ra,rn,rk,rfl,_⟩:=id hR.sl;obtain⟨ea,en,ek,rfl,_⟩:=id hE.sl;have hba:=zba w (.cells #[.string nm, .slice sa sn sk, .slice ra rn rk, .slice ea en ek] 30);have hbb:=zba (w.alloc (.cells #[.string nm, .slice sa sn sk, .slice ra rn rk, .slice ea en ek] 30)) (.cells #[.slice none 0 0, .slice none 0 0, .slice none 0 0] 34);have hT:=(C4.new w 30 (.string nm) (.slice sa sn sk) (.slice ra rn rk) (.slice ea en ek)).bS hbb;have hC:=C3.newB (b:=w.heap.size+1) (w.alloc (.cells #[.string nm, .slice sa sn sk, .slice ra rn rk, .slice ea en ek] 30)) 34 (.slice none 0 0) (.slice none 0 0) (.slice none 0 0) (by simp);have HT:=zH hT;have HC:=zH hC;have HBW:=zH (zaa hba hbb);have HA:=zH h;have hP1:=h.lp.n1;have hP4:=h.lp.n4;obtain⟨P,hP⟩:∃P,l.start.length=P:=⟨_,rfl⟩;rw[hP]at hP1 hP4;have hsn:sn=P:=by rw[<-hP];exact hS.len
 subst hsn;have HP:=zH hP;obtain⟨L,hL⟩:∃L,zue l.start.length (k+m) m=L:=⟨_,rfl⟩;have HL:=zH hL;have HL2:zI (zue sn (k+m) m=L):=zH (by rw[<-hP];exact hL);rw[hL];have ssl:=hS.sl;have HSS:=zH hS;have k1:=h.k1;have k6:=h.k6;have m4:=h.m4;have km:=h.km;have hms:=h.ms;obtain⟨-,d0,d1,d2,d3,-,-,-,-⟩:=hT;obtain⟨-,g0,g1,g2,u0,u1,u2⟩:=hC;clear h hR hE hba hbb hP hL hS;have e1:decide ((ms:Int)<0)=false:=zDF zO;have e2:decide (m<ms)=false:=zDF zO;go_enter Tryz.func14,Tryz.ntmps14
 go_upto_region 4 with(first
  |(go_at_call 37;(with_reducible refine(zom k m _ k1 k6 m4 km).mono ?_);rintro e3 w3 ⟨rfl,hb3⟩;have HB3:=zH (zaa HBW.o hb3);have HT3:=zH (HT.o.bS hb3);have HC3:=zH (HC.o.bS hb3);clear d0 d1 d2 d3 g0 g1 g2 u0 u1 u2;obtain⟨-,d0,d1,d2,d3,-,-,-,-⟩:=HT3.o;clear hb3)
  |(go_at_call 40;(with_reducible refine(HA.o.val _ HB3.o).mono ?_);rintro e4 w4 ⟨rfl,hb4⟩;have HB4:=zH (zaa HB3.o hb4);have HT4:=zH (HT3.o.bS hb4);have HC4:=zH (HC3.o.bS hb4);clear d0 d1 d2 d3 hb4)
  |(go_at_call 38;(with_reducible refine(zfj _ rl m _ (HA.o.rep.bw HB4.o) HA.o.repl HA.o.repn zO).mono ?_);rintro e5 w5 ⟨rfl,hb5⟩;have HB5:=zH (zaa HB4.o hb5);have HT5:=zH (HT4.o.bS hb5);have HC5:=zH (HC4.o.bS hb5);obtain⟨-,d0,d1,d2,d3,-,-,-,-⟩:=HT5.o;clear hb5)
  |(go_at_call 67;(with_reducible refine(counts_i sn (k+m) m _ _ _ _ zO zO zO hP1 hP4 zO zO).mono ?_);rintro e6 w6 ⟨vb,rfl,hb6,hv6⟩;rw[HL2.o]at hv6 |-;have HV6:=zH hv6;have HB6:=zH (zaa HB5.o hb6);have HT6:=zH (HT5.o.bS hb6);have HC6:=zH (HC5.o.bS hb6);clear hb6 hv6 d0 d1 d2 d3))
 by_cases hLL:L.length<128
 case neg=>
  have e3:decide (L.length<128)=false:=zDF hLL;have HLL:=zH hLL;obtain⟨-,g0,g1,g2,u0,u1,u2⟩:=HC6.o;clear hLL;go_wp2_with fail;refine zka rfl rfl Tryz.aggCh Tryz.sizeCh (HC6.o.set _ _ _) rfl ?_;exact⟨λ h=>absurd h HLL.o,λ _=>⟨rfl,zea HB6.o (zLS _) (.slice none 0 0) (.slice none 0 0) (.slice none 0 0)⟩⟩
 obtain⟨B0,mb,lv,rs0,hV,hvb⟩:=HV6.o hLL;have HV:=zH hV;have e3:decide (L.length<128)=true:=zDT hLL;have hlsl:=hV.sl;have hlln:slen lv=L.length:=hV.len;clear hV hvb HV6
 go_upto_region 7 with(first
  |(go_at_call 42;(with_reducible refine(build_any vb 0 B0 mb lv rs0 L _ HV.o zO).mono ?_);rintro e7 w7 ⟨b,vs,vl,vr,rs,rfl,hB7,hb7⟩;have HM:=zH hB7;have HB7:=zH hb7;clear hB7 hb7))
 obtain⟨M,hM⟩:∃M:MkD,M=⟨B0,vb,mb,w6.heap.size,b,w7.heap.size,lv,vs,vl,vr,rs0,rs,L⟩:=⟨_,rfl⟩;obtain⟨rep,hrep⟩:∃f:Nat->Rat,(λ i=>rl.getD i 0)=f:=⟨_,rfl⟩;have HREP:=zH hrep;obtain⟨mvf,hmvf⟩:∃f:List Nat->List Mv,cntM (lwF l) rep=f:=⟨_,rfl⟩;obtain⟨st,hst⟩:∃f:List Nat->Rat,cntS (lwF l) ms=f:=⟨_,rfl⟩;have HMV:=zH hmvf;have HST:=zH hst
 have HOK:zI (M.Ok w6 w7 (stF M.L st 0) (zzc M.L mvf 0 (znb M.L []))):=zH (by
  subst hM;exact⟨HV.o,zLR _,HB7.o,HM.o.congr (λ i _=>zcq) (λ i j _ _=>zxm),by show L.length<=150;omega⟩)
 have HML:zI (M.L=L/\M.b=b/\M.B=w6.heap.size/\M.vs=vs):=zH (by subst hM;exact⟨rfl,rfl,rfl,rfl⟩);have c0:=zca HB7.o HV.o.c0
 have HOV:zI (∀v∈L,∀x∈cntM (lwF l) rep v,over D B x.2):=zH (λ v hv=>by
  rw[<-hrep];exact HA.o.ov v (by rw[HL.o];exact hv))
 have HLW:zI (LawV w6 (.agg #[.string nm, .slice sa sn sk, .slice ra rn rk, .slice ea en ek]) l):=zH (HA.o.law.bw HB6.o);have HRV:zI (znc w6 vrep rl):=zH (HA.o.rep.bw HB6.o);have HSS6:zI (znc w6 (.slice sa sn sk) l.start):=zH (HSS.o.bw HB6.o);have hnw6:=HB6.o.size;clear hM hrep hmvf hst;rw[<-HML.o.2.1];go_wp2_with fail;clear c0;go_loopg [65] (L.length) (λ g u65 wr=>∃a:Nat,a<=L.length/\g=L.length-a/\u65= .int .i64 a/\M.Ok w6 wr (stF M.L st a) (zzc M.L mvf a (znb M.L [])));case atStart=>exact⟨0,zZL _,rfl,rfl,HOK.o⟩
 case round=>
  obtain⟨a,haL,hg,rfl,hk⟩:=hrel;obtain⟨wx,hwx⟩:∃w6,w6=wr:=⟨_,rfl⟩;subst hwx;have HG:=zH hg;have HKX:=zH hk;clear hg hk HOK HM HB7;by_cases hal:a<L.length
  ·obtain⟨r,hr0,hrv⟩:=HV.o.row a hal;have hmem:=zGM hal;have HVC:=zH (cnt_vec (P:=sn) (n:=k+m) (m:=m) hP1 zO zO (by rw[HL2.o];exact hmem));have HOVA:=zH (HOV.o _ hmem)
   have HTN:zI (∀r c,zzc M.L mvf a (znb M.L (mvf (L[a]'hal))) r c=zzc M.L mvf (a+1) (znb M.L []) r c):=zH (λ r c=>by
    have h:=HML.o.1;(have h2:a<M.L.length:=by rw[h];exact hal);(have h3:M.L[a]'h2=L[a]'hal:=by simp only[h]);have h4:=zym (mv:=mvf) (r:=r) (c:=c) h2;rw[h3]at h4;exact h4)
   have HSA:zI (stF M.L st (a+1) a=st (L[a]'hal)/\(st (L[a]'hal)=0->∀i,stF M.L st a i=stF M.L st (a+1) i)):=zH (by
    have h:=HML.o.1;(have h2:a<M.L.length:=by rw[h];exact hal);(have h3:M.L[a]'h2=L[a]'hal:=by simp only[h]);refine⟨?_,λ h0 i=> ?_⟩
    ·rw[stF_at h2,h3]
    ·exact zdq h2 (by rw[h3];exact h0))
   generalize L[a]'hal=v at *
   have cr:=zca HKX.o.bel hr0;have HR:=zH hrv;have rsl:=hrv.sl;(have rln:slen r=sn+1:=by rw[hrv.len];exact HVC.o.1);obtain⟨-,d0,d1,d2,d3,-,-,-,-⟩:=HT6.o.bS HKX.o.bel;clear hr0 hrv hmem;have i5:(0:Int)<=(a:Int):=zO;have i6:(a:Int)<(L.length:Nat):=zO;have haM:zI (a<M.L.length):=zH (by rw[HML.o.1];exact hal);go_wp2_with fail;clear cr d0 d1 d2 d3;have HK0:zI (M.Ok w6 wx (stF M.L st a) (zzc M.L mvf a (znb M.L (zko (lwF l) rep v 0)))):=HKX;go_loopg [73] (sn) (λ g u73 wr=>∃p:Nat,p<=sn/\g=sn-p/\u73= .int .i64 p/\M.Ok w6 wr (stF M.L st a) (zzc M.L mvf a (znb M.L (zko (lwF l) rep v p))));case atStart=>exact⟨0,zZL _,rfl,rfl,HK0.o⟩
   case round=>
    obtain⟨p,hpn,hg,rfl,hk⟩:=hrel;obtain⟨wy,hwy⟩:∃w6,w6=wr:=⟨_,rfl⟩;subst hwy;have HG2:=zH hg;have HKY:=zH hk;clear hg hk HK0;by_cases hpl:p<sn
    ·(have hp2:p+1<v.length:=by rw[HVC.o.1];omega);(have hpl2:p<l.start.length:=by rw[HP.o];exact hpl);obtain⟨x1,hx1⟩:∃x1,v.getD (p+1) 0=x1:=⟨_,rfl⟩;have HX1:=zH hx1;(have hx18:x1<=8:=by rw[<-hx1];exact zhq HVC.o.2.1 _);have cv:=(HR.o.bw HKY.o.bel).getD hp2;rw[hx1]at cv
     have HPL:zI (zko (lwF l) rep v (p+1)=(zko (lwF l) rep v p++if 0<x1 then ziq (lwF l) v p else [])++if 0<v.getD 0 0 then repM (lwF l) rep v p else []):=zH (by
      rw[cntP_succ,List.append_assoc,<-hx1];rfl)
     have HMEM:zI (∀y∈zko (lwF l) rep v (p+1),over D B y.2):=zH (λ y hy=>HOVA.o y (cntP_mem (by show p+1<=l.start.length;omega) hy))
     have HLEN:zI ((zko (lwF l) rep v (p+1)).length<=24):=zH (by
      have h1:=cntP_len (lwF l) rep v (p+1);have h2:(lwF l).n=sn:=HP.o;rw[h2]at h1;have h3:(p+1)*(sn+2)<=4*6:=zMM zO zO;omega)
     have HSV:zI (∀wq,M.Ok w6 wq (stF M.L st a) (zzc M.L mvf a (znb M.L (zko (lwF l) rep v p)))->0<x1->Calls Tryz.prog 68 #[.pointer (some ⟨M.b,0,none⟩), .int .i64 (a:Nat),r, .int .i64 (p:Nat), .agg #[.string nm, .slice sa sn sk, .slice ra rn rk, .slice ea en ek]] wq (λ e w'=>e= .returned (.tuple #[])/\M.Step w6 wq w' (stF M.L st a) (zzc M.L mvf a (znb M.L (zko (lwF l) rep v p++ziq (lwF l) v p))))):=zH (λ wq hq h1=>by
      have hlp:=HA.o.lp;have hrow:=hlp.row p (by rw[hlp.rl];exact hpl2);have hpl3:=HPL.o;rw[zIP h1]at hpl3;refine several_any M w6 wq _ _ _ a p _ _ _ _ v l D B hq HR.o HLW.o rfl rfl haM.o hpl2 hlp.rl hlp.el ?_ hlp.n4 (by rw[HVC.o.1,HP.o]) HVC.o.2.1 (by rw[HX1.o];exact h1) HA.o.room (λ y hy=>HMEM.o y (by rw[hpl3];exact List.mem_append_left _ hy)) ?_
      ·rw[zGD,zGE (by rw[hlp.rl];exact hpl2)];exact hrow.1
      ·have h2:=HLEN.o;rw[hpl3,zLA,zLA]at h2;omega)
     obtain⟨-,d0,d1,d2,d3,-,-,-,-⟩:=HT6.o.bS HKY.o.bel;have i7:(0:Int)<=((p+1:Nat):Int):=zO;have i8:((p+1:Nat):Int)<((sn+1:Nat):Int):=zO;clear hx1 hp2;go_upto_if 81 with fail;go_cut [] (λ wz=>M.Ok w6 wz (stF M.L st a) (zzc M.L mvf a (znb M.L (zko (lwF l) rep v p++if 0<x1 then ziq (lwF l) v p else []))))
     case first =>
      by_cases h1:0<x1
      ·have H1:=zH h1;have e4:decide (0<x1)=true:=zDT h1;clear h1
       go_wp2_with (first
        |(go_at_call 68;(with_reducible refine(HSV.o _ HKY.o H1.o).mono ?_);rintro e8 w8 ⟨rfl,hs8⟩;have HS8:=zH hs8;clear hs8))
       go_meet
       case rel=>
        rw[zIP H1.o];exact HS8.o.1
      ·have H1:=zH h1;have e4:decide (0<x1)=false:=zDF h1;clear h1;go_wp2_with fail;go_meet
       case rel=>
        rw[zIN H1.o,List.append_nil];exact HKY.o
     case rest=>
      have HKZ:=zH hcut;obtain⟨wz,hwz⟩:∃w6,w6=wc:=⟨_,rfl⟩;subst hwz;clear hcut d0 d1 d2 d3 cv HKY HSV;(have hp2:p+1<v.length:=by rw[HVC.o.1];omega);obtain⟨x0,hx0⟩:∃x0,v.getD 0 0=x0:=⟨_,rfl⟩;have HX0:=zH hx0;(have hx0m:x0<=m:=by rw[<-hx0];exact HVC.o.2.2);have cv:=(HR.o.bw HKZ.o.bel).getD (j:=0) zO;rw[hx0]at cv;rw[hx0]at HPL;obtain⟨t1,xa,xb,z0,z1,z2,⟨xa1,xa2,xa3,rfl,_⟩,⟨xb1,xb2,xb3,rfl,_⟩,hx⟩:=HSS6.o.at' p hpl2;obtain⟨s,hs⟩:∃s,l.start[p]'hpl2=s:=⟨_,rfl⟩
      have HSE:zI ((lwF l).S p=s):=zH (by
       (show l.start.getD p 0=s);rw[zGD,zGE hpl2];exact hs)
      rw[hs]at hx;have HX:=zH (hx.bw HKZ.o.bel);replace z0:=zca HKZ.o.bel z0;replace z1:=zca HKZ.o.bel z1;replace z2:=zca HKZ.o.bel z2;obtain⟨-,d0,d1,d2,d3,-,-,-,-⟩:=HT6.o.bS HKZ.o.bel;have HNEXT:zI (∀wq,M.Ok w6 wq (stF M.L st a) (zzc M.L mvf a (znb M.L ((zko (lwF l) rep v p++if 0<x1 then ziq (lwF l) v p else [])++if 0<x0 then repM (lwF l) rep v p else [])))->M.Ok w6 wq (stF M.L st a) (zzc M.L mvf a (znb M.L (zko (lwF l) rep v (p+1))))):=zH (λ wq h=>by rw[HPL.o];exact h);have HPRE:zI (∀y∈(zko (lwF l) rep v p++if 0<x1 then ziq (lwF l) v p else []),over D B y.2):=zH (λ y hy=>HMEM.o y (by rw[HPL.o];exact List.mem_append_left _ hy))
      have HPLEN:zI ((zko (lwF l) rep v p++if 0<x1 then ziq (lwF l) v p else []).length<1000):=zH (by
       have h:=HLEN.o;rw[HPL.o,zLA]at h;omega)
      obtain⟨pre,hpre⟩:∃pre,(zko (lwF l) rep v p++if 0<x1 then ziq (lwF l) v p else [])=pre:=⟨_,rfl⟩;rw[hpre]at HKZ HNEXT HPRE HPLEN;have HPR:=zH hpre;clear hx0 hx hs hp2 hpre;by_cases h0:0<x0
      ·have e5:decide (0<x0)=true:=zDT h0
       have HRM:zI (0<x0->repM (lwF l) rep v p= [(zbf (zyb v 0) (p+1),rep (x0-1)*s)]):=zH (λ _=>by
        unfold repM;rw[HX0.o,HSE.o])
       by_cases hs0:s=0
       ·have e6:decide (s=0)=true:=zDT hs0;have HS0:=zH hs0;have H0:=zH h0;clear hs0 h0
        go_wp2_with (first
         |(go_at_call 45;(with_reducible refine(zud _ s _ HX.o).mono ?_);rintro e8 w8 ⟨rfl,hb8⟩;have HB8:=zH hb8;clear hb8 z0 z1 z2 d0 d1 d2 d3 cv))
        go_roundg (sn- (p+1));case measure=>(have:=HG2.o;omega)
        case rel=>
         refine⟨p+1,zO,rfl,by go_num,HNEXT.o _ ?_⟩;rw[zIP H0.o,HRM.o H0.o];refine(HKZ.o.bw HB8.o).congr (λ i _=>rfl) (λ r c _ _=> ?_)
         have e:znb M.L (pre++ [(zbf (zyb v 0) (p+1),rep (x0-1)*s)])=znb M.L pre:=by
          funext c
          refine zgf _ ?_;(show rep (x0-1)*s=0);rw[HS0.o,Rat.mul_zero]
         rw[e]
       ·have e6:decide (s=0)=false:=zDF hs0;clear hs0;obtain⟨y,rfl⟩:∃y,x0=y+1:=⟨x0-1,zO⟩;have HRM2:=zH (HRM.o h0);(have hyr:y<rl.length:=by rw[HA.o.repn];omega);obtain⟨tq,qa,qb,q0,q1,q2,⟨qa1,qa2,qa3,rfl,_⟩,⟨qb1,qb2,qb3,rfl,_⟩,hq⟩:=HRV.o.at' y hyr;obtain⟨ry,hry⟩:∃x,rl[y]'hyr=x:=⟨_,rfl⟩
        have HRE:zI (rep y=ry):=zH (by
         rw[<-HREP.o];(show rl.getD y 0=ry);rw[zGD,zGE hyr];exact hry)
        rw[hry]at hq;have HQ:=zH hq;have vrsl:=HRV.o.sl;have vrln:slen vrep=rl.length:=HRV.o.len;obtain⟨mx,hmx⟩:∃mx:Mv,(zbf (zyb v 0) (p+1),rep y*s)=mx:=⟨_,rfl⟩;have HMX1:zI (mx.1=zbf (zyb v 0) (p+1)):=zH (by rw[<-hmx]);have HRATE:zI (mx.2=ry*s):=zH (by rw[<-hmx,<-HRE.o])
        have HLAST:zI (pre++(if 0<y+1 then repM (lwF l) rep v p else [])=pre++ [mx]):=zH (by
         rw[zIP h0,HRM2.o,<-hmx,Nat.add_sub_cancel])
        have HOQ:zI (∀z∈pre++ [mx],over D B z.2):=zH (λ z hz=>HMEM.o z (by
         rw[HPL.o,HPR.o,HLAST.o];exact hz))
        have HFR:zI (fits (ry*s)):=zH (by
         rw[<-HRATE.o];exact HA.o.room.fits (HOQ.o mx (by simp)))
        have hlen2:v.length=sn+1:=HVC.o.1
        have HTG:zI (zhb mx.1/\1<=mx.1.length/\mx.1.length<=100):=zH (by
         rw[HMX1.o];exact⟨zqg (B:=9) zD (bump_le (zxg (zhq HVC.o.2.1))),by rw[zwd,zdb,hlen2];omega,by rw[zwd,zdb,hlen2];omega⟩)
        have HDR:zI (v.set 0 y=zyb v 0):=zH (by unfold zyb;rw[HX0.o,Nat.add_sub_cancel]);have cvz:wz.cell? (ptr r 0)=some (.int .i64 ((y:Int)+1)):=cv;have HCVZ:=zH cvz;clear hry hq hmx cv HRM h0;have HLEN2:=zH hlen2;clear hlen2
        go_upto_region 18 with(first
         |(go_at_call 45;(with_reducible refine(zud _ s _ HX.o).mono ?_);rintro e8 w8 ⟨rfl,hb8⟩;have HB8:=zH hb8;have HK8:=zH (HKZ.o.bw hb8);have cv8:=zca hb8 HCVZ.o;clear hb8 d0 d1 d2 d3 cvz)
         |(go_at_call 48;(with_reducible refine(zfi r v 0 y _ _ _ (HR.o.bw HK8.o.bel) zO zO (by rw[HLEN2.o];omega) (by rw[HLEN2.o];omega)).mono ?_);rintro e5 w5 ⟨v5,rfl,ho5,hb5⟩;rw[HDR.o]at ho5;have s5:=ho5.sl;(have l5:slen v5=sn+1:=by rw[ho5.len,zMP,zdb,HLEN2.o]);obtain⟨c5,f5,ho6,hb6⟩:=zok ho5 (i:=p+1) (by rw[zdb,HLEN2.o];omega);have hy8:=zxg (i:=0) (zhq HVC.o.2.1) (p+1);obtain⟨yy,hyy⟩:∃y,(zyb v 0).getD (p+1) 0=y:=⟨_,rfl⟩;rw[hyy]at c5 ho6 hb6 hy8;obtain⟨W6,hW6⟩:∃W6,w5.setCell (ptr v5 (p+1)) (.int .i64 ((yy:Int)+1))=W6:=⟨_,rfl⟩;rw[hW6]at ho6 hb6;have HO6:=zH ho6;have HB9:=zH (zaa HB8.o (hb5.trans hb6));have HK9:=zH (HKZ.o.bw HB9.o);have cv9:=zca HB9.o HCVZ.o;have q09:=zca HK9.o.bel q0;have q19:=zca HK9.o.bel q1;have q29:=zca HK9.o.bel q2;have z09:=zca HB9.o z0;have z19:=zca HB9.o z1;have z29:=zca HB9.o z2;obtain⟨-,-,d1,-,-,-,-,-,-⟩:=HT6.o.bS HK9.o.bel;clear hyy ho5 hb5 ho6 hb6 cv8 z0 z1 z2 q0 q1 q2))
        refine wpL.st8 16 cv9 q09 q19 q29 d1 z09 z19 z29 (λ wd hbD hHeld=> ?_);have HKD:=zH (HK9.o.bw hbD);have HXD:=zH (HX.o.bw (zaa HB9.o hbD));have HQD:=zH (HQ.o.bw HKD.o.bel);have HOD:=zH (HO6.o.bw hbD);clear cv9 q09 q19 q29 d1 z09 z19 z29 hbD;have hyr2:(y:Int)<(rl.length:Nat):=zO;have hy0:(0:Int)<=(y:Int):=zO;have hwy:IntKind.i64.wrap ((y:Nat):Int)=((y:Nat):Int):=zub zO zO;refine zU 0 ?_;refine zU 1 ?_;refine zU 2 ?_;refine zU 3 ?_;refine zU 4 ?_;refine zU 5 ?_;refine zY 6 ?_;refine zU 7 ?_;(try rw[hwy]);refine zU 8 ?_;refine zY 9 ?_;refine zU 10 ?_;refine zY 11 ?_;refine zU 12 ?_;refine zU 13 ?_;refine zY 14 ?_;(refine zCF 15 49 #[.agg #[.bool tq, .slice qa1 qa2 qa3, .slice qb1 qb2 qb3], .agg #[.bool t1, .slice xa1 xa2 xa3, .slice xb1 xb2 xb3]] (ztg _ _ ry s _ HQD.o HXD.o HFR.o) λ t7 a71 l71 k71 a72 l72 k72 w7' hv7 hb7=>⟨kcl8 hb7 hHeld,λ hH7=> ?_⟩);rw[<-HRATE.o]at hv7;have HV7:=zH (hv7.toV (by rw[HRATE.o];exact HFR.o));have HO7:zI (zjb w7' v5 mx.1):=zH (by rw[HMX1.o];exact(HOD.o.bw hb7).natsV);have HK7:=zH (HKD.o.bw hb7);clear hHeld hv7 hb7 HKD HXD HQD HOD;(refine zW 16 ?_;intro K hK);refine zla 46 #[.pointer (some ⟨M.b,0,none⟩), .int .i64 (a:Nat),v5, .agg #[.bool t7, .slice a71 l71 k71, .slice a72 l72 k72]] ?_ ?_ (zxn mx ((a:Nat):Int) v5 (.agg #[.bool t7, .slice a71 l71 k71, .slice a72 l72 k72]) HK7.o HO7.o HTG.o.1 HTG.o.2.1 HTG.o.2.2 HV7.o haM.o rfl HA.o.room HOQ.o HPLEN.o) ?_
        ·rfl
        ·go_simp
        rintro e8 w8' ⟨rfl,hs8⟩;have HS8:=zH hs8;refine⟨_,rfl,?_⟩;refine hK.o _ _ (λ h=>by first | cases h | simp at h) ?_;clear hK K hH7 hs8;refine wpL.done (by kernel_rfl) ?_ _;go_wp2_with fail;go_roundg (sn- (p+1));case measure=>(have:=HG2.o;omega)
        case rel=>
         refine⟨p+1,zO,rfl,by go_num,HNEXT.o _ ?_⟩;rw[HLAST.o];exact HS8.o.1
      ·have e5:decide (0<x0)=false:=zDF h0;have H0:=zH h0;clear h0;go_wp2_with fail;go_roundg (sn- (p+1));case measure=>(have:=HG2.o;omega)
       case rel=>
        refine⟨p+1,zO,rfl,by go_num,HNEXT.o _ ?_⟩;rw[zIN H0.o,List.append_nil];exact HKZ.o
    ·obtain rfl:p=sn:=zO
     have HKM:zI (M.Ok w6 wy (stF M.L st a) (zzc M.L mvf (a+1) (znb M.L []))):=zH (by
      refine HKY.o.congr (λ i _=>rfl) (λ r c _ _=> ?_)
      have e:zko (lwF l) rep v p=mvf v:=by
       rw[<-HMV.o,<-cntP_all (lwF l) rep v];have h2:(lwF l).n=p:=HP.o;rw[h2]
      rw[e];exact HTN.o r c)
     obtain⟨x0,hx0⟩:∃x0,v.getD 0 0=x0:=⟨_,rfl⟩;have cv:=(HR.o.bw HKM.o.bel).getD (j:=0) (by rw[HVC.o.1];omega);rw[hx0]at cv;have HX0:=zH hx0;(have hx8:x0<=8:=by rw[<-hx0];exact zhq HVC.o.2.1 0);clear hx0 HKY;by_cases hxm:x0=ms
     ·have e5:((x0:Int)==(ms:Int))=true:=by simp;omega
      have HSTV:zI (st v=zaf (λ i=>l.start.getD i 0) v.tail 0 0 1):=zH (by
       rw[<-HST.o];unfold cntS;rw[getD0,HX0.o,zIP hxm];rfl)
      have HTL:zI (zjb wy (cut 1 r 1 (p+1)) v.tail):=zH (by
       have h:=(HR.o.bw HKM.o.bel).tail (by rw[HVC.o.1];omega);rw[rln]at h;exact h)
      have HTS:zI (v.tail.length=p/\v.tail.sum<=8):=zH ⟨by rw[List.length_tail,HVC.o.1,Nat.add_sub_cancel],by
       have h:=HVC.o.2.1
       cases v with
       | nil=>simp
       | cons y u=>rw[List.sum_cons]at h;show u.sum<=8;omega⟩
      have hbc:=HKM.o.bld.blk.cells.2.2.1;obtain⟨-,-,d1,-,-,-,-,-,-⟩:=HT6.o.bS HKM.o.bel;clear hxm;go_upto_region 21 with fail;clear cv;refine wpL.st2 12 hbc d1 (λ wd hbD hHeld=> ?_);have HKD:=zH (HKM.o.bw hbD);have HTD:=zH (HTL.o.bw hbD);clear hbc d1 hbD;refine zU 0 ?_;refine zU 1 ?_;refine zU 2 ?_;refine zU 3 ?_;refine zY 4 ?_;refine zU 5 ?_;refine zU 6 ?_;refine zU 8 ?_;refine zY 9 ?_;have hsl1:=slice_one wd r p rsl rln;(refine zW 7 ?_;intro K hK);rw[zIP (by rfl)];go_simp;refine hK.o _ _ (λ _=>hHeld) ?_;clear hK K hsl1;refine zS ?_;(refine zCF 10 69 #[cut 1 r 1 (p+1), .slice sa p sk] (zvn _ _ v.tail l.start _ HTD.o (HSS6.o.bw HKD.o.bel) (by rw[HTS.o.1,HP.o]) (by rw[HTS.o.1];omega) HTS.o.2 (λ q hq=>(HA.o.lp.st q hq).sz)) λ t7 a71 l71 k71 a72 l72 k72 w7' hv7 hb7=>⟨kcl2 hb7 hHeld,λ hH7=> ?_⟩);rw[<-HSTV.o,<-HSA.o.1]at hv7;have HK7:=zH (HKD.o.bw hb7);have HV7:=zH hv7;clear hHeld hv7 hb7 HKD HTD;have hbld:=HK7.o.bld;(have hjR:a<(zch (M.L.length+1) (stF M.L st a)).length:=by rw[zwa];have:=haM.o;omega);have hrow:=hbld.law.s;obtain⟨y0,z0,y1,y2,y3,y4,f0,f1,f2,vssl,n01,n02,n12⟩:=hrow.prep hjR;obtain⟨N,hN⟩:∃N,M.L.length+1=N:=⟨_,rfl⟩;(have vsln:slen M.vs=N:=by rw[hrow.fracs.len,zwa,hN]);have hput:=hbld.putS (i:=a) (s':=stF M.L st (a+1)) (by have:=haM.o;omega) (λ k _ hk=>zeq hk) HV7.o;have HPUT:=zH hput;(have ha9:(a:Int)<(N:Nat):=by have:=haM.o;omega);clear hbld hrow hput hjR hN;(refine zW 11 ?_;intro K hK);rw[zIP (by rfl)];go_simp;refine hK.o _ _ (λ _=>hH7) ?_;clear hK K;refine zS ?_;(refine zW 12 ?_;intro K hK);rw[zIP (by rfl)];go_simp;refine hK.o _ _ (λ h=>by first | cases h | simp at h) ?_;clear hK K hH7 y2 y3 y4 f0 f1 f2 n01 n02 n12;refine wpL.done (by kernel_rfl) ?_ _;go_wp2_with fail;go_roundg (L.length- (a+1));case measure=>(have:=HG.o;omega)
      case rel=>
       exact⟨a+1,zO,rfl,by go_num,HK7.o.vec,HK7.o.le,HK7.o.bel.trans (HPUT.o.2.1.mono HK7.o.le),HPUT.o.1,HK7.o.len⟩
     ·have e5:((x0:Int)==(ms:Int))=false:=by simp;omega
      have HST0:zI (st v=0):=zH (by
       rw[<-HST.o];unfold cntS;rw[getD0,HX0.o,zIN hxm])
      clear hxm;go_wp2_with fail;go_roundg (L.length- (a+1));(case measure=>(have:=HG.o;omega));case rel=>exact⟨a+1,zO,rfl,by go_num,HKM.o.congr (λ i _=>HSA.o.2 HST0.o i) (λ _ _ _ _=>rfl)⟩
  ·obtain rfl:a=L.length:=zO;obtain⟨c,hc⟩:∃c:CQ,cntC (lwF l) (λ i=>rl.getD i 0) (k+m) m ms=c:=⟨_,rfl⟩
   have HCC:zI ((⟨zhi (M.L.length+1) (zzc M.L mvf L.length (znb M.L [])),zch (M.L.length+1) (stF M.L st L.length),zvg (M.L.length+1)⟩:CQ)=c):=zH (by
    rw[<-hc,HREP.o];unfold cntC;rw[HMV.o,HST.o];have e:zue (lwF l).n (k+m) m=L:=HL.o;rw[e];exact cnt_fin HML.o.1)
   have HC7:=zH hc;have hdn:=done_any M.b M.vb M.B M.hi (M.L.length+1) M.vs M.vl M.vr M.rs (stF M.L st L.length) (zzc M.L mvf L.length (znb M.L [])) wx HKX.o.bld;rw[HCC.o]at hdn;have HDN:=zH hdn;have HCX:=zH (HC6.o.bS HKX.o.bel);have HBX:=zH (zaa HB6.o HKX.o.bel);clear hc hdn;have svr:=HKX.o.bld.law.ra.sl;have svs:=HKX.o.bld.law.s.sl;have svl:=HKX.o.bld.lost.sl;obtain⟨r1,r2,r3,hr3,_⟩:=svr;obtain⟨s1,s2,s3,hs3,_⟩:=svs;obtain⟨l1,l2,l3,hl3,_⟩:=svl;have HR3:=zH (zAI hr3 (zAI hs3 hl3));rw[hr3,hs3,hl3]at HDN;clear hr3 hs3 hl3;have HLL:=zH hLL;by_cases hv:zic c.raw
   ·have HVV:=zH hv;clear hv
    go_wp2_with (first
     |(go_at_call 50;(with_reducible refine HDN.o.mono ?_);rintro e8 w8 ⟨v8,er8,rfl,hb8,h81,_⟩;obtain⟨rfl,rfl⟩:=h81 HVV.o;have HCY:=zH (HCX.o.bS hb8);have HKY:=zH (HKX.o.bw hb8);have HBY:=zH (zaa HBX.o hb8);obtain⟨-,g0,g1,g2,u0,u1,u2⟩:=HCY.o;clear hb8 h81))
    refine zka rfl rfl Tryz.aggCh Tryz.sizeCh (HCY.o.set _ _ _) rfl ?_;rw[HC7.o];have hch:=(HKY.o.bld.over3 HCY.o (by rw[HML.o.2.2.1];have:=HC6.o.lt;omega) zZ zZ zZ (.slice r1 r2 r3) (.slice s1 s2 s3) (.slice l1 l2 l3)).chain;rw[HCC.o,HR3.o.1,HR3.o.2.1,HR3.o.2.2]at hch;exact⟨λ _=>⟨_,_,rfl,zea HBY.o (zLS _) _ _ _,λ _=>⟨rfl,hch⟩,λ h=>absurd HVV.o h⟩,λ h=>absurd HLL.o zO⟩
   ·have HVV:=zH hv;clear hv
    go_wp2_with (first
     |(go_at_call 50;(with_reducible refine HDN.o.mono ?_);rintro e8 w8 ⟨v8,er8,rfl,hb8,_,h81⟩;obtain⟨rfl,rfl⟩:=h81 HVV.o;have HCY:=zH (HCX.o.bS hb8);have HBY:=zH (zaa HBX.o hb8);obtain⟨-,g0,g1,g2,u0,u1,u2⟩:=HCY.o;clear hb8 h81))
    refine zka rfl rfl Tryz.aggCh Tryz.sizeCh (HCY.o.set _ _ _) rfl ?_;rw[HC7.o];exact⟨λ _=>⟨_,_,rfl,zea HBY.o (zLS _) _ _ _,λ h=>absurd h HVV.o,λ _=>⟨rfl,rfl⟩⟩,λ h=>absurd HLL.o zO⟩
end Go.Proofs.YtkpedaflofejnaaGreat
