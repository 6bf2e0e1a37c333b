/- Lemmas. -/
import Derived.Test.YtlpdkbmmbdfoiaaGreatPRe4
import Derived.Test.YtlpdkbmmbdfoiaaGreatPSvw
set_option linter.unusedVariables false
set_option linter.unusedSimpArgs false
namespace Go.Proofs.YtlpdkbmmbdfoiaaGreat
open Go.RowKit
theorem rsolve_x (va vb:Value) (n:Nat) (A:Mx) (b x:Nat->Rat) (w:World) (ha:zij w va n n A) (hb:zwa w vb (zxa n b)) (h:zim n A b x) (hn:n<=20) (hs:zrm n (n+1) (zra n A (λ i _=>b i))):
 Calls Tryz.prog 182 #[va,vb] w λ e w'=>∃v,e= .returned (.tuple #[v, .int .i64 0])/\zwa w' v (zxa n x)/\Below w.heap.size w w':=by
 have hr:=zcf (B:=λ i _=>b i) h.reg;refine(rsolve_reg va vb n A b w ha hb h.n1 hn h.fA h.fb (by rw[rawV_qs];exact h.w) hr hs).mono ?_;rintro e w' ⟨v,er,rfl,hb9,_,hn9⟩;obtain⟨rfl,hx9⟩:=hn9 (by rw[hr];exact zIR _);refine⟨v,rfl,?_,hb9⟩;rw[<-zlb (f:=solE n A b) (g:=x) λ i hi=>(zwg h.reg (sol_eq hr) hi).trans (zwg h.reg h.eq hi).symm];exact hx9
theorem rdot_can (vu vv:Value) (n:Nat) (x y:Nat->Rat) (w:World) (hu:zwa w vu (zxa n x)) (hv:zwa w vv (zxa n y)) (hn:n<=1000) (hfx:∀k,k<n->fits (x k)) (hfy:∀k,k<n->fits (y k))
 (hp:∀k,k<n->fits (x k*y k)) (hs:∀k,k<=n->fits (sg k λ j=>x j*y j)):Calls Tryz.prog 176 #[vu,vv] w (RF1 w (sg n λ j=>x j*y j)):=by
 have e:∀f:Nat->Rat,(zxa n f).map RF.of=rowF n λ k=>RF.of (f k):=λ f=>by unfold zxa rowF;rw[List.map_map];rfl
 have h:=rdot_raw vu vv n (λ k=>RF.of (x k)) (λ k=>RF.of (y k)) w (by rw[<-e];exact hu.raw) (by rw[<-e];exact hv.raw) hn (λ k hk=>RF.of_ok (hfx k hk)) (λ k hk=>RF.of_ok (hfy k hk)) (λ k hk=>by simp only[RF.of_q];exact hp k hk) (λ k hk=>by simp only[RF.of_q];exact hs k hk);simp only[RF.of_q]at h;exact h
def RMom (l:LQ) (n:Nat):Prop:=∀m,m<n->zrm l.start.length (l.start.length+1) (zra l.start.length (phA l) λ i _=>zhf l m i)
set_option maxRecDepth 100000 in
set_option maxHeartbeats 6400000 in
theorem zao (va:Value) (l:LQ) (n:Nat) (w:World) (ha:zgd w va l) (hl:znb l) (h1:1<=n) (h3:n<=3) (hp:MomP l n (zag n)) (hrm:RMom l n):Calls Tryz.prog 124 #[va, .int .i64 (n:Nat)] w (RF0 w (momQ l n)):=by
 obtain⟨i3,hi3,hz3,hs3,hy3⟩:=info_parts Tryz.infoF;have hA1:=zgh (P:=Tryz.prog) 25 38 i3 Tryz.underlying25 hi3 hz3 hs3 hy3;obtain⟨i4,hi4,hz4,hs4,hy4⟩:=info_parts Tryz.infoRow;have hAR:=zwh (P:=Tryz.prog) 24 25 i4 _ 24 Tryz.underlying24 hi4 hz4 hs4 hy4 zD rfl zZ;clear hi3 hz3 hs3 hy3 hi4 hz4 hs4 hy4;obtain⟨sv,rv,ev,rfl,hs,hr,he⟩:=id ha;obtain⟨ra,rn,rk,rfl,_⟩:=id hr.sl;obtain⟨sa,sn,sk,rfl,_⟩:=id hs.sl;obtain⟨ea,en,ek,rfl,_⟩:=id he.sl;have hba:=zca w (.cells #[.string { data:=#[] }, .slice sa sn sk, .slice ra rn rk, .slice ea en ek] 52);have hbb:=zca (w.alloc (.cells #[.string { data:=#[] }, .slice sa sn sk, .slice ra rn rk, .slice ea en ek] 52)) (.cells #[.bool false, .slice none 0 0, .slice none 0 0] 38);have HC:=zH ((C4.new w 52 (.string { data:=#[] }) (.slice sa sn sk) (.slice ra rn rk) (.slice ea en ek)).bS hbb);have HT:=zH (C3.newB (b:=w.heap.size+1) (w.alloc (.cells #[.string { data:=#[] }, .slice sa sn sk, .slice ra rn rk, .slice ea en ek] 52)) 38 (.bool false) (.slice none 0 0) (.slice none 0 0) (by show(w.heap.push _).size=_;rw[Array.size_push]));have HBW:=zH (zaa hba hbb);have HA:=zH (ha.bw HBW.o);have HR:=zH (hr.bw HBW.o);have HS:=zH (hs.bw HBW.o);have hsn:sn=l.start.length:=hs.len;have hrn:rn=l.start.length:=hr.len.trans hl.rl;have hen:en=l.start.length:=he.len.trans hl.el;obtain⟨N,hnn⟩:∃n,l.start.length=n:=⟨_,rfl⟩;have HN:=zH hnn;rw[hnn]at hsn hrn hen;have n4:N<=4:=by rw[<-hnn];exact hl.n4
 have n1:1<=N:=by rw[<-hnn];exact hl.n1
 obtain rfl:sn=N:=hsn;obtain rfl:rn=sn:=hrn;obtain rfl:en=rn:=hen;have HL:=zH hl;have HP:=zH hp;have HRM:=zH hrm;have srt:=hr.sl;have sxt:=hs.sl;have h13:decide ((n:Int)<1)=false:=zDF zO;have h33:decide ((3:Int)<(n:Int))=false:=zDF zO;have HH3:=zH h3;clear hs hr he ha hl hp hrm hba hbb hnn;go_enter Tryz.func124,Tryz.ntmps124;go_upto_region 1 with fail;generalize (w.alloc (.cells #[.string { data:=#[] }, .slice sa en sk, .slice ra en rk, .slice ea en ek] 52)).alloc (.cells #[.bool false, .slice none 0 0, .slice none 0 0] 38)=W2 at *
 obtain⟨_,c0,c1,c2,c3,_⟩:=HC.o
 go_upto_region 5 with(first
  |(go_at_call 180;(with_reducible refine(zxb _ l _ HA.o.lawC HL.o).mono ?_);rintro e3 w3 ⟨rfl,hb3⟩;have HB3:=zH hb3;clear c0 c1 c2 c3 hb3))
 have HC3:=zH (HC.o.bS HB3.o);have HT3:=zH (HT.o.bS HB3.o);have HA3:=zH (HA.o.bw HB3.o);have HR3:=zH (HR.o.bw HB3.o);have HS3:=zH (HS.o.bw HB3.o);have HBW3:=zH (zaa HBW.o HB3.o);clear HC HT HA HR HS HBW HB3;go_wp2_with fail;go_loopg [6,7,8] (en) (λ g u6 u7 u8 wr=>∃ (i:Nat) (rs:List Value),i<=en/\g=en-i/\u8= .int .i64 i/\SvW wr w3.heap.size en (phA l) (zhf l 0) i u6 u7 rs/\Below w3.heap.size w3 wr);case atStart=>exact⟨0,[],zZL _,rfl,rfl,⟨⟨zkc.nil _ _ _ _,λ j h=>by simp at h,zLR _⟩,rfl,zua.nil _ _ _,λ j h=>by simp at h⟩,zBR _ _⟩
 case round=>
  obtain⟨i,rs,hin,hg,rfl,hsv,hbr⟩:=hrel;obtain⟨W9,hw9⟩:∃w6,w6=wr:=⟨_,rfl⟩;subst hw9;have HG:=zH hg;have HSV:=zH hsv;have HBR:=zH hbr;have sv8:=hsv.rows.ra.sl;have sv9:=hsv.rhs.sl;clear hg hsv hbr;obtain⟨_,c0,c1,c2,c3,_⟩:=HC3.o.bS HBR.o;by_cases hil:i<en
  ·(have hiL:i<l.start.length:=by rw[HN.o];exact hil);have hir:=HL.o.rlen hiL;obtain⟨rw1,hrv,hrow⟩:=HR3.o.at' i hir;rw[<-HL.o.rget hiL]at hrow;obtain⟨ua,un,uk,rfl,_⟩:=id hrow.sl;have srow:=hrow.sl;(obtain rfl:en=un:=by have h:=hrow.len;rw[HL.o.rowlen hiL,HN.o]at h;exact h.symm);have HROW:=zH hrow;have HRV:=zH hrv;have HIL:=zH hiL;have i1:(0:Int)<=(i:Int):=zO;have i2:(i:Int)<(en:Nat):=zO;clear hrow hrv;go_wp2_with fail;clear c0 c1 c2 c3;go_loopg [9,10] (en) (λ g u9 u10 wi=>∃ (j:Nat),j<=en/\g=en-j/\u10= .int .i64 j/\zua wi 38 W9.heap.size u9 (zxa j (phA l i))/\Below W9.heap.size W9 wi);case atStart=>exact⟨0,zZL _,rfl,rfl,zua.nil _ _ _,zBR _ _⟩
   case round=>
    obtain⟨j,hjn,hg,rfl,hfr,hbi⟩:=hrel;obtain⟨W11,hw9⟩:∃w6,w6=wr:=⟨_,rfl⟩;subst hw9;have HGJ:=zH hg;have HFR:=zH hfr;have HBI:=zH hbi;have HB6:=zH (zaa HBR.o hbi);have s10:=hfr.sl;obtain⟨_,c0,c1,c2,c3,_⟩:=HC3.o.bS HB6.o;have hri:=zba HB6.o HRV.o;clear hg hfr hbi;by_cases hjl:j<en
    ·(have hrl:(zxa j (phA l i)).length<=1000:=by rw[zda];omega);have j1:(0:Int)<=(j:Int):=zO;have j2:(j:Int)<(en:Nat):=zO;by_cases e:i=j
     ·(have hd:((i:Int)==(j:Int))=true:=by simp;omega);have HSY:zI (phA l i j=zff l i):=zH (by unfold phA;rw[zIP e]);clear e
      go_wp2_with (first
       |(go_at_call 181;(with_reducible refine(zuq _ l i _ (HA3.o.bw HB6.o).lawC HL.o HIL.o).mono ?_);rintro e13 w13 ⟨v13,rfl,hv13,hb13⟩;obtain⟨t13,x13,y13,rfl,⟨a131,l131,k131,rfl,q131⟩,⟨a132,l132,k132,rfl,q132⟩⟩:=hv13.isF;have hfr5:=frb HFR.o hb13;have hsz5:=zLT HBI.o.size hb13.size)
       |(at_builtin;refine hA1 w13 rfl _ _ rfl W9.heap.size _ u9 (zxa j (phA l i)) rfl hfr5 _ _ _ (zff l i) hv13 rfl hrl hsz5 ?_;intro v4' w50 ho50 hg50 hn50 hq50 sv50;have hg5:Below W9.heap.size w13 w50:=zja hg50 hsz5 (λ k hk=>(hfr5.block k hk).1);have HO50:=zH ho50))
      go_roundg (en- (j+1));(case measure=>(have:=HGJ.o;omega));case rel=>exact⟨j+1,zO,rfl,by go_num,by rw[<-zkd,HSY.o];exact HO50.o,(zea HBI.o hb13 HBI.o.size).trans hg5⟩
     ·(have hd:((i:Int)==(j:Int))=false:=by simp;omega);have HSY:zI (phA l i j= -(rtQ l i j)):=zH (by unfold phA;rw[zIN e,neg_zs]);clear e;obtain⟨ts,as1,ls1,ks1,as2,ls2,ks2,g1,g2,g3,hfs⟩:=(HROW.o.bw HB6.o).cellsAt (k:=j) (by rw[HL.o.rowlen HIL.o,HN.o];exact hjl);have HFS:zI (zia W11 (.agg #[.bool ts, .slice as1 ls1 ks1, .slice as2 ls2 ks2]) (rtQ l i j)):=zH hfs;have HLX:zI (fits (rtQ l i j)):=zH (HL.o.rt_lim HIL.o (by rw[HN.o];exact hjl)).fits;obtain⟨q,hq⟩:∃q,rtQ l i j=q:=⟨_,rfl⟩;rw[hq]at HFS HLX HSY;clear hfs hq
      go_wp2_with (first
       |(go_at_call 92;(with_reducible refine(zcd _ q _ HFS.o HLX.o).mono ?_);rintro e12 w12 ⟨v12,rfl,hv12,hb12⟩;obtain⟨t12,x12,y12,rfl,⟨a121,l121,k121,rfl,q121⟩,⟨a122,l122,k122,rfl,q122⟩⟩:=hv12.isF)
       |(go_at_call 105;(with_reducible refine(zzg _ q _ hv12).mono ?_);rintro e13 w13 ⟨v13,rfl,hv13,hb13'⟩;obtain⟨t13,x13,y13,rfl,⟨a131,l131,k131,rfl,q131⟩,⟨a132,l132,k132,rfl,q132⟩⟩:=hv13.isF;have hb13:=zaa hb12 hb13';have hfr5:=frb HFR.o hb13;have hsz5:=zLT HBI.o.size hb13.size)
       |(at_builtin;refine hA1 w13 rfl _ _ rfl W9.heap.size _ u9 (zxa j (phA l i)) rfl hfr5 _ _ _ (-q) hv13 rfl hrl hsz5 ?_;intro v4' w50 ho50 hg50 hn50 hq50 sv50;have hg5:Below W9.heap.size w13 w50:=zja hg50 hsz5 (λ k hk=>(hfr5.block k hk).1);have HO50:=zH ho50))
      go_roundg (en- (j+1));(case measure=>(have:=HGJ.o;omega));case rel=>exact⟨j+1,zO,rfl,by go_num,by rw[<-zkd,HSY.o];exact HO50.o,(zea HBI.o hb13 HBI.o.size).trans hg5⟩
    ·obtain rfl:j=en:=zO;have HSW:=zH (HSV.o.bw HBI.o)
     have HNE:zI (∀g,u9.ownBlock=some g->u7.ownBlock≠some g):=zH (λ g h1 h2=>by
      have k1:=(HFR.o.block g h1).1;have k2:=(HSV.o.rhs.block g h2).2;omega)
     have HFU:zI (zua W11 38 w3.heap.size u9 (zxa j (phA l i))):=zH (HFR.o.mono HBR.o.size);obtain⟨r1,r2,r3,rfl,_⟩:=id s10;(have hrsl:rs.length<=1000:=by have:=HSV.o.rl;omega);(have hbql:(zxa i (zhf l 0)).length<=1000:=by rw[zda];omega);have hsr:=HSW.o.rows.ra;have hsz1:=HSW.o.rows.sz;clear HSV HFR HBI HGJ hri c0 c2 c3
     go_wp2_with (first
      |(at_builtin;refine hAR W11 rfl _ _ rfl w3.heap.size _ u6 rs rfl hsr (.slice r1 r2 r3) rfl zZ rfl hrsl hsz1 ?_;intro v20 w20 ho20 hg20 hn20 hq20 sl20;have hS20:=HSW.o.push1 HFU.o HNE.o ho20 hg20;have HS20:=zH hS20.1;have HB20:=zH (HB6.o.trans (hS20.2.mono (zLR _)));clear hS20 ho20 hg20 hn20 hq20)
      |(go_at_call 20;(with_reducible refine(zbh _).mono ?_);rintro e13 w13 ⟨v13,rfl,hv13,hb13⟩;obtain⟨t13,x13,y13,rfl,⟨a131,l131,k131,rfl,q131⟩,⟨a132,l132,k132,rfl,q132⟩⟩:=hv13.isF;have hS13:=HS20.o.bw hb13;have hr13:=hS13.rhs;have hz13:=hS13.rows.sz;have HS13:=zH hS13;have HB13:=zH (zaa HB20.o hb13);clear hS13 hb13)
      |(at_builtin;refine hA1 w13 rfl _ _ rfl w3.heap.size _ u7 (zxa i (zhf l 0)) rfl hr13 _ _ _ 1 hv13 rfl hbql hz13 ?_;intro v21 w21 ho21 hg21 hn21 hq21 sl21;have hS21:=HS13.o.push2 (by rw[<-zkd];exact ho21) hg21 hn21 (hq21.imp id λ e=>⟨_,zLS _,e⟩);have HS21:=zH hS21.1;have HB21:=zH (HB13.o.trans hS21.2);clear hS21 ho21 hg21 hn21 hq21))
     go_roundg (j- (i+1));(case measure=>(have:=HG.o;omega));case rel=>exact⟨i+1,_,zO,rfl,by go_num,HS21.o,HB21.o⟩
  ·obtain rfl:i=en:=zO;have HMT:zI (zij W9 u6 i i (phA l)):=zH (by have h:=HSV.o.rows.mat;rwa[HSV.o.rl]at h);have HX0:zI (zwa W9 u7 (zxa i (zhf l 0))):=zH HSV.o.rhs.fracs;obtain⟨x1,x2,x3,rfl,_⟩:=id sv9;(obtain rfl:x2=i:=by have h:=HX0.o.len;rw[zda]at h;exact h);have HCB:=zH (HC3.o.bS HBR.o);have HSB:=zH (HS3.o.bw HBR.o);have HTB:=zH (HT3.o.bS HBR.o);have HWB:=zH (zaa HBW3.o HBR.o);clear HSV HBR HC3 HS3 HT3 HBW3 HA3 HR3 srt HG;go_wp2_with fail;clear c0 c1 c2 c3;go_loopg [7,11,12] (n+1) (λ g u7 u11 u12 wr=>∃ (i:Nat) (ax:Option Addr) (kx:Nat),1<=i/\i<=n+1/\g=n+2-i/\u7= .slice ax x2 kx/\u11= .int .i64 (zag (i-1):Nat)/\u12= .int .i64 (i:Nat)/\zwa wr (.slice ax x2 kx) (zxa x2 (zhf l (i-1)))/\Below W9.heap.size W9 wr);case atStart=>exact⟨1,_,_,zLR _,zO,rfl,rfl,rfl,rfl,HX0.o,zBR _ _⟩
   case round=>
    obtain⟨i,ax,kx,hi1,hin1,hg,rfl,rfl,rfl,hx,hbr⟩:=hrel;obtain⟨w7,hw7⟩:∃wb,wb=wr:=⟨_,rfl⟩;subst hw7;have HG:=zH hg;have HX:=zH hx;have HBR:=zH hbr;have slx:=hx.sl;clear hg hx hbr HX0;by_cases hil:i<=n
    ·have i1:((i:Nat):Int)<=(n:Nat):=zO;have i2:decide (((i:Nat):Int)<=(n:Nat))=true:=zDT i1
     have HSYS:zI (zim x2 (phA l) (zhf l (i-1)) (zhf l i)):=zH (by
      have h:=HP.o.sys (i-1) zO;rw[HN.o,show i-1+1=i by omega]at h;exact h)
     have HSLU:zI (zrm x2 (x2+1) (zra x2 (phA l) λ i' _=>zhf l (i-1) i')):=zH (by
      have h:=HRM.o (i-1) zO;rw[HN.o]at h;exact h)
     have HFW:zI (wrap64 ((zag (i-1):Nat)*((i:Nat):Int))=(zag i:Nat)):=zH (by
      have h:=fact_wrap (i-1) (by have:=HH3.o;omega);rwa[show i-1+1=i by omega]at h)
     have HMT7:=zH (HMT.o.bw HBR.o)
     go_wp2_with (first
      |(go_at_call 182;(with_reducible refine(rsolve_x _ _ x2 (phA l) (zhf l (i-1)) (zhf l i) _ HMT7.o HX.o HSYS.o zO HSLU.o).mono ?_);rintro e9 w9 ⟨v9,rfl,hv9,hb9⟩;obtain⟨p1,p2,p3,rfl,_⟩:=id hv9.sl;(have hp2:p2=x2:=by have h:=hv9.len;rw[zda]at h;exact h);subst hp2;have HX9:=zH hv9;have HB9:=zH (zaa HBR.o hb9);clear hv9 hb9))
     go_roundg (n+2- (i+1));(case measure=>(have:=HG.o;omega));case rel=>exact⟨i+1,_,_,zO,zO,rfl,rfl,congrArg (Value.int .i64) HFW.o,by go_num,HX9.o,HB9.o⟩
    ·obtain rfl:i=n+1:=zO;have i1:¬ (((n+1:Nat):Int)<=(n:Nat)):=zO;have i2:decide (((n+1:Nat):Int)<=(n:Nat))=false:=zDF i1;have hnn:n+1-1=n:=rfl;(rw[hnn]at HX |-);have HSCA:zI (ScaP l.start (zxa x2 (zhf l n)) (zag n)):=zH (by have h:=HP.o.sca;rwa[HN.o]at h);have HST:zI (zxa x2 (stQ l)=l.start):=zH (by have h:=rowL_of l.start;rw[HN.o]at h;exact h)
     have HDQ:zI (∀k,k<=x2->zhp l.start (zxa x2 (zhf l n)) k=sg k λ j=>stQ l j*zhf l n j):=zH (λ k hk=>by
      unfold zhp;rw[Rat.zero_add]
      exact zqa λ t ht=>by
       rw[zGD (l:=zxa x2 (zhf l n)),zGE (by rw[zda];omega),zqb];rfl)
     have HDOT:zI (∀w0 va vb,zwa w0 va l.start->zwa w0 vb (zxa x2 (zhf l n))->Calls Tryz.prog 176 #[va,vb] w0 (RF1 w0 (sg x2 λ j=>stQ l j*zhf l n j))):=zH (λ w0 va vb k1 k2=>by
      have hlen:l.start.length=x2:=HN.o;have hfa:=λ k (hk:k<x2)=>HSCA.o.fa k (by rw[hlen];exact hk)
      have hg:∀k,k<x2->(zxa x2 (zhf l n)).getD k 0=zhf l n k:=λ k hk=>by
       rw[zGD,zGE (by rw[zda];exact hk),zqb];rfl
      exact rdot_can va vb x2 (stQ l) (zhf l n) w0 (by rw[HST.o];exact k1) k2 zO (λ k hk=>(hfa k hk).1) (λ k hk=>by have h:=(hfa k hk).2.1;rwa[hg k hk]at h) (λ k hk=>by have h:=(hfa k hk).2.2;rwa[hg k hk]at h) (λ k hk=>by rw[<-HDQ.o k hk];exact HSCA.o.fs k (by rw[hlen];exact hk)))
     have HFF:zI (fits (fq false (zag n) 1)/\fits (sg x2 λ j=>stQ l j*zhf l n j)/\fits (fq false (zag n) 1*sg x2 λ j=>stQ l j*zhf l n j)):=zH ⟨zyl ⟨zag n,HSCA.o.f100⟩,by
      have h:=HSCA.o.fs x2 (by rw[HN.o];exact zLR _);rwa[HDQ.o x2 (zLR _)]at h,by
      have h:=HSCA.o.fr;rw[HN.o,HDQ.o x2 (zLR _),Rat.mul_comm]at h;exact h⟩
     have HEQ:zI (momQ l n=fq false (zag n) 1*sg x2 λ j=>stQ l j*zhf l n j):=zH (by
      unfold momQ;rw[HN.o,HDQ.o x2 (zLR _),Rat.mul_comm])
     have hf100:=HSCA.o.f100;obtain⟨_,c0,c1,c2,c3,_⟩:=HCB.o.bS HBR.o;obtain⟨F,hF⟩:∃F,zag n=F:=⟨_,rfl⟩;obtain⟨D,hD⟩:∃D,(sg x2 λ j=>stQ l j*zhf l n j)=D:=⟨_,rfl⟩;rw[hF,hD]at HFF HEQ;rw[hD]at HDOT;(rw[hF]at hf100 |-);clear hF hD c0 c2 c3 HDQ HST HSCA;go_wp2_with fail
     go_region_with (first
      |(go_at_call 20;(with_reducible refine(r2int_nat F _ zO).mono ?_);rintro e50 w50 ⟨v50,rfl,hv50,hb50'⟩;have hb50:=zaa (zfa w7) hb50';obtain⟨t50,a501,l501,k501,a502,l502,k502,rfl⟩:=hv50.iF;have c51:=zba hb50 c1)
      |(go_at_call 176;(with_reducible refine(HDOT.o _ _ _ (HSB.o.bw (zaa HBR.o hb50)) (HX.o.bw hb50)).mono ?_);rintro e51 w51 ⟨v51,rfl,hv51,hb51⟩;obtain⟨t51,a511,l511,k511,a512,l512,k512,rfl⟩:=hv51.iF)
      |(go_at_call 38;(with_reducible refine(zmk _ _ (fq false F 1) D _ (hv50.bw hb51) hv51 HFF.o.1 HFF.o.2.1 HFF.o.2.2).mono ?_);rintro e52 w52 ⟨v52,rfl,hv52,hb52⟩;obtain⟨t52,a521,l521,k521,a522,l522,k522,rfl⟩:=hv52.iF;have hB52:=zaa (zaa hb50 hb51) hb52;have HT9:=zH ((HTB.o.bS HBR.o).bS hB52);have HB9:=zH (zaa (zaa HWB.o HBR.o) hB52);have HV9:=zH hv52;obtain⟨_,d0,d1,d2,f0,f1,f2⟩:=HT9.o))
     all_goals
      go_wp2_with fail;refine zla rfl rfl Tryz.aggF Tryz.sizeF (HT9.o.set _ _ _) rfl ?_;refine⟨_,rfl,?_,zga HB9.o (zLS _) _ _ _⟩;rw[HEQ.o];exact HV9.o.set3 HT9.o zZ zZ _ _ _
end Go.Proofs.YtlpdkbmmbdfoiaaGreat
