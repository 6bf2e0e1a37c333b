/- Lemmas. -/
import Derived.Test.YtkpedaflofejnaaGreatMRa7
set_option linter.unusedVariables false
set_option linter.unusedSimpArgs false
namespace Go.Proofs.YtkpedaflofejnaaGreat
set_option maxHeartbeats 800000
open Go.RowKit
theorem zhm (va vb:Value) (m n:Nat) (w:World) (ha:zwb w va m) (hb:zwb w vb n) (h:n≠0) (hm:zda m<=512) (hn:zda n<=512):
 Calls Tryz.prog 123 #[va,vb] w (RDiv2 w m n):=by
 have HM:=zH hm;have HN:=zH hn;have H0:=zH h;have hnz:zda n≠0:=λ h'=>h (zqa.1 h')
 have hnz2:(((zda n:Nat):Int)==0)=false:=by simpa using hnz
 clear hm hn hnz h;have tok1:True:=trivial;go_enter Tryz.func123,Tryz.ntmps123
 go_wp2_with (first
  |(go_at_call 132;first
    |((with_reducible refine(zjd va m _ ha HM.o).mono ?_);rintro e wa ⟨rfl,hba⟩)
    |((with_reducible refine(zjd vb n _ (hb.bw hba) HN.o).mono ?_);rintro e wb ⟨rfl,hbb⟩;have hbw:=zaa hba hbb))
  |(go_at_call 89;have _t:=tok1;(with_reducible refine(zoa vb n _ (hb.bw hbw)).mono ?_);rintro e wc ⟨r0,rfl,hr0,hb0⟩;clear tok1 _t;have sl0:=hr0.v.sl;have ln0:slen r0=zda n:=hr0.v.len;have hbw0:=zaa hbw hb0)
  |(go_at_call 89;first
     |((with_reducible refine(zoa va m _ (ha.bw hbw0)).mono ?_);rintro e w1 ⟨ra,rfl,hra,hb1⟩;have hbw1:=zaa hbw0 hb1)
     |((with_reducible refine(zoa vb n _ (hb.bw hbw1)).mono ?_);rintro e w2 ⟨rb,rfl,hrb,hb2⟩;have hbw2:=zaa hbw1 hb2;have hra2:=hra.bw hb2))
  |(go_at_call 145;(with_reducible refine(zkn ra rb m n _ hra2 hrb H0.o HM.o).mono ?_);rintro e w3 ⟨q,r,rfl,hq,hr,hb3⟩;have hbw3:=zaa hbw2 hb3))
 go_ret3;exact⟨q,r,rfl,hq,hr,hbw3⟩
theorem zmq (va vb:Value) (m n:Nat) (w:World) (ha:zwb w va m) (hb:zwb w vb n) (hm:zda m<=512) (hn:zda n<=512):
 Calls Tryz.prog 122 #[va,vb] w (RNat0 w (Nat.gcd m n)):=by
 have HM:=zH hm;have HN:=zH hn;clear hm hn;go_enter Tryz.func122,Tryz.ntmps122
 go_wp2_with (first
  |(go_at_call 132;first
    |((with_reducible refine(zjd va m _ ha HM.o).mono ?_);rintro e wa ⟨rfl,hba⟩)
    |((with_reducible refine(zjd vb n _ (hb.bw hba) HN.o).mono ?_);rintro e wb ⟨rfl,hbb⟩;have hbw0:=zaa hba hbb))
  |(go_at_call 89;first
     |((with_reducible refine(zoa va m _ (ha.bw hbw0)).mono ?_);rintro e w1 ⟨ra,rfl,hra,hb1⟩;have hbw1:=zaa hbw0 hb1)
     |((with_reducible refine(zoa vb n _ (hb.bw hbw1)).mono ?_);rintro e w2 ⟨rb,rfl,hrb,hb2⟩;have hbw:=zaa hbw1 hb2;have hra2:=hra.bw hb2)))
 go_loopw [6,7] (λ u0 u1 wr=>∃ (x y:Nat),zpb wr u0 x/\zpb wr u1 y/\zda x<=512/\zda y<=512/\Nat.gcd x y=Nat.gcd m n/\Below w.heap.size w wr) (λ _ u1 wr=>natOf wr u1);case atStart=>exact⟨m,n,hra2,hrb,HM.o,HN.o,rfl,hbw⟩
 case round=>
  obtain⟨x,y,hx,hy,hx5,hy5,hg,hbr⟩:=hrel;clear ha hb hra hrb hra2 hb1 hb2 hbw hbw0 hbw1 hba hbb;obtain⟨sx,lx⟩:zlb u6/\slen u6=zda x:=⟨hx.v.sl,hx.v.len⟩;obtain⟨sy,ly⟩:zlb u7/\slen u7=zda y:=⟨hy.v.sl,hy.v.len⟩;have HX:=zH hx5;have HY:=zH hy5;have HG:=zH hg;have hxb:zda x<=4294967296:=zO;have hyb:zda y<=4294967296:=zO;clear hx5 hy5 hg;by_cases hy0:y=0
  ·have hyz:zda y=0:=zqa.2 hy0;(have hfin:x=Nat.gcd m n:=by rw[<-HG.o,hy0,Nat.gcd_zero_right]);have HF:=zH hfin;clear hfin hy0;go_wp2;go_ret2;exact⟨_,rfl,HF.o▸hx,hbr⟩
  ·(have hyz:0<zda y:=by have :zda y≠0:=λ h'=>hy0 (zqa.1 h');omega);have HY0:=zH hy0;clear hy0;go_wp2_with (go_at_call 145;(with_reducible refine(zkn _ _ x y _ hx hy HY0.o HX.o).mono ?_);rintro e w3 ⟨q,r,rfl,hq,hr,hbl⟩);have hy3:=hy.bw hbl;have hbr3:=hbr.trans (hbl.mono hbr.size);go_wp2;go_roundw;(case rel=>exact⟨y,x%y,hy3,hr,HY.o,zLT (zfb (zLO (zML2 _ (zPZ HY0.o)))) HY.o,by rw[<-HG.o,Nat.gcd_comm y,<-Nat.gcd_rec,Nat.gcd_comm],hbr3⟩);case measure=>rw[zkm hr,zkm hy];exact zML2 _ (zPZ HY0.o)
set_option maxHeartbeats 3200000
theorem zlk :zja 1= [1]:=by rw[zge zD];simp[zgc]
theorem fq_zero (s:Bool) (d:Nat) (hd:d≠0):fq s 0 d=0:=by
 unfold fq;rw[sgn_zero];simp
set_option maxRecDepth 100000 in
theorem zpq (s:Bool) (va vb:Value) (d:Nat) (w:World) (ha:zwb w va 0) (hb:zwb w vb d) (hd:d≠0):
 Calls Tryz.prog 80 #[.bool s,va,vb] w (RF1 w (fq s 0 d)):=by
 rw[fq_zero s d hd];obtain⟨n,hn⟩:∃n,n=0:=⟨0,rfl⟩;rw[<-hn]at ha;have hz:zda n=0:=zqa.2 hn;have HN:=zH hn;clear hn;go_enter Tryz.func80,Tryz.ntmps80
 go_wp2_with (first
  |(go_at_call 89;first
   |((with_reducible refine(zoa va n _ (ha.bw (zba _ _))).mono ?_);rintro e w1 ⟨x1,rfl,hx1,hb1⟩;have s1:=hx1.v.sl;have l1:slen x1=zda n:=hx1.v.len)
   |((with_reducible refine(zoa vb d _ ((hb.bw (zba _ _)).bw hb1)).mono ?_);rintro e w2 ⟨x2,rfl,hx2,hb2⟩
     have hC2:=(((C3.new w 53 (.bool false) (.slice none 0 0) (.slice none 0 0)).bS hb1).bS hb2).allocS (.cells #[.int .u32 1] 134);have hbw2:=zaa (zaa (zaa (zba w (.cells #[.bool false, .slice none 0 0, .slice none 0 0] 53)) hb1) hb2) (zba w2 (.cells #[.int .u32 1] 134));have HC2:=zH hC2;obtain⟨_,c0,c1,c2,f0,f1,f2⟩:=hC2)))
 have hF:zna (w2.alloc (.cells #[.int .u32 1] 134)) (.agg #[.bool false, .slice none 0 0, .slice (some ⟨w2.heap.size,0,none⟩) 1 1]) 0:=by
  refine⟨_,_,rfl,zpb.nil _,?_⟩
  have h1:ztc (w2.alloc (.cells #[.int .u32 1] 134)) (.slice (some ⟨w2.heap.size,0,none⟩) 1 1) [1]:=by
   refine⟨⟨_,1,1,rfl,zLR _,by simp[maxLen],λ e=>by cases e⟩,rfl,λ j hj=> ?_,λ x hx=>by simp at hx;omega⟩;(have hj0:j=0:=by simp at hj;omega);subst hj0;simp[ptr,base,Addr.add]
  show zpb _ _ 1
  unfold zpb;rw[zlk];exact⟨h1,by unfold zda;rw[zlk];decide⟩
 refine zab rfl rfl Tryz.aggF Tryz.sizeF (HC2.o.set _ _ _) rfl ?_;exact⟨_,rfl,hF.set3 HC2.o zZ zZ _ _ _,zea hbw2 (zLR _) _ _ _⟩
set_option maxRecDepth 100000 in
theorem r2lowest_one (s:Bool) (va vb:Value) (n d:Nat) (w:World) (ha:zwb w va n) (hb:zwb w vb d) (hd:d≠0) (hn0:n≠0) (hn5:zda n<=512) (hd5:zda d<=512) (hg:Nat.gcd n d=1):
 Calls Tryz.prog 80 #[.bool s,va,vb] w (RF1 w (fq s n d)):=by
 have HN5:=zH hn5;have HD5:=zH hd5
 have HF:zI (∀ (wx:World) (xa xb:Value),zpb wx xa n->zpb wx xb d->zna wx (.agg #[.bool s,xa,xb]) (fq s n d)):=zH (λ wx xa xb h1 h2=>by
  refine zsi hd (by rw[hg,Nat.div_one];exact h1) (by rw[hg,Nat.div_one];exact h2) ?_;rw[hg,Nat.div_one,zDT (zPZ hn0),Bool.and_true])
 have hnz:0<zda n:=by have :zda n≠0:=λ h=>hn0 (zqa.1 h);omega
 have hnzb:(((zda n:Nat):Int)==0)=false:=by simp;omega
 have hg1:zda (Nat.gcd n d)=1:=by rw[hg];unfold zda;rw[zlk];rfl
 have HGC:zI (∀ (wx:World) (g:Value),zpb wx g (Nat.gcd n d)->wx.cell? (ptr g 0)=some (.int .u32 1)):=zH (λ wx g h=>by
  rw[hg]at h;have h1:=h.v;rw[zlk]at h1;exact h1.cell 0 (by simp))
 have HG1:=zH hg1;clear hn5 hd5 hg hg1 hn0;go_enter Tryz.func80,Tryz.ntmps80
 go_wp2_with (first
  |(go_at_call 89;first
   |((with_reducible refine(zoa va n _ (ha.bw (zba _ _))).mono ?_);rintro e w1 ⟨x1,rfl,hx1,hb1⟩;have s1:=hx1.v.sl;have l1:slen x1=zda n:=hx1.v.len)
   |((with_reducible refine(zoa vb d _ ((hb.bw (zba _ _)).bw hb1)).mono ?_);rintro e w2 ⟨x2,rfl,hx2,hb2⟩
     have hx12:=hx1.bw hb2;have hC2:=((C3.new w 53 (.bool false) (.slice none 0 0) (.slice none 0 0)).bS hb1).bS hb2;have hbw2:=zaa (zaa (zba w (.cells #[.bool false, .slice none 0 0, .slice none 0 0] 53)) hb1) hb2))
  |(go_at_call 122;(with_reducible refine(zmq x1 x2 n d _ hx12.nat hx2.nat HN5.o HD5.o).mono ?_);rintro e w3 ⟨g,rfl,hg,hb3⟩;have sg:=hg.v.sl;have lg:slen g=1:=hg.v.len.trans HG1.o;have hgc:=HGC.o _ _ hg;have hx13:=hx12.bw hb3;have hx23:=hx2.bw hb3;have hC3:=hC2.bS hb3;have hbw3:=zaa hbw2 hb3;clear hx1 hx2 hx12 hC2 s1 l1;obtain⟨a1,m1,k1,rfl,_⟩:=hx13.v.sl;obtain⟨a2,m2,k2,rfl,_⟩:=hx23.v.sl;have HC3:=zH hC3;obtain⟨_,c0,c1,c2,f0,f1,f2⟩:=hC3))
 have hF:=HF.o _ _ _ hx13 hx23;refine zab rfl rfl Tryz.aggF Tryz.sizeF (HC3.o.set _ _ _) rfl ?_;exact⟨_,rfl,hF.set3 HC3.o zZ zZ _ _ _,zea hbw3 (zLR _) _ _ _⟩
set_option maxRecDepth 100000 in
theorem zqq (s:Bool) (va vb:Value) (n d:Nat) (w:World) (ha:zwb w va n) (hb:zwb w vb d) (hd:d≠0) (hn0:n≠0) (hn5:zda n<=512) (hd5:zda d<=512) (hg1:1<Nat.gcd n d):
 Calls Tryz.prog 80 #[.bool s,va,vb] w (RF1 w (fq s n d)):=by
 have HN5:=zH hn5;have HD5:=zH hd5;obtain⟨G,hG⟩:∃G,Nat.gcd n d=G:=⟨_,rfl⟩;have hGn:G∣n:=hG▸Nat.gcd_dvd_left n d
 have HF:zI (∀ (wx:World) (xa xb:Value),zpb wx xa (n/G)->zpb wx xb (d/G)->zna wx (.agg #[.bool s,xa,xb]) (fq s n d)):=zH (λ wx xa xb h1 h2=>by
  refine zsi hd (by rw[hG];exact h1) (by rw[hG];exact h2) ?_;rw[hG,zDT (Nat.div_pos (Nat.le_of_dvd (zPZ hn0) hGn) zO),Bool.and_true])
 have hnz:0<zda n:=by have :zda n≠0:=λ h=>hn0 (zqa.1 h);omega
 have hnzb:(((zda n:Nat):Int)==0)=false:=by simp;omega
 rw[hG]at hg1;have HGE:=zH hG;have HG0:zI (G≠0):=zH zO;have HG5:zI (zda G<=512):=zH (zLT (zfb (Nat.le_of_dvd (zPZ hn0) hGn)) hn5);have HG1:=zH hg1;obtain⟨L,hL⟩:∃L,zda G=L:=⟨_,rfl⟩;have HLE:=zH hL;have hL1:1<=L:=by have :zda G≠0:=λ h=>HG0.o (zqa.1 h);omega
 have hL5:L<=512:=by have:=HG5.o;omega
 clear hn5 hd5 hG hg1 hn0 hGn hL;by_cases h1:1<L
 ·skip
  go_enter Tryz.func80,Tryz.ntmps80
  go_wp2_with (first
   |(go_at_call 89;first
    |((with_reducible refine(zoa va n _ (ha.bw (zba _ _))).mono ?_);rintro e w1 ⟨x1,rfl,hx1,hb1⟩;have s1:=hx1.v.sl;have l1:slen x1=zda n:=hx1.v.len)
    |((with_reducible refine(zoa vb d _ ((hb.bw (zba _ _)).bw hb1)).mono ?_);rintro e w2 ⟨x2,rfl,hx2,hb2⟩
      have hx12:=hx1.bw hb2;have hC2:=((C3.new w 53 (.bool false) (.slice none 0 0) (.slice none 0 0)).bS hb1).bS hb2;have hbw2:=zaa (zaa (zba w (.cells #[.bool false, .slice none 0 0, .slice none 0 0] 53)) hb1) hb2))
   |(go_at_call 122;(with_reducible refine(zmq x1 x2 n d _ hx12.nat hx2.nat HN5.o HD5.o).mono ?_);rintro e w3 ⟨g,rfl,hg,hb3⟩;rw[HGE.o]at hg
     have sg:=hg.v.sl;have lg:=(show slen g=zda G from hg.v.len).trans HLE.o
     skip
     have hx13:=hx12.bw hb3;have hx23:=hx2.bw hb3;have hC3:=hC2.bS hb3;have hbw3:=zaa hbw2 hb3;clear hx1 hx2 hx12 hC2 s1 l1)
   |(go_at_call 123;first
     |((with_reducible refine(zhm x1 g n G _ hx13.nat hg.nat HG0.o HN5.o HG5.o).mono ?_);rintro e w4 ⟨q1,r1,rfl,hq1,_,hb4⟩
       have hg4:=hg.bw hb4;have hx24:=hx23.bw hb4)
     |((with_reducible refine(zhm x2 g d G _ hx24.nat hg4.nat HG0.o HD5.o HG5.o).mono ?_);rintro e w5 ⟨q2,r2,rfl,hq2,_,hb5⟩
       have hq15:=hq1.bw hb5;have hC5:=(hC3.bS hb4).bS hb5;have hbw5:=zaa (zaa hbw3 hb4) hb5;clear hg hg4 hx13 hx23 hx24 hC3 hq1;obtain⟨a1,m1,k1,rfl,_⟩:=hq15.v.sl;obtain⟨a2,m2,k2,rfl,_⟩:=hq2.v.sl;have HC5:=zH hC5;obtain⟨_,c0,c1,c2,f0,f1,f2⟩:=hC5)))
  have hF:=HF.o _ _ _ hq15 hq2;refine zab rfl rfl Tryz.aggF Tryz.sizeF (HC5.o.set _ _ _) rfl ?_;exact⟨_,rfl,hF.set3 HC5.o zZ zZ _ _ _,zea hbw5 (zLR _) _ _ _⟩
 ·obtain rfl:L=1:=zO;have hGb:G<4294967296:=by have:=zcc.1 (Nat.le_of_eq HLE.o);simpa [pw]using this
  have HGC:zI (∀ (wx:World) (g:Value),zpb wx g G->wx.cell? (ptr g 0)=some (.int .u32 G)):=zH (λ wx g h=>by
   have h1:=h.v;(have e:zja G= [G]:=by rw[zge HG0.o,Nat.mod_eq_of_lt hGb,Nat.div_eq_of_lt hGb,zgc]);rw[e]at h1;exact h1.cell 0 (by simp))
  have hG2:1<G:=HG1.o;go_enter Tryz.func80,Tryz.ntmps80
  go_wp2_with (first
   |(go_at_call 89;first
    |((with_reducible refine(zoa va n _ (ha.bw (zba _ _))).mono ?_);rintro e w1 ⟨x1,rfl,hx1,hb1⟩;have s1:=hx1.v.sl;have l1:slen x1=zda n:=hx1.v.len)
    |((with_reducible refine(zoa vb d _ ((hb.bw (zba _ _)).bw hb1)).mono ?_);rintro e w2 ⟨x2,rfl,hx2,hb2⟩
      have hx12:=hx1.bw hb2;have hC2:=((C3.new w 53 (.bool false) (.slice none 0 0) (.slice none 0 0)).bS hb1).bS hb2;have hbw2:=zaa (zaa (zba w (.cells #[.bool false, .slice none 0 0, .slice none 0 0] 53)) hb1) hb2))
   |(go_at_call 122;(with_reducible refine(zmq x1 x2 n d _ hx12.nat hx2.nat HN5.o HD5.o).mono ?_);rintro e w3 ⟨g,rfl,hg,hb3⟩;rw[HGE.o]at hg;have sg:=hg.v.sl;have lg:=(show slen g=zda G from hg.v.len).trans HLE.o;have hgc:=HGC.o _ _ hg;have hx13:=hx12.bw hb3;have hx23:=hx2.bw hb3;have hC3:=hC2.bS hb3;have hbw3:=zaa hbw2 hb3;clear hx1 hx2 hx12 hC2 s1 l1)
   |(go_at_call 123;first
     |((with_reducible refine(zhm x1 g n G _ hx13.nat hg.nat HG0.o HN5.o HG5.o).mono ?_);rintro e w4 ⟨q1,r1,rfl,hq1,_,hb4⟩
       have hg4:=hg.bw hb4;have hx24:=hx23.bw hb4)
     |((with_reducible refine(zhm x2 g d G _ hx24.nat hg4.nat HG0.o HD5.o HG5.o).mono ?_);rintro e w5 ⟨q2,r2,rfl,hq2,_,hb5⟩
       have hq15:=hq1.bw hb5;have hC5:=(hC3.bS hb4).bS hb5;have hbw5:=zaa (zaa hbw3 hb4) hb5;clear hg hg4 hx13 hx23 hx24 hC3 hq1;obtain⟨a1,m1,k1,rfl,_⟩:=hq15.v.sl;obtain⟨a2,m2,k2,rfl,_⟩:=hq2.v.sl;have HC5:=zH hC5;obtain⟨_,c0,c1,c2,f0,f1,f2⟩:=hC5)))
  have hF:=HF.o _ _ _ hq15 hq2;refine zab rfl rfl Tryz.aggF Tryz.sizeF (HC5.o.set _ _ _) rfl ?_;exact⟨_,rfl,hF.set3 HC5.o zZ zZ _ _ _,zea hbw5 (zLR _) _ _ _⟩
theorem zxd (s:Bool) (va vb:Value) (n d:Nat) (w:World) (ha:zwb w va n) (hb:zwb w vb d) (hd:d≠0) (hn5:zda n<=512) (hd5:zda d<=512):
 Calls Tryz.prog 80 #[.bool s,va,vb] w (RF1 w (fq s n d)):=by
 have h0:Nat.gcd n d≠0:=λ h=>hd (Nat.gcd_eq_zero_iff.1 h).2
 rcases Nat.eq_zero_or_pos n with hn | hn
 ·subst hn;exact zpq s va vb d w ha hb hd
 ·rcases zOG 1 (Nat.gcd n d)with h | h
  ·exact zqq s va vb n d w ha hb hd zO hn5 hd5 h
  ·exact r2lowest_one s va vb n d w ha hb hd zO hn5 hd5 zO
theorem ret_u64 {a b:Int} (h:a=b):Ending.returned (.int .u64 a)=Ending.returned (.int .u64 b):=by rw[h]
theorem size_any (z:Int) (w:World) (h1: -9223372036854775808<=z) (h2:z<9223372036854775808):
 Calls Tryz.prog 82 #[.int .i64 z] w λ e w'=>e= .returned (.int .u64 (z.natAbs:Nat))/\w=w':=by
 rcases Int.lt_or_le z 0 with h | h
 ·obtain⟨m,hm⟩:∃m:Nat,z= -((m:Int)+1):=⟨(-(z+1)).toNat,zO⟩;have e:z.natAbs=m+1:=zO;have hmb:m<=9223372036854775807:=zO;rw[e];subst hm;clear e h h2;go_enter Tryz.func82,Tryz.ntmps82;go_wp2_with fail;go_ret;exact⟨ret_u64 zO,rfl⟩
 ·obtain⟨m,rfl⟩:∃m:Nat,z=(m:Int):=⟨z.natAbs,zO⟩;have e:(m:Int).natAbs=m:=zO;rw[e];have hmb:m<=9223372036854775807:=zO;clear e h h1 h2;go_enter Tryz.func82,Tryz.ntmps82;go_wp2_with fail;go_ret;exact⟨ret_u64 zO,rfl⟩
set_option maxHeartbeats 800000
theorem r2make_any (a b:Int) (w:World) (ha1: -9223372036854775808<=a) (ha2:a<9223372036854775808) (hb1: -9223372036854775808<=b) (hb2:b<9223372036854775808) (hb:b≠0):
 Calls Tryz.prog 22 #[.int .i64 a, .int .i64 b] w (RF0 w (fq (!decide (a<0)==decide (b<0)) a.natAbs b.natAbs)):=by
 have HA:=zH (zAI ha1 ha2);have HB:=zH (zAI hb1 hb2);have hbn:b.natAbs≠0:=zO;have HBN:=zH hbn;have h1:∀z:Int,-9223372036854775808<=z->z<9223372036854775808->zda z.natAbs<=512:=λ z _ _=>zcc.2 (zLM (show z.natAbs<pw 2 by have :pw 2=18446744073709551616:=rfl;omega) (pw_le zO))
 have H1:=zH (h1 a ha1 ha2);have H2:=zH (h1 b hb1 hb2);have HA6:zI (a.natAbs<18446744073709551616):=zH zO;have HB6:zI (b.natAbs<18446744073709551616):=zH zO;have h9:(b==0)=false:=by simpa using hb
 clear ha1 ha2 hb1 hb2 hbn h1 hb;go_enter Tryz.func22,Tryz.ntmps22
 go_wp2_with (first
  |(go_at_call 82;first
   |((with_reducible refine(size_any a _ HA.o.1 HA.o.2).mono ?_);rintro e w' ⟨rfl,rfl⟩)
   |((with_reducible refine(size_any b _ HB.o.1 HB.o.2).mono ?_);rintro e w' ⟨rfl,rfl⟩))
  |(go_at_call 81;first
   |((with_reducible refine(zde a.natAbs HA6.o _).mono ?_);rintro e w1 ⟨x,rfl,hx,hx1⟩)
   |((with_reducible refine(zde b.natAbs HB6.o _).mono ?_);rintro e w2 ⟨y,rfl,hy,hy1⟩;have hx2:=hx.bw hy1))
  |(go_at_call 80;(with_reducible refine(zxd _ x y a.natAbs b.natAbs _ hx2.nat hy.nat HBN.o H1.o H2.o).mono ?_);rintro e w3 ⟨v,rfl,hv,hv1⟩;obtain⟨t,a1,l1,k1,a2,l2,k2,rfl⟩:=hv.iF;have hC:=(((C3.new w 53 (.bool false) (.slice none 0 0) (.slice none 0 0)).bS hx1).bS hy1).bS hv1;have HC:=zH hC;have hbz:=zaa (zaa (zaa (zba w (.cells #[.bool false, .slice none 0 0, .slice none 0 0] 53)) hx1) hy1) hv1;obtain⟨_,d0,d1,d2,e0,e1,e2⟩:=hC))
 refine zka rfl rfl Tryz.aggF Tryz.sizeF (HC.o.set _ _ _) rfl ?_;exact⟨_,rfl,hv.set3 HC.o zZ zZ _ _ _,zea hbz (zLR _) _ _ _⟩
theorem RF0.eq {w0:World} {q q':Rat} {e:Ending} {w:World} (h:RF0 w0 q e w) (hq:q=q'):RF0 w0 q' e w:=hq▸h
theorem zmi (a b:Nat) (w:World) (ha:a<4294967296) (hb:b<4294967296) (hb0:b≠0):
 Calls Tryz.prog 22 #[.int .i64 a, .int .i64 b] w (RF0 w (fq false a b)):=
 (r2make_any a b w zO zO zO zO zO).mono λ _ _ h=>h.eq (by
  rw[zDF (show ¬ ((a:Nat):Int)<0 by omega),zDF (show ¬ ((b:Nat):Int)<0 by omega)];rfl)
theorem r2make_01 (w:World):Calls Tryz.prog 22 #[.int .i64 0, .int .i64 1] w (RF0 w 0):=
 (zmi 0 1 w zD zD zD).mono λ _ _ h=>h.eq zD
theorem r2make_11 (w:World):Calls Tryz.prog 22 #[.int .i64 1, .int .i64 1] w (RF0 w 1):=
 (zmi 1 1 w zD zD zD).mono λ _ _ h=>h.eq zD
theorem r2make_n1 (n:Nat) (w:World) (hn:n<4294967296):Calls Tryz.prog 22 #[.int .i64 n, .int .i64 1] w (RF0 w (fq false n 1)):=
 zmi n 1 w hn zD zD
theorem zac (w:World):Calls Tryz.prog 23 #[.int .i64 0] w (RF1 w 0):=by
 go_enter Tryz.func23,Tryz.ntmps23;go_wp2_with (go_at_call 22;(with_reducible refine(r2make_01 _).mono ?_);rintro e w1 ⟨v,rfl,hv,hb1⟩;obtain⟨t9,a1,l91,k1,a2,l92,k2,rfl⟩:=hv.iF;have hr:=((C3.new w 53 (.bool false) (.slice none 0 0) (.slice none 0 0)).bS hb1).allocS (.cells #[.bool t9, .slice a1 l91 k1, .slice a2 l92 k2] 53);have hv2:=hv.bw (zba w1 (.cells #[.bool t9, .slice a1 l91 k1, .slice a2 l92 k2] 53));have hb2:=zaa (zaa (zba w (.cells #[.bool false, .slice none 0 0, .slice none 0 0] 53)) hb1) (zba w1 (.cells #[.bool t9, .slice a1 l91 k1, .slice a2 l92 k2] 53));have HR:=zH hr;obtain⟨_,d1,d2,d3,d4,d5,d6⟩:=hr);refine zab rfl rfl Tryz.aggF Tryz.sizeF (HR.o.set _ _ _) rfl ?_;exact⟨_,rfl,hv2.set3 HR.o zZ zZ _ _ _,zea hb2 (zLR _) _ _ _⟩
theorem zif (w:World):Calls Tryz.prog 23 #[.int .i64 1] w (RF1 w 1):=by
 go_enter Tryz.func23,Tryz.ntmps23;go_wp2_with (go_at_call 22;(with_reducible refine(r2make_11 _).mono ?_);rintro e w1 ⟨v,rfl,hv,hb1⟩;obtain⟨t9,a1,l91,k1,a2,l92,k2,rfl⟩:=hv.iF;have hr:=((C3.new w 53 (.bool false) (.slice none 0 0) (.slice none 0 0)).bS hb1).allocS (.cells #[.bool t9, .slice a1 l91 k1, .slice a2 l92 k2] 53);have hv2:=hv.bw (zba w1 (.cells #[.bool t9, .slice a1 l91 k1, .slice a2 l92 k2] 53));have hb2:=zaa (zaa (zba w (.cells #[.bool false, .slice none 0 0, .slice none 0 0] 53)) hb1) (zba w1 (.cells #[.bool t9, .slice a1 l91 k1, .slice a2 l92 k2] 53));have HR:=zH hr;obtain⟨_,d1,d2,d3,d4,d5,d6⟩:=hr);refine zab rfl rfl Tryz.aggF Tryz.sizeF (HR.o.set _ _ _) rfl ?_;exact⟨_,rfl,hv2.set3 HR.o zZ zZ _ _ _,zea hb2 (zLR _) _ _ _⟩
theorem r2int_nat (n:Nat) (w:World) (hn:n<4294967296):Calls Tryz.prog 23 #[.int .i64 n] w (RF1 w (fq false n 1)):=by
 have HN:=zH hn;clear hn;go_enter Tryz.func23,Tryz.ntmps23;go_wp2_with (go_at_call 22;(with_reducible refine(r2make_n1 n _ HN.o).mono ?_);rintro e w1 ⟨v,rfl,hv,hb1⟩;obtain⟨t9,a1,l91,k1,a2,l92,k2,rfl⟩:=hv.iF;have hr:=((C3.new w 53 (.bool false) (.slice none 0 0) (.slice none 0 0)).bS hb1).allocS (.cells #[.bool t9, .slice a1 l91 k1, .slice a2 l92 k2] 53);have hv2:=hv.bw (zba w1 (.cells #[.bool t9, .slice a1 l91 k1, .slice a2 l92 k2] 53));have hb2:=zaa (zaa (zba w (.cells #[.bool false, .slice none 0 0, .slice none 0 0] 53)) hb1) (zba w1 (.cells #[.bool t9, .slice a1 l91 k1, .slice a2 l92 k2] 53));have HR:=zH hr;obtain⟨_,d1,d2,d3,d4,d5,d6⟩:=hr);refine zab rfl rfl Tryz.aggF Tryz.sizeF (HR.o.set _ _ _) rfl ?_;exact⟨_,rfl,hv2.set3 HR.o zZ zZ _ _ _,zea hb2 (zLR _) _ _ _⟩
theorem keep6 {w:World} {a1 a2 a3 a4 a5 a6:Addr} {x1 x2 x3 x4 x5 x6:Value} (h:w.cell? a1=some x1/\w.cell? a2=some x2/\w.cell? a3=some x3/\w.cell? a4=some x4/\w.cell? a5=some x5/\w.cell? a6=some x6) {p:Addr}
 (h1:p.block≠a1.block) (h2:p.block≠a2.block) (h3:p.block≠a3.block) (h4:p.block≠a4.block) (h5:p.block≠a5.block) (h6:p.block≠a6.block) (u:Value):
 (w.setCell p u).cell? a1=some x1/\(w.setCell p u).cell? a2=some x2/\(w.setCell p u).cell? a3=some x3/\(w.setCell p u).cell? a4=some x4/\(w.setCell p u).cell? a5=some x5/\(w.setCell p u).cell? a6=some x6:=by
 have key:∀a x,w.cell? a=some x->p.block≠a.block->(w.setCell p u).cell? a=some x:=λ a x ha hp=>by
  rw[zCO _ _ _ _ (λ e=>hp (by rw[e]))];exact ha
 obtain⟨k1,k2,k3,k4,k5,k6⟩:=h;exact⟨key _ _ k1 h1,key _ _ k2 h2,key _ _ k3 h3,key _ _ k4 h4,key _ _ k5 h5,key _ _ k6 h6⟩
theorem zhe (p q:Rat):zto p q=0↔p=q:=by
 unfold zto;constructor
 ·intro h;split at h
  ·omega
  ·split at h
   ·omega
   ·next h1 h2=>exact Rat.le_antisymm (Rat.not_lt.1 h2) (Rat.not_lt.1 h1)
 ·rintro rfl;rw[zIN (Rat.lt_irrefl),zIN (Rat.lt_irrefl)]
set_option maxHeartbeats 1600000
theorem ztd (va vb:Value) (m n:Nat) (w:World) (ha:zwb w va m) (hb:zwb w vb n) (hm:zda m<=128) (hn:zda n<=128):
 Calls Tryz.prog 88 #[va,vb] w (RNat w (m*n)):=by
 have HM:=zH (show zda m<=512 by omega);have HN:=zH (show zda n<=512 by omega)
 have HMN:zI (zda (m*n)<=512):=zH (by
  have h1:=zcc.1 hm;have h2:=zcc.1 hn;refine zcc.2 ?_;have h3:m*n<=pw 128*pw 128:=zMM zO zO;have h4:pw 128*pw 128<pw 512:=by decide+kernel
  omega)
 clear hm hn;go_enter Tryz.func88,Tryz.ntmps88;go_wp2_with (go_at_call 131;(with_reducible refine(rmul_any _ _ m n _ ha hb HM.o HN.o).mono ?_);rintro e1 w1 ⟨r,er,rfl,hr,hb1⟩);go_ret;exact⟨r,rfl,(hr.1 HMN.o).2,hb1⟩
theorem zbj (v:Value) (q:Rat) (w:World) (h:zna w v q) (hf:fits q):
 Calls Tryz.prog 34 #[v] w λ e w'=>e= .returned (.bool true)/\Below w.heap.size w w':=by
 obtain⟨a,b,rfl,ha,hb⟩:=h;obtain⟨n1,n2⟩:=zad (zpd hf)
 have hd0:0<zda q.den:=by
  rcases Nat.eq_zero_or_pos (zda q.den)with h | h
  ·have h1:=zcc.1 (Nat.le_of_eq h);have h2:=q.den_nz;simp[pw]at h1;omega
  ·exact h
 have hd1:decide ((0:Int)<(zda q.den:Nat))=true:=zDT zO;have hd2:decide (((zda q.den:Nat):Int)<=128)=true:=zDT zO;have hd3:decide (((zda q.num.natAbs:Nat):Int)<=128)=true:=zDT zO;obtain⟨aa,al,ak,rfl,_⟩:=id ha.v.sl;obtain⟨ba,bl,bk,rfl,_⟩:=id hb.v.sl;have hbx:=zba w (.cells #[.bool (decide (q<0)), .slice aa al ak, .slice ba bl bk] 53);have hC:=C3.new w 53 (.bool (decide (q<0))) (.slice aa al ak) (.slice ba bl bk);have HC:=zH hC;have HA:=zH (ha.bw hbx);have HB:=zH (hb.bw hbx);obtain⟨_,c0,c1,c2,_,_,_⟩:=id hC;clear hC hf hd1 hd2 hd3;go_enter Tryz.func34,Tryz.ntmps34
 go_wp2_with (first
  |(go_at_call 89;(with_reducible refine(zoa _ q.den _ HB.o.nat).mono ?_);rintro e1 w1 ⟨r1,rfl,hr1,hb1⟩;have s1:=hr1.v.sl;have l1:slen r1=zda q.den:=hr1.v.len;obtain⟨_,c0,c1,c2,_,_,_⟩:=HC.o.bS hb1)
  |(go_at_call 89;(with_reducible refine(zoa _ q.den _ (HB.o.bw hb1).nat).mono ?_);rintro e2 w2 ⟨r2,rfl,hr2,hb2⟩;have s2:=hr2.v.sl;have l2:slen r2=zda q.den:=hr2.v.len;obtain⟨_,c0,c1,c2,_,_,_⟩:=HC.o.bS (zaa hb1 hb2))
  |(go_at_call 89;(with_reducible refine(zoa _ q.num.natAbs _ ((HA.o.bw hb1).bw hb2).nat).mono ?_);rintro e3 w3 ⟨r3,rfl,hr3,hb3⟩;have s3:=hr3.v.sl;have l3:slen r3=zda q.num.natAbs:=hr3.v.len))
 go_ret;refine⟨?_,zaa (zaa (zaa hbx hb1) hb2) hb3⟩
 congr 2
 simp;omega
theorem r2large_can (v:Value) (q:Rat) (w:World) (h:zna w v q) (hf:fits q):
 Calls Tryz.prog 130 #[v] w λ e w'=>e= .returned (.bool false)/\Below w.heap.size w w':=by
 obtain⟨a,b,rfl,ha,hb⟩:=h;obtain⟨n1,n2⟩:=zad (zpd hf);obtain⟨aa,al,ak,rfl,_⟩:=id ha.v.sl;obtain⟨ba,bl,bk,rfl,_⟩:=id hb.v.sl;have e1:al=zda q.num.natAbs:=ha.v.len;have e2:bl=zda q.den:=hb.v.len;have n1':al<=128:=zO;have n2':bl<=128:=zO;have h1:¬ (128<al):=zO;have h2:¬ (128<bl):=zO;have hbx:=zba w (.cells #[.bool (decide (q<0)), .slice aa al ak, .slice ba bl bk] 53);have hC:=C3.new w 53 (.bool (decide (q<0))) (.slice aa al ak) (.slice ba bl bk);obtain⟨_,c0,c1,c2,_,_,_⟩:=id hC;clear hC hf n1 n2 e1 e2;go_enter Tryz.func130,Tryz.ntmps130;go_wp2_with fail;go_ret;refine⟨?_,hbx⟩
 congr 2
 simp;omega
theorem zjp (v:Value) (q:Rat) (w:World) (h:zna w v q) (hf:fits q):Calls Tryz.prog 87 #[v] w (RF0 w q):=by
 obtain⟨a,b,rfl,ha,hb⟩:=id h;obtain⟨aa,al,ak,rfl,_⟩:=id ha.v.sl;obtain⟨ba,bl,bk,rfl,_⟩:=id hb.v.sl;have hbx:=zba w (.cells #[.bool (decide (q<0)), .slice aa al ak, .slice ba bl bk] 53);have hb2:=zba (w.alloc (.cells #[.bool (decide (q<0)), .slice aa al ak, .slice ba bl bk] 53)) (.cells #[.bool false, .slice none 0 0, .slice none 0 0] 53);have hC:=(C3.new w 53 (.bool (decide (q<0))) (.slice aa al ak) (.slice ba bl bk)).bS hb2;have hR:=C3.newB (b:=w.heap.size+1) (w.alloc (.cells #[.bool (decide (q<0)), .slice aa al ak, .slice ba bl bk] 53)) 53 (.bool false) (.slice none 0 0) (.slice none 0 0) (by simp);have HC:=zH hC;have HR:=zH hR;have HF:=zH hf;have HQ:=zH ((h.bw hbx).bw hb2);have hbb:=zaa hbx hb2;obtain⟨_,c0,c1,c2,_,_,_⟩:=id hC;clear hC hR hf h ha hb;go_enter Tryz.func87,Tryz.ntmps87;go_wp2_with (go_at_call 130;(with_reducible refine(r2large_can _ q _ HQ.o HF.o).mono ?_);rintro e1 w1 ⟨rfl,hb1⟩;obtain⟨_,c0,c1,c2,_,_,_⟩:=HC.o.bS hb1;have HR1:=zH (HR.o.bS hb1);obtain⟨_,d0,d1,d2,d3,d4,d5⟩:=HR1.o);refine zka rfl rfl Tryz.aggF Tryz.sizeF (HR1.o.set _ _ _) rfl ?_;exact⟨_,rfl,(HQ.o.bw hb1).set3 HR1.o zZ zZ _ _ _,zea (zaa hbb hb1) (zLS _) _ _ _⟩
theorem fq_mul_self (p q:Rat):fq (decide (p<0) != decide (q<0)) (p.num.natAbs*q.num.natAbs) (p.den*q.den)=p*q:=by rw[<-fq_mul,zrc,zrc]
theorem fq_mul_self' (p q:Rat):fq (!(decide (p<0)==decide (q<0))) (p.num.natAbs*q.num.natAbs) (p.den*q.den)=p*q:=fq_mul_self p q
theorem keep6b {X Y:World} {a1 a2 a3 a4 a5 a6:Addr} {x1 x2 x3 x4 x5 x6:Value} (h:X.cell? a1=some x1/\X.cell? a2=some x2/\X.cell? a3=some x3/\X.cell? a4=some x4/\X.cell? a5=some x5/\X.cell? a6=some x6) (hb:Below X.heap.size X Y):
 Y.cell? a1=some x1/\Y.cell? a2=some x2/\Y.cell? a3=some x3/\Y.cell? a4=some x4/\Y.cell? a5=some x5/\Y.cell? a6=some x6:=by
 obtain⟨k1,k2,k3,k4,k5,k6⟩:=h;exact⟨zca hb k1,zca hb k2,zca hb k3,zca hb k4,zca hb k5,zca hb k6⟩
set_option maxRecDepth 100000 in
theorem r2mul_can (va vb:Value) (p q:Rat) (w:World) (ha:zna w va p) (hb:zna w vb q) (hp:fits p) (hq:fits q) (hf:fits (p*q)):Calls Tryz.prog 26 #[va,vb] w (RF0 w (p*q)):=by
 obtain⟨a1,a2,rfl,n1,n2⟩:=id ha;obtain⟨b1,b2,rfl,m1,m2⟩:=id hb;obtain⟨x1,y1,z1,rfl,_⟩:=id n1.v.sl;obtain⟨x2,y2,z2,rfl,_⟩:=id n2.v.sl;obtain⟨x3,y3,z3,rfl,_⟩:=id m1.v.sl;obtain⟨x4,y4,z4,rfl,_⟩:=id m2.v.sl;have k1:=zba w (.cells #[.bool (decide (p<0)), .slice x1 y1 z1, .slice x2 y2 z2] 53);have k2:=zba (w.alloc (.cells #[.bool (decide (p<0)), .slice x1 y1 z1, .slice x2 y2 z2] 53)) (.cells #[.bool (decide (q<0)), .slice x3 y3 z3, .slice x4 y4 z4] 53);have k3:=zba ((w.alloc (.cells #[.bool (decide (p<0)), .slice x1 y1 z1, .slice x2 y2 z2] 53)).alloc (.cells #[.bool (decide (q<0)), .slice x3 y3 z3, .slice x4 y4 z4] 53)) (.cells #[.bool false, .slice none 0 0, .slice none 0 0] 53);have H3:=zle w 53 (.bool (decide (p<0))) (.slice x1 y1 z1) (.slice x2 y2 z2) (.bool (decide (q<0))) (.slice x3 y3 z3) (.slice x4 y4 z4) (.bool false) (.slice none 0 0) (.slice none 0 0) _ rfl;obtain⟨hA,hB,hR,hbw⟩:=H3;have HA:=zH hA;have HB:=zH hB;have HR:=zH hR;have HAP:=zH (ha.bw hbw);have HBQ:=zH (hb.bw hbw);have HP:=zH hp;have HQ:=zH hq;have HPQ:=zH hf;have HL:=zH (zAI (zad (zpd hp)) (zad (zpd hq)));obtain⟨_,c0,c1,c2,_,_,_⟩:=id hA;obtain⟨_,d0,d1,d2,_,_,_⟩:=id hB;clear hA hB hR ha hb n1 n2 m1 m2 hp hq hf k1 k2 k3;go_enter Tryz.func26,Tryz.ntmps26
 go_upto_region 3 with(first
  |(go_at_call 34;(with_reducible refine(zbj _ p _ HAP.o HP.o).mono ?_);rintro e1 w1 ⟨rfl,hb1⟩;obtain⟨_,c0,c1,c2,_,_,_⟩:=HA.o.bS hb1;obtain⟨_,d0,d1,d2,_,_,_⟩:=HB.o.bS hb1)
  |(go_at_call 34;(with_reducible refine(zbj _ q _ (HBQ.o.bw hb1) HQ.o).mono ?_);rintro e2 w2 ⟨rfl,hb2⟩))
 have b12:=zaa hb1 hb2;have hD:=zha (B:=w2.heap.size) w2;have b1D:=zaa b12 hD;obtain⟨_,q1,q2,q3,_,_,_⟩:=HA.o.bS b1D;obtain⟨_,r1,r2,r3,_,_,_⟩:=HB.o.bS b1D;have HRD:=zH (HR.o.bS b1D);have HAD:=zH (HAP.o.bw b1D);have HBD:=zH (HBQ.o.bw b1D);have hbwD:=zaa hbw b1D;obtain⟨u1,u2,hu,nA,nB⟩:=HAD.o;injection hu with hu
 injection hu with hu
 simp only[List.cons.injEq,and_true,true_and]at hu;obtain⟨rfl,rfl⟩:=hu;obtain⟨u1,u2,hu,mA,mB⟩:=HBD.o;injection hu with hu
 injection hu with hu
 simp only[List.cons.injEq,and_true,true_and]at hu;obtain⟨rfl,rfl⟩:=hu;have kA:w.heap.size+1+1≠w.heap.size:=zO;have kB:w.heap.size+1+1≠w.heap.size+1:=zO;have HNN:=zH (zAI nA (zAI nB (zAI mA mB)));have HDZ:zI (p.den*q.den≠0):=zH (zMZ p.den_nz q.den_nz);have HN5:zI (zda (p.num.natAbs*q.num.natAbs)<=512):=zH (zLT (zoe HL.o.1.1 HL.o.2.1) zD);have HD5:zI (zda (p.den*q.den)<=512):=zH (zLT (zoe HL.o.1.2 HL.o.2.2) zD);clear nA nB mA mB c0 c1 c2 d0 d1 d2
 go_region_held3 (λ w'=>w'.cell? ⟨w.heap.size,0,none⟩=some (.bool (decide (p<0)))/\w'.cell? ⟨w.heap.size,1,none⟩=some (.slice x1 y1 z1)/\w'.cell? ⟨w.heap.size,2,none⟩=some (.slice x2 y2 z2)/\w'.cell? ⟨w.heap.size+1,0,none⟩=some (.bool (decide (q<0)))/\w'.cell? ⟨w.heap.size+1,1,none⟩=some (.slice x3 y3 z3)/\w'.cell? ⟨w.heap.size+1,2,none⟩=some (.slice x4 y4 z4)) (first
  | with_reducible exact⟨q1,q2,q3,r1,r2,r3⟩
  | with_reducible exact keep6b (by assumption) (by assumption)
  | with_reducible exact keep6 (keep6 (keep6 (by assumption) kA kA kA kB kB kB _) kA kA kA kB kB kB _) kA kA kA kB kB kB _) (first
  |(go_at_call 88;(with_reducible refine(ztd _ _ p.num.natAbs q.num.natAbs _ HNN.o.1.nat HNN.o.2.2.1.nat HL.o.1.1 HL.o.2.1).mono ?_);rintro e3 w3 ⟨v3,rfl,hv3,hb3⟩)
  |(go_at_call 88;(with_reducible refine(ztd _ _ p.den q.den _ (HNN.o.2.1.bw hb3).nat (HNN.o.2.2.2.bw hb3).nat HL.o.1.2 HL.o.2.2).mono ?_);rintro e4 w4 ⟨v4,rfl,hv4,hb4⟩)
  |(go_at_call 80;(with_reducible refine(zxd _ _ _ (p.num.natAbs*q.num.natAbs) (p.den*q.den) _ (hv3.bw hb4).nat hv4.nat HDZ.o HN5.o HD5.o).mono ?_);rintro e5 w5 ⟨v5,rfl,hv5,hb5⟩)
  |(go_at_call 87;(with_reducible refine(zjp _ (p*q) _ (by(have h9:=hv5;rw[fq_mul_self']at h9;exact h9)) HPQ.o).mono ?_);rintro e6 w6 ⟨v6,rfl,hv6,hb6⟩;obtain⟨t9,a91,l91,k91,a92,l92,k92,rfl⟩:=hv6.iF;have HR6:=zH ((((HRD.o.bS hb3).bS hb4).bS hb5).bS hb6);obtain⟨_,g0,g1,g2,g3,g4,g5⟩:=HR6.o))
 have hbE:=zaa (zaa (zaa (zaa hbwD hb3) hb4) hb5) hb6;go_wp2_with fail;refine zka rfl rfl Tryz.aggF Tryz.sizeF (HR6.o.set _ _ _) rfl ?_;exact⟨_,rfl,hv6.set3 HR6.o zZ zZ _ _ _,zea hbE (zLT (zLS _) (zLS _)) _ _ _⟩
end Go.Proofs.YtkpedaflofejnaaGreat
