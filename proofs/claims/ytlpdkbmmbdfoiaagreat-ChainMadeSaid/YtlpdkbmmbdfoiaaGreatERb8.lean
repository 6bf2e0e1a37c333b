/- Lemmas. -/
import Derived.Test.YtlpdkbmmbdfoiaaGreatERa7
set_option linter.unusedVariables false
set_option linter.unusedSimpArgs false
namespace Go.Proofs.YtlpdkbmmbdfoiaaGreat
set_option maxRecDepth 100000
set_option maxHeartbeats 800000
open Go.RowKit
theorem zvj (va vb:Value) (m n:Nat) (w:World) (ha:zob w va m) (hb:zob w vb n) (h:n≠0) (hm:zda m<=512) (hn:zda n<=512):
 Calls Tryz.prog 150 #[va,vb] w (RDiv2 w m n):=by
 have HM:=zH hm
 have HN:=zH hn
 have H0:=zH h
 have hnz:zda n≠0:=fun h'=>h (zta.1 h')
 have hnz2:(((zda n:Nat):Int)==0)=false:=by simpa using hnz
 clear hm hn hnz h
 have tok1:True:=trivial
 go_enter Tryz.func150,Tryz.ntmps150
 go_wp2_with (first
  |(go_at_call 152;first
    |((with_reducible refine(zyc va m _ ha HM.out).mono ?_);rintro e wa ⟨rfl,hba⟩)
    |((with_reducible refine(zyc vb n _ (hb.below hba) HN.out).mono ?_);rintro e wb ⟨rfl,hbb⟩;have hbw:=zaa hba hbb))
  |(go_at_call 106;have _t:=tok1;(with_reducible refine(zra vb n _ (hb.below hbw)).mono ?_);rintro e wc ⟨r0,rfl,hr0,hb0⟩;clear tok1 _t;have sl0:=hr0.v.sl;have ln0:slen r0=zda n:=hr0.v.len;have hbw0:=zaa hbw hb0)
  |(go_at_call 106;first
     |((with_reducible refine(zra va m _ (ha.below hbw0)).mono ?_);rintro e w1 ⟨ra,rfl,hra,hb1⟩;have hbw1:=zaa hbw0 hb1)
     |((with_reducible refine(zra vb n _ (hb.below hbw1)).mono ?_);rintro e w2 ⟨rb,rfl,hrb,hb2⟩;have hbw2:=zaa hbw1 hb2;have hra2:=hra.below hb2))
  |(go_at_call 196;(with_reducible refine(zqk ra rb m n _ hra2 hrb H0.out HM.out).mono ?_);rintro e w3 ⟨q,r,rfl,hq,hr,hb3⟩;have hbw3:=zaa hbw2 hb3))
 go_ret3
 exact⟨q,r,rfl,hq,hr,hbw3⟩
theorem zen (va vb:Value) (m n:Nat) (w:World) (ha:zob w va m) (hb:zob w vb n) (hm:zda m<=512) (hn:zda n<=512):
 Calls Tryz.prog 149 #[va,vb] w (RNat0 w (Nat.gcd m n)):=by
 have HM:=zH hm
 have HN:=zH hn
 clear hm hn
 go_enter Tryz.func149,Tryz.ntmps149
 go_wp2_with (first
  |(go_at_call 152;first
    |((with_reducible refine(zyc va m _ ha HM.out).mono ?_);rintro e wa ⟨rfl,hba⟩)
    |((with_reducible refine(zyc vb n _ (hb.below hba) HN.out).mono ?_);rintro e wb ⟨rfl,hbb⟩;have hbw0:=zaa hba hbb))
  |(go_at_call 106;first
     |((with_reducible refine(zra va m _ (ha.below hbw0)).mono ?_);rintro e w1 ⟨ra,rfl,hra,hb1⟩;have hbw1:=zaa hbw0 hb1)
     |((with_reducible refine(zra vb n _ (hb.below hbw1)).mono ?_);rintro e w2 ⟨rb,rfl,hrb,hb2⟩;have hbw:=zaa hbw1 hb2;have hra2:=hra.below hb2)))
 go_loopw [6,7] (fun u0 u1 wr=>∃ (x y:Nat),zjb wr u0 x/\zjb wr u1 y/\zda x<=512/\zda y<=512/\Nat.gcd x y=Nat.gcd m n/\Below w.heap.size w wr) (fun _ u1 wr=>natOf wr u1)
 case atStart=>exact⟨m,n,hra2,hrb,HM.out,HN.out,rfl,hbw⟩
 case round=>
  obtain⟨x,y,hx,hy,hx5,hy5,hg,hbr⟩:=hrel
  clear ha hb hra hrb hra2 hb1 hb2 hbw hbw0 hbw1 hba hbb
  obtain⟨sx,lx⟩:zgc u6/\slen u6=zda x:=⟨hx.v.sl,hx.v.len⟩
  obtain⟨sy,ly⟩:zgc u7/\slen u7=zda y:=⟨hy.v.sl,hy.v.len⟩
  have HX:=zH hx5
  have HY:=zH hy5
  have HG:=zH hg
  have hxb:zda x<=4294967296:=by omega
  have hyb:zda y<=4294967296:=by omega
  clear hx5 hy5 hg
  by_cases hy0:y=0
  ·have hyz:zda y=0:=zta.2 hy0
   have hfin:x=Nat.gcd m n:=by rw[<-HG.out,hy0,Nat.gcd_zero_right]
   have HF:=zH hfin
   clear hfin hy0
   go_wp2
   go_ret2
   exact⟨_,rfl,HF.out▸hx,hbr⟩
  ·have hyz:0<zda y:=by have :zda y≠0:=fun h'=>hy0 (zta.1 h');omega
   have HY0:=zH hy0
   clear hy0
   go_wp2_with (go_at_call 196;(with_reducible refine(zqk _ _ x y _ hx hy HY0.out HX.out).mono ?_);rintro e w3 ⟨q,r,rfl,hq,hr,hbl⟩)
   have hy3:=hy.below hbl
   have hbr3:=hbr.trans (hbl.mono hbr.size)
   go_wp2
   go_roundw
   case rel=>exact⟨y,x%y,hy3,hr,HY.out,zLT (zfb (Nat.le_of_lt (Nat.mod_lt _ (Nat.pos_of_ne_zero HY0.out)))) HY.out,by rw[<-HG.out,Nat.gcd_comm y,<-Nat.gcd_rec,Nat.gcd_comm],hbr3⟩
   case measure=>rw[zwj hr,zwj hy];exact Nat.mod_lt _ (Nat.pos_of_ne_zero HY0.out)
set_option maxHeartbeats 3200000
theorem zei :zla 1= [1]:=by rw[zxd (by decide)];simp[zbc]
theorem fq_zero (s:Bool) (d:Nat) (hd:d≠0):fq s 0 d=0:=by
 unfold fq;rw[sgn_zero];simp
theorem zin (s:Bool) (va vb:Value) (d:Nat) (w:World) (ha:zob w va 0) (hb:zob w vb d) (hd:d≠0):
 Calls Tryz.prog 71 #[.bool s,va,vb] w (RF1 w (fq s 0 d)):=by
 rw[fq_zero s d hd]
 obtain⟨n,hn⟩:∃n,n=0:=⟨0,rfl⟩
 rw[<-hn]at ha
 have hz:zda n=0:=zta.2 hn
 have HN:=zH hn
 clear hn
 go_enter Tryz.func71,Tryz.ntmps71
 go_wp2_with (first
  |(go_at_call 106;first
   |((with_reducible refine(zra va n _ (ha.below (zca _ _))).mono ?_);rintro e w1 ⟨x1,rfl,hx1,hb1⟩;have s1:=hx1.v.sl;have l1:slen x1=zda n:=hx1.v.len)
   |((with_reducible refine(zra vb d _ ((hb.below (zca _ _)).below hb1)).mono ?_);rintro e w2 ⟨x2,rfl,hx2,hb2⟩
     have hC2:=(((C3.new w 38 (.bool false) (.slice none 0 0) (.slice none 0 0)).belowS hb1).belowS hb2).allocS (.cells #[.int .u32 1] 142)
     have hbw2:=zaa (zaa (zaa (zca w (.cells #[.bool false, .slice none 0 0, .slice none 0 0] 38)) hb1) hb2) (zca w2 (.cells #[.int .u32 1] 142))
     have HC2:=zH hC2
     obtain⟨_,c0,c1,c2,f0,f1,f2⟩:=hC2)))
 have hF:zqa (w2.alloc (.cells #[.int .u32 1] 142)) (.agg #[.bool false, .slice none 0 0, .slice (some ⟨w2.heap.size,0,none⟩) 1 1]) 0:=by
  refine⟨_,_,rfl,zjb.nil _,?_⟩
  have h1:zfc (w2.alloc (.cells #[.int .u32 1] 142)) (.slice (some ⟨w2.heap.size,0,none⟩) 1 1) [1]:=by
   refine⟨⟨_,1,1,rfl,zLR _,by simp[maxLen],fun e=>by cases e⟩,rfl,fun j hj=> ?_,fun x hx=>by simp at hx;omega⟩
   have hj0:j=0:=by simp at hj;omega
   subst hj0
   simp[ptr,base,Addr.add]
  show zjb _ _ 1
  unfold zjb
  rw[zei]
  exact⟨h1,by unfold zda;rw[zei];decide⟩
 refine zab rfl rfl Tryz.aggF Tryz.sizeF (HC2.out.set _ _ _) rfl ?_
 exact⟨_,rfl,hF.set3 HC2.out (fun z=>by simp) (fun z=>by simp) _ _ _,zga hbw2 (zLR _) _ _ _⟩
theorem r2lowest_one (s:Bool) (va vb:Value) (n d:Nat) (w:World) (ha:zob w va n) (hb:zob w vb d) (hd:d≠0) (hn0:n≠0) (hn5:zda n<=512) (hd5:zda d<=512) (hg:Nat.gcd n d=1):
 Calls Tryz.prog 71 #[.bool s,va,vb] w (RF1 w (fq s n d)):=by
 have HN5:=zH hn5
 have HD5:=zH hd5
 have HF:Hid (∀ (wx:World) (xa xb:Value),zjb wx xa n->zjb wx xb d->zqa wx (.agg #[.bool s,xa,xb]) (fq s n d)):=zH (fun wx xa xb h1 h2=>by
  refine zxg hd (by rw[hg,Nat.div_one];exact h1) (by rw[hg,Nat.div_one];exact h2) ?_
  rw[hg,Nat.div_one,decide_eq_true (Nat.pos_of_ne_zero hn0),Bool.and_true])
 have hnz:0<zda n:=by have :zda n≠0:=fun h=>hn0 (zta.1 h);omega
 have hnzb:(((zda n:Nat):Int)==0)=false:=by simp;omega
 have hg1:zda (Nat.gcd n d)=1:=by rw[hg];unfold zda;rw[zei];rfl
 have HGC:Hid (∀ (wx:World) (g:Value),zjb wx g (Nat.gcd n d)->wx.cell? (ptr g 0)=some (.int .u32 1)):=zH (fun wx g h=>by
  rw[hg]at h
  have h1:=h.v
  rw[zei]at h1
  exact h1.cell 0 (by simp))
 have HG1:=zH hg1
 clear hn5 hd5 hg hg1 hn0
 go_enter Tryz.func71,Tryz.ntmps71
 go_wp2_with (first
  |(go_at_call 106;first
   |((with_reducible refine(zra va n _ (ha.below (zca _ _))).mono ?_);rintro e w1 ⟨x1,rfl,hx1,hb1⟩;have s1:=hx1.v.sl;have l1:slen x1=zda n:=hx1.v.len)
   |((with_reducible refine(zra vb d _ ((hb.below (zca _ _)).below hb1)).mono ?_);rintro e w2 ⟨x2,rfl,hx2,hb2⟩
     have hx12:=hx1.below hb2
     have hC2:=((C3.new w 38 (.bool false) (.slice none 0 0) (.slice none 0 0)).belowS hb1).belowS hb2
     have hbw2:=zaa (zaa (zca w (.cells #[.bool false, .slice none 0 0, .slice none 0 0] 38)) hb1) hb2))
  |(go_at_call 149;(with_reducible refine(zen x1 x2 n d _ hx12.nat hx2.nat HN5.out HD5.out).mono ?_);rintro e w3 ⟨g,rfl,hg,hb3⟩
    have sg:=hg.v.sl
    have lg:slen g=1:=hg.v.len.trans HG1.out
    have hgc:=HGC.out _ _ hg
    have hx13:=hx12.below hb3
    have hx23:=hx2.below hb3
    have hC3:=hC2.belowS hb3
    have hbw3:=zaa hbw2 hb3
    clear hx1 hx2 hx12 hC2 s1 l1
    obtain⟨a1,m1,k1,rfl,_⟩:=hx13.v.sl
    obtain⟨a2,m2,k2,rfl,_⟩:=hx23.v.sl
    have HC3:=zH hC3
    obtain⟨_,c0,c1,c2,f0,f1,f2⟩:=hC3))
 have hF:=HF.out _ _ _ hx13 hx23
 refine zab rfl rfl Tryz.aggF Tryz.sizeF (HC3.out.set _ _ _) rfl ?_
 exact⟨_,rfl,hF.set3 HC3.out (fun z=>by simp) (fun z=>by simp) _ _ _,zga hbw3 (zLR _) _ _ _⟩
theorem zjn (s:Bool) (va vb:Value) (n d:Nat) (w:World) (ha:zob w va n) (hb:zob w vb d) (hd:d≠0) (hn0:n≠0) (hn5:zda n<=512) (hd5:zda d<=512) (hg1:1<Nat.gcd n d):
 Calls Tryz.prog 71 #[.bool s,va,vb] w (RF1 w (fq s n d)):=by
 have HN5:=zH hn5
 have HD5:=zH hd5
 obtain⟨G,hG⟩:∃G,Nat.gcd n d=G:=⟨_,rfl⟩
 have hGn:G∣n:=hG▸Nat.gcd_dvd_left n d
 have HF:Hid (∀ (wx:World) (xa xb:Value),zjb wx xa (n/G)->zjb wx xb (d/G)->zqa wx (.agg #[.bool s,xa,xb]) (fq s n d)):=zH (fun wx xa xb h1 h2=>by
  refine zxg hd (by rw[hG];exact h1) (by rw[hG];exact h2) ?_
  rw[hG,decide_eq_true (Nat.div_pos (Nat.le_of_dvd (Nat.pos_of_ne_zero hn0) hGn) (by omega)),Bool.and_true])
 have hnz:0<zda n:=by have :zda n≠0:=fun h=>hn0 (zta.1 h);omega
 have hnzb:(((zda n:Nat):Int)==0)=false:=by simp;omega
 rw[hG]at hg1
 have HGE:=zH hG
 have HG0:Hid (G≠0):=zH (by omega)
 have HG5:Hid (zda G<=512):=zH (zLT (zfb (Nat.le_of_dvd (Nat.pos_of_ne_zero hn0) hGn)) hn5)
 have HG1:=zH hg1
 obtain⟨L,hL⟩:∃L,zda G=L:=⟨_,rfl⟩
 have HLE:=zH hL
 have hL1:1<=L:=by have :zda G≠0:=fun h=>HG0.out (zta.1 h);omega
 have hL5:L<=512:=by have:=HG5.out;omega
 clear hn5 hd5 hG hg1 hn0 hGn hL
 by_cases h1:1<L
 ·skip
  go_enter Tryz.func71,Tryz.ntmps71
  go_wp2_with (first
   |(go_at_call 106;first
    |((with_reducible refine(zra va n _ (ha.below (zca _ _))).mono ?_);rintro e w1 ⟨x1,rfl,hx1,hb1⟩;have s1:=hx1.v.sl;have l1:slen x1=zda n:=hx1.v.len)
    |((with_reducible refine(zra vb d _ ((hb.below (zca _ _)).below hb1)).mono ?_);rintro e w2 ⟨x2,rfl,hx2,hb2⟩
      have hx12:=hx1.below hb2
      have hC2:=((C3.new w 38 (.bool false) (.slice none 0 0) (.slice none 0 0)).belowS hb1).belowS hb2
      have hbw2:=zaa (zaa (zca w (.cells #[.bool false, .slice none 0 0, .slice none 0 0] 38)) hb1) hb2))
   |(go_at_call 149;(with_reducible refine(zen x1 x2 n d _ hx12.nat hx2.nat HN5.out HD5.out).mono ?_);rintro e w3 ⟨g,rfl,hg,hb3⟩;rw[HGE.out]at hg
     have sg:=hg.v.sl
     have lg:=(show slen g=zda G from hg.v.len).trans HLE.out
     skip
     have hx13:=hx12.below hb3
     have hx23:=hx2.below hb3
     have hC3:=hC2.belowS hb3
     have hbw3:=zaa hbw2 hb3
     clear hx1 hx2 hx12 hC2 s1 l1)
   |(go_at_call 150;first
     |((with_reducible refine(zvj x1 g n G _ hx13.nat hg.nat HG0.out HN5.out HG5.out).mono ?_);rintro e w4 ⟨q1,r1,rfl,hq1,_,hb4⟩
       have hg4:=hg.below hb4
       have hx24:=hx23.below hb4)
     |((with_reducible refine(zvj x2 g d G _ hx24.nat hg4.nat HG0.out HD5.out HG5.out).mono ?_);rintro e w5 ⟨q2,r2,rfl,hq2,_,hb5⟩
       have hq15:=hq1.below hb5
       have hC5:=(hC3.belowS hb4).belowS hb5
       have hbw5:=zaa (zaa hbw3 hb4) hb5
       clear hg hg4 hx13 hx23 hx24 hC3 hq1
       obtain⟨a1,m1,k1,rfl,_⟩:=hq15.v.sl
       obtain⟨a2,m2,k2,rfl,_⟩:=hq2.v.sl
       have HC5:=zH hC5
       obtain⟨_,c0,c1,c2,f0,f1,f2⟩:=hC5)))
  have hF:=HF.out _ _ _ hq15 hq2
  refine zab rfl rfl Tryz.aggF Tryz.sizeF (HC5.out.set _ _ _) rfl ?_
  exact⟨_,rfl,hF.set3 HC5.out (fun z=>by simp) (fun z=>by simp) _ _ _,zga hbw5 (zLR _) _ _ _⟩
 ·obtain rfl:L=1:=by omega
  have hGb:G<4294967296:=by have:=zzb.1 (Nat.le_of_eq HLE.out);simpa [pw]using this
  have HGC:Hid (∀ (wx:World) (g:Value),zjb wx g G->wx.cell? (ptr g 0)=some (.int .u32 G)):=zH (fun wx g h=>by
   have h1:=h.v
   have e:zla G= [G]:=by rw[zxd HG0.out,Nat.mod_eq_of_lt hGb,Nat.div_eq_of_lt hGb,zbc]
   rw[e]at h1
   exact h1.cell 0 (by simp))
  have hG2:1<G:=HG1.out
  go_enter Tryz.func71,Tryz.ntmps71
  go_wp2_with (first
   |(go_at_call 106;first
    |((with_reducible refine(zra va n _ (ha.below (zca _ _))).mono ?_);rintro e w1 ⟨x1,rfl,hx1,hb1⟩;have s1:=hx1.v.sl;have l1:slen x1=zda n:=hx1.v.len)
    |((with_reducible refine(zra vb d _ ((hb.below (zca _ _)).below hb1)).mono ?_);rintro e w2 ⟨x2,rfl,hx2,hb2⟩
      have hx12:=hx1.below hb2
      have hC2:=((C3.new w 38 (.bool false) (.slice none 0 0) (.slice none 0 0)).belowS hb1).belowS hb2
      have hbw2:=zaa (zaa (zca w (.cells #[.bool false, .slice none 0 0, .slice none 0 0] 38)) hb1) hb2))
   |(go_at_call 149;(with_reducible refine(zen x1 x2 n d _ hx12.nat hx2.nat HN5.out HD5.out).mono ?_);rintro e w3 ⟨g,rfl,hg,hb3⟩;rw[HGE.out]at hg
     have sg:=hg.v.sl
     have lg:=(show slen g=zda G from hg.v.len).trans HLE.out
     have hgc:=HGC.out _ _ hg
     have hx13:=hx12.below hb3
     have hx23:=hx2.below hb3
     have hC3:=hC2.belowS hb3
     have hbw3:=zaa hbw2 hb3
     clear hx1 hx2 hx12 hC2 s1 l1)
   |(go_at_call 150;first
     |((with_reducible refine(zvj x1 g n G _ hx13.nat hg.nat HG0.out HN5.out HG5.out).mono ?_);rintro e w4 ⟨q1,r1,rfl,hq1,_,hb4⟩
       have hg4:=hg.below hb4
       have hx24:=hx23.below hb4)
     |((with_reducible refine(zvj x2 g d G _ hx24.nat hg4.nat HG0.out HD5.out HG5.out).mono ?_);rintro e w5 ⟨q2,r2,rfl,hq2,_,hb5⟩
       have hq15:=hq1.below hb5
       have hC5:=(hC3.belowS hb4).belowS hb5
       have hbw5:=zaa (zaa hbw3 hb4) hb5
       clear hg hg4 hx13 hx23 hx24 hC3 hq1
       obtain⟨a1,m1,k1,rfl,_⟩:=hq15.v.sl
       obtain⟨a2,m2,k2,rfl,_⟩:=hq2.v.sl
       have HC5:=zH hC5
       obtain⟨_,c0,c1,c2,f0,f1,f2⟩:=hC5)))
  have hF:=HF.out _ _ _ hq15 hq2
  refine zab rfl rfl Tryz.aggF Tryz.sizeF (HC5.out.set _ _ _) rfl ?_
  exact⟨_,rfl,hF.set3 HC5.out (fun z=>by simp) (fun z=>by simp) _ _ _,zga hbw5 (zLR _) _ _ _⟩
theorem zpe (s:Bool) (va vb:Value) (n d:Nat) (w:World) (ha:zob w va n) (hb:zob w vb d) (hd:d≠0) (hn5:zda n<=512) (hd5:zda d<=512):
 Calls Tryz.prog 71 #[.bool s,va,vb] w (RF1 w (fq s n d)):=by
 have h0:Nat.gcd n d≠0:=fun h=>hd (Nat.gcd_eq_zero_iff.1 h).2
 rcases Nat.eq_zero_or_pos n with hn | hn
 ·subst hn;exact zin s va vb d w ha hb hd
 ·rcases Nat.lt_or_ge 1 (Nat.gcd n d)with h | h
  ·exact zjn s va vb n d w ha hb hd (by omega) hn5 hd5 h
  ·exact r2lowest_one s va vb n d w ha hb hd (by omega) hn5 hd5 (by omega)
theorem ret_u64 {a b:Int} (h:a=b):Ending.returned (.int .u64 a)=Ending.returned (.int .u64 b):=by rw[h]
theorem size_any (z:Int) (w:World) (h1: -9223372036854775808<=z) (h2:z<9223372036854775808):
 Calls Tryz.prog 73 #[.int .i64 z] w fun e w'=>e= .returned (.int .u64 (z.natAbs:Nat))/\w=w':=by
 rcases Int.lt_or_le z 0 with h | h
 ·obtain⟨m,hm⟩:∃m:Nat,z= -((m:Int)+1):=⟨(-(z+1)).toNat,by omega⟩
  have e:z.natAbs=m+1:=by omega
  have hmb:m<=9223372036854775807:=by omega
  rw[e]
  subst hm
  clear e h h2
  go_enter Tryz.func73,Tryz.ntmps73
  go_wp2_with fail
  go_ret
  exact⟨ret_u64 (by omega),rfl⟩
 ·obtain⟨m,rfl⟩:∃m:Nat,z=(m:Int):=⟨z.natAbs,by omega⟩
  have e:(m:Int).natAbs=m:=by omega
  rw[e]
  have hmb:m<=9223372036854775807:=by omega
  clear e h h1 h2
  go_enter Tryz.func73,Tryz.ntmps73
  go_wp2_with fail
  go_ret
  exact⟨ret_u64 (by omega),rfl⟩
set_option maxHeartbeats 800000
theorem r2make_any (a b:Int) (w:World) (ha1: -9223372036854775808<=a) (ha2:a<9223372036854775808) (hb1: -9223372036854775808<=b) (hb2:b<9223372036854775808) (hb:b≠0):
 Calls Tryz.prog 18 #[.int .i64 a, .int .i64 b] w (RF0 w (fq (!decide (a<0)==decide (b<0)) a.natAbs b.natAbs)):=by
 have HA:=zH (And.intro ha1 ha2)
 have HB:=zH (And.intro hb1 hb2)
 have hbn:b.natAbs≠0:=by omega
 have HBN:=zH hbn
 have h1:∀z:Int,-9223372036854775808<=z->z<9223372036854775808->zda z.natAbs<=512:=fun z _ _=>zzb.2 (zLM (show z.natAbs<pw 2 by have :pw 2=18446744073709551616:=rfl;omega) (zzu (by omega)))
 have H1:=zH (h1 a ha1 ha2)
 have H2:=zH (h1 b hb1 hb2)
 have HA6:Hid (a.natAbs<18446744073709551616):=zH (by omega)
 have HB6:Hid (b.natAbs<18446744073709551616):=zH (by omega)
 have h9:(b==0)=false:=by simpa using hb
 clear ha1 ha2 hb1 hb2 hbn h1 hb
 go_enter Tryz.func18,Tryz.ntmps18
 go_wp2_with (first
  |(go_at_call 73;first
   |((with_reducible refine(size_any a _ HA.out.1 HA.out.2).mono ?_);rintro e w' ⟨rfl,rfl⟩)
   |((with_reducible refine(size_any b _ HB.out.1 HB.out.2).mono ?_);rintro e w' ⟨rfl,rfl⟩))
  |(go_at_call 72;first
   |((with_reducible refine(zkd a.natAbs HA6.out _).mono ?_);rintro e w1 ⟨x,rfl,hx,hx1⟩)
   |((with_reducible refine(zkd b.natAbs HB6.out _).mono ?_);rintro e w2 ⟨y,rfl,hy,hy1⟩;have hx2:=hx.below hy1))
  |(go_at_call 71;(with_reducible refine(zpe _ x y a.natAbs b.natAbs _ hx2.nat hy.nat HBN.out H1.out H2.out).mono ?_);rintro e w3 ⟨v,rfl,hv,hv1⟩
    obtain⟨t,x1,y1,rfl,⟨a1,l1,k1,rfl,_⟩,⟨a2,l2,k2,rfl,_⟩⟩:=hv.isF
    have hC:=(((C3.new w 38 (.bool false) (.slice none 0 0) (.slice none 0 0)).belowS hx1).belowS hy1).belowS hv1
    have HC:=zH hC
    have hbz:=zaa (zaa (zaa (zca w (.cells #[.bool false, .slice none 0 0, .slice none 0 0] 38)) hx1) hy1) hv1
    obtain⟨_,d0,d1,d2,e0,e1,e2⟩:=hC))
 refine zoa rfl rfl Tryz.aggF Tryz.sizeF (HC.out.set _ _ _) rfl ?_
 exact⟨_,rfl,hv.set3 HC.out (fun z=>by simp) (fun z=>by simp) _ _ _,zga hbz (zLR _) _ _ _⟩
theorem RF0.eq {w0:World} {q q':Rat} {e:Ending} {w:World} (h:RF0 w0 q e w) (hq:q=q'):RF0 w0 q' e w:=hq▸h
theorem zgf (a b:Nat) (w:World) (ha:a<4294967296) (hb:b<4294967296) (hb0:b≠0):
 Calls Tryz.prog 18 #[.int .i64 a, .int .i64 b] w (RF0 w (fq false a b)):=
 (r2make_any a b w (by omega) (by omega) (by omega) (by omega) (by omega)).mono fun _ _ h=>h.eq (by
  rw[decide_eq_false (show ¬ ((a:Nat):Int)<0 by omega),decide_eq_false (show ¬ ((b:Nat):Int)<0 by omega)];rfl)
theorem r2make_01 (w:World):Calls Tryz.prog 18 #[.int .i64 0, .int .i64 1] w (RF0 w 0):=
 (zgf 0 1 w (by decide) (by decide) (by decide)).mono fun _ _ h=>h.eq (by decide)
theorem r2make_11 (w:World):Calls Tryz.prog 18 #[.int .i64 1, .int .i64 1] w (RF0 w 1):=
 (zgf 1 1 w (by decide) (by decide) (by decide)).mono fun _ _ h=>h.eq (by decide)
theorem r2make_n1 (n:Nat) (w:World) (hn:n<4294967296):Calls Tryz.prog 18 #[.int .i64 n, .int .i64 1] w (RF0 w (fq false n 1)):=
 zgf n 1 w hn (by decide) (by decide)
theorem zwi (w:World):Calls Tryz.prog 20 #[.int .i64 0] w (RF1 w 0):=by
 go_enter Tryz.func20,Tryz.ntmps20
 go_wp2_with (go_at_call 18;(with_reducible refine(r2make_01 _).mono ?_);rintro e w1 ⟨v,rfl,hv,hb1⟩
              obtain⟨t9,x9,y9,rfl,⟨a1,l91,k1,rfl,_⟩,⟨a2,l92,k2,rfl,_⟩⟩:=hv.isF
              have hr:=((C3.new w 38 (.bool false) (.slice none 0 0) (.slice none 0 0)).belowS hb1).allocS (.cells #[.bool t9, .slice a1 l91 k1, .slice a2 l92 k2] 38)
              have hv2:=hv.below (zca w1 (.cells #[.bool t9, .slice a1 l91 k1, .slice a2 l92 k2] 38))
              have hb2:=zaa (zaa (zca w (.cells #[.bool false, .slice none 0 0, .slice none 0 0] 38)) hb1) (zca w1 (.cells #[.bool t9, .slice a1 l91 k1, .slice a2 l92 k2] 38))
              have HR:=zH hr
              obtain⟨_,d1,d2,d3,d4,d5,d6⟩:=hr)
 refine zab rfl rfl Tryz.aggF Tryz.sizeF (HR.out.set _ _ _) rfl ?_
 exact⟨_,rfl,hv2.set3 HR.out (fun z=>by simp) (fun z=>by simp) _ _ _,zga hb2 (zLR _) _ _ _⟩
theorem zas (w:World):Calls Tryz.prog 20 #[.int .i64 1] w (RF1 w 1):=by
 go_enter Tryz.func20,Tryz.ntmps20
 go_wp2_with (go_at_call 18;(with_reducible refine(r2make_11 _).mono ?_);rintro e w1 ⟨v,rfl,hv,hb1⟩
              obtain⟨t9,x9,y9,rfl,⟨a1,l91,k1,rfl,_⟩,⟨a2,l92,k2,rfl,_⟩⟩:=hv.isF
              have hr:=((C3.new w 38 (.bool false) (.slice none 0 0) (.slice none 0 0)).belowS hb1).allocS (.cells #[.bool t9, .slice a1 l91 k1, .slice a2 l92 k2] 38)
              have hv2:=hv.below (zca w1 (.cells #[.bool t9, .slice a1 l91 k1, .slice a2 l92 k2] 38))
              have hb2:=zaa (zaa (zca w (.cells #[.bool false, .slice none 0 0, .slice none 0 0] 38)) hb1) (zca w1 (.cells #[.bool t9, .slice a1 l91 k1, .slice a2 l92 k2] 38))
              have HR:=zH hr
              obtain⟨_,d1,d2,d3,d4,d5,d6⟩:=hr)
 refine zab rfl rfl Tryz.aggF Tryz.sizeF (HR.out.set _ _ _) rfl ?_
 exact⟨_,rfl,hv2.set3 HR.out (fun z=>by simp) (fun z=>by simp) _ _ _,zga hb2 (zLR _) _ _ _⟩
theorem zdp (n:Nat) (w:World) (hn:n<4294967296):Calls Tryz.prog 20 #[.int .i64 n] w (RF1 w (fq false n 1)):=by
 have HN:=zH hn
 clear hn
 go_enter Tryz.func20,Tryz.ntmps20
 go_wp2_with (go_at_call 18;(with_reducible refine(r2make_n1 n _ HN.out).mono ?_);rintro e w1 ⟨v,rfl,hv,hb1⟩
              obtain⟨t9,x9,y9,rfl,⟨a1,l91,k1,rfl,_⟩,⟨a2,l92,k2,rfl,_⟩⟩:=hv.isF
              have hr:=((C3.new w 38 (.bool false) (.slice none 0 0) (.slice none 0 0)).belowS hb1).allocS (.cells #[.bool t9, .slice a1 l91 k1, .slice a2 l92 k2] 38)
              have hv2:=hv.below (zca w1 (.cells #[.bool t9, .slice a1 l91 k1, .slice a2 l92 k2] 38))
              have hb2:=zaa (zaa (zca w (.cells #[.bool false, .slice none 0 0, .slice none 0 0] 38)) hb1) (zca w1 (.cells #[.bool t9, .slice a1 l91 k1, .slice a2 l92 k2] 38))
              have HR:=zH hr
              obtain⟨_,d1,d2,d3,d4,d5,d6⟩:=hr)
 refine zab rfl rfl Tryz.aggF Tryz.sizeF (HR.out.set _ _ _) rfl ?_
 exact⟨_,rfl,hv2.set3 HR.out (fun z=>by simp) (fun z=>by simp) _ _ _,zga hb2 (zLR _) _ _ _⟩
theorem zvp {w:World} {a1 a2 a3 a4 a5 a6:Addr} {x1 x2 x3 x4 x5 x6:Value} (h:w.cell? a1=some x1/\w.cell? a2=some x2/\w.cell? a3=some x3/\w.cell? a4=some x4/\w.cell? a5=some x5/\w.cell? a6=some x6) {p:Addr}
 (h1:p.block≠a1.block) (h2:p.block≠a2.block) (h3:p.block≠a3.block) (h4:p.block≠a4.block) (h5:p.block≠a5.block) (h6:p.block≠a6.block) (u:Value):
 (w.setCell p u).cell? a1=some x1/\(w.setCell p u).cell? a2=some x2/\(w.setCell p u).cell? a3=some x3/\(w.setCell p u).cell? a4=some x4/\(w.setCell p u).cell? a5=some x5/\(w.setCell p u).cell? a6=some x6:=by
 have key:∀a x,w.cell? a=some x->p.block≠a.block->(w.setCell p u).cell? a=some x:=fun a x ha hp=>by
  rw[World.cell?_setCell_other _ _ _ _ (fun e=>hp (by rw[e]))];exact ha
 obtain⟨k1,k2,k3,k4,k5,k6⟩:=h
 exact⟨key _ _ k1 h1,key _ _ k2 h2,key _ _ k3 h3,key _ _ k4 h4,key _ _ k5 h5,key _ _ k6 h6⟩
theorem zji (p q:Rat):zsr p q=0↔p=q:=by
 unfold zsr
 constructor
 ·intro h
  split at h
  ·omega
  ·split at h
   ·omega
   ·next h1 h2=>exact Rat.le_antisymm (Rat.not_lt.1 h2) (Rat.not_lt.1 h1)
 ·rintro rfl
  rw[if_neg (Rat.lt_irrefl),if_neg (Rat.lt_irrefl)]
set_option maxHeartbeats 1600000
theorem zke (va vb:Value) (m n:Nat) (w:World) (ha:zob w va m) (hb:zob w vb n) (hm:zda m<=128) (hn:zda n<=128):
 Calls Tryz.prog 74 #[va,vb] w (RNat w (m*n)):=by
 have HM:=zH (show zda m<=512 by omega)
 have HN:=zH (show zda n<=512 by omega)
 have HMN:Hid (zda (m*n)<=512):=zH (by
  have h1:=zzb.1 hm
  have h2:=zzb.1 hn
  refine zzb.2 ?_
  have h3:m*n<=pw 128*pw 128:=Nat.mul_le_mul (by omega) (by omega)
  have h4:pw 128*pw 128<pw 512:=by decide+kernel
  omega)
 clear hm hn
 go_enter Tryz.func74,Tryz.ntmps74
 go_wp2_with (go_at_call 151;(with_reducible refine(rmul_any _ _ m n _ ha hb HM.out HN.out).mono ?_);rintro e1 w1 ⟨r,er,rfl,hr,hb1⟩)
 go_ret
 exact⟨r,rfl,(hr.1 HMN.out).2,hb1⟩
theorem zlo (v:Value) (q:Rat) (w:World) (h:zqa w v q) (hf:fits q):
 Calls Tryz.prog 49 #[v] w fun e w'=>e= .returned (.bool true)/\Below w.heap.size w w':=by
 obtain⟨a,b,rfl,ha,hb⟩:=h
 obtain⟨n1,n2⟩:=zrc (zuc hf)
 have hd0:0<zda q.den:=by
  rcases Nat.eq_zero_or_pos (zda q.den)with h | h
  ·have h1:=zzb.1 (Nat.le_of_eq h)
   have h2:=q.den_nz
   simp[pw]at h1
   omega
  ·exact h
 have hd1:decide ((0:Int)<(zda q.den:Nat))=true:=decide_eq_true (by omega)
 have hd2:decide (((zda q.den:Nat):Int)<=128)=true:=decide_eq_true (by omega)
 have hd3:decide (((zda q.num.natAbs:Nat):Int)<=128)=true:=decide_eq_true (by omega)
 obtain⟨aa,al,ak,rfl,_⟩:=id ha.v.sl
 obtain⟨ba,bl,bk,rfl,_⟩:=id hb.v.sl
 have hbx:=zca w (.cells #[.bool (decide (q<0)), .slice aa al ak, .slice ba bl bk] 38)
 have hC:=C3.new w 38 (.bool (decide (q<0))) (.slice aa al ak) (.slice ba bl bk)
 have HC:=zH hC
 have HA:=zH (ha.below hbx)
 have HB:=zH (hb.below hbx)
 obtain⟨_,c0,c1,c2,_,_,_⟩:=id hC
 clear hC hf hd1 hd2 hd3
 go_enter Tryz.func49,Tryz.ntmps49
 go_wp2_with (first
  |(go_at_call 106;(with_reducible refine(zra _ q.den _ HB.out.nat).mono ?_);rintro e1 w1 ⟨r1,rfl,hr1,hb1⟩
    have s1:=hr1.v.sl
    have l1:slen r1=zda q.den:=hr1.v.len
    obtain⟨_,c0,c1,c2,_,_,_⟩:=HC.out.belowS hb1)
  |(go_at_call 106;(with_reducible refine(zra _ q.den _ (HB.out.below hb1).nat).mono ?_);rintro e2 w2 ⟨r2,rfl,hr2,hb2⟩
    have s2:=hr2.v.sl
    have l2:slen r2=zda q.den:=hr2.v.len
    obtain⟨_,c0,c1,c2,_,_,_⟩:=HC.out.belowS (zaa hb1 hb2))
  |(go_at_call 106;(with_reducible refine(zra _ q.num.natAbs _ ((HA.out.below hb1).below hb2).nat).mono ?_);rintro e3 w3 ⟨r3,rfl,hr3,hb3⟩
    have s3:=hr3.v.sl
    have l3:slen r3=zda q.num.natAbs:=hr3.v.len))
 go_ret
 refine⟨?_,zaa (zaa (zaa hbx hb1) hb2) hb3⟩
 congr 2
 simp
 omega
theorem r2large_can (v:Value) (q:Rat) (w:World) (h:zqa w v q) (hf:fits q):
 Calls Tryz.prog 154 #[v] w fun e w'=>e= .returned (.bool false)/\Below w.heap.size w w':=by
 obtain⟨a,b,rfl,ha,hb⟩:=h
 obtain⟨n1,n2⟩:=zrc (zuc hf)
 obtain⟨aa,al,ak,rfl,_⟩:=id ha.v.sl
 obtain⟨ba,bl,bk,rfl,_⟩:=id hb.v.sl
 have e1:al=zda q.num.natAbs:=ha.v.len
 have e2:bl=zda q.den:=hb.v.len
 have n1':al<=128:=by omega
 have n2':bl<=128:=by omega
 have h1:¬ (128<al):=by omega
 have h2:¬ (128<bl):=by omega
 have hbx:=zca w (.cells #[.bool (decide (q<0)), .slice aa al ak, .slice ba bl bk] 38)
 have hC:=C3.new w 38 (.bool (decide (q<0))) (.slice aa al ak) (.slice ba bl bk)
 obtain⟨_,c0,c1,c2,_,_,_⟩:=id hC
 clear hC hf n1 n2 e1 e2
 go_enter Tryz.func154,Tryz.ntmps154
 go_wp2_with fail
 go_ret
 refine⟨?_,hbx⟩
 congr 2
 simp
 omega
theorem zuo (v:Value) (q:Rat) (w:World) (h:zqa w v q) (hf:fits q):Calls Tryz.prog 76 #[v] w (RF0 w q):=by
 obtain⟨a,b,rfl,ha,hb⟩:=id h
 obtain⟨aa,al,ak,rfl,_⟩:=id ha.v.sl
 obtain⟨ba,bl,bk,rfl,_⟩:=id hb.v.sl
 have hbx:=zca w (.cells #[.bool (decide (q<0)), .slice aa al ak, .slice ba bl bk] 38)
 have hb2:=zca (w.alloc (.cells #[.bool (decide (q<0)), .slice aa al ak, .slice ba bl bk] 38)) (.cells #[.bool false, .slice none 0 0, .slice none 0 0] 38)
 have hC:=(C3.new w 38 (.bool (decide (q<0))) (.slice aa al ak) (.slice ba bl bk)).belowS hb2
 have hR:=C3.newB (b:=w.heap.size+1) (w.alloc (.cells #[.bool (decide (q<0)), .slice aa al ak, .slice ba bl bk] 38)) 38 (.bool false) (.slice none 0 0) (.slice none 0 0) (by simp)
 have HC:=zH hC
 have HR:=zH hR
 have HF:=zH hf
 have HQ:=zH ((h.below hbx).below hb2)
 have hbb:=zaa hbx hb2
 obtain⟨_,c0,c1,c2,_,_,_⟩:=id hC
 clear hC hR hf h ha hb
 go_enter Tryz.func76,Tryz.ntmps76
 go_wp2_with (go_at_call 154;(with_reducible refine(r2large_can _ q _ HQ.out HF.out).mono ?_);rintro e1 w1 ⟨rfl,hb1⟩
              obtain⟨_,c0,c1,c2,_,_,_⟩:=HC.out.belowS hb1
              have HR1:=zH (HR.out.belowS hb1)
              obtain⟨_,d0,d1,d2,d3,d4,d5⟩:=HR1.out)
 refine zoa rfl rfl Tryz.aggF Tryz.sizeF (HR1.out.set _ _ _) rfl ?_
 exact⟨_,rfl,(HQ.out.below hb1).set3 HR1.out (fun z=>by simp) (fun z=>by simp) _ _ _,zga (zaa hbb hb1) (Nat.le_succ _) _ _ _⟩
theorem fq_mul_self (p q:Rat):fq (decide (p<0) != decide (q<0)) (p.num.natAbs*q.num.natAbs) (p.den*q.den)=p*q:=by rw[<-fq_mul,zvb,zvb]
theorem fq_mul_self' (p q:Rat):fq (!(decide (p<0)==decide (q<0))) (p.num.natAbs*q.num.natAbs) (p.den*q.den)=p*q:=fq_mul_self p q
theorem keep6b {X Y:World} {a1 a2 a3 a4 a5 a6:Addr} {x1 x2 x3 x4 x5 x6:Value} (h:X.cell? a1=some x1/\X.cell? a2=some x2/\X.cell? a3=some x3/\X.cell? a4=some x4/\X.cell? a5=some x5/\X.cell? a6=some x6) (hb:Below X.heap.size X Y):
 Y.cell? a1=some x1/\Y.cell? a2=some x2/\Y.cell? a3=some x3/\Y.cell? a4=some x4/\Y.cell? a5=some x5/\Y.cell? a6=some x6:=by
 obtain⟨k1,k2,k3,k4,k5,k6⟩:=h
 exact⟨zba hb k1,zba hb k2,zba hb k3,zba hb k4,zba hb k5,zba hb k6⟩
theorem r2mul_can (va vb:Value) (p q:Rat) (w:World) (ha:zqa w va p) (hb:zqa w vb q) (hp:fits p) (hq:fits q) (hf:fits (p*q)):Calls Tryz.prog 38 #[va,vb] w (RF0 w (p*q)):=by
 obtain⟨a1,a2,rfl,n1,n2⟩:=id ha
 obtain⟨b1,b2,rfl,m1,m2⟩:=id hb
 obtain⟨x1,y1,z1,rfl,_⟩:=id n1.v.sl
 obtain⟨x2,y2,z2,rfl,_⟩:=id n2.v.sl
 obtain⟨x3,y3,z3,rfl,_⟩:=id m1.v.sl
 obtain⟨x4,y4,z4,rfl,_⟩:=id m2.v.sl
 have k1:=zca w (.cells #[.bool (decide (p<0)), .slice x1 y1 z1, .slice x2 y2 z2] 38)
 have k2:=zca (w.alloc (.cells #[.bool (decide (p<0)), .slice x1 y1 z1, .slice x2 y2 z2] 38)) (.cells #[.bool (decide (q<0)), .slice x3 y3 z3, .slice x4 y4 z4] 38)
 have k3:=zca ((w.alloc (.cells #[.bool (decide (p<0)), .slice x1 y1 z1, .slice x2 y2 z2] 38)).alloc (.cells #[.bool (decide (q<0)), .slice x3 y3 z3, .slice x4 y4 z4] 38)) (.cells #[.bool false, .slice none 0 0, .slice none 0 0] 38)
 have H3:=zmc w 38 (.bool (decide (p<0))) (.slice x1 y1 z1) (.slice x2 y2 z2) (.bool (decide (q<0))) (.slice x3 y3 z3) (.slice x4 y4 z4) (.bool false) (.slice none 0 0) (.slice none 0 0) _ rfl
 obtain⟨hA,hB,hR,hbw⟩:=H3
 have HA:=zH hA
 have HB:=zH hB
 have HR:=zH hR
 have HAP:=zH (ha.below hbw)
 have HBQ:=zH (hb.below hbw)
 have HP:=zH hp
 have HQ:=zH hq
 have HPQ:=zH hf
 have HL:=zH (And.intro (zrc (zuc hp)) (zrc (zuc hq)))
 obtain⟨_,c0,c1,c2,_,_,_⟩:=id hA
 obtain⟨_,d0,d1,d2,_,_,_⟩:=id hB
 clear hA hB hR ha hb n1 n2 m1 m2 hp hq hf k1 k2 k3
 go_enter Tryz.func38,Tryz.ntmps38
 go_upto_region 3 with(first
  |(go_at_call 49;(with_reducible refine(zlo _ p _ HAP.out HP.out).mono ?_);rintro e1 w1 ⟨rfl,hb1⟩
    obtain⟨_,c0,c1,c2,_,_,_⟩:=HA.out.belowS hb1
    obtain⟨_,d0,d1,d2,_,_,_⟩:=HB.out.belowS hb1)
  |(go_at_call 49;(with_reducible refine(zlo _ q _ (HBQ.out.below hb1) HQ.out).mono ?_);rintro e2 w2 ⟨rfl,hb2⟩))
 have b12:=zaa hb1 hb2
 have hD:=zja (B:=w2.heap.size) w2
 have b1D:=zaa b12 hD
 obtain⟨_,q1,q2,q3,_,_,_⟩:=HA.out.belowS b1D
 obtain⟨_,r1,r2,r3,_,_,_⟩:=HB.out.belowS b1D
 have HRD:=zH (HR.out.belowS b1D)
 have HAD:=zH (HAP.out.below b1D)
 have HBD:=zH (HBQ.out.below b1D)
 have hbwD:=zaa hbw b1D
 obtain⟨u1,u2,hu,nA,nB⟩:=HAD.out
 injection hu with hu
 injection hu with hu
 simp only[List.cons.injEq,and_true,true_and]at hu
 obtain⟨rfl,rfl⟩:=hu
 obtain⟨u1,u2,hu,mA,mB⟩:=HBD.out
 injection hu with hu
 injection hu with hu
 simp only[List.cons.injEq,and_true,true_and]at hu
 obtain⟨rfl,rfl⟩:=hu
 have kA:w.heap.size+1+1≠w.heap.size:=by omega
 have kB:w.heap.size+1+1≠w.heap.size+1:=by omega
 have HNN:=zH (And.intro nA (And.intro nB (And.intro mA mB)))
 have HDZ:Hid (p.den*q.den≠0):=zH (Nat.mul_ne_zero p.den_nz q.den_nz)
 have HN5:Hid (zda (p.num.natAbs*q.num.natAbs)<=512):=zH (zLT (zsd HL.out.1.1 HL.out.2.1) (by decide))
 have HD5:Hid (zda (p.den*q.den)<=512):=zH (zLT (zsd HL.out.1.2 HL.out.2.2) (by decide))
 clear nA nB mA mB c0 c1 c2 d0 d1 d2
 go_region_held3 (fun w'=>w'.cell? ⟨w.heap.size,0,none⟩=some (.bool (decide (p<0)))/\w'.cell? ⟨w.heap.size,1,none⟩=some (.slice x1 y1 z1)/\w'.cell? ⟨w.heap.size,2,none⟩=some (.slice x2 y2 z2)/\w'.cell? ⟨w.heap.size+1,0,none⟩=some (.bool (decide (q<0)))/\w'.cell? ⟨w.heap.size+1,1,none⟩=some (.slice x3 y3 z3)/\w'.cell? ⟨w.heap.size+1,2,none⟩=some (.slice x4 y4 z4)) (first
  | with_reducible exact⟨q1,q2,q3,r1,r2,r3⟩
  | with_reducible exact keep6b (by assumption) (by assumption)
  | with_reducible exact zvp (zvp (zvp (by assumption) kA kA kA kB kB kB _) kA kA kA kB kB kB _) kA kA kA kB kB kB _) (first
  |(go_at_call 74;(with_reducible refine(zke _ _ p.num.natAbs q.num.natAbs _ HNN.out.1.nat HNN.out.2.2.1.nat HL.out.1.1 HL.out.2.1).mono ?_);rintro e3 w3 ⟨v3,rfl,hv3,hb3⟩)
  |(go_at_call 74;(with_reducible refine(zke _ _ p.den q.den _ (HNN.out.2.1.below hb3).nat (HNN.out.2.2.2.below hb3).nat HL.out.1.2 HL.out.2.2).mono ?_);rintro e4 w4 ⟨v4,rfl,hv4,hb4⟩)
  |(go_at_call 71;(with_reducible refine(zpe _ _ _ (p.num.natAbs*q.num.natAbs) (p.den*q.den) _ (hv3.below hb4).nat hv4.nat HDZ.out HN5.out HD5.out).mono ?_);rintro e5 w5 ⟨v5,rfl,hv5,hb5⟩)
  |(go_at_call 76;(with_reducible refine(zuo _ (p*q) _ (by(have h9:=hv5;rw[fq_mul_self']at h9;exact h9)) HPQ.out).mono ?_);rintro e6 w6 ⟨v6,rfl,hv6,hb6⟩
    obtain⟨t9,x9,y9,rfl,⟨a91,l91,k91,rfl,_⟩,⟨a92,l92,k92,rfl,_⟩⟩:=hv6.isF
    have HR6:=zH ((((HRD.out.belowS hb3).belowS hb4).belowS hb5).belowS hb6)
    obtain⟨_,g0,g1,g2,g3,g4,g5⟩:=HR6.out))
 have hbE:=zaa (zaa (zaa (zaa hbwD hb3) hb4) hb5) hb6
 go_wp2_with fail
 refine zoa rfl rfl Tryz.aggF Tryz.sizeF (HR6.out.set _ _ _) rfl ?_
 exact⟨_,rfl,hv6.set3 HR6.out (fun z=>by simp) (fun z=>by simp) _ _ _,zga hbE (zLT (Nat.le_succ _) (Nat.le_succ _)) _ _ _⟩
theorem zfg {d:Nat}:0<zda d↔d≠0:=by
 constructor
 ·intro h e;subst e;have:=zta.2 (rfl:(0:Nat)=0);omega
 ·intro h;have :zda d≠0:=fun e=>h (zta.1 e);omega
theorem okN_iff (n d:Nat):okN n d↔0<zda d/\zda d<=128/\zda n<=128:=by
 constructor
 ·intro h;exact⟨zfg.2 h.1,zgd (k:=128) h.2.1,zgd (k:=128) h.2.2⟩
 ·intro h;exact⟨zfg.1 h.1,zrg (k:=128) h.2.1,zrg (k:=128) h.2.2⟩
set_option maxHeartbeats 800000 in
theorem zot (v:Value) (s:Bool) (n d:Nat) (w:World) (h:zdc w v s n d):
 Calls Tryz.prog 49 #[v] w fun e w'=>e= .returned (.bool (decide (okN n d)))/\Below w.heap.size w w':=by
 obtain⟨a,b,rfl,ha,hb⟩:=h
 obtain⟨aa,al,ak,rfl,_⟩:=id ha.slen.1
 obtain⟨ba,bl,bk,rfl,_⟩:=id hb.slen.1
 have hbx:=zca w (.cells #[.bool s, .slice aa al ak, .slice ba bl bk] 38)
 have hC:=C3.new w 38 (.bool s) (.slice aa al ak) (.slice ba bl bk)
 have HC:=zH hC
 have HA:=zH (ha.below hbx)
 have HB:=zH (hb.below hbx)
 have HO:=zH (okN_iff n d)
 obtain⟨D,hD⟩:∃D,zda d=D:=⟨_,rfl⟩
 obtain⟨M,hM⟩:∃M,zda n=M:=⟨_,rfl⟩
 have HD:=zH hD
 have HM:=zH hM
 obtain⟨_,c0,c1,c2,_,_,_⟩:=id hC
 clear hC ha hb hD hM
 have HOB:Hid (decide (okN n d)=(decide (0<D)&&(decide (D<=128)&&decide (M<=128)))):=zH (by
  rw[Bool.eq_iff_iff]
  simp only[Bool.and_eq_true,decide_eq_true_eq]
  rw[HO.out,HD.out,HM.out])
 by_cases g1:0<D
 ·by_cases g2:D<=128
  ·skip
   go_enter Tryz.func49,Tryz.ntmps49
   go_wp2_with (first
    |(go_at_call 106;(with_reducible refine(zra _ d _ HB.out).mono ?_);rintro e1 w1 ⟨r1,rfl,hr1,hb1⟩
      have s1:=hr1.v.sl
      have l1:slen r1=D:=hr1.v.len.trans HD.out
      have hbb:=zaa hbx hb1
      obtain⟨_,c0,c1,c2,_,_,_⟩:=HC.out.belowS hb1)
    |(go_at_call 106;(with_reducible refine(zra _ d _ (HB.out.below hb1)).mono ?_);rintro e2 w2 ⟨r2,rfl,hr2,hb2⟩
      have s2:=hr2.v.sl
      have l2:slen r2=D:=hr2.v.len.trans HD.out
      have hb12:=zaa hb1 hb2
      have hbb:=zaa hbx hb12
      obtain⟨_,c0,c1,c2,_,_,_⟩:=HC.out.belowS hb12)
    |(go_at_call 106;(with_reducible refine(zra _ n _ (HA.out.below hb12)).mono ?_);rintro e3 w3 ⟨r3,rfl,hr3,hb3⟩
      have s3:=hr3.v.sl
      have l3:slen r3=M:=hr3.v.len.trans HM.out
      have hbb:=zaa hbb hb3))
   go_ret
   refine⟨?_,hbb⟩
   rw[HOB.out]
   simp[g1,g2]
   omega
  ·skip
   go_enter Tryz.func49,Tryz.ntmps49
   go_wp2_with (first
    |(go_at_call 106;(with_reducible refine(zra _ d _ HB.out).mono ?_);rintro e1 w1 ⟨r1,rfl,hr1,hb1⟩
      have s1:=hr1.v.sl
      have l1:slen r1=D:=hr1.v.len.trans HD.out
      have hbb:=zaa hbx hb1
      obtain⟨_,c0,c1,c2,_,_,_⟩:=HC.out.belowS hb1)
    |(go_at_call 106;(with_reducible refine(zra _ d _ (HB.out.below hb1)).mono ?_);rintro e2 w2 ⟨r2,rfl,hr2,hb2⟩
      have s2:=hr2.v.sl
      have l2:slen r2=D:=hr2.v.len.trans HD.out
      have hb12:=zaa hb1 hb2
      have hbb:=zaa hbx hb12
      obtain⟨_,c0,c1,c2,_,_,_⟩:=HC.out.belowS hb12)
    |(go_at_call 106;(with_reducible refine(zra _ n _ (HA.out.below hb12)).mono ?_);rintro e3 w3 ⟨r3,rfl,hr3,hb3⟩
      have s3:=hr3.v.sl
      have l3:slen r3=M:=hr3.v.len.trans HM.out
      have hbb:=zaa hbb hb3))
   go_ret
   refine⟨?_,hbb⟩
   rw[HOB.out]
   simp[g1,g2]
 ·skip
  go_enter Tryz.func49,Tryz.ntmps49
  go_wp2_with (first
   |(go_at_call 106;(with_reducible refine(zra _ d _ HB.out).mono ?_);rintro e1 w1 ⟨r1,rfl,hr1,hb1⟩
     have s1:=hr1.v.sl
     have l1:slen r1=D:=hr1.v.len.trans HD.out
     have hbb:=zaa hbx hb1
     obtain⟨_,c0,c1,c2,_,_,_⟩:=HC.out.belowS hb1)
   |(go_at_call 106;(with_reducible refine(zra _ d _ (HB.out.below hb1)).mono ?_);rintro e2 w2 ⟨r2,rfl,hr2,hb2⟩
     have s2:=hr2.v.sl
     have l2:slen r2=D:=hr2.v.len.trans HD.out
     have hb12:=zaa hb1 hb2
     have hbb:=zaa hbx hb12
     obtain⟨_,c0,c1,c2,_,_,_⟩:=HC.out.belowS hb12)
   |(go_at_call 106;(with_reducible refine(zra _ n _ (HA.out.below hb12)).mono ?_);rintro e3 w3 ⟨r3,rfl,hr3,hb3⟩
     have s3:=hr3.v.sl
     have l3:slen r3=M:=hr3.v.len.trans HM.out
     have hbb:=zaa hbb hb3))
  go_ret
  refine⟨?_,hbb⟩
  rw[HOB.out]
  simp[g1]
theorem zlm (v:Value) (s:Bool) (n d:Nat) (w:World) (h:zdc w v s n d) (hk:okN n d):
 Calls Tryz.prog 49 #[v] w fun e w'=>e= .returned (.bool true)/\Below w.heap.size w w':=
 (zot v s n d w h).mono fun e w' ⟨h1,h2⟩=>⟨by rw[h1,decide_eq_true hk],h2⟩
theorem zms (v:Value) (s:Bool) (n d:Nat) (w:World) (h:zdc w v s n d) (hk:¬okN n d):
 Calls Tryz.prog 49 #[v] w fun e w'=>e= .returned (.bool false)/\Below w.heap.size w w':=
 (zot v s n d w h).mono fun e w' ⟨h1,h2⟩=>⟨by rw[h1,decide_eq_false hk],h2⟩
set_option maxHeartbeats 1600000
theorem fits_nlen (q:Rat):fits q↔zda q.num.natAbs<=128/\zda q.den<=128:=
 ⟨fun h=>⟨zgd (k:=128) h.1,zgd (k:=128) h.2⟩,fun h=>⟨zrg (k:=128) h.1,zrg (k:=128) h.2⟩⟩
theorem r2large_any (v:Value) (q:Rat) (w:World) (h:zqa w v q) (b:Bool) (hf:b=true↔¬fits q):
 Calls Tryz.prog 154 #[v] w fun e w'=>e= .returned (.bool b)/\Below w.heap.size w w':=by
 obtain⟨a,c,rfl,ha,hc⟩:=h
 have hn:=fits_nlen q
 obtain⟨aa,al,ak,rfl,_⟩:=id ha.v.sl
 obtain⟨ba,bl,bk,rfl,_⟩:=id hc.v.sl
 have e1:al=zda q.num.natAbs:=ha.v.len
 have e2:bl=zda q.den:=hc.v.len
 rw[<-e1,<-e2]at hn
 have HF:Hid (b=decide (128<al\/128<bl)):=zH (by
  by_cases h9:128<al\/128<bl
  ·rw[decide_eq_true h9];exact hf.2 (fun h=>by have:=hn.1 h;omega)
  ·rw[decide_eq_false h9];exact Bool.eq_false_iff.2 (fun h=>hf.1 h (hn.2 (by omega))))
 have hbx:=zca w (.cells #[.bool (decide (q<0)), .slice aa al ak, .slice ba bl bk] 38)
 have hC:=C3.new w 38 (.bool (decide (q<0))) (.slice aa al ak) (.slice ba bl bk)
 obtain⟨_,c0,c1,c2,_,_,_⟩:=id hC
 clear hC hf hn e1 e2
 by_cases g1:128<al
 ·go_enter Tryz.func154,Tryz.ntmps154
  go_wp2_with fail
  go_ret
  refine⟨?_,hbx⟩
  rw[HF.out]
  simp[g1]
 ·go_enter Tryz.func154,Tryz.ntmps154
  go_wp2_with fail
  go_ret
  refine⟨?_,hbx⟩
  rw[HF.out]
  simp[g1]
  rw[decide_eq_false (by omega),Bool.false_or]
  by_cases g2:128<bl
  ·rw[decide_eq_true g2,decide_eq_true (by omega)]
  ·rw[decide_eq_false g2,decide_eq_false (by omega)]
theorem r2fits_yes (v:Value) (q:Rat) (w:World) (h:zqa w v q) (hf:fits q):Calls Tryz.prog 76 #[v] w (zmi w q):=
 (zuo v q w h hf).mono fun e w' ⟨v',he,hv,hb⟩=>⟨v',0,he,hb,fun _=>⟨rfl,hv⟩,fun h=>absurd hf h⟩
theorem r2fits_no (v:Value) (q:Rat) (w:World) (h:zqa w v q) (hf:¬fits q):Calls Tryz.prog 76 #[v] w (zmi w q):=by
 obtain⟨a,b,rfl,ha,hb⟩:=id h
 obtain⟨aa,al,ak,rfl,_⟩:=id ha.v.sl
 obtain⟨ba,bl,bk,rfl,_⟩:=id hb.v.sl
 have hbx:=zca w (.cells #[.bool (decide (q<0)), .slice aa al ak, .slice ba bl bk] 38)
 have hb2:=zca (w.alloc (.cells #[.bool (decide (q<0)), .slice aa al ak, .slice ba bl bk] 38)) (.cells #[.bool false, .slice none 0 0, .slice none 0 0] 38)
 have hC:=(C3.new w 38 (.bool (decide (q<0))) (.slice aa al ak) (.slice ba bl bk)).belowS hb2
 have hR:=C3.newB (b:=w.heap.size+1) (w.alloc (.cells #[.bool (decide (q<0)), .slice aa al ak, .slice ba bl bk] 38)) 38 (.bool false) (.slice none 0 0) (.slice none 0 0) (by simp)
 have HC:=zH hC
 have HR:=zH hR
 have HF:=zH hf
 have HQ:=zH ((h.below hbx).below hb2)
 have hbb:=zaa hbx hb2
 obtain⟨_,c0,c1,c2,_,_,_⟩:=id hC
 clear hC hR hf h ha hb
 go_enter Tryz.func76,Tryz.ntmps76
 go_wp2_with (go_at_call 154;(with_reducible refine(r2large_any _ q _ HQ.out true ⟨fun _=>HF.out,fun _=>rfl⟩).mono ?_);rintro e1 w1 ⟨rfl,hb1⟩
              obtain⟨_,c0,c1,c2,_,_,_⟩:=HC.out.belowS hb1
              have HR1:=zH (HR.out.belowS hb1)
              obtain⟨_,d0,d1,d2,d3,d4,d5⟩:=HR1.out)
 refine zoa rfl rfl Tryz.aggF Tryz.sizeF (HR1.out.set _ _ _) rfl ?_
 exact⟨_,_,rfl,zga (zaa hbb hb1) (Nat.le_succ _) _ _ _,fun h=>absurd h HF.out,fun _=>⟨rfl,rfl⟩⟩
theorem zxi (v:Value) (q:Rat) (w:World) (h:zqa w v q):Calls Tryz.prog 76 #[v] w (zmi w q):=by
 by_cases hf:fits q
 ·exact r2fits_yes v q w h hf
 ·exact r2fits_no v q w h hf
theorem zus (va:Value) (s:Bool) (n d:Nat) (w:World) (ha:zdc w va s n d):
 Calls Tryz.prog 116 #[va] w (RRed w s n d):=by
 have hA:=ha
 obtain⟨xn,xd,rfl,hxn,hxd⟩:=ha
 obtain⟨an,ln,kn,rfl,_⟩:=hxn.slen.1
 obtain⟨ad,ld,kd,rfl,_⟩:=hxd.slen.1
 go_enter Tryz.func116,Tryz.ntmps116
 go_wp2_with fail
 obtain⟨W,hW⟩:∃W,W=((w.alloc (.cells #[.bool s, .slice an ln kn, .slice ad ld kd] 38)).alloc (.cells #[.bool false, .slice none 0 0, .slice none 0 0] 38)):=⟨_,rfl⟩
 obtain⟨bx,bz,hbw⟩:=zcf w 38 _ _ _ _ _ _ W hW
 rw[<-hW]
 clear hW
 have HBX:=zH bx
 have HBZ:=zH bz
 obtain⟨_,q1,q2,q3,q4,q5,q6⟩:=bx
 clear bz
 by_cases hk:okN n d
 ·have K:=zH hk
  have NN:=zH (zLT (zgd (n:=n) (k:=128) hk.2.2) (show 128<=512 by decide))
  have ND:=zH (zLT (zgd (n:=d) (k:=128) hk.2.1) (show 128<=512 by decide))
  have D0:=zH hk.1
  clear hk
  go_wp2_with (first
   |(go_at_call 49;(with_reducible refine(zlm _ s n d _ (hA.below hbw) K.out).mono ?_);rintro e9 w1 ⟨rfl,hv1⟩
     obtain⟨_,f1,f2,f3,f4,f5,f6⟩:=HBX.out.belowS hv1
     have hbw1:=zaa hbw hv1)
   |(go_at_call 71;(with_reducible refine(zpe s _ _ n d _ (hxn.below hbw1) (hxd.below hbw1) D0.out NN.out ND.out).mono ?_);rintro e9 w7 ⟨v,rfl,hv4,hv5⟩
     obtain⟨t9,x9,y9,rfl,⟨a1,l91,k1,rfl,_⟩,⟨a2,l92,k2,rfl,_⟩⟩:=hv4.isF
     have hC:=(HBZ.out.belowS hv1).belowS hv5
     have HC:=zH hC
     have hbz:=zaa hbw1 hv5
     obtain⟨_,d0,d1,d2,e0,e1,e2⟩:=hC))
  refine zoa rfl rfl Tryz.aggF Tryz.sizeF (HC.out.set _ _ _) rfl ?_
  exact⟨_,_,rfl,zga hbz (by omega) _ _ _,fun h=>⟨rfl,hv4.set3 HC.out (fun z=>by simp) (fun z=>by simp) _ _ _⟩,fun h=>absurd K.out h⟩
 ·have K:=zH hk
  clear hk
  go_wp2_with (first
   |(go_at_call 49;(with_reducible refine(zms _ s n d _ (hA.below hbw) K.out).mono ?_);rintro e9 w1 ⟨rfl,hv1⟩
     have hC:=HBZ.out.belowS hv1
     have HC:=zH hC
     have hbz:=zaa hbw hv1
     obtain⟨_,d0,d1,d2,e0,e1,e2⟩:=hC))
  refine zoa rfl rfl Tryz.aggF Tryz.sizeF (HC.out.set _ _ _) rfl ?_
  exact⟨_,_,rfl,zga hbz (by omega) _ _ _,fun h=>absurd h K.out,fun _=>⟨rfl,rfl⟩⟩
theorem rcmp_ge0 (va vb:Value) (m n:Nat) (w:World) (ha:zob w va m) (hb:zob w vb n) (h:n<=m):
 Calls Tryz.prog 77 #[va,vb] w fun e w'=>(∃c:Int,e= .returned (.int .i64 c)/\decide (0<=c)=true)/\Below w.heap.size w w':=
 (zee va vb m n w ha hb).mono fun _ _ ⟨a,b⟩=>⟨⟨_,a,by unfold zfj;rw[if_neg (by omega)];split<;>rfl⟩,b⟩
theorem rcmp_lt0 (va vb:Value) (m n:Nat) (w:World) (ha:zob w va m) (hb:zob w vb n) (h:m<n):
 Calls Tryz.prog 77 #[va,vb] w fun e w'=>(∃c:Int,e= .returned (.int .i64 c)/\decide (0<=c)=false)/\Below w.heap.size w w':=
 (zee va vb m n w ha hb).mono fun _ _ ⟨a,b⟩=>⟨⟨_,a,by rw[zkg h];rfl⟩,b⟩
theorem r2add_any (va vb:Value) (s t:Bool) (n d m e:Nat) (w:World) (ha:zdc w va s n d) (hb:zdc w vb t m e) (h1:okN n d) (h2:okN m e):
 Calls Tryz.prog 19 #[va,vb] w (zmi w (fq s n d+fq t m e)):=by
 have hA:=ha
 have hB:=hb
 obtain⟨xn,xd,rfl,hxn,hxd⟩:=ha
 obtain⟨yn,yd,rfl,hyn,hyd⟩:=hb
 obtain⟨an,ln,kn,rfl,_⟩:=hxn.slen.1
 obtain⟨ad,ld,kd,rfl,_⟩:=hxd.slen.1
 obtain⟨am,lm,km,rfl,_⟩:=hyn.slen.1
 obtain⟨ae,le,ke,rfl,_⟩:=hyd.slen.1
 have K1:=zH h1
 have K2:=zH h2
 clear h1 h2
 go_enter Tryz.func19,Tryz.ntmps19
 go_wp2_with fail
 obtain⟨W,hW⟩:∃W,W=(((w.alloc (.cells #[.bool s, .slice an ln kn, .slice ad ld kd] 38)).alloc (.cells #[.bool t, .slice am lm km, .slice ae le ke] 38)).alloc (.cells #[.bool false, .slice none 0 0, .slice none 0 0] 38)):=⟨_,rfl⟩
 obtain⟨bx,byy,bz,hbw⟩:=zmc w 38 _ _ _ _ _ _ _ _ _ W hW
 rw[<-hW]
 clear hW
 have HBX:=zH bx
 have HBY:=zH byy
 have HBZ:=zH bz
 obtain⟨_,q1,q2,q3,q4,q5,q6⟩:=bx
 obtain⟨_,r1,r2,r3,r4,r5,r6⟩:=byy
 go_wp2_with (first
  |(go_at_call 49;first
    |((with_reducible refine(zlm _ s n d _ (hA.below hbw) K1.out).mono ?_);rintro e9 w1 ⟨rfl,hv1⟩
      obtain⟨_,f1,f2,f3,f4,f5,f6⟩:=HBY.out.belowS hv1
      have hbw1:=hbw.trans (hv1.mono hbw.size))
    |((with_reducible refine(zlm _ t m e _ (hB.below hbw1) K2.out).mono ?_);rintro e9 w2 ⟨rfl,hv2⟩
      have hbx2:=(HBX.out.belowS hv1).belowS hv2
      have hby2:=(HBY.out.belowS hv1).belowS hv2
      have hbz2:=(HBZ.out.belowS hv1).belowS hv2
      have hbw2:=hbw1.trans (hv2.mono hbw1.size))))
 clear q1 q2 q3 q4 q5 q6 r1 r2 r3 r4 r5 r6 f1 f2 f3 f4 f5 f6
 have hd2:=zja (B:=w2.heap.size) w2
 have hD:=hbw2.trans (hd2.mono hbw2.size)
 have hbx3:=hbx2.belowS hd2
 have hby3:=hby2.belowS hd2
 have hbz3:=hbz2.belowS hd2
 clear hbx2 hby2 hbz2 hbw2 hv1 hv2 hbw hbw1 HBX HBY HBZ bz hd2
 have HX3:=zH hbx3
 have HY3:=zH hby3
 have HZ3:=zH hbz3
 obtain⟨_,q1,q2,q3,q4,q5,q6⟩:=hbx3
 obtain⟨_,r1,r2,r3,r4,r5,r6⟩:=hby3
 clear hbz3
 have g1:=hxn.below hD
 have g2:=hxd.below hD
 have g3:=hyn.below hD
 have g4:=hyd.below hD
 have l1:=zH (zrc K1.out)
 have l2:=zH (zrc K2.out)
 have tok1:True:=trivial
 have tok2:True:=trivial
 have tok3:True:=trivial
 go_region_held3 (fun w'=>w'.cell? ⟨w.heap.size,1,none⟩=some (.slice an ln kn)/\w'.cell? ⟨w.heap.size,2,none⟩=some (.slice ad ld kd)/\w'.cell? ⟨w.heap.size+1,1,none⟩=some (.slice am lm km)/\w'.cell? ⟨w.heap.size+1,2,none⟩=some (.slice ae le ke)) (exact⟨q2,q3,r2,r3⟩) (first
  |(go_at_call 74;have _t:=tok1;clear tok1 _t;(with_reducible refine(zke _ _ n e _ g1 g4 l1.out.1 l2.out.2).mono ?_);rintro e9 w3 ⟨p1,rfl,hp1,hp2⟩
    have X4:=HX3.out.belowS hp2
    have Y4:=HY3.out.belowS hp2
    have HX4:=zH X4
    have HY4:=zH Y4
    obtain⟨_,q1,q2,q3,q4,q5,q6⟩:=X4
    obtain⟨_,r1,r2,r3,r4,r5,r6⟩:=Y4)
  |(go_at_call 74;have _t:=tok2;clear tok2 _t;(with_reducible refine(zke _ _ m d _ (g3.below hp2) (g2.below hp2) l2.out.1 l1.out.2).mono ?_);rintro e9 w4 ⟨p3,rfl,hp3,hp4⟩
    have hp24:=zaa hp2 hp4
    have hp14:=hp1.below hp4
    have X5:=HX4.out.belowS hp4
    have Y5:=HY4.out.belowS hp4
    have HX5:=zH X5
    have HY5:=zH Y5
    obtain⟨_,q1,q2,q3,q4,q5,q6⟩:=X5
    obtain⟨_,r1,r2,r3,r4,r5,r6⟩:=Y5)
  |(go_at_call 74;have _t:=tok3;clear tok3 _t;(with_reducible refine(zke _ _ d e _ (g2.below hp24) (g4.below hp24) l1.out.2 l2.out.2).mono ?_);rintro e9 w5 ⟨p5,rfl,hp5,hp6⟩
    have hp26:=zaa hp24 hp6
    have hp16:=hp14.below hp6
    have hp36:=hp3.below hp6
    have X6:=HX5.out.belowS hp6
    have Y6:=HY5.out.belowS hp6
    have HX6:=zH X6
    have HY6:=zH Y6
    obtain⟨_,q1,q2,q3,q4,q5,q6⟩:=X6
    obtain⟨_,r1,r2,r3,r4,r5,r6⟩:=Y6))
 have hdw:Below w.heap.size w w5:=hD.trans (hp26.mono hD.size)
 have HZ6:=zH (HZ3.out.belowS hp26)
 have HDE:Hid (d*e≠0):=zH (Nat.mul_ne_zero K1.out.1 K2.out.1)
 have N1:=zH (zsd l1.out.1 l2.out.2)
 have N3:=zH (zsd l2.out.1 l1.out.2)
 have N5:=zH (zLT (zsd l1.out.2 l2.out.2) (show 128+128<=512 by decide))
 have NS:=zH (zLT (nlen_sum N1.out N3.out) (show 128+128+1<=512 by decide))
 have N12:=zH (zLT N1.out (show 128+128<=512 by decide))
 have N32:=zH (zLT N3.out (show 128+128<=512 by decide))
 clear hp24 hp26 hp14 hp1 hp3 hp2 hp4 hp6 hD HZ3 g1 g2 g3 g4 HX3 HY3 HX4 HY4 HX5 HY5
 by_cases hst:s=t
 ·have HQ:=zH (zhh s n d m e K1.out.1 K2.out.1)
  subst hst
  go_wp2_with (first
   |(go_at_call 75;(with_reducible refine(radd_any p1 p3 (n*e) (m*d) _ hp16.nat hp36.nat N12.out N32.out).mono ?_);rintro e9 w6 ⟨r,er,rfl,hr,hb6⟩
     have hr6:=(hr.1 NS.out).2
     have hp56:=hp5.below hb6
     have hdw6:=zaa hdw hb6
     have HZ7:=zH (HZ6.out.belowS hb6)
     obtain⟨_,q1,q2,q3,q4,q5,q6⟩:=HX6.out.belowS hb6
     obtain⟨_,r1,r2,r3,r4,r5,r6⟩:=HY6.out.belowS hb6
     )
   |(go_at_call 71;(with_reducible refine(zpe s r p5 (n*e+m*d) (d*e) _ hr6.nat hp56.nat HDE.out NS.out N5.out).mono ?_);rintro e9 w7 ⟨v7,rfl,hv7,hb7⟩
     rw[<-HQ.out]at hv7
     have hdw7:=zaa hdw6 hb7
     have HZ8:=zH (HZ7.out.belowS hb7)
     )
   |(go_at_call 76;(with_reducible refine(zxi v7 _ _ hv7).mono ?_);rintro e9 w8 ⟨v,er8,rfl,hv1,hv2,hv3⟩
     obtain⟨t9,x9,y9,rfl,⟨a1,l91,k1,rfl,_⟩,⟨a2,l92,k2,rfl,_⟩⟩:=zpb (w0:=w) hv2 hv3
     have hC:=HZ8.out.belowS hv1
     have HC:=zH hC
     have hbz:=zaa hdw7 hv1
     obtain⟨_,d0,d1,d2,e0,e1,e2⟩:=hC
     )
   )
  refine zoa rfl rfl Tryz.aggF Tryz.sizeF (HC.out.set _ _ _) rfl ?_
  exact⟨_,_,rfl,zga hbz (by omega) _ _ _,fun h=>⟨(hv2 h).1,(hv2 h).2.set3 HC.out (fun z=>by simp) (fun z=>by simp) _ _ _⟩,hv3⟩
 ·have hsb:(s==t)=false:=by simpa using hst
  by_cases hle:m*d<=n*e
  ·have HQ:=zH (fq_add_ge s t n d m e K1.out.1 K2.out.1 hsb hle)
   have HLE:=zH hle
   have NS:=zH (zLT (zfb (Nat.sub_le (n*e) (m*d))) N12.out)
   clear hle
   go_wp2_with (first
    |(go_at_call 77;(with_reducible refine(rcmp_ge0 p1 p3 (n*e) (m*d) _ hp16.nat hp36.nat HLE.out).mono ?_);rintro e9 w5b ⟨⟨c,rfl,hc⟩,hb5⟩
      have hp16:=hp16.below hb5
      have hp36:=hp36.below hb5
      have hp5:=hp5.below hb5
      have HX6:=zH (HX6.out.belowS hb5)
      have HY6:=zH (HY6.out.belowS hb5)
      have HZ6:=zH (HZ6.out.belowS hb5)
      have hdw:=zaa hdw hb5)
    |(go_at_call 78;(with_reducible refine(rsub_le p1 p3 (n*e) (m*d) _ hp16.nat hp36.nat N12.out HLE.out).mono ?_);rintro e9 w6 ⟨r,rfl,hr6,hb6⟩
      have hp56:=hp5.below hb6
      have hdw6:=zaa hdw hb6
      have HZ7:=zH (HZ6.out.belowS hb6)
      obtain⟨_,q1,q2,q3,q4,q5,q6⟩:=HX6.out.belowS hb6
      obtain⟨_,r1,r2,r3,r4,r5,r6⟩:=HY6.out.belowS hb6
      )
    |(go_at_call 71;(with_reducible refine(zpe s r p5 (n*e-m*d) (d*e) _ hr6.nat hp56.nat HDE.out NS.out N5.out).mono ?_);rintro e9 w7 ⟨v7,rfl,hv7,hb7⟩
      rw[<-HQ.out]at hv7
      have hdw7:=zaa hdw6 hb7
      have HZ8:=zH (HZ7.out.belowS hb7)
      )
    |(go_at_call 76;(with_reducible refine(zxi v7 _ _ hv7).mono ?_);rintro e9 w8 ⟨v,er8,rfl,hv1,hv2,hv3⟩
      obtain⟨t9,x9,y9,rfl,⟨a1,l91,k1,rfl,_⟩,⟨a2,l92,k2,rfl,_⟩⟩:=zpb (w0:=w) hv2 hv3
      have hC:=HZ8.out.belowS hv1
      have HC:=zH hC
      have hbz:=zaa hdw7 hv1
      obtain⟨_,d0,d1,d2,e0,e1,e2⟩:=hC
      )
    )
   refine zoa rfl rfl Tryz.aggF Tryz.sizeF (HC.out.set _ _ _) rfl ?_
   exact⟨_,_,rfl,zga hbz (by omega) _ _ _,fun h=>⟨(hv2 h).1,(hv2 h).2.set3 HC.out (fun z=>by simp) (fun z=>by simp) _ _ _⟩,hv3⟩
  ·have hlt:n*e<m*d:=Nat.lt_of_not_le hle
   have HQ:=zH (fq_add_lt s t n d m e K1.out.1 K2.out.1 hsb (Nat.le_of_lt hlt))
   have HLT:=zH hlt
   have NS:=zH (zLT (zfb (Nat.sub_le (m*d) (n*e))) N32.out)
   clear hle hlt
   go_wp2_with (first
    |(go_at_call 77;(with_reducible refine(rcmp_lt0 p1 p3 (n*e) (m*d) _ hp16.nat hp36.nat HLT.out).mono ?_);rintro e9 w5b ⟨⟨c,rfl,hc⟩,hb5⟩
      have hp16:=hp16.below hb5
      have hp36:=hp36.below hb5
      have hp5:=hp5.below hb5
      have HX6:=zH (HX6.out.belowS hb5)
      have HY6:=zH (HY6.out.belowS hb5)
      have HZ6:=zH (HZ6.out.belowS hb5)
      have hdw:=zaa hdw hb5)
    |(go_at_call 78;(with_reducible refine(rsub_le p3 p1 (m*d) (n*e) _ hp36.nat hp16.nat N32.out (Nat.le_of_lt HLT.out)).mono ?_);rintro e9 w6 ⟨r,rfl,hr6,hb6⟩
      have hp56:=hp5.below hb6
      have hdw6:=zaa hdw hb6
      have HZ7:=zH (HZ6.out.belowS hb6)
      obtain⟨_,q1,q2,q3,q4,q5,q6⟩:=HX6.out.belowS hb6
      obtain⟨_,r1,r2,r3,r4,r5,r6⟩:=HY6.out.belowS hb6
      )
    |(go_at_call 71;(with_reducible refine(zpe t r p5 (m*d-n*e) (d*e) _ hr6.nat hp56.nat HDE.out NS.out N5.out).mono ?_);rintro e9 w7 ⟨v7,rfl,hv7,hb7⟩
      rw[<-HQ.out]at hv7
      have hdw7:=zaa hdw6 hb7
      have HZ8:=zH (HZ7.out.belowS hb7)
      )
    |(go_at_call 76;(with_reducible refine(zxi v7 _ _ hv7).mono ?_);rintro e9 w8 ⟨v,er8,rfl,hv1,hv2,hv3⟩
      obtain⟨t9,x9,y9,rfl,⟨a1,l91,k1,rfl,_⟩,⟨a2,l92,k2,rfl,_⟩⟩:=zpb (w0:=w) hv2 hv3
      have hC:=HZ8.out.belowS hv1
      have HC:=zH hC
      have hbz:=zaa hdw7 hv1
      obtain⟨_,d0,d1,d2,e0,e1,e2⟩:=hC
      )
    )
   refine zoa rfl rfl Tryz.aggF Tryz.sizeF (HC.out.set _ _ _) rfl ?_
   exact⟨_,_,rfl,zga hbz (by omega) _ _ _,fun h=>⟨(hv2 h).1,(hv2 h).2.set3 HC.out (fun z=>by simp) (fun z=>by simp) _ _ _⟩,hv3⟩
theorem zhv (va vb:Value) (p q:Rat) (w:World) (ha:zqa w va p) (hb:zqa w vb q) (hp:fits p) (hq:fits q) (hf:fits (p+q)):Calls Tryz.prog 19 #[va,vb] w (RF0 w (p+q)):=
 (r2add_any va vb _ _ _ _ _ _ w ha.raw hb.raw ⟨p.den_nz,hp.2,hp.1⟩ ⟨q.den_nz,hq.2,hq.1⟩).mono fun _ _ h=>h.ok (by rw[zvb,zvb]) hf
end Go.Proofs.YtlpdkbmmbdfoiaaGreat
