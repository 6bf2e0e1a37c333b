/-
  A matrix of fractions in the making: its rows.
-/
import Derived.Test.YtlpdkbmmbdfoiaaGRa7
import Derived.Test.YtlpdkbmmbdfoiaaGEl1
import Derived.Test.YtlpdkbmmbdfoiaaGRa3
import Derived.RegionTactic
import Derived.ChangeAlike
set_option linter.unusedVariables false
set_option linter.unusedSimpArgs false
namespace Go.Proofs.Ytlpdkbmmbdfoiaa
set_option maxHeartbeats 800000
open Go.RowKit
theorem zvj (va vb:Value) (m n:Nat) (w:World) (ha:zob w va m) (hb:zob w vb n) (h:n≠0) (hm:zda m≤512) (hn:zda n≤512):
 Calls Try.prog 69 #[va,vb] w (RDiv2 w m n):=by
 have HM:=zH hm
 have HN:=zH hn
 have H0:=zH h
 have hnz:zda n≠0:=fun h'=>h (zta.1 h')
 have hnz2:(((zda n:Nat):Int)==0)=false:=by simpa using hnz
 clear hm hn hnz h
 have tok1:True:=trivial
 go_enter Try.func69,Try.ntmps69
 go_wp2_with (first
  |(go_at_call 103;first
    |((with_reducible refine(zyc va m _ ha HM.out).mono ?_);rintro e wa ⟨rfl,hba⟩)
    |((with_reducible refine(zyc vb n _ (hb.below hba) HN.out).mono ?_);rintro e wb ⟨rfl,hbb⟩;have hbw:=zaa hba hbb))
  |(go_at_call 66;have _t:=tok1;(with_reducible refine(zra vb n _ (hb.below hbw)).mono ?_);rintro e wc ⟨r0,rfl,hr0,hb0⟩;clear tok1 _t;have sl0:=hr0.v.sl;have ln0:slen r0=zda n:=hr0.v.len;have hbw0:=zaa hbw hb0)
  |(go_at_call 66;first
     |((with_reducible refine(zra va m _ (ha.below hbw0)).mono ?_);rintro e w1 ⟨ra,rfl,hra,hb1⟩;have hbw1:=zaa hbw0 hb1)
     |((with_reducible refine(zra vb n _ (hb.below hbw1)).mono ?_);rintro e w2 ⟨rb,rfl,hrb,hb2⟩;have hbw2:=zaa hbw1 hb2;have hra2:=hra.below hb2))
  |(go_at_call 104;(with_reducible refine(zqk ra rb m n _ hra2 hrb H0.out HM.out).mono ?_);rintro e w3 ⟨q,r,rfl,hq,hr,hb3⟩;have hbw3:=zaa hbw2 hb3))
 go_ret3
 exact⟨q,r,rfl,hq,hr,hbw3⟩
theorem zen (va vb:Value) (m n:Nat) (w:World) (ha:zob w va m) (hb:zob w vb n) (hm:zda m≤512) (hn:zda n≤512):
 Calls Try.prog 68 #[va,vb] w (RNat0 w (Nat.gcd m n)):=by
 have HM:=zH hm
 have HN:=zH hn
 clear hm hn
 go_enter Try.func68,Try.ntmps68
 go_wp2_with (first
  |(go_at_call 103;first
    |((with_reducible refine(zyc va m _ ha HM.out).mono ?_);rintro e wa ⟨rfl,hba⟩)
    |((with_reducible refine(zyc vb n _ (hb.below hba) HN.out).mono ?_);rintro e wb ⟨rfl,hbb⟩;have hbw0:=zaa hba hbb))
  |(go_at_call 66;first
     |((with_reducible refine(zra va m _ (ha.below hbw0)).mono ?_);rintro e w1 ⟨ra,rfl,hra,hb1⟩;have hbw1:=zaa hbw0 hb1)
     |((with_reducible refine(zra vb n _ (hb.below hbw1)).mono ?_);rintro e w2 ⟨rb,rfl,hrb,hb2⟩;have hbw:=zaa hbw1 hb2;have hra2:=hra.below hb2)))
 go_loopw [6,7] (fun u0 u1 wr=>∃ (x y:Nat),zjb wr u0 x∧zjb wr u1 y∧zda x≤512∧zda y≤512∧Nat.gcd x y=Nat.gcd m n∧Below w.heap.size w wr) (fun _ u1 wr=>natOf wr u1)
 case atStart=>exact⟨m,n,hra2,hrb,HM.out,HN.out,rfl,hbw⟩
 case round=>
  obtain⟨x,y,hx,hy,hx5,hy5,hg,hbr⟩:=hrel
  clear ha hb hra hrb hra2 hb1 hb2 hbw hbw0 hbw1 hba hbb
  obtain⟨sx,lx⟩:zgc u6∧slen u6=zda x:=⟨hx.v.sl,hx.v.len⟩
  obtain⟨sy,ly⟩:zgc u7∧slen u7=zda y:=⟨hy.v.sl,hy.v.len⟩
  have HX:=zH hx5
  have HY:=zH hy5
  have HG:=zH hg
  have hxb:zda x≤4294967296:=by omega
  have hyb:zda y≤4294967296:=by omega
  clear hx5 hy5 hg
  by_cases hy0:y=0
  ·have hyz:zda y=0:=zta.2 hy0
   have hfin:x=Nat.gcd m n:=by rw[←HG.out,hy0,Nat.gcd_zero_right]
   have HF:=zH hfin
   clear hfin hy0
   go_wp2
   go_ret2
   exact⟨_,rfl,HF.out▸hx,hbr⟩
  ·have hyz:0<zda y:=by have :zda y≠0:=fun h'=>hy0 (zta.1 h');omega
   have HY0:=zH hy0
   clear hy0
   go_wp2_with (go_at_call 104;(with_reducible refine(zqk _ _ x y _ hx hy HY0.out HX.out).mono ?_);rintro e w3 ⟨q,r,rfl,hq,hr,hbl⟩)
   have hy3:=hy.below hbl
   have hbr3:=hbr.trans (hbl.mono hbr.size)
   go_wp2
   go_roundw
   case rel=>exact⟨y,x%y,hy3,hr,HY.out,Nat.le_trans (zfb (Nat.le_of_lt (Nat.mod_lt _ (Nat.pos_of_ne_zero HY0.out)))) HY.out,by rw[←HG.out,Nat.gcd_comm y,←Nat.gcd_rec,Nat.gcd_comm],hbr3⟩
   case measure=>rw[zwj hr,zwj hy];exact Nat.mod_lt _ (Nat.pos_of_ne_zero HY0.out)
set_option maxHeartbeats 3200000
theorem zei :zla 1= [1]:=by rw[zxd (by decide)];simp[zbc]
theorem fq_zero (s:Bool) (d:Nat) (hd:d≠0):fq s 0 d=0:=by
 unfold fq;rw[sgn_zero];simp
set_option maxRecDepth 100000 in
theorem zin (s:Bool) (va vb:Value) (d:Nat) (w:World) (ha:zob w va 0) (hb:zob w vb d) (hd:d≠0):
 Calls Try.prog 32 #[.bool s,va,vb] w (RF1 w (fq s 0 d)):=by
 rw[fq_zero s d hd]
 obtain⟨n,hn⟩:∃n,n=0:=⟨0,rfl⟩
 rw[←hn]at ha
 have hz:zda n=0:=zta.2 hn
 have HN:=zH hn
 clear hn
 go_enter Try.func32,Try.ntmps32
 go_wp2_with (first
  |(go_at_call 66;first
   |((with_reducible refine(zra va n _ (ha.below (zca _ _))).mono ?_);rintro e w1 ⟨x1,rfl,hx1,hb1⟩;have s1:=hx1.v.sl;have l1:slen x1=zda n:=hx1.v.len)
   |((with_reducible refine(zra vb d _ ((hb.below (zca _ _)).below hb1)).mono ?_);rintro e w2 ⟨x2,rfl,hx2,hb2⟩
     have hC2:=(((C3.new w 32 (.bool false) (.slice none 0 0) (.slice none 0 0)).belowS hb1).belowS hb2).allocS (.cells #[.int .u32 1] 94)
     have hbw2:=zaa (zaa (zaa (zca w (.cells #[.bool false, .slice none 0 0, .slice none 0 0] 32)) hb1) hb2) (zca w2 (.cells #[.int .u32 1] 94))
     have HC2:=zH hC2
     obtain⟨_,c0,c1,c2,f0,f1,f2⟩:=hC2)))
 have hF:zqa (w2.alloc (.cells #[.int .u32 1] 94)) (.agg #[.bool false, .slice none 0 0, .slice (some ⟨w2.heap.size,0,none⟩) 1 1]) 0:=by
  refine⟨_,_,rfl,zjb.nil _,?_⟩
  have h1:zfc (w2.alloc (.cells #[.int .u32 1] 94)) (.slice (some ⟨w2.heap.size,0,none⟩) 1 1) [1]:=by
   refine⟨⟨_,1,1,rfl,Nat.le_refl _,by simp[maxLen],fun e=>by cases e⟩,rfl,fun j hj=> ?_,fun x hx=>by simp at hx;omega⟩
   have hj0:j=0:=by simp at hj;omega
   subst hj0
   simp[ptr,base,Addr.add]
  show zjb _ _ 1
  unfold zjb
  rw[zei]
  exact⟨h1,by unfold zda;rw[zei];decide⟩
 refine zab rfl rfl Try.aggF Try.sizeF (HC2.out.set _ _ _) rfl ?_
 exact⟨_,rfl,hF.set3 HC2.out (fun z=>by simp) (fun z=>by simp) _ _ _,zga hbw2 (Nat.le_refl _) _ _ _⟩
set_option maxRecDepth 100000 in
theorem r2lowest_one (s:Bool) (va vb:Value) (n d:Nat) (w:World) (ha:zob w va n) (hb:zob w vb d) (hd:d≠0) (hn0:n≠0) (hn5:zda n≤512) (hd5:zda d≤512) (hg:Nat.gcd n d=1):
 Calls Try.prog 32 #[.bool s,va,vb] w (RF1 w (fq s n d)):=by
 have HN5:=zH hn5
 have HD5:=zH hd5
 have HF:Hid (∀ (wx:World) (xa xb:Value),zjb wx xa n→zjb wx xb d→zqa wx (.agg #[.bool s,xa,xb]) (fq s n d)):=zH (fun wx xa xb h1 h2=>by
  refine zxg hd (by rw[hg,Nat.div_one];exact h1) (by rw[hg,Nat.div_one];exact h2) ?_
  rw[hg,Nat.div_one,decide_eq_true (Nat.pos_of_ne_zero hn0),Bool.and_true])
 have hnz:0<zda n:=by have :zda n≠0:=fun h=>hn0 (zta.1 h);omega
 have hnzb:(((zda n:Nat):Int)==0)=false:=by simp;omega
 have hg1:zda (Nat.gcd n d)=1:=by rw[hg];unfold zda;rw[zei];rfl
 have HGC:Hid (∀ (wx:World) (g:Value),zjb wx g (Nat.gcd n d)→wx.cell? (ptr g 0)=some (.int .u32 1)):=zH (fun wx g h=>by
  rw[hg]at h
  have h1:=h.v
  rw[zei]at h1
  exact h1.cell 0 (by simp))
 have HG1:=zH hg1
 clear hn5 hd5 hg hg1 hn0
 go_enter Try.func32,Try.ntmps32
 go_wp2_with (first
  |(go_at_call 66;first
   |((with_reducible refine(zra va n _ (ha.below (zca _ _))).mono ?_);rintro e w1 ⟨x1,rfl,hx1,hb1⟩;have s1:=hx1.v.sl;have l1:slen x1=zda n:=hx1.v.len)
   |((with_reducible refine(zra vb d _ ((hb.below (zca _ _)).below hb1)).mono ?_);rintro e w2 ⟨x2,rfl,hx2,hb2⟩
     have hx12:=hx1.below hb2
     have hC2:=((C3.new w 32 (.bool false) (.slice none 0 0) (.slice none 0 0)).belowS hb1).belowS hb2
     have hbw2:=zaa (zaa (zca w (.cells #[.bool false, .slice none 0 0, .slice none 0 0] 32)) hb1) hb2))
  |(go_at_call 68;(with_reducible refine(zen x1 x2 n d _ hx12.nat hx2.nat HN5.out HD5.out).mono ?_);rintro e w3 ⟨g,rfl,hg,hb3⟩
    have sg:=hg.v.sl
    have lg:slen g=1:=hg.v.len.trans HG1.out
    have hgc:=HGC.out _ _ hg
    have hx13:=hx12.below hb3
    have hx23:=hx2.below hb3
    have hC3:=hC2.belowS hb3
    have hbw3:=zaa hbw2 hb3
    clear hx1 hx2 hx12 hC2 s1 l1
    obtain⟨a1,m1,k1,rfl,_⟩:=hx13.v.sl
    obtain⟨a2,m2,k2,rfl,_⟩:=hx23.v.sl
    have HC3:=zH hC3
    obtain⟨_,c0,c1,c2,f0,f1,f2⟩:=hC3))
 have hF:=HF.out _ _ _ hx13 hx23
 refine zab rfl rfl Try.aggF Try.sizeF (HC3.out.set _ _ _) rfl ?_
 exact⟨_,rfl,hF.set3 HC3.out (fun z=>by simp) (fun z=>by simp) _ _ _,zga hbw3 (Nat.le_refl _) _ _ _⟩
set_option maxRecDepth 100000 in
theorem zjn (s:Bool) (va vb:Value) (n d:Nat) (w:World) (ha:zob w va n) (hb:zob w vb d) (hd:d≠0) (hn0:n≠0) (hn5:zda n≤512) (hd5:zda d≤512) (hg1:1<Nat.gcd n d):
 Calls Try.prog 32 #[.bool s,va,vb] w (RF1 w (fq s n d)):=by
 have HN5:=zH hn5
 have HD5:=zH hd5
 obtain⟨G,hG⟩:∃G,Nat.gcd n d=G:=⟨_,rfl⟩
 have hGn:G∣n:=hG▸Nat.gcd_dvd_left n d
 have HF:Hid (∀ (wx:World) (xa xb:Value),zjb wx xa (n/G)→zjb wx xb (d/G)→zqa wx (.agg #[.bool s,xa,xb]) (fq s n d)):=zH (fun wx xa xb h1 h2=>by
  refine zxg hd (by rw[hG];exact h1) (by rw[hG];exact h2) ?_
  rw[hG,decide_eq_true (Nat.div_pos (Nat.le_of_dvd (Nat.pos_of_ne_zero hn0) hGn) (by omega)),Bool.and_true])
 have hnz:0<zda n:=by have :zda n≠0:=fun h=>hn0 (zta.1 h);omega
 have hnzb:(((zda n:Nat):Int)==0)=false:=by simp;omega
 rw[hG]at hg1
 have HGE:=zH hG
 have HG0:Hid (G≠0):=zH (by omega)
 have HG5:Hid (zda G≤512):=zH (Nat.le_trans (zfb (Nat.le_of_dvd (Nat.pos_of_ne_zero hn0) hGn)) hn5)
 have HG1:=zH hg1
 obtain⟨L,hL⟩:∃L,zda G=L:=⟨_,rfl⟩
 have HLE:=zH hL
 have hL1:1≤L:=by have :zda G≠0:=fun h=>HG0.out (zta.1 h);omega
 have hL5:L≤512:=by have:=HG5.out;omega
 clear hn5 hd5 hG hg1 hn0 hGn hL
 by_cases h1:1<L
 ·skip
  go_enter Try.func32,Try.ntmps32
  go_wp2_with (first
   |(go_at_call 66;first
    |((with_reducible refine(zra va n _ (ha.below (zca _ _))).mono ?_);rintro e w1 ⟨x1,rfl,hx1,hb1⟩;have s1:=hx1.v.sl;have l1:slen x1=zda n:=hx1.v.len)
    |((with_reducible refine(zra vb d _ ((hb.below (zca _ _)).below hb1)).mono ?_);rintro e w2 ⟨x2,rfl,hx2,hb2⟩
      have hx12:=hx1.below hb2
      have hC2:=((C3.new w 32 (.bool false) (.slice none 0 0) (.slice none 0 0)).belowS hb1).belowS hb2
      have hbw2:=zaa (zaa (zca w (.cells #[.bool false, .slice none 0 0, .slice none 0 0] 32)) hb1) hb2))
   |(go_at_call 68;(with_reducible refine(zen x1 x2 n d _ hx12.nat hx2.nat HN5.out HD5.out).mono ?_);rintro e w3 ⟨g,rfl,hg,hb3⟩;rw[HGE.out]at hg
     have sg:=hg.v.sl
     have lg:=(show slen g=zda G from hg.v.len).trans HLE.out
     skip
     have hx13:=hx12.below hb3
     have hx23:=hx2.below hb3
     have hC3:=hC2.belowS hb3
     have hbw3:=zaa hbw2 hb3
     clear hx1 hx2 hx12 hC2 s1 l1)
   |(go_at_call 69;first
     |((with_reducible refine(zvj x1 g n G _ hx13.nat hg.nat HG0.out HN5.out HG5.out).mono ?_);rintro e w4 ⟨q1,r1,rfl,hq1,_,hb4⟩
       have hg4:=hg.below hb4
       have hx24:=hx23.below hb4)
     |((with_reducible refine(zvj x2 g d G _ hx24.nat hg4.nat HG0.out HD5.out HG5.out).mono ?_);rintro e w5 ⟨q2,r2,rfl,hq2,_,hb5⟩
       have hq15:=hq1.below hb5
       have hC5:=(hC3.belowS hb4).belowS hb5
       have hbw5:=zaa (zaa hbw3 hb4) hb5
       clear hg hg4 hx13 hx23 hx24 hC3 hq1
       obtain⟨a1,m1,k1,rfl,_⟩:=hq15.v.sl
       obtain⟨a2,m2,k2,rfl,_⟩:=hq2.v.sl
       have HC5:=zH hC5
       obtain⟨_,c0,c1,c2,f0,f1,f2⟩:=hC5)))
  have hF:=HF.out _ _ _ hq15 hq2
  refine zab rfl rfl Try.aggF Try.sizeF (HC5.out.set _ _ _) rfl ?_
  exact⟨_,rfl,hF.set3 HC5.out (fun z=>by simp) (fun z=>by simp) _ _ _,zga hbw5 (Nat.le_refl _) _ _ _⟩
 ·obtain rfl:L=1:=by omega
  have hGb:G<4294967296:=by have:=zzb.1 (Nat.le_of_eq HLE.out);simpa [pw]using this
  have HGC:Hid (∀ (wx:World) (g:Value),zjb wx g G→wx.cell? (ptr g 0)=some (.int .u32 G)):=zH (fun wx g h=>by
   have h1:=h.v
   have e:zla G= [G]:=by rw[zxd HG0.out,Nat.mod_eq_of_lt hGb,Nat.div_eq_of_lt hGb,zbc]
   rw[e]at h1
   exact h1.cell 0 (by simp))
  have hG2:1<G:=HG1.out
  go_enter Try.func32,Try.ntmps32
  go_wp2_with (first
   |(go_at_call 66;first
    |((with_reducible refine(zra va n _ (ha.below (zca _ _))).mono ?_);rintro e w1 ⟨x1,rfl,hx1,hb1⟩;have s1:=hx1.v.sl;have l1:slen x1=zda n:=hx1.v.len)
    |((with_reducible refine(zra vb d _ ((hb.below (zca _ _)).below hb1)).mono ?_);rintro e w2 ⟨x2,rfl,hx2,hb2⟩
      have hx12:=hx1.below hb2
      have hC2:=((C3.new w 32 (.bool false) (.slice none 0 0) (.slice none 0 0)).belowS hb1).belowS hb2
      have hbw2:=zaa (zaa (zca w (.cells #[.bool false, .slice none 0 0, .slice none 0 0] 32)) hb1) hb2))
   |(go_at_call 68;(with_reducible refine(zen x1 x2 n d _ hx12.nat hx2.nat HN5.out HD5.out).mono ?_);rintro e w3 ⟨g,rfl,hg,hb3⟩;rw[HGE.out]at hg
     have sg:=hg.v.sl
     have lg:=(show slen g=zda G from hg.v.len).trans HLE.out
     have hgc:=HGC.out _ _ hg
     have hx13:=hx12.below hb3
     have hx23:=hx2.below hb3
     have hC3:=hC2.belowS hb3
     have hbw3:=zaa hbw2 hb3
     clear hx1 hx2 hx12 hC2 s1 l1)
   |(go_at_call 69;first
     |((with_reducible refine(zvj x1 g n G _ hx13.nat hg.nat HG0.out HN5.out HG5.out).mono ?_);rintro e w4 ⟨q1,r1,rfl,hq1,_,hb4⟩
       have hg4:=hg.below hb4
       have hx24:=hx23.below hb4)
     |((with_reducible refine(zvj x2 g d G _ hx24.nat hg4.nat HG0.out HD5.out HG5.out).mono ?_);rintro e w5 ⟨q2,r2,rfl,hq2,_,hb5⟩
       have hq15:=hq1.below hb5
       have hC5:=(hC3.belowS hb4).belowS hb5
       have hbw5:=zaa (zaa hbw3 hb4) hb5
       clear hg hg4 hx13 hx23 hx24 hC3 hq1
       obtain⟨a1,m1,k1,rfl,_⟩:=hq15.v.sl
       obtain⟨a2,m2,k2,rfl,_⟩:=hq2.v.sl
       have HC5:=zH hC5
       obtain⟨_,c0,c1,c2,f0,f1,f2⟩:=hC5)))
  have hF:=HF.out _ _ _ hq15 hq2
  refine zab rfl rfl Try.aggF Try.sizeF (HC5.out.set _ _ _) rfl ?_
  exact⟨_,rfl,hF.set3 HC5.out (fun z=>by simp) (fun z=>by simp) _ _ _,zga hbw5 (Nat.le_refl _) _ _ _⟩
theorem zpe (s:Bool) (va vb:Value) (n d:Nat) (w:World) (ha:zob w va n) (hb:zob w vb d) (hd:d≠0) (hn5:zda n≤512) (hd5:zda d≤512):
 Calls Try.prog 32 #[.bool s,va,vb] w (RF1 w (fq s n d)):=by
 have h0:Nat.gcd n d≠0:=fun h=>hd (Nat.gcd_eq_zero_iff.1 h).2
 rcases Nat.eq_zero_or_pos n with hn | hn
 ·subst hn;exact zin s va vb d w ha hb hd
 ·rcases Nat.lt_or_ge 1 (Nat.gcd n d)with h | h
  ·exact zjn s va vb n d w ha hb hd (by omega) hn5 hd5 h
  ·exact r2lowest_one s va vb n d w ha hb hd (by omega) hn5 hd5 (by omega)
theorem ret_u64 {a b:Int} (h:a=b):Ending.returned (.int .u64 a)=Ending.returned (.int .u64 b):=by rw[h]
theorem size_any (z:Int) (w:World) (h1: -9223372036854775808≤z) (h2:z<9223372036854775808):
 Calls Try.prog 38 #[.int .i64 z] w fun e w'=>e= .returned (.int .u64 (z.natAbs:Nat))∧w=w':=by
 rcases Int.lt_or_le z 0 with h | h
 ·obtain⟨m,hm⟩:∃m:Nat,z= -((m:Int)+1):=⟨(-(z+1)).toNat,by omega⟩
  have e:z.natAbs=m+1:=by omega
  have hmb:m≤9223372036854775807:=by omega
  rw[e]
  subst hm
  clear e h h2
  go_enter Try.func38,Try.ntmps38
  go_wp2_with fail
  go_ret
  exact⟨ret_u64 (by omega),rfl⟩
 ·obtain⟨m,rfl⟩:∃m:Nat,z=(m:Int):=⟨z.natAbs,by omega⟩
  have e:(m:Int).natAbs=m:=by omega
  rw[e]
  have hmb:m≤9223372036854775807:=by omega
  clear e h h1 h2
  go_enter Try.func38,Try.ntmps38
  go_wp2_with fail
  go_ret
  exact⟨ret_u64 (by omega),rfl⟩
set_option maxHeartbeats 800000
theorem r2make_any (a b:Int) (w:World) (ha1: -9223372036854775808≤a) (ha2:a<9223372036854775808) (hb1: -9223372036854775808≤b) (hb2:b<9223372036854775808) (hb:b≠0):
 Calls Try.prog 15 #[.int .i64 a, .int .i64 b] w (RF0 w (fq (!decide (a<0)==decide (b<0)) a.natAbs b.natAbs)):=by
 have HA:=zH (And.intro ha1 ha2)
 have HB:=zH (And.intro hb1 hb2)
 have hbn:b.natAbs≠0:=by omega
 have HBN:=zH hbn
 have h1:∀z:Int,-9223372036854775808≤z→z<9223372036854775808→zda z.natAbs≤512:=fun z _ _=>zzb.2 (Nat.lt_of_lt_of_le (show z.natAbs<pw 2 by have :pw 2=18446744073709551616:=rfl;omega) (pw_le (by omega)))
 have H1:=zH (h1 a ha1 ha2)
 have H2:=zH (h1 b hb1 hb2)
 have HA6:Hid (a.natAbs<18446744073709551616):=zH (by omega)
 have HB6:Hid (b.natAbs<18446744073709551616):=zH (by omega)
 have h9:(b==0)=false:=by simpa using hb
 clear ha1 ha2 hb1 hb2 hbn h1 hb
 go_enter Try.func15,Try.ntmps15
 go_wp2_with (first
  |(go_at_call 38;first
   |((with_reducible refine(size_any a _ HA.out.1 HA.out.2).mono ?_);rintro e w' ⟨rfl,rfl⟩)
   |((with_reducible refine(size_any b _ HB.out.1 HB.out.2).mono ?_);rintro e w' ⟨rfl,rfl⟩))
  |(go_at_call 37;first
   |((with_reducible refine(zkd a.natAbs HA6.out _).mono ?_);rintro e w1 ⟨x,rfl,hx,hx1⟩)
   |((with_reducible refine(zkd b.natAbs HB6.out _).mono ?_);rintro e w2 ⟨y,rfl,hy,hy1⟩;have hx2:=hx.below hy1))
  |(go_at_call 32;(with_reducible refine(zpe _ x y a.natAbs b.natAbs _ hx2.nat hy.nat HBN.out H1.out H2.out).mono ?_);rintro e w3 ⟨v,rfl,hv,hv1⟩
    obtain⟨t,x1,y1,rfl,⟨a1,l1,k1,rfl,_⟩,⟨a2,l2,k2,rfl,_⟩⟩:=hv.isF
    have hC:=(((C3.new w 32 (.bool false) (.slice none 0 0) (.slice none 0 0)).belowS hx1).belowS hy1).belowS hv1
    have HC:=zH hC
    have hbz:=zaa (zaa (zaa (zca w (.cells #[.bool false, .slice none 0 0, .slice none 0 0] 32)) hx1) hy1) hv1
    obtain⟨_,d0,d1,d2,e0,e1,e2⟩:=hC))
 refine zoa rfl rfl Try.aggF Try.sizeF (HC.out.set _ _ _) rfl ?_
 exact⟨_,rfl,hv.set3 HC.out (fun z=>by simp) (fun z=>by simp) _ _ _,zga hbz (Nat.le_refl _) _ _ _⟩
theorem RF0.eq {w0:World} {q q':Rat} {e:Ending} {w:World} (h:RF0 w0 q e w) (hq:q=q'):RF0 w0 q' e w:=hq▸h
theorem zgf (a b:Nat) (w:World) (ha:a<4294967296) (hb:b<4294967296) (hb0:b≠0):
 Calls Try.prog 15 #[.int .i64 a, .int .i64 b] w (RF0 w (fq false a b)):=
 (r2make_any a b w (by omega) (by omega) (by omega) (by omega) (by omega)).mono fun _ _ h=>h.eq (by
  rw[decide_eq_false (show ¬ ((a:Nat):Int)<0 by omega),decide_eq_false (show ¬ ((b:Nat):Int)<0 by omega)];rfl)
theorem r2make_01 (w:World):Calls Try.prog 15 #[.int .i64 0, .int .i64 1] w (RF0 w 0):=
 (zgf 0 1 w (by decide) (by decide) (by decide)).mono fun _ _ h=>h.eq (by decide)
theorem r2make_11 (w:World):Calls Try.prog 15 #[.int .i64 1, .int .i64 1] w (RF0 w 1):=
 (zgf 1 1 w (by decide) (by decide) (by decide)).mono fun _ _ h=>h.eq (by decide)
theorem r2make_n1 (n:Nat) (w:World) (hn:n<4294967296):Calls Try.prog 15 #[.int .i64 n, .int .i64 1] w (RF0 w (fq false n 1)):=
 zgf n 1 w hn (by decide) (by decide)
theorem zwi (w:World):Calls Try.prog 6 #[.int .i64 0] w (RF1 w 0):=by
 go_enter Try.func6,Try.ntmps6
 go_wp2_with (go_at_call 15;(with_reducible refine(r2make_01 _).mono ?_);rintro e w1 ⟨v,rfl,hv,hb1⟩
              obtain⟨t9,x9,y9,rfl,⟨a1,l91,k1,rfl,_⟩,⟨a2,l92,k2,rfl,_⟩⟩:=hv.isF
              have hr:=((C3.new w 32 (.bool false) (.slice none 0 0) (.slice none 0 0)).belowS hb1).allocS (.cells #[.bool t9, .slice a1 l91 k1, .slice a2 l92 k2] 32)
              have hv2:=hv.below (zca w1 (.cells #[.bool t9, .slice a1 l91 k1, .slice a2 l92 k2] 32))
              have hb2:=zaa (zaa (zca w (.cells #[.bool false, .slice none 0 0, .slice none 0 0] 32)) hb1) (zca w1 (.cells #[.bool t9, .slice a1 l91 k1, .slice a2 l92 k2] 32))
              have HR:=zH hr
              obtain⟨_,d1,d2,d3,d4,d5,d6⟩:=hr)
 refine zab rfl rfl Try.aggF Try.sizeF (HR.out.set _ _ _) rfl ?_
 exact⟨_,rfl,hv2.set3 HR.out (fun z=>by simp) (fun z=>by simp) _ _ _,zga hb2 (Nat.le_refl _) _ _ _⟩
theorem r2int_one (w:World):Calls Try.prog 6 #[.int .i64 1] w (RF1 w 1):=by
 go_enter Try.func6,Try.ntmps6
 go_wp2_with (go_at_call 15;(with_reducible refine(r2make_11 _).mono ?_);rintro e w1 ⟨v,rfl,hv,hb1⟩
              obtain⟨t9,x9,y9,rfl,⟨a1,l91,k1,rfl,_⟩,⟨a2,l92,k2,rfl,_⟩⟩:=hv.isF
              have hr:=((C3.new w 32 (.bool false) (.slice none 0 0) (.slice none 0 0)).belowS hb1).allocS (.cells #[.bool t9, .slice a1 l91 k1, .slice a2 l92 k2] 32)
              have hv2:=hv.below (zca w1 (.cells #[.bool t9, .slice a1 l91 k1, .slice a2 l92 k2] 32))
              have hb2:=zaa (zaa (zca w (.cells #[.bool false, .slice none 0 0, .slice none 0 0] 32)) hb1) (zca w1 (.cells #[.bool t9, .slice a1 l91 k1, .slice a2 l92 k2] 32))
              have HR:=zH hr
              obtain⟨_,d1,d2,d3,d4,d5,d6⟩:=hr)
 refine zab rfl rfl Try.aggF Try.sizeF (HR.out.set _ _ _) rfl ?_
 exact⟨_,rfl,hv2.set3 HR.out (fun z=>by simp) (fun z=>by simp) _ _ _,zga hb2 (Nat.le_refl _) _ _ _⟩
theorem zdp (n:Nat) (w:World) (hn:n<4294967296):Calls Try.prog 6 #[.int .i64 n] w (RF1 w (fq false n 1)):=by
 have HN:=zH hn
 clear hn
 go_enter Try.func6,Try.ntmps6
 go_wp2_with (go_at_call 15;(with_reducible refine(r2make_n1 n _ HN.out).mono ?_);rintro e w1 ⟨v,rfl,hv,hb1⟩
              obtain⟨t9,x9,y9,rfl,⟨a1,l91,k1,rfl,_⟩,⟨a2,l92,k2,rfl,_⟩⟩:=hv.isF
              have hr:=((C3.new w 32 (.bool false) (.slice none 0 0) (.slice none 0 0)).belowS hb1).allocS (.cells #[.bool t9, .slice a1 l91 k1, .slice a2 l92 k2] 32)
              have hv2:=hv.below (zca w1 (.cells #[.bool t9, .slice a1 l91 k1, .slice a2 l92 k2] 32))
              have hb2:=zaa (zaa (zca w (.cells #[.bool false, .slice none 0 0, .slice none 0 0] 32)) hb1) (zca w1 (.cells #[.bool t9, .slice a1 l91 k1, .slice a2 l92 k2] 32))
              have HR:=zH hr
              obtain⟨_,d1,d2,d3,d4,d5,d6⟩:=hr)
 refine zab rfl rfl Try.aggF Try.sizeF (HR.out.set _ _ _) rfl ?_
 exact⟨_,rfl,hv2.set3 HR.out (fun z=>by simp) (fun z=>by simp) _ _ _,zga hb2 (Nat.le_refl _) _ _ _⟩
set_option maxHeartbeats 800000
structure znb (w:World) (b:Nat) (l:List Nat) (at':Nat):Prop where
 lt:b<w.heap.size
 ex:∃v,w.cell? ⟨b,0,none⟩=some v∧zhc w v (l.map fun x:Nat=>Value.int .u8 (x:Nat))
 c1:w.cell? ⟨b,1,none⟩=some (.int .i64 (at':Nat))
 f1:w.frozen? ⟨b,1,none⟩=false
 len:l.length≤400
 le:at'≤400
 byte:∀x∈l,x<256
def zyl (b:Nat) (w w':World):Prop:=(∃k,w'=w.drewN k)∨∃k k' a,w'=((w.drewN k).setCell ⟨b,1,none⟩ (.int .i64 a)).drewN k'
def RNext (w0:World) (b:Nat) (l:List Nat) (n:Nat) (e:Ending) (w:World):Prop:=∃x a:Nat,e= .returned (.int .i64 (x:Nat))∧x<n∧znb w b l a∧zyl b w0 w
theorem znb.drawn {w:World} {b:Nat} {l:List Nat} {a:Nat} (h:znb w b l a) (k:Nat):znb (w.drewN k) b l a:=by
 obtain⟨lt,⟨v,e1,e2⟩,c1,f1,h1,h2,h3⟩:=h
 have hb:=zka (B:=w.heap.size) w k
 exact⟨Nat.lt_of_lt_of_le lt hb.size,⟨v,zba hb e1,e2.below hb⟩,zba hb c1,by rw[hb.frozen lt];exact f1,h1,h2,h3⟩
theorem next_zero (b:Nat) (l:List Nat) (a n:Nat) (w:World) (h:znb w b l a) (hn:1≤n) (hn2:n≤65536) (hz:l.length≤a∨n<2):
 Calls Try.prog 36 #[.pointer (some ⟨b,0,none⟩), .int .i64 n] w (RNext w b l n):=by
 obtain⟨v,e1,e2⟩:=h.ex
 have c1:=h.c1
 have f1:=h.f1
 have sv:=zhc.sl e2
 have lv:slen v=l.length:=by have:=zhc.len e2;simpa using this
 have hll:=h.len
 have hle:=h.le
 by_cases h1:l.length≤a
 ·have hd:decide (((l.length:Nat):Int)≤(a:Nat))=true:=decide_eq_true (by omega)
  go_enter Try.func36,Try.ntmps36
  go_wp2
  go_quiet (fail)
  go_wp2
  go_ret
  exact⟨0,a,rfl,hn,h.drawn _,Or.inl ⟨_,rfl⟩⟩
 ·have hd:decide (((l.length:Nat):Int)≤(a:Nat))=false:=decide_eq_false (by omega)
  have h2:n<2:=hz.resolve_left h1
  have hd2:decide ((n:Int)<2)=true:=decide_eq_true (by omega)
  go_enter Try.func36,Try.ntmps36
  go_wp2
  go_quiet (fail)
  go_wp2
  go_ret
  exact⟨0,a,rfl,hn,h.drawn _,Or.inl ⟨_,rfl⟩⟩
theorem cell_tick {w:World} {b:Nat} {a0:Int} {p:Addr} {x:Value} (hc:w.cell? ⟨b,1,none⟩=some (.int .i64 a0)) (hp:w.cell? p=some x) (hx:∀z,x≠ .int .i64 z) (u:Value):(w.setCell ⟨b,1,none⟩ u).cell? p=some x:=by
 rw[World.cell?_setCell_other]
 ·exact hp
 ·intro e
  rw[←e,hc]at hp
  injection hp with hp
  exact hx _ hp.symm
theorem znb.tick {w:World} {b:Nat} {l:List Nat} {a:Nat} (h:znb w b l a) (a':Nat) (ha:a'≤400):znb (w.setCell ⟨b,1,none⟩ (.int .i64 (a':Nat))) b l a':=by
 obtain⟨lt,⟨v,e1,e2⟩,c1,f1,h1,h2,h3⟩:=h
 refine⟨by simpa [World.setCell]using lt,⟨v,?_,e2.sl,e2.len,fun j hj=>cell_tick c1 (e2.cell j hj) (fun z=>by simp) _⟩,?_,?_,h1,ha,h3⟩
 ·rw[World.cell?_setCell_other _ _ _ _ (by simp)];exact e1
 ·exact World.cell?_setCell_same _ _ _ c1
 ·go_simp
theorem next_more (b:Nat) (l:List Nat) (a n:Nat) (w:World) (h:znb w b l a) (hn2:n≤65536) (h1:a<l.length) (h2:2≤n):
 Calls Try.prog 36 #[.pointer (some ⟨b,0,none⟩), .int .i64 n] w (RNext w b l n):=by
 obtain⟨v,e1,e2⟩:=h.ex
 have c1:=h.c1
 have f1:=h.f1
 have sv:=zhc.sl e2
 have lv:slen v=l.length:=by have:=zhc.len e2;simpa using this
 have hll:=h.len
 have hd:decide (((l.length:Nat):Int)≤(a:Nat))=false:=decide_eq_false (by omega)
 have hd2:decide ((n:Int)<2)=false:=decide_eq_false (by omega)
 have HT:=zH h
 go_enter Try.func36,Try.ntmps36
 go_wp2
 go_quiet (fail)
 have hT1:=HT.out.drawn nq
 obtain⟨v2,e11,e12⟩:=hT1.ex
 have c2:=hT1.c1
 have f2:=hT1.f1
 clear hd hd2 c1 f1
 go_wp2
 have hT2:znb ((w.drewN nq).setCell ⟨b,1,none⟩ (.int .i64 ((a:Int)+1))) b l (a+1):=by
  have:=hT1.tick (a+1) (by omega)
  rwa[show(((a+1:Nat)):Int)=(a:Int)+1 from by omega]at this
 obtain⟨v3,e13,e14⟩:=hT2.ex
 have c3:=hT2.c1
 have s3:=zhc.sl e14
 have l3:slen v3=l.length:=by have:=zhc.len e14;simpa using this
 have hx:=e14.cell a (by simpa using h1)
 rw[List.getElem_map]at hx
 have hxb:=h.byte l[a] (List.getElem_mem h1)
 have HTK:Hid (∀k,zyl b w (((w.drewN nq).setCell ⟨b,1,none⟩ (.int .i64 ((a:Int)+1))).drewN k)):=zH (fun k=>Or.inr ⟨_,_,_,rfl⟩)
 generalize l[a]'h1=x at *
 generalize (w.drewN nq).setCell ⟨b,1,none⟩ (.int .i64 ((a:Int)+1))=W2 at *
 have i1:IntKind.i64.wrap ((((a+1:Nat)):Int)-1)=(a:Int):=by rw[IntWalk.i64_in _ (by omega)];omega
 have i2:(0:Int)≤(a:Int):=by omega
 have i3:(a:Int)<(l.length:Nat):=by omega
 have i4:Int.tmod (x:Int) (n:Int)=((x%n:Nat):Int):=by rw[Int.tmod_eq_emod_of_nonneg (by omega)];omega
 go_quiet (fail)
 go_wp2
 go_ret
 exact⟨x%n,a+1,by first | rfl | (congr 2),Nat.mod_lt _ (by omega),hT2.drawn _,HTK.out _⟩
theorem next_any (b:Nat) (l:List Nat) (a n:Nat) (w:World) (h:znb w b l a) (hn:1≤n) (hn2:n≤65536):
 Calls Try.prog 36 #[.pointer (some ⟨b,0,none⟩), .int .i64 n] w (RNext w b l n):=by
 rcases Nat.lt_or_ge a l.length with h1 | h1
 ·rcases Nat.lt_or_ge n 2 with h2 | h2
  ·exact next_zero b l a n w h hn hn2 (Or.inr h2)
  ·exact next_more b l a n w h hn2 h1 h2
 ·exact next_zero b l a n w h hn hn2 (Or.inl h1)
theorem zyl.cell {b:Nat} {w w':World} (h:zyl b w w') {a0:Int} (hc:w.cell? ⟨b,1,none⟩=some (.int .i64 a0)) {p:Addr} {x:Value} (hp:w.cell? p=some x) (hx:∀z,x≠ .int .i64 z):w'.cell? p=some x:=by
 rcases h with⟨k,rfl⟩ | ⟨k,k',a,rfl⟩
 ·exact zba (zka w k) hp
 ·refine zba (zka _ k') ?_
  exact cell_tick (zba (zka w k) hc) (zba (zka w k) hp) hx _
theorem zyl.size {b:Nat} {w w':World} (h:zyl b w w'):w.heap.size≤w'.heap.size:=by
 rcases h with⟨k,rfl⟩ | ⟨k,k',a,rfl⟩
 ·exact(zka (B:=w.heap.size) w k).size
 ·have h1:=(zka (B:=w.heap.size) w k).size
  have h2:=(zka (B:=w.heap.size) ((w.drewN k).setCell ⟨b,1,none⟩ (.int .i64 a)) k').size
  have h3:((w.drewN k).setCell ⟨b,1,none⟩ (.int .i64 a)).heap.size=(w.drewN k).heap.size:=by simp[World.setCell]
  omega
theorem zyl.below {b B:Nat} {w w':World} (h:zyl b w w') (hB:B≤b) (hs:B≤w.heap.size):Below B w w':=by
 rcases h with⟨k,rfl⟩ | ⟨k,k',a,rfl⟩
 ·exact zka w k
 ·exact((zka w k).setCell (p:=⟨b,1,none⟩) hB _).trans (zka _ k')
theorem Try.infoU8 :(Try.prog.info? 5).map (fun i=>(i.zero,i.size,i.bytes))=some (some (.int .u8 0),1,1):=by kernel_rfl
def bytes (l:List Nat):List Value:=l.map fun x:Nat=>Value.int .u8 (x:Nat)
theorem zhc.tk {w:World} {v:Value} {l:List Value} (h:zhc w v l) (n:Nat) (hn:n≤l.length):zhc w (tk v n) (l.take n):=by
 have e:(l.take n).length=n:=by rw[List.length_take];omega
 have h1:=h.sl.le
 have h2:=h.len
 refine⟨h.sl.tk (by omega),by rw[e];exact h.sl.slen_tk n,fun j hj=> ?_⟩
 rw[ptr_tk,List.getElem_take]
 exact h.cell j (by omega)
def RTape (w0:World) (l:List Nat) (e:Ending) (w:World):Prop:=∃b,e= .returned (.pointer (some ⟨b,0,none⟩))∧w0.heap.size≤b∧znb w b l 0∧Below w0.heap.size w0 w
theorem tape_new (w w1:World) (v:Value) (l:List Nat) (t e:TypeId) (hl:l.length≤400) (hb:∀x∈l,x<256) (h:zce w1 e w.heap.size v (bytes l)) (hbel:Below w.heap.size w w1):
 RTape w l (.returned (.pointer (some ⟨w1.heap.size,0,none⟩))) (w1.alloc (.cells #[v, .int .i64 0] t)):=by
 refine⟨_,rfl,hbel.size,⟨by simp,⟨v,by simp,?_⟩,by simp,by simp,hl,by omega,hb⟩,hbel.alloc hbel.size _⟩
 exact⟨h.sl,by rw[h.len];rfl,fun j hj=>(h.alloc _).cell j hj⟩
theorem append_u8 {P:Program} (t e:TypeId) (i:TypeInfo) (ht:P.underlying t=some (.slice e)) (hi:P.info? e=some i) (hz:i.zero=some (.int .u8 0))
 (hsize:i.size=1) (hby:i.bytes=1) (w:World) {ops:Array Oper} {rest:List Oper} {o:Oper} {a:Act} {Q:Exit→Act→World→Prop} (hgd:o.guard=none) (s x:Operand)
 (ho:o.op= .call { callee:= .builtin .append,args:=#[s,x],argTypes:=#[t,t] })
 (hs:a.eval s= .slice none 0 0) (xv:Value) (hxe:a.eval x=xv) (l:List Nat) (hx:zhc w xv (bytes l)) (hb:l.length≤400)
 (h:∀v' w',zce w' e w.heap.size v' (bytes l)→Below w.heap.size w w'→wpList P ops Q rest (a.put o.dst v') w'):wpList P ops Q (o::rest) a w:=by
 have hl:(bytes l).length=l.length:=by simp[bytes]
 refine zie w hgd s x t ho w.heap.size e i (.int .u8 0) 1 ht hi hz hsize hby rfl _ [] hs (zce.nil _ _ _) xv hxe hx.sl (bytes l) hx.len
  (fun j hj=>hx.cell j hj) (fun u hu=>by obtain⟨x,_,rfl⟩:=List.mem_map.1 hu;rfl)
  (by simp[maxLen,hl];omega) (by simp[hl];omega) (Nat.le_refl _) ?_
 intro v' w' h2 _ h4
 rw[List.nil_append]at h2
 exact h v' w' h2 h4
set_option maxHeartbeats 1600000 in
theorem new_any (v:Value) (l:List Nat) (w:World) (h:zhc w v (bytes l)) (hb:∀x∈l,x<256):
 Calls Try.prog 13 #[v] w (RTape w (l.take 400)):=by
 obtain⟨i0,hi,hz0,hz1,hz2⟩:=info_parts Try.infoU8
 have hA:=append_u8 (P:=Try.prog) 22 5 i0 Try.underlying22 hi hz0 hz1 hz2
 clear hi hz0 hz1 hz2
 have sv:=h.sl
 have lv:slen v=l.length:=by rw[h.len,bytes,List.length_map]
 have hle:=sv.le
 rw[lv]at hle
 by_cases hd:400<l.length
 ·have hd1:decide ((400:Int)<(l.length:Nat))=true:=decide_eq_true (by omega)
  have hcap:(400:Int)≤scap v:=by omega
  have ht2:zhc w (tk v 400) (bytes (l.take 400)):=by have:=h.tk 400 (by simp[bytes];omega);simpa [bytes,List.map_take]using this
  go_enter Try.func13,Try.ntmps13
  go_wp2_with (at_builtin;refine hA w rfl _ _ rfl rfl _ rfl (l.take 400) ht2 (by simp;omega) ?_;intro v' w1 hown hbel;obtain⟨an,nn,cn,rfl,_⟩:=hown.sl)
  go_ret
  exact tape_new w w1 _ _ _ _ (by simp;omega) (fun x hx=>hb x (List.mem_of_mem_take hx)) hown hbel
 ·have hd1:decide ((400:Int)<(l.length:Nat))=false:=decide_eq_false (by omega)
  rw[List.take_of_length_le (by omega)]
  go_enter Try.func13,Try.ntmps13
  go_wp2_with (at_builtin;refine hA w rfl _ _ rfl rfl _ rfl l h (by omega) ?_;intro v' w1 hown hbel;obtain⟨an,nn,cn,rfl,_⟩:=hown.sl)
  go_ret
  exact tape_new w w1 _ _ _ _ (by omega) hb hown hbel
def RSame (w0:World) (p:Prop) (e:Ending) (w:World):Prop:=(∃b,e= .returned (.bool b)∧(b=true↔p))∧Below w0.heap.size w0 w
theorem list_ext_of {α:Type _} {a b:List α} (hl:a.length=b.length) (h:∀ (j:Nat) (h1:j<a.length) (h2:j<b.length),a[j]=b[j]):a=b:=List.ext_getElem hl h
theorem zfc.at' {w:World} {v:Value} {l:List Nat} (h:zfc w v l) (j:Nat) (hj:j<l.length):w.cell? (ptr v j)=some (.int .u32 (l[j]:Nat)):=h.cell j hj
set_option maxHeartbeats 1600000 in
theorem zrh (va vb:Value) (a b:List Nat) (w:World) (ha:zfc w va a) (hb:zfc w vb b):
 Calls Try.prog 46 #[va,vb] w (RSame w (a=b)):=by
 have sa:=ha.sl
 have la:=ha.len
 have sb:=hb.sl
 have lb:=hb.len
 have hle:=sa.le
 have hle2:=sb.le
 rw[la]at hle
 rw[lb]at hle2
 have hlb:a.length≤9223372036854775807:=by omega
 have hlb2:b.length≤9223372036854775807:=by omega
 clear hle hle2
 have hw:w.heap.size≤w.heap.size:=Nat.le_refl _
 by_cases hlen:a.length=b.length
 ·skip
  have hL:=zH hlen
  rw[←hlen]at lb
  clear hlen
  go_enter Try.func46,Try.ntmps46
  go_wp2_with fail
  go_loopw [5] (fun u5 wr=>∃ (k:Nat),k≤a.length∧u5= .int .i64 k∧(∀ (j:Nat) (h1:j<a.length) (h2:j<b.length),j<k→a[j]=b[j])∧Below w.heap.size w wr) (fun u5 _=>a.length- (intOf u5).toNat)
  case atStart=>exact⟨0,Nat.zero_le _,rfl,fun j _ _ h=>by omega,Below.refl _ _⟩
  case round=>
   obtain⟨k,hk,rfl,hst,hbr⟩:=hrel
   have HST:=zH hst
   clear hst
   by_cases hkl:k<a.length
   ·have hkb:k<b.length:=by rw[←hL.out];exact hkl
    have hc:=(ha.below hbr).at' k hkl
    have hd:=(hb.below hbr).at' k hkb
    have HX:Hid (∀ (h1:k<a.length) (h2:k<b.length),a[k]=b[k]↔a[k]'hkl=b[k]'hkb):=zH (fun _ _=>Iff.rfl)
    have i1:(0:Int)≤(k:Int):=by omega
    have i2:(k:Int)<(a.length:Nat):=by omega
    generalize ha':a[k]'hkl=x at *
    generalize hb':b[k]'hkb=y at *
    have HA:=zH ha'
    have HB:=zH hb'
    clear ha' hb'
    by_cases hxy:x=y
    ·subst hxy
     have HST2:Hid (∀ (j:Nat) (h1:j<a.length) (h2:j<b.length),j<k+1→a[j]=b[j]):=zH (fun j h1 h2 h3=>by
      rcases Nat.lt_or_ge j k with h4 | h4
      ·exact HST.out j h1 h2 h4
      ·obtain rfl:j=k:=by omega
       rw[HA.out,HB.out])
     go_wp2_with fail
     go_quiet (fail)
     have hbd:=zaa hbr (zka (B:=wr.heap.size) wr nq)
     go_wp2_with fail
     go_roundw
     case rel=>exact⟨k+1,by omega,by go_num,HST2.out,hbd⟩
     case measure=>simp[intOf];omega
    ·skip
     have hxy2:((x:Int)==(y:Int))=false:=by first | (simp;omega) | simpa using hxy
     go_wp2_with fail
     go_quiet (fail)
     have hbd:=zaa hbr (zka (B:=wr.heap.size) wr nq)
     go_wp2_with fail
     go_ret
     exact⟨⟨false,rfl,by simp;intro h;subst h;exact hxy (HA.out.symm.trans HB.out)⟩,hbd⟩
   ·go_wp2_with fail
    go_ret
    refine⟨⟨true,rfl,by simp;exact list_ext_of hL.out (fun j h1 h2=>HST.out j h1 h2 (by omega))⟩,hbr⟩
 ·have hne:((a.length:Int)==(b.length:Int))=false:=by simp;omega
  go_enter Try.func46,Try.ntmps46
  go_wp2_with fail
  go_ret
  exact⟨⟨false,rfl,by simp;intro h;exact hlen (by rw[h])⟩,Below.refl _ _⟩
theorem rat_parts {p q:Rat}:p=q↔decide (p<0)=decide (q<0)∧zla p.num.natAbs=zla q.num.natAbs∧zla p.den=zla q.den:=by
 constructor
 ·rintro rfl;exact⟨rfl,rfl,rfl⟩
 ·rintro⟨h1,h2,h3⟩
  have e2:=zhg h2
  have e3:=zhg h3
  rw[←zvb p,←zvb q,h1,e2,e3]
set_option maxRecDepth 100000 in
set_option maxHeartbeats 1600000 in
theorem same_frac (va vb:Value) (p q:Rat) (w:World) (ha:zqa w va p) (hb:zqa w vb q):
 Calls Try.prog 18 #[va,vb] w (RSame w (p=q)):=by
 obtain⟨a1,a2,rfl,n1,n2⟩:=ha
 obtain⟨b1,b2,rfl,m1,m2⟩:=hb
 have HP:=zH (@rat_parts p q)
 have n1:=n1.1
 have n2:=n2.1
 have m1:=m1.1
 have m2:=m2.1
 obtain⟨a1a,a1n,a1c,rfl,_⟩:=n1.sl
 obtain⟨a2a,a2n,a2c,rfl,_⟩:=n2.sl
 obtain⟨b1a,b1n,b1c,rfl,_⟩:=m1.sl
 obtain⟨b2a,b2n,b2c,rfl,_⟩:=m2.sl
 generalize decide (p<0)=s at *
 generalize decide (q<0)=t at *
 generalize zla p.num.natAbs=x at *
 generalize zla q.num.natAbs=y at *
 generalize zla p.den=z at *
 generalize zla q.den=u at *
 have hbx:=zca w (.cells #[.bool s, .slice a1a a1n a1c, .slice a2a a2n a2c] 32)
 have hbx:=(hbx.alloc hbx.size (.cells #[.bool t, .slice b1a b1n b1c, .slice b2a b2n b2c] 32))
 have n1:=n1.below hbx
 have n2:=n2.below hbx
 have m1:=m1.below hbx
 have m2:=m2.below hbx
 have hC:=(C3.new w 32 (.bool s) (.slice a1a a1n a1c) (.slice a2a a2n a2c)).allocS (.cells #[.bool t, .slice b1a b1n b1c, .slice b2a b2n b2c] 32)
 have hD:=C3.new (w.alloc (.cells #[.bool s, .slice a1a a1n a1c, .slice a2a a2n a2c] 32)) 32 (.bool t) (.slice b1a b1n b1c) (.slice b2a b2n b2c)
 rw[show(w.alloc (.cells #[.bool s, .slice a1a a1n a1c, .slice a2a a2n a2c] 32)).heap.size=w.heap.size+1 from by simp]at hD
 by_cases h1:s=t
 ·subst h1
  by_cases hxy:x=y
  ·by_cases hzu:z=u
   ·have tok:True:=trivial
    go_enter Try.func18,Try.ntmps18
    go_wp2_with (first
     |(go_at_call 46;have _t:=tok;(with_reducible refine(zrh _ _ x y _ n1 m1).mono ?_);rintro e1 w1 ⟨⟨r1,rfl,h1⟩,hbel1⟩;obtain rfl:r1=true:=h1.2 hxy;clear h1 tok _t
       have n3:=n2.below hbel1
       have m3:=m2.below hbel1
       obtain⟨_,c0,c1,c2,_,_,_⟩:=hC.belowS hbel1
       obtain⟨_,d0,d1,d2,_,_,_⟩:=hD.belowS hbel1)
     |(go_at_call 46;(with_reducible refine(zrh _ _ z u _ n3 m3).mono ?_);rintro e2 w2 ⟨⟨r2,rfl,h2⟩,hbel2⟩;obtain rfl:r2=true:=h2.2 hzu;clear h2))
    go_ret
    exact⟨⟨true,rfl,by simp;exact HP.out.2 ⟨by first | rfl | trivial,hxy,hzu⟩⟩,(hbx.trans (hbel1.mono hbx.size)).trans (hbel2.mono (hbx.trans (hbel1.mono hbx.size)).size)⟩
   ·have tok:True:=trivial
    go_enter Try.func18,Try.ntmps18
    go_wp2_with (first
     |(go_at_call 46;have _t:=tok;(with_reducible refine(zrh _ _ x y _ n1 m1).mono ?_);rintro e1 w1 ⟨⟨r1,rfl,h1⟩,hbel1⟩;obtain rfl:r1=true:=h1.2 hxy;clear h1 tok _t
       have n3:=n2.below hbel1
       have m3:=m2.below hbel1
       obtain⟨_,c0,c1,c2,_,_,_⟩:=hC.belowS hbel1
       obtain⟨_,d0,d1,d2,_,_,_⟩:=hD.belowS hbel1)
     |(go_at_call 46;(with_reducible refine(zrh _ _ z u _ n3 m3).mono ?_);rintro e2 w2 ⟨⟨r2,rfl,h2⟩,hbel2⟩;obtain rfl:r2=false:=Bool.eq_false_iff.2 (fun h=>hzu (h2.1 h));clear h2))
    go_ret
    exact⟨⟨false,rfl,by simp;exact fun h=>hzu (HP.out.1 h).2.2⟩,(hbx.trans (hbel1.mono hbx.size)).trans (hbel2.mono (hbx.trans (hbel1.mono hbx.size)).size)⟩
  ·go_enter Try.func18,Try.ntmps18
   go_wp2_with (go_at_call 46;(with_reducible refine(zrh _ _ x y _ n1 m1).mono ?_);rintro e1 w1 ⟨⟨r1,rfl,h1⟩,hbel1⟩;obtain rfl:r1=false:=Bool.eq_false_iff.2 (fun h=>hxy (h1.1 h));clear h1)
   go_ret
   exact⟨⟨false,rfl,by simp;exact fun h=>hxy (HP.out.1 h).2.1⟩,hbx.trans (hbel1.mono hbx.size)⟩
 ·have h2:(s==t)=false:=by simpa using h1
  go_enter Try.func18,Try.ntmps18
  go_wp2_with fail
  go_ret
  exact⟨⟨false,rfl,by simp;exact fun h=>h1 (HP.out.1 h).1⟩,hbx⟩
structure MatC (w:World) (v:Value) (m:List (List Rat)):Prop where
 sl:zgc v
 len:slen v=m.length
 at':∀ (j:Nat) (h:j<m.length),∃r,w.cell? (ptr v j)=some r∧zbb w r m[j]
theorem MatC.below {w w':World} {v:Value} {m:List (List Rat)} (h:MatC w v m) (hb:Below w.heap.size w w'):MatC w' v m:=
 ⟨h.sl,h.len,fun j hj=>by obtain⟨r,h1,h2⟩:=h.at' j hj;exact⟨r,zba hb h1,h2.below hb⟩⟩
structure CQ where
 rates:List (List Rat)
 start:List Rat
 lost:List Bool
def ChainC (w:World) (v:Value) (c:CQ):Prop:=∃r s l,v= .agg #[r,s,l]∧MatC w r c.rates∧zbb w s c.start∧zcm w l c.lost
theorem ChainC.below {w w':World} {v:Value} {c:CQ} (h:ChainC w v c) (hb:Below w.heap.size w w'):ChainC w' v c:=by
 obtain⟨r,s,l,rfl,h1,h2,h3⟩:=h;exact⟨r,s,l,rfl,h1.below hb,h2.below hb,h3.below hb⟩
theorem znb.below {w w':World} {l:List Nat} {b a:Nat} (h:znb w b l a) (hb:Below w.heap.size w w'):znb w' b l a:=by
 obtain⟨lt,⟨v,e1,e2⟩,c1,f1,h1,h2,h3⟩:=h
 exact⟨Nat.lt_of_lt_of_le lt hb.size,⟨v,zba hb e1,e2.below hb⟩,zba hb c1,by rw[hb.frozen lt];exact f1,h1,h2,h3⟩
def zvf (w:World) (b:Nat) (l:List Nat) (B a:Nat):Prop:=znb w b l a∧∀v,w.cell? ⟨b,0,none⟩=some v→∀j,j<l.length→(ptr v j).block<B
theorem znb.b {w:World} {b a:Nat} {l:List Nat} (h:znb w b l a):zvf w b l w.heap.size a:=by
 refine⟨h,fun v hv j hj=> ?_⟩
 obtain⟨v',e1,e2⟩:=h.ex
 rw[e1]at hv
 injection hv with hv
 subst hv
 exact World.block_lt_of_cell? w _ (e2.cell j (by simpa using hj))
theorem zvf.mono {w:World} {b a B B':Nat} {l:List Nat} (h:zvf w b l B a) (hB:B≤B'):zvf w b l B' a:=⟨h.1,fun v hv j hj=>Nat.lt_of_lt_of_le (h.2 v hv j hj) hB⟩
theorem zvf.below {w w':World} {b a B:Nat} {l:List Nat} (h:zvf w b l B a) (hb:Below w.heap.size w w'):zvf w' b l B a:=by
 obtain⟨h1,h2⟩:=h
 refine⟨h1.below hb,fun v hv j hj=> ?_⟩
 rw[hb.cell h1.lt]at hv
 exact h2 v hv j hj
theorem zvf.low {w w':World} {b a B:Nat} {l:List Nat} (h:zvf w b l B a) (hb:Below B w w') (hB:b<B):zvf w' b l B a:=by
 obtain⟨⟨lt,⟨v,e1,e2⟩,c1,f1,h1,h2,h3⟩,h4⟩:=h
 have hl:=h4 v e1
 refine⟨⟨Nat.lt_of_lt_of_le lt hb.size,⟨v,by rw[hb.cell (by exact hB)];exact e1,e2.sl,e2.len,fun j hj=> ?_⟩,by rw[hb.cell (by exact hB)];exact c1,by rw[hb.frozen (by exact hB)];exact f1,h1,h2,h3⟩,fun u hu j hj=> ?_⟩
 ·rw[hb.cell (hl j (by simpa using hj))];exact e2.cell j hj
 ·rw[hb.cell (by exact hB)]at hu
  exact h4 u hu j hj
theorem zvf.set {w:World} {b a B:Nat} {l:List Nat} (h:zvf w b l B a) {p:Addr} {x:Value} (hp:p.block≠b) (hc:w.cell? p=some x) (hx:∀z,x≠ .int .u8 z) (u:Value):zvf (w.setCell p u) b l B a:=by
 obtain⟨⟨lt,⟨v,e1,e2⟩,c1,f1,h1,h2,h3⟩,h4⟩:=h
 have hne:∀k,p≠⟨b,k,none⟩:=fun k e=>hp (by rw[e])
 refine⟨⟨by simpa [World.setCell]using lt,⟨v,by rw[World.cell?_setCell_other _ _ _ _ (hne _)];exact e1,e2.sl,e2.len,fun j hj=> ?_⟩,by rw[World.cell?_setCell_other _ _ _ _ (hne _)];exact c1,by rw[World.frozen?_setCell];exact f1,h1,h2,h3⟩,fun u' hu j hj=> ?_⟩
 ·rw[World.cell?_setCell_other]
  ·exact e2.cell j hj
  ·intro e
   have h6:=e2.cell j hj
   rw[←e,hc]at h6
   injection h6 with h6
   rw[List.getElem_map]at h6
   exact hx _ h6
 ·rw[World.cell?_setCell_other _ _ _ _ (hne _)]at hu
  exact h4 u' hu j hj
theorem zyl.frozen {w w':World} {b:Nat} (h:zyl b w w') {p:Addr} (hp:p.block<w.heap.size):w'.frozen? p=w.frozen? p:=by
 rcases h with⟨k,rfl⟩ | ⟨k,k',a,rfl⟩
 ·exact(zka (B:=w.heap.size) w k).frozen hp
 ·have h1:=(zka (B:=w.heap.size) w k)
  rw[(zka (B:=((w.drewN k).setCell ⟨b,1,none⟩ (.int .i64 a)).heap.size) _ k').frozen (by simp[World.setCell];have:=h1.size;omega)]
  rw[World.frozen?_setCell]
  exact h1.frozen hp
theorem zgc.noInt {v:Value} (h:zgc v):∀z,v≠ .int .i64 z:=fun z e=>by obtain⟨a,n,c,rfl,_⟩:=h;cases e
theorem zgc.noLimb {v:Value} (h:zgc v):∀z,v≠ .int .u32 z:=fun z e=>by obtain⟨a,n,c,rfl,_⟩:=h;cases e
theorem zgc.noByte {v:Value} (h:zgc v):∀z,v≠ .int .u8 z:=fun z e=>by obtain⟨a,n,c,rfl,_⟩:=h;cases e
theorem zid {w w':World} {B:Nat} {u:Value} (hg:w.grownBy w' u.ownBlock) (hB:B≤w.heap.size) (hu:∀k,u.ownBlock=some k→B≤k∧k<w.heap.size):Below B w w':=zna hg hB (fun k hk=>(hu k hk).1)
structure ChW (w:World) (bt:Nat) (l:List Nat) (B b5:Nat) (vr vs vl:Value) (rs:List Value) (rates:List (List Rat)) (start:List Rat) (lost:List Bool):Prop where
 tape:∃a,zvf w bt l B a
 box:C3 w b5 vr vs vl
 st:zya w 32 B vs start
 lo:zlc w 4 B 1 vl (lost.map Value.bool).length (lost.map Value.bool)
 ra:zlc w 23 B 1 vr rs.length rs
 rl:rs.length=rates.length
 rows:∀ (j:Nat) (h:j<rs.length) (h':j<rates.length),zya w 32 B rs[j] rates[j]∧(rs[j].ownBlock=none∨rs[j].ownBlock≠vs.ownBlock)
 sz:B≤w.heap.size
 bt5:bt<B∧b5<B∧b5≠bt
section
variable {w w':World} {bt:Nat} {l:List Nat} {B b5:Nat} {vr vs vl:Value} {rs:List Value} {rates:List (List Rat)} {start:List Rat} {lost:List Bool}
theorem ChW.of (h:ChW w bt l B b5 vr vs vl rs rates start lost) (hm:zhb B w w') (ht:∃a,zvf w' bt l B a) (hb:C3 w' b5 vr vs vl):ChW w' bt l B b5 vr vs vl rs rates start lost:=
 ⟨ht,hb,h.st.moves hm (Nat.le_refl _),h.lo.moves hm (Nat.le_refl _),h.ra.moves hm (Nat.le_refl _),h.rl,fun j h1 h2=>⟨(h.rows j h1 h2).1.moves hm (Nat.le_refl _),(h.rows j h1 h2).2⟩,Nat.le_trans h.sz hm.size,h.bt5⟩
theorem ChW.below (h:ChW w bt l B b5 vr vs vl rs rates start lost) (hb:Below w.heap.size w w'):ChW w' bt l B b5 vr vs vl rs rates start lost:=by
 obtain⟨a,ht⟩:=h.tape
 exact h.of (zhb.below hb) ⟨a,ht.below hb⟩ (h.box.belowS hb)
end
structure MkR (w:World) (B:Nat) (v:Value) (rs:List Value) (c:Nat) (A:Mx):Prop where
 ra:zlc w 23 B 1 v rs.length rs
 rows:∀ (j:Nat) (h:j<rs.length),zya w 32 B rs[j] (zib c (A j))
 sz:B≤w.heap.size
section
variable {w w':World} {B c:Nat} {v v' r:Value} {rs:List Value} {A:Mx}
theorem MkR.below (h:MkR w B v rs c A) (hb:Below w.heap.size w w'):MkR w' B v rs c A:=
 ⟨h.ra.moves (zhb.below (B:=B) hb) (Nat.le_refl _),fun j hj=>(h.rows j hj).moves (zhb.below (B:=B) hb) (Nat.le_refl _),Nat.le_trans h.sz hb.size⟩
theorem MkR.push (h:MkR w B v rs c A) (hr:zya w 32 B r (zib c (A rs.length))) (hv:zlc w' 23 B 1 v' (rs++ [r]).length (rs++ [r])) (hg:w.grownBy w' v.ownBlock) (hn:zlb w v):
 MkR w' B v' (rs++ [r]) c A∧Below B w w':=by
 obtain⟨ra,rows,sz⟩:=h
 have hb:Below B w w':=zna hg sz (fun k hk=>(ra.block k hk).1)
 refine⟨⟨hv,fun j h1=> ?_,Nat.le_trans sz hb.size⟩,hb⟩
 rcases Nat.lt_or_ge j rs.length with hj | hj
 ·rw[List.getElem_append_left hj]
  obtain⟨ys,y1,y2⟩:=id (rows j hj)
  exact(rows j hj).grown hg hn (y1.kinds ra (by decide))
 ·obtain rfl:j=rs.length:=by simp at h1;omega
  have e1:(rs++ [r])[rs.length]'h1=r:=by simp
  obtain⟨zs,z1,z2⟩:=id hr
  rw[e1]
  exact hr.grown hg hn (z1.kinds ra (by decide))
end
theorem MkR.matC {w:World} {B c:Nat} {v:Value} {rs:List Value} {A:Mx} (h:MkR w B v rs c A) {m:List (List Rat)} (hl:rs.length=m.length) (hr:∀j (hj:j<m.length),zib c (A j)=m[j]):MatC w v m:=
 ⟨h.ra.sl,by rw[h.ra.len];exact hl,fun j hj=>⟨rs[j]'(by omega),h.ra.cell j (by omega),by rw[←hr j hj];exact(h.rows j (by omega)).fracs⟩⟩
end Go.Proofs.Ytlpdkbmmbdfoiaa
