/- Lemmas. -/
import Derived.Test.YtlpdkbmmbdfoiaaGreatEGw5
import Derived.Test.YtlpdkbmmbdfoiaaGreatERr1
set_option linter.unusedVariables false
set_option linter.unusedSimpArgs false
namespace Go.Proofs.YtlpdkbmmbdfoiaaGreat
set_option maxHeartbeats 6400000
open Go.RowKit
def lsr (c:RC) (s k:Nat):Rat:=sg k fun t=>if c.lost.getD t false=true then rq c s t else 0
def lst (c:RC) (k:Nat):Rat:=sg k fun t=>if c.lost.getD t false=true then(qs c.start).getD t 0 else 0
theorem add_cr (va vb:Value) (p:Rat) (x:RF) (w:World) (ha:zqa w va p) (hb:zdc w vb x.neg x.n x.d) (hp:fits p) (hx:x.ok) (hr:fits (p+x.q)):Calls Tryz.prog 80 #[va,vb] w (RF0 w (p+x.q)):=by
 have h:=zco va vb _ _ _ _ _ _ w ha.raw hb (zuc hp) hx
 rw[zvb]at h
 exact h.mono fun _ _ h=>h.ok rfl hr
structure HitP (c:RC) (l:List Nat) (x:Nat->Rat):Prop where
 sp:zzt c l (fun i=>lsr c (l.getD i 0) c.rates.length) x
 fr:∀i k,i<l.length->k<=c.rates.length->fits (lsr c (l.getD i 0) k)
 fs:∀k,k<=c.rates.length->fits (sg l.length (fun i=>(qs c.start).getD (l.getD i 0) 0*x i)+lst c k)
set_option maxRecDepth 100000 in
theorem hit_bad (va:Value) (c:RC) (w:World) (ha:zdq w va c) (hv:¬zzp c):Calls Tryz.prog 43 #[va] w fun e w'=>e= .returned (.tuple #[.agg #[.bool false, .slice none 0 0, .slice none 0 0], .int .i64 1])/\Below w.heap.size w w':=by
 obtain⟨rv,sv,lv,rfl,hr,hs,hlo⟩:=id ha
 obtain⟨ra,rn,rk,rfl,_⟩:=id hr.sl
 obtain⟨sa,sn,sk,rfl,_⟩:=id hs.sl
 obtain⟨la,ln,lk,rfl,_⟩:=id (zhc.sl hlo)
 have hbx:=zca w (.cells #[.slice ra rn rk, .slice sa sn sk, .slice la ln lk] 28)
 have hb2:=zca (w.alloc (.cells #[.slice ra rn rk, .slice sa sn sk, .slice la ln lk] 28)) (.cells #[.bool false, .slice none 0 0, .slice none 0 0] 38)
 have HR:=zH (C3.newB (b:=w.heap.size+1) (w.alloc (.cells #[.slice ra rn rk, .slice sa sn sk, .slice la ln lk] 28)) 38 (.bool false) (.slice none 0 0) (.slice none 0 0) (by simp))
 have HBW:=zH (zaa hbx hb2)
 have HA:=zH (ha.below HBW.out)
 have HV:=zH hv
 clear hr hs hlo ha hv hbx hb2
 go_enter Tryz.func43,Tryz.ntmps43
 go_wp2_with (first
  |(go_at_call 68;(with_reducible refine(zar _ c _ HA.out).mono ?_);rintro e2 w2 ⟨⟨b2,rfl,hv2⟩,hb2⟩;obtain rfl:b2=false:=Bool.eq_false_iff.2 (fun h=>HV.out (hv2.1 h));clear hv2
    have HB2:=zH (zaa HBW.out hb2)
    have HR2:=zH (HR.out.belowS hb2)
    obtain⟨_,r0,r1,r2,q0,q1,q2⟩:=HR2.out))
 refine zoa rfl rfl Tryz.aggF Tryz.sizeF (HR2.out.set _ _ _) rfl ?_
 exact⟨rfl,zga HB2.out (Nat.le_succ _) _ _ _⟩
set_option maxRecDepth 100000 in
theorem hit_any (va:Value) (c:RC) (R:Rat) (w:World) (ha:zdq w va c) (hv:zzp c) (hp:∀l,zvq c l->∃x,HitP c l x/\sg l.length (fun i=>(qs c.start).getD (l.getD i 0) 0*x i)+lst c c.rates.length=R):
 Calls Tryz.prog 43 #[va] w (RF0 w R):=by
 have HP:=zH hp
 clear hp
 have hlen:c.rates.length=c.start.length:=hv.2.2.2.1
 have hlost:c.lost.length=c.start.length:=hv.2.2.1
 have h128:c.start.length<=128:=hv.2.1
 obtain⟨rv,sv,lv,rfl,hr,hs,hlo⟩:=id ha
 obtain⟨ra,rn,rk,rfl,_⟩:=id hr.sl
 obtain⟨sa,sn,sk,rfl,_⟩:=id hs.sl
 obtain⟨la,ln,lk,rfl,_⟩:=id (zhc.sl hlo)
 have hbx:=zca w (.cells #[.slice ra rn rk, .slice sa sn sk, .slice la ln lk] 28)
 have hb2:=zca (w.alloc (.cells #[.slice ra rn rk, .slice sa sn sk, .slice la ln lk] 28)) (.cells #[.bool false, .slice none 0 0, .slice none 0 0] 38)
 have HC:=zH ((C3.new w 28 (.slice ra rn rk) (.slice sa sn sk) (.slice la ln lk)).belowS hb2)
 have HR:=zH (C3.newB (b:=w.heap.size+1) (w.alloc (.cells #[.slice ra rn rk, .slice sa sn sk, .slice la ln lk] 28)) 38 (.bool false) (.slice none 0 0) (.slice none 0 0) (by simp))
 have HBW:=zH (zaa hbx hb2)
 have HA:=zH (ha.below HBW.out)
 have HV:=zH hv
 have hrn:rn=c.rates.length:=hr.len
 have hsn:sn=c.rates.length:=hs.len.trans hlen.symm
 have hll:ln=c.rates.length:=by have h:ln=c.lost.length:=hlo.len;omega
 have hrn128:c.rates.length<=128:=by omega
 have HRT:=zH (hr.below HBW.out)
 have HST:=zH (hs.below HBW.out)
 have HLO:=zH (hlo.below HBW.out)
 have HLL:Hid (c.lost.length=c.rates.length):=zH (by omega)
 have HSL:Hid (c.start.length=c.rates.length):=zH hlen.symm
 have srt:=hr.sl
 have sst:=hs.sl
 have slo:=zhc.sl hlo
 obtain⟨n,hn⟩:∃n,c.rates.length=n:=⟨_,rfl⟩
 rw[hn]at hrn hsn hll hrn128 HLL HSL
 have HN:=zH hn
 subst hrn
 obtain rfl:sn=rn:=hsn
 obtain rfl:ln=sn:=hll
 clear hr hs hlo ha hv hbx hb2 hlen hlost h128 hn
 obtain⟨i0,hi,hz0,hz1,hz2⟩:=info_parts Tryz.infoF
 have hM:=zon (P:=Tryz.prog) 25 38 i0 Tryz.underlying25 hi hz0 hz1 (by rw[hz2];decide)
 clear hi hz0 hz1 hz2
 go_enter Tryz.func43,Tryz.ntmps43
 go_upto_region 1 with fail
 generalize (w.alloc (.cells #[.slice ra ln rk, .slice sa ln sk, .slice la ln lk] 28)).alloc (.cells #[.bool false, .slice none 0 0, .slice none 0 0] 38)=W2 at *
 obtain⟨_,c0,c1,c2,_,_,_⟩:=HC.out
 go_upto_region 4 with(first
  |(go_at_call 68;(with_reducible refine(zar _ c _ HA.out).mono ?_);rintro e2 w2 ⟨⟨b2,rfl,hv2⟩,hb2⟩;obtain rfl:b2=true:=hv2.2 HV.out;clear hv2
    have c0:=zba hb2 c0
    have c1:=zba hb2 c1
    have c2:=zba hb2 c2
    have HA2:=zH (HA.out.below hb2))
  |(go_at_call 108;(with_reducible refine(zzv _ c _ HA2.out HV.out).mono ?_);rintro e3 w3 ⟨v3,l,rfl,hv3,hal,hb3⟩
    have HB3:=zH (zaa hb2 hb3)
    have HL3:=zH hv3
    obtain⟨x,hx⟩:=HP.out l hal
    have HX:=zH hx.1
    have HXR:=zH hx.2
    have hl24:=hx.1.sp.le
    obtain⟨m,hm⟩:∃m,l.length=m:=⟨_,rfl⟩
    have HM:=zH hm
    rw[hm]at hl24
    have sv3:=zhc.sl hv3
    have lv3:slen v3=m:=by have h:=zhc.len hv3;rw[List.length_map,zbq,hm]at h;exact h
    obtain⟨va1,vn1,vk1,rfl,_⟩:=id (zhc.sl hv3)
    obtain rfl:vn1=m:=lv3
    have HC3:=zH (HC.out.belowS HB3.out)
    have HR3:=zH (HR.out.belowS HB3.out)
    have HA3:=zH (HA.out.below HB3.out)
    have HRT3:=zH (HRT.out.below HB3.out)
    have HST3:=zH (HST.out.below HB3.out)
    have HLO3:=zH (HLO.out.below HB3.out)
    have HBW3:=zH (zaa HBW.out HB3.out)
    clear hv3 hal hb2 hb3 HP HA2 hx hm c0 c1 c2))
 clear HA HC HR HRT HST HLO HBW HB3
 go_wp2_with (refine hM w3 rfl _ _ rfl w3.heap.size _ vn1 rfl rfl rfl (by omega) (zLR _) ?_
              intro vO w5 hO5 hb5 hvO
              have HO5:=zH hO5
              have HB5:=zH hb5
              have slO:=hO5.sl
              have lnO:=hO5.len
              clear hO5 hb5)
 clear hM
 go_loopg [25] (vn1) (fun g u25 wr=>∃ (i:Nat),i<=vn1/\g=vn1-i/\u25= .int .i64 i/\zqb wr 38 w3.heap.size vO vn1/\(∀t,t<i->zlg wr vO t (lsr c (l.getD t 0) ln))/\Below w3.heap.size w3 wr)
 case atStart=>exact⟨0,zZL _,rfl,rfl,HO5.out,fun t h=>by omega,HB5.out⟩
 case round=>
  obtain⟨i,hin,hg,rfl,ho,he,hbr⟩:=hrel
  obtain⟨w6,hw6⟩:∃w6,w6=wr:=⟨_,rfl⟩
  subst hw6
  have HG:=zH hg
  have HE:=zH he
  have HO:=zH ho
  have HBR:=zH hbr
  clear he hg HO5 HB5
  by_cases hil:i<vn1
  ·have hil3:i<(ztr l).length:=by rw[zbq,HM.out];exact hil
   have hcl:=(HL3.out.below hbr).at' i hil3
   rw[zct (by rw[HM.out];exact hil)]at hcl
   have hsl:=HX.out.sp.lt i (by rw[HM.out];exact hil)
   have hfr:=HX.out.fr i
   rw[HM.out,HN.out]at hfr
   have HFR0:=zH hfr
   obtain⟨s,hs⟩:∃s,l.getD i 0=s:=⟨_,rfl⟩
   rw[hs]at hcl hsl HFR0
   have HS:=zH hs
   have HFR:Hid (∀k,k<=ln->fits (lsr c s k)):=zH (fun k hk=>HFR0.out k hil hk)
   have i1:(0:Int)<=(i:Int):=by omega
   have i2:(i:Int)<(vn1:Nat):=by omega
   clear ho hbr hfr HFR0 hs
   go_upto_region 9 with(first
    |(go_at_call 109;(with_reducible refine(zdr _).mono ?_);rintro e31 w31 ⟨v31,rfl,hv31,hb31⟩
      obtain⟨t6,x31,y31,rfl,⟨a61,l61,k61,rfl,_⟩,⟨a62,l62,k62,rfl,_⟩⟩:=hv31.isF
      have ho3:=HO.out.below hb31
      obtain⟨c0,d0,_⟩:=ho3.cell (i*3) (by omega)
      obtain⟨c1,d1,_⟩:=ho3.cell (i*3+1) (by omega)
      obtain⟨c2,d2,_⟩:=ho3.cell (i*3+2) (by omega)
      have f0:=ho3.frozen (i*3)
      have f1:=ho3.frozen (i*3+1)
      have f2:=ho3.frozen (i*3+2)
      have n01:=ho3.inj (show i*3≠i*3+1 by omega)
      have n02:=ho3.inj (show i*3≠i*3+2 by omega)
      have n12:=ho3.inj (show i*3+1≠i*3+2 by omega)
      have HS3:=zH (ho3.set3 i (.bool t6) (.slice a61 l61 k61) (.slice a62 l62 k62) (fun z=>by simp) (fun z=>by simp) (fun z=>by simp))
      have HE3:=zH (fun t ht=>(HE.out t ht).below hb31)
      have HO3:=zH ho3
      have HV6:=zH hv31
      have HB3:=zH (zfa HBR.out hb31 HBR.out.size)
      clear ho3 hv31 hb31))
   have HE6:=zH (fun t (ht:t<i)=>zlg.set3_other HO3.out hil (show i≠t by omega) (HE3.out t ht) (.bool t6) (.slice a61 l61 k61) (.slice a62 l62 k62) (fun z=>by simp) (fun z=>by simp))
   have HI6:=zH (zlg.set3 HO3.out hil HV6.out)
   have HB6:=zH (HB3.out.trans HS3.out.2)
   have HO6:=zH HS3.out.1
   clear HS3 HE3 HO3 HV6 HB3 hcl n01 n02 n12 f0 f1 f2 d0 d1 d2 HE HO HBR
   generalize ((w31.setCell (ptr vO (i*3)) (.bool t6)).setCell (ptr vO (i*3+1)) (.slice a61 l61 k61)).setCell (ptr vO (i*3+2)) (.slice a62 l62 k62)=w7 at *
   have hsn:s<ln:=by rw[<-HN.out];exact hsl
   obtain⟨ri,hci0,hri⟩:=HRT3.out.at' s hsl
   obtain⟨hrow,hrq⟩:=zes HV.out hsl
   have hlrow:(c.rates[s]'hsl).length=ln:=by
    obtain⟨_,hrl,_,_⟩:=HV.out.row (i:=s) (by rw[HLL.out];exact hsn)
    have h1:=HSL.out
    have h2:=HLL.out
    omega
   obtain⟨ra1,ra2,ra3,rfl,_⟩:=id hri.sl
   have hra2:ra2=ln:=hri.len.trans hlrow
   subst hra2
   have sri:=hri.sl
   have HRI:=zH hri
   have HROW:=zH hrow
   have HRQ:=zH hrq
   have HLR:=zH hlrow
   obtain⟨_,e0,e1,e2,_,_,_⟩:=HC3.out.belowS HB6.out
   have hci:=zba HB6.out hci0
   have k1:(0:Int)<=(s:Int):=by omega
   have k2:(s:Int)<(ra2:Nat):=by omega
   clear hri hrow hrq hlrow hci0
   go_wp2_with fail
   clear hci e0 e1 e2
   go_loopg [40] (ra2) (fun g u40 wr=>∃ (k:Nat),k<=ra2/\g=ra2-k/\u40= .int .i64 k/\zqb wr 38 w3.heap.size vO vn1/\(∀t,t<i->zlg wr vO t (lsr c (l.getD t 0) ra2))/\zlg wr vO i (lsr c s k)/\Below w3.heap.size w3 wr)
   case atStart=>exact⟨0,zZL _,rfl,rfl,HO6.out,HE6.out,HI6.out,HB6.out⟩
   case round=>
    obtain⟨k,hkn,hgk,rfl,ho,he,hei,hbr⟩:=hrel
    obtain⟨w8,hw8⟩:∃w6,w6=wr:=⟨_,rfl⟩
    subst hw8
    have HGK:=zH hgk
    have HE:=zH he
    have HEI:=zH hei
    have HO:=zH ho
    have HBR:=zH hbr
    clear he hgk ho hei HO6 HE6 HI6 HB6
    by_cases hkl:k<ra2
    ·have hk2:k<(c.rates[s]'hsl).length:=by rw[HLR.out];exact hkl
     have hkL:k<c.lost.length:=by rw[HLL.out];exact hkl
     obtain⟨ea,eb,g1,g2,g3,g4,g5⟩:=(HRI.out.below hbr).at' k hk2
     have HQE:Hid (rq c s k=((c.rates[s]'hsl)[k]'hk2).q):=zH (by
      unfold rq
      rw[HRQ.out]
      unfold qs
      rw[zGD,List.getElem?_map,zGE hk2];rfl)
     have HXO:Hid (((c.rates[s]'hsl)[k]'hk2).ok):=zH (HROW.out.ok _ (zGM hk2))
     obtain⟨y,hye⟩:∃y,(c.rates[s]'hsl)[k]'hk2=y:=⟨_,rfl⟩
     rw[hye]at g1 g4 g5 HQE HXO
     obtain⟨ea1,ea2,ea3,rfl,_⟩:=g4.slen.1
     obtain⟨eb1,eb2,eb3,rfl,_⟩:=g5.slen.1
     have HYN:Hid (zdc w8 (.agg #[.bool y.neg, .slice ea1 ea2 ea3, .slice eb1 eb2 eb3]) y.neg y.n y.d):=zH ⟨_,_,rfl,g4,g5⟩
     have qL:=(HLO3.out.below hbr).at' k hkL
     have HLS:Hid (lsr c s (k+1)=lsr c s k+if c.lost.getD k false=true then rq c s k else 0):=zH rfl
     rw[zrn hkL]at HLS
     obtain⟨xL,hxL⟩:∃x,c.lost[k]'hkL=x:=⟨_,rfl⟩
     rw[hxL]at qL HLS
     have HC8:=zH (C3.new w8 38 (.bool y.neg) (.slice ea1 ea2 ea3) (.slice eb1 eb2 eb3))
     have HB8:=zH (zca w8 (.cells #[.bool y.neg, .slice ea1 ea2 ea3, .slice eb1 eb2 eb3] 38))
     obtain⟨_,e0,e1,e2,_,_,_⟩:=HC3.out.belowS hbr
     have i3:(0:Int)<=(k:Int):=by omega
     have i4:(k:Int)<(ra2:Nat):=by omega
     have qL8:=zba HB8.out qL
     have e28:=zba HB8.out e2
     clear g4 g5 hye hxL hbr qL e2
     cases xL with
     | false=>
       have HLS:Hid (lsr c s (k+1)=lsr c s k):=zH (by have h:=HLS.out;simp only[Bool.false_eq_true,if_false,Rat.add_zero]at h;exact h)
       go_wp2_with fail
       go_roundg (ra2- (k+1))
       case measure=>(have:=HGK.out;omega)
       case rel=>
        refine⟨k+1,by omega,rfl,by go_num,HO.out.below HB8.out,fun t ht=>(HE.out t ht).below HB8.out,?_,zaa HBR.out HB8.out⟩
        have h:=HEI.out.below HB8.out
        rw[HLS.out]
        exact h
     | true=>
       have HLS:Hid (lsr c s (k+1)=lsr c s k+rq c s k):=zH (by have h:=HLS.out;simpa using h)
       go_wp2_with fail
       generalize w8.alloc (.cells #[.bool y.neg, .slice ea1 ea2 ea3, .slice eb1 eb2 eb3] 38)=Wx at *
       have hbD:=zaa HB8.out (zja (B:=Wx.heap.size) Wx)
       have hcD:=HC8.out.belowS (zja (B:=Wx.heap.size) Wx)
       have hoD:=HO.out.below hbD
       have hbrD:=zaa HBR.out hbD
       obtain⟨za,zb,p1,p2,p3,p4,p5⟩:=HEI.out.below hbD
       obtain⟨za1,za2,za3,rfl,_⟩:=p4.v.sl
       obtain⟨zb1,zb2,zb3,rfl,_⟩:=p5.v.sl
       obtain⟨z,hze⟩:∃z,lsr c s k=z:=⟨_,rfl⟩
       have HFZ:Hid (fits z/\fits (z+y.q)):=zH (by
        have h1:=HFR.out k hkn
        have h2:=HFR.out (k+1) hkl
        rw[HLS.out,HQE.out,hze]at h2
        rw[hze]at h1
        exact⟨h1,h2⟩)
       rw[hze]at p1 p4 p5
       have hF1:zqa Wx.drew (.agg #[.bool (decide (z<0)), .slice za1 za2 za3, .slice zb1 zb2 zb3]) z:=⟨_,_,rfl,p4,p5⟩
       have hF2:=HYN.out.below hbD
       have HZE:=zH hze
       have HCD:=zH hcD
       obtain⟨_,q0,q1,q2,_,_,_⟩:=hcD
       clear p4 p5 hze g1 g2 g3 e0 e1 e28 qL8
       go_region_law (refine zjc rfl 80 #[.agg #[.bool (decide (z<0)), .slice za1 za2 za3, .slice zb1 zb2 zb3], .agg #[.bool y.neg, .slice ea1 ea2 ea3, .slice eb1 eb2 eb3]] ?_ (add_cr _ _ z y _ hF1 hF2 HFZ.out.1 HXO.out HFZ.out.2) ?_;go_simp;rintro e9 w9 ⟨v9,rfl,hv8,hb9⟩;refine⟨_,rfl,?_⟩
                      obtain⟨t9,x9,y9,rfl,⟨a1,l91,k1,rfl,_⟩,⟨a2,l92,k2,rfl,_⟩⟩:=hv8.isF
                      have p1:=zba hb9 p1
                      have p2:=zba hb9 p2
                      have p3:=zba hb9 p3
                      have ho2:=hoD.below hb9
                      have f0:=ho2.frozen (i*3)
                      have f1:=ho2.frozen (i*3+1)
                      have f2:=ho2.frozen (i*3+2)
                      have n01:=ho2.inj (show i*3≠i*3+1 by omega)
                      have n02:=ho2.inj (show i*3≠i*3+2 by omega)
                      have n12:=ho2.inj (show i*3+1≠i*3+2 by omega))
       all_goals
        have HE3:=zH (fun t (ht:t<i)=>((HE.out t ht).below hbD).below hb9)
        have hbr9:=zaa hbrD hb9
        clear p1 p2 p3 q0 q1 q2 f0 f1 f2 n01 n02 n12 hF1 hF2 hbD hoD
        go_wp2
        go_roundg (ra2- (k+1))
        case measure=>(have:=HGK.out;omega)
        case rel=>
         have hs3:=ho2.set3 i (.bool t9) (.slice a1 l91 k1) (.slice a2 l92 k2) (fun z=>by simp) (fun z=>by simp) (fun z=>by simp)
         refine⟨k+1,hkl,rfl,by go_num,hs3.1,fun t ht=>zlg.set3_other ho2 hil (by omega) (HE3.out t ht) _ _ _ (fun z=>by simp) (fun z=>by simp),?_,hbr9.trans hs3.2⟩
         rw[HLS.out,HQE.out,HZE.out]
         exact zlg.set3 ho2 hil hv8
    ·obtain rfl:k=ra2:=by omega
     go_wp2_with fail
     go_roundg (vn1- (i+1))
     case measure=>(have:=HG.out;omega)
     case rel=>
      refine⟨i+1,by omega,rfl,by go_num,HO.out,fun t ht=> ?_,HBR.out⟩
      rcases Nat.lt_or_ge t i with h6 | h6
      ·exact HE.out t h6
      ·obtain rfl:t=i:=by omega
       rw[HS.out]
       exact HEI.out
  ·obtain rfl:i=vn1:=by omega
   have HVR:Hid (zbb w6 vO (zib l.length fun i=>lsr c (l.getD i 0) c.rates.length)):=zH (by
    rw[HM.out,HN.out]
    exact HO.out.fracs (zea _ _) (fun j hj=>by rw[zea]at hj;rw[ztb];exact HE.out j hj))
   have HA6:=zH (HA3.out.below hbr)
   have HL6:=zH (HL3.out.below hbr)
   have hc6:=HC3.out.belowS hbr
   have HC6:=zH hc6
   have HR6:=zH (HR3.out.belowS hbr)
   have HST6:=zH (HST3.out.below hbr)
   have HLO6:=zH (HLO3.out.below hbr)
   have HBW6:=zH (zaa HBW3.out hbr)
   obtain⟨_,e0,e1,e2,_,_,_⟩:=hc6
   clear ho HO HE HBR hbr HC3 HR3 HA3 HRT3 HST3 HLO3 HBW3 HL3 HG
   go_upto_region 17 with(first
    |(go_at_call 110;(with_reducible refine(zru _ _ _ c l _ x _ HA6.out HV.out HL6.out HVR.out HX.out.sp).mono ?_);rintro e8 w8 ⟨v8,rfl,hv8,hb8⟩
      obtain⟨t8,x8,y8,rfl,⟨a81,l81,k81,rfl,_⟩,⟨a82,l82,k82,rfl,_⟩⟩:=hv8.isF
      have hba:=zca w8 (.cells #[.bool t8, .slice a81 l81 k81, .slice a82 l82 k82] 38)
      have hbb:=zaa hb8 hba
      have HCT:=zH (C3.new w8 38 (.bool t8) (.slice a81 l81 k81) (.slice a82 l82 k82))
      have HVT:=zH (hv8.below hba)
      have HC8:=zH (HC6.out.belowS hb8)
      have HR8:=zH (HR6.out.belowS hb8)
      have HST8:=zH (HST6.out.below hb8)
      have HLO8:=zH (HLO6.out.below hb8)
      have HBW8:=zH (zaa HBW6.out hb8)
      have HBA:=zH (zca w8 (.cells #[.bool t8, .slice a81 l81 k81, .slice a82 l82 k82] 38))
      have hbs:=hb8.size
      clear hv8 hb8 hba hbb))
   clear HA6 HL6 HC6 HR6 HST6 HLO6 HBW6 HVR e0 e1 e2
   have HFS:=zH HX.out.fs
   rw[HN.out]at HFS HXR
   obtain⟨S,hS⟩:∃S,sg l.length (fun i=>(qs c.start).getD (l.getD i 0) 0*x i)=S:=⟨_,rfl⟩
   rw[hS]at HVT HFS HXR
   obtain⟨b10,hb10⟩:∃b,w8.heap.size=b:=⟨_,rfl⟩
   have HBS:=zH hb10
   rw[hb10]at HCT |-
   clear hS hb10
   generalize w8.alloc (.cells #[.bool t8, .slice a81 l81 k81, .slice a82 l82 k82] 38)=W8 at *
   obtain⟨_,e0,e1,e2,_,_,_⟩:=HC8.out.belowS HBA.out
   go_wp2_with fail
   go_loopg [78] (ln) (fun g u78 wr=>∃ (k:Nat) (t':Bool) (x' y':Value),k<=ln/\g=ln-k/\u78= .int .i64 k/\C3 wr b10 (.bool t') x' y'/\zqa wr (.agg #[.bool t',x',y']) (S+lst c k)/\Below w8.heap.size w8 wr)
   case atStart=>exact⟨0,_,_,_,zZL _,rfl,rfl,HCT.out,by show zqa _ _ (S+0);rw[Rat.add_zero];exact HVT.out,HBA.out⟩
   case round=>
    obtain⟨k,t',x',y',hkn,hg,rfl,hcr,hfr,hbr⟩:=hrel
    obtain⟨wq,hwq⟩:∃w6,w6=wr:=⟨_,rfl⟩
    subst hwq
    obtain⟨_,_,_,hF6,⟨c81,m81,n81,rfl,_⟩,⟨c82,m82,n82,rfl,_⟩⟩:=hfr.isF
    injection hF6 with hF6
    injection hF6 with hF6
    simp only[List.cons.injEq,and_true,Value.bool.injEq]at hF6
    obtain⟨rfl,rfl,rfl⟩:=hF6
    have HG:=zH hg
    have HCR:=zH hcr
    have HFR:=zH hfr
    have HBR:=zH hbr
    clear HCT HVT HBA hg hcr hfr e0 e1 e2
    by_cases hkl:k<ln
    ·have hk2:k<c.start.length:=by rw[HSL.out];exact hkl
     have hkL:k<c.lost.length:=by rw[HLL.out];exact hkl
     obtain⟨ea,eb,g1,g2,g3,g4,g5⟩:=(HST8.out.below hbr).at' k hk2
     have HQE:Hid ((qs c.start).getD k 0=(c.start[k]'hk2).q):=zH (by
      unfold qs
      rw[zGD,List.getElem?_map,zGE hk2];rfl)
     have HXO:Hid ((c.start[k]'hk2).ok):=zH (HV.out.2.2.2.2.1.ok _ (zGM hk2))
     obtain⟨y,hye⟩:∃y,c.start[k]'hk2=y:=⟨_,rfl⟩
     rw[hye]at g1 g4 g5 HQE HXO
     obtain⟨ea1,ea2,ea3,rfl,_⟩:=g4.slen.1
     obtain⟨eb1,eb2,eb3,rfl,_⟩:=g5.slen.1
     have qL:=(HLO8.out.below hbr).at' k hkL
     have HLS:Hid (lst c (k+1)=lst c k+if c.lost.getD k false=true then(qs c.start).getD k 0 else 0):=zH rfl
     rw[zrn hkL]at HLS
     obtain⟨xL,hxL⟩:∃x,c.lost[k]'hkL=x:=⟨_,rfl⟩
     rw[hxL]at qL HLS
     have hba:=zca wq (.cells #[.bool y.neg, .slice ea1 ea2 ea3, .slice eb1 eb2 eb3] 38)
     have HYN:Hid (zdc (wq.alloc (.cells #[.bool y.neg, .slice ea1 ea2 ea3, .slice eb1 eb2 eb3] 38)) (.agg #[.bool y.neg, .slice ea1 ea2 ea3, .slice eb1 eb2 eb3]) y.neg y.n y.d):=zH (zdc.below ⟨_,_,rfl,g4,g5⟩ hba)
     have HC13:=zH (C3.new wq 38 (.bool y.neg) (.slice ea1 ea2 ea3) (.slice eb1 eb2 eb3))
     have HCR8:=zH (HCR.out.belowS hba)
     have HFR8:=zH (HFR.out.below hba)
     have HB8:=zH (zaa HBR.out hba)
     obtain⟨_,_,_,e2,_,_,_⟩:=HC8.out.belowS hbr
     have qL8:=zba hba qL
     have e28:=zba hba e2
     have i3:(0:Int)<=(k:Int):=by omega
     have i4:(k:Int)<(ln:Nat):=by omega
     clear g4 g5 hye hxL hbr qL e2 hba HCR HFR HBR
     cases xL with
     | false=>
       have HLS:Hid (lst c (k+1)=lst c k):=zH (by have h:=HLS.out;simp only[Bool.false_eq_true,if_false,Rat.add_zero]at h;exact h)
       go_wp2_with fail
       go_roundg (ln- (k+1))
       case measure=>(have:=HG.out;omega)
       case rel=>exact⟨k+1,_,_,_,by omega,rfl,by go_num,HCR8.out,by rw[HLS.out];exact HFR8.out,HB8.out⟩
     | true=>
       have HLS:Hid (S+lst c (k+1)=S+lst c k+y.q):=zH (by have h:=HLS.out;simp only[if_true]at h;rw[h,HQE.out,Rat.add_assoc])
       have HFF:Hid (fits (S+lst c k)/\fits (S+lst c k+y.q)):=zH ⟨HFS.out k hkn,by rw[<-HLS.out];exact HFS.out (k+1) hkl⟩
       go_upto_region 23 with fail
       obtain⟨b13,hb13⟩:∃b,wq.heap.size=b:=⟨_,rfl⟩
       rw[hb13]at HC13 |-
       clear hb13
       generalize wq.alloc (.cells #[.bool y.neg, .slice ea1 ea2 ea3, .slice eb1 eb2 eb3] 38)=Wx at *
       obtain⟨_,d0,d1,d2,_,_,_⟩:=HCR8.out
       obtain⟨_,p0,p1,p2,_,_,_⟩:=HC13.out
       clear g1 g2 g3 qL8 e28
       go_wp2_with (first
        |(go_at_call 80;(with_reducible refine(add_cr _ _ _ y _ HFR8.out HYN.out HFF.out.1 HXO.out HFF.out.2).mono ?_);rw[<-HLS.out];rintro e9 w9 ⟨v9,rfl,hv9,hb9⟩
          obtain⟨t9,x9,y9,rfl,⟨a91,l91,k91,rfl,_⟩,⟨a92,l92,k92,rfl,_⟩⟩:=hv9.isF
          have hCR9:=HCR8.out.belowS hb9
          have HCR9:=zH hCR9
          have HB9:=zH (zaa HB8.out hb9)
          have HV9:=zH hv9
          obtain⟨_,r0,r1,r2,q0,q1,q2⟩:=hCR9
          clear hv9 hb9))
       go_roundg (ln- (k+1))
       case measure=>(have:=HG.out;omega)
       case rel=>exact⟨k+1,_,_,_,by omega,rfl,by go_num,HCR9.out.set _ _ _,HV9.out.set3 HCR9.out (fun z=>by simp) (fun z=>by simp) _ _ _,zga HB9.out (by rw[HBS.out];exact zLR _) _ _ _⟩
    ·obtain rfl:k=ln:=by omega
     obtain⟨_,d0,d1,d2,_,_,_⟩:=HCR.out
     have HR9:=zH (HR8.out.belowS hbr)
     obtain⟨_,r0,r1,r2,q0,q1,q2⟩:=HR9.out
     go_wp2_with fail
     refine zoa rfl rfl Tryz.aggF Tryz.sizeF (HR9.out.set _ _ _) rfl ?_
     refine⟨_,rfl,?_,zga (zaa HBW8.out hbr) (Nat.le_succ _) _ _ _⟩
     rw[<-HXR.out]
     exact HFR.out.set3 HR9.out (fun z=>by simp) (fun z=>by simp) _ _ _
set_option maxHeartbeats 6400000
def RAliveE (w0:World) (c:RC) (e:Ending) (w:World):Prop:=∃v l,e= .returned (.tuple #[v, .int .i64 0])/\zgv w v (ztr l)/\zvq c l/\Below w0.heap.size w0 w
set_option maxRecDepth 100000 in
theorem ziw (va:Value) (c:RC) (w:World) (ha:zdq w va c) (hv:zzp c):Calls Tryz.prog 119 #[va] w (RAliveE w c):=by
 have hlen:c.rates.length=c.start.length:=hv.2.2.2.1
 have hlost:c.lost.length=c.start.length:=hv.2.2.1
 have h128:c.start.length<=128:=hv.2.1
 obtain⟨rv,sv,lv,rfl,hr,hs,hl⟩:=id ha
 obtain⟨ra,rn,rk,rfl,_⟩:=id hr.sl
 obtain⟨sa,sn,sk,rfl,_⟩:=id hs.sl
 obtain⟨la,ln,lk,rfl,_⟩:=id (zhc.sl hl)
 have HBW:=zH (zca w (.cells #[.slice ra rn rk, .slice sa sn sk, .slice la ln lk] 28))
 have HC:=zH (C3.new w 28 (.slice ra rn rk) (.slice sa sn sk) (.slice la ln lk))
 have HML:=zH (hl.below HBW.out)
 have HA:=zH (ha.below HBW.out)
 have HV:=zH hv
 clear hl hs hr ha hv hlen hlost h128
 go_enter Tryz.func119,Tryz.ntmps119
 go_upto_region 1 with fail
 obtain⟨b,hb⟩:∃b,w.heap.size=b:=⟨_,rfl⟩
 rw[hb]at HC |-
 generalize w.alloc (.cells #[.slice ra rn rk, .slice sa sn sk, .slice la ln lk] 28)=W1 at *
 obtain⟨_,c0,c1,c2,_,_,_⟩:=HC.out
 go_wp2_with (first
  |(go_at_call 68;(with_reducible refine(zar _ c _ HA.out).mono ?_);rintro e2 w2 ⟨⟨b2,rfl,hv2⟩,hb2⟩;obtain rfl:b2=true:=hv2.2 HV.out;clear hv2
    have c0:=zba hb2 c0
    have c1:=zba hb2 c1
    have c2:=zba hb2 c2
    have HB2:=zH (zaa HBW.out hb2)
    have HA2:=zH (HA.out.below hb2)
    clear hb2)
  |(go_at_call 108;(with_reducible refine(zzv _ c _ HA2.out HV.out).mono ?_);rintro e3 w3 ⟨v3,l,rfl,hv3,hal,hb3⟩
    have HV3:=zH (And.intro hv3 (And.intro hal (zaa HB2.out hb3)))
    have sv3:=zhc.sl hv3
    clear hv3 hal hb3 HA2 HB2))
 go_ret2
 exact⟨_,l,rfl,HV3.out.1,HV3.out.2.1,HV3.out.2.2⟩
set_option maxRecDepth 100000 in
theorem zkv (va:Value) (c:RC) (w:World) (ha:zdq w va c) (hv:zzp c):Calls Tryz.prog 120 #[va] w (RAliveE w c):=by
 obtain⟨i0,hi,hz0,hz1,hz2⟩:=info_parts Tryz.infoInt
 have hA1:=zyv (P:=Tryz.prog) 29 3 i0 Tryz.underlying29 hi hz0 hz1 hz2
 clear hi hz0 hz1 hz2
 have hlen:c.rates.length=c.start.length:=hv.2.2.2.1
 have hlost:c.lost.length=c.start.length:=hv.2.2.1
 have h128:c.start.length<=128:=hv.2.1
 obtain⟨rv,sv,lv,rfl,hr,hs,hl⟩:=id ha
 obtain⟨ra,rn,rk,rfl,_⟩:=id hr.sl
 obtain⟨sa,sn,sk,rfl,_⟩:=id hs.sl
 obtain⟨la,ln,lk,rfl,_⟩:=id (zhc.sl hl)
 have HBW:=zH (zca w (.cells #[.slice ra rn rk, .slice sa sn sk, .slice la ln lk] 28))
 have HC:=zH (C3.new w 28 (.slice ra rn rk) (.slice sa sn sk) (.slice la ln lk))
 have HML:=zH (hl.below HBW.out)
 have HA:=zH (ha.below HBW.out)
 have HV:=zH hv
 have hsn:sn=c.start.length:=hs.len
 have hll:ln=c.lost.length:=by have h:=hl.len;exact h
 have HN:Hid (sn=c.rates.length):=zH (by omega)
 have HLL:Hid (c.lost.length=sn):=zH (by omega)
 have sll:=zhc.sl hl
 obtain rfl:ln=sn:=by omega
 have hn128:ln<=128:=by omega
 clear hr hs hl ha hv hlen hlost h128 hsn hll
 go_enter Tryz.func120,Tryz.ntmps120
 go_upto_region 1 with fail
 obtain⟨b,hb⟩:∃b,w.heap.size=b:=⟨_,rfl⟩
 rw[hb]at HC |-
 generalize w.alloc (.cells #[.slice ra rn rk, .slice sa ln sk, .slice la ln lk] 28)=W1 at *
 obtain⟨_,c0,c1,c2,_,_,_⟩:=HC.out
 go_upto_region 5 with(first
  |(go_at_call 69;(with_reducible refine(zjq _ c _ HA.out).mono ?_);rintro e2 w2 ⟨⟨b2,rfl,hv2⟩,hb2⟩;obtain rfl:b2=true:=hv2.2 HV.out;clear hv2
    have c0:=zba hb2 c0
    have c1:=zba hb2 c1
    have c2:=zba hb2 c2
    have HB2:=zH hb2
    have HA2:=zH (HA.out.below hb2)
    clear hb2)
  |(go_at_call 177;(with_reducible refine(zbw _ c _ HA2.out HV.out).mono ?_);rintro e5 w5 ⟨v4,v5,bs4,bs5,rfl,hv4,hv5,hl4,hl5,hm4,hm5,hb5⟩
    have HV4:=zH hv4
    have HV5:=zH hv5
    have HE:=zH (zaa HB2.out hb5)
    have s4:=zhc.sl hv4
    have s5:=zhc.sl hv5
    have l4:slen v4=ln:=by rw[hv4.len,hl4,HN.out]
    have l5:slen v5=ln:=by rw[hv5.len,hl5,HN.out]
    have HLN4:Hid (bs4.length=ln):=zH (by rw[hl4,HN.out])
    have HLN5:Hid (bs5.length=ln):=zH (by rw[hl5,HN.out])
    have HAL:Hid (zvq c (alv bs4 bs5 c.lost ln)):=zH (by have h:=alv_alive hm4 hm5;rwa[<-HN.out]at h)
    clear hv4 hv5 hl4 hl5 hm4 hm5 hb5 c0 c1 c2))
 have HC5:=zH (HC.out.belowS HE.out)
 have HL5:=zH (HML.out.below HE.out)
 clear HB2 HA2
 go_wp2_with fail
 go_loopg [4,7] (ln) (fun g u3 u14 wr=>∃ (k:Nat),k<=ln/\g=ln-k/\u14= .int .i64 k/\zce wr 3 w5.heap.size u3 ((ztr (alv bs4 bs5 c.lost k)).map (Value.int .i64))/\Below w5.heap.size w5 wr)
 case atStart=>exact⟨0,zZL _,rfl,rfl,zce.nil _ _ _,Below.refl _ _⟩
 case round=>
  obtain⟨k,hkn,hg,rfl,ho,hbr⟩:=hrel
  obtain⟨w2,hw2⟩:∃w2,w2=wr:=⟨_,rfl⟩
  subst hw2
  have HG:=zH hg
  have HO:=zH ho
  have HBR:=zH hbr
  have so:=ho.sl
  clear hg
  by_cases hkl:k<ln
  ·have hk4:k<bs4.length:=by rw[HLN4.out];exact hkl
   have hk5:k<bs5.length:=by rw[HLN5.out];exact hkl
   have hkL:k<c.lost.length:=by rw[HLL.out];exact hkl
   have q4:=(HV4.out.below hbr).at' k hk4
   have q5:=(HV5.out.below hbr).at' k hk5
   have qL:=(HL5.out.below hbr).at' k hkL
   obtain⟨_,c0,c1,c2,_,_,_⟩:=HC5.out.belowS hbr
   have i1:(0:Int)<=(k:Int):=by omega
   have i2:(k:Int)<(ln:Nat):=by omega
   have HMS:=zH (alv_succ bs4 bs5 c.lost k)
   have hml:(ztr (alv bs4 bs5 c.lost k)).length<=1000:=by rw[zbq];have:=alv_le bs4 bs5 c.lost k;omega
   have hsz:=hbr.size
   rw[zrn hk4,zrn hk5,zrn hkL]at HMS
   obtain⟨x4,hx4⟩:∃x,bs4[k]'hk4=x:=⟨_,rfl⟩
   obtain⟨x5,hx5⟩:∃x,bs5[k]'hk5=x:=⟨_,rfl⟩
   obtain⟨xL,hxL⟩:∃x,c.lost[k]'hkL=x:=⟨_,rfl⟩
   rw[hx4]at q4
   rw[hx5]at q5
   rw[hxL]at qL
   rw[hx4,hx5,hxL]at HMS
   clear hx4 hx5 hxL ho hbr
   cases x4 with
   | false=>
     have HMN:=zH (HMS.out.trans (if_neg (by simp)))
     go_wp2_with fail
     go_roundg (ln- (k+1))
     case measure=>(have:=HG.out;omega)
     case rel=>exact⟨k+1,by omega,rfl,by go_num,by rw[HMN.out];exact HO.out,HBR.out⟩
   | true=>
     cases x5 with
     | false=>
       have HMN:=zH (HMS.out.trans (if_neg (by simp)))
       go_wp2_with fail
       go_roundg (ln- (k+1))
       case measure=>(have:=HG.out;omega)
       case rel=>exact⟨k+1,by omega,rfl,by go_num,by rw[HMN.out];exact HO.out,HBR.out⟩
     | true=>
       cases xL with
       | true=>
         have HMN:=zH (HMS.out.trans (if_neg (by simp)))
         go_wp2_with fail
         go_roundg (ln- (k+1))
         case measure=>(have:=HG.out;omega)
         case rel=>exact⟨k+1,by omega,rfl,by go_num,by rw[HMN.out];exact HO.out,HBR.out⟩
       | false=>
         have HMN:=zH (HMS.out.trans (if_pos (by simp)))
         go_wp2_with (first
          |(at_builtin;refine hA1 w2 rfl _ _ rfl w5.heap.size _ u4 (ztr (alv bs4 bs5 c.lost k)) rfl HO.out k rfl hml hsz ?_;intro v' w1 hq1 hb1
            have HQ1:=zH hq1
            have HB1:=zH (HBR.out.trans hb1)
            clear hq1 hb1))
         go_roundg (ln- (k+1))
         case measure=>(have:=HG.out;omega)
         case rel=>exact⟨k+1,by omega,rfl,by go_num,by rw[HMN.out,<-zmr];exact HQ1.out,HB1.out⟩
  ·obtain rfl:k=ln:=by omega
   go_wp2_with fail
   go_ret2
   exact⟨_,_,rfl,ho.intsV,HAL.out,zaa HBW.out (zaa HE.out hbr)⟩
end Go.Proofs.YtlpdkbmmbdfoiaaGreat
namespace Go.Proofs.YtlpdkbmmbdfoiaaGreat
theorem zero_bad :¬zzp ⟨[],[],[]⟩:=fun h=>by have:=h.1;simp at this
end Go.Proofs.YtlpdkbmmbdfoiaaGreat
namespace Go.Proofs.YtlpdkbmmbdfoiaaGreat
open Go.RowKit
theorem zor :∀z,Value.slice none 0 0≠ .int .i64 z:=fun z=>by simp
def Fr (w:World) (bt:Nat) (wx:World):Prop:=C3 wx w.heap.size (.slice none 0 0) (.slice none 0 0) (.slice none 0 0)/\(∀B,B<=bt->B<=w.heap.size->Below B w wx)
theorem Fr.below {w wx wy:World} {bt:Nat} (h:Fr w bt wx) (hb:Below wx.heap.size wx wy):Fr w bt wy:=
 ⟨h.1.belowS hb,fun B h1 h2=>(h.2 B h1 h2).trans (hb.mono (by have:=h.1.lt;omega))⟩
theorem Fr.tick {w wx wy:World} {bt a:Nat} {l:List Nat} (h:Fr w bt wx) (ht:znb wx bt l a) (hk:zyl bt wx wy):Fr w bt wy:=
 ⟨h.1.tick ht hk zor zor zor,fun B h1 h2=>(h.2 B h1 h2).trans (hk.below h1 (by have:=h.1.lt;omega))⟩
theorem Fr.low {w wx wy:World} {bt B:Nat} (h:Fr w bt wx) (hb:Below B wx wy) (hB:w.heap.size<B):Fr w bt wy:=
 ⟨h.1.below hb hB,fun B' h1 h2=>(h.2 B' h1 h2).trans (hb.mono (by omega))⟩
theorem Fr.set {w wx:World} {bt:Nat} (h:Fr w bt wx) (p:Addr) (hp:w.heap.size<p.block) (u:Value):Fr w bt (wx.setCell p u):=
 ⟨h.1.other p u (by omega),fun B' h1 h2=>(h.2 B' h1 h2).setCell (by omega) u⟩
theorem zlc.over {w:World} {e:TypeId} {B size n:Nat} {v:Value} {xs:List Value} (h:zlc w e B size v n xs) {p:Addr} (hp:v.ownBlock=none\/v.ownBlock≠some p.block) (u:Value):zlc (w.setCell p u) e B size v n xs:=by
 have key:∀g,v.ownBlock=some g->(w.setCell p u).heap[g]? =w.heap[g]? :=fun g hg=>Below.heap_setCell _ _ _ _ (by
  intro e;rcases hp with h1 | h1
  ·rw[hg]at h1;cases h1
  ·exact h1 (by rw[hg,e]))
 refine⟨⟨h.own.1,?_⟩,fun g hg cur e' fz hc=> ?_⟩
 ·rcases h.own.2 with h' | ⟨g,cap,cur,rfl,hb,hg,rest⟩
  ·exact .inl h'
  ·exact .inr ⟨g,cap,cur,rfl,hb,by rw[key g rfl];exact hg,rest⟩
 ·rw[key g hg]at hc
  exact h.nl g hg cur e' fz hc
theorem zya.over {w:World} {e:TypeId} {B:Nat} {v:Value} {q:List Rat} (h:zya w e B v q) {p:Addr} {x:Value} (hp:v.ownBlock=none\/v.ownBlock≠some p.block) (hc:w.cell? p=some x) (hx:∀z,x≠ .int .u32 z) (u:Value):zya (w.setCell p u) e B v q:=by
 obtain⟨xs,h1,h2⟩:=h
 refine⟨xs,h1.over hp u,fun j hj=> ?_⟩
 obtain⟨a,b,e1,e2,e3,e4,e5⟩:=h2 j hj
 exact⟨a,b,e1,e2,e3,⟨e4.1.over hc hx u,e4.2⟩,⟨e5.1.over hc hx u,e5.2⟩⟩
theorem zhb.high {B:Nat} {w0 w:World} (h:zhb B w0 w) {p:Addr} {x:Value} (hp:w0.heap.size<=p.block) (hc:w.cell? p=some x) (hx:∀z,x≠ .int .u32 z) (u:Value):zhb B w0 (w.setCell p u):=by
 refine⟨by simpa [World.setCell]using h.size,fun g h1 h2=> ?_,fun q z hq=> ?_⟩
 ·rw[Below.heap_setCell _ _ _ _ (by omega)];exact h.row g h1 h2
 ·rw[World.cell?_setCell_other]
  ·exact h.limb q z hq
  ·intro e
   have:=h.limb q z hq
   rw[<-e,hc]at this
   injection this with this
   exact hx _ this
theorem zhb.grow {B:Nat} {w0 w w':World} {v:Value} (h:zhb B w0 w) (hg:w.grownBy w' v.ownBlock) (hn:zlb w v) (hv:∀k,v.ownBlock=some k->w0.heap.size<=k):zhb B w0 w':=by
 have hs:w.heap.size<=w'.heap.size:=hg.size
 refine⟨zLT h.size hs,fun g h1 h2=> ?_,fun q z hq=> ?_⟩
 ·rw[hg.block g (zLM h2 h.size) (fun e=>by have:=hv g e.symm;omega)]
  exact h.row g h1 h2
 ·have hc:=h.limb q z hq
  refine hg.cell hc (fun e=> ?_)
  have h2:=hn q.block e.symm
  unfold World.cell? at hc
  split at hc
  ·rename_i cur e' fz hh
   split at hc
   ·cases hc
   ·exact h2 cur e' fz hh _ (by have:=Array.mem_of_getElem? hc;simpa using this) _ rfl
  ·cases hc
structure InS (w0:World) (bt:Nat) (l:List Nat) (B b5:Nat) (vr vs vl:Value) (wA:World) (rv:Value) (row:List Rat) (w:World):Prop where
 fr:zya w 38 wA.heap.size rv row
 mv:zhb B wA w
 tp:∃a,zvf w bt l B a
 bx:C3 w b5 vr vs vl
 fm:Fr w0 bt w
 nums:bt<B/\b5<B/\w0.heap.size<B/\B<=wA.heap.size/\zgc vr/\zgc vs/\zgc vl
section
variable {w0 wA w w':World} {bt B b5:Nat} {l:List Nat} {vr vs vl rv:Value} {row:List Rat}
theorem InS.below (h:InS w0 bt l B b5 vr vs vl wA rv row w) (hb:Below w.heap.size w w'):InS w0 bt l B b5 vr vs vl wA rv row w':=by
 obtain⟨fr,mv,⟨a,tp⟩,bx,fm,nums⟩:=h
 exact⟨fr.moves (zhb.below hb) (zLR _),mv.trans (zhb.below hb),⟨a,tp.below hb⟩,bx.belowS hb,fm.below hb,nums⟩
theorem InS.tick (h:InS w0 bt l B b5 vr vs vl wA rv row w) {a':Nat} (ht:zyl bt w w') (hta:znb w' bt l a'):InS w0 bt l B b5 vr vs vl wA rv row w':=by
 obtain⟨fr,mv,⟨a,tp⟩,bx,fm,n1,n2,n3,n4,n5,n6,n7⟩:=h
 have hm:zhb B w w':=zhb.tick tp.1 n1 ht
 exact⟨fr.moves hm n4,mv.trans hm,⟨a',tp.tick ht hta⟩,bx.tick tp.1 ht n5.noInt n6.noInt n7.noInt,fm.tick tp.1 ht,n1,n2,n3,n4,n5,n6,n7⟩
theorem InS.set (h:InS w0 bt l B b5 vr vs vl wA rv row w) {p:Addr} {x:Value} (hp:wA.heap.size<=p.block) (hr:rv.ownBlock=none\/rv.ownBlock≠some p.block) (hc:w.cell? p=some x) (hx:∀z,x≠ .int .u32 z) (hx8:∀z,x≠ .int .u8 z) (u:Value):
 InS w0 bt l B b5 vr vs vl wA rv row (w.setCell p u):=by
 obtain⟨fr,mv,⟨a,tp⟩,bx,fm,n1,n2,n3,n4,n5,n6,n7⟩:=h
 exact⟨fr.over hr hc hx u,mv.high hp hc hx u,⟨a,tp.set (by omega) hc hx8 u⟩,bx.other p u (by omega),fm.set p (by omega) u,n1,n2,n3,n4,n5,n6,n7⟩
theorem InS.grow (h:InS w0 bt l B b5 vr vs vl wA rv row w) {rv':Value} {row':List Rat} (hv:zya w' 38 wA.heap.size rv' row') (hg:w.grownBy w' rv.ownBlock) (hn:zlb w rv):InS w0 bt l B b5 vr vs vl wA rv' row' w':=by
 obtain⟨fr,mv,⟨a,tp⟩,bx,fm,n1,n2,n3,n4,n5,n6,n7⟩:=h
 have hb:Below wA.heap.size w w':=zid hg mv.size fr.block
 have hb2:=hb.mono n4
 exact⟨hv,mv.grow hg hn (fun k hk=>(fr.block k hk).1),⟨a,tp.low hb2 n1⟩,bx.below hb2 n2,fm.low hb2 n3,n1,n2,n3,n4,n5,n6,n7⟩
theorem InS.set3 (h:InS w0 bt l B b5 vr vs vl wA rv row w) {b:Nat} {t0:Bool} {x0 y0:Value} (hC:C3 w b (.bool t0) x0 y0) (sx:zgc x0) (sy:zgc y0) (hb:wA.heap.size<=b) (hr:rv.ownBlock=none\/rv.ownBlock≠some b) (u0 u1 u2:Value):
 InS w0 bt l B b5 vr vs vl wA rv row (((w.setCell ⟨b,0,none⟩ u0).setCell ⟨b,1,none⟩ u1).setCell ⟨b,2,none⟩ u2):=by
 obtain⟨_,c0,c1,c2,_,_,_⟩:=hC
 have h1:=h.set (p:=⟨b,0,none⟩) hb hr c0 (fun z=>by simp) (fun z=>by simp) u0
 have h2:=h1.set (p:=⟨b,1,none⟩) hb hr (by rw[World.cell?_setCell_other _ _ _ _ (by simp)];exact c1) sx.noLimb sx.noByte u1
 exact h2.set (p:=⟨b,2,none⟩) hb hr (by rw[World.cell?_setCell_other _ _ _ _ (by simp),World.cell?_setCell_other _ _ _ _ (by simp)];exact c2) sy.noLimb sy.noByte u2
theorem InS.start {rs:List Value} {rates:List (List Rat)} {start:List Rat} {lost:List Bool} (c:ChW wA bt l B b5 vr vs vl rs rates start lost) (hF:Fr w0 bt wA) (hw:w0.heap.size<B):InS w0 bt l B b5 vr vs vl wA (.slice none 0 0) [] wA:=
 ⟨zya.nil _ _ _,zhb.refl _ _,c.tape,c.box,hF,c.bt5.1,c.bt5.2.1,hw,c.sz,c.ra.sl,c.st.sl,c.lo.sl⟩
theorem InS.chw {rs:List Value} {rates:List (List Rat)} {start:List Rat} {lost:List Bool} (h:InS w0 bt l B b5 vr vs vl wA rv row w) (c:ChW wA bt l B b5 vr vs vl rs rates start lost):ChW w bt l B b5 vr vs vl rs rates start lost/\zya w 38 B rv row/\(rv.ownBlock=none\/rv.ownBlock≠vs.ownBlock):=by
 refine⟨c.of h.mv h.tp h.bx,h.fr.mono c.sz,?_⟩
 cases ho:rv.ownBlock with
 | none=>exact Or.inl rfl
 | some g=>
   refine Or.inr (fun e=> ?_)
   have h1:=h.fr.block g ho
   have h2:=c.st.block g e.symm
   omega
theorem ChW.chainC {rs:List Value} {rates:List (List Rat)} {start:List Rat} {lost:List Bool} (h:ChW w bt l B b5 vr vs vl rs rates start lost):zlq w (.agg #[vr,vs,vl]) ⟨rates,start,lost⟩:=by
 refine⟨vr,vs,vl,rfl,⟨h.ra.sl,by rw[h.ra.len];exact h.rl,fun j hj=> ?_⟩,h.st.fracs,⟨h.lo.sl,h.lo.len,fun j hj=>h.lo.cell j hj⟩⟩
 have hj2:j<rs.length:=by rw[h.rl];exact hj
 exact⟨rs[j],h.ra.cell j hj2,(h.rows j hj2 hj).1.fracs⟩
theorem ChW.set3 {rs:List Value} {rates:List (List Rat)} {start:List Rat} {lost:List Bool} (h:ChW w bt l B b5 vr vs vl rs rates start lost) {b:Nat} (hC:C3 w b (.slice none 0 0) (.slice none 0 0) (.slice none 0 0)) (hb:b<B) (hbt:b≠bt) (hb5:b≠b5) (u0 u1 u2:Value):
 ChW (((w.setCell ⟨b,0,none⟩ u0).setCell ⟨b,1,none⟩ u1).setCell ⟨b,2,none⟩ u2) bt l B b5 vr vs vl rs rates start lost:=by
 obtain⟨_,c0,c1,c2,_,_,_⟩:=hC
 have c1':(w.setCell ⟨b,0,none⟩ u0).cell? ⟨b,1,none⟩=some (.slice none 0 0):=by rw[World.cell?_setCell_other _ _ _ _ (by simp)];exact c1
 have c2':((w.setCell ⟨b,0,none⟩ u0).setCell ⟨b,1,none⟩ u1).cell? ⟨b,2,none⟩=some (.slice none 0 0):=by rw[World.cell?_setCell_other _ _ _ _ (by simp),World.cell?_setCell_other _ _ _ _ (by simp)];exact c2
 have one:∀ (w:World) (k:Nat) (u:Value),ChW w bt l B b5 vr vs vl rs rates start lost->w.cell? ⟨b,k,none⟩=some (.slice none 0 0)->ChW (w.setCell ⟨b,k,none⟩ u) bt l B b5 vr vs vl rs rates start lost:=fun w k u h hc=>by
  obtain⟨a,ht⟩:=h.tape
  exact h.of (zhb.set hb hc (fun z=>by simp) u) ⟨a,ht.set hbt hc (fun z=>by simp) u⟩ (h.box.other _ u hb5)
 exact one _ 2 u2 (one _ 1 u1 (one _ 0 u0 h c0) c1') c2'
end
end Go.Proofs.YtlpdkbmmbdfoiaaGreat
