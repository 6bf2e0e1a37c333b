/-
  package chain: MeanTime.
-/
import Derived.Test.YtlpdkbmmbdfoiaaGreatHGw5
import Derived.Test.YtlpdkbmmbdfoiaaGreatHHs1
import Derived.Test.YtlpdkbmmbdfoiaaGreatHSp10
set_option linter.unusedVariables false
set_option linter.unusedSimpArgs false
namespace Go.Proofs.YtlpdkbmmbdfoiaaGreat
set_option maxHeartbeats 6400000
open Go.RowKit
def lsr (c:RC) (s k:Nat):Rat:=sg k fun t=>if c.lost.getD t false=true then rq c s t else 0
def lst (c:RC) (k:Nat):Rat:=sg k fun t=>if c.lost.getD t false=true then(qs c.start).getD t 0 else 0
theorem add_cr (va vb:Value) (p:Rat) (x:RF) (w:World) (ha:zqa w va p) (hb:zdc w vb x.neg x.n x.d) (hp:fits p) (hx:x.ok) (hr:fits (p+x.q)):Calls Tryz.prog 80 #[va,vb] w (RF0 w (p+x.q)):=by
 have h:=zco va vb _ _ _ _ _ _ w ha.raw hb (zuc hp) hx
 rw[zvb]at h
 exact h.mono fun _ _ h=>h.ok rfl hr
structure HitP (c:RC) (l:List Nat) (x:Nat→Rat):Prop where
 sp:zzt c l (fun i=>lsr c (l.getD i 0) c.rates.length) x
 fr:∀i k,i<l.length→k≤c.rates.length→fits (lsr c (l.getD i 0) k)
 fs:∀k,k≤c.rates.length→fits (sg l.length (fun i=>(qs c.start).getD (l.getD i 0) 0*x i)+lst c k)
set_option maxRecDepth 100000 in
theorem hit_bad (va:Value) (c:RC) (w:World) (ha:zdq w va c) (hv:¬zzp c):Calls Tryz.prog 43 #[va] w fun e w'=>e= .returned (.tuple #[.agg #[.bool false, .slice none 0 0, .slice none 0 0], .int .i64 1])∧Below w.heap.size w w':=by
 obtain⟨rv,sv,lv,rfl,hr,hs,hlo⟩:=id ha
 obtain⟨ra,rn,rk,rfl,_⟩:=id hr.sl
 obtain⟨sa,sn,sk,rfl,_⟩:=id hs.sl
 obtain⟨la,ln,lk,rfl,_⟩:=id (zhc.sl hlo)
 have hbx:=zca w (.cells #[.slice ra rn rk, .slice sa sn sk, .slice la ln lk] 28)
 have hb2:=zca (w.alloc (.cells #[.slice ra rn rk, .slice sa sn sk, .slice la ln lk] 28)) (.cells #[.bool false, .slice none 0 0, .slice none 0 0] 38)
 have HR:=zH (C3.newB (b:=w.heap.size+1) (w.alloc (.cells #[.slice ra rn rk, .slice sa sn sk, .slice la ln lk] 28)) 38 (.bool false) (.slice none 0 0) (.slice none 0 0) (by simp))
 have HBW:=zH (zaa hbx hb2)
 have HA:=zH (ha.below HBW.out)
 have HV:=zH hv
 clear hr hs hlo ha hv hbx hb2
 go_enter Tryz.func43,Tryz.ntmps43
 go_wp2_with (first
  |(go_at_call 68;(with_reducible refine(zar _ c _ HA.out).mono ?_);rintro e2 w2 ⟨⟨b2,rfl,hv2⟩,hb2⟩;obtain rfl:b2=false:=Bool.eq_false_iff.2 (fun h=>HV.out (hv2.1 h));clear hv2
    have HB2:=zH (zaa HBW.out hb2)
    have HR2:=zH (HR.out.belowS hb2)
    obtain⟨_,r0,r1,r2,q0,q1,q2⟩:=HR2.out))
 refine zoa rfl rfl Tryz.aggF Tryz.sizeF (HR2.out.set _ _ _) rfl ?_
 exact⟨rfl,zga HB2.out (Nat.le_succ _) _ _ _⟩
set_option maxRecDepth 100000 in
theorem hit_any (va:Value) (c:RC) (R:Rat) (w:World) (ha:zdq w va c) (hv:zzp c) (hp:∀l,zvq c l→∃x,HitP c l x∧sg l.length (fun i=>(qs c.start).getD (l.getD i 0) 0*x i)+lst c c.rates.length=R):
 Calls Tryz.prog 43 #[va] w (RF0 w R):=by
 have HP:=zH hp
 clear hp
 have hlen:c.rates.length=c.start.length:=hv.2.2.2.1
 have hlost:c.lost.length=c.start.length:=hv.2.2.1
 have h128:c.start.length≤128:=hv.2.1
 obtain⟨rv,sv,lv,rfl,hr,hs,hlo⟩:=id ha
 obtain⟨ra,rn,rk,rfl,_⟩:=id hr.sl
 obtain⟨sa,sn,sk,rfl,_⟩:=id hs.sl
 obtain⟨la,ln,lk,rfl,_⟩:=id (zhc.sl hlo)
 have hbx:=zca w (.cells #[.slice ra rn rk, .slice sa sn sk, .slice la ln lk] 28)
 have hb2:=zca (w.alloc (.cells #[.slice ra rn rk, .slice sa sn sk, .slice la ln lk] 28)) (.cells #[.bool false, .slice none 0 0, .slice none 0 0] 38)
 have HC:=zH ((C3.new w 28 (.slice ra rn rk) (.slice sa sn sk) (.slice la ln lk)).belowS hb2)
 have HR:=zH (C3.newB (b:=w.heap.size+1) (w.alloc (.cells #[.slice ra rn rk, .slice sa sn sk, .slice la ln lk] 28)) 38 (.bool false) (.slice none 0 0) (.slice none 0 0) (by simp))
 have HBW:=zH (zaa hbx hb2)
 have HA:=zH (ha.below HBW.out)
 have HV:=zH hv
 have hrn:rn=c.rates.length:=hr.len
 have hsn:sn=c.rates.length:=hs.len.trans hlen.symm
 have hll:ln=c.rates.length:=by have h:ln=c.lost.length:=hlo.len;omega
 have hrn128:c.rates.length≤128:=by omega
 have HRT:=zH (hr.below HBW.out)
 have HST:=zH (hs.below HBW.out)
 have HLO:=zH (hlo.below HBW.out)
 have HLL:Hid (c.lost.length=c.rates.length):=zH (by omega)
 have HSL:Hid (c.start.length=c.rates.length):=zH hlen.symm
 have srt:=hr.sl
 have sst:=hs.sl
 have slo:=zhc.sl hlo
 obtain⟨n,hn⟩:∃n,c.rates.length=n:=⟨_,rfl⟩
 rw[hn]at hrn hsn hll hrn128 HLL HSL
 have HN:=zH hn
 subst hrn
 obtain rfl:sn=rn:=hsn
 obtain rfl:ln=sn:=hll
 clear hr hs hlo ha hv hbx hb2 hlen hlost h128 hn
 obtain⟨i0,hi,hz0,hz1,hz2⟩:=info_parts Tryz.infoF
 have hM:=zon (P:=Tryz.prog) 25 38 i0 Tryz.underlying25 hi hz0 hz1 (by rw[hz2];decide)
 clear hi hz0 hz1 hz2
 go_enter Tryz.func43,Tryz.ntmps43
 go_upto_region 1 with fail
 generalize (w.alloc (.cells #[.slice ra ln rk, .slice sa ln sk, .slice la ln lk] 28)).alloc (.cells #[.bool false, .slice none 0 0, .slice none 0 0] 38)=W2 at *
 obtain⟨_,c0,c1,c2,_,_,_⟩:=HC.out
 go_upto_region 4 with(first
  |(go_at_call 68;(with_reducible refine(zar _ c _ HA.out).mono ?_);rintro e2 w2 ⟨⟨b2,rfl,hv2⟩,hb2⟩;obtain rfl:b2=true:=hv2.2 HV.out;clear hv2
    have c0:=zba hb2 c0
    have c1:=zba hb2 c1
    have c2:=zba hb2 c2
    have HA2:=zH (HA.out.below hb2))
  |(go_at_call 108;(with_reducible refine(alive_any _ c _ HA2.out HV.out).mono ?_);rintro e3 w3 ⟨v3,l,rfl,hv3,hal,hb3⟩
    have HB3:=zH (zaa hb2 hb3)
    have HL3:=zH hv3
    obtain⟨x,hx⟩:=HP.out l hal
    have HX:=zH hx.1
    have HXR:=zH hx.2
    have hl24:=hx.1.sp.le
    obtain⟨m,hm⟩:∃m,l.length=m:=⟨_,rfl⟩
    have HM:=zH hm
    rw[hm]at hl24
    have sv3:=zhc.sl hv3
    have lv3:slen v3=m:=by have h:=zhc.len hv3;rw[List.length_map,zbq,hm]at h;exact h
    obtain⟨va1,vn1,vk1,rfl,_⟩:=id (zhc.sl hv3)
    obtain rfl:vn1=m:=lv3
    have HC3:=zH (HC.out.belowS HB3.out)
    have HR3:=zH (HR.out.belowS HB3.out)
    have HA3:=zH (HA.out.below HB3.out)
    have HRT3:=zH (HRT.out.below HB3.out)
    have HST3:=zH (HST.out.below HB3.out)
    have HLO3:=zH (HLO.out.below HB3.out)
    have HBW3:=zH (zaa HBW.out HB3.out)
    clear hv3 hal hb2 hb3 HP HA2 hx hm c0 c1 c2))
 clear HA HC HR HRT HST HLO HBW HB3
 go_wp2_with (refine hM w3 rfl _ _ rfl w3.heap.size _ vn1 rfl rfl rfl (by omega) (Nat.le_refl _) ?_
              intro vO w5 hO5 hb5 hvO
              have HO5:=zH hO5
              have HB5:=zH hb5
              have slO:=hO5.sl
              have lnO:=hO5.len
              clear hO5 hb5)
 clear hM
 go_loopg [25] (vn1) (fun g u25 wr=>∃ (i:Nat),i≤vn1∧g=vn1-i∧u25= .int .i64 i∧zqb wr 38 w3.heap.size vO vn1∧(∀t,t<i→zlg wr vO t (lsr c (l.getD t 0) ln))∧Below w3.heap.size w3 wr)
 case atStart=>exact⟨0,Nat.zero_le _,rfl,rfl,HO5.out,fun t h=>by omega,HB5.out⟩
 case round=>
  obtain⟨i,hin,hg,rfl,ho,he,hbr⟩:=hrel
  obtain⟨w6,hw6⟩:∃w6,w6=wr:=⟨_,rfl⟩
  subst hw6
  have HG:=zH hg
  have HE:=zH he
  have HO:=zH ho
  have HBR:=zH hbr
  clear he hg HO5 HB5
  by_cases hil:i<vn1
  ·have hil3:i<(ztr l).length:=by rw[zbq,HM.out];exact hil
   have hcl:=(HL3.out.below hbr).at' i hil3
   rw[zct (by rw[HM.out];exact hil)]at hcl
   have hsl:=HX.out.sp.lt i (by rw[HM.out];exact hil)
   have hfr:=HX.out.fr i
   rw[HM.out,HN.out]at hfr
   have HFR0:=zH hfr
   obtain⟨s,hs⟩:∃s,l.getD i 0=s:=⟨_,rfl⟩
   rw[hs]at hcl hsl HFR0
   have HS:=zH hs
   have HFR:Hid (∀k,k≤ln→fits (lsr c s k)):=zH (fun k hk=>HFR0.out k hil hk)
   have i1:(0:Int)≤(i:Int):=by omega
   have i2:(i:Int)<(vn1:Nat):=by omega
   clear ho hbr hfr HFR0 hs
   go_upto_region 9 with(first
    |(go_at_call 109;(with_reducible refine(zdr _).mono ?_);rintro e31 w31 ⟨v31,rfl,hv31,hb31⟩
      obtain⟨t6,x31,y31,rfl,⟨a61,l61,k61,rfl,_⟩,⟨a62,l62,k62,rfl,_⟩⟩:=hv31.isF
      have ho3:=HO.out.below hb31
      obtain⟨c0,d0,_⟩:=ho3.cell (i*3) (by omega)
      obtain⟨c1,d1,_⟩:=ho3.cell (i*3+1) (by omega)
      obtain⟨c2,d2,_⟩:=ho3.cell (i*3+2) (by omega)
      have f0:=ho3.frozen (i*3)
      have f1:=ho3.frozen (i*3+1)
      have f2:=ho3.frozen (i*3+2)
      have n01:=ho3.inj (show i*3≠i*3+1 by omega)
      have n02:=ho3.inj (show i*3≠i*3+2 by omega)
      have n12:=ho3.inj (show i*3+1≠i*3+2 by omega)
      have HS3:=zH (ho3.set3 i (.bool t6) (.slice a61 l61 k61) (.slice a62 l62 k62) (fun z=>by simp) (fun z=>by simp) (fun z=>by simp))
      have HE3:=zH (fun t ht=>(HE.out t ht).below hb31)
      have HO3:=zH ho3
      have HV6:=zH hv31
      have HB3:=zH (zfa HBR.out hb31 HBR.out.size)
      clear ho3 hv31 hb31))
   have HE6:=zH (fun t (ht:t<i)=>zlg.set3_other HO3.out hil (show i≠t by omega) (HE3.out t ht) (.bool t6) (.slice a61 l61 k61) (.slice a62 l62 k62) (fun z=>by simp) (fun z=>by simp))
   have HI6:=zH (zlg.set3 HO3.out hil HV6.out)
   have HB6:=zH (HB3.out.trans HS3.out.2)
   have HO6:=zH HS3.out.1
   clear HS3 HE3 HO3 HV6 HB3 hcl n01 n02 n12 f0 f1 f2 d0 d1 d2 HE HO HBR
   generalize ((w31.setCell (ptr vO (i*3)) (.bool t6)).setCell (ptr vO (i*3+1)) (.slice a61 l61 k61)).setCell (ptr vO (i*3+2)) (.slice a62 l62 k62)=w7 at *
   have hsn:s<ln:=by rw[←HN.out];exact hsl
   obtain⟨ri,hci0,hri⟩:=HRT3.out.at' s hsl
   obtain⟨hrow,hrq⟩:=zes HV.out hsl
   have hlrow:(c.rates[s]'hsl).length=ln:=by
    obtain⟨_,hrl,_,_⟩:=HV.out.row (i:=s) (by rw[HLL.out];exact hsn)
    have h1:=HSL.out
    have h2:=HLL.out
    omega
   obtain⟨ra1,ra2,ra3,rfl,_⟩:=id hri.sl
   have hra2:ra2=ln:=hri.len.trans hlrow
   subst hra2
   have sri:=hri.sl
   have HRI:=zH hri
   have HROW:=zH hrow
   have HRQ:=zH hrq
   have HLR:=zH hlrow
   obtain⟨_,e0,e1,e2,_,_,_⟩:=HC3.out.belowS HB6.out
   have hci:=zba HB6.out hci0
   have k1:(0:Int)≤(s:Int):=by omega
   have k2:(s:Int)<(ra2:Nat):=by omega
   clear hri hrow hrq hlrow hci0
   go_wp2_with fail
   clear hci e0 e1 e2
   go_loopg [40] (ra2) (fun g u40 wr=>∃ (k:Nat),k≤ra2∧g=ra2-k∧u40= .int .i64 k∧zqb wr 38 w3.heap.size vO vn1∧(∀t,t<i→zlg wr vO t (lsr c (l.getD t 0) ra2))∧zlg wr vO i (lsr c s k)∧Below w3.heap.size w3 wr)
   case atStart=>exact⟨0,Nat.zero_le _,rfl,rfl,HO6.out,HE6.out,HI6.out,HB6.out⟩
   case round=>
    obtain⟨k,hkn,hgk,rfl,ho,he,hei,hbr⟩:=hrel
    obtain⟨w8,hw8⟩:∃w6,w6=wr:=⟨_,rfl⟩
    subst hw8
    have HGK:=zH hgk
    have HE:=zH he
    have HEI:=zH hei
    have HO:=zH ho
    have HBR:=zH hbr
    clear he hgk ho hei HO6 HE6 HI6 HB6
    by_cases hkl:k<ra2
    ·have hk2:k<(c.rates[s]'hsl).length:=by rw[HLR.out];exact hkl
     have hkL:k<c.lost.length:=by rw[HLL.out];exact hkl
     obtain⟨ea,eb,g1,g2,g3,g4,g5⟩:=(HRI.out.below hbr).at' k hk2
     have HQE:Hid (rq c s k=((c.rates[s]'hsl)[k]'hk2).q):=zH (by
      unfold rq
      rw[HRQ.out]
      unfold qs
      rw[List.getD_eq_getElem?_getD,List.getElem?_map,List.getElem?_eq_getElem hk2];rfl)
     have HXO:Hid (((c.rates[s]'hsl)[k]'hk2).ok):=zH (HROW.out.ok _ (List.getElem_mem hk2))
     obtain⟨y,hye⟩:∃y,(c.rates[s]'hsl)[k]'hk2=y:=⟨_,rfl⟩
     rw[hye]at g1 g4 g5 HQE HXO
     obtain⟨ea1,ea2,ea3,rfl,_⟩:=g4.slen.1
     obtain⟨eb1,eb2,eb3,rfl,_⟩:=g5.slen.1
     have HYN:Hid (zdc w8 (.agg #[.bool y.neg, .slice ea1 ea2 ea3, .slice eb1 eb2 eb3]) y.neg y.n y.d):=zH ⟨_,_,rfl,g4,g5⟩
     have qL:=(HLO3.out.below hbr).at' k hkL
     have HLS:Hid (lsr c s (k+1)=lsr c s k+if c.lost.getD k false=true then rq c s k else 0):=zH rfl
     rw[zrn hkL]at HLS
     obtain⟨xL,hxL⟩:∃x,c.lost[k]'hkL=x:=⟨_,rfl⟩
     rw[hxL]at qL HLS
     have HC8:=zH (C3.new w8 38 (.bool y.neg) (.slice ea1 ea2 ea3) (.slice eb1 eb2 eb3))
     have HB8:=zH (zca w8 (.cells #[.bool y.neg, .slice ea1 ea2 ea3, .slice eb1 eb2 eb3] 38))
     obtain⟨_,e0,e1,e2,_,_,_⟩:=HC3.out.belowS hbr
     have i3:(0:Int)≤(k:Int):=by omega
     have i4:(k:Int)<(ra2:Nat):=by omega
     have qL8:=zba HB8.out qL
     have e28:=zba HB8.out e2
     clear g4 g5 hye hxL hbr qL e2
     cases xL with
     | false=>
       have HLS:Hid (lsr c s (k+1)=lsr c s k):=zH (by have h:=HLS.out;simp only[Bool.false_eq_true,if_false,Rat.add_zero]at h;exact h)
       go_wp2_with fail
       go_roundg (ra2- (k+1))
       case measure=>(have:=HGK.out;omega)
       case rel=>
        refine⟨k+1,by omega,rfl,by go_num,HO.out.below HB8.out,fun t ht=>(HE.out t ht).below HB8.out,?_,zaa HBR.out HB8.out⟩
        have h:=HEI.out.below HB8.out
        rw[HLS.out]
        exact h
     | true=>
       have HLS:Hid (lsr c s (k+1)=lsr c s k+rq c s k):=zH (by have h:=HLS.out;simpa using h)
       go_wp2_with fail
       generalize w8.alloc (.cells #[.bool y.neg, .slice ea1 ea2 ea3, .slice eb1 eb2 eb3] 38)=Wx at *
       have hbD:=zaa HB8.out (zja (B:=Wx.heap.size) Wx)
       have hcD:=HC8.out.belowS (zja (B:=Wx.heap.size) Wx)
       have hoD:=HO.out.below hbD
       have hbrD:=zaa HBR.out hbD
       obtain⟨za,zb,p1,p2,p3,p4,p5⟩:=HEI.out.below hbD
       obtain⟨za1,za2,za3,rfl,_⟩:=p4.v.sl
       obtain⟨zb1,zb2,zb3,rfl,_⟩:=p5.v.sl
       obtain⟨z,hze⟩:∃z,lsr c s k=z:=⟨_,rfl⟩
       have HFZ:Hid (fits z∧fits (z+y.q)):=zH (by
        have h1:=HFR.out k hkn
        have h2:=HFR.out (k+1) hkl
        rw[HLS.out,HQE.out,hze]at h2
        rw[hze]at h1
        exact⟨h1,h2⟩)
       rw[hze]at p1 p4 p5
       have hF1:zqa Wx.drew (.agg #[.bool (decide (z<0)), .slice za1 za2 za3, .slice zb1 zb2 zb3]) z:=⟨_,_,rfl,p4,p5⟩
       have hF2:=HYN.out.below hbD
       have HZE:=zH hze
       have HCD:=zH hcD
       obtain⟨_,q0,q1,q2,_,_,_⟩:=hcD
       clear p4 p5 hze g1 g2 g3 e0 e1 e28 qL8
       go_region_law (refine zjc rfl 80 #[.agg #[.bool (decide (z<0)), .slice za1 za2 za3, .slice zb1 zb2 zb3], .agg #[.bool y.neg, .slice ea1 ea2 ea3, .slice eb1 eb2 eb3]] ?_ (add_cr _ _ z y _ hF1 hF2 HFZ.out.1 HXO.out HFZ.out.2) ?_;go_simp;rintro e9 w9 ⟨v9,rfl,hv8,hb9⟩;refine⟨_,rfl,?_⟩
                      obtain⟨t9,x9,y9,rfl,⟨a1,l91,k1,rfl,_⟩,⟨a2,l92,k2,rfl,_⟩⟩:=hv8.isF
                      have p1:=zba hb9 p1
                      have p2:=zba hb9 p2
                      have p3:=zba hb9 p3
                      have ho2:=hoD.below hb9
                      have f0:=ho2.frozen (i*3)
                      have f1:=ho2.frozen (i*3+1)
                      have f2:=ho2.frozen (i*3+2)
                      have n01:=ho2.inj (show i*3≠i*3+1 by omega)
                      have n02:=ho2.inj (show i*3≠i*3+2 by omega)
                      have n12:=ho2.inj (show i*3+1≠i*3+2 by omega))
       all_goals
        have HE3:=zH (fun t (ht:t<i)=>((HE.out t ht).below hbD).below hb9)
        have hbr9:=zaa hbrD hb9
        clear p1 p2 p3 q0 q1 q2 f0 f1 f2 n01 n02 n12 hF1 hF2 hbD hoD
        go_wp2
        go_roundg (ra2- (k+1))
        case measure=>(have:=HGK.out;omega)
        case rel=>
         have hs3:=ho2.set3 i (.bool t9) (.slice a1 l91 k1) (.slice a2 l92 k2) (fun z=>by simp) (fun z=>by simp) (fun z=>by simp)
         refine⟨k+1,hkl,rfl,by go_num,hs3.1,fun t ht=>zlg.set3_other ho2 hil (by omega) (HE3.out t ht) _ _ _ (fun z=>by simp) (fun z=>by simp),?_,hbr9.trans hs3.2⟩
         rw[HLS.out,HQE.out,HZE.out]
         exact zlg.set3 ho2 hil hv8
    ·obtain rfl:k=ra2:=by omega
     go_wp2_with fail
     go_roundg (vn1- (i+1))
     case measure=>(have:=HG.out;omega)
     case rel=>
      refine⟨i+1,by omega,rfl,by go_num,HO.out,fun t ht=> ?_,HBR.out⟩
      rcases Nat.lt_or_ge t i with h6 | h6
      ·exact HE.out t h6
      ·obtain rfl:t=i:=by omega
       rw[HS.out]
       exact HEI.out
  ·obtain rfl:i=vn1:=by omega
   have HVR:Hid (zbb w6 vO (zib l.length fun i=>lsr c (l.getD i 0) c.rates.length)):=zH (by
    rw[HM.out,HN.out]
    exact HO.out.fracs (zea _ _) (fun j hj=>by rw[zea]at hj;rw[ztb];exact HE.out j hj))
   have HA6:=zH (HA3.out.below hbr)
   have HL6:=zH (HL3.out.below hbr)
   have hc6:=HC3.out.belowS hbr
   have HC6:=zH hc6
   have HR6:=zH (HR3.out.belowS hbr)
   have HST6:=zH (HST3.out.below hbr)
   have HLO6:=zH (HLO3.out.below hbr)
   have HBW6:=zH (zaa HBW3.out hbr)
   obtain⟨_,e0,e1,e2,_,_,_⟩:=hc6
   clear ho HO HE HBR hbr HC3 HR3 HA3 HRT3 HST3 HLO3 HBW3 HL3 HG
   go_upto_region 17 with(first
    |(go_at_call 110;(with_reducible refine(zru _ _ _ c l _ x _ HA6.out HV.out HL6.out HVR.out HX.out.sp).mono ?_);rintro e8 w8 ⟨v8,rfl,hv8,hb8⟩
      obtain⟨t8,x8,y8,rfl,⟨a81,l81,k81,rfl,_⟩,⟨a82,l82,k82,rfl,_⟩⟩:=hv8.isF
      have hba:=zca w8 (.cells #[.bool t8, .slice a81 l81 k81, .slice a82 l82 k82] 38)
      have hbb:=zaa hb8 hba
      have HCT:=zH (C3.new w8 38 (.bool t8) (.slice a81 l81 k81) (.slice a82 l82 k82))
      have HVT:=zH (hv8.below hba)
      have HC8:=zH (HC6.out.belowS hb8)
      have HR8:=zH (HR6.out.belowS hb8)
      have HST8:=zH (HST6.out.below hb8)
      have HLO8:=zH (HLO6.out.below hb8)
      have HBW8:=zH (zaa HBW6.out hb8)
      have HBA:=zH (zca w8 (.cells #[.bool t8, .slice a81 l81 k81, .slice a82 l82 k82] 38))
      have hbs:=hb8.size
      clear hv8 hb8 hba hbb))
   clear HA6 HL6 HC6 HR6 HST6 HLO6 HBW6 HVR e0 e1 e2
   have HFS:=zH HX.out.fs
   rw[HN.out]at HFS HXR
   obtain⟨S,hS⟩:∃S,sg l.length (fun i=>(qs c.start).getD (l.getD i 0) 0*x i)=S:=⟨_,rfl⟩
   rw[hS]at HVT HFS HXR
   obtain⟨b10,hb10⟩:∃b,w8.heap.size=b:=⟨_,rfl⟩
   have HBS:=zH hb10
   rw[hb10]at HCT ⊢
   clear hS hb10
   generalize w8.alloc (.cells #[.bool t8, .slice a81 l81 k81, .slice a82 l82 k82] 38)=W8 at *
   obtain⟨_,e0,e1,e2,_,_,_⟩:=HC8.out.belowS HBA.out
   go_wp2_with fail
   go_loopg [78] (ln) (fun g u78 wr=>∃ (k:Nat) (t':Bool) (x' y':Value),k≤ln∧g=ln-k∧u78= .int .i64 k∧C3 wr b10 (.bool t') x' y'∧zqa wr (.agg #[.bool t',x',y']) (S+lst c k)∧Below w8.heap.size w8 wr)
   case atStart=>exact⟨0,_,_,_,Nat.zero_le _,rfl,rfl,HCT.out,by show zqa _ _ (S+0);rw[Rat.add_zero];exact HVT.out,HBA.out⟩
   case round=>
    obtain⟨k,t',x',y',hkn,hg,rfl,hcr,hfr,hbr⟩:=hrel
    obtain⟨wq,hwq⟩:∃w6,w6=wr:=⟨_,rfl⟩
    subst hwq
    obtain⟨_,_,_,hF6,⟨c81,m81,n81,rfl,_⟩,⟨c82,m82,n82,rfl,_⟩⟩:=hfr.isF
    injection hF6 with hF6
    injection hF6 with hF6
    simp only[List.cons.injEq,and_true,Value.bool.injEq]at hF6
    obtain⟨rfl,rfl,rfl⟩:=hF6
    have HG:=zH hg
    have HCR:=zH hcr
    have HFR:=zH hfr
    have HBR:=zH hbr
    clear HCT HVT HBA hg hcr hfr e0 e1 e2
    by_cases hkl:k<ln
    ·have hk2:k<c.start.length:=by rw[HSL.out];exact hkl
     have hkL:k<c.lost.length:=by rw[HLL.out];exact hkl
     obtain⟨ea,eb,g1,g2,g3,g4,g5⟩:=(HST8.out.below hbr).at' k hk2
     have HQE:Hid ((qs c.start).getD k 0=(c.start[k]'hk2).q):=zH (by
      unfold qs
      rw[List.getD_eq_getElem?_getD,List.getElem?_map,List.getElem?_eq_getElem hk2];rfl)
     have HXO:Hid ((c.start[k]'hk2).ok):=zH (HV.out.2.2.2.2.1.ok _ (List.getElem_mem hk2))
     obtain⟨y,hye⟩:∃y,c.start[k]'hk2=y:=⟨_,rfl⟩
     rw[hye]at g1 g4 g5 HQE HXO
     obtain⟨ea1,ea2,ea3,rfl,_⟩:=g4.slen.1
     obtain⟨eb1,eb2,eb3,rfl,_⟩:=g5.slen.1
     have qL:=(HLO8.out.below hbr).at' k hkL
     have HLS:Hid (lst c (k+1)=lst c k+if c.lost.getD k false=true then(qs c.start).getD k 0 else 0):=zH rfl
     rw[zrn hkL]at HLS
     obtain⟨xL,hxL⟩:∃x,c.lost[k]'hkL=x:=⟨_,rfl⟩
     rw[hxL]at qL HLS
     have hba:=zca wq (.cells #[.bool y.neg, .slice ea1 ea2 ea3, .slice eb1 eb2 eb3] 38)
     have HYN:Hid (zdc (wq.alloc (.cells #[.bool y.neg, .slice ea1 ea2 ea3, .slice eb1 eb2 eb3] 38)) (.agg #[.bool y.neg, .slice ea1 ea2 ea3, .slice eb1 eb2 eb3]) y.neg y.n y.d):=zH (zdc.below ⟨_,_,rfl,g4,g5⟩ hba)
     have HC13:=zH (C3.new wq 38 (.bool y.neg) (.slice ea1 ea2 ea3) (.slice eb1 eb2 eb3))
     have HCR8:=zH (HCR.out.belowS hba)
     have HFR8:=zH (HFR.out.below hba)
     have HB8:=zH (zaa HBR.out hba)
     obtain⟨_,_,_,e2,_,_,_⟩:=HC8.out.belowS hbr
     have qL8:=zba hba qL
     have e28:=zba hba e2
     have i3:(0:Int)≤(k:Int):=by omega
     have i4:(k:Int)<(ln:Nat):=by omega
     clear g4 g5 hye hxL hbr qL e2 hba HCR HFR HBR
     cases xL with
     | false=>
       have HLS:Hid (lst c (k+1)=lst c k):=zH (by have h:=HLS.out;simp only[Bool.false_eq_true,if_false,Rat.add_zero]at h;exact h)
       go_wp2_with fail
       go_roundg (ln- (k+1))
       case measure=>(have:=HG.out;omega)
       case rel=>exact⟨k+1,_,_,_,by omega,rfl,by go_num,HCR8.out,by rw[HLS.out];exact HFR8.out,HB8.out⟩
     | true=>
       have HLS:Hid (S+lst c (k+1)=S+lst c k+y.q):=zH (by have h:=HLS.out;simp only[if_true]at h;rw[h,HQE.out,Rat.add_assoc])
       have HFF:Hid (fits (S+lst c k)∧fits (S+lst c k+y.q)):=zH ⟨HFS.out k hkn,by rw[←HLS.out];exact HFS.out (k+1) hkl⟩
       go_upto_region 23 with fail
       obtain⟨b13,hb13⟩:∃b,wq.heap.size=b:=⟨_,rfl⟩
       rw[hb13]at HC13 ⊢
       clear hb13
       generalize wq.alloc (.cells #[.bool y.neg, .slice ea1 ea2 ea3, .slice eb1 eb2 eb3] 38)=Wx at *
       obtain⟨_,d0,d1,d2,_,_,_⟩:=HCR8.out
       obtain⟨_,p0,p1,p2,_,_,_⟩:=HC13.out
       clear g1 g2 g3 qL8 e28
       go_wp2_with (first
        |(go_at_call 80;(with_reducible refine(add_cr _ _ _ y _ HFR8.out HYN.out HFF.out.1 HXO.out HFF.out.2).mono ?_);rw[←HLS.out];rintro e9 w9 ⟨v9,rfl,hv9,hb9⟩
          obtain⟨t9,x9,y9,rfl,⟨a91,l91,k91,rfl,_⟩,⟨a92,l92,k92,rfl,_⟩⟩:=hv9.isF
          have hCR9:=HCR8.out.belowS hb9
          have HCR9:=zH hCR9
          have HB9:=zH (zaa HB8.out hb9)
          have HV9:=zH hv9
          obtain⟨_,r0,r1,r2,q0,q1,q2⟩:=hCR9
          clear hv9 hb9))
       go_roundg (ln- (k+1))
       case measure=>(have:=HG.out;omega)
       case rel=>exact⟨k+1,_,_,_,by omega,rfl,by go_num,HCR9.out.set _ _ _,HV9.out.set3 HCR9.out (fun z=>by simp) (fun z=>by simp) _ _ _,zga HB9.out (by rw[HBS.out];exact Nat.le_refl _) _ _ _⟩
    ·obtain rfl:k=ln:=by omega
     obtain⟨_,d0,d1,d2,_,_,_⟩:=HCR.out
     have HR9:=zH (HR8.out.belowS hbr)
     obtain⟨_,r0,r1,r2,q0,q1,q2⟩:=HR9.out
     go_wp2_with fail
     refine zoa rfl rfl Tryz.aggF Tryz.sizeF (HR9.out.set _ _ _) rfl ?_
     refine⟨_,rfl,?_,zga (zaa HBW8.out hbr) (Nat.le_succ _) _ _ _⟩
     rw[←HXR.out]
     exact HFR.out.set3 HR9.out (fun z=>by simp) (fun z=>by simp) _ _ _
end Go.Proofs.YtlpdkbmmbdfoiaaGreat
namespace Go.Proofs.YtlpdkbmmbdfoiaaGreat
theorem zxq {c:RC} {l:List Nat} (h:zvq c l):LK c.rates.length (rq c) (ziq c) l where
 so:=h.sorted
 lt:=fun s hs=>((h.mem s).1 hs).1
 nl:=fun s hs e=>by have h1:=((h.mem s).1 hs).2.2.2;unfold ziq at e;rw[h1]at e;cases e
 ft:=fun s hs=>((h.mem s).1 hs).2.2.1
 cl:=fun s t hs ht hp=>by
  have h0:=(h.mem s).1 hs
  by_cases h1:ziq c t
  ·exact Or.inr (Or.inl h1)
  ·by_cases h2:Ftl c t
   ·exact Or.inl ((h.mem t).2 ⟨ht,Clo.step h0.2.1 ht hp,h2,by unfold ziq at h1;simpa using h1⟩)
   ·exact Or.inr (Or.inr h2)
theorem sysA_mm {c:RC} {l:List Nat} (hv:zzp c) (h:zvq c l) {i j:Nat} (hi:i<l.length):zis c l i j=mmA (fun i j=>rq c (l.getD i 0) (l.getD j 0)) (fun i=>sg c.rates.length (rq c (l.getD i 0))) i j:=by
 unfold zis mmA
 split
 ·exact out_sg hv ((zxq h).lt _ (zcq hi))
 ·grind
theorem alive_hit {c:RC} {l:List Nat} {H:Nat→Rat} (hv:zzp c) (h:zvq c l) (hH:HitF c.rates.length (rq c) (ziq c) H) {i:Nat} (hi:i<l.length):
 sg l.length (fun j=>zis c l i j*H (l.getD j 0))=lsr c (l.getD i 0) c.rates.length:=by
 have hk:=zxq h
 have hs:=zcq hi
 have h1:=hk.eq (zcv hv) (X:=H) (b:=fun _=>0) hi (by rw[Rat.zero_add];exact hH.eq _ (hk.lt _ hs) (hk.nl _ hs))
 rw[Rat.zero_add]at h1
 rw[zma fun j hj=>by rw[sysA_mm hv h hi],h1]
 unfold lsr
 refine zma fun t ht=> ?_
 by_cases hl:ziq c t
 ·have hm:t∉l:=fun e=>hk.nl t e hl
  rw[if_neg hm,if_pos (show c.lost.getD t false=true from hl),hH.one t ht hl,Rat.mul_one]
 ·rw[if_neg (show ¬c.lost.getD t false=true from hl)]
  by_cases hm:t∈l
  ·rw[if_pos hm]
  ·rw[if_neg hm]
   by_cases hp:0<rq c (l.getD i 0) t
   ·rcases hk.cl _ t hs ht hp with h2 | h2 | h2
    ·exact absurd h2 hm
    ·exact absurd h2 hl
    ·rw[hH.no t ht h2,Rat.mul_zero]
   ·have h2:=rq_nn hv (hk.lt _ hs) ht
    have h3:rq c (l.getD i 0) t=0:=by grind
    rw[h3,Rat.zero_mul]
theorem start_nn {c:RC} (hv:zzp c) {t:Nat} (ht:t<c.rates.length):0≤(qs c.start).getD t 0:=by
 have h2:t<c.start.length:=by have:=hv.2.2.2.1;omega
 have h3:(qs c.start).getD t 0=(c.start[t]).q:=by
  unfold qs
  rw[List.getD_eq_getElem?_getD,List.getElem?_map,List.getElem?_eq_getElem h2];rfl
 rw[h3]
 exact Rat.not_lt.1 (hv.2.2.2.2.1.1 _ (List.getElem_mem h2)).2.1
theorem hit_sum {c:RC} {l:List Nat} {H:Nat→Rat} (hv:zzp c) (h:zvq c l) (hH:HitF c.rates.length (rq c) (ziq c) H):
 sg l.length (fun i=>(qs c.start).getD (l.getD i 0) 0*H (l.getD i 0))+lst c c.rates.length=sg c.rates.length fun t=>(qs c.start).getD t 0*H t:=by
 have hk:=zxq h
 rw[zwu (l:=l) hk.so hk.lt (f:=fun t=>(qs c.start).getD t 0*H t)]
 congr 1
 unfold lst
 refine(zma fun t ht=> ?_)
 by_cases hl:ziq c t
 ·rw[if_pos (show c.lost.getD t false=true from hl),if_neg (fun e=>hk.nl t e hl),hH.one t ht hl,Rat.mul_one]
 ·rw[if_neg (show ¬c.lost.getD t false=true from hl)]
  by_cases hm:t∈l
  ·rw[if_pos hm]
  ·rw[if_neg hm]
   by_cases hp:0<(qs c.start).getD t 0
   ·have h2:¬Ftl c t:=fun hf=>hm ((h.mem t).2 ⟨ht,Clo.base ht hp,hf,by unfold ziq at hl;simpa using hl⟩)
    rw[hH.no t ht h2,Rat.mul_zero]
   ·have h2:=start_nn hv ht
    have h3:(qs c.start).getD t 0=0:=by grind
    rw[h3,Rat.zero_mul]
theorem rch_more {c:RC} {s t:Nat} (h:Rch c s) (ht:RC1 c.rates.length (rq c) (fun j=>j=s) t):Rch c t:=by
 induction ht with
 | base hi hS=>subst hS;exact h
 | step hc hj hL ih=>exact Clo.step ih hj hL
theorem rch_sure {c:RC} (hall:∀j,j<c.rates.length→Rch c j→Ftl c j) {s:Nat} (h:Rch c s):Sure c.rates.length (rq c) (ziq c) s:=fun t ht=>hall t (Clo.lt ht) (rch_more h ht)
theorem alive_time {c:RC} {l:List Nat} {T:Nat→Rat} (hv:zzp c) (h:zvq c l) (hall:∀j,j<c.rates.length→Rch c j→Ftl c j) (hT:TimeF c.rates.length (rq c) (ziq c) (Sure c.rates.length (rq c) (ziq c)) T) {i:Nat} (hi:i<l.length):
 sg l.length (fun j=>zis c l i j*T (l.getD j 0))=1:=by
 have hk:=zxq h
 have hs:=zcq hi
 have hr:=((h.mem _).1 hs).2.1
 have h1:=hk.eq (zcv hv) (X:=T) (b:=fun _=>1) hi (hT.eq _ (hk.lt _ hs) (hk.nl _ hs) (rch_sure hall hr))
 rw[zma fun j hj=>by rw[sysA_mm hv h hi],h1,sg_zero' fun t ht=> ?_,Rat.add_zero]
 by_cases hm:t∈l
 ·rw[if_pos hm]
 ·rw[if_neg hm]
  by_cases hl:ziq c t
  ·rw[hT.zero t ht hl,Rat.mul_zero]
  ·by_cases hp:0<rq c (l.getD i 0) t
   ·exact absurd ((h.mem t).2 ⟨ht,Clo.step hr ht hp,hall t ht (Clo.step hr ht hp),by unfold ziq at hl;simpa using hl⟩) hm
   ·have h2:=rq_nn hv (hk.lt _ hs) ht
    have h3:rq c (l.getD i 0) t=0:=by grind
    rw[h3,Rat.zero_mul]
theorem time_sum {c:RC} {l:List Nat} {T:Nat→Rat} (hv:zzp c) (h:zvq c l) (hall:∀j,j<c.rates.length→Rch c j→Ftl c j) (hT:TimeF c.rates.length (rq c) (ziq c) (Sure c.rates.length (rq c) (ziq c)) T):
 sg l.length (fun i=>(qs c.start).getD (l.getD i 0) 0*T (l.getD i 0))=sg c.rates.length fun t=>(qs c.start).getD t 0*T t:=by
 have hk:=zxq h
 rw[zwu (l:=l) hk.so hk.lt (f:=fun t=>(qs c.start).getD t 0*T t)]
 have hz:(sg c.rates.length fun t=>if t∈l then 0 else(qs c.start).getD t 0*T t)=0:= ?_
 ·rw[hz,Rat.add_zero]
 refine sg_zero' fun t ht=> ?_
 by_cases hm:t∈l
 ·rw[if_pos hm]
 ·rw[if_neg hm]
  by_cases hl:ziq c t
  ·rw[hT.zero t ht hl,Rat.mul_zero]
  ·by_cases hp:0<(qs c.start).getD t 0
   ·exact absurd ((h.mem t).2 ⟨ht,Clo.base ht hp,hall t ht (Clo.base ht hp),by unfold ziq at hl;simpa using hl⟩) hm
   ·have h2:=start_nn hv ht
    have h3:(qs c.start).getD t 0=0:=by grind
    rw[h3,Rat.zero_mul]
structure SmC (c:RC):Prop where
 n5:c.rates.length≤5
 r:∀i j,i<c.rates.length→j<c.rates.length→over 720 28800 (rq c i j)
 s:∀i,i<c.rates.length→over 720 28800 ((qs c.start).getD i 0)
theorem slim5 :∀n,n<6→slimB n 720 230400 (dtB n 230400):=by
 intro n hn
 have h:∀n,n<6→(bD 720 (dtB n 230400)*(bD 720 (dtB n 230400)*bN n 720 230400 (dtB n 230400)*bD 720 (dtB n 230400))<2^4096∧bN n 720 230400 (dtB n 230400)*(bD 720 (dtB n 230400)*bN n 720 230400 (dtB n 230400)*bD 720 (dtB n 230400))+bN n 720 230400 (dtB n 230400)*bD 720 (dtB n 230400)*bN n 720 230400 (dtB n 230400)*bD 720 (dtB n 230400)<2^4096∧(720*dtB n 230400*720)^n<2^4096∧(bW n 720 230400 (dtB n 230400))^n<2^4096):=by decide+kernel
 obtain⟨h1,h2,h3,h4⟩:=h n hn
 exact⟨Nat.le_refl _,by decide,by decide,h1,h2,h3,h4⟩
theorem zft {c:RC} {l:List Nat} (h:zvq c l):l.length≤c.rates.length:=by
 have h1:=zjt (lo:=0) (n:=c.rates.length) h.sorted fun x hx=>⟨Nat.zero_le _,((h.mem x).1 hx).1⟩
 omega
theorem over_f {B:Nat} {q:Rat} (h:over 720 B q) (hB:B<2^4096):fits q:=h.fits (by decide) hB (by decide+kernel)
theorem sm_A {c:RC} {l:List Nat} (hv:zzp c) (h:zvq c l) (hs:SmC c) {i j:Nat} (hi:i<l.length) (hj:j<l.length):over 720 230400 (zis c l i j):=by
 have h1:=(zxq h).lt _ (zcq hi)
 have h2:=(zxq h).lt _ (zcq hj)
 unfold zis
 split
 ·rw[out_sg hv h1]
  exact(over.sg (by decide) fun t ht=>hs.r _ t h1 ht).mono (by have:=hs.n5;omega)
 ·exact(over.sub (by decide) (over.zero 720 0) (hs.r _ _ h1 h2)).mono (by decide)
theorem wt_28 {q:Rat} (h:over 720 230400 q):wt q≤28:=h.wt (a:=18) (b:=10) (by decide) (by decide) (by decide)
theorem slim_sys {c:RC} {l:List Nat} {b:Nat→Rat} (hv:zzp c) (h:zvq c l) (hs:SmC c) (hb:∀i,i<l.length→over 720 230400 (b i)) (hn:0<l.length):dt l.length (zis c l)≠0∧slimE false l.length (l.length+1) l.length (zpa l.length (zis c l) fun i _=>b i):=by
 have hd:dt l.length (zis c l)≠0:=by
  rw[zcd fun i j hi hj=>sysA_mm hv h hi]
  exact(zxq h).dt (zcv hv)
 have h5:l.length<6:=by have:=zft h;have:=hs.n5;omega
 refine⟨hd,slimE_minor (slim5 _ h5) hn (Nat.le_succ _) (fun i j hi hj=> ?_) (zff (B:=fun i _=>b i) hd)⟩
 unfold zpa
 split
 ·rename_i hj2
  exact sm_A hv h hs hi hj2
 ·exact hb i hi
theorem dtB5 :∀n,n<6→dtB n 230400<2^200:=by decide+kernel
theorem sm_x {c:RC} {l:List Nat} {b x:Nat→Rat} (hv:zzp c) (h:zvq c l) (hs:SmC c) (hb:∀i,i<l.length→over 720 230400 (b i)) (hx:∀i,i<l.length→sg l.length (fun j=>zis c l i j*x j)=b i):
 ∃E,E≠0∧E<2^220∧∀i,i<l.length→over E (2^240) (x i):=by
 by_cases hn:0<l.length
 ·obtain⟨hd,_⟩:=slim_sys hv h hs hb hn
  have h5:l.length<6:=by have:=zft h;have:=hs.n5;omega
  obtain⟨E,hE,hEb,hI⟩:=sol_gen (n:=l.length) (D:=720) (B:=230400) (by decide) (by decide) (fun i j hi hj=>sm_A hv h hs hi hj) hd (F:=720) (K:=230400) (by decide) hb hx
  have hB:=dtB5 _ h5
  refine⟨E*720,Nat.mul_ne_zero hE (by decide),?_,fun i hi=>(hI i hi).mono ?_⟩
  ·exact Nat.lt_of_le_of_lt (Nat.mul_le_mul_right _ (Nat.le_trans hEb (Nat.le_of_lt hB))) (show 2^200*720<2^220 by decide+kernel)
  ·exact Nat.le_trans (Nat.mul_le_mul (show l.length≤5 by omega) (Nat.mul_le_mul_right _ (Nat.le_of_lt hB))) (show 5*(2^200*230400)≤2^240 by decide+kernel)
 ·exact⟨1,by decide,by decide+kernel,fun i hi=>absurd hi (by omega)⟩
theorem pow_a :720*2^220<2^240:=by decide+kernel
theorem zcu {a:Nat} (h:a<4096):2^a<2^4096:=by
 generalize 4096=n at *
 exact Nat.pow_lt_pow_right (by decide) h
theorem csolve_sm {c:RC} {l:List Nat} {b x:Nat→Rat} (hv:zzp c) (h:zvq c l) (hs:SmC c) (hb:∀i,i<l.length→over 720 230400 (b i)) (hx:∀i,i<l.length→sg l.length (fun j=>zis c l i j*x j)=b i):zzt c l b x:=by
 have hk:=zxq h
 have h5:l.length≤5:=by have:=zft h;have:=hs.n5;omega
 have hA:zau l.length l.length (zis c l):=fun i j hi hj=>over_f (sm_A hv h hs hi hj) (by decide+kernel)
 have hfb:∀i,i<l.length→fits (b i):=fun i hi=>over_f (hb i hi) (by decide+kernel)
 have hw1:wtF l.length l.length (zis c l)≤700:=by
  have h1:=wtF_le (K:=28) (n:=l.length) (m:=l.length) (A:=zis c l) fun i j hi hj=>wt_28 (sm_A hv h hs hi hj)
  have h2:l.length*(l.length*28)≤5*(5*28):=Nat.mul_le_mul h5 (Nat.mul_le_mul_right _ h5)
  omega
 have hw2:wts (zib l.length b)≤140:=by
  have h1:=ztu (l:=zib l.length b) (K:=28) fun q hq=>by
   unfold zib at hq
   obtain⟨i,hi,rfl⟩:=List.mem_map.1 hq
   exact wt_28 (hb i (List.mem_range.1 hi))
  rw[zea]at h1
  omega
 have hw3:wts (qs c.start)≤140:=by
  have hl:(qs c.start).length=c.rates.length:=by rw[zgq];exact hv.2.2.2.1.symm
  have h1:=ztu (l:=qs c.start) (K:=28) fun q hq=>by
   obtain⟨i,hi,rfl⟩:=List.mem_iff_getElem.1 hq
   have h2:=hs.s i (by omega)
   rw[List.getD_eq_getElem?_getD,List.getElem?_eq_getElem hi,Option.getD_some]at h2
   exact wt_28 (h2.mono (by decide))
  have:=hs.n5
  rw[hl]at h1
  omega
 obtain⟨E,hE,hEb,hX⟩:=sm_x hv h hs hb hx
 have hEx:E<2^4096:=Nat.lt_trans hEb (by decide+kernel)
 have hE2:720*E<2^4096:=Nat.lt_trans (Nat.lt_of_le_of_lt (Nat.mul_le_mul_left _ (Nat.le_of_lt hEb)) pow_a) (zcu (by decide))
 have hE3:720*E≠0:=Nat.mul_ne_zero (by decide) hE
 have hP:∀i,i<l.length→over (720*E) (28800*2^240) ((qs c.start).getD (l.getD i 0) 0*x i):=fun i hi=>over.mul (hs.s _ (hk.lt _ (zcq hi))) (hX i hi)
 exact{
  lt:=fun i hi=>hk.lt _ (zcq hi)
  le:=by omega
  fn:=fun i j hi hj=>over_f (over.sub (by decide) (over.zero 720 0) (hs.r _ _ (hk.lt _ (zcq hi)) (hk.lt _ (zcq hj)))) (by decide+kernel)
  fA:=hA
  fb:=hfb
  w:=by omega
  sys:=by
   by_cases hn:l.length=0
   ·exact Or.inl hn
   ·obtain⟨hd,hsl⟩:=slim_sys hv h hs hb (by omega)
    exact Or.inr ⟨by omega,by omega,hA,hfb,fun i hi=>(hX i hi).fits hE (by decide+kernel) hEx,by omega,hd,hsl,hx⟩
  fp:=fun i hi=>(hP i hi).fits hE3 (by decide+kernel) hE2
  fs:=fun k hk2=>((over.sg hE3 fun i hi=>hP i (by omega)).mono (show k*(28800*2^240)≤5*(28800*2^240)from Nat.mul_le_mul_right _ (by omega))).fits hE3 (by decide+kernel) hE2 }
end Go.Proofs.YtlpdkbmmbdfoiaaGreat
namespace Go.Proofs.YtlpdkbmmbdfoiaaGreat
open Go.RowKit
def RMean (w0:World) (c:RC) (R:Rat) (e:Ending) (w:World):Prop:=
 ((∀j,j<c.rates.length→Rch c j→Ftl c j)∧RF0 w0 R e w)∨((∃j,j<c.rates.length∧Rch c j∧¬Ftl c j)∧e= .returned (.tuple #[.agg #[.bool false, .slice none 0 0, .slice none 0 0], .int .i64 14])∧Below w0.heap.size w0 w)
set_option maxRecDepth 100000 in
set_option maxHeartbeats 6400000 in
theorem mean_any (va:Value) (c:RC) (R:Rat) (w:World) (ha:zdq w va c) (hv:zzp c) (hp:(∀j,j<c.rates.length→Rch c j→Ftl c j)→∀l,zvq c l→∃x,zzt c l (fun _=>1) x∧sg l.length (fun i=>(qs c.start).getD (l.getD i 0) 0*x i)=R):
 Calls Tryz.prog 45 #[va] w (RMean w c R):=by
 have HP:=zH hp
 clear hp
 have hlen:c.rates.length=c.start.length:=hv.2.2.2.1
 have hlost:c.lost.length=c.start.length:=hv.2.2.1
 have h128:c.start.length≤128:=hv.2.1
 obtain⟨rv,sv,lv,rfl,hr,hs,hlo⟩:=id ha
 obtain⟨ra,rn,rk,rfl,_⟩:=id hr.sl
 obtain⟨sa,sn,sk,rfl,_⟩:=id hs.sl
 obtain⟨la,ln,lk,rfl,_⟩:=id (zhc.sl hlo)
 have hbx:=zca w (.cells #[.slice ra rn rk, .slice sa sn sk, .slice la ln lk] 28)
 have hb2:=zca (w.alloc (.cells #[.slice ra rn rk, .slice sa sn sk, .slice la ln lk] 28)) (.cells #[.bool false, .slice none 0 0, .slice none 0 0] 38)
 have HC:=zH ((C3.new w 28 (.slice ra rn rk) (.slice sa sn sk) (.slice la ln lk)).belowS hb2)
 have HR:=zH (C3.newB (b:=w.heap.size+1) (w.alloc (.cells #[.slice ra rn rk, .slice sa sn sk, .slice la ln lk] 28)) 38 (.bool false) (.slice none 0 0) (.slice none 0 0) (by simp))
 have HBW:=zH (zaa hbx hb2)
 have HA:=zH (ha.below HBW.out)
 have HV:=zH hv
 have hrn:rn=c.rates.length:=hr.len
 have hsn:sn=c.rates.length:=hs.len.trans hlen.symm
 have hll:ln=c.rates.length:=by have h:ln=c.lost.length:=hlo.len;omega
 have hrn128:c.rates.length≤128:=by omega
 have HRT:=zH (hr.below HBW.out)
 have HST:=zH (hs.below HBW.out)
 have HLO:=zH (hlo.below HBW.out)
 have HLL:Hid (c.lost.length=c.rates.length):=zH (by omega)
 have HSL:Hid (c.start.length=c.rates.length):=zH hlen.symm
 have srt:=hr.sl
 have sst:=hs.sl
 have slo:=zhc.sl hlo
 obtain⟨n,hn⟩:∃n,c.rates.length=n:=⟨_,rfl⟩
 rw[hn]at hrn hsn hll hrn128 HLL HSL
 have HN:=zH hn
 subst hrn
 obtain rfl:sn=rn:=hsn
 obtain rfl:ln=sn:=hll
 clear hr hs hlo ha hv hbx hb2 hlen hlost h128 hn
 obtain⟨i0,hi,hz0,hz1,hz2⟩:=info_parts Tryz.infoF
 have hM:=zon (P:=Tryz.prog) 25 38 i0 Tryz.underlying25 hi hz0 hz1 (by rw[hz2];decide)
 clear hi hz0 hz1 hz2 HRT HST HLO HLL HSL
 go_enter Tryz.func45,Tryz.ntmps45
 go_upto_region 1 with fail
 generalize (w.alloc (.cells #[.slice ra ln rk, .slice sa ln sk, .slice la ln lk] 28)).alloc (.cells #[.bool false, .slice none 0 0, .slice none 0 0] 38)=W2 at *
 obtain⟨_,c0,c1,c2,_,_,_⟩:=HC.out
 go_upto_region 3 with(first
  |(go_at_call 68;(with_reducible refine(zar _ c _ HA.out).mono ?_);rintro e2 w2 ⟨⟨b2,rfl,hv2⟩,hb2⟩;obtain rfl:b2=true:=hv2.2 HV.out;clear hv2
    have HC2:=zH (HC.out.belowS hb2)
    have HR2:=zH (HR.out.belowS hb2)
    have HA2:=zH (HA.out.below hb2)
    have HBW2:=zH (zaa HBW.out hb2)
    clear hb2))
 clear c0 c1 c2 HC HR HA HBW
 obtain⟨_,c0,c1,c2,_,_,_⟩:=HC2.out
 have S0:=zH (And.intro c0 (And.intro c1 c2))
 clear c0 c1 c2
 go_region_held3 (fun w'=>w'.cell? ⟨w.heap.size,0,none⟩=some (.slice ra ln rk)∧w'.cell? ⟨w.heap.size,1,none⟩=some (.slice sa ln sk)∧w'.cell? ⟨w.heap.size,2,none⟩=some (.slice la ln lk)∧Below w2.heap.size w2 w') (first
  | with_reducible exact kp3a S0.out (zja _)
  | with_reducible exact kp3w (by assumption) (by assumption)) (first
  |(go_at_call 111;(with_reducible refine(zyr _ c _ (HA2.out.below (kp3c (by assumption))) HV.out).mono ?_);rintro e4 w4 ⟨v4,bs4,rfl,hv4,hl4,hm4,hb4⟩)
  |(go_at_call 112;(with_reducible refine(fatal_any _ c _ (HA2.out.below (kp3c (by assumption))) HV.out).mono ?_);rintro e5 w5 ⟨v5,bs5,rfl,hv5,hl5,hm5,hb5⟩))
 have hE:=kp3c (by assumption)
 have HV4:=zH (hv4.below hb5)
 have HV5:=zH hv5
 have HC5:=zH (HC2.out.belowS hE)
 have HR5:=zH (HR2.out.belowS hE)
 have HA5:=zH (HA2.out.below hE)
 have HBW5:=zH (zaa HBW2.out hE)
 have s4:=zhc.sl hv4
 have s5:=zhc.sl hv5
 rw[HN.out]at hl4 hl5 hm4 hm5
 have l4:slen v4=ln:=by rw[hv4.len,hl4]
 have l5:slen v5=ln:=by rw[hv5.len,hl5]
 have HLN4:=zH hl4
 have HLN5:=zH hl5
 have HM4:=zH hm4
 have HM5:=zH hm5
 obtain⟨va4,vn4,vk4,rfl,_⟩:=id s4
 obtain⟨va5,vn5,vk5,rfl,_⟩:=id s5
 obtain rfl:vn4=ln:=l4
 obtain rfl:vn5=vn4:=l5
 clear hv4 hv5 hE hl4 hl5 hm4 hm5 hb4 hb5 HC2 HR2 HA2 HBW2 S0
 go_wp2_with fail
 go_loopg [20] (vn5) (fun g u20 wr=>wr=w5∧∃ (k:Nat),k≤vn5∧g=vn5-k∧u20= .int .i64 k∧(∀j,j<k→bs4.getD j false=true→bs5.getD j false=true))
 case atStart=>exact⟨rfl,0,Nat.zero_le _,rfl,rfl,fun j h=>by omega⟩
 case round=>
  obtain⟨rfl,k,hkn,hg,rfl,hall⟩:=hrel
  have HG:=zH hg
  have HALL:=zH hall
  clear hg hall
  by_cases hkl:k<vn5
  ·have hk4:k<bs4.length:=by rw[HLN4.out];exact hkl
   have hk5:k<bs5.length:=by rw[HLN5.out];exact hkl
   have q4:=HV4.out.at' k hk4
   have q5:=HV5.out.at' k hk5
   have HX4:=zH (zrn hk4)
   have HX5:=zH (zrn hk5)
   have i1:(0:Int)≤(k:Int):=by omega
   have i2:(k:Int)<(vn5:Nat):=by omega
   obtain⟨x4,hx4⟩:∃x,bs4[k]'hk4=x:=⟨_,rfl⟩
   obtain⟨x5,hx5⟩:∃x,bs5[k]'hk5=x:=⟨_,rfl⟩
   rw[hx4]at q4 HX4
   rw[hx5]at q5 HX5
   clear hx4 hx5
   cases x4 with
   | false=>
     go_wp2_with fail
     go_roundg (vn5- (k+1))
     case measure=>(have:=HG.out;omega)
     case rel=>
      refine⟨rfl,k+1,by omega,rfl,by go_num,fun j hj h=> ?_⟩
      rcases Nat.lt_or_ge j k with h6 | h6
      ·exact HALL.out j h6 h
      ·obtain rfl:j=k:=by omega
       rw[HX4.out]at h
       cases h
   | true=>
     cases x5 with
     | true=>
       go_wp2_with fail
       go_roundg (vn5- (k+1))
       case measure=>(have:=HG.out;omega)
       case rel=>
        refine⟨rfl,k+1,by omega,rfl,by go_num,fun j hj h=> ?_⟩
        rcases Nat.lt_or_ge j k with h6 | h6
        ·exact HALL.out j h6 h
        ·obtain rfl:j=k:=by omega
         exact HX5.out
     | false=>
       obtain⟨_,r0,r1,r2,q0,q1,q2⟩:=HR5.out
       go_wp2_with fail
       refine zoa rfl rfl Tryz.aggF Tryz.sizeF (HR5.out.set _ _ _) rfl ?_
       refine Or.inr ⟨⟨k,by rw[HN.out];exact hkl,(HM4.out k hkl).1 HX4.out,fun h=> ?_⟩,rfl,zga HBW5.out (Nat.le_succ _) _ _ _⟩
       have h2:=(HM5.out k hkl).2 h
       rw[HX5.out]at h2
       cases h2
  ·obtain rfl:k=vn5:=by omega
   have hsure:∀j,j<c.rates.length→Rch c j→Ftl c j:=fun j hj h=>by
    rw[HN.out]at hj
    exact(HM5.out j hj).1 (HALL.out j hj ((HM4.out j hj).2 h))
   have HSURE:=zH hsure
   obtain⟨_,c0,c1,c2,_,_,_⟩:=HC5.out
   clear HM4 HM5 HALL hsure HV4 HV5 HLN4 HLN5
   go_upto_region 11 with(first
    |(go_at_call 108;(with_reducible refine(alive_any _ c _ HA5.out HV.out).mono ?_);rintro e3 w3 ⟨v3,l,rfl,hv3,hal,hb3⟩
      have HB3:=zH hb3
      have HL3:=zH hv3
      obtain⟨x,hx⟩:=HP.out HSURE.out l hal
      have HX:=zH hx.1
      have HXR:=zH hx.2
      have hl24:=hx.1.le
      obtain⟨m,hm⟩:∃m,l.length=m:=⟨_,rfl⟩
      have HM:=zH hm
      rw[hm]at hl24
      have sv3:=zhc.sl hv3
      have lv3:slen v3=m:=by have h:=zhc.len hv3;rw[List.length_map,zbq,hm]at h;exact h
      obtain⟨va1,vn1,vk1,rfl,_⟩:=id (zhc.sl hv3)
      obtain rfl:vn1=m:=lv3
      have HC3:=zH (HC5.out.belowS hb3)
      have HR3:=zH (HR5.out.belowS hb3)
      have HA3:=zH (HA5.out.below hb3)
      have HBW3:=zH (zaa HBW5.out hb3)
      clear hv3 hal hb3 HP hx hm c0 c1 c2))
   clear HA5 HC5 HR5 HBW5
   go_wp2_with (refine hM w3 rfl _ _ rfl w3.heap.size _ vn1 rfl rfl rfl (by omega) (Nat.le_refl _) ?_
                intro vO w5 hO5 hb5 hvO
                have HO5:=zH hO5
                have HB5:=zH hb5
                have slO:=hO5.sl
                have lnO:=hO5.len
                clear hO5 hb5)
   clear hM
   go_loopg [43] (vn1) (fun g u43 wr=>∃ (i:Nat),i≤vn1∧g=vn1-i∧u43= .int .i64 i∧zqb wr 38 w3.heap.size vO vn1∧(∀t,t<i→zlg wr vO t 1)∧Below w3.heap.size w3 wr)
   case atStart=>exact⟨0,Nat.zero_le _,rfl,rfl,HO5.out,fun t h=>by omega,HB5.out⟩
   case round=>
    obtain⟨i,hin,hg,rfl,ho,he,hbr⟩:=hrel
    obtain⟨w6,hw6⟩:∃w6,w6=wr:=⟨_,rfl⟩
    subst hw6
    have HG:=zH hg
    have HE:=zH he
    have HO:=zH ho
    have HBR:=zH hbr
    clear he hg HO5 HB5
    by_cases hil:i<vn1
    ·have i1:(0:Int)≤(i:Int):=by omega
     have i2:(i:Int)<(vn1:Nat):=by omega
     clear ho hbr
     go_wp2_with (first
      |(go_at_call 109;(with_reducible refine(zqs _).mono ?_);rintro e31 w31 ⟨v31,rfl,hv31,hb31⟩
        obtain⟨t6,x31,y31,rfl,⟨a61,l61,k61,rfl,_⟩,⟨a62,l62,k62,rfl,_⟩⟩:=hv31.isF
        have ho3:=HO.out.below hb31
        obtain⟨c0,d0,_⟩:=ho3.cell (i*3) (by omega)
        obtain⟨c1,d1,_⟩:=ho3.cell (i*3+1) (by omega)
        obtain⟨c2,d2,_⟩:=ho3.cell (i*3+2) (by omega)
        have f0:=ho3.frozen (i*3)
        have f1:=ho3.frozen (i*3+1)
        have f2:=ho3.frozen (i*3+2)
        have n01:=ho3.inj (show i*3≠i*3+1 by omega)
        have n02:=ho3.inj (show i*3≠i*3+2 by omega)
        have n12:=ho3.inj (show i*3+1≠i*3+2 by omega)
        have HS3:=zH (ho3.set3 i (.bool t6) (.slice a61 l61 k61) (.slice a62 l62 k62) (fun z=>by simp) (fun z=>by simp) (fun z=>by simp))
        have HE3:=zH (fun t ht=>(HE.out t ht).below hb31)
        have HO3:=zH ho3
        have HV6:=zH hv31
        have HB3:=zH (zfa HBR.out hb31 HBR.out.size)
        clear ho3 hv31 hb31))
     go_roundg (vn1- (i+1))
     case measure=>(have:=HG.out;omega)
     case rel=>
      refine⟨i+1,by omega,rfl,by go_num,HS3.out.1,fun t ht=> ?_,HB3.out.trans HS3.out.2⟩
      rcases Nat.lt_or_ge t i with h6 | h6
      ·exact zlg.set3_other HO3.out hil (by omega) (HE3.out t h6) _ _ _ (fun z=>by simp) (fun z=>by simp)
      ·obtain rfl:t=i:=by omega
       exact zlg.set3 HO3.out hil HV6.out
    ·obtain rfl:i=vn1:=by omega
     have HVR:Hid (zbb w6 vO (zib l.length fun i=>1)):=zH (by
      rw[HM.out]
      exact HO.out.fracs (zea _ _) (fun j hj=>by rw[zea]at hj;rw[ztb];exact HE.out j hj))
     have HA6:=zH (HA3.out.below hbr)
     have HL6:=zH (HL3.out.below hbr)
     have hc6:=HC3.out.belowS hbr
     have HR6:=zH (HR3.out.belowS hbr)
     have HBW6:=zH (zaa HBW3.out hbr)
     obtain⟨_,e0,e1,e2,_,_,_⟩:=hc6
     clear ho HO HE HBR hbr HC3 HR3 HA3 HBW3 HL3 HG
     go_wp2_with (first
      |(go_at_call 110;(with_reducible refine(zru _ _ _ c l _ x _ HA6.out HV.out HL6.out HVR.out HX.out).mono ?_);rw[HXR.out];rintro e8 w8 ⟨v8,rfl,hv8,hb8⟩
        obtain⟨t8,x8,y8,rfl,⟨a81,l81,k81,rfl,_⟩,⟨a82,l82,k82,rfl,_⟩⟩:=hv8.isF
        have hr8:=HR6.out.belowS hb8
        have HR8:=zH hr8
        have HB8:=zH (zaa HBW6.out hb8)
        have HV8:=zH hv8
        obtain⟨_,r0,r1,r2,q0,q1,q2⟩:=hr8
        clear hv8 hb8))
     refine zoa rfl rfl Tryz.aggF Tryz.sizeF (HR8.out.set _ _ _) rfl ?_
     exact Or.inl ⟨HSURE.out,_,rfl,HV8.out.set3 HR8.out (fun z=>by simp) (fun z=>by simp) _ _ _,zga HB8.out (Nat.le_succ _) _ _ _⟩
end Go.Proofs.YtlpdkbmmbdfoiaaGreat
