/-
  package drydocksame: Frac.
-/
import Derived.Test.YtlpdkbmmbdfoiaaGreatLGw5
import Derived.Test.YtlpdkbmmbdfoiaaGreatLHs1
import Derived.Test.YtlpdkbmmbdfoiaaGreatLRa3
import Derived.Test.YtlpdkbmmbdfoiaaGreatLMath24
import Derived.Test.YtlpdkbmmbdfoiaaGreatLMath8
import Derived.Test.YtlpdkbmmbdfoiaaGreatLMath6b
import Derived.Test.YtlpdkbmmbdfoiaaGreatLRb5
import Derived.Test.YtlpdkbmmbdfoiaaGreatLSz1
import Derived.Deep.CutRange
import Derived.Deep.DeepCutAuto
import Derived.Deep.LoopGhost
set_option linter.unusedVariables false
set_option linter.unusedSimpArgs false
namespace Go.Proofs.YtlpdkbmmbdfoiaaGreat
open Go.RowKit
def lsr (c:RC) (s k:Nat):Rat:=sg k fun t=>if c.lost.getD t false=true then rq c s t else 0
def lst (c:RC) (k:Nat):Rat:=sg k fun t=>if c.lost.getD t false=true then(qs c.start).getD t 0 else 0
theorem add_cr (va vb:Value) (p:Rat) (x:RF) (w:World) (ha:zqa w va p) (hb:zdc w vb x.neg x.n x.d) (hp:fits p) (hx:x.ok) (hr:fits (p+x.q)):Calls Tryz.prog 80 #[va,vb] w (RF0 w (p+x.q)):=by
 have h:=zco va vb _ _ _ _ _ _ w ha.raw hb (zuc hp) hx
 rw[zvb]at h
 exact h.mono fun _ _ h=>h.ok rfl hr
structure HitP (c:RC) (l:List Nat) (x:Nat→Rat):Prop where
 sp:zzt c l (fun i=>lsr c (l.getD i 0) c.rates.length) x
 fr:∀i k,i<l.length→k≤c.rates.length→fits (lsr c (l.getD i 0) k)
 fs:∀k,k≤c.rates.length→fits (sg l.length (fun i=>(qs c.start).getD (l.getD i 0) 0*x i)+lst c k)
set_option maxRecDepth 100000 in
set_option maxHeartbeats 6400000 in
theorem hit_any (va:Value) (c:RC) (R:Rat) (w:World) (ha:zdq w va c) (hv:zzp c) (hp:∀l,zvq c l→∃x,HitP c l x∧sg l.length (fun i=>(qs c.start).getD (l.getD i 0) 0*x i)+lst c c.rates.length=R):
 Calls Tryz.prog 43 #[va] w (RF0 w R):=by
 have HP:=zH hp
 clear hp
 have hlen:c.rates.length=c.start.length:=hv.2.2.2.1
 have hlost:c.lost.length=c.start.length:=hv.2.2.1
 have h128:c.start.length≤128:=hv.2.1
 obtain⟨rv,sv,lv,rfl,hr,hs,hlo⟩:=id ha
 obtain⟨ra,rn,rk,rfl,_⟩:=id hr.sl
 obtain⟨sa,sn,sk,rfl,_⟩:=id hs.sl
 obtain⟨la,ln,lk,rfl,_⟩:=id (zhc.sl hlo)
 have hbx:=zca w (.cells #[.slice ra rn rk, .slice sa sn sk, .slice la ln lk] 28)
 have hb2:=zca (w.alloc (.cells #[.slice ra rn rk, .slice sa sn sk, .slice la ln lk] 28)) (.cells #[.bool false, .slice none 0 0, .slice none 0 0] 38)
 have HC:=zH ((C3.new w 28 (.slice ra rn rk) (.slice sa sn sk) (.slice la ln lk)).belowS hb2)
 have HR:=zH (C3.newB (b:=w.heap.size+1) (w.alloc (.cells #[.slice ra rn rk, .slice sa sn sk, .slice la ln lk] 28)) 38 (.bool false) (.slice none 0 0) (.slice none 0 0) (by simp))
 have HBW:=zH (zaa hbx hb2)
 have HA:=zH (ha.below HBW.out)
 have HV:=zH hv
 have hrn:rn=c.rates.length:=hr.len
 have hsn:sn=c.rates.length:=hs.len.trans hlen.symm
 have hll:ln=c.rates.length:=by have h:ln=c.lost.length:=hlo.len;omega
 have hrn128:c.rates.length≤128:=by omega
 have HRT:=zH (hr.below HBW.out)
 have HST:=zH (hs.below HBW.out)
 have HLO:=zH (hlo.below HBW.out)
 have HLL:Hid (c.lost.length=c.rates.length):=zH (by omega)
 have HSL:Hid (c.start.length=c.rates.length):=zH hlen.symm
 have srt:=hr.sl
 have sst:=hs.sl
 have slo:=zhc.sl hlo
 obtain⟨n,hn⟩:∃n,c.rates.length=n:=⟨_,rfl⟩
 rw[hn]at hrn hsn hll hrn128 HLL HSL
 have HN:=zH hn
 subst hrn
 obtain rfl:sn=rn:=hsn
 obtain rfl:ln=sn:=hll
 clear hr hs hlo ha hv hbx hb2 hlen hlost h128 hn
 obtain⟨i0,hi,hz0,hz1,hz2⟩:=info_parts Tryz.infoF
 have hM:=zon (P:=Tryz.prog) 25 38 i0 Tryz.underlying25 hi hz0 hz1 (by rw[hz2];decide)
 clear hi hz0 hz1 hz2
 go_enter Tryz.func43,Tryz.ntmps43
 go_upto_region 1 with fail
 generalize (w.alloc (.cells #[.slice ra ln rk, .slice sa ln sk, .slice la ln lk] 28)).alloc (.cells #[.bool false, .slice none 0 0, .slice none 0 0] 38)=W2 at *
 obtain⟨_,c0,c1,c2,_,_,_⟩:=HC.out
 go_upto_region 4 with(first
  |(go_at_call 68;(with_reducible refine(zar _ c _ HA.out).mono ?_);rintro e2 w2 ⟨⟨b2,rfl,hv2⟩,hb2⟩;obtain rfl:b2=true:=hv2.2 HV.out;clear hv2
    have c0:=zba hb2 c0
    have c1:=zba hb2 c1
    have c2:=zba hb2 c2
    have HA2:=zH (HA.out.below hb2))
  |(go_at_call 108;(with_reducible refine(zzv _ c _ HA2.out HV.out).mono ?_);rintro e3 w3 ⟨v3,l,rfl,hv3,hal,hb3⟩
    have HB3:=zH (zaa hb2 hb3)
    have HL3:=zH hv3
    obtain⟨x,hx⟩:=HP.out l hal
    have HX:=zH hx.1
    have HXR:=zH hx.2
    have hl24:=hx.1.sp.le
    obtain⟨m,hm⟩:∃m,l.length=m:=⟨_,rfl⟩
    have HM:=zH hm
    rw[hm]at hl24
    have sv3:=zhc.sl hv3
    have lv3:slen v3=m:=by have h:=zhc.len hv3;rw[List.length_map,zbq,hm]at h;exact h
    obtain⟨va1,vn1,vk1,rfl,_⟩:=id (zhc.sl hv3)
    obtain rfl:vn1=m:=lv3
    have HC3:=zH (HC.out.belowS HB3.out)
    have HR3:=zH (HR.out.belowS HB3.out)
    have HA3:=zH (HA.out.below HB3.out)
    have HRT3:=zH (HRT.out.below HB3.out)
    have HST3:=zH (HST.out.below HB3.out)
    have HLO3:=zH (HLO.out.below HB3.out)
    have HBW3:=zH (zaa HBW.out HB3.out)
    clear hv3 hal hb2 hb3 HP HA2 hx hm c0 c1 c2))
 clear HA HC HR HRT HST HLO HBW HB3
 go_wp2_with (refine hM w3 rfl _ _ rfl w3.heap.size _ vn1 rfl rfl rfl (by omega) (Nat.le_refl _) ?_
              intro vO w5 hO5 hb5 hvO
              have HO5:=zH hO5
              have HB5:=zH hb5
              have slO:=hO5.sl
              have lnO:=hO5.len
              clear hO5 hb5)
 clear hM
 go_loopg [25] (vn1) (fun g u25 wr=>∃ (i:Nat),i≤vn1∧g=vn1-i∧u25= .int .i64 i∧zqb wr 38 w3.heap.size vO vn1∧(∀t,t<i→zlg wr vO t (lsr c (l.getD t 0) ln))∧Below w3.heap.size w3 wr)
 case atStart=>exact⟨0,Nat.zero_le _,rfl,rfl,HO5.out,fun t h=>by omega,HB5.out⟩
 case round=>
  obtain⟨i,hin,hg,rfl,ho,he,hbr⟩:=hrel
  obtain⟨w6,hw6⟩:∃w6,w6=wr:=⟨_,rfl⟩
  subst hw6
  have HG:=zH hg
  have HE:=zH he
  have HO:=zH ho
  have HBR:=zH hbr
  clear he hg HO5 HB5
  by_cases hil:i<vn1
  ·have hil3:i<(ztr l).length:=by rw[zbq,HM.out];exact hil
   have hcl:=(HL3.out.below hbr).at' i hil3
   rw[zct (by rw[HM.out];exact hil)]at hcl
   have hsl:=HX.out.sp.lt i (by rw[HM.out];exact hil)
   have hfr:=HX.out.fr i
   rw[HM.out,HN.out]at hfr
   have HFR0:=zH hfr
   obtain⟨s,hs⟩:∃s,l.getD i 0=s:=⟨_,rfl⟩
   rw[hs]at hcl hsl HFR0
   have HS:=zH hs
   have HFR:Hid (∀k,k≤ln→fits (lsr c s k)):=zH (fun k hk=>HFR0.out k hil hk)
   have i1:(0:Int)≤(i:Int):=by omega
   have i2:(i:Int)<(vn1:Nat):=by omega
   clear ho hbr hfr HFR0 hs
   go_upto_region 9 with(first
    |(go_at_call 109;(with_reducible refine(zdr _).mono ?_);rintro e31 w31 ⟨v31,rfl,hv31,hb31⟩
      obtain⟨t6,x31,y31,rfl,⟨a61,l61,k61,rfl,_⟩,⟨a62,l62,k62,rfl,_⟩⟩:=hv31.isF
      have ho3:=HO.out.below hb31
      obtain⟨c0,d0,_⟩:=ho3.cell (i*3) (by omega)
      obtain⟨c1,d1,_⟩:=ho3.cell (i*3+1) (by omega)
      obtain⟨c2,d2,_⟩:=ho3.cell (i*3+2) (by omega)
      have f0:=ho3.frozen (i*3)
      have f1:=ho3.frozen (i*3+1)
      have f2:=ho3.frozen (i*3+2)
      have n01:=ho3.inj (show i*3≠i*3+1 by omega)
      have n02:=ho3.inj (show i*3≠i*3+2 by omega)
      have n12:=ho3.inj (show i*3+1≠i*3+2 by omega)
      have HS3:=zH (ho3.set3 i (.bool t6) (.slice a61 l61 k61) (.slice a62 l62 k62) (fun z=>by simp) (fun z=>by simp) (fun z=>by simp))
      have HE3:=zH (fun t ht=>(HE.out t ht).below hb31)
      have HO3:=zH ho3
      have HV6:=zH hv31
      have HB3:=zH (zfa HBR.out hb31 HBR.out.size)
      clear ho3 hv31 hb31))
   have HE6:=zH (fun t (ht:t<i)=>zlg.set3_other HO3.out hil (show i≠t by omega) (HE3.out t ht) (.bool t6) (.slice a61 l61 k61) (.slice a62 l62 k62) (fun z=>by simp) (fun z=>by simp))
   have HI6:=zH (zlg.set3 HO3.out hil HV6.out)
   have HB6:=zH (HB3.out.trans HS3.out.2)
   have HO6:=zH HS3.out.1
   clear HS3 HE3 HO3 HV6 HB3 hcl n01 n02 n12 f0 f1 f2 d0 d1 d2 HE HO HBR
   generalize ((w31.setCell (ptr vO (i*3)) (.bool t6)).setCell (ptr vO (i*3+1)) (.slice a61 l61 k61)).setCell (ptr vO (i*3+2)) (.slice a62 l62 k62)=w7 at *
   have hsn:s<ln:=by rw[←HN.out];exact hsl
   obtain⟨ri,hci0,hri⟩:=HRT3.out.at' s hsl
   obtain⟨hrow,hrq⟩:=zes HV.out hsl
   have hlrow:(c.rates[s]'hsl).length=ln:=by
    obtain⟨_,hrl,_,_⟩:=HV.out.row (i:=s) (by rw[HLL.out];exact hsn)
    have h1:=HSL.out
    have h2:=HLL.out
    omega
   obtain⟨ra1,ra2,ra3,rfl,_⟩:=id hri.sl
   have hra2:ra2=ln:=hri.len.trans hlrow
   subst hra2
   have sri:=hri.sl
   have HRI:=zH hri
   have HROW:=zH hrow
   have HRQ:=zH hrq
   have HLR:=zH hlrow
   obtain⟨_,e0,e1,e2,_,_,_⟩:=HC3.out.belowS HB6.out
   have hci:=zba HB6.out hci0
   have k1:(0:Int)≤(s:Int):=by omega
   have k2:(s:Int)<(ra2:Nat):=by omega
   clear hri hrow hrq hlrow hci0
   go_wp2_with fail
   clear hci e0 e1 e2
   go_loopg [40] (ra2) (fun g u40 wr=>∃ (k:Nat),k≤ra2∧g=ra2-k∧u40= .int .i64 k∧zqb wr 38 w3.heap.size vO vn1∧(∀t,t<i→zlg wr vO t (lsr c (l.getD t 0) ra2))∧zlg wr vO i (lsr c s k)∧Below w3.heap.size w3 wr)
   case atStart=>exact⟨0,Nat.zero_le _,rfl,rfl,HO6.out,HE6.out,HI6.out,HB6.out⟩
   case round=>
    obtain⟨k,hkn,hgk,rfl,ho,he,hei,hbr⟩:=hrel
    obtain⟨w8,hw8⟩:∃w6,w6=wr:=⟨_,rfl⟩
    subst hw8
    have HGK:=zH hgk
    have HE:=zH he
    have HEI:=zH hei
    have HO:=zH ho
    have HBR:=zH hbr
    clear he hgk ho hei HO6 HE6 HI6 HB6
    by_cases hkl:k<ra2
    ·have hk2:k<(c.rates[s]'hsl).length:=by rw[HLR.out];exact hkl
     have hkL:k<c.lost.length:=by rw[HLL.out];exact hkl
     obtain⟨ea,eb,g1,g2,g3,g4,g5⟩:=(HRI.out.below hbr).at' k hk2
     have HQE:Hid (rq c s k=((c.rates[s]'hsl)[k]'hk2).q):=zH (by
      unfold rq
      rw[HRQ.out]
      unfold qs
      rw[List.getD_eq_getElem?_getD,List.getElem?_map,List.getElem?_eq_getElem hk2];rfl)
     have HXO:Hid (((c.rates[s]'hsl)[k]'hk2).ok):=zH (HROW.out.ok _ (List.getElem_mem hk2))
     obtain⟨y,hye⟩:∃y,(c.rates[s]'hsl)[k]'hk2=y:=⟨_,rfl⟩
     rw[hye]at g1 g4 g5 HQE HXO
     obtain⟨ea1,ea2,ea3,rfl,_⟩:=g4.slen.1
     obtain⟨eb1,eb2,eb3,rfl,_⟩:=g5.slen.1
     have HYN:Hid (zdc w8 (.agg #[.bool y.neg, .slice ea1 ea2 ea3, .slice eb1 eb2 eb3]) y.neg y.n y.d):=zH ⟨_,_,rfl,g4,g5⟩
     have qL:=(HLO3.out.below hbr).at' k hkL
     have HLS:Hid (lsr c s (k+1)=lsr c s k+if c.lost.getD k false=true then rq c s k else 0):=zH rfl
     rw[zrn hkL]at HLS
     obtain⟨xL,hxL⟩:∃x,c.lost[k]'hkL=x:=⟨_,rfl⟩
     rw[hxL]at qL HLS
     have HC8:=zH (C3.new w8 38 (.bool y.neg) (.slice ea1 ea2 ea3) (.slice eb1 eb2 eb3))
     have HB8:=zH (zca w8 (.cells #[.bool y.neg, .slice ea1 ea2 ea3, .slice eb1 eb2 eb3] 38))
     obtain⟨_,e0,e1,e2,_,_,_⟩:=HC3.out.belowS hbr
     have i3:(0:Int)≤(k:Int):=by omega
     have i4:(k:Int)<(ra2:Nat):=by omega
     have qL8:=zba HB8.out qL
     have e28:=zba HB8.out e2
     clear g4 g5 hye hxL hbr qL e2
     cases xL with
     | false=>
       have HLS:Hid (lsr c s (k+1)=lsr c s k):=zH (by have h:=HLS.out;simp only[Bool.false_eq_true,if_false,Rat.add_zero]at h;exact h)
       go_wp2_with fail
       go_roundg (ra2- (k+1))
       case measure=>(have:=HGK.out;omega)
       case rel=>
        refine⟨k+1,by omega,rfl,by go_num,HO.out.below HB8.out,fun t ht=>(HE.out t ht).below HB8.out,?_,zaa HBR.out HB8.out⟩
        have h:=HEI.out.below HB8.out
        rw[HLS.out]
        exact h
     | true=>
       have HLS:Hid (lsr c s (k+1)=lsr c s k+rq c s k):=zH (by have h:=HLS.out;simpa using h)
       go_wp2_with fail
       generalize w8.alloc (.cells #[.bool y.neg, .slice ea1 ea2 ea3, .slice eb1 eb2 eb3] 38)=Wx at *
       have hbD:=zaa HB8.out (zja (B:=Wx.heap.size) Wx)
       have hcD:=HC8.out.belowS (zja (B:=Wx.heap.size) Wx)
       have hoD:=HO.out.below hbD
       have hbrD:=zaa HBR.out hbD
       obtain⟨za,zb,p1,p2,p3,p4,p5⟩:=HEI.out.below hbD
       obtain⟨za1,za2,za3,rfl,_⟩:=p4.v.sl
       obtain⟨zb1,zb2,zb3,rfl,_⟩:=p5.v.sl
       obtain⟨z,hze⟩:∃z,lsr c s k=z:=⟨_,rfl⟩
       have HFZ:Hid (fits z∧fits (z+y.q)):=zH (by
        have h1:=HFR.out k hkn
        have h2:=HFR.out (k+1) hkl
        rw[HLS.out,HQE.out,hze]at h2
        rw[hze]at h1
        exact⟨h1,h2⟩)
       rw[hze]at p1 p4 p5
       have hF1:zqa Wx.drew (.agg #[.bool (decide (z<0)), .slice za1 za2 za3, .slice zb1 zb2 zb3]) z:=⟨_,_,rfl,p4,p5⟩
       have hF2:=HYN.out.below hbD
       have HZE:=zH hze
       have HCD:=zH hcD
       obtain⟨_,q0,q1,q2,_,_,_⟩:=hcD
       clear p4 p5 hze g1 g2 g3 e0 e1 e28 qL8
       go_region_law (refine zjc rfl 80 #[.agg #[.bool (decide (z<0)), .slice za1 za2 za3, .slice zb1 zb2 zb3], .agg #[.bool y.neg, .slice ea1 ea2 ea3, .slice eb1 eb2 eb3]] ?_ (add_cr _ _ z y _ hF1 hF2 HFZ.out.1 HXO.out HFZ.out.2) ?_;go_simp;rintro e9 w9 ⟨v9,rfl,hv8,hb9⟩;refine⟨_,rfl,?_⟩
                      obtain⟨t9,x9,y9,rfl,⟨a1,l91,k1,rfl,_⟩,⟨a2,l92,k2,rfl,_⟩⟩:=hv8.isF
                      have p1:=zba hb9 p1
                      have p2:=zba hb9 p2
                      have p3:=zba hb9 p3
                      have ho2:=hoD.below hb9
                      have f0:=ho2.frozen (i*3)
                      have f1:=ho2.frozen (i*3+1)
                      have f2:=ho2.frozen (i*3+2)
                      have n01:=ho2.inj (show i*3≠i*3+1 by omega)
                      have n02:=ho2.inj (show i*3≠i*3+2 by omega)
                      have n12:=ho2.inj (show i*3+1≠i*3+2 by omega))
       all_goals
        have HE3:=zH (fun t (ht:t<i)=>((HE.out t ht).below hbD).below hb9)
        have hbr9:=zaa hbrD hb9
        clear p1 p2 p3 q0 q1 q2 f0 f1 f2 n01 n02 n12 hF1 hF2 hbD hoD
        go_wp2
        go_roundg (ra2- (k+1))
        case measure=>(have:=HGK.out;omega)
        case rel=>
         have hs3:=ho2.set3 i (.bool t9) (.slice a1 l91 k1) (.slice a2 l92 k2) (fun z=>by simp) (fun z=>by simp) (fun z=>by simp)
         refine⟨k+1,hkl,rfl,by go_num,hs3.1,fun t ht=>zlg.set3_other ho2 hil (by omega) (HE3.out t ht) _ _ _ (fun z=>by simp) (fun z=>by simp),?_,hbr9.trans hs3.2⟩
         rw[HLS.out,HQE.out,HZE.out]
         exact zlg.set3 ho2 hil hv8
    ·obtain rfl:k=ra2:=by omega
     go_wp2_with fail
     go_roundg (vn1- (i+1))
     case measure=>(have:=HG.out;omega)
     case rel=>
      refine⟨i+1,by omega,rfl,by go_num,HO.out,fun t ht=> ?_,HBR.out⟩
      rcases Nat.lt_or_ge t i with h6 | h6
      ·exact HE.out t h6
      ·obtain rfl:t=i:=by omega
       rw[HS.out]
       exact HEI.out
  ·obtain rfl:i=vn1:=by omega
   have HVR:Hid (zbb w6 vO (zib l.length fun i=>lsr c (l.getD i 0) c.rates.length)):=zH (by
    rw[HM.out,HN.out]
    exact HO.out.fracs (zea _ _) (fun j hj=>by rw[zea]at hj;rw[ztb];exact HE.out j hj))
   have HA6:=zH (HA3.out.below hbr)
   have HL6:=zH (HL3.out.below hbr)
   have hc6:=HC3.out.belowS hbr
   have HC6:=zH hc6
   have HR6:=zH (HR3.out.belowS hbr)
   have HST6:=zH (HST3.out.below hbr)
   have HLO6:=zH (HLO3.out.below hbr)
   have HBW6:=zH (zaa HBW3.out hbr)
   obtain⟨_,e0,e1,e2,_,_,_⟩:=hc6
   clear ho HO HE HBR hbr HC3 HR3 HA3 HRT3 HST3 HLO3 HBW3 HL3 HG
   go_upto_region 17 with(first
    |(go_at_call 110;(with_reducible refine(zru _ _ _ c l _ x _ HA6.out HV.out HL6.out HVR.out HX.out.sp).mono ?_);rintro e8 w8 ⟨v8,rfl,hv8,hb8⟩
      obtain⟨t8,x8,y8,rfl,⟨a81,l81,k81,rfl,_⟩,⟨a82,l82,k82,rfl,_⟩⟩:=hv8.isF
      have hba:=zca w8 (.cells #[.bool t8, .slice a81 l81 k81, .slice a82 l82 k82] 38)
      have hbb:=zaa hb8 hba
      have HCT:=zH (C3.new w8 38 (.bool t8) (.slice a81 l81 k81) (.slice a82 l82 k82))
      have HVT:=zH (hv8.below hba)
      have HC8:=zH (HC6.out.belowS hb8)
      have HR8:=zH (HR6.out.belowS hb8)
      have HST8:=zH (HST6.out.below hb8)
      have HLO8:=zH (HLO6.out.below hb8)
      have HBW8:=zH (zaa HBW6.out hb8)
      have HBA:=zH (zca w8 (.cells #[.bool t8, .slice a81 l81 k81, .slice a82 l82 k82] 38))
      have hbs:=hb8.size
      clear hv8 hb8 hba hbb))
   clear HA6 HL6 HC6 HR6 HST6 HLO6 HBW6 HVR e0 e1 e2
   have HFS:=zH HX.out.fs
   rw[HN.out]at HFS HXR
   obtain⟨S,hS⟩:∃S,sg l.length (fun i=>(qs c.start).getD (l.getD i 0) 0*x i)=S:=⟨_,rfl⟩
   rw[hS]at HVT HFS HXR
   obtain⟨b10,hb10⟩:∃b,w8.heap.size=b:=⟨_,rfl⟩
   have HBS:=zH hb10
   rw[hb10]at HCT ⊢
   clear hS hb10
   generalize w8.alloc (.cells #[.bool t8, .slice a81 l81 k81, .slice a82 l82 k82] 38)=W8 at *
   obtain⟨_,e0,e1,e2,_,_,_⟩:=HC8.out.belowS HBA.out
   go_wp2_with fail
   go_loopg [78] (ln) (fun g u78 wr=>∃ (k:Nat) (t':Bool) (x' y':Value),k≤ln∧g=ln-k∧u78= .int .i64 k∧C3 wr b10 (.bool t') x' y'∧zqa wr (.agg #[.bool t',x',y']) (S+lst c k)∧Below w8.heap.size w8 wr)
   case atStart=>exact⟨0,_,_,_,Nat.zero_le _,rfl,rfl,HCT.out,by show zqa _ _ (S+0);rw[Rat.add_zero];exact HVT.out,HBA.out⟩
   case round=>
    obtain⟨k,t',x',y',hkn,hg,rfl,hcr,hfr,hbr⟩:=hrel
    obtain⟨wq,hwq⟩:∃w6,w6=wr:=⟨_,rfl⟩
    subst hwq
    obtain⟨_,_,_,hF6,⟨c81,m81,n81,rfl,_⟩,⟨c82,m82,n82,rfl,_⟩⟩:=hfr.isF
    injection hF6 with hF6
    injection hF6 with hF6
    simp only[List.cons.injEq,and_true,Value.bool.injEq]at hF6
    obtain⟨rfl,rfl,rfl⟩:=hF6
    have HG:=zH hg
    have HCR:=zH hcr
    have HFR:=zH hfr
    have HBR:=zH hbr
    clear HCT HVT HBA hg hcr hfr e0 e1 e2
    by_cases hkl:k<ln
    ·have hk2:k<c.start.length:=by rw[HSL.out];exact hkl
     have hkL:k<c.lost.length:=by rw[HLL.out];exact hkl
     obtain⟨ea,eb,g1,g2,g3,g4,g5⟩:=(HST8.out.below hbr).at' k hk2
     have HQE:Hid ((qs c.start).getD k 0=(c.start[k]'hk2).q):=zH (by
      unfold qs
      rw[List.getD_eq_getElem?_getD,List.getElem?_map,List.getElem?_eq_getElem hk2];rfl)
     have HXO:Hid ((c.start[k]'hk2).ok):=zH (HV.out.2.2.2.2.1.ok _ (List.getElem_mem hk2))
     obtain⟨y,hye⟩:∃y,c.start[k]'hk2=y:=⟨_,rfl⟩
     rw[hye]at g1 g4 g5 HQE HXO
     obtain⟨ea1,ea2,ea3,rfl,_⟩:=g4.slen.1
     obtain⟨eb1,eb2,eb3,rfl,_⟩:=g5.slen.1
     have qL:=(HLO8.out.below hbr).at' k hkL
     have HLS:Hid (lst c (k+1)=lst c k+if c.lost.getD k false=true then(qs c.start).getD k 0 else 0):=zH rfl
     rw[zrn hkL]at HLS
     obtain⟨xL,hxL⟩:∃x,c.lost[k]'hkL=x:=⟨_,rfl⟩
     rw[hxL]at qL HLS
     have hba:=zca wq (.cells #[.bool y.neg, .slice ea1 ea2 ea3, .slice eb1 eb2 eb3] 38)
     have HYN:Hid (zdc (wq.alloc (.cells #[.bool y.neg, .slice ea1 ea2 ea3, .slice eb1 eb2 eb3] 38)) (.agg #[.bool y.neg, .slice ea1 ea2 ea3, .slice eb1 eb2 eb3]) y.neg y.n y.d):=zH (zdc.below ⟨_,_,rfl,g4,g5⟩ hba)
     have HC13:=zH (C3.new wq 38 (.bool y.neg) (.slice ea1 ea2 ea3) (.slice eb1 eb2 eb3))
     have HCR8:=zH (HCR.out.belowS hba)
     have HFR8:=zH (HFR.out.below hba)
     have HB8:=zH (zaa HBR.out hba)
     obtain⟨_,_,_,e2,_,_,_⟩:=HC8.out.belowS hbr
     have qL8:=zba hba qL
     have e28:=zba hba e2
     have i3:(0:Int)≤(k:Int):=by omega
     have i4:(k:Int)<(ln:Nat):=by omega
     clear g4 g5 hye hxL hbr qL e2 hba HCR HFR HBR
     cases xL with
     | false=>
       have HLS:Hid (lst c (k+1)=lst c k):=zH (by have h:=HLS.out;simp only[Bool.false_eq_true,if_false,Rat.add_zero]at h;exact h)
       go_wp2_with fail
       go_roundg (ln- (k+1))
       case measure=>(have:=HG.out;omega)
       case rel=>exact⟨k+1,_,_,_,by omega,rfl,by go_num,HCR8.out,by rw[HLS.out];exact HFR8.out,HB8.out⟩
     | true=>
       have HLS:Hid (S+lst c (k+1)=S+lst c k+y.q):=zH (by have h:=HLS.out;simp only[if_true]at h;rw[h,HQE.out,Rat.add_assoc])
       have HFF:Hid (fits (S+lst c k)∧fits (S+lst c k+y.q)):=zH ⟨HFS.out k hkn,by rw[←HLS.out];exact HFS.out (k+1) hkl⟩
       go_upto_region 23 with fail
       obtain⟨b13,hb13⟩:∃b,wq.heap.size=b:=⟨_,rfl⟩
       rw[hb13]at HC13 ⊢
       clear hb13
       generalize wq.alloc (.cells #[.bool y.neg, .slice ea1 ea2 ea3, .slice eb1 eb2 eb3] 38)=Wx at *
       obtain⟨_,d0,d1,d2,_,_,_⟩:=HCR8.out
       obtain⟨_,p0,p1,p2,_,_,_⟩:=HC13.out
       clear g1 g2 g3 qL8 e28
       go_wp2_with (first
        |(go_at_call 80;(with_reducible refine(add_cr _ _ _ y _ HFR8.out HYN.out HFF.out.1 HXO.out HFF.out.2).mono ?_);rw[←HLS.out];rintro e9 w9 ⟨v9,rfl,hv9,hb9⟩
          obtain⟨t9,x9,y9,rfl,⟨a91,l91,k91,rfl,_⟩,⟨a92,l92,k92,rfl,_⟩⟩:=hv9.isF
          have hCR9:=HCR8.out.belowS hb9
          have HCR9:=zH hCR9
          have HB9:=zH (zaa HB8.out hb9)
          have HV9:=zH hv9
          obtain⟨_,r0,r1,r2,q0,q1,q2⟩:=hCR9
          clear hv9 hb9))
       go_roundg (ln- (k+1))
       case measure=>(have:=HG.out;omega)
       case rel=>exact⟨k+1,_,_,_,by omega,rfl,by go_num,HCR9.out.set _ _ _,HV9.out.set3 HCR9.out (fun z=>by simp) (fun z=>by simp) _ _ _,zga HB9.out (by rw[HBS.out];exact Nat.le_refl _) _ _ _⟩
    ·obtain rfl:k=ln:=by omega
     obtain⟨_,d0,d1,d2,_,_,_⟩:=HCR.out
     have HR9:=zH (HR8.out.belowS hbr)
     obtain⟨_,r0,r1,r2,q0,q1,q2⟩:=HR9.out
     go_wp2_with fail
     refine zoa rfl rfl Tryz.aggF Tryz.sizeF (HR9.out.set _ _ _) rfl ?_
     refine⟨_,rfl,?_,zga (zaa HBW8.out hbr) (Nat.le_succ _) _ _ _⟩
     rw[←HXR.out]
     exact HFR.out.set3 HR9.out (fun z=>by simp) (fun z=>by simp) _ _ _
end Go.Proofs.YtlpdkbmmbdfoiaaGreat
namespace Go.Proofs.YtlpdkbmmbdfoiaaGreat
theorem zxq {c:RC} {l:List Nat} (h:zvq c l):LK c.rates.length (rq c) (ziq c) l where
 so:=h.sorted
 lt:=fun s hs=>((h.mem s).1 hs).1
 nl:=fun s hs e=>by have h1:=((h.mem s).1 hs).2.2.2;unfold ziq at e;rw[h1]at e;cases e
 ft:=fun s hs=>((h.mem s).1 hs).2.2.1
 cl:=fun s t hs ht hp=>by
  have h0:=(h.mem s).1 hs
  by_cases h1:ziq c t
  ·exact Or.inr (Or.inl h1)
  ·by_cases h2:Ftl c t
   ·exact Or.inl ((h.mem t).2 ⟨ht,Clo.step h0.2.1 ht hp,h2,by unfold ziq at h1;simpa using h1⟩)
   ·exact Or.inr (Or.inr h2)
theorem sysA_mm {c:RC} {l:List Nat} (hv:zzp c) (h:zvq c l) {i j:Nat} (hi:i<l.length):zis c l i j=mmA (fun i j=>rq c (l.getD i 0) (l.getD j 0)) (fun i=>sg c.rates.length (rq c (l.getD i 0))) i j:=by
 unfold zis mmA
 split
 ·exact out_sg hv ((zxq h).lt _ (zcq hi))
 ·grind
theorem alive_hit {c:RC} {l:List Nat} {H:Nat→Rat} (hv:zzp c) (h:zvq c l) (hH:HitF c.rates.length (rq c) (ziq c) H) {i:Nat} (hi:i<l.length):
 sg l.length (fun j=>zis c l i j*H (l.getD j 0))=lsr c (l.getD i 0) c.rates.length:=by
 have hk:=zxq h
 have hs:=zcq hi
 have h1:=hk.eq (zcv hv) (X:=H) (b:=fun _=>0) hi (by rw[Rat.zero_add];exact hH.eq _ (hk.lt _ hs) (hk.nl _ hs))
 rw[Rat.zero_add]at h1
 rw[zma fun j hj=>by rw[sysA_mm hv h hi],h1]
 unfold lsr
 refine zma fun t ht=> ?_
 by_cases hl:ziq c t
 ·have hm:t∉l:=fun e=>hk.nl t e hl
  rw[if_neg hm,if_pos (show c.lost.getD t false=true from hl),hH.one t ht hl,Rat.mul_one]
 ·rw[if_neg (show ¬c.lost.getD t false=true from hl)]
  by_cases hm:t∈l
  ·rw[if_pos hm]
  ·rw[if_neg hm]
   by_cases hp:0<rq c (l.getD i 0) t
   ·rcases hk.cl _ t hs ht hp with h2 | h2 | h2
    ·exact absurd h2 hm
    ·exact absurd h2 hl
    ·rw[hH.no t ht h2,Rat.mul_zero]
   ·have h2:=rq_nn hv (hk.lt _ hs) ht
    have h3:rq c (l.getD i 0) t=0:=by grind
    rw[h3,Rat.zero_mul]
theorem zpz {c:RC} (hv:zzp c) {t:Nat} (ht:t<c.rates.length):0≤(qs c.start).getD t 0:=by
 have h2:t<c.start.length:=by have:=hv.2.2.2.1;omega
 have h3:(qs c.start).getD t 0=(c.start[t]).q:=by
  unfold qs
  rw[List.getD_eq_getElem?_getD,List.getElem?_map,List.getElem?_eq_getElem h2];rfl
 rw[h3]
 exact Rat.not_lt.1 (hv.2.2.2.2.1.1 _ (List.getElem_mem h2)).2.1
theorem hit_sum {c:RC} {l:List Nat} {H:Nat→Rat} (hv:zzp c) (h:zvq c l) (hH:HitF c.rates.length (rq c) (ziq c) H):
 sg l.length (fun i=>(qs c.start).getD (l.getD i 0) 0*H (l.getD i 0))+lst c c.rates.length=sg c.rates.length fun t=>(qs c.start).getD t 0*H t:=by
 have hk:=zxq h
 rw[zwu (l:=l) hk.so hk.lt (f:=fun t=>(qs c.start).getD t 0*H t)]
 congr 1
 unfold lst
 refine(zma fun t ht=> ?_)
 by_cases hl:ziq c t
 ·rw[if_pos (show c.lost.getD t false=true from hl),if_neg (fun e=>hk.nl t e hl),hH.one t ht hl,Rat.mul_one]
 ·rw[if_neg (show ¬c.lost.getD t false=true from hl)]
  by_cases hm:t∈l
  ·rw[if_pos hm]
  ·rw[if_neg hm]
   by_cases hp:0<(qs c.start).getD t 0
   ·have h2:¬Ftl c t:=fun hf=>hm ((h.mem t).2 ⟨ht,Clo.base ht hp,hf,by unfold ziq at hl;simpa using hl⟩)
    rw[hH.no t ht h2,Rat.mul_zero]
   ·have h2:=zpz hv ht
    have h3:(qs c.start).getD t 0=0:=by grind
    rw[h3,Rat.zero_mul]
theorem rch_more {c:RC} {s t:Nat} (h:Rch c s) (ht:RC1 c.rates.length (rq c) (fun j=>j=s) t):Rch c t:=by
 induction ht with
 | base hi hS=>subst hS;exact h
 | step hc hj hL ih=>exact Clo.step ih hj hL
theorem rch_sure {c:RC} (hall:∀j,j<c.rates.length→Rch c j→Ftl c j) {s:Nat} (h:Rch c s):Sure c.rates.length (rq c) (ziq c) s:=fun t ht=>hall t (Clo.lt ht) (rch_more h ht)
theorem zjw {c:RC} {l:List Nat} {T:Nat→Rat} (hv:zzp c) (h:zvq c l) (hall:∀j,j<c.rates.length→Rch c j→Ftl c j) (hT:TimeF c.rates.length (rq c) (ziq c) (Sure c.rates.length (rq c) (ziq c)) T) {i:Nat} (hi:i<l.length):
 sg l.length (fun j=>zis c l i j*T (l.getD j 0))=1:=by
 have hk:=zxq h
 have hs:=zcq hi
 have hr:=((h.mem _).1 hs).2.1
 have h1:=hk.eq (zcv hv) (X:=T) (b:=fun _=>1) hi (hT.eq _ (hk.lt _ hs) (hk.nl _ hs) (rch_sure hall hr))
 rw[zma fun j hj=>by rw[sysA_mm hv h hi],h1,sg_zero' fun t ht=> ?_,Rat.add_zero]
 by_cases hm:t∈l
 ·rw[if_pos hm]
 ·rw[if_neg hm]
  by_cases hl:ziq c t
  ·rw[hT.zero t ht hl,Rat.mul_zero]
  ·by_cases hp:0<rq c (l.getD i 0) t
   ·exact absurd ((h.mem t).2 ⟨ht,Clo.step hr ht hp,hall t ht (Clo.step hr ht hp),by unfold ziq at hl;simpa using hl⟩) hm
   ·have h2:=rq_nn hv (hk.lt _ hs) ht
    have h3:rq c (l.getD i 0) t=0:=by grind
    rw[h3,Rat.zero_mul]
theorem time_sum {c:RC} {l:List Nat} {T:Nat→Rat} (hv:zzp c) (h:zvq c l) (hall:∀j,j<c.rates.length→Rch c j→Ftl c j) (hT:TimeF c.rates.length (rq c) (ziq c) (Sure c.rates.length (rq c) (ziq c)) T):
 sg l.length (fun i=>(qs c.start).getD (l.getD i 0) 0*T (l.getD i 0))=sg c.rates.length fun t=>(qs c.start).getD t 0*T t:=by
 have hk:=zxq h
 rw[zwu (l:=l) hk.so hk.lt (f:=fun t=>(qs c.start).getD t 0*T t)]
 have hz:(sg c.rates.length fun t=>if t∈l then 0 else(qs c.start).getD t 0*T t)=0:= ?_
 ·rw[hz,Rat.add_zero]
 refine sg_zero' fun t ht=> ?_
 by_cases hm:t∈l
 ·rw[if_pos hm]
 ·rw[if_neg hm]
  by_cases hl:ziq c t
  ·rw[hT.zero t ht hl,Rat.mul_zero]
  ·by_cases hp:0<(qs c.start).getD t 0
   ·exact absurd ((h.mem t).2 ⟨ht,Clo.base ht hp,hall t ht (Clo.base ht hp),by unfold ziq at hl;simpa using hl⟩) hm
   ·have h2:=zpz hv ht
    have h3:(qs c.start).getD t 0=0:=by grind
    rw[h3,Rat.zero_mul]
end Go.Proofs.YtlpdkbmmbdfoiaaGreat
namespace Go.Proofs.YtlpdkbmmbdfoiaaGreat
set_option maxHeartbeats 1600000
open Go.RowKit
def RCount (w0:World) (l:List Int) (e:Ending) (w:World):Prop:=
 ∃n b,e= .returned (.tuple #[.int .i64 (n:Nat), .bool b])∧w0=w∧(okB l→n=cnt l∧b=decide (0<l.length))∧(¬okB l→b=false∧n=0)
theorem zbx (va:Value) (l:List Int) (w:World) (ha:zgv w va l):
 Calls Tryz.prog 65 #[va] w (RCount w l):=by
 have sa:=zhc.sl ha
 have la:=ha.len
 have hle:=sa.le
 rw[la]at hle
 have hlb:l.length≤9223372036854775807:=by omega
 clear hle
 go_enter Tryz.func65,Tryz.ntmps65
 go_wp2_with fail
 go_loop [4,9] (fun u4 u9=>∃ (k:Nat),k≤l.length∧u9= .int .i64 k∧u4= .int .i64 (cnt (l.take k):Nat)∧(∀j b,j<k→l[j]? =some b→0≤b∧b≤(cnt (l.take j):Int))) (fun _ u9=>l.length- (intOf u9).toNat)
 case atStart=>exact⟨0,Nat.zero_le _,rfl,rfl,fun j b h=>by omega⟩
 case round=>
  obtain⟨k,hk,rfl,rfl,hst⟩:=hrel
  have HST:=zH hst
  clear hst
  have hck:=cnt_le l k
  by_cases hkl:k<l.length
  ·have hc:=ha.at' k hkl
   have HG:Hid (l[k]? =some (l[k]'hkl)):=zH (List.getElem?_eq_getElem hkl)
   have HCT:=zH (zww l k hkl)
   generalize l[k]'hkl=b at *
   generalize hcn:cnt (l.take k)=n at *
   have HCN:=zH hcn
   clear hcn
   by_cases hbad:b<0∨(n:Int)<b
   ·have HB:Hid (¬okB l):=zH (fun h=>by have h6:=h k b HG.out;rw[HCN.out]at h6;omega)
    rcases hbad with h | h
    ·go_wp2_with fail
     go_ret2
     exact⟨0,false,rfl,rfl,fun h=>absurd h HB.out,fun _=>⟨rfl,rfl⟩⟩
    ·by_cases h0:b<0
     ·omega
     ·go_wp2_with fail
      go_ret2
      exact⟨0,false,rfl,rfl,fun h=>absurd h HB.out,fun _=>⟨rfl,rfl⟩⟩
   ·have h1:¬b<0:=fun h=>hbad (Or.inl h)
    have h2:¬ (n:Int)<b:=fun h=>hbad (Or.inr h)
    have HST2:Hid (∀j b',j<k+1→l[j]? =some b'→0≤b'∧b'≤(cnt (l.take j):Int)):=zH (fun j b' hj hb'=>by
     rcases Nat.lt_or_ge j k with h6 | h6
     ·exact HST.out j b' h6 hb'
     ·obtain rfl:j=k:=by omega
      rw[HG.out]at hb'
      injection hb' with hb'
      subst hb'
      rw[HCN.out];omega)
    clear hbad
    by_cases hbn:b=(n:Int)
    ·have hbb:(b==(n:Int))=true:=by simp[hbn]
     have HE:=zH hbn
     clear hbn
     go_wp2_with fail
     go_round
     case rel=>exact⟨k+1,hkl,by go_num,by rw[HCT.out,if_pos HE.out];go_num,HST2.out⟩
     case measure=>simp[intOf];omega
    ·have hbb:(b==(n:Int))=false:=by simpa using hbn
     have HE:=zH hbn
     clear hbn
     go_wp2_with fail
     go_round
     case rel=>exact⟨k+1,hkl,by go_num,by rw[HCT.out,if_neg HE.out],HST2.out⟩
     case measure=>simp[intOf];omega
  ·obtain rfl:k=l.length:=by omega
   have HOK:Hid (okB l):=zH (fun k b h=>HST.out k b (List.getElem?_eq_some_iff.1 h).1 h)
   rw[List.take_length]at *
   go_wp2_with fail
   go_ret2
   refine⟨cnt l,decide (0<l.length),?_,rfl,fun _=>⟨rfl,rfl⟩,fun h=>absurd HOK.out h⟩
   congr 3
set_option maxRecDepth 100000 in
theorem alike_any (va vb:Value) (p q:List Rat) (own:Int) (w:World) (ha:zbb w va p) (hb:zbb w vb q) (hl:p.length=q.length) (hp:∀x∈p,fits x) (hq:∀x∈q,fits x):
 Calls Tryz.prog 141 #[va,vb, .int .i64 own] w fun e w'=>(∃b,e= .returned (.bool b)∧(b=true↔∀ (i:Nat) (x y:Rat),(i:Int)≠own→p[i]? =some x→q[i]? =some y→x=y))∧Below w.heap.size w w':=by
 have sa:=ha.sl
 have la:=ha.len
 have sb:=hb.sl
 have lb:=hb.len
 have hle:=sa.le
 rw[la]at hle
 rw[←hl]at lb
 have hlb:p.length≤9223372036854775807:=by omega
 have HP:=zH hp
 have HQ:=zH hq
 have HL:=zH hl
 clear hle hp hq hl
 go_enter Tryz.func141,Tryz.ntmps141
 go_wp2_with fail
 go_loopw [12] (fun u12 wr=>∃ (k:Nat),k≤p.length∧u12= .int .i64 k∧(∀ (i:Nat) (x y:Rat),i<k→(i:Int)≠own→p[i]? =some x→q[i]? =some y→x=y)∧Below w.heap.size w wr) (fun u12 _=>p.length- (intOf u12).toNat)
 case atStart=>exact⟨0,Nat.zero_le _,rfl,fun i x y h=>by omega,Below.refl _ _⟩
 case round=>
  obtain⟨k,hk,rfl,hst,hbr⟩:=hrel
  have HST:=zH hst
  clear hst
  by_cases hkl:k<p.length
  ·have hkq:k<q.length:=by rw[←HL.out];exact hkl
   have hdr:=zja (B:=wr.heap.size) wr
   have hbd:=zaa hbr hdr
   obtain⟨a1,a2,c1,c2,c3,n1,n2⟩:=(ha.below hbd).at' k hkl
   obtain⟨b1,b2,d1,d2,d3,m1,m2⟩:=(hb.below hbd).at' k hkq
   have HX:Hid (p[k]? =some (p[k]'hkl)):=zH (List.getElem?_eq_getElem hkl)
   have HY:Hid (q[k]? =some (q[k]'hkq)):=zH (List.getElem?_eq_getElem hkq)
   have F1:=zH (HP.out _ (List.getElem_mem hkl))
   have F2:=zH (HQ.out _ (List.getElem_mem hkq))
   generalize p[k]'hkl=x at *
   generalize q[k]'hkq=y at *
   have hX:zqa wr.drew (.agg #[.bool (decide (x<0)),a1,a2]) x:=⟨_,_,rfl,n1,n2⟩
   have hY:zqa wr.drew (.agg #[.bool (decide (y<0)),b1,b2]) y:=⟨_,_,rfl,m1,m2⟩
   clear n1 n2 m1 m2 hkq
   have i1:(0:Int)≤(k:Int):=by omega
   have i2:((k:Int))<(p.length:Nat):=by omega
   go_wp2_with fail
   go_region_held3 (fun w'=>w'.cell? (ptr va (k*3))=some (.bool (decide (x<0)))∧w'.cell? (ptr va (k*3+1))=some a1∧w'.cell? (ptr va (k*3+2))=some a2∧w'.cell? (ptr vb (k*3))=some (.bool (decide (y<0)))∧w'.cell? (ptr vb (k*3+1))=some b1∧w'.cell? (ptr vb (k*3+2))=some b2) (exact⟨c1,c2,c3,d1,d2,d3⟩) (first
    |(go_at_call 130;(with_reducible refine(zvz _ _ x y _ hX hY F1.out F2.out).mono ?_);rintro e9 w9 ⟨rfl,hb9⟩
      have c1:=zba hb9 c1
      have c2:=zba hb9 c2
      have c3:=zba hb9 c3
      have d1:=zba hb9 d1
      have d2:=zba hb9 d2
      have d3:=zba hb9 d3))
   have HC:=zH (zji x y)
   have hbr2:=zaa hbd hb9
   generalize zsr x y=c at *
   clear c1 c2 c3 d1 d2 d3 hX hY
   have HNX:Hid (((k:Int)=own∨x=y)→∀ (i:Nat) (x y:Rat),i<k+1→(i:Int)≠own→p[i]? =some x→q[i]? =some y→x=y):=zH (fun h i x' y' hi ho hx hy=>by
    rcases Nat.lt_or_ge i k with h6 | h6
    ·exact HST.out i x' y' h6 ho hx hy
    ·obtain rfl:i=k:=by omega
     rw[HX.out]at hx
     rw[HY.out]at hy
     injection hx with hx
     injection hy with hy
     subst hx hy
     exact h.resolve_left ho)
   by_cases ho:(k:Int)=own
   ·have hob:((k:Int) != own)=false:=by simp[ho]
    have HR:=zH (HNX.out (Or.inl ho))
    clear ho
    go_wp2
    go_roundw
    case rel=>exact⟨k+1,hkl,by go_num,HR.out,hbr2⟩
    case measure=>simp[intOf];omega
   ·have hob:((k:Int) != own)=true:=by simpa using ho
    by_cases hc:c=0
    ·have hcb:(c != 0)=false:=by simp[hc]
     have HR:=zH (HNX.out (Or.inr (HC.out.1 hc)))
     clear hc ho
     go_wp2
     go_roundw
     case rel=>exact⟨k+1,hkl,by go_num,HR.out,hbr2⟩
     case measure=>simp[intOf];omega
    ·have hcb:(c != 0)=true:=by simpa using hc
     have HN:Hid (¬ ∀ (i:Nat) (x y:Rat),(i:Int)≠own→p[i]? =some x→q[i]? =some y→x=y):=zH (fun h=>hc (HC.out.2 (h k x y ho HX.out HY.out)))
     clear hc ho
     go_wp2
     go_ret
     exact⟨⟨false,rfl,fun h=>(by cases h),fun h=>absurd h HN.out⟩,hbr2⟩
  ·obtain rfl:k=p.length:=by omega
   go_wp2_with fail
   go_ret
   exact⟨⟨true,rfl,fun _ i x y h1 h2 h3=>HST.out i x y (List.getElem?_eq_some_iff.1 h2).1 h1 h2 h3,fun _=>rfl⟩,hbr⟩
def ztw (bl:List Int) (row:List Rat) (n:Nat):List Rat:=(List.range n).map fun b:Nat=>bsum bl row b
theorem zsw (bl:List Int) (row:List Rat) (n:Nat):(ztw bl row n).length=n:=by simp[ztw]
theorem zuw (bl:List Int) (row:List Rat) (n j:Nat) (h:j<n):(ztw bl row n)[j]'(by rw[zsw];exact h)=bsum bl row j:=by simp[ztw]
def RSums (w0:World) (bl:List Int) (row:List Rat) (n:Nat) (e:Ending) (w:World):Prop:=
 ∃v,e= .returned v∧zqb w 38 w0.heap.size v n∧(∀j,j<n→zlg w v j (bsum bl row j))∧Below w0.heap.size w0 w
set_option maxRecDepth 100000 in
set_option maxHeartbeats 3200000 in
theorem zxx (va vb:Value) (row:List RF) (bl:List Int) (n:Nat) (w:World) (ha:zni w va row) (hb:zgv w vb bl) (hlen:row.length=bl.length) (hok:okB bl) (hn:n=cnt bl) (hn2:n≤128) (hrow:zlr row row.length):
 Calls Tryz.prog 66 #[va,vb, .int .i64 n] w (RSums w bl (qs row) n):=by
 have sa:=ha.sl
 have la:=ha.len
 have sb:=zhc.sl hb
 have lb:=hb.len
 have hle:=sa.le
 rw[la]at hle
 rw[←hlen]at lb
 have hlb:row.length≤9223372036854775807:=by omega
 have HN:=zH hn
 have HLEN:=zH hlen
 have HOK:=zH hok
 have HROW:=zH hrow
 clear hle hok hlen hrow hn
 obtain⟨i0,hi,hz0,hz1,hz2⟩:=info_parts Tryz.infoF
 have hM:=zon (P:=Tryz.prog) 25 38 i0 Tryz.underlying25 hi hz0 hz1 (by rw[hz2];decide)
 clear hi hz0 hz1 hz2
 go_enter Tryz.func66,Tryz.ntmps66
 go_wp2_with (refine hM _ rfl _ _ rfl w.heap.size _ n rfl rfl rfl (by omega) (Nat.le_refl _) ?_;intro v w1 hown hb1 hvb;have sv:=hown.sl;have lv:=hown.len)
 clear hM
 go_loopw [15] (fun u15 wr=>∃ (k:Nat),k≤n∧u15= .int .i64 k∧zqb wr 38 w.heap.size v n∧(∀j,j<k→zlg wr v j 0)∧Below w.heap.size w wr) (fun u15 _=>n- (intOf u15).toNat)
 case atStart=>exact⟨0,Nat.zero_le _,rfl,hown,fun j h=>by omega,hb1⟩
 case round=>
  obtain⟨k,hk,rfl,ho,he,hbr⟩:=hrel
  clear hown hb1
  have HE:=zH he
  clear he
  by_cases hkn:k<n
  ·go_wp2_with (go_at_call 67;(with_reducible refine(zwy _).mono ?_);rintro e w2 ⟨r,rfl,hr,hb2⟩
                obtain⟨t9,x9,y9,rfl,⟨a1,l91,k1,rfl,_⟩,⟨a2,l92,k2,rfl,_⟩⟩:=hr.isF
                have ho2:=ho.below hb2
                obtain⟨c0,d0,_⟩:=ho2.cell (k*3) (by omega)
                obtain⟨c1,d1,_⟩:=ho2.cell (k*3+1) (by omega)
                obtain⟨c2,d2,_⟩:=ho2.cell (k*3+2) (by omega)
                have f0:=ho2.frozen (k*3)
                have f1:=ho2.frozen (k*3+1)
                have f2:=ho2.frozen (k*3+2)
                have n01:=ho2.inj (show k*3≠k*3+1 by omega)
                have n02:=ho2.inj (show k*3≠k*3+2 by omega)
                have n12:=ho2.inj (show k*3+1≠k*3+2 by omega)
                have hs3:=ho2.set3 k (.bool t9) (.slice a1 l91 k1) (.slice a2 l92 k2) (fun z=>by simp) (fun z=>by simp) (fun z=>by simp)
                have HS3:=zH hs3
                clear hs3)
   go_roundw
   case rel=>
    refine⟨k+1,hkn,by go_num,HS3.out.1,fun j hj=> ?_,(zaa hbr hb2).trans HS3.out.2⟩
    rcases Nat.lt_or_ge j k with h6 | h6
    ·exact zlg.set3_other ho2 hkn (by omega) ((HE.out j h6).below hb2) _ _ _ (fun z=>by simp) (fun z=>by simp)
    ·obtain rfl:j=k:=by omega
     exact zlg.set3 ho2 hkn hr
   case measure=>simp[intOf];omega
  ·obtain rfl:k=n:=by omega
   go_wp2_with fail
   have hbl0:=HLEN.out
   go_loopw [28] (fun u28 wr=>∃ (k':Nat),k'≤row.length∧u28= .int .i64 k'∧zqb wr 38 w.heap.size v k∧(∀j,j<k→zlg wr v j (bsum (bl.take k') ((qs row).take k') j))∧Below w.heap.size w wr) (fun u28 _=>row.length- (intOf u28).toNat)
   case atStart=>exact⟨0,Nat.zero_le _,rfl,ho,fun j hj=>by have:=HE.out j hj;simpa [bsum,zxz,zgg]using this,hbr⟩
   case round=>
    obtain⟨i,hil,rfl,ho,he,hbr⟩:=hrel
    have HE2:=zH he
    clear he hbl0
    by_cases hir:i<row.length
    ·obtain⟨xa,xb,c1,c2,c3,hxa,hxb⟩:=(ha.below hbr).at' i hir
     obtain⟨c1a,c1l,c1k,rfl,_⟩:=hxa.slen.1
     obtain⟨c2a,c2l,c2k,rfl,_⟩:=hxb.slen.1
     have hib:i<bl.length:=by rw[←HLEN.out];exact hir
     have hbc:=(hb.below hbr).at' i hib
     have hbg:bl[i]? =some (bl[i]'hib):=List.getElem?_eq_getElem hib
     have hblt:=HOK.out.lt hbg
     rw[←HN.out]at hblt
     have HBT:Hid (∀j:Int,bsum (bl.take (i+1)) ((qs row).take (i+1)) j=if bl[i]'hib=j then bsum (bl.take i) ((qs row).take i) j+(row[i]'hir).q else bsum (bl.take i) ((qs row).take i) j):=zH (fun j=>by
      rw[zjx bl (qs row) j i hib (by rw[zgq];exact hir),zqt row i hir])
     have HXO:Hid (okN (row[i]'hir).n (row[i]'hir).d):=zH (HROW.out.ok _ (List.getElem_mem hir))
     have hfit:∀ (m:Nat) (j:Int),fits (bsum (bl.take m) ((qs row).take m) j):=fun m j=>zdz m j (fun q hq=>by
      obtain⟨x,hx,rfl⟩:=List.mem_map.1 hq
      exact Rat.not_lt.1 (HROW.out.1 x hx).2.1) HROW.out.2.2
     have HFIT:=zH hfit
     clear hfit hbg
     generalize bl[i]'hib=bk at *
     generalize row[i]'hir=x at *
     obtain⟨b,rfl⟩:∃b:Nat,bk=(b:Int):=⟨bk.toNat,by omega⟩
     have hbn:b<k:=by omega
     have HA:=zH (And.intro hxa hxb)
     clear hxa hxb hib hblt
     have hbx:=zca wr (.cells #[.bool x.neg, .slice c1a c1l c1k, .slice c2a c2l c2k] 38)
     have hc3:=C3.new wr 38 (.bool x.neg) (.slice c1a c1l c1k) (.slice c2a c2l c2k)
     have i1:(0:Int)≤(i:Int):=by omega
     have i2:((i:Int))<(row.length:Nat):=by omega
     have i3:(0:Int)≤(b:Int):=by omega
     have i4:((b:Int))<(k:Nat):=by omega
     go_wp2_with fail
     generalize wr.alloc (.cells #[.bool x.neg, .slice c1a c1l c1k, .slice c2a c2l c2k] 38)=Wx at *
     have hbD:=zaa hbx (zja (B:=Wx.heap.size) Wx)
     have hcD:=hc3.belowS (zja (B:=Wx.heap.size) Wx)
     have hoD:=ho.below hbD
     have hbcD:=zba hbD hbc
     have hbrD:=zaa hbr hbD
     obtain⟨ea,eb,g1,g2,g3,g4,g5⟩:=(HE2.out b hbn).below hbD
     have hF1:zdc Wx.drew (.agg #[.bool (decide (bsum (bl.take i) ((qs row).take i) b<0)),ea,eb]) _ _ _:=⟨_,_,rfl,g4.nat,g5.nat⟩
     have hF2:zdc Wx.drew (.agg #[.bool x.neg, .slice c1a c1l c1k, .slice c2a c2l c2k]) x.neg x.n x.d:=⟨_,_,rfl,HA.out.1.below hbD,HA.out.2.below hbD⟩
     have HF1:=zH (zuc (HFIT.out i b))
     have HF3:=zH (HFIT.out (i+1) b)
     have HEQ:Hid (fq (decide (bsum (bl.take i) ((qs row).take i) b<0)) (bsum (bl.take i) ((qs row).take i) b).num.natAbs (bsum (bl.take i) ((qs row).take i) b).den+fq x.neg x.n x.d=bsum (bl.take (i+1)) ((qs row).take (i+1)) b):=zH (by rw[zvb,HBT.out,if_pos rfl];rfl)
     have HCD:=zH hcD
     obtain⟨_,q0,q1,q2,_,_,_⟩:=hcD
     clear hc3 hbx g4 g5
     go_region_law (refine zjc rfl 80 #[.agg #[.bool (decide (bsum (bl.take i) ((qs row).take i) b<0)),ea,eb], .agg #[.bool x.neg, .slice c1a c1l c1k, .slice c2a c2l c2k]] ?_ (zco _ _ _ _ _ _ _ _ _ hF1 hF2 HF1.out HXO.out) ?_;go_simp;rw[HEQ.out];rintro e9 w9 ⟨v9,er,rfl,hb9,hv7,_⟩;refine⟨_,rfl,?_⟩
                    obtain⟨rfl,hv8⟩:=hv7 HF3.out
                    obtain⟨t9,x9,y9,rfl,⟨a1,l91,k1,rfl,_⟩,⟨a2,l92,k2,rfl,_⟩⟩:=hv8.isF
                    have hbcD:=zba hb9 hbcD
                    have g1:=zba hb9 g1
                    have g2:=zba hb9 g2
                    have g3:=zba hb9 g3
                    have ho2:=hoD.below hb9
                    have f0:=ho2.frozen (b*3)
                    have f1:=ho2.frozen (b*3+1)
                    have f2:=ho2.frozen (b*3+2)
                    have n01:=ho2.inj (show b*3≠b*3+1 by omega)
                    have n02:=ho2.inj (show b*3≠b*3+2 by omega)
                    have n12:=ho2.inj (show b*3+1≠b*3+2 by omega))
     all_goals
      have HE3:=zH (fun j hj=>((HE2.out j hj).below hbD).below hb9)
      have hbr9:=zaa hbrD hb9
      clear hbcD g1 g2 g3 q0 q1 q2 f0 f1 f2 n01 n02 n12 hF1 hF2 hbD hoD hbc
      go_wp2
      go_roundw
      case rel=>
       have hs3:=ho2.set3 b (.bool t9) (.slice a1 l91 k1) (.slice a2 l92 k2) (fun z=>by simp) (fun z=>by simp) (fun z=>by simp)
       refine⟨i+1,hir,by go_num,hs3.1,fun j hj=> ?_,hbr9.trans hs3.2⟩
       by_cases hjb:b=j
       ·subst hjb
        exact zlg.set3 ho2 hbn hv8
       ·rw[HBT.out,if_neg (by omega)]
        exact zlg.set3_other ho2 hbn hjb (HE3.out j hj) _ _ _ (fun z=>by simp) (fun z=>by simp)
      case measure=>simp[intOf];omega
    ·obtain rfl:i=row.length:=by omega
     have HFIN:Hid (∀j,j<k→zlg wr v j (bsum bl (qs row) j)):=zH (fun j hj=>by
      have h6:=HE2.out j hj
      rwa[List.take_of_length_le (by rw[HLEN.out];exact Nat.le_refl _),List.take_of_length_le (by rw[zgq];exact Nat.le_refl _)]at h6)
     go_wp2_with fail
     go_ret
     exact⟨v,rfl,ho,HFIN.out,hbr⟩
def badS (row:List RF) (bl:List Int):Prop:=¬ (okB bl∧0<bl.length∧bl.length=row.length∧∀x∈row,x.ok)
def fitS (row:List RF) (bl:List Int):Prop:=∀ (k:Nat) (h:k<bl.length),fits (bsum (bl.take (k+1)) ((qs row).take (k+1)) bl[k])
end Go.Proofs.YtlpdkbmmbdfoiaaGreat
namespace Go.Proofs.YtlpdkbmmbdfoiaaGreat
def zyw (own:Int) (p q:List Rat):Prop:=∀ (i:Nat) (x y:Rat),(i:Int)≠own→p[i]? =some x→q[i]? =some y→x=y
theorem zyw.refl (own:Int) (p:List Rat):zyw own p p:=fun i x y _ h1 h2=>by rw[h1]at h2;injection h2
theorem zyw.symm {own:Int} {p q:List Rat} (h:zyw own p q):zyw own q p:=fun i x y h0 h1 h2=>(h i y x h0 h2 h1).symm
theorem zyw.trans {own:Int} {p q r:List Rat} (h:zyw own p q) (k:zyw own q r) (hl:p.length=q.length):zyw own p r:=fun i x z h0 h1 h2=>by
 have hi:i<q.length:=by rw[←hl];exact(List.getElem?_eq_some_iff.1 h1).1
 have h3:q[i]? =some (q[i]'hi):=List.getElem?_eq_getElem hi
 rw[h i x _ h0 h1 h3,k i _ z h0 h3 h2]
def agree (bl:List Int) (f:Nat→List Rat) (g:Nat→Bool) (i j:Nat):Prop:=∀b,bl[i]? =some b→bl[j]? =some b→g i=g j∧zyw b (f i) (f j)
structure zdy (bl:List Int) (f:Nat→List Rat) (g:Nat→Bool) (k:Nat) (rep:Nat→Nat):Prop where
 lt:∀b,b<cnt (bl.take k)→rep b<k∧bl[rep b]? =some (b:Int)
 agree:∀i (b:Nat),i<k→bl[i]? =some (b:Int)→g i=g (rep b)∧zyw b (f i) (f (rep b))
theorem zdy.zero (bl:List Int) (f:Nat→List Rat) (g:Nat→Bool):zdy bl f g 0 (fun _=>0):=⟨fun b h=>by simp[cnt]at h,fun i b h=>by omega⟩
theorem zdy.fresh {bl:List Int} {f:Nat→List Rat} {g:Nat→Bool} {k:Nat} {rep:Nat→Nat} (hok:okB bl) (h:zdy bl f g k rep) (hk:bl[k]? =some (cnt (bl.take k):Int)):
 zdy bl f g (k+1) (fun b=>if b=cnt (bl.take k)then k else rep b):=by
 obtain⟨hk1,hk2⟩:=List.getElem?_eq_some_iff.1 hk
 have hc:=zww bl k hk1
 rw[if_pos hk2]at hc
 refine⟨fun b hb=> ?_,fun i b hi hb=> ?_⟩
 ·rw[hc]at hb
  by_cases h1:b=cnt (bl.take k)
  ·simp only[h1,if_true]
   exact⟨by omega,hk⟩
  ·simp only[if_neg h1]
   obtain⟨h2,h3⟩:=h.lt b (by omega)
   exact⟨by omega,h3⟩
 ·rcases Nat.lt_or_ge i k with h1 | h1
  ·obtain⟨h2,h3⟩:=hok i b hb
   have h4:=zcx bl (show i+1≤k by omega)
   have h5:b≠cnt (bl.take k):=by
    obtain⟨h6,h7⟩:=List.getElem?_eq_some_iff.1 hb
    have h8:=zww bl i h6
    rw[h7]at h8
    intro h9
    split at h8<;>omega
   simp only[if_neg h5]
   exact h.agree i b h1 hb
  ·obtain rfl:i=k:=by omega
   rw[hk]at hb
   injection hb with hb
   have hb2:b=cnt (bl.take i):=by omega
   simp only[hb2,if_true]
   exact⟨trivial,zyw.refl _ _⟩
theorem zdy.old {bl:List Int} {f:Nat→List Rat} {g:Nat→Bool} {k b:Nat} {rep:Nat→Nat} (h:zdy bl f g k rep) (hk:bl[k]? =some (b:Int)) (hb:b<cnt (bl.take k))
 (h1:g k=g (rep b)) (h2:zyw b (f k) (f (rep b))):zdy bl f g (k+1) rep:=by
 obtain⟨hk1,hk2⟩:=List.getElem?_eq_some_iff.1 hk
 have hc:=zww bl k hk1
 rw[if_neg (by rw[hk2];omega)]at hc
 refine⟨fun c hcb=> ?_,fun i c hi hcb=> ?_⟩
 ·rw[hc]at hcb
  obtain⟨h3,h4⟩:=h.lt c hcb
  exact⟨by omega,h4⟩
 ·rcases Nat.lt_or_ge i k with h5 | h5
  ·exact h.agree i c h5 hcb
  ·obtain rfl:i=k:=by omega
   rw[hk]at hcb
   injection hcb with hcb
   obtain rfl:b=c:=by omega
   exact⟨h1,h2⟩
def znx (bl:List Int) (f:Nat→List Rat) (g:Nat→Bool):Prop:=∀i j b,bl[i]? =some b→bl[j]? =some b→g i=g j∧zyw b (f i) (f j)
theorem zdy.all {bl:List Int} {f:Nat→List Rat} {g:Nat→Bool} {rep:Nat→Nat} {n:Nat} (hok:okB bl) (h:zdy bl f g bl.length rep) (hf:∀i,i<bl.length→(f i).length=n):znx bl f g:=by
 intro i j b hi hj
 have hi1:=(List.getElem?_eq_some_iff.1 hi).1
 have hj1:=(List.getElem?_eq_some_iff.1 hj).1
 obtain⟨h0,h0'⟩:=hok.lt hi
 obtain⟨b',rfl⟩:∃b':Nat,b=(b':Int):=⟨b.toNat,by omega⟩
 obtain⟨h1,h2⟩:=h.agree i b' hi1 hi
 obtain⟨h3,h4⟩:=h.agree j b' hj1 hj
 have hr:=(h.lt b' (by rw[List.take_length];omega)).1
 exact⟨h1.trans h3.symm,h2.trans h4.symm (by rw[hf i hi1,hf _ hr])⟩
theorem zdy.not {bl:List Int} {f:Nat→List Rat} {g:Nat→Bool} {k b:Nat} {rep:Nat→Nat} (h:zdy bl f g k rep) (hk:bl[k]? =some (b:Int)) (hb:b<cnt (bl.take k))
 (hn:¬ (g k=g (rep b)∧zyw b (f k) (f (rep b)))):¬znx bl f g:=fun ha=>hn (ha k (rep b) b hk (h.lt b hb).2)
end Go.Proofs.YtlpdkbmmbdfoiaaGreat
namespace Go.Proofs.YtlpdkbmmbdfoiaaGreat
open Go.RowKit
theorem rat_parts {p q:Rat}:p=q↔decide (p<0)=decide (q<0)∧zla p.num.natAbs=zla q.num.natAbs∧zla p.den=zla q.den:=by
 constructor
 ·rintro rfl;exact⟨rfl,rfl,rfl⟩
 ·rintro⟨h1,h2,h3⟩
  have e2:=zhg h2
  have e3:=zhg h3
  rw[←zvb p,←zvb q,h1,e2,e3]
set_option maxRecDepth 100000 in
set_option maxHeartbeats 1600000 in
theorem znt (va vb:Value) (p q:Rat) (w:World) (ha:zqa w va p) (hb:zqa w vb q):
 Calls Tryz.prog 61 #[va,vb] w (zyz w (p=q)):=by
 obtain⟨a1,a2,rfl,n1,n2⟩:=ha
 obtain⟨b1,b2,rfl,m1,m2⟩:=hb
 have HP:=zH (@rat_parts p q)
 have n1:=n1.1
 have n2:=n2.1
 have m1:=m1.1
 have m2:=m2.1
 obtain⟨a1a,a1n,a1c,rfl,_⟩:=n1.sl
 obtain⟨a2a,a2n,a2c,rfl,_⟩:=n2.sl
 obtain⟨b1a,b1n,b1c,rfl,_⟩:=m1.sl
 obtain⟨b2a,b2n,b2c,rfl,_⟩:=m2.sl
 generalize decide (p<0)=s at *
 generalize decide (q<0)=t at *
 generalize zla p.num.natAbs=x at *
 generalize zla q.num.natAbs=y at *
 generalize zla p.den=z at *
 generalize zla q.den=u at *
 have hbx:=zca w (.cells #[.bool s, .slice a1a a1n a1c, .slice a2a a2n a2c] 38)
 have hbx:=(hbx.alloc hbx.size (.cells #[.bool t, .slice b1a b1n b1c, .slice b2a b2n b2c] 38))
 have n1:=n1.below hbx
 have n2:=n2.below hbx
 have m1:=m1.below hbx
 have m2:=m2.below hbx
 have hC:=(C3.new w 38 (.bool s) (.slice a1a a1n a1c) (.slice a2a a2n a2c)).allocS (.cells #[.bool t, .slice b1a b1n b1c, .slice b2a b2n b2c] 38)
 have hD:=C3.new (w.alloc (.cells #[.bool s, .slice a1a a1n a1c, .slice a2a a2n a2c] 38)) 38 (.bool t) (.slice b1a b1n b1c) (.slice b2a b2n b2c)
 rw[show(w.alloc (.cells #[.bool s, .slice a1a a1n a1c, .slice a2a a2n a2c] 38)).heap.size=w.heap.size+1 from by simp]at hD
 by_cases h1:s=t
 ·subst h1
  by_cases hxy:x=y
  ·by_cases hzu:z=u
   ·have tok:True:=trivial
    go_enter Tryz.func61,Tryz.ntmps61
    go_wp2_with (first
     |(go_at_call 140;have _t:=tok;(with_reducible refine(zrh _ _ x y _ n1 m1).mono ?_);rintro e1 w1 ⟨⟨r1,rfl,h1⟩,hbel1⟩;obtain rfl:r1=true:=h1.2 hxy;clear h1 tok _t
       have n3:=n2.below hbel1
       have m3:=m2.below hbel1
       obtain⟨_,c0,c1,c2,_,_,_⟩:=hC.belowS hbel1
       obtain⟨_,d0,d1,d2,_,_,_⟩:=hD.belowS hbel1)
     |(go_at_call 140;(with_reducible refine(zrh _ _ z u _ n3 m3).mono ?_);rintro e2 w2 ⟨⟨r2,rfl,h2⟩,hbel2⟩;obtain rfl:r2=true:=h2.2 hzu;clear h2))
    go_ret
    exact⟨⟨true,rfl,by simp;exact HP.out.2 ⟨by first | rfl | trivial,hxy,hzu⟩⟩,(hbx.trans (hbel1.mono hbx.size)).trans (hbel2.mono (hbx.trans (hbel1.mono hbx.size)).size)⟩
   ·have tok:True:=trivial
    go_enter Tryz.func61,Tryz.ntmps61
    go_wp2_with (first
     |(go_at_call 140;have _t:=tok;(with_reducible refine(zrh _ _ x y _ n1 m1).mono ?_);rintro e1 w1 ⟨⟨r1,rfl,h1⟩,hbel1⟩;obtain rfl:r1=true:=h1.2 hxy;clear h1 tok _t
       have n3:=n2.below hbel1
       have m3:=m2.below hbel1
       obtain⟨_,c0,c1,c2,_,_,_⟩:=hC.belowS hbel1
       obtain⟨_,d0,d1,d2,_,_,_⟩:=hD.belowS hbel1)
     |(go_at_call 140;(with_reducible refine(zrh _ _ z u _ n3 m3).mono ?_);rintro e2 w2 ⟨⟨r2,rfl,h2⟩,hbel2⟩;obtain rfl:r2=false:=Bool.eq_false_iff.2 (fun h=>hzu (h2.1 h));clear h2))
    go_ret
    exact⟨⟨false,rfl,by simp;exact fun h=>hzu (HP.out.1 h).2.2⟩,(hbx.trans (hbel1.mono hbx.size)).trans (hbel2.mono (hbx.trans (hbel1.mono hbx.size)).size)⟩
  ·go_enter Tryz.func61,Tryz.ntmps61
   go_wp2_with (go_at_call 140;(with_reducible refine(zrh _ _ x y _ n1 m1).mono ?_);rintro e1 w1 ⟨⟨r1,rfl,h1⟩,hbel1⟩;obtain rfl:r1=false:=Bool.eq_false_iff.2 (fun h=>hxy (h1.1 h));clear h1)
   go_ret
   exact⟨⟨false,rfl,by simp;exact fun h=>hxy (HP.out.1 h).2.1⟩,hbx.trans (hbel1.mono hbx.size)⟩
 ·have h2:(s==t)=false:=by simpa using h1
  go_enter Tryz.func61,Tryz.ntmps61
  go_wp2_with fail
  go_ret
  exact⟨⟨false,rfl,by simp;exact fun h=>h1 (HP.out.1 h).1⟩,hbx⟩
end Go.Proofs.YtlpdkbmmbdfoiaaGreat
