/- Lemmas. -/
import Derived.Test.YtlpdkbmmbdfoiaaGreatEOth
set_option linter.unusedVariables false
set_option linter.unusedSimpArgs false
namespace Go.Proofs.YtlpdkbmmbdfoiaaGreat
set_option maxRecDepth 100000
set_option maxHeartbeats 6400000
open Go.RowKit
def zyp (c:RC):Nat->Rat
 | 0=>0
 | k+1=>if zyp c k<zgg (zaq c k)then zgg (zaq c k)else zyp c k
theorem C3.far {w:World} {b b':Nat} {v0 v1 v2:Value} (h:C3 w b v0 v1 v2) (hb:b'≠b) (x y z:Value):C3 (((w.setCell ⟨b',0,none⟩ x).setCell ⟨b',1,none⟩ y).setCell ⟨b',2,none⟩ z) b v0 v1 v2:=
 ((h.other ⟨b',0,none⟩ x hb).other ⟨b',1,none⟩ y hb).other ⟨b',2,none⟩ z hb
theorem zrw (p q:Rat):0<zsr p q↔q<p:=by
 unfold zsr
 by_cases h1:p<q
 ·rw[if_pos h1]
  exact⟨fun h=>absurd h (by decide),fun h=>absurd h1 (Rat.not_lt.2 (Rat.le_of_lt h))⟩
 ·rw[if_neg h1]
  by_cases h2:q<p
  ·rw[if_pos h2];exact⟨fun _=>h2,fun _=>by decide⟩
  ·rw[if_neg h2];exact⟨fun h=>absurd h (by decide),fun h=>absurd h h2⟩
theorem cmpR_lt (p q:Rat):zsr p q<0↔p<q:=by
 unfold zsr
 by_cases h1:p<q
 ·rw[if_pos h1];exact⟨fun _=>h1,fun _=>by decide⟩
 ·rw[if_neg h1]
  by_cases h2:q<p
  ·rw[if_pos h2];exact⟨fun h=>absurd h (by decide),fun h=>absurd h h1⟩
  ·rw[if_neg h2];exact⟨fun h=>absurd h (by decide),fun h=>absurd h h1⟩
theorem zes {c:RC} (hv:zzp c) {k:Nat} (hk:k<c.rates.length):zlr c.rates[k] (c.rates[k]).length/\zaq c k=qs c.rates[k]:=by
 obtain⟨h2,h3,h4,h5⟩:=hv.row (i:=k) (by have:=hv.2.2.1;have:=hv.2.2.2.1;omega)
 exact⟨h4,h5⟩
theorem zwq {c:RC} (hv:zzp c):∀k,k<=c.rates.length->fits (zyp c k)
 | 0,_=>by unfold zyp;exact zkl
 | k+1,hk=>by
   unfold zyp
   split
   ·obtain⟨h4,h5⟩:=zes hv (show k<c.rates.length by omega)
    rw[h5]
    have h:=h4.fits (c.rates[k]).length
    rwa[List.take_length]at h
   ·exact zwq hv k (by omega)
theorem zvv (va:Value) (c:RC) (w:World) (ha:zdq w va c) (hv:zzp c):Calls Tryz.prog 114 #[va] w (RF1 w (zyp c c.rates.length)):=by
 obtain⟨rv,sv,lv,rfl,hr,hs,hl⟩:=id ha
 obtain⟨ra,rn,rk,rfl,_⟩:=id hr.sl
 obtain⟨sa,sn,sk,rfl,_⟩:=id hs.sl
 obtain⟨la,ln,lk,rfl,_⟩:=id (zhc.sl hl)
 have hrn:rn=c.rates.length:=hr.len
 subst hrn
 have hsn:sn=c.start.length:=hs.len
 have hlen:c.rates.length=c.start.length:=hv.2.2.2.1
 rw[<-hlen]at hsn
 subst hsn
 have HV:=zH hv
 have hn:c.rates.length<=128:=by have:=hv.2.1;omega
 have hbx:=zca w (.cells #[.slice ra c.rates.length rk, .slice sa c.rates.length sk, .slice la ln lk] 28)
 have hb2:=zca (w.alloc (.cells #[.slice ra c.rates.length rk, .slice sa c.rates.length sk, .slice la ln lk] 28)) (.cells #[.bool false, .slice none 0 0, .slice none 0 0] 38)
 have HC:=zH ((C3.new w 28 (.slice ra c.rates.length rk) (.slice sa c.rates.length sk) (.slice la ln lk)).belowS hb2)
 have HR:=zH (C3.newB (b:=w.heap.size+1) (w.alloc (.cells #[.slice ra c.rates.length rk, .slice sa c.rates.length sk, .slice la ln lk] 28)) 38 (.bool false) (.slice none 0 0) (.slice none 0 0) (by simp))
 have HBW:=zH (zaa hbx hb2)
 have HA0:=zH ha
 clear hr hs hl ha hv hbx hb2 hlen
 go_enter Tryz.func114,Tryz.ntmps114
 go_upto_region 1 with fail
 generalize (w.alloc (.cells #[.slice ra c.rates.length rk, .slice sa c.rates.length sk, .slice la ln lk] 28)).alloc (.cells #[.bool false, .slice none 0 0, .slice none 0 0] 38)=W2 at *
 obtain⟨n,hnl⟩:∃n,c.rates.length=n:=⟨_,rfl⟩
 have HNL:=zH hnl
 rw[hnl]at HC HA0 hn |-
 clear hnl
 go_wp2_with (go_at_call 109;(with_reducible refine(zdr _).mono ?_);rintro e3 w3 ⟨v3,rfl,hv3,hb3⟩
              obtain⟨t3,x3,y3,rfl,⟨a31,l31,k31,rfl,_⟩,⟨a32,l32,k32,rfl,_⟩⟩:=hv3.isF
              have hba:=zaa hb3 (zca w3 (.cells #[.bool t3, .slice a31 l31 k31, .slice a32 l32 k32] 38))
              have HV3:=zH (hv3.below (zca w3 (.cells #[.bool t3, .slice a31 l31 k31, .slice a32 l32 k32] 38)))
              have HB3:=zH (zaa HBW.out hba)
              have HR3:=zH (HR.out.belowS hba)
              have HC3:=zH (HC.out.belowS hba)
              have HM3:=zH (C3.new w3 38 (.bool t3) (.slice a31 l31 k31) (.slice a32 l32 k32))
              have HSZ:Hid (w.heap.size+1<w3.heap.size):=zH (by have:=HR.out.lt;have:=hb3.size;omega)
              obtain⟨_,c0,c1,c2,_,_,_⟩:=HC3.out
              clear hv3 hb3 hba HC HR HBW)
 obtain⟨b3,hb3⟩:∃b,w3.heap.size=b:=⟨_,rfl⟩
 rw[hb3]at HM3 HSZ
 rw[hb3]
 clear hb3 c0 c1 c2
 go_loopg [12] (n) (fun g u12 wr=>∃ (k:Nat) (t':Bool) (a1 a2:Option Addr) (l1 k1 l2 k2:Nat),k<=n/\g=n-k/\u12= .int .i64 k/\C3 wr b3 (.bool t') (.slice a1 l1 k1) (.slice a2 l2 k2)/\zqa wr (.agg #[.bool t', .slice a1 l1 k1, .slice a2 l2 k2]) (zyp c k)/\C3 wr w.heap.size (.slice ra n rk) (.slice sa n sk) (.slice la ln lk)/\C3 wr (w.heap.size+1) (.bool false) (.slice none 0 0) (.slice none 0 0)/\Below w.heap.size w wr)
 case atStart=>exact⟨0,_,_,_,_,_,_,_,zZL _,rfl,rfl,HM3.out,HV3.out,HC3.out,HR3.out,HB3.out⟩
 case round=>
  obtain⟨k,t',a1,a2,l1,k1,l2,k2,hk,hg,rfl,hM,hV,hC,hR,hbr⟩:=hrel
  obtain⟨w4,hw4⟩:∃w4,w4=wr:=⟨_,rfl⟩
  subst hw4
  have HG:=zH hg
  have HM:=zH hM
  have HV4:=zH hV
  have HC:=zH hC
  have HR:=zH hR
  have HA:=zH (HA0.out.below hbr)
  have HBR:=zH hbr
  clear hg hV hR hbr HM3 HV3 HC3 HR3 HB3
  by_cases hkn:k<n
  ·have hk2:k<c.rates.length:=by rw[HNL.out];exact hkn
   obtain⟨hr1,hr2⟩:=zes HV.out hk2
   have HROW:=zH hr1
   have HQ:Hid (qs (c.rates[k]'hk2)=zaq c k):=zH hr2.symm
   have HFX:Hid (fits (zgg (zaq c k))):=zH (by
    have h:=hr1.fits (c.rates[k]'hk2).length
    rw[List.take_length]at h
    rw[hr2];exact h)
   have HFM:=zH (zwq HV.out k (by omega))
   have HSTEP:Hid (zyp c (k+1)=if zyp c k<zgg (zaq c k)then zgg (zaq c k)else zyp c k):=zH rfl
   have HCMP:Hid (0<zsr (zgg (zaq c k)) (zyp c k)↔zyp c k<zgg (zaq c k)):=zH (zrw _ _)
   obtain⟨X,hX⟩:∃X,zgg (zaq c k)=X:=⟨_,rfl⟩
   obtain⟨M,hM2⟩:∃M,zyp c k=M:=⟨_,rfl⟩
   obtain⟨z,hz⟩:∃z,zsr X M=z:=⟨_,rfl⟩
   have HXE:=zH hX
   have HZ:=zH hz
   rw[hX]at HFX HSTEP HCMP
   rw[hM2]at HFM HSTEP HCMP HV4
   rw[hz]at HCMP
   obtain⟨_,c0,c1,c2,_,_,_⟩:=hC
   obtain⟨_,m0,m1,m2,_,_,_⟩:=hM
   clear hr1 hr2 hX hM2 hz
   have i1:(0:Int)<=(k:Int):=by omega
   have i2:(k:Int)<(n:Nat):=by omega
   by_cases hzp:0<z
   ·go_wp2_with (first
     |(go_at_call 162;(with_reducible refine(zav _ c k _ HA.out hk2 HROW.out).mono ?_);rw[HQ.out,HXE.out];rintro e5 w5 ⟨v5,rfl,hv5,hb5⟩
       obtain⟨t5,x5,y5,rfl,⟨a51,l51,k51,rfl,_⟩,⟨a52,l52,k52,rfl,_⟩⟩:=hv5.isF
       have hba:=zaa hb5 (zca w5 (.cells #[.bool t5, .slice a51 l51 k51, .slice a52 l52 k52] 38))
       have HX5:=zH (hv5.below (zca w5 (.cells #[.bool t5, .slice a51 l51 k51, .slice a52 l52 k52] 38)))
       have HN5:=zH (C3.new w5 38 (.bool t5) (.slice a51 l51 k51) (.slice a52 l52 k52))
       have HM5:=zH (HM.out.belowS hba)
       have HV5:=zH (HV4.out.below hba)
       have HC5:=zH (HC.out.belowS hba)
       have HR5:=zH (HR.out.belowS hba)
       have HB5:=zH (zfa HBR.out hba HBR.out.size)
       obtain⟨_,n0,n1,n2,_,_,_⟩:=HN5.out
       obtain⟨_,m0,m1,m2,_,_,_⟩:=HM5.out
       clear hv5 hb5 hba HM HV4 HC HR HA c0 c1 c2)
     |(go_at_call 130;(with_reducible refine(zvz _ _ X M _ HX5.out HV5.out HFX.out HFM.out).mono ?_);rw[HZ.out];rintro e6 w6 ⟨rfl,hb6⟩
       have HX6:=zH (HX5.out.below hb6)
       have HN6:=zH (HN5.out.belowS hb6)
       have HM6:=zH (HM5.out.belowS hb6)
       have HV6:=zH (HV5.out.below hb6)
       have HC6:=zH (HC5.out.belowS hb6)
       have HR6:=zH (HR5.out.belowS hb6)
       have HB6:=zH (zfa HB5.out hb6 HB5.out.size)
       clear HX5 HN5 HM5 HV5 HC5 HR5 HB5 hb6 n0 n1 n2 m0 m1 m2
       obtain⟨_,n0,n1,n2,_,_,_⟩:=HN6.out
       obtain⟨_,m0,m1,m2,f0,f1,f2⟩:=HM6.out))
    go_roundg (n- (k+1))
    case measure=>(have:=HG.out;omega)
    case rel=>
     refine⟨k+1,t5,a51,a52,l51,k51,l52,k52,by omega,rfl,by go_num,HM6.out.set _ _ _,?_,HC6.out.far (by have:=HSZ.out;omega) _ _ _,HR6.out.far (by have:=HSZ.out;omega) _ _ _,zga HB6.out (by have:=HSZ.out;omega) _ _ _⟩
     rw[HSTEP.out,if_pos (HCMP.out.1 hzp)]
     exact HX6.out.set3 HM6.out (fun z=>by simp) (fun z=>by simp) _ _ _
   ·go_wp2_with (first
     |(go_at_call 162;(with_reducible refine(zav _ c k _ HA.out hk2 HROW.out).mono ?_);rw[HQ.out,HXE.out];rintro e5 w5 ⟨v5,rfl,hv5,hb5⟩
       obtain⟨t5,x5,y5,rfl,⟨a51,l51,k51,rfl,_⟩,⟨a52,l52,k52,rfl,_⟩⟩:=hv5.isF
       have hba:=zaa hb5 (zca w5 (.cells #[.bool t5, .slice a51 l51 k51, .slice a52 l52 k52] 38))
       have HX5:=zH (hv5.below (zca w5 (.cells #[.bool t5, .slice a51 l51 k51, .slice a52 l52 k52] 38)))
       have HN5:=zH (C3.new w5 38 (.bool t5) (.slice a51 l51 k51) (.slice a52 l52 k52))
       have HM5:=zH (HM.out.belowS hba)
       have HV5:=zH (HV4.out.below hba)
       have HC5:=zH (HC.out.belowS hba)
       have HR5:=zH (HR.out.belowS hba)
       have HB5:=zH (zfa HBR.out hba HBR.out.size)
       obtain⟨_,n0,n1,n2,_,_,_⟩:=HN5.out
       obtain⟨_,m0,m1,m2,_,_,_⟩:=HM5.out
       clear hv5 hb5 hba HM HV4 HC HR HA c0 c1 c2)
     |(go_at_call 130;(with_reducible refine(zvz _ _ X M _ HX5.out HV5.out HFX.out HFM.out).mono ?_);rw[HZ.out];rintro e6 w6 ⟨rfl,hb6⟩
       have HX6:=zH (HX5.out.below hb6)
       have HN6:=zH (HN5.out.belowS hb6)
       have HM6:=zH (HM5.out.belowS hb6)
       have HV6:=zH (HV5.out.below hb6)
       have HC6:=zH (HC5.out.belowS hb6)
       have HR6:=zH (HR5.out.belowS hb6)
       have HB6:=zH (zfa HB5.out hb6 HB5.out.size)
       clear HX5 HN5 HM5 HV5 HC5 HR5 HB5 hb6 n0 n1 n2 m0 m1 m2
       obtain⟨_,n0,n1,n2,_,_,_⟩:=HN6.out
       obtain⟨_,m0,m1,m2,f0,f1,f2⟩:=HM6.out))
    go_roundg (n- (k+1))
    case measure=>(have:=HG.out;omega)
    case rel=>
     refine⟨k+1,t',a1,a2,l1,k1,l2,k2,by omega,rfl,by go_num,HM6.out,?_,HC6.out,HR6.out,HB6.out⟩
     rw[HSTEP.out,if_neg (fun h=>absurd (HCMP.out.2 h) (by omega))]
     exact HV6.out
  ·obtain rfl:k=n:=by omega
   obtain⟨_,m0,m1,m2,_,_,_⟩:=hM
   obtain⟨_,f0,f1,f2,f3,f4,f5⟩:=HR.out
   clear hC
   go_wp2_with fail
   refine zab rfl rfl Tryz.aggF Tryz.sizeF (HR.out.set _ _ _) rfl ?_
   refine⟨_,rfl,?_,zga HBR.out (by omega) _ _ _⟩
   rw[HNL.out]
   exact HV4.out.set3 HR.out (fun z=>by simp) (fun z=>by simp) _ _ _
theorem zqq (va:Value) (c:RC) (w:World) (ha:zdq w va c) (hv:zzp c):Calls Tryz.prog 17 #[va] w (RF0 w (zyp c c.rates.length)):=by
 obtain⟨rv,sv,lv,rfl,hr,hs,hl⟩:=id ha
 obtain⟨ra,rn,rk,rfl,_⟩:=id hr.sl
 obtain⟨sa,sn,sk,rfl,_⟩:=id hs.sl
 obtain⟨la,ln,lk,rfl,_⟩:=id (zhc.sl hl)
 have hrn:rn=c.rates.length:=hr.len
 subst hrn
 have hsn:sn=c.start.length:=hs.len
 have hlen:c.rates.length=c.start.length:=hv.2.2.2.1
 rw[<-hlen]at hsn
 subst hsn
 have HV:=zH hv
 have hn:c.rates.length<=128:=by have:=hv.2.1;omega
 have hbx:=zca w (.cells #[.slice ra c.rates.length rk, .slice sa c.rates.length sk, .slice la ln lk] 28)
 have hb2:=zca (w.alloc (.cells #[.slice ra c.rates.length rk, .slice sa c.rates.length sk, .slice la ln lk] 28)) (.cells #[.bool false, .slice none 0 0, .slice none 0 0] 38)
 have HC:=zH ((C3.new w 28 (.slice ra c.rates.length rk) (.slice sa c.rates.length sk) (.slice la ln lk)).belowS hb2)
 have HR:=zH (C3.newB (b:=w.heap.size+1) (w.alloc (.cells #[.slice ra c.rates.length rk, .slice sa c.rates.length sk, .slice la ln lk] 28)) 38 (.bool false) (.slice none 0 0) (.slice none 0 0) (by simp))
 have HBW:=zH (zaa hbx hb2)
 have HA0:=zH ha
 clear hr hs hl ha hv hbx hb2 hlen
 go_enter Tryz.func17,Tryz.ntmps17
 go_upto_region 1 with fail
 generalize (w.alloc (.cells #[.slice ra c.rates.length rk, .slice sa c.rates.length sk, .slice la ln lk] 28)).alloc (.cells #[.bool false, .slice none 0 0, .slice none 0 0] 38)=W2 at *
 obtain⟨n,hnl⟩:∃n,c.rates.length=n:=⟨_,rfl⟩
 have HNL:=zH hnl
 rw[hnl]at HC HA0 hn |-
 clear hnl
 have HAW:=zH (HA0.out.below HBW.out)
 obtain⟨_,c0,c1,c2,_,_,_⟩:=HC.out
 go_wp2_with (first
              |(go_at_call 69;(with_reducible refine(zjq _ c _ HAW.out).mono ?_);rintro e1 w1 ⟨⟨bv,rfl,hbv⟩,hbv1⟩;obtain rfl:bv=true:=hbv.2 HV.out;clear hbv
                have HBV:=zH hbv1
                clear hbv1)
              |(go_at_call 20;(with_reducible refine(zwi _).mono ?_);rintro e3 w3 ⟨v3,rfl,hv3,hb3⟩
                obtain⟨t3,x3,y3,rfl,⟨a31,l31,k31,rfl,_⟩,⟨a32,l32,k32,rfl,_⟩⟩:=hv3.isF
                have hba:=zaa (zaa HBV.out hb3) (zca w3 (.cells #[.bool t3, .slice a31 l31 k31, .slice a32 l32 k32] 38))
                have HV3:=zH (hv3.below (zca w3 (.cells #[.bool t3, .slice a31 l31 k31, .slice a32 l32 k32] 38)))
                have HB3:=zH (zaa HBW.out hba)
                have HR3:=zH (HR.out.belowS hba)
                have HC3:=zH (HC.out.belowS hba)
                have HM3:=zH (C3.new w3 38 (.bool t3) (.slice a31 l31 k31) (.slice a32 l32 k32))
                have HSZ:Hid (w.heap.size+1<w3.heap.size):=zH (by have:=HR.out.lt;have:=hb3.size;have:=HBV.out.size;omega)
                clear hv3 hb3 hba HC HR HBW c0 c1 c2))
 obtain⟨b3,hb3⟩:∃b,w3.heap.size=b:=⟨_,rfl⟩
 rw[hb3]at HM3 HSZ
 rw[hb3]
 clear hb3
 go_loopg [5] (n) (fun g u5 wr=>∃ (k:Nat) (t':Bool) (a1 a2:Option Addr) (l1 k1 l2 k2:Nat),k<=n/\g=n-k/\u5= .int .i64 k/\C3 wr b3 (.bool t') (.slice a1 l1 k1) (.slice a2 l2 k2)/\zqa wr (.agg #[.bool t', .slice a1 l1 k1, .slice a2 l2 k2]) (zyp c k)/\C3 wr w.heap.size (.slice ra n rk) (.slice sa n sk) (.slice la ln lk)/\C3 wr (w.heap.size+1) (.bool false) (.slice none 0 0) (.slice none 0 0)/\Below w.heap.size w wr)
 case atStart=>exact⟨0,_,_,_,_,_,_,_,zZL _,rfl,rfl,HM3.out,HV3.out,HC3.out,HR3.out,HB3.out⟩
 case round=>
  obtain⟨k,t',a1,a2,l1,k1,l2,k2,hk,hg,rfl,hM,hV,hC,hR,hbr⟩:=hrel
  obtain⟨w4,hw4⟩:∃w4,w4=wr:=⟨_,rfl⟩
  subst hw4
  have HG:=zH hg
  have HM:=zH hM
  have HV4:=zH hV
  have HC:=zH hC
  have HR:=zH hR
  have HA:=zH (HA0.out.below hbr)
  have HBR:=zH hbr
  clear hg hV hR hbr HM3 HV3 HC3 HR3 HB3
  by_cases hkn:k<n
  ·have hk2:k<c.rates.length:=by rw[HNL.out];exact hkn
   obtain⟨hr1,hr2⟩:=zes HV.out hk2
   have HROW:=zH hr1
   have HQ:Hid (qs (c.rates[k]'hk2)=zaq c k):=zH hr2.symm
   have HFX:Hid (fits (zgg (zaq c k))):=zH (by
    have h:=hr1.fits (c.rates[k]'hk2).length
    rw[List.take_length]at h
    rw[hr2];exact h)
   have HFM:=zH (zwq HV.out k (by omega))
   have HSTEP:Hid (zyp c (k+1)=if zyp c k<zgg (zaq c k)then zgg (zaq c k)else zyp c k):=zH rfl
   have HCMP:Hid (zsr (zyp c k) (zgg (zaq c k))<0↔zyp c k<zgg (zaq c k)):=zH (cmpR_lt _ _)
   obtain⟨X,hX⟩:∃X,zgg (zaq c k)=X:=⟨_,rfl⟩
   obtain⟨M,hM2⟩:∃M,zyp c k=M:=⟨_,rfl⟩
   obtain⟨z,hz⟩:∃z,zsr M X=z:=⟨_,rfl⟩
   have HXE:=zH hX
   have HZ:=zH hz
   rw[hX]at HFX HSTEP HCMP
   rw[hM2]at HFM HSTEP HCMP HV4
   rw[hz]at HCMP
   obtain⟨_,c0,c1,c2,_,_,_⟩:=hC
   obtain⟨_,m0,m1,m2,_,_,_⟩:=hM
   clear hr1 hr2 hX hM2 hz
   have i1:(0:Int)<=(k:Int):=by omega
   have i2:(k:Int)<(n:Nat):=by omega
   by_cases hzp:z<0
   ·go_wp2_with (first
     |(go_at_call 70;(with_reducible refine(zps _ c k _ HA.out hk2 HROW.out).mono ?_);rw[HQ.out,HXE.out];rintro e5 w5 ⟨v5,rfl,hv5,hb5⟩
       obtain⟨t5,x5,y5,rfl,⟨a51,l51,k51,rfl,_⟩,⟨a52,l52,k52,rfl,_⟩⟩:=hv5.isF
       have hba:=zaa hb5 (zca w5 (.cells #[.bool t5, .slice a51 l51 k51, .slice a52 l52 k52] 38))
       have HX5:=zH (hv5.below (zca w5 (.cells #[.bool t5, .slice a51 l51 k51, .slice a52 l52 k52] 38)))
       have HN5:=zH (C3.new w5 38 (.bool t5) (.slice a51 l51 k51) (.slice a52 l52 k52))
       have HM5:=zH (HM.out.belowS hba)
       have HV5:=zH (HV4.out.below hba)
       have HC5:=zH (HC.out.belowS hba)
       have HR5:=zH (HR.out.belowS hba)
       have HB5:=zH (zfa HBR.out hba HBR.out.size)
       obtain⟨_,n0,n1,n2,_,_,_⟩:=HN5.out
       obtain⟨_,m0,m1,m2,_,_,_⟩:=HM5.out
       clear hv5 hb5 hba HM HV4 HC HR HA c0 c1 c2)
     |(go_at_call 50;(with_reducible refine(znu _ _ M X _ HV5.out HX5.out HFM.out HFX.out).mono ?_);rw[HZ.out];rintro e6 w6 ⟨rfl,hb6⟩
       have HX6:=zH (HX5.out.below hb6)
       have HN6:=zH (HN5.out.belowS hb6)
       have HM6:=zH (HM5.out.belowS hb6)
       have HV6:=zH (HV5.out.below hb6)
       have HC6:=zH (HC5.out.belowS hb6)
       have HR6:=zH (HR5.out.belowS hb6)
       have HB6:=zH (zfa HB5.out hb6 HB5.out.size)
       clear HX5 HN5 HM5 HV5 HC5 HR5 HB5 hb6 n0 n1 n2 m0 m1 m2
       obtain⟨_,n0,n1,n2,_,_,_⟩:=HN6.out
       obtain⟨_,m0,m1,m2,f0,f1,f2⟩:=HM6.out))
    go_roundg (n- (k+1))
    case measure=>(have:=HG.out;omega)
    case rel=>
     refine⟨k+1,t5,a51,a52,l51,k51,l52,k52,by omega,rfl,by go_num,HM6.out.set _ _ _,?_,HC6.out.far (by have:=HSZ.out;omega) _ _ _,HR6.out.far (by have:=HSZ.out;omega) _ _ _,zga HB6.out (by have:=HSZ.out;omega) _ _ _⟩
     rw[HSTEP.out,if_pos (HCMP.out.1 hzp)]
     exact HX6.out.set3 HM6.out (fun z=>by simp) (fun z=>by simp) _ _ _
   ·go_wp2_with (first
     |(go_at_call 70;(with_reducible refine(zps _ c k _ HA.out hk2 HROW.out).mono ?_);rw[HQ.out,HXE.out];rintro e5 w5 ⟨v5,rfl,hv5,hb5⟩
       obtain⟨t5,x5,y5,rfl,⟨a51,l51,k51,rfl,_⟩,⟨a52,l52,k52,rfl,_⟩⟩:=hv5.isF
       have hba:=zaa hb5 (zca w5 (.cells #[.bool t5, .slice a51 l51 k51, .slice a52 l52 k52] 38))
       have HX5:=zH (hv5.below (zca w5 (.cells #[.bool t5, .slice a51 l51 k51, .slice a52 l52 k52] 38)))
       have HN5:=zH (C3.new w5 38 (.bool t5) (.slice a51 l51 k51) (.slice a52 l52 k52))
       have HM5:=zH (HM.out.belowS hba)
       have HV5:=zH (HV4.out.below hba)
       have HC5:=zH (HC.out.belowS hba)
       have HR5:=zH (HR.out.belowS hba)
       have HB5:=zH (zfa HBR.out hba HBR.out.size)
       obtain⟨_,n0,n1,n2,_,_,_⟩:=HN5.out
       obtain⟨_,m0,m1,m2,_,_,_⟩:=HM5.out
       clear hv5 hb5 hba HM HV4 HC HR HA c0 c1 c2)
     |(go_at_call 50;(with_reducible refine(znu _ _ M X _ HV5.out HX5.out HFM.out HFX.out).mono ?_);rw[HZ.out];rintro e6 w6 ⟨rfl,hb6⟩
       have HX6:=zH (HX5.out.below hb6)
       have HN6:=zH (HN5.out.belowS hb6)
       have HM6:=zH (HM5.out.belowS hb6)
       have HV6:=zH (HV5.out.below hb6)
       have HC6:=zH (HC5.out.belowS hb6)
       have HR6:=zH (HR5.out.belowS hb6)
       have HB6:=zH (zfa HB5.out hb6 HB5.out.size)
       clear HX5 HN5 HM5 HV5 HC5 HR5 HB5 hb6 n0 n1 n2 m0 m1 m2
       obtain⟨_,n0,n1,n2,_,_,_⟩:=HN6.out
       obtain⟨_,m0,m1,m2,f0,f1,f2⟩:=HM6.out))
    go_roundg (n- (k+1))
    case measure=>(have:=HG.out;omega)
    case rel=>
     refine⟨k+1,t',a1,a2,l1,k1,l2,k2,by omega,rfl,by go_num,HM6.out,?_,HC6.out,HR6.out,HB6.out⟩
     rw[HSTEP.out,if_neg (fun h=>absurd (HCMP.out.2 h) (by omega))]
     exact HV6.out
  ·obtain rfl:k=n:=by omega
   obtain⟨_,m0,m1,m2,_,_,_⟩:=hM
   obtain⟨_,f0,f1,f2,f3,f4,f5⟩:=HR.out
   obtain⟨_,c0,c1,c2,_,_,_⟩:=hC
   go_wp2_with fail
   refine zoa rfl rfl Tryz.aggF Tryz.sizeF (HR.out.set _ _ _) rfl ?_
   refine⟨_,rfl,?_,zga HBR.out (by omega) _ _ _⟩
   rw[HNL.out]
   exact HV4.out.set3 HR.out (fun z=>by simp) (fun z=>by simp) _ _ _
set_option maxHeartbeats 1600000
theorem r2quo_raw (va vb:Value) (s t:Bool) (n d m e:Nat) (w:World) (ha:zdc w va s n d) (hb:zdc w vb t m e) (hp:okN n d) (hq:okN m e) (hm0:m≠0) (hf:fits (fq s n d/fq t m e)):Calls Tryz.prog 40 #[va,vb] w (RF0 w (fq s n d/fq t m e)):=by
 obtain⟨a1,a2,rfl,n1,n2⟩:=id ha
 obtain⟨b1,b2,rfl,m1,m2⟩:=id hb
 obtain⟨x1,y1,z1,rfl,_⟩:=id n1.slen.1
 obtain⟨x2,y2,z2,rfl,_⟩:=id n2.slen.1
 obtain⟨x3,y3,z3,rfl,_⟩:=id m1.slen.1
 obtain⟨x4,y4,z4,rfl,_⟩:=id m2.slen.1
 have k1:=zca w (.cells #[.bool s, .slice x1 y1 z1, .slice x2 y2 z2] 38)
 have k2:=zca (w.alloc (.cells #[.bool s, .slice x1 y1 z1, .slice x2 y2 z2] 38)) (.cells #[.bool t, .slice x3 y3 z3, .slice x4 y4 z4] 38)
 have k3:=zca ((w.alloc (.cells #[.bool s, .slice x1 y1 z1, .slice x2 y2 z2] 38)).alloc (.cells #[.bool t, .slice x3 y3 z3, .slice x4 y4 z4] 38)) (.cells #[.bool false, .slice none 0 0, .slice none 0 0] 38)
 have H3:=zmc w 38 (.bool s) (.slice x1 y1 z1) (.slice x2 y2 z2) (.bool t) (.slice x3 y3 z3) (.slice x4 y4 z4) (.bool false) (.slice none 0 0) (.slice none 0 0) _ rfl
 obtain⟨hA,hB,hR,hbw⟩:=H3
 have HA:=zH hA
 have HB:=zH hB
 have HR:=zH hR
 have HAP:=zH (ha.below hbw)
 have HBQ:=zH (hb.below hbw)
 have HP:=zH hp
 have HQ:=zH hq
 have HPQ:=zH hf
 have hqn:m≠0:=hm0
 have hlq:∃L,zda m=L/\0<L:=⟨_,rfl,Nat.pos_of_ne_zero fun e=>hqn (zta.1 e)⟩
 obtain⟨L,hL,hL0⟩:=hlq
 have HLL:=zH hL
 have HFQ:Hid (fq s n d/fq t m e=fq (!(s==t)) (n*e) (d*m)):=zH (fq_quo s t (n:=n) (d:=d) hqn hq.1)
 have HL:=zH (And.intro (zrc hp) (zrc hq))
 obtain⟨_,c0,c1,c2,_,_,_⟩:=id hA
 obtain⟨_,d0,d1,d2,_,_,_⟩:=id hB
 have HQNUM:=zH m1
 have HDZ0:Hid (d*m≠0):=zH (Nat.mul_ne_zero hp.1 hqn)
 clear hA hB hR ha hb n1 n2 m1 m2 hp hq hf k1 k2 k3 hm0 hqn hL
 go_enter Tryz.func40,Tryz.ntmps40
 go_upto_region 5 with(first
  |(go_at_call 49;(with_reducible refine(zlm _ s n d _ HAP.out HP.out).mono ?_);rintro e1 w1 ⟨rfl,hb1⟩
    obtain⟨_,c0,c1,c2,_,_,_⟩:=HA.out.belowS hb1
    obtain⟨_,d0,d1,d2,_,_,_⟩:=HB.out.belowS hb1)
  |(go_at_call 49;(with_reducible refine(zlm _ t m e _ (HBQ.out.below hb1) HQ.out).mono ?_);rintro e2 w2' ⟨rfl,hb2'⟩
    obtain⟨_,d0,d1,d2,_,_,_⟩:=HB.out.belowS (zaa hb1 hb2'))
  |(go_at_call 106;(with_reducible refine(zra _ m _ ((HQNUM.out.below hbw).below (zaa hb1 hb2'))).mono ?_);rintro e2 w2 ⟨r2,rfl,hr2,hb2''⟩
    have s2:=hr2.v.sl
    have l2:slen r2=L:=hr2.v.len.trans HLL.out
    have hb2:=zaa hb2' hb2''))
 have b12:=zaa hb1 hb2
 have hD:=zja (B:=w2.heap.size) w2
 have b1D:=zaa b12 hD
 obtain⟨_,q1,q2,q3,_,_,_⟩:=HA.out.belowS b1D
 obtain⟨_,r1,r2,r3,_,_,_⟩:=HB.out.belowS b1D
 have HRD:=zH (HR.out.belowS b1D)
 have HAD:=zH (HAP.out.below b1D)
 have HBD:=zH (HBQ.out.below b1D)
 have hbwD:=zaa hbw b1D
 obtain⟨u1,u2,hu,nA,nB⟩:=HAD.out
 injection hu with hu
 injection hu with hu
 simp only[List.cons.injEq,and_true,true_and]at hu
 obtain⟨rfl,rfl⟩:=hu
 obtain⟨u1,u2,hu,mA,mB⟩:=HBD.out
 injection hu with hu
 injection hu with hu
 simp only[List.cons.injEq,and_true,true_and]at hu
 obtain⟨rfl,rfl⟩:=hu
 have kA:w.heap.size+1+1≠w.heap.size:=by omega
 have kB:w.heap.size+1+1≠w.heap.size+1:=by omega
 have HNN:=zH (And.intro nA (And.intro nB (And.intro mA mB)))
 have HDZ:=HDZ0
 have HN5:Hid (zda (n*e)<=512):=zH (zLT (zsd HL.out.1.1 HL.out.2.2) (by decide))
 have HD5:Hid (zda (d*m)<=512):=zH (zLT (zsd HL.out.1.2 HL.out.2.1) (by decide))
 clear nA nB mA mB c0 c1 c2 d0 d1 d2
 go_region_held3 (fun w'=>w'.cell? ⟨w.heap.size,0,none⟩=some (.bool s)/\w'.cell? ⟨w.heap.size,1,none⟩=some (.slice x1 y1 z1)/\w'.cell? ⟨w.heap.size,2,none⟩=some (.slice x2 y2 z2)/\w'.cell? ⟨w.heap.size+1,0,none⟩=some (.bool t)/\w'.cell? ⟨w.heap.size+1,1,none⟩=some (.slice x3 y3 z3)/\w'.cell? ⟨w.heap.size+1,2,none⟩=some (.slice x4 y4 z4)) (first
  | with_reducible exact⟨q1,q2,q3,r1,r2,r3⟩
  | with_reducible exact keep6b (by assumption) (by assumption)
  | with_reducible exact zvp (zvp (zvp (by assumption) kA kA kA kB kB kB _) kA kA kA kB kB kB _) kA kA kA kB kB kB _) (first
  |(go_at_call 74;(with_reducible refine(zke _ _ n e _ HNN.out.1 HNN.out.2.2.2 HL.out.1.1 HL.out.2.2).mono ?_);rintro e3 w3 ⟨v3,rfl,hv3,hb3⟩)
  |(go_at_call 74;(with_reducible refine(zke _ _ d m _ (HNN.out.2.1.below hb3) (HNN.out.2.2.1.below hb3) HL.out.1.2 HL.out.2.1).mono ?_);rintro e4 w4 ⟨v4,rfl,hv4,hb4⟩)
  |(go_at_call 71;(with_reducible refine(zpe _ _ _ (n*e) (d*m) _ (hv3.below hb4).nat hv4.nat HDZ.out HN5.out HD5.out).mono ?_);rintro e5 w5 ⟨v5,rfl,hv5,hb5⟩)
  |(go_at_call 76;(with_reducible refine(zuo _ (fq s n d/fq t m e) _ (by(rw[HFQ.out];exact hv5)) HPQ.out).mono ?_);rintro e6 w6 ⟨v6,rfl,hv6,hb6⟩
    obtain⟨t9,x9,y9,rfl,⟨a91,l91,k91,rfl,_⟩,⟨a92,l92,k92,rfl,_⟩⟩:=hv6.isF
    have HR6:=zH ((((HRD.out.belowS hb3).belowS hb4).belowS hb5).belowS hb6)
    obtain⟨_,g0,g1,g2,g3,g4,g5⟩:=HR6.out))
 have hbE:=zaa (zaa (zaa (zaa hbwD hb3) hb4) hb5) hb6
 go_wp2_with fail
 refine zoa rfl rfl Tryz.aggF Tryz.sizeF (HR6.out.set _ _ _) rfl ?_
 exact⟨_,rfl,hv6.set3 HR6.out (fun z=>by simp) (fun z=>by simp) _ _ _,zga hbE (zLT (Nat.le_succ _) (Nat.le_succ _)) _ _ _⟩
theorem zzr (va vb:Value) (s:Bool) (n d:Nat) (p q:Rat) (w:World) (ha:zdc w va s n d) (hb:zqa w vb q) (hp:okN n d) (hpq:fq s n d=p) (hq:fits q):
 Calls Tryz.prog 50 #[va,vb] w fun en w'=>en= .returned (.bool (decide (p<q)))/\Below w.heap.size w w':=by
 obtain⟨xn,xd,rfl,hxn,hxd⟩:=id ha
 obtain⟨a11,l11,k11,rfl,_⟩:=hxn.slen.1
 obtain⟨a12,l12,k12,rfl,_⟩:=hxd.slen.1
 obtain⟨t2,x2,y2,rfl,⟨a21,l21,k21,rfl,_⟩,⟨a22,l22,k22,rfl,_⟩⟩:=hb.isF
 have b1:=zca w (.cells #[.bool s, .slice a11 l11 k11, .slice a12 l12 k12] 38)
 have b2:=zca (w.alloc (.cells #[.bool s, .slice a11 l11 k11, .slice a12 l12 k12] 38)) (.cells #[.bool t2, .slice a21 l21 k21, .slice a22 l22 k22] 38)
 have HB:=zH (zaa b1 b2)
 have HX:=zH (ha.below HB.out)
 have HY:=zH (hb.below HB.out)
 have HP:=zH hp
 have HQ:=zH hq
 have HD:Hid (decide (zsr p q<0)=decide (p<q)):=zH (decide_eq_decide.2 (cmpR_lt _ _))
 have HO:Hid (∀w0 va vb,zdc w0 va s n d->zqa w0 vb q->Calls Tryz.prog 100 #[va,vb] w0 fun en w'=>en= .returned (.int .i64 (zsr p q))/\Below w0.heap.size w0 w'):=zH (fun w0 va vb k1 k2=>by
  have h:=ztk va vb _ _ _ _ _ _ w0 k1 k2.raw hp (zuc hq)
  rw[zvb,hpq]at h
  exact h)
 clear ha hb hp hq b1 b2 hxn hxd hpq
 go_enter Tryz.func50,Tryz.ntmps50
 go_wp2_with (go_at_call 100;(with_reducible refine(HO.out _ _ _ HX.out HY.out).mono ?_);rintro e3 w3 ⟨rfl,hb3⟩)
 go_ret
 rw[HD.out]
 exact⟨rfl,zaa HB.out hb3⟩
set_option maxHeartbeats 1600000 in
theorem r2sub_can (va vb:Value) (p q:Rat) (w:World) (ha:zqa w va p) (hb:zqa w vb q) (hp:fits p) (hq:fits q) (hf:fits (p-q)):Calls Tryz.prog 39 #[va,vb] w (RF0 w (p-q)):=by
 obtain⟨ta,x0,y0,rfl,⟨a1,a2,a3,rfl,_⟩,⟨a4,a5,a6,rfl,_⟩⟩:=ha.isF
 obtain⟨tb,x1,y1,rfl,⟨b1,b2,b3,rfl,_⟩,⟨b4,b5,b6,rfl,_⟩⟩:=hb.isF
 obtain⟨hA,hB,hR,hbw⟩:=zmc w 38 (.bool ta) (.slice a1 a2 a3) (.slice a4 a5 a6) (.bool tb) (.slice b1 b2 b3) (.slice b4 b5 b6) (.bool false) (.slice none 0 0) (.slice none 0 0) _ rfl
 have HA:=zH (ha.below hbw)
 have HB:=zH (hb.below hbw)
 have HC1:=zH hA
 have HC2:=zH hB
 have HC3:=zH hR
 have HBW:=zH hbw
 have HN:Hid (fits (-q)):=zH ⟨by rw[Rat.neg_num,Int.natAbs_neg];exact hq.1,hq.2⟩
 have HP:=zH hp
 have HE:Hid (p+ -q=p-q):=zH (Rat.sub_eq_add_neg p q).symm
 have HF:Hid (fits (p+ -q)):=zH (by rw[HE.out];exact hf)
 rw[<-HE.out]
 clear hA hB hR hbw ha hb hp hq hf
 go_enter Tryz.func39,Tryz.ntmps39
 go_upto_region 1 with fail
 generalize ((w.alloc (.cells #[.bool ta, .slice a1 a2 a3, .slice a4 a5 a6] 38)).alloc (.cells #[.bool tb, .slice b1 b2 b3, .slice b4 b5 b6] 38)).alloc (.cells #[.bool false, .slice none 0 0, .slice none 0 0] 38)=W2 at *
 obtain⟨_,c0,c1,c2,_,_,_⟩:=HC1.out
 obtain⟨_,d0,d1,d2,_,_,_⟩:=HC2.out
 have hbD:=zja (B:=W2.heap.size) W2
 have HAD:=zH (HA.out.below hbD)
 have HBD:=zH (HB.out.below hbD)
 have HRD:=zH (HC3.out.belowS hbD)
 have HWD:=zH (zaa HBW.out hbD)
 refine wpL.start 6 (fun w'=>w'.cell? ⟨w.heap.size,0,none⟩=some (.bool ta)/\w'.cell? ⟨w.heap.size,1,none⟩=some (.slice a1 a2 a3)/\w'.cell? ⟨w.heap.size,2,none⟩=some (.slice a4 a5 a6)/\w'.cell? ⟨w.heap.size+1,0,none⟩=some (.bool tb)/\w'.cell? ⟨w.heap.size+1,1,none⟩=some (.slice b1 b2 b3)/\w'.cell? ⟨w.heap.size+1,2,none⟩=some (.slice b4 b5 b6)) (by kernel_rfl) ⟨zba hbD c0,zba hbD c1,zba hbD c2,zba hbD d0,zba hbD d1,zba hbD d2⟩ (fun hHeld=> ?_)
 clear c0 c1 c2 d0 d1 d2 hbD HA HB HC1 HC2 HC3 HBW
 generalize W2.drew=wd at *
 refine wpL.t 0 ?_
 refine wpL.t 1 ?_
 (refine wpL.oo 2 ?_;intro K hK)
 refine zxa 105 #[.agg #[.bool tb, .slice b1 b2 b3, .slice b4 b5 b6]] ?_ ?_ (zmv _ _ _ HBD.out) ?_
 ·rfl
 ·go_simp
 rintro e7 w7 ⟨v7,rfl,hv7,hb7⟩
 have hH7:=And.intro (zba hb7 hHeld.1) (And.intro (zba hb7 hHeld.2.1) (And.intro (zba hb7 hHeld.2.2.1) (And.intro (zba hb7 hHeld.2.2.2.1) (And.intro (zba hb7 hHeld.2.2.2.2.1) (zba hb7 hHeld.2.2.2.2.2)))))
 refine⟨_,rfl,?_⟩
 refine hK.out _ _ (fun _=>hH7) ?_
 have HA7:=zH (HAD.out.below hb7)
 have HR7:=zH (HRD.out.belowS hb7)
 have HW7:=zH (zaa HWD.out hb7)
 clear hK K hHeld HAD HBD HRD HWD hb7
 try simp only[Act.put,List.setIfInBounds_toArray,List.set_cons_zero,List.set_cons_succ]
 (refine wpL.oo 3 ?_;intro K hK)
 refine zxa 19 #[.agg #[.bool ta, .slice a1 a2 a3, .slice a4 a5 a6],v7] ?_ ?_ (zhv _ _ _ _ _ HA7.out hv7 HP.out HN.out HF.out) ?_
 ·rfl
 ·go_simp
 rintro e8 w8 ⟨v8,rfl,hv8,hb8⟩
 obtain⟨t8,x8,y8,rfl,⟨a81,l81,k81,rfl,_⟩,⟨a82,l82,k82,rfl,_⟩⟩:=hv8.isF
 have hH8:=And.intro (zba hb8 hH7.1) (And.intro (zba hb8 hH7.2.1) (And.intro (zba hb8 hH7.2.2.1) (And.intro (zba hb8 hH7.2.2.2.1) (And.intro (zba hb8 hH7.2.2.2.2.1) (zba hb8 hH7.2.2.2.2.2)))))
 refine⟨_,rfl,?_⟩
 refine hK.out _ _ (fun _=>hH8) ?_
 have HR8:=zH (HR7.out.belowS hb8)
 have HW8:=zH (zaa HW7.out hb8)
 clear hK K hH7 HA7 HR7 HW7 hb8
 try simp only[Act.put,List.setIfInBounds_toArray,List.set_cons_zero,List.set_cons_succ]
 have hHeld:=hH8
 refine wpL.u 4 ?_
 refine wpL.u 5 ?_
 clear hHeld
 obtain⟨_,g0,g1,g2,f0,f1,f2⟩:=HR8.out
 (refine wpL.oo 6 ?_;intro K hK)
 rw[if_pos (by rfl)]
 go_simp
 refine hK.out _ _ (fun h=>by first | cases h | simp at h) ?_
 clear hK K hH8 g0 g1 g2 f0 f1 f2
 try simp only[Act.put,List.setIfInBounds_toArray,List.set_cons_zero,List.set_cons_succ]
 (refine wpL.oo 7 ?_;intro K hK)
 rw[if_pos (by rfl)]
 go_simp
 refine hK.out _ _ (fun h=>by first | cases h | simp at h) ?_
 clear hK K
 refine wpL.done (by kernel_rfl) ?_ _
 try simp only[Act.put,List.setIfInBounds_toArray,List.set_cons_zero,List.set_cons_succ]
 go_wp2_with fail
 refine zoa rfl rfl Tryz.aggF Tryz.sizeF (HR8.out.set _ _ _) rfl ?_
 exact⟨_,rfl,hv8.set3 HR8.out (fun z=>by simp) (fun z=>by simp) _ _ _,zga HW8.out (zLT (Nat.le_succ _) (Nat.le_succ _)) _ _ _⟩
end Go.Proofs.YtlpdkbmmbdfoiaaGreat
namespace Go.Proofs.YtlpdkbmmbdfoiaaGreat
def zfq (c:RC) (ρ:Rat):Nat->Nat->Rat:=fun i j=>if i=j then 1-zgg (zaq c i)/ρ else(zaq c i).getD j 0/ρ
theorem over.div {D R N:Nat} (hD:D≠0) (hR:R≠0) {q:Rat} (h:over D N q):over R N (q/mkRat ((R:Nat):Int) D):=by
 obtain⟨z,rfl,hz⟩:=h
 refine⟨z,?_,hz⟩
 rw[Rat.div_def,inv_mk hR hD,Rat.mkRat_mul_mkRat,Nat.mul_comm D R]
 exact Rat.mkRat_mul_right hD
theorem zyy {P:Rat->Prop} {c:RC} (h0:P 0):∀ {n:Nat},(∀i,i<n->P (zgg (zaq c i)))->P (zyp c n)
 | 0,_=>h0
 | n+1,h=>by
   unfold zyp
   split
   ·exact h n (by omega)
   ·exact zyy h0 fun i hi=>h i (by omega)
section
variable {c:RC} {n N S R:Nat}
theorem stepE_over (hR:R≠0) (hr:∀i j,i<n->j<n->over 144 N ((zaq c i).getD j 0)) (hs:∀i,i<n->over 144 S (zgg (zaq c i))) {i j:Nat} (hi:i<n) (hj:j<n):
 over R (R+S+N) (zfq c (mkRat ((R:Nat):Int) 144) i j):=by
 unfold zfq
 split
 ·rw[Rat.sub_eq_add_neg]
  exact(over.add hR (over.one hR) (over.neg (over.div (by decide) hR (hs i hi)))).mono (by omega)
 ·exact(over.div (by decide) hR (hr i j hi hj)).mono (by omega)
theorem step_fits1 (hR:R≠0) (hRb:R<=30000) (hNb:N<=30000) (hr:∀i j,i<n->j<n->over 144 N ((zaq c i).getD j 0)):∀i j,i<n->j<n->fits ((zaq c i).getD j 0/mkRat ((R:Nat):Int) 144):=
 fun i j hi hj=>(over.div (by decide) hR (hr i j hi hj)).fits hR (zLL hNb (by decide+kernel)) (zLL hRb (by decide+kernel))
theorem step_fits2 (hR:R≠0) (hRb:R<=30000) (hSb:S<=30000) (hs:∀i,i<n->over 144 S (zgg (zaq c i))):∀i,i<n->fits (zgg (zaq c i)/mkRat ((R:Nat):Int) 144)/\fits (1-zgg (zaq c i)/mkRat ((R:Nat):Int) 144):=
 fun i hi=>by
  have h1:=over.div (by decide) hR (hs i hi)
  refine⟨h1.fits hR (zLL hSb (by decide+kernel)) (zLL hRb (by decide+kernel)),?_⟩
  rw[Rat.sub_eq_add_neg]
  exact(over.add hR (over.one hR) (over.neg h1)).fits hR (zLL (show R+S<=60000 by omega) (by decide+kernel)) (zLL hRb (by decide+kernel))
end
end Go.Proofs.YtlpdkbmmbdfoiaaGreat
