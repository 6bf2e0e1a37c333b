/- Lemmas. -/
import Derived.Test.YtlpdkbmmbdfoiaaGreatERb7
set_option linter.unusedVariables false
set_option linter.unusedSimpArgs false
namespace Go.Proofs.YtlpdkbmmbdfoiaaGreat
set_option maxRecDepth 100000
open Go.RowKit
theorem sign_c {va:Value} {w:World} {q:Rat} (ha:zqa w va q) (hf:fits q):Calls Tryz.prog 34 #[va] w fun en w'=>∃z,en= .returned (.int .i64 z)/\(z==0)=decide (q=0)/\Below w.heap.size w w':=by
 have h:=zns va _ _ _ w ha.raw ⟨q.den_nz,hf.2,hf.1⟩
 rw[zvb]at h
 refine h.mono ?_
 rintro e w' ⟨rfl,hb⟩
 exact⟨_,rfl,cmpR_beq q 0,hb⟩
theorem fits_opp {q:Rat} (h:fits q):fits (-q):=⟨by rw[Rat.neg_num,Int.natAbs_neg];exact h.1,h.2⟩
theorem rD_step {n k:Nat} {M:Mx} (h:(elim false n M n).r=n) (hk:k<n):(elim false n M (k+1)).d=(if rP n M k=k then(elim false n M k).d else -(elim false n M k).d)*zT n M k k k:=by
 have hrk:=zol h (k:=k) (by omega)
 have h2:=(rP_lt h hk).2
 have hz:=zT_eq h hk k k
 rw[if_neg (Nat.lt_irrefl k)]at hz
 rw[elim,zzf,if_pos (show pvt n k (elim false n M k)<n from h2),hz]
 show(if pvt n k (elim false n M k)=(elim false n M k).r then _ else _)*swp (elim false n M k).A (elim false n M k).r (pvt n k (elim false n M k)) (elim false n M k).r k=_
 rw[hrk];rfl
set_option maxHeartbeats 12800000 in
theorem relim_any (vt:Value) (rs:List Value) (B n m:Nat) (M:Mx) (w:World) (hT:ztv w B w.heap.size vt rs n m M) (hn:n<=24) (hm:m<=1000) (hnm:n<=m) (hreg:(elim false n M n).r=n) (hs:slimR n m M):
 Calls Tryz.prog 214 #[vt, .int .i64 n] w fun e w'=>∃d rs',e= .returned (.tuple #[.int .i64 n,d])/\IsF d/\ztv w' B w.heap.size vt rs' n m (rT n M n)/\Below B w w':=by
 have hB:=hT.bsz
 have sv:=hT.own.sl
 have lv:slen vt=n:=by rw[hT.own.len,hT.rl]
 have HREG:=zH hreg
 have HSL:=zH hs
 have hb0:=zca w (.cells #[.bool false, .slice none 0 0, .slice none 0 0] 38)
 have HT0:=zH (hT.below hb0)
 have HR0:=zH (C3.new w 38 (.bool false) (.slice none 0 0) (.slice none 0 0))
 have HFS:Hid (fits (1:Rat)):=zH zdt
 clear hT hs hreg
 go_enter Tryz.func214,Tryz.ntmps214
 go_upto_region 1 with fail
 obtain⟨W0,hW0⟩:∃W0,w.alloc (.cells #[.bool false, .slice none 0 0, .slice none 0 0] 38)=W0:=⟨_,rfl⟩
 rw[hW0]at hb0 HR0 HT0 |-
 have hWs:W0.heap.size=w.heap.size+1:=by rw[<-hW0];simp
 have HWS:=zH hWs
 clear hW0 hWs
 go_upto_region 2 with(go_at_call 20;(with_reducible refine(zas _).mono ?_);rintro e13 w13 ⟨v13,rfl,hv13,hb13⟩
                       obtain⟨t13,x13,y13,rfl,⟨a131,l131,k131,rfl,q131⟩,⟨a132,l132,k132,rfl,q132⟩⟩:=hv13.isF
                       have hb14:=zaa hb13 (zca w13 (.cells #[.bool t13, .slice a131 l131 k131, .slice a132 l132 k132] 38))
                       have HV14:=zH (hv13.below (zca w13 (.cells #[.bool t13, .slice a131 l131 k131, .slice a132 l132 k132] 38)))
                       have HZ13:Hid (w.heap.size+1<=w13.heap.size):=zH (by have:=hb13.size;have:=HWS.out;omega)
                       have HC1:=zH (C3.new w13 38 (.bool t13) (.slice a131 l131 k131) (.slice a132 l132 k132))
                       have HT1:=zH (HT0.out.below hb14)
                       have HR1:=zH (HR0.out.belowS hb14)
                       have HB1:=zH ((zaa hb0 hb14).mono hB)
                       clear hv13 hb13 hb14)
 obtain⟨b7,hb7⟩:∃b,w13.heap.size=b:=⟨_,rfl⟩
 rw[hb7]at HC1 HZ13
 rw[hb7]
 clear hb7
 go_wp2_with fail
 have HI0:Hid (zrv w B w.heap.size b7 vt rs n m M t13 a131 a132 l131 k131 l132 k132 1 (w13.alloc (.cells #[.bool t13, .slice a131 l131 k131, .slice a132 l132 k132] 38))):=zH ⟨HC1.out,HV14.out,HR1.out,HT1.out,HB1.out,by have:=HZ13.out;omega,hB⟩
 clear HC1 HV14 HR1 HT1 HB1 HT0 HR0
 go_loopg [6,8] (n) (fun g u6 u8 wr=>∃ (k:Nat) (rs':List Value) (t':Bool) (a1 a2:Option Addr) (l1 k1 l2 k2:Nat),k<=n/\g=n-k/\u6= .int .i64 k/\u8= .int .i64 k/\zrv w B w.heap.size b7 vt rs' n m (rT n M k) t' a1 a2 l1 k1 l2 k2 (elim false n M k).d wr)
 case atStart=>exact⟨0,rs,_,_,_,_,_,_,_,zZL _,rfl,rfl,rfl,by rw[rT_zero];exact HI0.out⟩
 case round=>
  obtain⟨k,rs,t',a1,a2,l1,k1,l2,k2,hk,hg,rfl,rfl,hI⟩:=hrel
  obtain⟨w2,hw2⟩:∃w2,w2=wr:=⟨_,rfl⟩
  subst hw2
  have HG:=zH hg
  clear hg HI0
  by_cases hkn:k<n
  ·have i1:(0:Int)<=(k:Int):=by omega
   have i2:(k:Int)<(n:Nat):=by omega
   have i3:(k:Int)<(m:Nat):=by omega
   have hp1:=rP_lt HREG.out hkn
   have hp2:=rP_first HREG.out hkn
   have HDS:=zH (rD_step HREG.out hkn)
   have HQA:Hid (∀i j,i<n->j<m->qT n M k n i j=rT n M (k+1) i j):=zH (fun i j hi hj=>qT_all HREG.out hkn hi j)
   have HZP:=zH (zT_piv HREG.out hkn)
   have HEL:=zH (fun i j hi hj=>HSL.out.el k hk i j hi hj)
   have HELN:=zH (HSL.out.d k hk)
   have HELD:=zH (HSL.out.d (k+1) hkn).1
   have HSQ:=zH (HSL.out.q k hkn)
   have HSP:=zH (HSL.out.p k hkn)
   have HZT:Hid (zT n M k=swp (rT n M k) k (rP n M k)):=zH rfl
   obtain⟨a,ha⟩:∃a,rP n M k=a:=⟨_,rfl⟩
   rw[ha]at hp1 hp2 HDS HZT
   have HZ:=zH hp2
   have HI:=zH hI
   obtain⟨hka,han⟩:=hp1
   clear ha hp2
   go_wp2_with fail
   go_loopg [9] (a-k) (fun g u9 wr=>∃ (p:Nat),k<=p/\p<=a/\g=a-p/\u9= .int .i64 p/\Below w2.heap.size w2 wr)
   case atStart=>exact⟨k,zLR _,hka,rfl,rfl,Below.refl _ _⟩
   case round=>
    obtain⟨p,hkp,hpa,hgp,rfl,hbp⟩:=hrel
    obtain⟨w3,hw3⟩:∃w3,w3=wr:=⟨_,rfl⟩
    subst hw3
    have HGP:=zH hgp
    have HI3:=zH (HI.out.below hbp)
    have hrl:=HI3.out.t.rl
    have hpr:p<rs.length:=by omega
    have cp:=HI3.out.t.own.cell p hpr
    have slp:=(HI3.out.t.row p hpr).sl
    have lnp:slen rs[p]=m:=by rw[(HI3.out.t.row p hpr).fracs.len,zea]
    obtain⟨ea,eb,g1,g2,g3,n1,n2⟩:=HI3.out.t.elem (i:=p) (j:=k) hpr (by omega)
    have HFE:=zH (HEL.out p k (by omega) (by omega))
    have HQ0:Hid (p<a->decide (rT n M k p k=0)=true):=zH (fun h=>decide_eq_true (HZ.out.2 p hkp h))
    have HQ1:Hid (¬p<a->decide (rT n M k p k=0)=false):=zH (fun h=>by
     obtain rfl:p=a:=by omega
     exact decide_eq_false HZ.out.1)
    obtain⟨x,hx⟩:∃x,rT n M k p k=x:=⟨_,rfl⟩
    rw[hx]at g1 n1 n2 HFE HQ0 HQ1
    obtain⟨ea1,ea2,ea3,rfl,_⟩:=n1.v.sl
    obtain⟨eb1,eb2,eb3,rfl,_⟩:=n2.v.sl
    have HE:Hid (zqa w3 (.agg #[.bool (decide (x<0)), .slice ea1 ea2 ea3, .slice eb1 eb2 eb3]) x):=zH ⟨_,_,rfl,n1,n2⟩
    generalize rs[p]=ci at *
    have j1:(0:Int)<=(p:Int):=by omega
    have j2:(p:Int)<(n:Nat):=by omega
    clear n1 n2 hx hrl hpr hgp hI
    by_cases hlt:p<a
    ·have HQ:=zH (HQ0.out hlt)
     go_wp2_with (go_at_call 34;(with_reducible refine(sign_c HE.out HFE.out).mono ?_);rw[HQ.out];rintro e3 w4 ⟨z3,rfl,hz3,hb3⟩
                  have HB4:=zH (zaa hbp hb3))
     go_roundg (a- (p+1))
     case measure=>(have:=HGP.out;omega)
     case rel=>exact⟨p+1,by omega,by omega,rfl,by go_num,HB4.out⟩
    ·have HQ:=zH (HQ1.out hlt)
     obtain rfl:p=a:=by omega
     have i7:((p:Int)==(n:Int))=false:=by simp;omega
     clear HQ0 HQ1 hlt HGP
     go_upto_if 51 with(go_at_call 34;(with_reducible refine(sign_c HE.out HFE.out).mono ?_);rw[HQ.out];rintro e3 w4 ⟨z3,rfl,hz3,hb3⟩
                        have HI4:=zH (HI3.out.below hb3)
                        clear hb3 hbp HI3 cp g1 g2 g3)
     clear slp lnp HE HFE HQ HI
     go_cut [9] (fun u9 wy=>∃ (rs2:List Value) (t2:Bool) (c1 c2:Option Addr) (m1 j1 m2 j2:Nat),u9= .int .i64 p/\zrv w B w.heap.size b7 vt rs2 n m (zT n M k) t2 c1 c2 m1 j1 m2 j2 (if p=k then(elim false n M k).d else -(elim false n M k).d) wy)
     case first =>
      by_cases har:p=k
      ·have HAR:=zH har
       have i6:((p:Int) != (k:Int))=false:=by simp[har]
       clear har
       go_wp2_with fail
       go_meet
       case rel=>exact⟨rs,_,_,_,_,_,_,_,rfl,by rw[HZT.out,HAR.out,swp_self,if_pos rfl];exact HI4.out⟩
      ·have i6:((p:Int) != (k:Int))=true:=by simp;omega
       have HNE:Hid (p≠k):=zH (by omega)
       have hrl:=HI4.out.t.rl
       have hpr:p<rs.length:=by omega
       have hkr:k<rs.length:=by omega
       go_wp2_with fail
       have hbD:=zja (B:=w4.heap.size) w4
       have hID:=HI4.out.below hbD
       have q3:=hID.t.own.cell p hpr
       have q4:=hID.t.own.cell k hkr
       obtain⟨ca1,ca2,ca3,hca,_⟩:=(hID.t.row p hpr).sl
       obtain⟨cr1,cr2,cr3,hcr,_⟩:=(hID.t.row k hkr).sl
       rw[hca]at q3
       rw[hcr]at q4
       have f1:=hID.t.own.frozen p hpr
       have f2:=hID.t.own.frozen k hkr
       have n12:=hID.t.own.inj (by omega) (show p≠k by omega)
       have hsw:=hID.swap hpr hkr (show p≠k by omega)
       rw[hca,hcr,swp_comm HNE.out,<-HZT.out]at hsw
       have HSW:Hid (zrv w B w.heap.size b7 vt ((rs.set p (.slice cr1 cr2 cr3)).set k (.slice ca1 ca2 ca3)) n m (zT n M k) t' a1 a2 l1 k1 l2 k2 (elim false n M k).d ((w4.setCell (ptr vt p) (.slice cr1 cr2 cr3)).setCell (ptr vt k) (.slice ca1 ca2 ca3)).drew):=zH hsw
       have i7:(0:Int)<=(k:Int):=by omega
       clear hsw hca hcr hID hbD hrl hpr hkr HI4
       refine wpL.start 13 (fun w'=>w'.cell? (ptr vt p)=some (.slice ca1 ca2 ca3)/\w'.cell? (ptr vt k)=some (.slice cr1 cr2 cr3)) (by kernel_rfl) ⟨q3,q4⟩ (fun hHeld=> ?_)
       refine wpL.u 0 ?_
       refine wpL.u 1 ?_
       refine wpL.u 2 ?_
       refine wpL.u 3 ?_
       refine wpL.t 4 ?_
       refine wpL.t 5 ?_
       refine wpL.t 6 ?_
       refine wpL.t 7 ?_
       refine wpL.t 8 ?_
       refine wpL.t 9 ?_
       refine wpL.t 10 ?_
       refine wpL.t 11 ?_
       refine wpL.t 12 ?_
       (refine wpL.oo 13 ?_;intro K hK)
       rw[if_pos (by rfl)]
       go_simp
       refine hK.out _ _ (fun h=>by first | cases h | simp at h) ?_
       clear hK K hHeld
       try simp only[Act.put,List.setIfInBounds_toArray,List.set_cons_zero,List.set_cons_succ]
       (refine wpL.oo 14 ?_;intro K hK)
       rw[if_pos (by rfl)]
       go_simp
       refine hK.out _ _ (fun h=>by first | cases h | simp at h) ?_
       clear hK K
       try simp only[Act.put,List.setIfInBounds_toArray,List.set_cons_zero,List.set_cons_succ]
       have q4':w4.cell? (ptr vt k)=some (.slice cr1 cr2 cr3):=q4
       have f2':w4.frozen? (ptr vt k)=false:=f2
       (refine wpL.oo 15 ?_;intro K hK)
       rw[if_pos (by rfl)]
       go_simp
       refine hK.out _ _ (fun h=>by first | cases h | simp at h) ?_
       clear hK K
       refine wpL.done (by kernel_rfl) ?_ _
       clear q3 q4 f1 f2 n12 q4' f2'
       generalize ((w4.setCell (ptr vt p) (.slice cr1 cr2 cr3)).setCell (ptr vt k) (.slice ca1 ca2 ca3)).drew=w5 at *
       obtain⟨_,d0,d1,d2,f0,f1,f2⟩:=HSW.out.c7
       go_wp2_with (go_at_call 105;(with_reducible refine(zmv _ _ _ HSW.out.f7).mono ?_);rintro e6 w6 ⟨v6,rfl,hv6,hb6⟩
                    obtain⟨t6,x6,y6,rfl,⟨a61,l61,k61,rfl,_⟩,⟨a62,l62,k62,rfl,_⟩⟩:=hv6.isF
                    have HI6:=zH (HSW.out.below hb6)
                    have HV6:=zH hv6
                    clear hv6 hb6 d0 d1 d2 f0 f1 f2
                    obtain⟨_,d0,d1,d2,f0,f1,f2⟩:=HI6.out.c7)
       have HI7:=zH (HI6.out.set7 HV6.out)
       go_meet
       case rel=>exact⟨_,_,_,_,_,_,_,_,rfl,by rw[if_neg HNE.out];exact HI7.out⟩
     case rest=>
      obtain⟨rs,t',a1,a2,l1,k1,l2,k2,rfl,hI⟩:=hcut
      obtain⟨w5,hw5⟩:∃w5,w5=wc:=⟨_,rfl⟩
      subst hw5
      have HFD:Hid (fits (if p=k then(elim false n M k).d else -(elim false n M k).d)):=zH (by split;exact HELN.out.1;exact HELN.out.2)
      obtain⟨D,hD⟩:∃D,(if p=k then(elim false n M k).d else -(elim false n M k).d)=D:=⟨_,rfl⟩
      rw[hD]at hI HDS HFD
      have hrl:=hI.t.rl
      have hkr:k<rs.length:=by omega
      have ck:=hI.t.own.cell k hkr
      have slk:=(hI.t.row k hkr).sl
      have lnk:slen rs[k]=m:=by rw[(hI.t.row k hkr).fracs.len,zea]
      obtain⟨ea,eb,g1,g2,g3,n1,n2⟩:=hI.t.elem (i:=k) (j:=k) hkr (by omega)
      have HFP:Hid (fits (zT n M k k k)):=zH (by
       rw[HZT.out];unfold swp;rw[if_pos rfl];exact HEL.out p k (by omega) (by omega))
      have HFZ:Hid (∀j,j<m->fits (zT n M k k j)):=zH (fun j hj=>by
       rw[HZT.out];unfold swp;rw[if_pos rfl];exact HEL.out p j (by omega) hj)
      obtain⟨P,hP⟩:∃P,zT n M k k k=P:=⟨_,rfl⟩
      rw[hP]at g1 n1 n2 HFP HDS HZP
      have HP:=zH hP
      obtain⟨ea1,ea2,ea3,rfl,_⟩:=n1.v.sl
      obtain⟨eb1,eb2,eb3,rfl,_⟩:=n2.v.sl
      have hbA:=zca w5 (.cells #[.bool (decide (P<0)), .slice ea1 ea2 ea3, .slice eb1 eb2 eb3] 38)
      have HEA:Hid (zqa (w5.alloc (.cells #[.bool (decide (P<0)), .slice ea1 ea2 ea3, .slice eb1 eb2 eb3] 38)) (.agg #[.bool (decide (P<0)), .slice ea1 ea2 ea3, .slice eb1 eb2 eb3]) P):=zH (zqa.below ⟨_,_,rfl,n1,n2⟩ hbA)
      have HIA:=zH (hI.below hbA)
      have HCA:=zH (C3.new w5 38 (.bool (decide (P<0))) (.slice ea1 ea2 ea3) (.slice eb1 eb2 eb3))
      have HSZ:Hid (w.heap.size<w5.heap.size/\b7<w5.heap.size):=zH ⟨hI.c5.lt,hI.c7.lt⟩
      obtain⟨_,d0,d1,d2,_,_,_⟩:=HIA.out.c7
      obtain⟨_,e0,e1,e2,_,_,_⟩:=HCA.out
      have HFM:Hid (fits (D*P)):=zH (by rw[<-HDS.out];exact HELD.out)
      generalize hck:rs[k]=cik at *
      have HCK:=zH hck
      clear hD n1 n2 hP hI hrl hbA hck
      go_wp2_with (go_at_call 209;(with_reducible refine(r5mul_can _ _ D P _ HIA.out.f7 HEA.out HFD.out HFP.out HFM.out).mono ?_);rintro e5' w6 ⟨v5,rfl,hv5,hb5⟩
                   obtain⟨t5,x5,y5,rfl,⟨a51,l51,k51,rfl,_⟩,⟨a52,l52,k52,rfl,_⟩⟩:=hv5.isF
                   have HI5:=zH (HIA.out.below hb5)
                   have HE5:=zH (HEA.out.below hb5)
                   have HC5:=zH (HCA.out.belowS hb5)
                   have HV5:=zH hv5
                   clear HIA HEA HCA ck g1 g2 g3 d0 d1 d2 e0 e1 e2 hv5 hb5
                   obtain⟨_,d0,d1,d2,f0,f1,f2⟩:=HI5.out.c7)
      have HI6:=zH (HI5.out.set7 HV5.out)
      have HC6:=zH (HC5.out.c3 (b':=b7) (by have:=HSZ.out.2;omega) (.bool t5) (.slice a51 l51 k51) (.slice a52 l52 k52))
      have HE6:=zH (HE5.out.set3 HI5.out.c7 (fun z=>by simp) (fun z=>by simp) (.bool t5) (.slice a51 l51 k51) (.slice a52 l52 k52))
      obtain⟨b10,hb10⟩:∃b,w5.heap.size=b:=⟨_,rfl⟩
      rw[hb10]at HSZ HC6
      rw[hb10]
      generalize hw6:((w6.setCell ⟨b7,0,none⟩ (.bool t5)).setCell ⟨b7,1,none⟩ (.slice a51 l51 k51)).setCell ⟨b7,2,none⟩ (.slice a52 l52 k52)=w7 at *
      clear hw6 d0 d1 d2 f0 f1 f2 HI5 HE5 HC5 HV5 hb10
      go_loopg [11] (m) (fun g u11 wr=>∃ (e:Nat),e<=m/\g=m-e/\u11= .int .i64 e/\zrv w B w.heap.size b7 vt rs n m (nTo n M k e) t5 a51 a52 l51 k51 l52 k52 (D*P) wr/\C3 wr b10 (.bool (decide (P<0))) (.slice ea1 ea2 ea3) (.slice eb1 eb2 eb3)/\zqa wr (.agg #[.bool (decide (P<0)), .slice ea1 ea2 ea3, .slice eb1 eb2 eb3]) P)
      case atStart=>exact⟨0,zZL _,rfl,rfl,by rw[nTo_zero];exact HI6.out,HC6.out,HE6.out⟩
      case round=>
       obtain⟨e,he,hge,rfl,hI,hC,hPP⟩:=hrel
       obtain⟨w8,hw8⟩:∃w8,w8=wr:=⟨_,rfl⟩
       subst hw8
       have HGE:=zH hge
       have HI:=zH hI
       have HC:=zH hC
       have HPP:=zH hPP
       have hrl:=hI.t.rl
       have hkr:k<rs.length:=by omega
       have ck:=hI.t.own.cell k hkr
       rw[HCK.out]at ck
       clear hge HI6 HC6 HE6
       by_cases hem:e<m
       ·obtain⟨fa,fb,g1,g2,g3,n1,n2⟩:=hI.t.elem (i:=k) (j:=e) hkr hem
        rw[nTo_at]at g1 n1 n2
        rw[HCK.out]at g1 g2 g3
        have HFX:=zH (HFZ.out e hem)
        have HFQ:=zH (HSQ.out e hem)
        rw[HP.out]at HFQ
        obtain⟨x,hx⟩:∃x,zT n M k k e=x:=⟨_,rfl⟩
        rw[hx]at g1 n1 n2 HFX HFQ
        have HX:=zH hx
        obtain⟨fa1,fa2,fa3,rfl,_⟩:=n1.v.sl
        obtain⟨fb1,fb2,fb3,rfl,_⟩:=n2.v.sl
        obtain⟨_,e0,e1,e2,_,_,_⟩:=id hC
        have hbD:=zja (B:=w8.heap.size) w8
        have HF1:Hid (zqa w8.drew (.agg #[.bool (decide (x<0)), .slice fa1 fa2 fa3, .slice fb1 fb2 fb3]) x):=zH (zqa.below ⟨_,_,rfl,n1,n2⟩ hbD)
        have HPD:=zH (hPP.below hbD)
        have HID:=zH (hI.below hbD)
        have HCD:=zH (hC.belowS hbD)
        have q1:=zba hbD ck
        have q2:=zba hbD g1
        have q3:=zba hbD g2
        have q4:=zba hbD g3
        have q5:=zba hbD e0
        have q6:=zba hbD e1
        have q7:=zba hbD e2
        have k1':(0:Int)<=(e:Int):=by omega
        have k2':(e:Int)<(m:Nat):=by omega
        clear hI hC hPP g1 g2 g3 n1 n2 e0 e1 e2 HI HC HPP hbD hx hrl hkr
        go_wp2_with fail
        clear ck
        refine wpL.start 18 (fun w'=>w'.cell? (ptr vt k)=some cik/\w'.cell? (ptr cik (e*3))=some (.bool (decide (x<0)))/\w'.cell? (ptr cik (e*3+1))=some (.slice fa1 fa2 fa3)/\w'.cell? (ptr cik (e*3+2))=some (.slice fb1 fb2 fb3)/\w'.cell? ⟨b10,0,none⟩=some (.bool (decide (P<0)))/\w'.cell? ⟨b10,1,none⟩=some (.slice ea1 ea2 ea3)/\w'.cell? ⟨b10,2,none⟩=some (.slice eb1 eb2 eb3)) (by kernel_rfl) ⟨q1,q2,q3,q4,q5,q6,q7⟩ (fun hHeld=> ?_)
        refine wpL.t 0 ?_
        refine wpL.t 1 ?_
        refine wpL.t 2 ?_
        refine wpL.t 3 ?_
        refine wpL.t 4 ?_
        refine wpL.t 5 ?_
        refine wpL.t 6 ?_
        refine wpL.t 7 ?_
        refine wpL.t 8 ?_
        refine wpL.t 9 ?_
        refine wpL.t 10 ?_
        refine wpL.t 11 ?_
        refine wpL.t 12 ?_
        (refine wpL.oo 13 ?_;intro K hK)
        refine zxa 40 #[.agg #[.bool (decide (x<0)), .slice fa1 fa2 fa3, .slice fb1 fb2 fb3], .agg #[.bool (decide (P<0)), .slice ea1 ea2 ea3, .slice eb1 eb2 eb3]] ?_ ?_ (zcp _ _ x P _ HF1.out HPD.out HFX.out HFP.out HZP.out HFQ.out) ?_
        ·rfl
        ·go_simp
        rintro e9 w9 ⟨v9,rfl,hv9,hb9⟩
        obtain⟨t9,x9,y9,rfl,⟨a91,l91,k91,rfl,_⟩,⟨a92,l92,k92,rfl,_⟩⟩:=hv9.isF
        refine⟨_,rfl,?_⟩
        have hNew:(fun w'=>w'.cell? (ptr vt k)=some cik/\w'.cell? (ptr cik (e*3))=some (.bool (decide (x<0)))/\w'.cell? (ptr cik (e*3+1))=some (.slice fa1 fa2 fa3)/\w'.cell? (ptr cik (e*3+2))=some (.slice fb1 fb2 fb3)/\w'.cell? ⟨b10,0,none⟩=some (.bool (decide (P<0)))/\w'.cell? ⟨b10,1,none⟩=some (.slice ea1 ea2 ea3)/\w'.cell? ⟨b10,2,none⟩=some (.slice eb1 eb2 eb3)) w9:=⟨zba hb9 q1,zba hb9 q2,zba hb9 q3,zba hb9 q4,zba hb9 q5,zba hb9 q6,zba hb9 q7⟩
        refine hK.out _ _ (fun _=>hNew) ?_
        clear hK K hHeld q1 q2 q3 q4 q5 q6 q7
        try simp only[Act.put,List.setIfInBounds_toArray,List.set_cons_zero,List.set_cons_succ]
        refine wpL.u 14 ?_
        refine wpL.u 15 ?_
        refine wpL.u 16 ?_
        refine wpL.t 17 ?_
        obtain⟨q1,q2,q3,q4,q5,q6,q7⟩:=hNew
        have hI9:=HID.out.below hb9
        have hkr:k<rs.length:=by have:=hI9.t.rl;omega
        have hro:=hI9.t.row k hkr
        rw[HCK.out]at hro
        have f0:=hro.frozen (e*3) (by rw[zea];omega)
        have f1:=hro.frozen (e*3+1) (by rw[zea];omega)
        have f2:=hro.frozen (e*3+2) (by rw[zea];omega)
        have n01:=hro.inj (by rw[zea];omega) (show e*3≠e*3+1 by omega)
        have n02:=hro.inj (by rw[zea];omega) (show e*3≠e*3+2 by omega)
        have n12:=hro.inj (by rw[zea];omega) (show e*3+1≠e*3+2 by omega)
        (refine wpL.oo 18 ?_;intro K hK)
        rw[if_pos (by rfl)]
        go_simp
        refine hK.out _ _ (fun h=>by first | cases h | simp at h) ?_
        clear hK K q1 q2 q3 q4 q5 q6 q7 f0 f1 f2 n01 n02 n12 hro
        refine wpL.done (by kernel_rfl) ?_ _
        have hput:=hI9.put hkr hem hv9
        rw[HCK.out]at hput
        have HPUT:=zH hput.1
        have HKEEP:=zH (hput.2 HSZ.out.1 (HCD.out.belowS hb9) (HPD.out.below hb9))
        clear hput hI9 hv9 hb9 hkr
        go_wp2_with fail
        go_roundg (m- (e+1))
        case measure=>(have:=HGE.out;omega)
        case rel=>
         refine⟨e+1,by omega,rfl,by go_num,?_,HKEEP.out.1,HKEEP.out.2⟩
         have h:=HPUT.out
         rw[<-HX.out,<-HP.out,nTo_step]at h
         rw[<-HP.out]
         exact h
       ·obtain rfl:e=m:=by omega
        have HIN:Hid (zrv w B w.heap.size b7 vt rs n e (qT n M k 0) t5 a51 a52 l51 k51 l52 k52 (D*P) w8):=zH (hI.congr (fun i j hi hj=>by rw[qT_zero];exact nTo_all hj))
        clear hI hC hPP HI HC HPP hrl
        go_wp2_with fail
        clear ck
        go_loopg [12] (n) (fun g u12 wr=>∃ (i:Nat),i<=n/\g=n-i/\u12= .int .i64 i/\zrv w B w.heap.size b7 vt rs n e (qT n M k i) t5 a51 a52 l51 k51 l52 k52 (D*P) wr)
        case atStart=>exact⟨0,zZL _,rfl,rfl,HIN.out⟩
        case round=>
         obtain⟨i,hi,hgi,rfl,hI⟩:=hrel
         obtain⟨w9,hw9⟩:∃w9,w9=wr:=⟨_,rfl⟩
         subst hw9
         have HGI:=zH hgi
         clear hgi HIN
         by_cases hin:i<n
         ·have hrl:=hI.t.rl
          have hir:i<rs.length:=by omega
          have hci:=hI.t.own.cell i hir
          have sli:=(hI.t.row i hir).sl
          have lni:slen rs[i]=e:=by rw[(hI.t.row i hir).fracs.len,zea]
          obtain⟨fa,fb,g1,g2,g3,n1,n2⟩:=hI.t.elem (i:=i) (j:=k) hir (by omega)
          rw[qT_at]at g1 n1 n2
          have HSPI:=zH (fun j hj=>HSP.out i j hin hj)
          have HFN:Hid (∀i j,i<n->j<e->fits (nT n M k i j)):=zH (fun i j hi hj=>by
           unfold nT
           split
           ·exact HSQ.out j hj
           ·rw[HZT.out];unfold swp;split
            ·exact HEL.out p j (by omega) hj
            ·split
             ·exact HEL.out k j hkn hj
             ·exact HEL.out i j hi hj)
          have HFF:=zH (HFN.out i k hin (by omega))
          have HQS:Hid (i=k\/nT n M k i k=0->qT n M k (i+1)=qT n M k i):=zH (fun h=>qT_skip h)
          have HF0:Hid (∀b,(b=true↔nT n M k i k=0)->decide (nT n M k i k=0)=b):=zH (fun b hb=>by
           by_cases h:nT n M k i k=0
           ·rw[decide_eq_true h];exact(hb.2 h).symm
           ·rw[decide_eq_false h]
            cases b
            ·rfl
            ·exact absurd (hb.1 rfl) h)
          obtain⟨f,hf⟩:∃f,nT n M k i k=f:=⟨_,rfl⟩
          rw[hf]at g1 n1 n2 HFF HQS
          have HFE:=zH hf
          obtain⟨fa1,fa2,fa3,rfl,_⟩:=n1.v.sl
          obtain⟨fb1,fb2,fb3,rfl,_⟩:=n2.v.sl
          have hbA:=zca w9 (.cells #[.bool (decide (f<0)), .slice fa1 fa2 fa3, .slice fb1 fb2 fb3] 38)
          have HEA:Hid (zqa (w9.alloc (.cells #[.bool (decide (f<0)), .slice fa1 fa2 fa3, .slice fb1 fb2 fb3] 38)) (.agg #[.bool (decide (f<0)), .slice fa1 fa2 fa3, .slice fb1 fb2 fb3]) f):=zH (zqa.below ⟨_,_,rfl,n1,n2⟩ hbA)
          have HIA:=zH (hI.below hbA)
          have HCA:=zH (C3.new w9 38 (.bool (decide (f<0))) (.slice fa1 fa2 fa3) (.slice fb1 fb2 fb3))
          have HSZ9:Hid (w.heap.size<w9.heap.size):=zH hI.c5.lt
          obtain⟨_,e0,e1,e2,_,_,_⟩:=HCA.out
          generalize hcii:rs[i]=ci at *
          have HCI:=zH hcii
          have k1':(0:Int)<=(i:Int):=by omega
          have k2':(i:Int)<(n:Nat):=by omega
          clear n1 n2 hf hI hrl hbA hcii HF0
          by_cases hik:i=k
          ·have hd:((i:Int)==(k:Int))=true:=by simp;omega
           have HK:=zH (HQS.out (Or.inl hik))
           clear hik
           go_wp2_with fail
           go_roundg (n- (i+1))
           case measure=>(have:=HGI.out;omega)
           case rel=>exact⟨i+1,by omega,rfl,by go_num,by rw[HK.out];exact HIA.out⟩
          ·have hd:((i:Int)==(k:Int))=false:=by simp;omega
           have HNK:=zH hik
           by_cases hf0:f=0
           ·have HQ:Hid (decide (f=0)=true):=zH (decide_eq_true hf0)
            have HK:=zH (HQS.out (Or.inr hf0))
            clear hf0 hik
            go_wp2_with (go_at_call 34;(with_reducible refine(sign_c HEA.out HFF.out).mono ?_);rw[HQ.out];rintro e3' w10 ⟨z3,rfl,hz3,hb3⟩
                         have HIB:=zH (HIA.out.below hb3))
            go_roundg (n- (i+1))
            case measure=>(have:=HGI.out;omega)
            case rel=>exact⟨i+1,by omega,rfl,by go_num,by rw[HK.out];exact HIB.out⟩
           ·have HQ:Hid (decide (f=0)=false):=zH (decide_eq_false hf0)
            clear hf0 hik HQS
            go_wp2_with (go_at_call 34;(with_reducible refine(sign_c HEA.out HFF.out).mono ?_);rw[HQ.out];rintro e3' w10 ⟨z3,rfl,hz3,hb3⟩
                         have HIB:=zH (HIA.out.below hb3)
                         have HEB:=zH (HEA.out.below hb3)
                         have HCB:=zH (HCA.out.belowS hb3)
                         have hcb:=zba (zaa (zca w9 (.cells #[.bool (decide (f<0)), .slice fa1 fa2 fa3, .slice fb1 fb2 fb3] 38)) hb3) hci
                         clear hb3 hci g1 g2 g3 e0 e1 e2 HIA HEA HCA)
            obtain⟨b13,hb13⟩:∃b,w9.heap.size=b:=⟨_,rfl⟩
            rw[hb13]at HSZ9 HCB
            rw[hb13]
            clear hb13 hcb
            go_loopg [14] (e) (fun g u14 wr=>∃ (c:Nat),c<=e/\g=e-c/\u14= .int .i64 c/\zrv w B w.heap.size b7 vt rs n e (qTo n M k i c) t5 a51 a52 l51 k51 l52 k52 (D*P) wr/\C3 wr b13 (.bool (decide (f<0))) (.slice fa1 fa2 fa3) (.slice fb1 fb2 fb3)/\zqa wr (.agg #[.bool (decide (f<0)), .slice fa1 fa2 fa3, .slice fb1 fb2 fb3]) f)
            case atStart=>exact⟨0,zZL _,rfl,rfl,by rw[qTo_zero];exact HIB.out,HCB.out,HEB.out⟩
            case round=>
             obtain⟨c,hc,hgc,rfl,hI,hC,hPP⟩:=hrel
             obtain⟨w11,hw11⟩:∃w11,w11=wr:=⟨_,rfl⟩
             subst hw11
             have HGC:=zH hgc
             have hrl:=hI.t.rl
             have hkr:k<rs.length:=by omega
             have hir:i<rs.length:=by omega
             have ck:=hI.t.own.cell k hkr
             have ci1:=hI.t.own.cell i hir
             rw[HCK.out]at ck
             rw[HCI.out]at ci1
             clear hgc HIB HCB HEB
             by_cases hcm:c<e
             ·obtain⟨xa,xb,g1,g2,g3,n1,n2⟩:=hI.t.elem (i:=i) (j:=c) hir hcm
              obtain⟨ya,yb,g4,g5,g6,n3,n4⟩:=hI.t.elem (i:=k) (j:=c) hkr hcm
              rw[qTo_at]at g1 n1 n2
              rw[qTo_piv HNK.out]at g4 n3 n4
              rw[HCI.out]at g1 g2 g3
              rw[HCK.out]at g4 g5 g6
              have HFX:=zH (HFN.out i c hin hcm)
              have HFY:=zH (HFN.out k c hkn hcm)
              have HFM2:=zH (HSPI.out c hcm)
              have HSTEP:Hid (upd (qTo n M k i c) i c (nT n M k i c+ -(nT n M k i k*nT n M k k c))=qTo n M k i (c+1)):=zH qTo_step
              obtain⟨x,hx⟩:∃x,nT n M k i c=x:=⟨_,rfl⟩
              obtain⟨y,hy⟩:∃y,nT n M k k c=y:=⟨_,rfl⟩
              rw[hx]at g1 n1 n2 HFX
              rw[hy]at g4 n3 n4 HFY
              rw[hx,hy,HFE.out]at HFM2 HSTEP
              obtain⟨xa1,xa2,xa3,rfl,_⟩:=n1.v.sl
              obtain⟨xb1,xb2,xb3,rfl,_⟩:=n2.v.sl
              obtain⟨ya1,ya2,ya3,rfl,_⟩:=n3.v.sl
              obtain⟨yb1,yb2,yb3,rfl,_⟩:=n4.v.sl
              obtain⟨_,e0,e1,e2,_,_,_⟩:=id hC
              have hbD:=zja (B:=w11.heap.size) w11
              have HF1:Hid (zqa w11.drew (.agg #[.bool (decide (x<0)), .slice xa1 xa2 xa3, .slice xb1 xb2 xb3]) x):=zH (zqa.below ⟨_,_,rfl,n1,n2⟩ hbD)
              have HF2:Hid (zqa w11.drew (.agg #[.bool (decide (y<0)), .slice ya1 ya2 ya3, .slice yb1 yb2 yb3]) y):=zH (zqa.below ⟨_,_,rfl,n3,n4⟩ hbD)
              have HPD:=zH (hPP.below hbD)
              have HID:=zH (hI.below hbD)
              have HCD:=zH (hC.belowS hbD)
              have s1:=zba hbD ci1
              have s2:=zba hbD ck
              have s3:=zba hbD g1
              have s4:=zba hbD g2
              have s5:=zba hbD g3
              have s6:=zba hbD e0
              have s7:=zba hbD e1
              have s8:=zba hbD e2
              have s9:=zba hbD g4
              have s10:=zba hbD g5
              have s11:=zba hbD g6
              have r1':(0:Int)<=(c:Int):=by omega
              have r2':(c:Int)<(e:Nat):=by omega
              clear hI hC hPP g1 g2 g3 g4 g5 g6 n1 n2 n3 n4 e0 e1 e2 hbD hx hy hrl hkr hir
              go_wp2_with fail
              clear ck ci1
              refine wpN.start [24] (fun w'=>w'.cell? (ptr vt i)=some ci/\w'.cell? (ptr vt k)=some cik/\w'.cell? (ptr ci (c*3))=some (.bool (decide (x<0)))/\w'.cell? (ptr ci (c*3+1))=some (.slice xa1 xa2 xa3)/\w'.cell? (ptr ci (c*3+2))=some (.slice xb1 xb2 xb3)/\w'.cell? ⟨b13,0,none⟩=some (.bool (decide (f<0)))/\w'.cell? ⟨b13,1,none⟩=some (.slice fa1 fa2 fa3)/\w'.cell? ⟨b13,2,none⟩=some (.slice fb1 fb2 fb3)/\w'.cell? (ptr cik (c*3))=some (.bool (decide (y<0)))/\w'.cell? (ptr cik (c*3+1))=some (.slice ya1 ya2 ya3)/\w'.cell? (ptr cik (c*3+2))=some (.slice yb1 yb2 yb3)) (by kernel_rfl) ⟨s1,s2,s3,s4,s5,s6,s7,s8,s9,s10,s11⟩ (fun hHeld=> ?_)
              refine wpN.t 0 ?_
              refine wpN.t 1 ?_
              refine wpN.t 2 ?_
              refine wpN.t 3 ?_
              refine wpN.t 4 ?_
              refine wpN.t 5 ?_
              refine wpN.t 6 ?_
              refine wpN.t 7 ?_
              refine wpN.t 8 ?_
              refine wpN.t 9 ?_
              refine wpN.t 10 ?_
              refine wpN.t 11 ?_
              refine wpN.t 12 ?_
              refine wpN.t 13 ?_
              refine wpN.t 14 ?_
              refine wpN.t 15 ?_
              refine wpN.t 16 ?_
              refine wpN.t 17 ?_
              refine wpN.t 18 ?_
              refine wpN.t 19 ?_
              (refine wpN.oo 20 ?_;intro K hK)
              refine zxa 209 #[.agg #[.bool (decide (f<0)), .slice fa1 fa2 fa3, .slice fb1 fb2 fb3], .agg #[.bool (decide (y<0)), .slice ya1 ya2 ya3, .slice yb1 yb2 yb3]] ?_ ?_ (r5mul_can _ _ f y _ HPD.out HF2.out HFF.out HFY.out HFM2.out.1) ?_
              ·rfl
              ·go_simp
              rintro e9 w12 ⟨v9,rfl,hv9,hb9⟩
              refine⟨_,rfl,?_⟩
              have hNew:(fun w'=>w'.cell? (ptr vt i)=some ci/\w'.cell? (ptr vt k)=some cik/\w'.cell? (ptr ci (c*3))=some (.bool (decide (x<0)))/\w'.cell? (ptr ci (c*3+1))=some (.slice xa1 xa2 xa3)/\w'.cell? (ptr ci (c*3+2))=some (.slice xb1 xb2 xb3)/\w'.cell? ⟨b13,0,none⟩=some (.bool (decide (f<0)))/\w'.cell? ⟨b13,1,none⟩=some (.slice fa1 fa2 fa3)/\w'.cell? ⟨b13,2,none⟩=some (.slice fb1 fb2 fb3)/\w'.cell? (ptr cik (c*3))=some (.bool (decide (y<0)))/\w'.cell? (ptr cik (c*3+1))=some (.slice ya1 ya2 ya3)/\w'.cell? (ptr cik (c*3+2))=some (.slice yb1 yb2 yb3)) w12:=⟨zba hb9 s1,zba hb9 s2,zba hb9 s3,zba hb9 s4,zba hb9 s5,zba hb9 s6,zba hb9 s7,zba hb9 s8,zba hb9 s9,zba hb9 s10,zba hb9 s11⟩
              refine hK.out _ _ (fun _=>hNew) ?_
              clear hK K hHeld s1 s2 s3 s4 s5 s6 s7 s8 s9 s10 s11
              try simp only[Act.put,List.setIfInBounds_toArray,List.set_cons_zero,List.set_cons_succ]
              (refine wpN.oo 21 ?_;intro K hK)
              refine zxa 105 #[v9] ?_ ?_ (zmv _ _ _ hv9) ?_
              ·rfl
              ·go_simp
              rintro e10 w13' ⟨v10,rfl,hv10,hb10⟩
              refine⟨_,rfl,?_⟩
              have hb910:=zaa hb9 hb10
              obtain⟨s1,s2,s3,s4,s5,s6,s7,s8,s9,s10,s11⟩:=hNew
              have hNew:(fun w'=>w'.cell? (ptr vt i)=some ci/\w'.cell? (ptr vt k)=some cik/\w'.cell? (ptr ci (c*3))=some (.bool (decide (x<0)))/\w'.cell? (ptr ci (c*3+1))=some (.slice xa1 xa2 xa3)/\w'.cell? (ptr ci (c*3+2))=some (.slice xb1 xb2 xb3)/\w'.cell? ⟨b13,0,none⟩=some (.bool (decide (f<0)))/\w'.cell? ⟨b13,1,none⟩=some (.slice fa1 fa2 fa3)/\w'.cell? ⟨b13,2,none⟩=some (.slice fb1 fb2 fb3)/\w'.cell? (ptr cik (c*3))=some (.bool (decide (y<0)))/\w'.cell? (ptr cik (c*3+1))=some (.slice ya1 ya2 ya3)/\w'.cell? (ptr cik (c*3+2))=some (.slice yb1 yb2 yb3)) w13':=⟨zba hb10 s1,zba hb10 s2,zba hb10 s3,zba hb10 s4,zba hb10 s5,zba hb10 s6,zba hb10 s7,zba hb10 s8,zba hb10 s9,zba hb10 s10,zba hb10 s11⟩
              refine hK.out _ _ (fun _=>hNew) ?_
              clear hK K s1 s2 s3 s4 s5 s6 s7 s8 s9 s10 s11
              try simp only[Act.put,List.setIfInBounds_toArray,List.set_cons_zero,List.set_cons_succ]
              (refine wpN.oo 22 ?_;intro K hK)
              refine zxa 208 #[.agg #[.bool (decide (x<0)), .slice xa1 xa2 xa3, .slice xb1 xb2 xb3],v10] ?_ ?_ (r5add_can _ _ x (-(f*y)) _ (HF1.out.below hb910) hv10 HFX.out (fits_opp HFM2.out.1) HFM2.out.2) ?_
              ·rfl
              ·go_simp
              rintro e11 w14 ⟨v11,rfl,hv11,hb11⟩
              obtain⟨t9,x9,y9,rfl,⟨a91,l91,k91,rfl,_⟩,⟨a92,l92,k92,rfl,_⟩⟩:=hv11.isF
              refine⟨_,rfl,?_⟩
              have hb911:=zaa hb910 hb11
              obtain⟨s1,s2,s3,s4,s5,s6,s7,s8,s9,s10,s11⟩:=hNew
              have hNew:(fun w'=>w'.cell? (ptr vt i)=some ci/\w'.cell? (ptr vt k)=some cik/\w'.cell? (ptr ci (c*3))=some (.bool (decide (x<0)))/\w'.cell? (ptr ci (c*3+1))=some (.slice xa1 xa2 xa3)/\w'.cell? (ptr ci (c*3+2))=some (.slice xb1 xb2 xb3)/\w'.cell? ⟨b13,0,none⟩=some (.bool (decide (f<0)))/\w'.cell? ⟨b13,1,none⟩=some (.slice fa1 fa2 fa3)/\w'.cell? ⟨b13,2,none⟩=some (.slice fb1 fb2 fb3)/\w'.cell? (ptr cik (c*3))=some (.bool (decide (y<0)))/\w'.cell? (ptr cik (c*3+1))=some (.slice ya1 ya2 ya3)/\w'.cell? (ptr cik (c*3+2))=some (.slice yb1 yb2 yb3)) w14:=⟨zba hb11 s1,zba hb11 s2,zba hb11 s3,zba hb11 s4,zba hb11 s5,zba hb11 s6,zba hb11 s7,zba hb11 s8,zba hb11 s9,zba hb11 s10,zba hb11 s11⟩
              refine hK.out _ _ (fun _=>hNew) ?_
              clear hK K s1 s2 s3 s4 s5 s6 s7 s8 s9 s10 s11
              try simp only[Act.put,List.setIfInBounds_toArray,List.set_cons_zero,List.set_cons_succ]
              refine wpN.t 23 ?_
              obtain⟨s1,s2,s3,s4,s5,s6,s7,s8,s9,s10,s11⟩:=hNew
              have hI9:=HID.out.below hb911
              have hir:i<rs.length:=by have:=hI9.t.rl;omega
              have hro:=hI9.t.row i hir
              rw[HCI.out]at hro
              have f0:=hro.frozen (c*3) (by rw[zea];omega)
              have f1:=hro.frozen (c*3+1) (by rw[zea];omega)
              have f2:=hro.frozen (c*3+2) (by rw[zea];omega)
              have n01:=hro.inj (by rw[zea];omega) (show c*3≠c*3+1 by omega)
              have n02:=hro.inj (by rw[zea];omega) (show c*3≠c*3+2 by omega)
              have n12:=hro.inj (by rw[zea];omega) (show c*3+1≠c*3+2 by omega)
              (refine wpN.oo 24 ?_;intro K hK)
              rw[if_pos (by rfl)]
              go_simp
              refine hK.out _ _ (fun h=>by cases h) ?_
              clear hK K s1 s2 s3 s4 s5 s6 s7 s8 s9 s10 s11 f0 f1 f2 n01 n02 n12 hro
              refine wpN.done (by kernel_rfl) ?_ _
              have hput:=hI9.put hir hcm hv11
              rw[HCI.out,HSTEP.out]at hput
              have HPUT:=zH hput.1
              have HKEEP:=zH (hput.2 HSZ9.out (HCD.out.belowS hb911) (HPD.out.below hb911))
              clear hput hI9 hv9 hb9 hv10 hb10 hv11 hb11 hb910 hb911 hir
              go_wp2_with fail
              go_roundg (e- (c+1))
              case measure=>(have:=HGC.out;omega)
              case rel=>exact⟨c+1,by omega,rfl,by go_num,HPUT.out,HKEEP.out.1,HKEEP.out.2⟩
             ·obtain rfl:c=e:=by omega
              have HIX:=zH (hI.congr (fun i' j hi' hj=>qTo_all HNK.out hj))
              clear hI hC hPP hrl hkr hir
              go_wp2_with fail
              go_roundg (n- (i+1))
              case measure=>(have:=HGI.out;omega)
              case rel=>exact⟨i+1,by omega,rfl,by go_num,HIX.out⟩
         ·obtain rfl:i=n:=by omega
          have HIX:=zH (hI.congr (fun i' j hi' hj=>HQA.out i' j hi' hj))
          clear hI
          go_wp2_with fail
          go_roundg (i- (k+1))
          case measure=>(have:=HG.out;omega)
          case rel=>exact⟨k+1,rs,_,_,_,_,_,_,_,by omega,rfl,by go_num,by go_num,by rw[HDS.out];exact HIX.out⟩
  ·obtain rfl:k=n:=by omega
   have HI:=zH hI
   obtain⟨_,c0,c1,c2,f0,f1,f2⟩:=hI.c5
   obtain⟨_,d0,d1,d2,_,_,_⟩:=hI.c7
   clear hI
   go_wp2_with fail
   refine wpN.start [3] (fun w'=>w'.cell? ⟨b7,0,none⟩=some (.bool t')/\w'.cell? ⟨b7,1,none⟩=some (.slice a1 l1 k1)/\w'.cell? ⟨b7,2,none⟩=some (.slice a2 l2 k2)) (by kernel_rfl) ⟨d0,d1,d2⟩ (fun hHeld=> ?_)
   refine wpN.t 0 ?_
   refine wpN.t 1 ?_
   refine wpN.t 2 ?_
   (refine wpN.oo 3 ?_;intro K hK)
   rw[if_pos (by rfl)]
   go_simp
   refine hK.out _ _ (fun h=>by cases h) ?_
   clear hK K hHeld
   refine wpN.done (by kernel_rfl) ?_ _
   have hbD:=zja (B:=w2.heap.size) w2
   have hID:=HI.out.below hbD
   go_wp2_with fail
   refine bodyPost_1c rfl rfl Tryz.aggF Tryz.sizeF (hID.c5.set _ _ _) rfl ?_
   have h:=hID.f7.set3 hID.c5 (fun z=>by simp) (fun z=>by simp) (.bool t') (.slice a1 l1 k1) (.slice a2 l2 k2)
   exact⟨_,rs,rfl,h.isF,hID.t.c3 hID.c5 (zLR _) (fun z=>by simp) (fun z=>by simp) (fun z=>by simp),zga hID.b hB _ _ _⟩
end Go.Proofs.YtlpdkbmmbdfoiaaGreat
