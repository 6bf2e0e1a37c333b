/- Lemmas. -/
import Derived.Test.YtlpdkbmmbdfoiaaGreatETa6
set_option linter.unusedVariables false
set_option linter.unusedSimpArgs false
namespace Go.Proofs.YtlpdkbmmbdfoiaaGreat
open Go.RowKit
set_option maxRecDepth 100000 in
set_option maxHeartbeats 6400000 in
theorem rlost_any (va:Value) (c:RC) (w:World) (ha:zdq w va c) (hv:zzp c) (hf:∀k,k<=c.rates.length->fits (lst c k)):
 Calls Tryz.prog 179 #[va] w (RF1 w (lst c c.rates.length)):=by
 have HFT:=zH hf
 clear hf
 have hlen:c.rates.length=c.start.length:=hv.2.2.2.1
 have hlost:c.lost.length=c.start.length:=hv.2.2.1
 have h128:c.start.length<=128:=hv.2.1
 obtain⟨rv,sv,lv,rfl,hr,hs,hlo⟩:=id ha
 obtain⟨ra,rn,rk,rfl,_⟩:=id hr.sl
 obtain⟨sa,sn,sk,rfl,_⟩:=id hs.sl
 obtain⟨la,ln,lk,rfl,_⟩:=id (zhc.sl hlo)
 have hbx:=zca w (.cells #[.slice ra rn rk, .slice sa sn sk, .slice la ln lk] 28)
 have hb2:=zca (w.alloc (.cells #[.slice ra rn rk, .slice sa sn sk, .slice la ln lk] 28)) (.cells #[.bool false, .slice none 0 0, .slice none 0 0] 38)
 have HC:=zH ((C3.new w 28 (.slice ra rn rk) (.slice sa sn sk) (.slice la ln lk)).belowS hb2)
 have HR:=zH (C3.newB (b:=w.heap.size+1) (w.alloc (.cells #[.slice ra rn rk, .slice sa sn sk, .slice la ln lk] 28)) 38 (.bool false) (.slice none 0 0) (.slice none 0 0) (by simp))
 have HBW:=zH (zaa hbx hb2)
 have HA:=zH (ha.below HBW.out)
 have HV:=zH hv
 have hrn:rn=c.rates.length:=hr.len
 have hsn:sn=c.rates.length:=hs.len.trans hlen.symm
 have hll:ln=c.rates.length:=by have h:ln=c.lost.length:=hlo.len;omega
 have hrn128:c.rates.length<=128:=by omega
 have HRT:=zH (hr.below HBW.out)
 have HST:=zH (hs.below HBW.out)
 have HLO:=zH (hlo.below HBW.out)
 have HLL:Hid (c.lost.length=c.rates.length):=zH (by omega)
 have HSL:Hid (c.start.length=c.rates.length):=zH hlen.symm
 have srt:=hr.sl
 have sst:=hs.sl
 have slo:=zhc.sl hlo
 obtain⟨n,hn⟩:∃n,c.rates.length=n:=⟨_,rfl⟩
 rw[hn]at hrn hsn hll hrn128 HLL HSL
 have HN:=zH hn
 subst hrn
 obtain rfl:sn=rn:=hsn
 obtain rfl:ln=sn:=hll
 clear hr hs hlo ha hv hbx hb2 hlen hlost h128 hn
 rw[HN.out]at HFT |-
 go_enter Tryz.func179,Tryz.ntmps179
 go_upto_region 1 with fail
 generalize (w.alloc (.cells #[.slice ra ln rk, .slice sa ln sk, .slice la ln lk] 28)).alloc (.cells #[.bool false, .slice none 0 0, .slice none 0 0] 38)=W2 at *
 go_wp2_with (first
  |(go_at_call 20;(with_reducible refine(zwi _).mono ?_);rintro e8 w8 ⟨v8,rfl,hv8,hb8⟩
    obtain⟨t8,x8,y8,rfl,⟨a81,l81,k81,rfl,_⟩,⟨a82,l82,k82,rfl,_⟩⟩:=hv8.isF
    have hba:=zca w8 (.cells #[.bool t8, .slice a81 l81 k81, .slice a82 l82 k82] 38)
    have hbb:=zaa hb8 hba
    have HCT:=zH (C3.new w8 38 (.bool t8) (.slice a81 l81 k81) (.slice a82 l82 k82))
    have HVT:=zH (hv8.below hba)
    have HBB:=zH hbb
    have HBS:Hid (W2.heap.size<=w8.heap.size):=zH hb8.size
    clear hv8 hb8 hba hbb))
 obtain⟨b3,hb3⟩:∃b,w8.heap.size=b:=⟨_,rfl⟩
 rw[hb3]at HCT HBS |-
 clear hb3
 generalize w8.alloc (.cells #[.bool t8, .slice a81 l81 k81, .slice a82 l82 k82] 38)=W8 at *
 go_loopg [4] (ln) (fun g u4 wr=>∃ (k:Nat) (t':Bool) (x' y':Value),k<=ln/\g=ln-k/\u4= .int .i64 k/\C3 wr b3 (.bool t') x' y'/\zqa wr (.agg #[.bool t',x',y']) (lst c k)/\Below W2.heap.size W2 wr)
 case atStart=>exact⟨0,_,_,_,zZL _,rfl,rfl,HCT.out,HVT.out,HBB.out⟩
 case round=>
  obtain⟨k,t',x',y',hkn,hg,rfl,hcr,hfr,hbr⟩:=hrel
  obtain⟨wq,hwq⟩:∃w6,w6=wr:=⟨_,rfl⟩
  subst hwq
  obtain⟨_,_,_,hF6,⟨c81,m81,n81,rfl,_⟩,⟨c82,m82,n82,rfl,_⟩⟩:=hfr.isF
  injection hF6 with hF6
  injection hF6 with hF6
  simp only[List.cons.injEq,and_true,Value.bool.injEq]at hF6
  obtain⟨rfl,rfl,rfl⟩:=hF6
  have HG:=zH hg
  have HCR:=zH hcr
  have HFR:=zH hfr
  have HBR:=zH hbr
  clear HCT HVT HBB hg hcr hfr
  obtain⟨_,c0,c1,c2,_,_,_⟩:=HC.out.belowS hbr
  by_cases hkl:k<ln
  ·have hk2:k<c.start.length:=by rw[HSL.out];exact hkl
   have hkL:k<c.lost.length:=by rw[HLL.out];exact hkl
   obtain⟨ea,eb,g1,g2,g3,g4,g5⟩:=(HST.out.below hbr).at' k hk2
   have HQE:Hid ((qs c.start).getD k 0=(c.start[k]'hk2).q):=zH (by
    unfold qs
    rw[zGD,List.getElem?_map,zGE hk2];rfl)
   have HXO:Hid (okN (c.start[k]'hk2).n (c.start[k]'hk2).d):=zH (HV.out.2.2.2.2.1.ok _ (zGM hk2))
   obtain⟨y,hye⟩:∃y,c.start[k]'hk2=y:=⟨_,rfl⟩
   rw[hye]at g1 g4 g5 HQE HXO
   obtain⟨ea1,ea2,ea3,rfl,_⟩:=g4.slen.1
   obtain⟨eb1,eb2,eb3,rfl,_⟩:=g5.slen.1
   have HYN:Hid (zdc wq (.agg #[.bool y.neg, .slice ea1 ea2 ea3, .slice eb1 eb2 eb3]) y.neg y.n y.d):=zH ⟨_,_,rfl,g4,g5⟩
   have qL:=(HLO.out.below hbr).at' k hkL
   have HLS:Hid (lst c (k+1)=lst c k+if c.lost.getD k false=true then(qs c.start).getD k 0 else 0):=zH rfl
   rw[zrn hkL]at HLS
   obtain⟨xL,hxL⟩:∃x,c.lost[k]'hkL=x:=⟨_,rfl⟩
   rw[hxL]at qL HLS
   have i3:(0:Int)<=(k:Int):=by omega
   have i4:(k:Int)<(ln:Nat):=by omega
   clear g4 g5 hye hxL hbr
   cases xL with
   | false=>
     have HLS:Hid (lst c (k+1)=lst c k):=zH (by have h:=HLS.out;simp only[Bool.false_eq_true,if_false,Rat.add_zero]at h;exact h)
     go_wp2_with fail
     go_roundg (ln- (k+1))
     case measure=>(have:=HG.out;omega)
     case rel=>exact⟨k+1,_,_,_,by omega,rfl,by go_num,HCR.out,by rw[HLS.out];exact HFR.out,HBR.out⟩
   | true=>
     have HLS:Hid (lst c k+y.q=lst c (k+1)):=zH (by have h:=HLS.out;simp only[if_true]at h;rw[h,HQE.out])
     have HFF:Hid (fits (lst c k)/\fits (lst c (k+1))):=zH ⟨HFT.out k hkn,HFT.out (k+1) hkl⟩
     go_upto_region 6 with fail
     have hbD:=zja (B:=wq.heap.size) wq
     have c1:=zba hbD c1
     have g1:=zba hbD g1
     have g2:=zba hbD g2
     have g3:=zba hbD g3
     have hF1:=HFR.out.below hbD
     have hF2:=HYN.out.below hbD
     have hCD:=HCR.out.belowS hbD
     have HCD:=zH hCD
     have HBD:=zH (zaa HBR.out hbD)
     obtain⟨_,q0,q1,q2,_,_,_⟩:=hCD
     clear c0 c2 qL hbD HYN HFR HCR HBR
     go_region_law (refine zjc rfl 19 #[.agg #[.bool t', .slice c81 m81 n81, .slice c82 m82 n82], .agg #[.bool y.neg, .slice ea1 ea2 ea3, .slice eb1 eb2 eb3]] ?_ (r2add_acc _ _ (lst c k) (lst c (k+1)) y _ hF1 hF2 HFF.out.1 HXO.out HLS.out HFF.out.2) ?_;go_simp;rintro e9 w9 ⟨v9,rfl,hv9,hb9⟩;refine⟨_,rfl,?_⟩
                    obtain⟨t9,x9,y9,rfl,⟨a1,l91,k1,rfl,_⟩,⟨a2,l92,k2,rfl,_⟩⟩:=hv9.isF
                    have HCR9:=zH (HCD.out.belowS hb9)
                    have HV9:=zH hv9
                    have HB9:=zH (zaa HBD.out hb9)
                    clear q0 q1 q2
                    obtain⟨_,q0,q1,q2,f0,f1,f2⟩:=HCR9.out
                    clear hv9)
     all_goals
      go_wp2_with fail
      go_roundg (ln- (k+1))
      case measure=>(have:=HG.out;omega)
      case rel=>exact⟨k+1,_,_,_,by omega,rfl,by go_num,HCR9.out.set _ _ _,HV9.out.set3 HCR9.out (fun z=>by simp) (fun z=>by simp) _ _ _,zga HB9.out HBS.out _ _ _⟩
  ·obtain rfl:k=ln:=by omega
   obtain⟨_,d0,d1,d2,_,_,_⟩:=HCR.out
   have HR9:=zH (HR.out.belowS hbr)
   obtain⟨_,r0,r1,r2,q0,q1,q2⟩:=HR9.out
   go_wp2_with fail
   refine zab rfl rfl Tryz.aggF Tryz.sizeF (HR9.out.set _ _ _) rfl ?_
   exact⟨_,rfl,HFR.out.set3 HR9.out (fun z=>by simp) (fun z=>by simp) _ _ _,zga (zaa HBW.out hbr) (Nat.le_succ _) _ _ _⟩
end Go.Proofs.YtlpdkbmmbdfoiaaGreat
