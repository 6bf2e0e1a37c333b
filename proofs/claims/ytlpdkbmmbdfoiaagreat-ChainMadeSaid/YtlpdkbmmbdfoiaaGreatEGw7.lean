/- Lemmas. -/
import Derived.Test.YtlpdkbmmbdfoiaaGreatETa6
set_option linter.unusedVariables false
set_option linter.unusedSimpArgs false
namespace Go.Proofs.YtlpdkbmmbdfoiaaGreat
open Go.RowKit
def RMean (w0:World) (c:RC) (R:Rat) (e:Ending) (w:World):Prop:=
 ((∀j,j<c.rates.length->Rch c j->Ftl c j)/\RF0 w0 R e w)\/((∃j,j<c.rates.length/\Rch c j/\¬Ftl c j)/\e= .returned (.tuple #[.agg #[.bool false, .slice none 0 0, .slice none 0 0], .int .i64 14])/\Below w0.heap.size w0 w)
set_option maxRecDepth 100000 in
set_option maxHeartbeats 6400000 in
theorem mean_any (va:Value) (c:RC) (R:Rat) (w:World) (ha:zdq w va c) (hv:zzp c) (hp:(∀j,j<c.rates.length->Rch c j->Ftl c j)->∀l,zvq c l->∃x,zzt c l (fun _=>1) x/\sg l.length (fun i=>(qs c.start).getD (l.getD i 0) 0*x i)=R):
 Calls Tryz.prog 45 #[va] w (RMean w c R):=by
 have HP:=zH hp
 clear hp
 have hlen:c.rates.length=c.start.length:=hv.2.2.2.1
 have hlost:c.lost.length=c.start.length:=hv.2.2.1
 have h128:c.start.length<=128:=hv.2.1
 obtain⟨rv,sv,lv,rfl,hr,hs,hlo⟩:=id ha
 obtain⟨ra,rn,rk,rfl,_⟩:=id hr.sl
 obtain⟨sa,sn,sk,rfl,_⟩:=id hs.sl
 obtain⟨la,ln,lk,rfl,_⟩:=id (zhc.sl hlo)
 have hbx:=zca w (.cells #[.slice ra rn rk, .slice sa sn sk, .slice la ln lk] 28)
 have hb2:=zca (w.alloc (.cells #[.slice ra rn rk, .slice sa sn sk, .slice la ln lk] 28)) (.cells #[.bool false, .slice none 0 0, .slice none 0 0] 38)
 have HC:=zH ((C3.new w 28 (.slice ra rn rk) (.slice sa sn sk) (.slice la ln lk)).belowS hb2)
 have HR:=zH (C3.newB (b:=w.heap.size+1) (w.alloc (.cells #[.slice ra rn rk, .slice sa sn sk, .slice la ln lk] 28)) 38 (.bool false) (.slice none 0 0) (.slice none 0 0) (by simp))
 have HBW:=zH (zaa hbx hb2)
 have HA:=zH (ha.below HBW.out)
 have HV:=zH hv
 have hrn:rn=c.rates.length:=hr.len
 have hsn:sn=c.rates.length:=hs.len.trans hlen.symm
 have hll:ln=c.rates.length:=by have h:ln=c.lost.length:=hlo.len;omega
 have hrn128:c.rates.length<=128:=by omega
 have HRT:=zH (hr.below HBW.out)
 have HST:=zH (hs.below HBW.out)
 have HLO:=zH (hlo.below HBW.out)
 have HLL:Hid (c.lost.length=c.rates.length):=zH (by omega)
 have HSL:Hid (c.start.length=c.rates.length):=zH hlen.symm
 have srt:=hr.sl
 have sst:=hs.sl
 have slo:=zhc.sl hlo
 obtain⟨n,hn⟩:∃n,c.rates.length=n:=⟨_,rfl⟩
 rw[hn]at hrn hsn hll hrn128 HLL HSL
 have HN:=zH hn
 subst hrn
 obtain rfl:sn=rn:=hsn
 obtain rfl:ln=sn:=hll
 clear hr hs hlo ha hv hbx hb2 hlen hlost h128 hn
 obtain⟨i0,hi,hz0,hz1,hz2⟩:=info_parts Tryz.infoF
 have hM:=zon (P:=Tryz.prog) 25 38 i0 Tryz.underlying25 hi hz0 hz1 (by rw[hz2];decide)
 clear hi hz0 hz1 hz2 HRT HST HLO HLL HSL
 go_enter Tryz.func45,Tryz.ntmps45
 go_upto_region 1 with fail
 generalize (w.alloc (.cells #[.slice ra ln rk, .slice sa ln sk, .slice la ln lk] 28)).alloc (.cells #[.bool false, .slice none 0 0, .slice none 0 0] 38)=W2 at *
 obtain⟨_,c0,c1,c2,_,_,_⟩:=HC.out
 go_upto_region 3 with(first
  |(go_at_call 68;(with_reducible refine(zar _ c _ HA.out).mono ?_);rintro e2 w2 ⟨⟨b2,rfl,hv2⟩,hb2⟩;obtain rfl:b2=true:=hv2.2 HV.out;clear hv2
    have HC2:=zH (HC.out.belowS hb2)
    have HR2:=zH (HR.out.belowS hb2)
    have HA2:=zH (HA.out.below hb2)
    have HBW2:=zH (zaa HBW.out hb2)
    clear hb2))
 clear c0 c1 c2 HC HR HA HBW
 obtain⟨_,c0,c1,c2,_,_,_⟩:=HC2.out
 have S0:=zH (And.intro c0 (And.intro c1 c2))
 clear c0 c1 c2
 go_region_held3 (fun w'=>w'.cell? ⟨w.heap.size,0,none⟩=some (.slice ra ln rk)/\w'.cell? ⟨w.heap.size,1,none⟩=some (.slice sa ln sk)/\w'.cell? ⟨w.heap.size,2,none⟩=some (.slice la ln lk)/\Below w2.heap.size w2 w') (first
  | with_reducible exact kp3a S0.out (zja _)
  | with_reducible exact kp3w (by assumption) (by assumption)) (first
  |(go_at_call 111;(with_reducible refine(zyr _ c _ (HA2.out.below (kp3c (by assumption))) HV.out).mono ?_);rintro e4 w4 ⟨v4,bs4,rfl,hv4,hl4,hm4,hb4⟩)
  |(go_at_call 112;(with_reducible refine(fatal_any _ c _ (HA2.out.below (kp3c (by assumption))) HV.out).mono ?_);rintro e5 w5 ⟨v5,bs5,rfl,hv5,hl5,hm5,hb5⟩))
 have hE:=kp3c (by assumption)
 have HV4:=zH (hv4.below hb5)
 have HV5:=zH hv5
 have HC5:=zH (HC2.out.belowS hE)
 have HR5:=zH (HR2.out.belowS hE)
 have HA5:=zH (HA2.out.below hE)
 have HBW5:=zH (zaa HBW2.out hE)
 have s4:=zhc.sl hv4
 have s5:=zhc.sl hv5
 rw[HN.out]at hl4 hl5 hm4 hm5
 have l4:slen v4=ln:=by rw[hv4.len,hl4]
 have l5:slen v5=ln:=by rw[hv5.len,hl5]
 have HLN4:=zH hl4
 have HLN5:=zH hl5
 have HM4:=zH hm4
 have HM5:=zH hm5
 obtain⟨va4,vn4,vk4,rfl,_⟩:=id s4
 obtain⟨va5,vn5,vk5,rfl,_⟩:=id s5
 obtain rfl:vn4=ln:=l4
 obtain rfl:vn5=vn4:=l5
 clear hv4 hv5 hE hl4 hl5 hm4 hm5 hb4 hb5 HC2 HR2 HA2 HBW2 S0
 go_wp2_with fail
 go_loopg [20] (vn5) (fun g u20 wr=>wr=w5/\∃ (k:Nat),k<=vn5/\g=vn5-k/\u20= .int .i64 k/\(∀j,j<k->bs4.getD j false=true->bs5.getD j false=true))
 case atStart=>exact⟨rfl,0,zZL _,rfl,rfl,fun j h=>by omega⟩
 case round=>
  obtain⟨rfl,k,hkn,hg,rfl,hall⟩:=hrel
  have HG:=zH hg
  have HALL:=zH hall
  clear hg hall
  by_cases hkl:k<vn5
  ·have hk4:k<bs4.length:=by rw[HLN4.out];exact hkl
   have hk5:k<bs5.length:=by rw[HLN5.out];exact hkl
   have q4:=HV4.out.at' k hk4
   have q5:=HV5.out.at' k hk5
   have HX4:=zH (zrn hk4)
   have HX5:=zH (zrn hk5)
   have i1:(0:Int)<=(k:Int):=by omega
   have i2:(k:Int)<(vn5:Nat):=by omega
   obtain⟨x4,hx4⟩:∃x,bs4[k]'hk4=x:=⟨_,rfl⟩
   obtain⟨x5,hx5⟩:∃x,bs5[k]'hk5=x:=⟨_,rfl⟩
   rw[hx4]at q4 HX4
   rw[hx5]at q5 HX5
   clear hx4 hx5
   cases x4 with
   | false=>
     go_wp2_with fail
     go_roundg (vn5- (k+1))
     case measure=>(have:=HG.out;omega)
     case rel=>
      refine⟨rfl,k+1,by omega,rfl,by go_num,fun j hj h=> ?_⟩
      rcases Nat.lt_or_ge j k with h6 | h6
      ·exact HALL.out j h6 h
      ·obtain rfl:j=k:=by omega
       rw[HX4.out]at h
       cases h
   | true=>
     cases x5 with
     | true=>
       go_wp2_with fail
       go_roundg (vn5- (k+1))
       case measure=>(have:=HG.out;omega)
       case rel=>
        refine⟨rfl,k+1,by omega,rfl,by go_num,fun j hj h=> ?_⟩
        rcases Nat.lt_or_ge j k with h6 | h6
        ·exact HALL.out j h6 h
        ·obtain rfl:j=k:=by omega
         exact HX5.out
     | false=>
       obtain⟨_,r0,r1,r2,q0,q1,q2⟩:=HR5.out
       go_wp2_with fail
       refine zoa rfl rfl Tryz.aggF Tryz.sizeF (HR5.out.set _ _ _) rfl ?_
       refine Or.inr ⟨⟨k,by rw[HN.out];exact hkl,(HM4.out k hkl).1 HX4.out,fun h=> ?_⟩,rfl,zga HBW5.out (Nat.le_succ _) _ _ _⟩
       have h2:=(HM5.out k hkl).2 h
       rw[HX5.out]at h2
       cases h2
  ·obtain rfl:k=vn5:=by omega
   have hsure:∀j,j<c.rates.length->Rch c j->Ftl c j:=fun j hj h=>by
    rw[HN.out]at hj
    exact(HM5.out j hj).1 (HALL.out j hj ((HM4.out j hj).2 h))
   have HSURE:=zH hsure
   obtain⟨_,c0,c1,c2,_,_,_⟩:=HC5.out
   clear HM4 HM5 HALL hsure HV4 HV5 HLN4 HLN5
   go_upto_region 11 with(first
    |(go_at_call 108;(with_reducible refine(zzv _ c _ HA5.out HV.out).mono ?_);rintro e3 w3 ⟨v3,l,rfl,hv3,hal,hb3⟩
      have HB3:=zH hb3
      have HL3:=zH hv3
      obtain⟨x,hx⟩:=HP.out HSURE.out l hal
      have HX:=zH hx.1
      have HXR:=zH hx.2
      have hl24:=hx.1.le
      obtain⟨m,hm⟩:∃m,l.length=m:=⟨_,rfl⟩
      have HM:=zH hm
      rw[hm]at hl24
      have sv3:=zhc.sl hv3
      have lv3:slen v3=m:=by have h:=zhc.len hv3;rw[List.length_map,zbq,hm]at h;exact h
      obtain⟨va1,vn1,vk1,rfl,_⟩:=id (zhc.sl hv3)
      obtain rfl:vn1=m:=lv3
      have HC3:=zH (HC5.out.belowS hb3)
      have HR3:=zH (HR5.out.belowS hb3)
      have HA3:=zH (HA5.out.below hb3)
      have HBW3:=zH (zaa HBW5.out hb3)
      clear hv3 hal hb3 HP hx hm c0 c1 c2))
   clear HA5 HC5 HR5 HBW5
   go_wp2_with (refine hM w3 rfl _ _ rfl w3.heap.size _ vn1 rfl rfl rfl (by omega) (zLR _) ?_
                intro vO w5 hO5 hb5 hvO
                have HO5:=zH hO5
                have HB5:=zH hb5
                have slO:=hO5.sl
                have lnO:=hO5.len
                clear hO5 hb5)
   clear hM
   go_loopg [43] (vn1) (fun g u43 wr=>∃ (i:Nat),i<=vn1/\g=vn1-i/\u43= .int .i64 i/\zqb wr 38 w3.heap.size vO vn1/\(∀t,t<i->zlg wr vO t 1)/\Below w3.heap.size w3 wr)
   case atStart=>exact⟨0,zZL _,rfl,rfl,HO5.out,fun t h=>by omega,HB5.out⟩
   case round=>
    obtain⟨i,hin,hg,rfl,ho,he,hbr⟩:=hrel
    obtain⟨w6,hw6⟩:∃w6,w6=wr:=⟨_,rfl⟩
    subst hw6
    have HG:=zH hg
    have HE:=zH he
    have HO:=zH ho
    have HBR:=zH hbr
    clear he hg HO5 HB5
    by_cases hil:i<vn1
    ·have i1:(0:Int)<=(i:Int):=by omega
     have i2:(i:Int)<(vn1:Nat):=by omega
     clear ho hbr
     go_wp2_with (first
      |(go_at_call 109;(with_reducible refine(zqs _).mono ?_);rintro e31 w31 ⟨v31,rfl,hv31,hb31⟩
        obtain⟨t6,x31,y31,rfl,⟨a61,l61,k61,rfl,_⟩,⟨a62,l62,k62,rfl,_⟩⟩:=hv31.isF
        have ho3:=HO.out.below hb31
        obtain⟨c0,d0,_⟩:=ho3.cell (i*3) (by omega)
        obtain⟨c1,d1,_⟩:=ho3.cell (i*3+1) (by omega)
        obtain⟨c2,d2,_⟩:=ho3.cell (i*3+2) (by omega)
        have f0:=ho3.frozen (i*3)
        have f1:=ho3.frozen (i*3+1)
        have f2:=ho3.frozen (i*3+2)
        have n01:=ho3.inj (show i*3≠i*3+1 by omega)
        have n02:=ho3.inj (show i*3≠i*3+2 by omega)
        have n12:=ho3.inj (show i*3+1≠i*3+2 by omega)
        have HS3:=zH (ho3.set3 i (.bool t6) (.slice a61 l61 k61) (.slice a62 l62 k62) (fun z=>by simp) (fun z=>by simp) (fun z=>by simp))
        have HE3:=zH (fun t ht=>(HE.out t ht).below hb31)
        have HO3:=zH ho3
        have HV6:=zH hv31
        have HB3:=zH (zfa HBR.out hb31 HBR.out.size)
        clear ho3 hv31 hb31))
     go_roundg (vn1- (i+1))
     case measure=>(have:=HG.out;omega)
     case rel=>
      refine⟨i+1,by omega,rfl,by go_num,HS3.out.1,fun t ht=> ?_,HB3.out.trans HS3.out.2⟩
      rcases Nat.lt_or_ge t i with h6 | h6
      ·exact zlg.set3_other HO3.out hil (by omega) (HE3.out t h6) _ _ _ (fun z=>by simp) (fun z=>by simp)
      ·obtain rfl:t=i:=by omega
       exact zlg.set3 HO3.out hil HV6.out
    ·obtain rfl:i=vn1:=by omega
     have HVR:Hid (zbb w6 vO (zib l.length fun i=>1)):=zH (by
      rw[HM.out]
      exact HO.out.fracs (zea _ _) (fun j hj=>by rw[zea]at hj;rw[ztb];exact HE.out j hj))
     have HA6:=zH (HA3.out.below hbr)
     have HL6:=zH (HL3.out.below hbr)
     have hc6:=HC3.out.belowS hbr
     have HR6:=zH (HR3.out.belowS hbr)
     have HBW6:=zH (zaa HBW3.out hbr)
     obtain⟨_,e0,e1,e2,_,_,_⟩:=hc6
     clear ho HO HE HBR hbr HC3 HR3 HA3 HBW3 HL3 HG
     go_wp2_with (first
      |(go_at_call 110;(with_reducible refine(zru _ _ _ c l _ x _ HA6.out HV.out HL6.out HVR.out HX.out).mono ?_);rw[HXR.out];rintro e8 w8 ⟨v8,rfl,hv8,hb8⟩
        obtain⟨t8,x8,y8,rfl,⟨a81,l81,k81,rfl,_⟩,⟨a82,l82,k82,rfl,_⟩⟩:=hv8.isF
        have hr8:=HR6.out.belowS hb8
        have HR8:=zH hr8
        have HB8:=zH (zaa HBW6.out hb8)
        have HV8:=zH hv8
        obtain⟨_,r0,r1,r2,q0,q1,q2⟩:=hr8
        clear hv8 hb8))
     refine zoa rfl rfl Tryz.aggF Tryz.sizeF (HR8.out.set _ _ _) rfl ?_
     exact Or.inl ⟨HSURE.out,_,rfl,HV8.out.set3 HR8.out (fun z=>by simp) (fun z=>by simp) _ _ _,zga HB8.out (Nat.le_succ _) _ _ _⟩
end Go.Proofs.YtlpdkbmmbdfoiaaGreat
