/- Lemmas. -/
import Derived.Test.YtlpdkbmmbdfoiaaGreatERr5
import Derived.Test.YtlpdkbmmbdfoiaaGreatEGw7
set_option linter.unusedVariables false
set_option linter.unusedSimpArgs false
namespace Go.Proofs.YtlpdkbmmbdfoiaaGreat
open Go.RowKit
set_option maxRecDepth 100000 in
set_option maxHeartbeats 12800000 in
theorem rmean_any (va:Value) (c:CQ) (R:Rat) (w:World) (ha:zlq w va c) (hv:zzp c.raw)
 (hp:(∀j,j<c.raw.rates.length->Rch c.raw j->Ftl c.raw j)->∀l,zvq c.raw l->∃x,RsolP c.raw l true/\(∀j,j<l.length->refX true c.raw l j=x j)/\RsumP c.raw l x 0/\0+sg l.length (fun i=>(qs c.raw.start).getD (l.getD i 0) 0*x i)=R):
 Calls Tryz.prog 122 #[va] w (RMean w c.raw R):=by
 have HP:=zH hp
 clear hp
 have hlen:c.rates.length=c.start.length:=by have h:=hv.2.2.2.1;simpa [CQ.raw]using h
 have hrl:c.raw.rates.length=c.rates.length:=by simp[CQ.raw]
 have hlol:c.lost.length=c.start.length:=by have h:=hv.2.2.1;simpa [CQ.raw]using h
 have h128:c.start.length<=128:=by have h:=hv.2.1;simpa [CQ.raw]using h
 obtain⟨n,hn⟩:∃n,c.start.length=n:=⟨_,rfl⟩
 rw[hn]at hlen hlol h128
 obtain⟨rv,sv,lv,rfl,hr,hs,hlo⟩:=id ha
 obtain⟨ra,rn,rk,rfl,_⟩:=id hr.sl
 obtain⟨sa,sn,sk,rfl,_⟩:=id hs.sl
 obtain⟨la,ln,lk,rfl,_⟩:=id (zhc.sl hlo)
 have hrn:rn=n:=hr.len.trans hlen
 have hsn:sn=n:=hs.len.trans hn
 have hln:ln=n:=by have h:ln=c.lost.length:=hlo.len;omega
 subst hrn
 obtain rfl:sn=rn:=hsn
 obtain rfl:ln=sn:=hln
 have hbx:=zca w (.cells #[.slice ra ln rk, .slice sa ln sk, .slice la ln lk] 28)
 have hb2:=zca (w.alloc (.cells #[.slice ra ln rk, .slice sa ln sk, .slice la ln lk] 28)) (.cells #[.bool false, .slice none 0 0, .slice none 0 0] 38)
 have HC:=zH ((C3.new w 28 (.slice ra ln rk) (.slice sa ln sk) (.slice la ln lk)).belowS hb2)
 have HR:=zH (C3.newB (b:=w.heap.size+1) (w.alloc (.cells #[.slice ra ln rk, .slice sa ln sk, .slice la ln lk] 28)) 38 (.bool false) (.slice none 0 0) (.slice none 0 0) (by simp))
 have HBW:=zH (zaa hbx hb2)
 have HST:=zH (hs.below HBW.out)
 have HA:=zH (ha.below HBW.out)
 have srt:=hr.sl
 have sst:=hs.sl
 have slo:=zhc.sl hlo
 have HV:=zH hv
 have HN:=zH hn
 have HRL:Hid (c.raw.rates.length=ln):=zH (hrl.trans hlen)
 have HSF:Hid (∀s,s<ln->fits (c.start.getD s 0)):=zH (fun s hs=>by
  have hs2:s<c.start.length:=by rw[hn];exact hs
  have h:=RF.fits (hv.2.2.2.2.1.ok (RF.of (c.start[s]'hs2)) (List.mem_map.2 ⟨_,zGM hs2,rfl⟩))
  rw[RF.of_q]at h
  rw[zGD,zGE hs2];exact h)
 clear hr hs hlo ha hv hlen hrl hlol hn hbx hb2
 go_enter Tryz.func122,Tryz.ntmps122
 go_upto_region 1 with fail
 obtain⟨bc,hbc⟩:∃b,w.heap.size=b:=⟨_,rfl⟩
 have HBC:=zH hbc
 rw[hbc]at HC HR |-
 clear hbc
 generalize (w.alloc (.cells #[.slice ra ln rk, .slice sa ln sk, .slice la ln lk] 28)).alloc (.cells #[.bool false, .slice none 0 0, .slice none 0 0] 38)=W2 at *
 obtain⟨_,c0,c1,c2,_,_,_⟩:=HC.out
 go_upto_region 5 with(first
  |(go_at_call 120;(with_reducible refine(zkv _ c.raw _ HA.out.raw HV.out).mono ?_);rintro e3 w3 ⟨v3,l,rfl,hv3,hal,hb3⟩
    have HL3:=zH hv3
    have HAL:=zH hal
    obtain⟨m,hm⟩:∃m,l.length=m:=⟨_,rfl⟩
    have HM:=zH hm
    have sv3:=zhc.sl hv3
    have lv3:slen v3=m:=by have h:=zhc.len hv3;rw[List.length_map,zbq,hm]at h;exact h
    obtain⟨va1,vn1,vk1,rfl,_⟩:=id (zhc.sl hv3)
    obtain rfl:vn1=m:=lv3
    have HC3:=zH (HC.out.belowS hb3)
    have HR3:=zH (HR.out.belowS hb3)
    have HA3:=zH (HA.out.below hb3)
    have HST3:=zH (HST.out.below hb3)
    have HBW3:=zH (zaa HBW.out hb3)
    clear hv3 hal hb3 hm c0 c1 c2
    obtain⟨_,c0,c1,c2,_,_,_⟩:=HC3.out)
  |(go_at_call 177;(with_reducible refine(zbw _ c.raw _ HA3.out.raw HV.out).mono ?_);rintro e5 w5 ⟨v4,v5,bs4,bs5,rfl,hv4,hv5,hl4,hl5,hm4,hm5,hb5⟩
    have HV4:=zH hv4
    have HV5:=zH hv5
    have HC5:=zH (HC3.out.belowS hb5)
    have HR5:=zH (HR3.out.belowS hb5)
    have HA5:=zH (HA3.out.below hb5)
    have HST5:=zH (HST3.out.below hb5)
    have HL5:=zH (HL3.out.below hb5)
    have HBW5:=zH (zaa HBW3.out hb5)
    have s4:=zhc.sl hv4
    have s5:=zhc.sl hv5
    rw[HRL.out]at hl4 hl5 hm4 hm5
    have l4:slen v4=ln:=by rw[hv4.len,hl4]
    have l5:slen v5=ln:=by rw[hv5.len,hl5]
    have HLN4:=zH hl4
    have HLN5:=zH hl5
    have HM4:=zH hm4
    have HM5:=zH hm5
    obtain⟨va4,vn4,vk4,rfl,_⟩:=id s4
    obtain⟨va5,vn5,vk5,rfl,_⟩:=id s5
    obtain rfl:ln=vn4:=l4.symm
    obtain rfl:ln=vn5:=l5.symm
    clear hv4 hv5 hl4 hl5 hm4 hm5 hb5 c0 c1 c2 HC HR HA HST HBW HC3 HR3 HA3 HST3 HL3 HBW3))
 go_wp2_with fail
 go_loopg [8] (ln) (fun g u8 wr=>wr=w5/\∃ (k:Nat),k<=ln/\g=ln-k/\u8= .int .i64 k/\(∀j,j<k->bs4.getD j false=true->bs5.getD j false=true))
 case atStart=>exact⟨rfl,0,zZL _,rfl,rfl,fun j h=>by omega⟩
 case round=>
  obtain⟨rfl,k,hkn,hg,rfl,hall⟩:=hrel
  have HG:=zH hg
  have HALL:=zH hall
  clear hg hall
  by_cases hkl:k<ln
  ·have hk4:k<bs4.length:=by rw[HLN4.out];exact hkl
   have hk5:k<bs5.length:=by rw[HLN5.out];exact hkl
   have q4:=HV4.out.at' k hk4
   have q5:=HV5.out.at' k hk5
   have HX4:=zH (zrn hk4)
   have HX5:=zH (zrn hk5)
   have i1:(0:Int)<=(k:Int):=by omega
   have i2:(k:Int)<(ln:Nat):=by omega
   obtain⟨x4,hx4⟩:∃x,bs4[k]'hk4=x:=⟨_,rfl⟩
   obtain⟨x5,hx5⟩:∃x,bs5[k]'hk5=x:=⟨_,rfl⟩
   rw[hx4]at q4 HX4
   rw[hx5]at q5 HX5
   clear hx4 hx5
   cases x4 with
   | false=>
     go_wp2_with fail
     go_roundg (ln- (k+1))
     case measure=>(have:=HG.out;omega)
     case rel=>
      refine⟨rfl,k+1,by omega,rfl,by go_num,fun j hj h=> ?_⟩
      rcases Nat.lt_or_ge j k with h6 | h6
      ·exact HALL.out j h6 h
      ·obtain rfl:j=k:=by omega
       rw[HX4.out]at h
       cases h
   | true=>
     cases x5 with
     | true=>
       go_wp2_with fail
       go_roundg (ln- (k+1))
       case measure=>(have:=HG.out;omega)
       case rel=>
        refine⟨rfl,k+1,by omega,rfl,by go_num,fun j hj h=> ?_⟩
        rcases Nat.lt_or_ge j k with h6 | h6
        ·exact HALL.out j h6 h
        ·obtain rfl:j=k:=by omega
         exact HX5.out
     | false=>
       obtain⟨_,r0,r1,r2,q0,q1,q2⟩:=HR5.out
       go_wp2_with fail
       refine zoa rfl rfl Tryz.aggF Tryz.sizeF (HR5.out.set _ _ _) rfl ?_
       refine Or.inr ⟨⟨k,by rw[HRL.out];exact hkl,(HM4.out k hkl).1 HX4.out,fun h=> ?_⟩,rfl,zga HBW5.out (by rw[<-HBC.out];omega) _ _ _⟩
       have h2:=(HM5.out k hkl).2 h
       rw[HX5.out]at h2
       cases h2
  ·obtain rfl:ln=k:=by omega
   have hsure:∀j,j<c.raw.rates.length->Rch c.raw j->Ftl c.raw j:=fun j hj h=>by
    rw[HRL.out]at hj
    exact(HM5.out j hj).1 (HALL.out j hj ((HM4.out j hj).2 h))
   have HSURE:=zH hsure
   obtain⟨x,hx⟩:=HP.out HSURE.out l HAL.out
   have HSO:=zH hx.1
   have HXE:=zH hx.2.1
   have HSU:=zH hx.2.2.1
   have HRR:=zH hx.2.2.2
   have hl20:=hx.1.le
   rw[HM.out]at hl20
   obtain⟨_,c0,c1,c2,_,_,_⟩:=HC5.out
   clear HM4 HM5 HALL hsure HV4 HV5 HLN4 HLN5 HP HAL hx
   go_upto_region 14 with(first
    |(go_at_call 178;(with_reducible refine(zaw _ _ true c l x _ HA5.out HV.out HL5.out HSO.out HXE.out).mono ?_);rintro e4 w4 ⟨v4,rfl,hx4,hb4⟩
      obtain⟨x1,x2,x3,rfl,_⟩:=id hx4.sl
      have hx2:vn1=x2:=by have h:=hx4.len;rw[zea,HM.out]at h;exact h.symm
      subst hx2
      have slx:=hx4.sl
      have HX4:=zH hx4
      have HB4:=zH hb4
      clear hx4 hb4 c0 c1 c2)
    |(go_at_call 20;(with_reducible refine(zwi _).mono ?_);rintro e8 w8 ⟨v8,rfl,hv8,hb8'⟩
      have hb8:=zaa HB4.out hb8'
      obtain⟨t8,x8,y8,rfl,⟨a81,l81,k81,rfl,_⟩,⟨a82,l82,k82,rfl,_⟩⟩:=hv8.isF
      have hba:=zca w8 (.cells #[.bool t8, .slice a81 l81 k81, .slice a82 l82 k82] 38)
      have HCT:=zH (C3.new w8 38 (.bool t8) (.slice a81 l81 k81) (.slice a82 l82 k82))
      have HVT:=zH (hv8.below hba)
      have HBT:=zH hba
      have HC8:=zH (HC5.out.belowS hb8)
      have HR8:=zH (HR5.out.belowS hb8)
      have HL8:=zH (HL5.out.below hb8)
      have HX8:Hid (zbb w8 (.slice x1 vn1 x3) (zib vn1 x)):=zH (by have h:=HX4.out.below hb8';rwa[HM.out]at h)
      have HST8:=zH (HST5.out.below hb8)
      have HBW8:=zH (zaa HBW5.out hb8)
      clear hv8 hba hb8 hb8' HX4 HC5 HR5 HL5 HST5 HBW5 HA5))
   generalize w8.alloc (.cells #[.bool t8, .slice a81 l81 k81, .slice a82 l82 k82] 38)=W8 at *
   go_wp2_with fail
   go_loopg [11] (vn1) (fun g ui wr=>∃ (k:Nat) (t':Bool) (x' y':Value),k<=vn1/\g=vn1-k/\ui= .int .i64 k/\C3 wr w8.heap.size (.bool t') x' y'/\zqa wr (.agg #[.bool t',x',y']) ((0:Rat)+sg k fun i=>(qs c.raw.start).getD (l.getD i 0) 0*x i)/\Below w8.heap.size w8 wr)
   case atStart=>exact⟨0,_,_,_,zZL _,rfl,rfl,HCT.out,by show zqa _ _ ((0:Rat)+0);rw[Rat.add_zero];exact HVT.out,HBT.out⟩
   case round=>
    obtain⟨k,t',x',y',hkn,hg,rfl,hcr,hfr,hbr⟩:=hrel
    obtain⟨wq,hwq⟩:∃w6,w6=wr:=⟨_,rfl⟩
    subst hwq
    obtain⟨_,_,_,hF6,⟨c81,m81,n81,rfl,_⟩,⟨c82,m82,n82,rfl,_⟩⟩:=hfr.isF
    injection hF6 with hF6
    injection hF6 with hF6
    simp only[List.cons.injEq,and_true,Value.bool.injEq]at hF6
    obtain⟨rfl,rfl,rfl⟩:=hF6
    have HG:=zH hg
    have HCR:=zH hcr
    have HFR:=zH hfr
    have HBR:=zH hbr
    clear HCT HVT HBT hg hcr hfr
    obtain⟨_,c0,c1,c2,_,_,_⟩:=HC8.out.belowS hbr
    by_cases hkl:k<vn1
    ·have hkl3:k<(ztr l).length:=by rw[zbq,HM.out];exact hkl
     have hcl:=(HL8.out.below hbr).at' k hkl3
     rw[zct (by rw[HM.out];exact hkl)]at hcl
     have hsl:=HSO.out.lt k (by rw[HM.out];exact hkl)
     rw[HRL.out]at hsl
     have HPR:Hid (fits ((qs c.raw.start).getD (l.getD k 0) 0*x k)):=zH (HSU.out.fp k (by rw[HM.out];exact hkl))
     have HSG:Hid (fits ((0:Rat)+sg k fun i=>(qs c.raw.start).getD (l.getD i 0) 0*x i)/\fits ((0:Rat)+sg (k+1) fun i=>(qs c.raw.start).getD (l.getD i 0) 0*x i)):=zH ⟨HSU.out.fs k (by rw[HM.out];omega),HSU.out.fs (k+1) (by rw[HM.out];omega)⟩
     have HFX:Hid (fits (x k)):=zH (HSU.out.fx k (by rw[HM.out];exact hkl))
     have HSE:Hid ((0:Rat)+(sg k fun i=>(qs c.raw.start).getD (l.getD i 0) 0*x i)+(qs c.raw.start).getD (l.getD k 0) 0*x k=(0:Rat)+sg (k+1) fun i=>(qs c.raw.start).getD (l.getD i 0) 0*x i):=zH (by rw[Rat.add_assoc];rfl)
     obtain⟨s,hs⟩:∃s,l.getD k 0=s:=⟨_,rfl⟩
     rw[hs]at hcl hsl HPR HSE
     obtain⟨ts,as1,ls1,ks1,as2,ls2,ks2,g1,g2,g3,hfs⟩:=(HST8.out.below hbr).cellsAt (k:=s) (by rw[HN.out];exact hsl)
     have HQF:=zH (HSF.out s hsl)
     rw[show qs c.raw.start=c.start from qs_ofs _]at HPR
     have HSE:Hid ((0:Rat)+(sg k fun i=>(qs c.raw.start).getD (l.getD i 0) 0*x i)+c.start.getD s 0*x k=(0:Rat)+sg (k+1) fun i=>(qs c.raw.start).getD (l.getD i 0) 0*x i):=zH (by have h:=HSE.out;rwa[show(qs c.raw.start).getD s 0=c.start.getD s 0 from by rw[show qs c.raw.start=c.start from qs_ofs _]]at h)
     obtain⟨y,hy⟩:∃y,c.start.getD s 0=y:=⟨_,rfl⟩
     rw[hy]at hfs HQF HPR HSE
     obtain⟨tx,ax1,lx1,kx1,ax2,lx2,kx2,p1,p2,p3,hfx⟩:=(HX8.out.below hbr).cellsAt (k:=k) (by rw[zea];exact hkl)
     rw[zuv hkl]at hfx
     obtain⟨z,hze⟩:∃z,x k=z:=⟨_,rfl⟩
     rw[hze]at hfx HPR HFX HSE
     have HYN:=zH hfs
     have HZC:=zH hfx
     have S0:=zH (And.intro c1 (And.intro hcl (And.intro g1 (And.intro g2 (And.intro g3 (And.intro p1 (And.intro p2 p3)))))))
     have j3:(0:Int)<=(k:Int):=by omega
     have j4:(k:Int)<(vn1:Nat):=by omega
     have k3:(0:Int)<=(s:Int):=by omega
     have k4:(s:Int)<(ln:Nat):=by omega
     clear hfs hfx hy g1 g2 g3 p1 p2 p3 c0 c1 c2 hs hze hcl
     go_wp2_with fail
     go_cut [12,13] (fun u20 u21 wy=>∃ (b20:Nat) (t':Bool) (x' y':Value),u20= .pointer (some ⟨b20,0,none⟩)/\u21= .int .i64 0/\C3 wy b20 (.bool t') x' y'/\zqa wy (.agg #[.bool t',x',y']) (y*z)/\Below wq.heap.size wq wy/\wq.heap.size<=b20)
     case first =>
      go_region_held3 (fun w'=>w'.cell? ⟨bc,1,none⟩=some (.slice sa ln sk)/\w'.cell? (ptr (.slice va1 vn1 vk1) k)=some (.int .i64 s)/\w'.cell? (ptr (.slice sa ln sk) (s*3))=some (.bool ts)/\w'.cell? (ptr (.slice sa ln sk) (s*3+1))=some (.slice as1 ls1 ks1)/\w'.cell? (ptr (.slice sa ln sk) (s*3+2))=some (.slice as2 ls2 ks2)/\w'.cell? (ptr (.slice x1 vn1 x3) (k*3))=some (.bool tx)/\w'.cell? (ptr (.slice x1 vn1 x3) (k*3+1))=some (.slice ax1 lx1 kx1)/\w'.cell? (ptr (.slice x1 vn1 x3) (k*3+2))=some (.slice ax2 lx2 kx2)/\Below wq.heap.size wq w') (first
       | with_reducible exact kp8a S0.out (zja _)
       | with_reducible exact kp8w (by assumption) (zca _ _)
       | with_reducible exact kp8w (by assumption) (by assumption)
       | with_reducible exact kp8a S0.out (zaa hB32 (zca _ _))
       | with_reducible exact kp8s S0.out hB32 (zLR _) _ _ _
       | with_reducible exact kp8s S0.out hB32 hB31.size _ _ _
       | with_reducible exact kp8s S0.out (zaa hB32 (zca _ _)) hB32.size _ _ _) (first
       |(go_at_call 38;
         (with_reducible refine(r2mul_can _ _ y z _ (HYN.out.below (zhw (by assumption))) (HZC.out.below (zhw (by assumption))) HQF.out HFX.out HPR.out).mono ?_);rintro e32 w32 ⟨v32,rfl,hv32,hb32⟩
         obtain⟨t32,x32,y32,rfl,⟨a321,l321,k321,rfl,_⟩,⟨a322,l322,k322,rfl,_⟩⟩:=hv32.isF
         have hB32:=zaa (zhw (by assumption)) hb32
         have hc6:=(fun(p:Addr) hp=>hb32.cell (p:=p) hp)
         have hf6:=(fun(p:Addr) hp=>hb32.frozen (p:=p) hp)
         have zq2:=hb32.size
         (try simp only[zfk,zvo]at zq2)
         (try have z2:wq.heap.size<w32.heap.size:=(by omega))))
      all_goals
       have hE:=zhw (by assumption)
       go_wp2_with fail
       go_meet
       case rel=>
        first
         | exact⟨_,_,_,_,rfl,rfl,C3.new w32 _ _ _ _,hv32.below (zca _ _),hE,hB32.size⟩
         | exact⟨_,_,_,_,rfl,rfl,((C3.newB (b:=wq.heap.size) wq.drew 38 (.bool false) (.slice none 0 0) (.slice none 0 0) rfl).belowS hb32).set _ _ _,hv32.set3 ((C3.newB (b:=wq.heap.size) wq.drew 38 (.bool false) (.slice none 0 0) (.slice none 0 0) rfl).belowS hb32) (fun z=>by simp) (fun z=>by simp) _ _ _,hE,zLR _⟩
     case rest=>
      obtain⟨b20,tz,xz,yz,rfl,rfl,hC6,hv6,hb6,hbb⟩:=hcut
      obtain⟨W9,hw3⟩:∃w3,w3=wc:=⟨_,rfl⟩
      subst hw3
      have hCR6:=HCR.out.belowS hb6
      have HCR6:=zH hCR6
      have HFR6:=zH (HFR.out.below hb6)
      have HB6:=zH (zfa HBR.out hb6 HBR.out.size)
      have HV6:=zH hv6
      obtain⟨_,d0,d1,d2,f0,f1,f2⟩:=hCR6
      obtain⟨_,e0,e1,e2,_,_,_⟩:=hC6
      clear hv6 hb6 S0 HCR HFR HBR hbr HYN HZC
      go_wp2_with (first
       |(go_at_call 19;(with_reducible refine(zhv _ _ _ (y*z) _ HFR6.out HV6.out HSG.out.1 HPR.out (by rw[HSE.out];exact HSG.out.2)).mono ?_);rw[HSE.out];rintro e8 w18 ⟨v8,rfl,hv8,hb8⟩
         obtain⟨t9,x9,y9,rfl,⟨a91,l91,k91,rfl,_⟩,⟨a92,l92,k92,rfl,_⟩⟩:=hv8.isF
         have hCR9:=HCR6.out.belowS hb8
         have HCR9:=zH hCR9
         have HB9:=zH (zfa HB6.out hb8 HB6.out.size)
         have HV9:=zH hv8
         obtain⟨_,r0,r1,r2,q0,q1,q2⟩:=hCR9
         clear hv8 hb8))
      go_roundg (vn1- (k+1))
      case measure=>(have:=HG.out;omega)
      case rel=>
       exact⟨k+1,_,_,_,by omega,rfl,by go_num,HCR9.out.set _ _ _,HV9.out.set3 HCR9.out (fun z=>by simp) (fun z=>by simp) _ _ _,zga HB9.out (zLR _) _ _ _⟩
    ·obtain rfl:vn1=k:=by omega
     obtain⟨_,d0,d1,d2,_,_,_⟩:=HCR.out
     have HR6R:=zH (HR8.out.belowS hbr)
     obtain⟨_,r0,r1,r2,q0,q1,q2⟩:=HR6R.out
     clear c0 c1 c2
     go_wp2_with fail
     refine zoa rfl rfl Tryz.aggF Tryz.sizeF (HR6R.out.set _ _ _) rfl ?_
     refine Or.inl ⟨HSURE.out,_,rfl,?_,zga (zaa HBW8.out hbr) (by rw[<-HBC.out];omega) _ _ _⟩
     rw[<-HRR.out,HM.out]
     exact HFR.out.set3 HR6R.out (fun z=>by simp) (fun z=>by simp) _ _ _
end Go.Proofs.YtlpdkbmmbdfoiaaGreat
