/- Lemmas. -/
import Derived.Test.YtlpdkbmmbdfoiaaGreatERr4
import Derived.Test.YtlpdkbmmbdfoiaaGreatERr3
set_option linter.unusedVariables false
set_option linter.unusedSimpArgs false
namespace Go.Proofs.YtlpdkbmmbdfoiaaGreat
open Go.RowKit
def refX (mb:Bool) (c:RC) (l:List Nat) (j:Nat):Rat:=(elim false l.length (zpa l.length (zis c l) (fun i _=>bqE mb c l i)) l.length).A j l.length/(elim false l.length (zpa l.length (zis c l) (fun i _=>bqE mb c l i)) l.length).A j j
structure RsumP (c:RC) (l:List Nat) (x:Nat->Rat) (S:Rat):Prop where
 fx:∀i,i<l.length->fits (x i)
 fp:∀i,i<l.length->fits ((qs c.start).getD (l.getD i 0) 0*x i)
 fs:∀k,k<=l.length->fits (S+sg k fun i=>(qs c.start).getD (l.getD i 0) 0*x i)
theorem zaw (va vl:Value) (mb:Bool) (c:CQ) (l:List Nat) (x:Nat->Rat) (w:World) (ha:zlq w va c) (hv:zzp c.raw) (hl:zgv w vl (ztr l)) (hp:RsolP c.raw l mb) (hx:∀j,j<l.length->refX mb c.raw l j=x j):
 Calls Tryz.prog 178 #[va,vl, .bool mb] w (fun e w'=>∃v,e= .returned (.tuple #[v, .int .i64 0])/\zbb w' v (zib l.length x)/\Below w.heap.size w w'):=by
 have h:=rsolve21_any va vl mb c l w ha hv hl hp
 refine h.mono fun e w' ⟨v,h1,h2,h3⟩=>⟨v,h1,?_,h3⟩
 rw[<-zdf (f:=refX mb c.raw l) (g:=x) hx]
 exact h2
set_option maxRecDepth 100000 in
set_option maxHeartbeats 12800000 in
theorem rhit_any (va:Value) (c:CQ) (R:Rat) (w:World) (ha:zlq w va c) (hv:zzp c.raw) (hf:∀k,k<=c.raw.rates.length->fits (lst c.raw k))
 (hp:∀l,zvq c.raw l->∃x,RsolP c.raw l false/\(∀j,j<l.length->refX false c.raw l j=x j)/\RsumP c.raw l x (lst c.raw c.raw.rates.length)/\lst c.raw c.raw.rates.length+sg l.length (fun i=>(qs c.raw.start).getD (l.getD i 0) 0*x i)=R):
 Calls Tryz.prog 121 #[va] w (RF0 w R):=by
 have HP:=zH hp
 have HFT:=zH hf
 clear hp hf
 have hlen:c.rates.length=c.start.length:=by have h:=hv.2.2.2.1;simpa [CQ.raw]using h
 have hrl:c.raw.rates.length=c.rates.length:=by simp[CQ.raw]
 have hlol:c.lost.length=c.start.length:=by have h:=hv.2.2.1;simpa [CQ.raw]using h
 have h128:c.start.length<=128:=by have h:=hv.2.1;simpa [CQ.raw]using h
 obtain⟨n,hn⟩:∃n,c.start.length=n:=⟨_,rfl⟩
 rw[hn]at hlen hlol h128
 obtain⟨rv,sv,lv,rfl,hr,hs,hlo⟩:=id ha
 obtain⟨ra,rn,rk,rfl,_⟩:=id hr.sl
 obtain⟨sa,sn,sk,rfl,_⟩:=id hs.sl
 obtain⟨la,ln,lk,rfl,_⟩:=id (zhc.sl hlo)
 have hrn:rn=n:=hr.len.trans hlen
 have hsn:sn=n:=hs.len.trans hn
 have hln:ln=n:=by have h:ln=c.lost.length:=hlo.len;omega
 subst hrn
 obtain rfl:sn=rn:=hsn
 obtain rfl:ln=sn:=hln
 have hbx:=zca w (.cells #[.slice ra ln rk, .slice sa ln sk, .slice la ln lk] 28)
 have hb2:=zca (w.alloc (.cells #[.slice ra ln rk, .slice sa ln sk, .slice la ln lk] 28)) (.cells #[.bool false, .slice none 0 0, .slice none 0 0] 38)
 have HC:=zH ((C3.new w 28 (.slice ra ln rk) (.slice sa ln sk) (.slice la ln lk)).belowS hb2)
 have HR:=zH (C3.newB (b:=w.heap.size+1) (w.alloc (.cells #[.slice ra ln rk, .slice sa ln sk, .slice la ln lk] 28)) 38 (.bool false) (.slice none 0 0) (.slice none 0 0) (by simp))
 have HBW:=zH (zaa hbx hb2)
 have HST:=zH (hs.below HBW.out)
 have HA:=zH (ha.below HBW.out)
 have srt:=hr.sl
 have sst:=hs.sl
 have slo:=zhc.sl hlo
 have HV:=zH hv
 have HN:=zH hn
 have HRL:Hid (c.raw.rates.length=ln):=zH (hrl.trans hlen)
 have HSF:Hid (∀s,s<ln->fits (c.start.getD s 0)):=zH (fun s hs=>by
  have hs2:s<c.start.length:=by rw[hn];exact hs
  have h:=RF.fits (hv.2.2.2.2.1.ok (RF.of (c.start[s]'hs2)) (List.mem_map.2 ⟨_,zGM hs2,rfl⟩))
  rw[RF.of_q]at h
  rw[zGD,zGE hs2];exact h)
 clear hr hs hlo ha hv hlen hrl hlol hn hbx hb2
 go_enter Tryz.func121,Tryz.ntmps121
 go_upto_region 1 with fail
 obtain⟨bc,hbc⟩:∃b,w.heap.size=b:=⟨_,rfl⟩
 have HBC:=zH hbc
 rw[hbc]at HC HR |-
 clear hbc
 generalize (w.alloc (.cells #[.slice ra ln rk, .slice sa ln sk, .slice la ln lk] 28)).alloc (.cells #[.bool false, .slice none 0 0, .slice none 0 0] 38)=W2 at *
 obtain⟨_,c0,c1,c2,_,_,_⟩:=HC.out
 go_upto_region 8 with(first
  |(go_at_call 120;(with_reducible refine(zkv _ c.raw _ HA.out.raw HV.out).mono ?_);rintro e3 w3 ⟨v3,l,rfl,hv3,hal,hb3⟩
    have HL3:=zH hv3
    obtain⟨x,hx⟩:=HP.out l hal
    have HSO:=zH hx.1
    have HXE:=zH hx.2.1
    have HSU:=zH hx.2.2.1
    have HRR:=zH hx.2.2.2
    obtain⟨m,hm⟩:∃m,l.length=m:=⟨_,rfl⟩
    have HM:=zH hm
    have hl20:=hx.1.le
    rw[hm]at hl20
    have sv3:=zhc.sl hv3
    have lv3:slen v3=m:=by have h:=zhc.len hv3;rw[List.length_map,zbq,hm]at h;exact h
    obtain⟨va1,vn1,vk1,rfl,_⟩:=id (zhc.sl hv3)
    obtain rfl:vn1=m:=lv3
    have HC3:=zH (HC.out.belowS hb3)
    have HR3:=zH (HR.out.belowS hb3)
    have HA3:=zH (HA.out.below hb3)
    have HST3:=zH (HST.out.below hb3)
    have HBW3:=zH (zaa HBW.out hb3)
    clear hv3 hal hb3 HP hx hm c0 c1 c2
    obtain⟨_,c0,c1,c2,_,_,_⟩:=HC3.out)
  |(go_at_call 178;(with_reducible refine(zaw _ _ false c l x _ HA3.out HV.out HL3.out HSO.out HXE.out).mono ?_);rintro e4 w4 ⟨v4,rfl,hx4,hb4⟩
    obtain⟨x1,x2,x3,rfl,_⟩:=id hx4.sl
    have hx2:vn1=x2:=by have h:=hx4.len;rw[zea,HM.out]at h;exact h.symm
    subst hx2
    have slx:=hx4.sl
    have HX4:=zH hx4
    have HC4:=zH (HC3.out.belowS hb4)
    have HR4:=zH (HR3.out.belowS hb4)
    have HA4:=zH (HA3.out.below hb4)
    have HL4:=zH (HL3.out.below hb4)
    have HST4:=zH (HST3.out.below hb4)
    have HBW4:=zH (zaa HBW3.out hb4)
    clear hx4 hb4 c0 c1 c2
    obtain⟨_,c0,c1,c2,_,_,_⟩:=HC4.out)
  |(go_at_call 179;(with_reducible refine(rlost_any _ c.raw _ HA4.out.raw HV.out HFT.out).mono ?_);rintro e8 w8 ⟨v8,rfl,hv8,hb8⟩
    obtain⟨t8,x8,y8,rfl,⟨a81,l81,k81,rfl,_⟩,⟨a82,l82,k82,rfl,_⟩⟩:=hv8.isF
    have hba:=zca w8 (.cells #[.bool t8, .slice a81 l81 k81, .slice a82 l82 k82] 38)
    have HCT:=zH (C3.new w8 38 (.bool t8) (.slice a81 l81 k81) (.slice a82 l82 k82))
    have HVT:=zH (hv8.below hba)
    have HBT:=zH hba
    have HC8:=zH (HC4.out.belowS hb8)
    have HR8:=zH (HR4.out.belowS hb8)
    have HL8:=zH (HL4.out.below hb8)
    have HX8:Hid (zbb w8 (.slice x1 vn1 x3) (zib vn1 x)):=zH (by have h:=HX4.out.below hb8;rwa[HM.out]at h)
    have HST8:=zH (HST4.out.below hb8)
    have HBW8:=zH (zaa HBW4.out hb8)
    clear hv8 hba hb8 c0 c1 c2 HC3 HC4 HR3 HR4 HL3 HL4 HX4 HST3 HST4 HBW3 HBW4 HA3 HA4 HC HR HA HST HBW))
 generalize w8.alloc (.cells #[.bool t8, .slice a81 l81 k81, .slice a82 l82 k82] 38)=W8 at *
 rw[HRL.out]at HVT HSU HRR
 obtain⟨LS,hLS⟩:∃S,lst c.raw ln=S:=⟨_,rfl⟩
 rw[hLS]at HVT HSU HRR
 clear hLS
 go_wp2_with fail
 go_loopg [8] (vn1) (fun g ui wr=>∃ (k:Nat) (t':Bool) (x' y':Value),k<=vn1/\g=vn1-k/\ui= .int .i64 k/\C3 wr w8.heap.size (.bool t') x' y'/\zqa wr (.agg #[.bool t',x',y']) (LS+sg k fun i=>(qs c.raw.start).getD (l.getD i 0) 0*x i)/\Below w8.heap.size w8 wr)
 case atStart=>exact⟨0,_,_,_,zZL _,rfl,rfl,HCT.out,by show zqa _ _ (LS+0);rw[Rat.add_zero];exact HVT.out,HBT.out⟩
 case round=>
  obtain⟨k,t',x',y',hkn,hg,rfl,hcr,hfr,hbr⟩:=hrel
  obtain⟨wq,hwq⟩:∃w6,w6=wr:=⟨_,rfl⟩
  subst hwq
  obtain⟨_,_,_,hF6,⟨c81,m81,n81,rfl,_⟩,⟨c82,m82,n82,rfl,_⟩⟩:=hfr.isF
  injection hF6 with hF6
  injection hF6 with hF6
  simp only[List.cons.injEq,and_true,Value.bool.injEq]at hF6
  obtain⟨rfl,rfl,rfl⟩:=hF6
  have HG:=zH hg
  have HCR:=zH hcr
  have HFR:=zH hfr
  have HBR:=zH hbr
  clear HCT HVT HBT hg hcr hfr
  obtain⟨_,c0,c1,c2,_,_,_⟩:=HC8.out.belowS hbr
  by_cases hkl:k<vn1
  ·have hkl3:k<(ztr l).length:=by rw[zbq,HM.out];exact hkl
   have hcl:=(HL8.out.below hbr).at' k hkl3
   rw[zct (by rw[HM.out];exact hkl)]at hcl
   have hsl:=HSO.out.lt k (by rw[HM.out];exact hkl)
   rw[HRL.out]at hsl
   have HPR:Hid (fits ((qs c.raw.start).getD (l.getD k 0) 0*x k)):=zH (HSU.out.fp k (by rw[HM.out];exact hkl))
   have HSG:Hid (fits (LS+sg k fun i=>(qs c.raw.start).getD (l.getD i 0) 0*x i)/\fits (LS+sg (k+1) fun i=>(qs c.raw.start).getD (l.getD i 0) 0*x i)):=zH ⟨HSU.out.fs k (by rw[HM.out];omega),HSU.out.fs (k+1) (by rw[HM.out];omega)⟩
   have HFX:Hid (fits (x k)):=zH (HSU.out.fx k (by rw[HM.out];exact hkl))
   have HSE:Hid (LS+(sg k fun i=>(qs c.raw.start).getD (l.getD i 0) 0*x i)+(qs c.raw.start).getD (l.getD k 0) 0*x k=LS+sg (k+1) fun i=>(qs c.raw.start).getD (l.getD i 0) 0*x i):=zH (by rw[Rat.add_assoc];rfl)
   obtain⟨s,hs⟩:∃s,l.getD k 0=s:=⟨_,rfl⟩
   rw[hs]at hcl hsl HPR HSE
   obtain⟨ts,as1,ls1,ks1,as2,ls2,ks2,g1,g2,g3,hfs⟩:=(HST8.out.below hbr).cellsAt (k:=s) (by rw[HN.out];exact hsl)
   have HQF:=zH (HSF.out s hsl)
   rw[show qs c.raw.start=c.start from qs_ofs _]at HPR
   have HSE:Hid (LS+(sg k fun i=>(qs c.raw.start).getD (l.getD i 0) 0*x i)+c.start.getD s 0*x k=LS+sg (k+1) fun i=>(qs c.raw.start).getD (l.getD i 0) 0*x i):=zH (by have h:=HSE.out;rwa[show(qs c.raw.start).getD s 0=c.start.getD s 0 from by rw[show qs c.raw.start=c.start from qs_ofs _]]at h)
   obtain⟨y,hy⟩:∃y,c.start.getD s 0=y:=⟨_,rfl⟩
   rw[hy]at hfs HQF HPR HSE
   obtain⟨tx,ax1,lx1,kx1,ax2,lx2,kx2,p1,p2,p3,hfx⟩:=(HX8.out.below hbr).cellsAt (k:=k) (by rw[zea];exact hkl)
   rw[zuv hkl]at hfx
   obtain⟨z,hze⟩:∃z,x k=z:=⟨_,rfl⟩
   rw[hze]at hfx HPR HFX HSE
   have HYN:=zH hfs
   have HZC:=zH hfx
   have S0:=zH (And.intro c1 (And.intro hcl (And.intro g1 (And.intro g2 (And.intro g3 (And.intro p1 (And.intro p2 p3)))))))
   have j3:(0:Int)<=(k:Int):=by omega
   have j4:(k:Int)<(vn1:Nat):=by omega
   have k3:(0:Int)<=(s:Int):=by omega
   have k4:(s:Int)<(ln:Nat):=by omega
   clear hfs hfx hy g1 g2 g3 p1 p2 p3 c0 c1 c2 hs hze hcl
   go_wp2_with fail
   go_cut [9,10] (fun u20 u21 wy=>∃ (b20:Nat) (t':Bool) (x' y':Value),u20= .pointer (some ⟨b20,0,none⟩)/\u21= .int .i64 0/\C3 wy b20 (.bool t') x' y'/\zqa wy (.agg #[.bool t',x',y']) (y*z)/\Below wq.heap.size wq wy/\wq.heap.size<=b20)
   case first =>
    go_region_held3 (fun w'=>w'.cell? ⟨bc,1,none⟩=some (.slice sa ln sk)/\w'.cell? (ptr (.slice va1 vn1 vk1) k)=some (.int .i64 s)/\w'.cell? (ptr (.slice sa ln sk) (s*3))=some (.bool ts)/\w'.cell? (ptr (.slice sa ln sk) (s*3+1))=some (.slice as1 ls1 ks1)/\w'.cell? (ptr (.slice sa ln sk) (s*3+2))=some (.slice as2 ls2 ks2)/\w'.cell? (ptr (.slice x1 vn1 x3) (k*3))=some (.bool tx)/\w'.cell? (ptr (.slice x1 vn1 x3) (k*3+1))=some (.slice ax1 lx1 kx1)/\w'.cell? (ptr (.slice x1 vn1 x3) (k*3+2))=some (.slice ax2 lx2 kx2)/\Below wq.heap.size wq w') (first
     | with_reducible exact kp8a S0.out (zja _)
     | with_reducible exact kp8w (by assumption) (zca _ _)
     | with_reducible exact kp8w (by assumption) (by assumption)
     | with_reducible exact kp8a S0.out (zaa hB32 (zca _ _))
     | with_reducible exact kp8s S0.out hB32 (zLR _) _ _ _
     | with_reducible exact kp8s S0.out hB32 hB31.size _ _ _
     | with_reducible exact kp8s S0.out (zaa hB32 (zca _ _)) hB32.size _ _ _) (first
     |(go_at_call 38;
       (with_reducible refine(r2mul_can _ _ y z _ (HYN.out.below (zhw (by assumption))) (HZC.out.below (zhw (by assumption))) HQF.out HFX.out HPR.out).mono ?_);rintro e32 w32 ⟨v32,rfl,hv32,hb32⟩
       obtain⟨t32,x32,y32,rfl,⟨a321,l321,k321,rfl,_⟩,⟨a322,l322,k322,rfl,_⟩⟩:=hv32.isF
       have hB32:=zaa (zhw (by assumption)) hb32
       have hc6:=(fun(p:Addr) hp=>hb32.cell (p:=p) hp)
       have hf6:=(fun(p:Addr) hp=>hb32.frozen (p:=p) hp)
       have zq2:=hb32.size
       (try simp only[zfk,zvo]at zq2)
       (try have z2:wq.heap.size<w32.heap.size:=(by omega))))
    all_goals
     have hE:=zhw (by assumption)
     go_wp2_with fail
     go_meet
     case rel=>
      first
       | exact⟨_,_,_,_,rfl,rfl,C3.new w32 _ _ _ _,hv32.below (zca _ _),hE,hB32.size⟩
       | exact⟨_,_,_,_,rfl,rfl,((C3.newB (b:=wq.heap.size) wq.drew 38 (.bool false) (.slice none 0 0) (.slice none 0 0) rfl).belowS hb32).set _ _ _,hv32.set3 ((C3.newB (b:=wq.heap.size) wq.drew 38 (.bool false) (.slice none 0 0) (.slice none 0 0) rfl).belowS hb32) (fun z=>by simp) (fun z=>by simp) _ _ _,hE,zLR _⟩
   case rest=>
    obtain⟨b20,tz,xz,yz,rfl,rfl,hC6,hv6,hb6,hbb⟩:=hcut
    obtain⟨W9,hw3⟩:∃w3,w3=wc:=⟨_,rfl⟩
    subst hw3
    have hCR6:=HCR.out.belowS hb6
    have HCR6:=zH hCR6
    have HFR6:=zH (HFR.out.below hb6)
    have HB6:=zH (zfa HBR.out hb6 HBR.out.size)
    have HV6:=zH hv6
    obtain⟨_,d0,d1,d2,f0,f1,f2⟩:=hCR6
    obtain⟨_,e0,e1,e2,_,_,_⟩:=hC6
    clear hv6 hb6 S0 HCR HFR HBR hbr HYN HZC
    go_wp2_with (first
     |(go_at_call 19;(with_reducible refine(zhv _ _ _ (y*z) _ HFR6.out HV6.out HSG.out.1 HPR.out (by rw[HSE.out];exact HSG.out.2)).mono ?_);rw[HSE.out];rintro e8 w18 ⟨v8,rfl,hv8,hb8⟩
       obtain⟨t9,x9,y9,rfl,⟨a91,l91,k91,rfl,_⟩,⟨a92,l92,k92,rfl,_⟩⟩:=hv8.isF
       have hCR9:=HCR6.out.belowS hb8
       have HCR9:=zH hCR9
       have HB9:=zH (zfa HB6.out hb8 HB6.out.size)
       have HV9:=zH hv8
       obtain⟨_,r0,r1,r2,q0,q1,q2⟩:=hCR9
       clear hv8 hb8))
    go_roundg (vn1- (k+1))
    case measure=>(have:=HG.out;omega)
    case rel=>
     exact⟨k+1,_,_,_,by omega,rfl,by go_num,HCR9.out.set _ _ _,HV9.out.set3 HCR9.out (fun z=>by simp) (fun z=>by simp) _ _ _,zga HB9.out (zLR _) _ _ _⟩
  ·obtain rfl:vn1=k:=by omega
   obtain⟨_,d0,d1,d2,_,_,_⟩:=HCR.out
   have HR6R:=zH (HR8.out.belowS hbr)
   obtain⟨_,r0,r1,r2,q0,q1,q2⟩:=HR6R.out
   clear c0 c1 c2
   go_wp2_with fail
   refine zoa rfl rfl Tryz.aggF Tryz.sizeF (HR6R.out.set _ _ _) rfl ?_
   refine⟨_,rfl,?_,zga (zaa HBW8.out hbr) (by rw[<-HBC.out];omega) _ _ _⟩
   rw[<-HRR.out,HM.out]
   exact HFR.out.set3 HR6R.out (fun z=>by simp) (fun z=>by simp) _ _ _
end Go.Proofs.YtlpdkbmmbdfoiaaGreat
