/- Lemmas. -/
import Derived.Test.YtlpdkbmmbdfoiaaGreatERr8
import Derived.Test.YtlpdkbmmbdfoiaaGreatRows
import Derived.OpenShut
set_option linter.unusedVariables false
set_option linter.unusedSimpArgs false
namespace Go.Proofs.YtlpdkbmmbdfoiaaGreat
open Go.RowKit
set_option maxRecDepth 100000 in
set_option maxHeartbeats 3200000 in
theorem after_rated (va vx:Value) (c:RC) (t1:Bool) (nr dr:Nat) (m:Int) (w:World) (ha:zdq w va c) (hv:zzp c) (hx:zdc w vx t1 nr dr) (hp:¬zfr t1 nr dr):
 Calls Tryz.prog 48 #[va,vx, .int .i64 m] w (RSt w 1 []):=by
 obtain⟨rv,sv,lv,rfl,hr,hs,hl⟩:=id ha
 obtain⟨ra,rn,rk,rfl,_⟩:=id hr.sl
 obtain⟨sa,sn,sk,rfl,_⟩:=id hs.sl
 obtain⟨la,ln,lk,rfl,_⟩:=id (zhc.sl hl)
 obtain⟨x1,y1,rfl,hx4,hx5⟩:=id hx
 obtain⟨a11,l11,k11,rfl,_⟩:=hx4.slen.1
 obtain⟨a12,l12,k12,rfl,_⟩:=hx5.slen.1
 have hbx:=zca w (.cells #[.slice ra rn rk, .slice sa sn sk, .slice la ln lk] 28)
 have hb2:=zca (w.alloc (.cells #[.slice ra rn rk, .slice sa sn sk, .slice la ln lk] 28)) (.cells #[.bool t1, .slice a11 l11 k11, .slice a12 l12 k12] 38)
 have HC:=zH ((C3.new w 28 (.slice ra rn rk) (.slice sa sn sk) (.slice la ln lk)).belowS hb2)
 have HR:=zH (C3.newB (b:=w.heap.size+1) (w.alloc (.cells #[.slice ra rn rk, .slice sa sn sk, .slice la ln lk] 28)) 38 (.bool t1) (.slice a11 l11 k11) (.slice a12 l12 k12) (by simp))
 have HBW:=zH (zaa hbx hb2)
 have hsn:sn=c.start.length:=hs.len
 have HA:=zH (ha.below HBW.out)
 have HX:=zH (hx.below HBW.out)
 have HV:=zH hv
 clear hr hs hl ha hv hbx hb2 hx hx4 hx5
 have HRT:Hid (∀w0 va vx,zdq w0 va c->zdc w0 vx t1 nr dr->Calls Tryz.prog 81 #[va,vx] w0 (fun e w'=>e= .returned (.bool false)/\Below w0.heap.size w0 w')):=zH (fun w0 va vx k1 k2=>by
  by_cases hf:okN nr dr
  ·have h:=zpq va vx c t1 nr dr w0 k1 HV.out k2 hf
   have e:(!t1&& !decide (nr=0))=false:=by
    cases t1
    ·by_cases h0:nr=0
     ·rw[decide_eq_true h0];rfl
     ·exact absurd ⟨hf,rfl,h0⟩ hp
    ·rfl
   rw[e]at h
   exact h
  ·exact rated_no va vx c t1 nr dr w0 k1 HV.out k2 hf)
 clear hp hsn
 go_enter Tryz.func48,Tryz.ntmps48
 go_upto_region 1 with fail
 generalize (w.alloc (.cells #[.slice ra rn rk, .slice sa sn sk, .slice la ln lk] 28)).alloc (.cells #[.bool t1, .slice a11 l11 k11, .slice a12 l12 k12] 38)=W2 at *
 obtain⟨_,c0,c1,c2,_,_,_⟩:=HC.out
 obtain⟨_,d0,d1,d2,_,_,_⟩:=HR.out
 go_wp2_with (first
  |(go_at_call 81;(with_reducible refine(HRT.out _ _ _ HA.out HX.out).mono ?_);rintro e1 w1 ⟨rfl,hb1⟩
    have HB1:=zH (zaa HBW.out hb1))
  | fail)
 go_ret2
 exact RSt.nil rfl rfl HB1.out
theorem r2reduce_can (va:Value) (q:Rat) (w:World) (ha:zqa w va q) (hf:fits q):Calls Tryz.prog 116 #[va] w (RF0 w q):=by
 have h:=zmq va (RF.of q) w ha.raw (RF.of_ok hf)
 rw[RF.of_q]at h
 exact h
theorem zos (va vv:Value) (c:RC) (ρ:Rat) (i:Nat) (w:World) (n:Nat) (hv:zzp c) (hn:c.rates.length=n) (h1:1<=n) (h24:n<=24) (ha:zam w va n n (zfq c ρ)) (hvv:zbb w vv (itV c ρ i)) (hf:zau n n (zfq c ρ)) (hw:∀j,j<i->wtA c ρ j<=3800):
 Calls Tryz.prog 118 #[va,vv] w (RSt w (if wtA c ρ i<=3800 then 0 else 2) (if wtA c ρ i<=3800 then itV c ρ (i+1)else [])):=by
 have hq:qs ((itV c ρ i).map RF.of)=itV c ρ i:=zvh _
 have h:=zpt va vv c ρ ((itV c ρ i).map RF.of) w n hn ha hvv.raw (by rw[List.length_map,znq hv,hn]) h1 h24 (fun x hx=>by
  obtain⟨y,hy,rfl⟩:=List.mem_map.1 hx
  exact RF.of_ok (zbt hv i hw y hy)) hf
 rw[hq]at h
 exact h
set_option maxRecDepth 100000 in
set_option maxHeartbeats 3200000 in
theorem rafter_rated (va vx:Value) (c:CQ) (t1:Bool) (nr dr:Nat) (m:Int) (w:World) (ha:zlq w va c) (hv:zzp c.raw) (hx:zdc w vx t1 nr dr) (hp:¬zfr t1 nr dr):
 Calls Tryz.prog 51 #[va,vx, .int .i64 m] w (RSt w 1 []):=by
 have hlen:c.rates.length=c.start.length:=by have h:=hv.2.2.2.1;simpa [CQ.raw]using h
 have hrl:c.raw.rates.length=c.rates.length:=by simp[CQ.raw]
 have hsl:c.raw.start.length=c.start.length:=by simp[CQ.raw]
 obtain⟨rv,sv,lv,rfl,hr,hs,hl9⟩:=id ha
 obtain⟨ra,rn,rk,rfl,_⟩:=id hr.sl
 obtain⟨sa,sn,sk,rfl,_⟩:=id hs.sl
 obtain⟨la,ln,lk,rfl,_⟩:=id (zhc.sl hl9)
 obtain⟨x1,y1,rfl,hx4,hx5⟩:=id hx
 obtain⟨a11,l11,k11,rfl,_⟩:=hx4.slen.1
 obtain⟨a12,l12,k12,rfl,_⟩:=hx5.slen.1
 have hsn:sn=c.start.length:=hs.len
 have hbx:=zca w (.cells #[.slice ra rn rk, .slice sa sn sk, .slice la ln lk] 28)
 have hb2:=zca (w.alloc (.cells #[.slice ra rn rk, .slice sa sn sk, .slice la ln lk] 28)) (.cells #[.bool t1, .slice a11 l11 k11, .slice a12 l12 k12] 38)
 have HC:=zH ((C3.new w 28 (.slice ra rn rk) (.slice sa sn sk) (.slice la ln lk)).belowS hb2)
 have HC9:=zH (C3.newB (b:=w.heap.size+1) (w.alloc (.cells #[.slice ra rn rk, .slice sa sn sk, .slice la ln lk] 28)) 38 (.bool t1) (.slice a11 l11 k11) (.slice a12 l12 k12) (by simp))
 have HBW:=zH (zaa hbx hb2)
 have HS:=zH (hs.below HBW.out)
 have HA:=zH (ha.below HBW.out)
 have HX:=zH (hx.below HBW.out)
 have HV:=zH hv
 have HLEN:=zH (And.intro hlen (And.intro hrl hsl))
 have HSN:=zH hsn
 have ssn:=hs.sl
 clear hr hs hl9 ha hv hbx hb2 hx hx4 hx5 hlen hrl hsl
 have HPOS:Hid (∀w0 vx,zdc w0 vx t1 nr dr->Calls Tryz.prog 115 #[vx] w0 (fun e w'=>e= .returned (.bool false)/\Below w0.heap.size w0 w')):=zH (fun w0 vx k=>zkq vx t1 nr dr false w0 k ⟨fun h=>(by cases h),fun h=>absurd h hp⟩)
 clear hp hsn
 go_enter Tryz.func51,Tryz.ntmps51
 go_upto_region 1 with fail
 generalize (w.alloc (.cells #[.slice ra rn rk, .slice sa sn sk, .slice la ln lk] 28)).alloc (.cells #[.bool t1, .slice a11 l11 k11, .slice a12 l12 k12] 38)=W2 at *
 obtain⟨bc,hbc⟩:∃b,w.heap.size=b:=⟨_,rfl⟩
 have HBC:=zH hbc
 rw[hbc]at HC HC9 |-
 clear hbc
 obtain⟨_,c0,c1,c2,_,_,_⟩:=HC.out
 obtain⟨_,d0,d1,d2,_,_,_⟩:=HC9.out
 go_wp2_with (first
  |(go_at_call 69;(with_reducible refine(zjq _ c.raw _ HA.out.raw).mono ?_);rintro e1 w1 ⟨⟨bv,rfl,hbv⟩,hb1⟩;obtain rfl:bv=true:=hbv.2 HV.out;clear hbv
    have HX1:=zH (HX.out.below hb1)
    have HA1:=zH (HA.out.below hb1)
    have HB1:=zH (zaa HBW.out hb1)
    have HC1:=zH (HC.out.belowS hb1)
    have HC91:=zH (HC9.out.belowS hb1)
    have HS1:=zH (HS.out.below hb1)
    have HW1:=zH hb1
    clear hb1 c0 c1 c2 d0 d1 d2
    obtain⟨_,c0,c1,c2,_,_,_⟩:=HC1.out
    obtain⟨_,d0,d1,d2,_,_,_⟩:=HC91.out)
  |(go_at_call 115;(with_reducible refine(HPOS.out _ _ HX1.out).mono ?_);rintro e2 w2 ⟨rfl,hb2⟩
    have HX2:=zH (HX1.out.below hb2)
    have HA2:=zH (HA1.out.below hb2)
    have HB2:=zH (zaa HB1.out hb2)
    have HC2:=zH (HC1.out.belowS hb2)
    have HC92:=zH (HC91.out.belowS hb2)
    have HS2:=zH (HS1.out.below hb2)
    have HW2:=zH (zaa HW1.out hb2)
    clear hb2 c0 c1 c2 d0 d1 d2
    obtain⟨_,c0,c1,c2,_,_,_⟩:=HC2.out
    obtain⟨_,d0,d1,d2,_,_,_⟩:=HC92.out)
  | fail)
 go_ret2
 exact RSt.nil rfl rfl HB2.out
set_option maxRecDepth 100000 in
set_option maxHeartbeats 6400000 in
theorem rafter_ok (va vx:Value) (c:CQ) (t1:Bool) (nr dr:Nat) (q:Rat) (m:Nat) (w:World) (ha:zlq w va c) (hv:zzp c.raw) (h24:c.start.length<=24) (hx:zdc w vx t1 nr dr) (hp:zfr t1 nr dr) (hfq:fq t1 nr dr=q) (hm:m<=64) (hle:zyp c.raw c.raw.rates.length<=q) (hfe:zdu c.raw q) (hok:∀i,i<m->wtA c.raw q i<=3800):
 Calls Tryz.prog 51 #[va,vx, .int .i64 (m:Nat)] w (RSt w 0 (itV c.raw q m)):=by
 have HOK:=zH hok
 clear hok
 obtain⟨i3,hi3,hz3,hs3,hy3⟩:=info_parts Tryz.infoF
 have hAP:=zpp (P:=Tryz.prog) 25 38 i3 Tryz.underlying25 hi3 hz3 hs3 hy3
 clear hi3 hz3 hs3 hy3
 have h1:1<=c.start.length:=by have h:=hv.1;simpa [CQ.raw]using h
 have hlen:c.rates.length=c.start.length:=by have h:=hv.2.2.2.1;simpa [CQ.raw]using h
 have hrl:c.raw.rates.length=c.rates.length:=by simp[CQ.raw]
 have hsl:c.raw.start.length=c.start.length:=by simp[CQ.raw]
 obtain⟨rv,sv,lv,rfl,hr,hs,hl9⟩:=id ha
 obtain⟨ra,rn,rk,rfl,_⟩:=id hr.sl
 obtain⟨sa,sn,sk,rfl,_⟩:=id hs.sl
 obtain⟨la,ln,lk,rfl,_⟩:=id (zhc.sl hl9)
 obtain⟨x1,y1,rfl,hx4,hx5⟩:=id hx
 obtain⟨a11,l11,k11,rfl,_⟩:=hx4.slen.1
 obtain⟨a12,l12,k12,rfl,_⟩:=hx5.slen.1
 have hsn:sn=c.start.length:=hs.len
 have hbx:=zca w (.cells #[.slice ra rn rk, .slice sa sn sk, .slice la ln lk] 28)
 have hb2:=zca (w.alloc (.cells #[.slice ra rn rk, .slice sa sn sk, .slice la ln lk] 28)) (.cells #[.bool t1, .slice a11 l11 k11, .slice a12 l12 k12] 38)
 have HC:=zH ((C3.new w 28 (.slice ra rn rk) (.slice sa sn sk) (.slice la ln lk)).belowS hb2)
 have HC9:=zH (C3.newB (b:=w.heap.size+1) (w.alloc (.cells #[.slice ra rn rk, .slice sa sn sk, .slice la ln lk] 28)) 38 (.bool t1) (.slice a11 l11 k11) (.slice a12 l12 k12) (by simp))
 have HBW:=zH (zaa hbx hb2)
 have HS:=zH (hs.below HBW.out)
 have HA:=zH (ha.below HBW.out)
 have HX:=zH (hx.below HBW.out)
 have HV:=zH hv
 have HLEN:=zH (And.intro hlen (And.intro hrl hsl))
 have HSN:=zH hsn
 have ssn:=hs.sl
 clear hr hs hl9 ha hv hbx hb2 hx hx4 hx5 hlen hrl hsl
 have HPOS:Hid (∀w0 vx,zdc w0 vx t1 nr dr->Calls Tryz.prog 115 #[vx] w0 (fun e w'=>e= .returned (.bool true)/\Below w0.heap.size w0 w')):=zH (fun w0 vx k=>zkq vx t1 nr dr true w0 k ⟨fun _=>hp,fun _=>rfl⟩)
 have HF:=zH hp.1
 have HN0:=zH hp.2.2
 have HFQ:=zH hfq
 have HLF:=zH (zwq HV.out _ (zLR _))
 have HLN:Hid (c.raw.rates.length=c.start.length):=zH (by rw[HLEN.out.2.1,HLEN.out.1])
 have HDIM:Hid (1<=c.start.length/\c.start.length<=24):=zH ⟨h1,h24⟩
 have HFM:Hid (zau c.start.length c.start.length (zfq c.raw q)):=zH (by have h:=zrq hfe.1 hfe.2;rw[HLN.out]at h;exact h)
 have HM:Hid (∀w0 va vx,zlq w0 va c->zdc w0 vx t1 nr dr->Calls Tryz.prog 117 #[va,vx] w0 (fun e w'=>∃v,e= .returned (.tuple #[v, .bool true])/\zam w' v c.start.length c.start.length (zfq c.raw q)/\Below w0.heap.size w0 w')):=
  zH (fun w0 va vx k1 k2=>zbs va vx c t1 nr dr q w0 k1 HV.out HDIM.out.2 k2 HF.out HFQ.out HN0.out hfe)
 have HSF:Hid (∀k,k<c.start.length->fits (c.start.getD k 0)):=zH (fun k hk=>by
  have hk2:k<c.raw.start.length:=by rw[HLEN.out.2.2];exact hk
  have h:=RF.fits (HV.out.2.2.2.2.1.ok _ (zGM hk2))
  have e:(c.raw.start[k]'hk2).q=c.start.getD k 0:=by
   have e1:c.raw.start[k]'hk2=RF.of (c.start[k]'hk):=by simp[CQ.raw]
   rw[e1,RF.of_q,zGD,zGE hk,Option.getD_some]
  rw[e]at h;exact h)
 have HIT0:Hid (itV c.raw q 0=c.start):=zH (zvh c.start)
 obtain⟨L,hL⟩:∃L,zyp c.raw c.raw.rates.length=L:=⟨_,rfl⟩
 have HL2:=zH hL
 rw[hL]at HLF hle
 have HSLOW:Hid (decide (q<L)=false):=zH (decide_eq_false (Rat.not_lt.2 hle))
 have hm0:(0:Int)<=(m:Int):=by omega
 have hm64:(m:Int)<=64:=by omega
 have hsn24:sn<=24:=by omega
 clear hL hp hfq hle hfe h1 h24 hsn
 go_enter Tryz.func51,Tryz.ntmps51
 go_upto_region 1 with fail
 generalize (w.alloc (.cells #[.slice ra rn rk, .slice sa sn sk, .slice la ln lk] 28)).alloc (.cells #[.bool t1, .slice a11 l11 k11, .slice a12 l12 k12] 38)=W2 at *
 obtain⟨bc,hbc⟩:∃b,w.heap.size=b:=⟨_,rfl⟩
 have HBC:=zH hbc
 rw[hbc]at HC HC9 |-
 clear hbc
 obtain⟨_,c0,c1,c2,_,_,_⟩:=HC.out
 obtain⟨_,d0,d1,d2,_,_,_⟩:=HC9.out
 go_upto_region 4 with(first
  |(go_at_call 69;(with_reducible refine(zjq _ c.raw _ HA.out.raw).mono ?_);rintro e1 w1 ⟨⟨bv,rfl,hbv⟩,hb1⟩;obtain rfl:bv=true:=hbv.2 HV.out;clear hbv
    have HX1:=zH (HX.out.below hb1)
    have HA1:=zH (HA.out.below hb1)
    have HB1:=zH (zaa HBW.out hb1)
    have HC1:=zH (HC.out.belowS hb1)
    have HC91:=zH (HC9.out.belowS hb1)
    have HS1:=zH (HS.out.below hb1)
    have HW1:=zH hb1
    clear hb1 c0 c1 c2 d0 d1 d2
    obtain⟨_,c0,c1,c2,_,_,_⟩:=HC1.out
    obtain⟨_,d0,d1,d2,_,_,_⟩:=HC91.out)
  |(go_at_call 115;(with_reducible refine(HPOS.out _ _ HX1.out).mono ?_);rintro e2 w2 ⟨rfl,hb2⟩
    have HX2:=zH (HX1.out.below hb2)
    have HA2:=zH (HA1.out.below hb2)
    have HB2:=zH (zaa HB1.out hb2)
    have HC2:=zH (HC1.out.belowS hb2)
    have HC92:=zH (HC91.out.belowS hb2)
    have HS2:=zH (HS1.out.below hb2)
    have HW2:=zH (zaa HW1.out hb2)
    clear hb2 c0 c1 c2 d0 d1 d2
    obtain⟨_,c0,c1,c2,_,_,_⟩:=HC2.out
    obtain⟨_,d0,d1,d2,_,_,_⟩:=HC92.out)
  |(go_at_call 17;(with_reducible refine(zqq _ c.raw _ HA2.out.raw HV.out).mono ?_);rw[HL2.out];rintro e5 w5 ⟨v5,rfl,hv5,hb5⟩
    obtain⟨t5,x5,y5,rfl,⟨a51,l51,k51,rfl,_⟩,⟨a52,l52,k52,rfl,_⟩⟩:=hv5.isF
    have hba:=zca w5 (.cells #[.bool t5, .slice a51 l51 k51, .slice a52 l52 k52] 38)
    have hbb:=zaa hb5 hba
    have HC5:=zH (C3.new w5 38 (.bool t5) (.slice a51 l51 k51) (.slice a52 l52 k52))
    have HF5:=zH (hv5.below hba)
    replace HB2:=zH (zaa HB2.out hbb);replace HA2:=zH (HA2.out.below hbb);replace HX2:=zH (HX2.out.below hbb);replace HC2:=zH (HC2.out.belowS hbb);replace HC92:=zH (HC92.out.belowS hbb);replace HS2:=zH (HS2.out.below hbb)
    clear hv5 hb5 hba hbb c0 c1 c2 d0 d1 d2))
 obtain⟨b5,hb5⟩:∃b,w5.heap.size=b:=⟨_,rfl⟩
 rw[hb5]at HC5 |-
 clear hb5
 generalize w5.alloc (.cells #[.bool t5, .slice a51 l51 k51, .slice a52 l52 k52] 38)=W5 at *
 obtain⟨_,c0,c1,c2,_,_,_⟩:=HC2.out
 obtain⟨_,d0,d1,d2,_,_,_⟩:=HC92.out
 obtain⟨_,p0,p1,p2,_,_,_⟩:=HC5.out
 go_wp2_with (first
  |(go_at_call 50;(with_reducible refine(zzr _ _ t1 nr dr q L _ HX2.out HF5.out HF.out HFQ.out HLF.out).mono ?_);rw[HSLOW.out];rintro e6 w6 ⟨rfl,hb6⟩
    have HA6:=zH (HA2.out.below hb6)
    have HX6:=zH (HX2.out.below hb6)
    have HS6:=zH (HS2.out.below hb6)
    have HC6:=zH (HC2.out.belowS hb6)
    have HC96:=zH (HC92.out.belowS hb6)
    have HB6:=zH (zaa HB2.out hb6)
    clear hb6 c0 c1 c2 d0 d1 d2 p0 p1 p2
    obtain⟨_,c0,c1,c2,_,_,_⟩:=HC6.out))
 go_loopg [10,11] (sn) (fun g u10 u11 wr=>∃ (k:Nat),k<=sn/\g=sn-k/\u11= .int .i64 k/\zya wr 38 w6.heap.size u10 (c.start.take k)/\Below w6.heap.size w6 wr)
 case atStart=>exact⟨0,zZL _,rfl,rfl,zya.nil _ _ _,Below.refl _ _⟩
 case round=>
  obtain⟨k,hkn,hg,rfl,hfr,hbr⟩:=hrel
  obtain⟨W7,hw7⟩:∃w7,w7=wr:=⟨_,rfl⟩
  subst hw7
  have HG:=zH hg
  have HFR:=zH hfr
  have HBR:=zH hbr
  have s10:=hfr.sl
  obtain⟨_,c0,c1,c2,_,_,_⟩:=HC6.out.belowS hbr
  clear hg hfr hbr
  by_cases hkl:k<sn
  ·have hkc:k<c.start.length:=by rw[<-HSN.out];exact hkl
   obtain⟨ts,as1,ls1,ks1,as2,ls2,ks2,g1,g2,g3,hfs⟩:=(HS6.out.below HBR.out).cellsAt (k:=k) hkc
   have HFK:=zH (HSF.out k hkc)
   have HTK:Hid (c.start.take (k+1)=c.start.take k++ [c.start.getD k 0]):=zH (by rw[zxc c.start k hkc,zGD,zGE hkc,Option.getD_some])
   obtain⟨s,hs9⟩:∃s,c.start.getD k 0=s:=⟨_,rfl⟩
   rw[hs9]at hfs HFK HTK
   have HFS:=zH hfs
   have j1:(0:Int)<=(k:Int):=by omega
   have j2:(k:Int)<(sn:Nat):=by omega
   clear hfs hs9
   go_upto_region 11 with(first
    |(go_at_call 116;(with_reducible refine(r2reduce_can _ s _ HFS.out HFK.out).mono ?_);rintro e8 w8 ⟨v8,rfl,hv8,hb8⟩
      obtain⟨t8,x8,y8,rfl,⟨a81,l81,k81,rfl,_⟩,⟨a82,l82,k82,rfl,_⟩⟩:=hv8.isF
      have hba:=zca w8 (.cells #[.bool t8, .slice a81 l81 k81, .slice a82 l82 k82] 38)
      have hbb:=zaa hb8 hba
      have HC8:=zH (C3.new w8 38 (.bool t8) (.slice a81 l81 k81) (.slice a82 l82 k82))
      have HF8:=zH (hv8.below hba)
      have HFR8:=zH (HFR.out.moves (zhb.below (B:=w6.heap.size) hbb) (zLR _))
      have HB8:=zH (zfa HBR.out hbb HBR.out.size)
      clear hv8 hb8 hba hbb))
   clear c0 c1 c2 g1 g2 g3
   obtain⟨b8,hb8⟩:∃b,w8.heap.size=b:=⟨_,rfl⟩
   rw[hb8]at HC8 |-
   clear hb8
   generalize w8.alloc (.cells #[.bool t8, .slice a81 l81 k81, .slice a82 l82 k82] 38)=W8 at *
   obtain⟨_,r0,r1,r2,_,_,_⟩:=HC8.out
   have hlen:(c.start.take k).length<=1000:=by rw[List.length_take];omega
   have hsz:=HB8.out.size
   go_wp2_with (first
    |(at_builtin;refine hAP _ rfl _ _ rfl w6.heap.size _ u10 (c.start.take k) rfl HFR8.out _ _ _ s HF8.out rfl hlen hsz ?_;intro v50 w50 ho50 hg50 hn50 hq50 sv50
      have hbg:=zid hg50 hsz HFR8.out.block
      have HB50:=zH (HB8.out.trans hbg)
      have HO50:=zH ho50
      clear hbg hg50 hn50 hq50 ho50))
   go_roundg (sn- (k+1))
   case measure=>(have:=HG.out;omega)
   case rel=>exact⟨k+1,by omega,rfl,by go_num,by rw[HTK.out];exact HO50.out,HB50.out⟩
  ·obtain rfl:k=sn:=by omega
   have HV0:Hid (zbb W7 u10 (itV c.raw q 0)):=zH (by
    have h:=HFR.out.fracs
    rw[List.take_of_length_le (by rw[<-HSN.out];exact zLR _)]at h
    rw[HIT0.out];exact h)
   have HA7:=zH (HA6.out.below HBR.out)
   have HX7:=zH (HX6.out.below HBR.out)
   have HB7:=zH (zfa HB6.out HBR.out HB6.out.size)
   obtain⟨_,d0,d1,d2,_,_,_⟩:=HC96.out.belowS HBR.out
   go_wp2_with (first
    |(go_at_call 117;(with_reducible refine(HM.out _ _ _ HA7.out HX7.out).mono ?_);rintro e9 w9 ⟨v9,rfl,hm9,hb9⟩
      have HM9:=zH hm9
      have HV9:=zH (HV0.out.below hb9)
      have HB9:=zH (zaa HB7.out hb9)
      have sv9:=HV0.out.sl
      clear hm9 hb9 c0 c1 c2 d0 d1 d2))
   have HSTEP:Hid (∀ (i:Nat) w0 va vv,i<m->zam w0 va c.start.length c.start.length (zfq c.raw q)->zbb w0 vv (itV c.raw q i)->Calls Tryz.prog 118 #[va,vv] w0 (RSt w0 0 (itV c.raw q (i+1)))):=
    zH (fun i w0 va vv hi k1 k2=>by
     have h:=zos va vv c.raw q i w0 c.start.length HV.out HLN.out HDIM.out.1 HDIM.out.2 k1 k2 HFM.out (fun j hj=>HOK.out j (by omega))
     rw[if_pos (HOK.out i hi),if_pos (HOK.out i hi)]at h
     exact h)
   go_loopg [10,16] (m) (fun g u10 u16 wr=>∃ (i:Nat),i<=m/\g=m-i/\u16= .int .i64 i/\zbb wr u10 (itV c.raw q i)/\Below w9.heap.size w9 wr)
   case atStart=>exact⟨0,zZL _,rfl,rfl,HV9.out,Below.refl _ _⟩
   case round=>
    obtain⟨i,hin,hg,rfl,hvi,hbi⟩:=hrel
    obtain⟨wA,hwA⟩:∃w5,w5=wr:=⟨_,rfl⟩
    subst hwA
    have HG:=zH hg
    have HVI:=zH hvi
    have HBI:=zH hbi
    have HMI:=zH (HM9.out.below hbi)
    have svi:=hvi.sl
    clear hg hvi hbi
    by_cases hil:i<m
    ·go_wp2_with (go_at_call 118;(with_reducible refine(HSTEP.out i _ _ _ hil HMI.out HVI.out).mono ?_);rintro e6 wB ⟨v6,rfl,hv6',hb6⟩
                  have HV6:=zH hv6'
                  have HB6':=zH (zaa HBI.out hb6)
                  clear hv6' hb6)
     go_roundg (m- (i+1))
     case measure=>(have:=HG.out;omega)
     case rel=>exact⟨i+1,by omega,rfl,by go_num,HV6.out,HB6'.out⟩
    ·obtain rfl:i=m:=by omega
     go_wp2_with fail
     go_ret2
     exact⟨_,rfl,HVI.out,zaa HB9.out HBI.out⟩
theorem sorted_eq :∀ {l l':List Nat},l.Pairwise (· < ·)->l'.Pairwise (· < ·)->(∀x,x∈l↔x∈l')->l=l'
 | [],[],_,_,_=>rfl
 | [],y::l',_,_,h=>absurd ((h y).2 (by simp)) (by simp)
 | x::l,[],_,_,h=>absurd ((h x).1 (by simp)) (by simp)
 | x::l,y::l',h1,h2,h=>by
   rw[List.pairwise_cons]at h1 h2
   have e:x=y:=by
    have a:=(h x).1 (by simp)
    have b:=(h y).2 (by simp)
    rcases List.mem_cons.1 a with e | a
    ·exact e
    ·rcases List.mem_cons.1 b with e | b
     ·exact e.symm
     ·have:=h1.1 y b;have:=h2.1 x a;omega
   subst e
   rw[sorted_eq h1.2 h2.2 fun z=> ?_]
   constructor
   ·intro hz
    have:=h1.1 z hz
    rcases List.mem_cons.1 ((h z).1 (List.mem_cons_of_mem _ hz))with e | e
    ·omega
    ·exact e
   ·intro hz
    have:=h2.1 z hz
    rcases List.mem_cons.1 ((h z).2 (List.mem_cons_of_mem _ hz))with e | e
    ·omega
    ·exact e
theorem zvq.uniq {c:RC} {l l':List Nat} (h:zvq c l) (h':zvq c l'):l=l':=sorted_eq h.sorted h'.sorted fun x=>(h.mem x).trans (h'.mem x).symm
theorem alive_ex (c:RC):zvq c (lsP c.rates.length fun i=>Rch c i/\Ftl c i/\c.lost.getD i false=false):=⟨fun i=>zhq,lsP_so _ _⟩
theorem agr_facts {c:CQ} {H T:Nat->Rat} (h:TC c H T):∃sL aL bL sH aH bH sM aM bM eM l,AgrF c sL aL bL sH aH bH sM aM bM eM l:=by
 have hv:=h.tape.valid
 have hal:∀ {w0 w:World} {e:Ending},RAliveE w0 c.raw e w->∃v,e= .returned (.tuple #[v, .int .i64 0])/\zgv w v (ztr (lsP c.raw.rates.length fun i=>Rch c.raw i/\Ftl c.raw i/\c.raw.lost.getD i false=false))/\Below w0.heap.size w0 w:=fun k=>by
  obtain⟨v,l,h1,h2,h3,h4⟩:=k
  rw[h3.uniq (alive_ex c.raw)]at h2
  exact⟨v,h1,h2,h4⟩
 have hvl:∀ {w0 w:World} {e:Ending},zgr w0 c.raw e w->e= .returned (.bool true)/\Below w0.heap.size w0 w:=fun k=>by
  obtain⟨⟨b,h1,h2⟩,h3⟩:=k
  rw[h2.2 hv]at h1
  exact⟨h1,h3⟩
 by_cases hs:AllS c.raw
 ·exact⟨_,_,_,_,_,_,_,_,_,_,_,{
   lc:=fun w va k=>(zov va _ w k.raw hv).mono fun _ _ h=>h.lim
   lr:=fun w va k=>(zqq va _ w k.raw hv).mono fun _ _ h=>h.lim
   ac:=fun w va k=>(ziw va _ w k.raw hv).mono fun _ _ h=>hal h
   ar:=fun w va k=>(zkv va _ w k.raw hv).mono fun _ _ h=>hal h
   vc:=fun w va k=>(zar va _ w k.raw).mono fun _ _ h=>hvl h
   vr:=fun w va k=>(zjq va _ w k.raw).mono fun _ _ h=>hvl h
   hc:=fun w va k=>(h.hit_c k.raw).mono fun _ _ h=>h.lim
   hr:=fun w va k=>(h.rhit_c k).mono fun _ _ h=>h.lim
   mc:=fun w va k=>(h.mean_c k.raw).mono fun _ _ h=>h.lim.1 hs
   mr:=fun w va k=>(h.rmean_c k).mono fun _ _ h=>h.lim.1 hs }⟩
 ·exact⟨_,_,_,_,_,_,_,_,_,_,_,{
   lc:=fun w va k=>(zov va _ w k.raw hv).mono fun _ _ h=>h.lim
   lr:=fun w va k=>(zqq va _ w k.raw hv).mono fun _ _ h=>h.lim
   ac:=fun w va k=>(ziw va _ w k.raw hv).mono fun _ _ h=>hal h
   ar:=fun w va k=>(zkv va _ w k.raw hv).mono fun _ _ h=>hal h
   vc:=fun w va k=>(zar va _ w k.raw).mono fun _ _ h=>hvl h
   vr:=fun w va k=>(zjq va _ w k.raw).mono fun _ _ h=>hvl h
   hc:=fun w va k=>(h.hit_c k.raw).mono fun _ _ h=>h.lim
   hr:=fun w va k=>(h.rhit_c k).mono fun _ _ h=>h.lim
   mc:=fun w va k=>(h.mean_c k.raw).mono fun _ _ h=>h.lim.2 hs
   mr:=fun w va k=>(h.rmean_c k).mono fun _ _ h=>h.lim.2 hs }⟩
structure MadeF (c:CQ) (ρ:Rat) (m:Int) (er:Int) (l:List Rat):Prop where
 x:∀w va vx,zlq w va c->zqa w vx ρ->Calls Tryz.prog 48 #[va,vx, .int .i64 m] w (RSt w er l)
 y:∀w va vx,zlq w va c->zqa w vx ρ->Calls Tryz.prog 51 #[va,vx, .int .i64 m] w (RSt w er l)
 ag:∀w va,zlq w va c->Calls Tryz.prog 52 #[va] w (fun e w'=>e= .returned (.bool true)/\Below w.heap.size w w')
 lr:∀w va,zlq w va c->Calls Tryz.prog 17 #[va] w (RF0 w (zyp c.raw c.raw.rates.length))
theorem made_facts {c:CQ} (ht:zrr c) (e:Nat) (he:e<=4) (m:Nat) (hm:m<=4):∃er l,MadeF c (zyp c.raw c.raw.rates.length+fq false e 2) (m:Nat) er l/\fits (zyp c.raw c.raw.rates.length+fq false e 2):=by
 obtain⟨H,T,htc⟩:=tape_tc ht
 obtain⟨sL,aL,bL,sH,aH,bH,sM,aM,bM,eM,l,hag⟩:=agr_facts htc
 have hv:=ht.valid
 have h24:c.start.length<=24:=by have:=ht.n5;omega
 obtain⟨R,hR,hρ,_⟩:=mass_rate ht e he
 have hle:zyp c.raw c.raw.rates.length<=mkRat ((R:Nat):Int) 144:=by
  rw[<-hρ]
  have h1:=fq_nn e 2 (by decide)
  grind
 rw[hρ]
 have hq:over 144 23328 (mkRat ((R:Nat):Int) 144):=⟨R,rfl,by simpa using hR⟩
 have hff:fits (mkRat ((R:Nat):Int) 144):=hq.fits (by decide) (Nat.lt_trans (show 23328<2^18 by decide) (zcu (by decide))) (Nat.lt_trans (show 144<2^8 by decide) (zcu (by decide)))
 by_cases hR0:R=0
 ·have h0:mkRat ((R:Nat):Int) 144=0:=by rw[hR0];decide+kernel
  rw[h0]at hff |-
  have hnp:¬zfr (decide ((0:Rat)<0)) (0:Rat).num.natAbs (0:Rat).den:=fun h=>h.2.2 rfl
  exact⟨1,[],⟨fun w va vx k1 k2=>after_rated va vx c.raw _ _ _ _ w k1.raw hv k2.raw hnp,fun w va vx k1 k2=>rafter_rated va vx c _ _ _ _ w k1 hv k2.raw hnp,
   fun w va k=>zkw va c _ _ _ _ _ _ _ _ _ _ _ w k hag,fun w va k=>zqq va _ w k.raw hv⟩,hff⟩
 ·have hs:=mass_of ht hR0 hR hle
  exact⟨0,itV c.raw _ m,⟨fun w va vx k1 k2=>hs.after hv k1.raw k2 (by omega),
   fun w va vx k1 k2=>rafter_ok va vx c _ _ _ _ m w k1 hv h24 k2.raw (posR_of hs.fρ hs.pos) (zvb _) (by omega) hs.le ⟨hs.h1,hs.h2⟩ (fun i hi=>hs.hw i (by omega)),
   fun w va k=>zkw va c _ _ _ _ _ _ _ _ _ _ _ w k hag,fun w va k=>zqq va _ w k.raw hv⟩,hff⟩
set_option maxRecDepth 100000 in
set_option maxHeartbeats 12800000 in
theorem made_any (v:Value) (l:List Nat) (y m:Nat) (w:World) (h:zhc w v (bytes l)) (hb:∀x∈l,x<256) (hy:y<256) (hm:m<256):
 Calls Tryz.prog 10 #[v, .int .u8 (y:Nat), .int .u8 (m:Nat)] w (fun e w'=>e= .returned (.bool true)/\Below w.heap.size w w'):=by
 have HY:=zH hy
 have HMM:=zH hm
 go_enter Tryz.func10,Tryz.ntmps10
 go_upto_region 2 with(first
  |(go_at_call 41;(with_reducible refine(new_any _ l _ h hb).mono ?_);rintro e1 w1 ⟨bt,rfl,hbt,hT1,hbel1⟩)
  |(go_at_call 42;(with_reducible refine(chain_any bt 0 _ _ hT1).mono ?_);rintro e2 w2 ⟨v2,c,a2,rfl,hC2,hTP,hT2,hsz2,hfr2⟩
    obtain⟨vr,vs,vl,rfl,m1,m2,m3⟩:=id hC2
    obtain⟨ar,nr,kr,rfl,_⟩:=id m1.sl
    obtain⟨as',ns,ks,rfl,_⟩:=id m2.sl
    obtain⟨al,nl,kl,rfl,_⟩:=id (zhc.sl m3)
    have hb12:=hbel1.trans (hfr2 _ hbt hbel1.size)
    have ba3:=zca w2 (.cells #[.slice ar nr kr, .slice as' ns ks, .slice al nl kl] 28)
    have HTP:=zH hTP
    have HNS:Hid (ns=c.start.length):=zH m2.len
    have HNR:Hid (nr=c.rates.length):=zH m1.len
    have HC3:=zH (C3.new w2 28 (.slice ar nr kr) (.slice as' ns ks) (.slice al nl kl))
    have HCH:=zH (hC2.below ba3)
    have HST:=zH (m2.below ba3)
    have HRT:=zH (m1.below ba3)
    have HLO:=zH (m3.below ba3)
    have HB:=zH (hb12.trans (ba3.mono hb12.size))
    have hn5:ns<=5:=by rw[HNS.out];exact HTP.out.n5
    have sst:=m2.sl
    have srt:=m1.sl
    have slo:=zhc.sl m3
    clear hC2 m1 m2 m3 hTP hfr2 hT1 hT2 hbel1 hsz2 hb12 ba3 hbt))
 obtain⟨b3,hb3⟩:∃b,w2.heap.size=b:=⟨_,rfl⟩
 rw[hb3]at HC3 |-
 clear hb3
 generalize w2.alloc (.cells #[.slice ar nr kr, .slice as' ns ks, .slice al nl kl] 28)=W3 at *
 obtain⟨er,lA,hF,hff⟩:=made_facts HTP.out (y%5) (by omega) (m%5) (by omega)
 have hfl:fits (zyp c.raw c.raw.rates.length):=zwq HTP.out.valid _ (zLR _)
 have hlr:=hF.lr
 obtain⟨L,hL⟩:∃L,zyp c.raw c.raw.rates.length=L:=⟨_,rfl⟩
 rw[hL]at hF hff hfl hlr
 have hfe:fits (fq false (y%5) 2):=fits_ok false (n:=y%5) (d:=2) ⟨by decide,by decide+kernel,zLT (zwb.2 (show y%5<2^3 by omega)) (by decide)⟩
 have HMK0:Hid (∀w0,Calls Tryz.prog 18 #[.int .i64 (((y:Nat):Int)%5), .int .i64 2] w0 (RF0 w0 (fq false (y%5) 2))):=zH (fun w0=>zsy (y%5) 2 _ _ w0 (by omega) rfl (by omega) (by decide) (by decide))
 obtain⟨E,hE⟩:∃E,fq false (y%5) 2=E:=⟨_,rfl⟩
 rw[hE]at hF hff hfe
 have HMK:Hid (∀w0,Calls Tryz.prog 18 #[.int .i64 (((y:Nat):Int)%5), .int .i64 2] w0 (RF0 w0 E)):=zH (fun w0=>by rw[<-hE];exact HMK0.out w0)
 have HF:=zH hF
 have HLR:=zH hlr
 have HFF:=zH hff
 have HFL:=zH hfl
 have HFE:=zH hfe
 have q1:(er==er)=true:=by simp
 clear hF hff hfl hlr hfe HMK0 hL hE HST HRT HLO
 obtain⟨_,c0,c1,c2,_,_,_⟩:=HC3.out
 go_upto_region 3 with(first
  |(go_at_call 17;(with_reducible refine(HLR.out _ _ HCH.out).mono ?_);rintro e6 w6 ⟨v6,rfl,hv6,hb6⟩
    clear c0 c1 c2
    obtain⟨t6,x6,y6,rfl,⟨a61,l61,k61,rfl,_⟩,⟨a62,l62,k62,rfl,_⟩⟩:=hv6.isF
    have hba:=zca w6 (.cells #[.bool t6, .slice a61 l61 k61, .slice a62 l62 k62] 38)
    have hbb:=zaa hb6 hba
    have HC6:=zH (C3.new w6 38 (.bool t6) (.slice a61 l61 k61) (.slice a62 l62 k62))
    have HF6:=zH (hv6.below hba)
    replace HB:=zH (zaa HB.out hbb);replace HC3:=zH (HC3.out.belowS hbb);replace HCH:=zH (HCH.out.below hbb)
    clear hv6 hb6 hba hbb))
 obtain⟨b6,hb6⟩:∃b,w6.heap.size=b:=⟨_,rfl⟩
 rw[hb6]at HC6 |-
 clear hb6
 generalize w6.alloc (.cells #[.bool t6, .slice a61 l61 k61, .slice a62 l62 k62] 38)=W6 at *
 go_upto_region 4 with(first
  |(go_at_call 18;(with_reducible refine(HMK.out _).mono ?_);rintro e8 w8 ⟨v8,rfl,hv8,hb8⟩
    obtain⟨t8,x8,y8,rfl,⟨a81,l81,k81,rfl,_⟩,⟨a82,l82,k82,rfl,_⟩⟩:=hv8.isF
    have hba:=zca w8 (.cells #[.bool t8, .slice a81 l81 k81, .slice a82 l82 k82] 38)
    have hbb:=zaa hb8 hba
    have HC8:=zH (C3.new w8 38 (.bool t8) (.slice a81 l81 k81) (.slice a82 l82 k82))
    have HF8:=zH (hv8.below hba)
    replace HB:=zH (zaa HB.out hbb);replace HC3:=zH (HC3.out.belowS hbb);replace HCH:=zH (HCH.out.below hbb);replace HC6:=zH (HC6.out.belowS hbb);replace HF6:=zH (HF6.out.below hbb)
    clear hv8 hb8 hba hbb))
 obtain⟨b8,hb8⟩:∃b,w8.heap.size=b:=⟨_,rfl⟩
 rw[hb8]at HC8 |-
 clear hb8
 generalize w8.alloc (.cells #[.bool t8, .slice a81 l81 k81, .slice a82 l82 k82] 38)=W8 at *
 obtain⟨_,c0,c1,c2,_,_,_⟩:=HC6.out
 obtain⟨_,d0,d1,d2,_,_,_⟩:=HC8.out
 go_upto_region 5 with(first
  |(go_at_call 19;(with_reducible refine(zhv _ _ L E _ HF6.out HF8.out HFL.out HFE.out HFF.out).mono ?_);rintro e10 w10 ⟨v10,rfl,hv10,hb10⟩
    clear c0 c1 c2 d0 d1 d2
    obtain⟨t10,x10,y10,rfl,⟨a101,l101,k101,rfl,_⟩,⟨a102,l102,k102,rfl,_⟩⟩:=hv10.isF
    have hba:=zca w10 (.cells #[.bool t10, .slice a101 l101 k101, .slice a102 l102 k102] 38)
    have hbb:=zaa hb10 hba
    have HC10:=zH (C3.new w10 38 (.bool t10) (.slice a101 l101 k101) (.slice a102 l102 k102))
    have HF10:=zH (hv10.below hba)
    replace HB:=zH (zaa HB.out hbb);replace HC3:=zH (HC3.out.belowS hbb);replace HCH:=zH (HCH.out.below hbb)
    clear hv10 hb10 hba hbb))
 obtain⟨b10,hb10⟩:∃b,w10.heap.size=b:=⟨_,rfl⟩
 rw[hb10]at HC10 |-
 clear hb10
 generalize w10.alloc (.cells #[.bool t10, .slice a101 l101 k101, .slice a102 l102 k102] 38)=W10 at *
 clear HC6 HC8 HF6 HF8
 obtain⟨_,c0,c1,c2,_,_,_⟩:=HC3.out
 obtain⟨_,d0,d1,d2,_,_,_⟩:=HC10.out
 have emm:(((m%5:Nat)):Int)=((m:Nat):Int)%5:=by omega
 rw[emm]at HF
 clear emm
 go_upto_region 6 with(first
  |(go_at_call 48;(with_reducible refine(HF.out.x _ _ _ HCH.out HF10.out).mono ?_);rintro e7 w7 ⟨v7,rfl,hv7,hb7⟩
    have HV7:=zH hv7
    have sv7:=hv7.sl
    replace HB:=zH (zaa HB.out hb7);replace HC3:=zH (HC3.out.belowS hb7);replace HCH:=zH (HCH.out.below hb7);replace HC10:=zH (HC10.out.belowS hb7);replace HF10:=zH (HF10.out.below hb7)
    clear hv7 hb7 c0 c1 c2 d0 d1 d2))
 obtain⟨_,c0,c1,c2,_,_,_⟩:=HC3.out
 obtain⟨_,d0,d1,d2,_,_,_⟩:=HC10.out
 go_wp2_with (first
  |(go_at_call 51;(with_reducible refine(HF.out.y _ _ _ HCH.out HF10.out).mono ?_);rintro e9 w9 ⟨v9,rfl,hv9,hb9⟩
    have HV9:=zH hv9
    have sv9:=hv9.sl
    clear c0 c1 c2 d0 d1 d2 HC10 HF10
    replace HB:=zH (zaa HB.out hb9);replace HC3:=zH (HC3.out.belowS hb9);replace HCH:=zH (HCH.out.below hb9);replace HV7:=zH (HV7.out.below hb9)
    clear hv9 hb9
    obtain⟨_,c0,c1,c2,_,_,_⟩:=HC3.out)
  |(go_at_call 52;(with_reducible refine(HF.out.ag _ _ HCH.out).mono ?_);rintro e11 w11 ⟨rfl,hb11⟩
    clear c0 c1 c2 HC3 HCH
    replace HB:=zH (zaa HB.out hb11);replace HV7:=zH (HV7.out.below hb11);replace HV9:=zH (HV9.out.below hb11)
    clear hb11)
  |(go_at_call 23;(with_reducible refine(znr _ _ _ _ _ HV7.out HV9.out).mono ?_);rintro e12 w12 ⟨⟨q12,rfl,hq12⟩,hb12⟩;obtain rfl:q12=true:=hq12.2 rfl;clear hq12
    clear HV7 HV9
    replace HB:=zH (zaa HB.out hb12)
    clear hb12)
  |(go_at_call 46;(with_reducible refine(zoq _).mono ?_);rintro e13 w13 ⟨rfl,hb13⟩
    replace HB:=zH (zaa HB.out hb13)
    clear hb13))
 go_ret
 exact⟨rfl,HB.out⟩
end Go.Proofs.YtlpdkbmmbdfoiaaGreat
namespace Go.Proofs.YtlpdkbmmbdfoiaaGreat
open Go.ChangeShapes Go.WideShapes Go.ChangeAt Go.RowKit
section
variable {H:Type} {enc:TypeId×Value->H} {P:Program}
theorem zoh (hl:laidOutB P=true) {W W':World} (hb:Below W.heap.size W W'):∀ {ts:List TypeId} {vs:List Value} {ds:List (DataW H)} {ps:List MemPlace},(ts.all fun t=>P.readableRec t&&decide (t<P.types.size))=true->
 DataW.TrodAll enc P W 0 (fun _=>true) true ts vs ds ps->(∀x∈ps,x.block<W.heap.size)->DataW.TrodAll enc P W' 0 (fun b=>decide (b<W.heap.size)) true ts vs ds ps
 | [],vs,ds,ps,_,h,_=>by
   obtain⟨rfl,rfl,rfl⟩:=trodAll_nil h
   exact trodAll_mk0
 | t::ts,vs,ds,ps,hr,h,hlt=>by
   obtain⟨v,vs',d,ds',p,q,rfl,rfl,rfl,h1,h2⟩:=trodAll_cons h
   simp only[List.all_cons,Bool.and_eq_true,decide_eq_true_eq]at hr
   obtain⟨⟨r1,r2⟩,r3⟩:=hr
   exact trodAll_cons_mk (Below.trod hl r1 r2 h1 hb fun x hx=>hlt x (List.mem_append_left _ hx)) (zoh hl hb (ts:=ts) r3 h2 fun x hx=>hlt x (List.mem_append_right _ hx))
end
section
variable {H:Type} {enc:TypeId×Value->H}
set_option maxRecDepth 100000 in
theorem u8_came {W:World} {base:Nat} {v:Value} {d:DataW H} {p:List MemPlace} (hv:Value.okWide Tryz.prog W .any base 5 v) (h:DataW.Trod enc Tryz.prog W 0 (fun _=>true) true 5 v d p):∃x:Nat,v= .int .u8 x/\x<256:=by
 obtain⟨n,rfl,rfl,rfl,hwn⟩:=open_int Tryz.underlying5 hv h
 have hn:0<=n/\n<256:=by
  simp[Lit.wf,IntKind.min,IntKind.max,IntKind.signed,IntKind.bits]at hwn
  omega
 exact⟨n.toNat,by congr 1;omega,by omega⟩
end
theorem Tryz.ownK :ownKnob Tryz.prog.godebug=none:=by kernel_rfl
theorem Tryz.laidOut :laidOutB Tryz.prog=true:=by kernel_rfl
theorem Tryz.cellsU8 :Tryz.prog.cellsOf 5=1:=by kernel_rfl
def U8V (w:World) (v:Value) (l:List Nat):Prop:=zhc w v (bytes l)/\∀x∈l,x<256
section
variable {H:Type} {enc:TypeId×Value->H}
theorem bytes_in {W:World} {a:Addr} {len cap:Nat} {zs:List Int} (hl:len<=cap) (hm:cap<=maxLen) (hz:zs.length=cap) (hcell:∀i,i<zs.length->W.cell? (a.add i)=some (.int .u8 (zs.getD i 0))) (hwz:∀n∈zs,(Lit.int .u8 n).wf=true):
 U8V W (.slice (some a) len cap) ((zs.take len).map Int.toNat):=by
 have hb:∀n∈zs,0<=n/\n<256:=fun n hn=>by
  have:=hwz n hn
  simp[Lit.wf,IntKind.min,IntKind.max,IntKind.signed,IntKind.bits]at this
  omega
 refine⟨⟨⟨a,len,cap,rfl,hl,hm,fun e=>by cases e⟩,by simp[bytes,slen];omega,fun j hj=> ?_⟩,fun x hx=> ?_⟩
 ·have hj2:j<len:=by simp[bytes]at hj;omega
  have hj3:j<zs.length:=by omega
  have h1:=hcell j hj3
  have h2:=hb _ (zGM hj3)
  have e1:zs.getD j 0=zs[j]:=by simp[List.getD,zGE hj3]
  rw[e1]at h1
  simp only[ptr,base,bytes,List.getElem_map,List.getElem_take]
  rw[h1]
  congr 2
  omega
 ·obtain⟨n,hn,rfl⟩:=List.mem_map.1 hx
  have:=hb n (List.mem_of_mem_take hn)
  omega
set_option maxRecDepth 100000 in
theorem u8s_came {W:World} {base:Nat} {v:Value} {d:DataW H} {p:List MemPlace} (hv:Value.okWide Tryz.prog W .any base 22 v) (h:DataW.Trod enc Tryz.prog W 0 (fun _=>true) true 22 v d p):∃l,U8V W v l:=by
 obtain⟨a,len,cap,rfl⟩:=okWide_slice Tryz.underlying22 hv
 obtain⟨fuel,hf⟩:=h
 rcases open_ints Tryz.underlying22 Tryz.underlying5 Tryz.cellsU8 hf with⟨hcs,hx⟩ | ⟨a,len',cap',zs,hcs,_,hl,hm,hz,hx,hcell,hwz⟩
 ·simp[Value.cells]at hcs
  obtain⟨rfl,rfl,rfl⟩:=hcs
  exact⟨[],⟨zgc.nil,rfl,fun j h=>by simp[bytes]at h⟩,fun x h=>by simp at h⟩
 ·simp[Value.cells]at hcs
  obtain⟨rfl,rfl,rfl⟩:=hcs
  simp only[if_true]at hz
  exact⟨_,bytes_in hl hm hz hcell hwz⟩
end
end Go.Proofs.YtlpdkbmmbdfoiaaGreat
