/-
  package chain: After, whatever the rate and the number of steps.
-/
import Derived.Test.YtlpdkbmmbdfoiaaGreatHCs1
set_option linter.unusedVariables false
set_option linter.unusedSimpArgs false
namespace Go.Proofs.YtlpdkbmmbdfoiaaGreat
set_option maxHeartbeats 6400000
open Go.RowKit
def afOk (c:RC) (q:Rat) (m:Nat):Prop:=∀i,i<m→wtA c q i≤3800
open Classical in
noncomputable def afErr (c:RC) (q:Rat) (m:Nat):Int:=if afOk c q m then 0 else 2
open Classical in
noncomputable def afVal (c:RC) (q:Rat) (m:Nat):List Rat:=if afOk c q m then itV c q m else []
theorem afOk.first {c:RC} {q:Rat}:∀ {m:Nat},¬afOk c q m→∃i,i<m∧3800<wtA c q i∧∀j,j<i→wtA c q j≤3800
 | 0,h=>absurd (fun i hi=>by omega) h
 | m+1,h=>by
   by_cases h0:afOk c q m
   ·refine⟨m,Nat.lt_succ_self m,?_,h0⟩
    apply Classical.byContradiction
    intro hn
    refine h fun i hi=> ?_
    by_cases e:i=m
    ·subst e;omega
    ·exact h0 i (by omega)
   ·obtain⟨i,h1,h2,h3⟩:=afOk.first h0
    exact⟨i,by omega,h2,h3⟩
open Classical in
/-- The error of both After. -/
noncomputable def apErr (c:RC) (t:Bool) (n d:Nat) (m:Int):Int:=
 if zfr t n d then(if m<0∨64<m∨fq t n d<zyp c c.rates.length then 5 else afErr c (fq t n d) m.toNat)else 1
open Classical in
noncomputable def apVal (c:RC) (t:Bool) (n d:Nat) (m:Int):List Rat:=
 if zfr t n d then(if m<0∨64<m∨fq t n d<zyp c c.rates.length then []else afVal c (fq t n d) m.toNat)else []
set_option maxRecDepth 100000 in
theorem after_rated (va vx:Value) (c:RC) (t1:Bool) (nr dr:Nat) (m:Int) (w:World) (ha:zdq w va c) (hv:zzp c) (hx:zdc w vx t1 nr dr) (hp:¬zfr t1 nr dr):
 Calls Tryz.prog 48 #[va,vx, .int .i64 m] w (RSt w 1 []):=by
 obtain⟨rv,sv,lv,rfl,hr,hs,hl⟩:=id ha
 obtain⟨ra,rn,rk,rfl,_⟩:=id hr.sl
 obtain⟨sa,sn,sk,rfl,_⟩:=id hs.sl
 obtain⟨la,ln,lk,rfl,_⟩:=id (zhc.sl hl)
 obtain⟨x1,y1,rfl,hx4,hx5⟩:=id hx
 obtain⟨a11,l11,k11,rfl,_⟩:=hx4.slen.1
 obtain⟨a12,l12,k12,rfl,_⟩:=hx5.slen.1
 have hbx:=zca w (.cells #[.slice ra rn rk, .slice sa sn sk, .slice la ln lk] 28)
 have hb2:=zca (w.alloc (.cells #[.slice ra rn rk, .slice sa sn sk, .slice la ln lk] 28)) (.cells #[.bool t1, .slice a11 l11 k11, .slice a12 l12 k12] 38)
 have HC:=zH ((C3.new w 28 (.slice ra rn rk) (.slice sa sn sk) (.slice la ln lk)).belowS hb2)
 have HR:=zH (C3.newB (b:=w.heap.size+1) (w.alloc (.cells #[.slice ra rn rk, .slice sa sn sk, .slice la ln lk] 28)) 38 (.bool t1) (.slice a11 l11 k11) (.slice a12 l12 k12) (by simp))
 have HBW:=zH (zaa hbx hb2)
 have hsn:sn=c.start.length:=hs.len
 have HA:=zH (ha.below HBW.out)
 have HX:=zH (hx.below HBW.out)
 have HV:=zH hv
 clear hr hs hl ha hv hbx hb2 hx hx4 hx5
 have HRT:Hid (∀w0 va vx,zdq w0 va c→zdc w0 vx t1 nr dr→Calls Tryz.prog 81 #[va,vx] w0 (fun e w'=>e= .returned (.bool false)∧Below w0.heap.size w0 w')):=zH (fun w0 va vx k1 k2=>by
  by_cases hf:okN nr dr
  ·have h:=zpq va vx c t1 nr dr w0 k1 HV.out k2 hf
   have e:(!t1&& !decide (nr=0))=false:=by
    cases t1
    ·by_cases h0:nr=0
     ·rw[decide_eq_true h0];rfl
     ·exact absurd ⟨hf,rfl,h0⟩ hp
    ·rfl
   rw[e]at h
   exact h
  ·exact rated_no va vx c t1 nr dr w0 k1 HV.out k2 hf)
 clear hp hsn
 go_enter Tryz.func48,Tryz.ntmps48
 go_upto_region 1 with fail
 generalize (w.alloc (.cells #[.slice ra rn rk, .slice sa sn sk, .slice la ln lk] 28)).alloc (.cells #[.bool t1, .slice a11 l11 k11, .slice a12 l12 k12] 38)=W2 at *
 obtain⟨_,c0,c1,c2,_,_,_⟩:=HC.out
 obtain⟨_,d0,d1,d2,_,_,_⟩:=HR.out
 go_wp2_with (first
  |(go_at_call 81;(with_reducible refine(HRT.out _ _ _ HA.out HX.out).mono ?_);rintro e1 w1 ⟨rfl,hb1⟩
    have HB1:=zH (zaa HBW.out hb1))
  | fail)
 go_ret2
 exact RSt.nil rfl rfl HB1.out
set_option maxRecDepth 100000 in
theorem after_range (va vx:Value) (c:RC) (t1:Bool) (nr dr:Nat) (q:Rat) (m:Int) (w:World) (ha:zdq w va c) (hv:zzp c) (hx:zdc w vx t1 nr dr) (hp:zfr t1 nr dr) (hfq:fq t1 nr dr=q) (hr:m<0∨64<m∨q<zyp c c.rates.length):
 Calls Tryz.prog 48 #[va,vx, .int .i64 m] w (RSt w 5 []):=by
 obtain⟨rv,sv,lv,rfl,hr,hs,hl⟩:=id ha
 obtain⟨ra,rn,rk,rfl,_⟩:=id hr.sl
 obtain⟨sa,sn,sk,rfl,_⟩:=id hs.sl
 obtain⟨la,ln,lk,rfl,_⟩:=id (zhc.sl hl)
 obtain⟨x1,y1,rfl,hx4,hx5⟩:=id hx
 obtain⟨a11,l11,k11,rfl,_⟩:=hx4.slen.1
 obtain⟨a12,l12,k12,rfl,_⟩:=hx5.slen.1
 have hbx:=zca w (.cells #[.slice ra rn rk, .slice sa sn sk, .slice la ln lk] 28)
 have hb2:=zca (w.alloc (.cells #[.slice ra rn rk, .slice sa sn sk, .slice la ln lk] 28)) (.cells #[.bool t1, .slice a11 l11 k11, .slice a12 l12 k12] 38)
 have HC:=zH ((C3.new w 28 (.slice ra rn rk) (.slice sa sn sk) (.slice la ln lk)).belowS hb2)
 have HR:=zH (C3.newB (b:=w.heap.size+1) (w.alloc (.cells #[.slice ra rn rk, .slice sa sn sk, .slice la ln lk] 28)) 38 (.bool t1) (.slice a11 l11 k11) (.slice a12 l12 k12) (by simp))
 have HBW:=zH (zaa hbx hb2)
 have hsn:sn=c.start.length:=hs.len
 have HA:=zH (ha.below HBW.out)
 have HX:=zH (hx.below HBW.out)
 have HV:=zH hv
 clear hr hs hl ha hv hbx hb2 hx hx4 hx5
 have HF:=zH hp.1
 have HFQ:=zH hfq
 have HPOS:Hid ((!t1&& !decide (nr=0))=true):=zH (by rw[hp.2.1,decide_eq_false hp.2.2];rfl)
 have HQ0:Hid (q≠0):=zH (fun h=>by have:=hp.q;rw[hfq,h]at this;exact absurd this (by decide))
 clear hp hfq
 clear hsn
 by_cases h1:m<0
 ·have HSLOW:Hid (decide (q<zyp c c.rates.length)=decide (q<zyp c c.rates.length)):=zH rfl
  clear hr
  go_enter Tryz.func48,Tryz.ntmps48
  go_upto_region 1 with fail
  generalize (w.alloc (.cells #[.slice ra rn rk, .slice sa sn sk, .slice la ln lk] 28)).alloc (.cells #[.bool t1, .slice a11 l11 k11, .slice a12 l12 k12] 38)=W2 at *
  obtain⟨_,c0,c1,c2,_,_,_⟩:=HC.out
  obtain⟨_,d0,d1,d2,_,_,_⟩:=HR.out
  go_wp2_with (first
   |(go_at_call 81;(with_reducible refine(zpq _ _ c t1 nr dr _ HA.out HV.out HX.out HF.out).mono ?_);rw[HPOS.out];rintro e1 w1 ⟨rfl,hb1⟩
     have HA1:=zH (HA.out.below hb1)
     have HX1:=zH (HX.out.below hb1)
     have HB1:=zH (zaa HBW.out hb1)
     obtain⟨_,c0,c1,c2,_,_,_⟩:=HC.out.belowS hb1
     obtain⟨_,d0,d1,d2,_,_,_⟩:=HR.out.belowS hb1
     clear hb1)
   |(go_at_call 82;(with_reducible refine(zir _ _ c t1 nr dr q _ HA1.out HV.out HX1.out HF.out HFQ.out).mono ?_);rw[HSLOW.out];rintro e3 w3 ⟨rfl,hb3⟩
     have HB3:=zH (zaa HB1.out hb3)))
  go_ret2
  exact RSt.nil rfl rfl HB1.out
 by_cases h2:64<m
 ·have HSLOW:Hid (decide (q<zyp c c.rates.length)=decide (q<zyp c c.rates.length)):=zH rfl
  clear hr
  go_enter Tryz.func48,Tryz.ntmps48
  go_upto_region 1 with fail
  generalize (w.alloc (.cells #[.slice ra rn rk, .slice sa sn sk, .slice la ln lk] 28)).alloc (.cells #[.bool t1, .slice a11 l11 k11, .slice a12 l12 k12] 38)=W2 at *
  obtain⟨_,c0,c1,c2,_,_,_⟩:=HC.out
  obtain⟨_,d0,d1,d2,_,_,_⟩:=HR.out
  go_wp2_with (first
   |(go_at_call 81;(with_reducible refine(zpq _ _ c t1 nr dr _ HA.out HV.out HX.out HF.out).mono ?_);rw[HPOS.out];rintro e1 w1 ⟨rfl,hb1⟩
     have HA1:=zH (HA.out.below hb1)
     have HX1:=zH (HX.out.below hb1)
     have HB1:=zH (zaa HBW.out hb1)
     obtain⟨_,c0,c1,c2,_,_,_⟩:=HC.out.belowS hb1
     obtain⟨_,d0,d1,d2,_,_,_⟩:=HR.out.belowS hb1
     clear hb1)
   |(go_at_call 82;(with_reducible refine(zir _ _ c t1 nr dr q _ HA1.out HV.out HX1.out HF.out HFQ.out).mono ?_);rw[HSLOW.out];rintro e3 w3 ⟨rfl,hb3⟩
     have HB3:=zH (zaa HB1.out hb3)))
  go_ret2
  exact RSt.nil rfl rfl HB1.out
 have HSLOW:Hid (decide (q<zyp c c.rates.length)=true):=zH (decide_eq_true (by rcases hr with h | h | h;exact absurd h h1;exact absurd h h2;exact h))
 clear hr
 go_enter Tryz.func48,Tryz.ntmps48
 go_upto_region 1 with fail
 generalize (w.alloc (.cells #[.slice ra rn rk, .slice sa sn sk, .slice la ln lk] 28)).alloc (.cells #[.bool t1, .slice a11 l11 k11, .slice a12 l12 k12] 38)=W2 at *
 obtain⟨_,c0,c1,c2,_,_,_⟩:=HC.out
 obtain⟨_,d0,d1,d2,_,_,_⟩:=HR.out
 go_wp2_with (first
  |(go_at_call 81;(with_reducible refine(zpq _ _ c t1 nr dr _ HA.out HV.out HX.out HF.out).mono ?_);rw[HPOS.out];rintro e1 w1 ⟨rfl,hb1⟩
    have HA1:=zH (HA.out.below hb1)
    have HX1:=zH (HX.out.below hb1)
    have HB1:=zH (zaa HBW.out hb1)
    obtain⟨_,c0,c1,c2,_,_,_⟩:=HC.out.belowS hb1
    obtain⟨_,d0,d1,d2,_,_,_⟩:=HR.out.belowS hb1
    clear hb1)
  |(go_at_call 82;(with_reducible refine(zir _ _ c t1 nr dr q _ HA1.out HV.out HX1.out HF.out HFQ.out).mono ?_);rw[HSLOW.out];rintro e3 w3 ⟨rfl,hb3⟩
    have HB3:=zH (zaa HB1.out hb3)))
 go_ret2
 exact RSt.nil rfl rfl HB3.out
set_option maxRecDepth 100000 in
theorem after_big (va vx:Value) (c:RC) (t1:Bool) (nr dr:Nat) (q:Rat) (m z:Nat) (w:World) (ha:zdq w va c) (hv:zzp c) (hx:zdc w vx t1 nr dr) (hp:zfr t1 nr dr) (hfq:fq t1 nr dr=q) (hm:m≤64) (hle:zyp c c.rates.length≤q)
 (h1:∀i j,i<c.rates.length→j<c.rates.length→fits ((zaq c i).getD j 0/q)) (h2:∀i,i<c.rates.length→fits (zgg (zaq c i)/q)∧fits (1-zgg (zaq c i)/q)) (hz:z<m) (hzb:3800<wtA c q z) (hw:∀i,i<z→wtA c q i≤3800):
 Calls Tryz.prog 48 #[va,vx, .int .i64 (m:Nat)] w (RSt w 2 []):=by
 have HFM:=zH (zrq h1 h2)
 have HW:=zH hw
 have HSTEP:Hid (∀ (i:Nat) w0 va vv,i<z→zam w0 va c.rates.length c.rates.length (zfq c q)→zbb w0 vv (itV c q i)→Calls Tryz.prog 84 #[va,vv] w0 fun e w'=>∃v',e= .returned (.tuple #[v', .int .i64 0])∧zbb w' v' (itV c q (i+1))∧Below w0.heap.size w0 w'):=
  zH (fun i w0 va vv hi k1 k2=>cstep_can va vv c q (itV c q i) w0 k1 k2 (znq hv q i) (by have:=hv.2.1;have:=hv.2.2.2.1;omega) (zbt hv i (fun j hj=>hw j (by omega))) (zrq h1 h2) (hw i hi))
 have HSTOP:Hid (∀w0 va vv,zam w0 va c.rates.length c.rates.length (zfq c q)→zbb w0 vv (itV c q z)→Calls Tryz.prog 84 #[va,vv] w0 fun e w'=>e= .returned (.tuple #[.slice none 0 0, .int .i64 2])∧Below w0.heap.size w0 w'):=
  zH (fun w0 va vv k1 k2=>cstep_canb va vv c q (itV c q z) w0 k1 k2 (znq hv q z) (by have:=hv.2.1;have:=hv.2.2.2.1;omega) (zbt hv z hw) (zrq h1 h2) hzb)
 clear hw hzb
 obtain⟨i0,hi,hz0,hz1,hz2⟩:=info_parts Tryz.infoF
 have hM:=zon (P:=Tryz.prog) 25 38 i0 Tryz.underlying25 hi hz0 hz1 (by rw[hz2];decide)
 clear hi hz0 hz1 hz2
 have hlen:c.rates.length=c.start.length:=hv.2.2.2.1
 have h128:c.start.length≤128:=hv.2.1
 obtain⟨rv,sv,lv,rfl,hr,hs,hl⟩:=id ha
 obtain⟨ra,rn,rk,rfl,_⟩:=id hr.sl
 obtain⟨sa,sn,sk,rfl,_⟩:=id hs.sl
 obtain⟨la,ln,lk,rfl,_⟩:=id (zhc.sl hl)
 obtain⟨x1,y1,rfl,hx4,hx5⟩:=id hx
 obtain⟨a11,l11,k11,rfl,_⟩:=hx4.slen.1
 obtain⟨a12,l12,k12,rfl,_⟩:=hx5.slen.1
 have hbx:=zca w (.cells #[.slice ra rn rk, .slice sa sn sk, .slice la ln lk] 28)
 have hb2:=zca (w.alloc (.cells #[.slice ra rn rk, .slice sa sn sk, .slice la ln lk] 28)) (.cells #[.bool t1, .slice a11 l11 k11, .slice a12 l12 k12] 38)
 have HC:=zH ((C3.new w 28 (.slice ra rn rk) (.slice sa sn sk) (.slice la ln lk)).belowS hb2)
 have HR:=zH (C3.newB (b:=w.heap.size+1) (w.alloc (.cells #[.slice ra rn rk, .slice sa sn sk, .slice la ln lk] 28)) 38 (.bool t1) (.slice a11 l11 k11) (.slice a12 l12 k12) (by simp))
 have HBW:=zH (zaa hbx hb2)
 have hsn:sn=c.start.length:=hs.len
 have ssn:=hs.sl
 have HS:=zH (hs.below HBW.out)
 have HA:=zH (ha.below HBW.out)
 have HX:=zH (hx.below HBW.out)
 have HV:=zH hv
 have HF:=zH hp.1
 have HFQ:=zH hfq
 have HPOS:Hid ((!t1&& !decide (nr=0))=true):=zH (by rw[hp.2.1,decide_eq_false hp.2.2];rfl)
 have HQ0:Hid (q≠0):=zH (fun h=>by have:=hp.q;rw[hfq,h]at this;exact absurd this (by decide))
 have HSLOW:Hid (decide (q<zyp c c.rates.length)=false):=zH (decide_eq_false (Rat.not_lt.2 hle))
 have HM:Hid (∀w0 va vx,zdq w0 va c→zdc w0 vx t1 nr dr→Calls Tryz.prog 83 #[va,vx] w0 (fun e w'=>∃v,e= .returned (.tuple #[v, .int .i64 0])∧zam w' v c.rates.length c.rates.length (zfq c q)∧Below w0.heap.size w0 w')):=
  zH (fun w0 va vx k1 k2=>zrs va vx c t1 nr dr q w0 k1 HV.out k2 HF.out HFQ.out HQ0.out h1 h2)
 have HN:Hid (sn=c.rates.length):=zH (by omega)
 have hn128:sn≤128:=by omega
 have hm0:(0:Int)≤(m:Int):=by omega
 have hm64:(m:Int)≤64:=by omega
 clear hr hs hl ha hv hbx hb2 hx hx4 hx5 hp hfq hle h1 h2 hlen h128 hsn
 go_enter Tryz.func48,Tryz.ntmps48
 go_upto_region 1 with fail
 generalize (w.alloc (.cells #[.slice ra rn rk, .slice sa sn sk, .slice la ln lk] 28)).alloc (.cells #[.bool t1, .slice a11 l11 k11, .slice a12 l12 k12] 38)=W2 at *
 obtain⟨_,c0,c1,c2,_,_,_⟩:=HC.out
 obtain⟨_,d0,d1,d2,_,_,_⟩:=HR.out
 go_wp2_with (first
  |(go_at_call 81;(with_reducible refine(zpq _ _ c t1 nr dr _ HA.out HV.out HX.out HF.out).mono ?_);rw[HPOS.out];rintro e1 w1 ⟨rfl,hb1⟩
    have HA1:=zH (HA.out.below hb1)
    have HX1:=zH (HX.out.below hb1)
    have HS1:=zH (HS.out.below hb1)
    have HC1:=zH (HC.out.belowS hb1)
    have HR1:=zH (HR.out.belowS hb1)
    have HB1:=zH (zaa HBW.out hb1)
    clear hb1
    obtain⟨_,c0,c1,c2,_,_,_⟩:=HC1.out
    obtain⟨_,d0,d1,d2,_,_,_⟩:=HR1.out)
  |(go_at_call 82;(with_reducible refine(zir _ _ c t1 nr dr q _ HA1.out HV.out HX1.out HF.out HFQ.out).mono ?_);rw[HSLOW.out];rintro e3 w3 ⟨rfl,hb3⟩
    have HA3:=zH (HA1.out.below hb3)
    have HX3:=zH (HX1.out.below hb3)
    have HS3:=zH (HS1.out.below hb3)
    have HC3:=zH (HC1.out.belowS hb3)
    have HR3:=zH (HR1.out.belowS hb3)
    have HB3:=zH (zaa HB1.out hb3)
    clear hb3 c0 c1 c2 d0 d1 d2
    obtain⟨_,c0,c1,c2,_,_,_⟩:=HC3.out
    obtain⟨_,d0,d1,d2,_,_,_⟩:=HR3.out)
  |(refine hM w3 rfl _ _ rfl w3.heap.size _ sn rfl rfl rfl (by omega) (Nat.le_refl _) ?_;intro vL w6 hO6 hb6 hv6
    have HO6:=zH hO6
    have HB6:=zH hb6
    have slL:=hO6.sl
    have lnL:=hO6.len
    have c0:=zba hb6 c0
    have c1:=zba hb6 c1
    have c2:=zba hb6 c2
    clear hO6 hb6))
 clear hM
 go_loopg [37] (sn) (fun g u37 wr=>∃ (k:Nat),k≤sn∧g=sn-k∧u37= .int .i64 k∧zqb wr 38 w3.heap.size vL sn∧(∀j,j<k→zlg wr vL j ((qs c.start).getD j 0))∧Below w3.heap.size w3 wr)
 case atStart=>exact⟨0,Nat.zero_le _,rfl,rfl,HO6.out,fun j h=>by omega,HB6.out⟩
 case round=>
  obtain⟨k,hkn,hg,rfl,ho,he,hbr⟩:=hrel
  obtain⟨w2,hw2⟩:∃w2,w2=wr:=⟨_,rfl⟩
  subst hw2
  have HG:=zH hg
  have HE:=zH he
  have HO:=zH ho
  have HBR:=zH hbr
  clear hg he HO6 HB6 c0 c1 c2 d0 d1 d2
  by_cases hkl:k<sn
  ·have hk2:k<c.start.length:=by have:=HN.out;have:=HV.out.2.2.2.1;omega
   obtain⟨ea,eb,g1,g2,g3,g4,g5⟩:=(HS3.out.below hbr).at' k hk2
   have HXO:Hid ((c.start[k]'hk2).ok):=zH (HV.out.2.2.2.2.1.ok _ (List.getElem_mem hk2))
   have HXQ:Hid ((qs c.start).getD k 0=(c.start[k]'hk2).q):=zH (by
    have h2:k<(qs c.start).length:=by rw[zgq];exact hk2
    rw[List.getD_eq_getElem?_getD,List.getElem?_eq_getElem h2,Option.getD_some,zqt _ _ hk2])
   obtain⟨x,hxe⟩:∃x,c.start[k]'hk2=x:=⟨_,rfl⟩
   rw[hxe]at g1 g4 g5 HXO HXQ
   obtain⟨ea1,ea2,ea3,rfl,_⟩:=g4.slen.1
   obtain⟨eb1,eb2,eb3,rfl,_⟩:=g5.slen.1
   have hb8:=zca w2 (.cells #[.bool x.neg, .slice ea1 ea2 ea3, .slice eb1 eb2 eb3] 38)
   have HXN:Hid (zdc (w2.alloc (.cells #[.bool x.neg, .slice ea1 ea2 ea3, .slice eb1 eb2 eb3] 38)) (.agg #[.bool x.neg, .slice ea1 ea2 ea3, .slice eb1 eb2 eb3]) x.neg x.n x.d):=zH (zdc.below ⟨_,_,rfl,g4,g5⟩ hb8)
   have j1:(0:Int)≤(k:Int):=by omega
   have j2:(k:Int)<(sn:Nat):=by omega
   clear g4 g5 hxe ho hbr
   go_wp2_with (go_at_call 89;(with_reducible refine(zok _ x _ HXN.out HXO.out).mono ?_);rintro e21 w21 ⟨v21,rfl,hv21,hb21⟩
                obtain⟨t21,x21,y21,rfl,⟨a61,l61,k61,rfl,_⟩,⟨a62,l62,k62,rfl,_⟩⟩:=hv21.isF
                have hbb:=zaa hb8 hb21
                have ho3:=HO.out.below hbb
                obtain⟨c0,d0,_⟩:=ho3.cell (k*3) (by omega)
                obtain⟨c1,d1,_⟩:=ho3.cell (k*3+1) (by omega)
                obtain⟨c2,d2,_⟩:=ho3.cell (k*3+2) (by omega)
                have f0:=ho3.frozen (k*3)
                have f1:=ho3.frozen (k*3+1)
                have f2:=ho3.frozen (k*3+2)
                have n01:=ho3.inj (show k*3≠k*3+1 by omega)
                have n02:=ho3.inj (show k*3≠k*3+2 by omega)
                have n12:=ho3.inj (show k*3+1≠k*3+2 by omega)
                have HS4:=zH (ho3.set3 k (.bool t21) (.slice a61 l61 k61) (.slice a62 l62 k62) (fun z=>by simp) (fun z=>by simp) (fun z=>by simp))
                have HE4:=zH (fun j hj=>(HE.out j hj).below hbb)
                have HO4:=zH ho3
                have HV4:=zH hv21
                have HB4:=zH (zfa HBR.out hbb HBR.out.size)
                clear ho3 hv21 hbb hb21)
   go_roundg (sn- (k+1))
   case measure=>(have:=HG.out;omega)
   case rel=>
    refine⟨k+1,by omega,rfl,by go_num,HS4.out.1,fun j hj=> ?_,HB4.out.trans HS4.out.2⟩
    rcases Nat.lt_or_ge j k with h6 | h6
    ·exact zlg.set3_other HO4.out hkl (by omega) (HE4.out j h6) _ _ _ (fun z=>by simp) (fun z=>by simp)
    ·obtain rfl:j=k:=by omega
     rw[HXQ.out]
     exact zlg.set3 HO4.out hkl HV4.out
  ·obtain rfl:k=sn:=by omega
   have HV0:Hid (zbb w2 vL (itV c q 0)):=zH (HO.out.fracs (by rw[znq HV.out];exact HN.out.symm) (fun j hj=>by
    have h2:j<(qs c.start).length:=hj
    have h3:=HE.out j (by rw[znq HV.out]at hj;rw[HN.out];exact hj)
    rw[List.getD_eq_getElem?_getD,List.getElem?_eq_getElem h2]at h3
    exact h3))
   have HA4:=zH (HA3.out.below hbr)
   have HX4:=zH (HX3.out.below hbr)
   have HB4:=zH (zaa HB3.out hbr)
   obtain⟨_,c0,c1,c2,_,_,_⟩:=HC3.out.belowS hbr
   obtain⟨_,d0,d1,d2,_,_,_⟩:=HR3.out.belowS hbr
   clear ho hbr HO HE HBR HG
   have hm2:(((m:Nat):Int)==0)=false:=by simp;omega
   go_wp2_with (go_at_call 83;(with_reducible refine(HM.out _ _ _ HA4.out HX4.out).mono ?_);rintro e4 w4 ⟨v4,rfl,hm4,hb4⟩
                have HM4:=zH hm4
                have HV4:=zH (HV0.out.below hb4)
                have HB5:=zH (zaa HB4.out hb4)
                clear hm4 hb4)
   go_loopg [2,8,12] (m) (fun g u2 u8 u12 wr=>∃ (i:Nat) (er:Int) (l:List Rat),i≤m∧g=m-i∧u2= .int .i64 ((m:Int)- (i:Int))∧u12= .int .i64 er∧zbb wr u8 l∧Below w4.heap.size w4 wr∧((er=0∧l=itV c q i∧i≤z)∨er=2))
   case atStart=>exact⟨0,0,_,Nat.zero_le _,rfl,by simp,rfl,HV4.out,Below.refl _ _,Or.inl ⟨rfl,rfl,Nat.zero_le _⟩⟩
   case round=>
    obtain⟨i,er,l,hin,hg,rfl,rfl,hvi,hbi,hor⟩:=hrel
    obtain⟨w5,hw5⟩:∃w5,w5=wr:=⟨_,rfl⟩
    subst hw5
    have HG:=zH hg
    have HVI:=zH hvi
    have HBI:=zH hbi
    have HMI:=zH (HM4.out.below hbi)
    clear hg hvi hbi
    rcases hor with⟨rfl,rfl,hiz⟩ | rfl
    ·have hpos:(0:Int)<(m:Int)- (i:Int):=by omega
     by_cases hil:i<z
     ·go_wp2_with (go_at_call 84;(with_reducible refine(HSTEP.out i _ _ _ hil HMI.out HVI.out).mono ?_);rintro e6 w6 ⟨v6,rfl,hv6',hb6⟩
                   have HV6:=zH hv6'
                   have HB6:=zH (zaa HBI.out hb6)
                   clear hv6' hb6)
      go_roundg (m- (i+1))
      case measure=>(have:=HG.out;omega)
      case rel=>exact⟨i+1,0,_,by omega,rfl,by go_num,rfl,HV6.out,HB6.out,Or.inl ⟨rfl,rfl,by omega⟩⟩
     ·obtain rfl:i=z:=by omega
      go_wp2_with (go_at_call 84;(with_reducible refine(HSTOP.out _ _ _ HMI.out HVI.out).mono ?_);rintro e6 w6 ⟨rfl,hb6⟩
                   have HB6:=zH (zaa HBI.out hb6)
                   clear hb6)
      go_roundg (m- (i+1))
      case measure=>(have:=HG.out;omega)
      case rel=>exact⟨i+1,2,[],by omega,rfl,by go_num,rfl,zbb.nilS _,HB6.out,Or.inr rfl⟩
    ·by_cases hil:i<m
     ·have hpos:(0:Int)<(m:Int)- (i:Int):=by omega
      go_wp2_with fail
      go_ret2
      exact RSt.nil rfl rfl (zaa HB5.out HBI.out)
     ·have hpos:¬ (0:Int)<(m:Int)- (i:Int):=by omega
      go_wp2_with fail
      go_ret2
      exact RSt.nil rfl rfl (zaa HB5.out HBI.out)
theorem after_all (va vx:Value) (c:RC) (t1:Bool) (nr dr:Nat) (m:Int) (w:World) (ha:zdq w va c) (hv:zzp c) (hx:zdc w vx t1 nr dr) (hfit:zfr t1 nr dr→zyp c c.rates.length≤fq t1 nr dr→zdu c (fq t1 nr dr)):
 Calls Tryz.prog 48 #[va,vx, .int .i64 m] w (RSt w (apErr c t1 nr dr m) (apVal c t1 nr dr m)):=by
 by_cases hp:zfr t1 nr dr
 ·rw[apErr,apVal,if_pos hp,if_pos hp]
  by_cases hr:m<0∨64<m∨fq t1 nr dr<zyp c c.rates.length
  ·rw[if_pos hr,if_pos hr]
   exact after_range va vx c t1 nr dr _ m w ha hv hx hp rfl hr
  ·rw[if_neg hr,if_neg hr]
   obtain⟨n,rfl⟩:∃n:Nat,m=n:=⟨m.toNat,by omega⟩
   have hn:n≤64:=by omega
   have hle:zyp c c.rates.length≤fq t1 nr dr:=Rat.not_lt.1 fun h=>hr (Or.inr (Or.inr h))
   have hf:=hfit hp hle
   rw[Int.toNat_natCast]
   by_cases ho:afOk c (fq t1 nr dr) n
   ·rw[afErr,afVal,if_pos ho,if_pos ho]
    exact after_ok va vx c t1 nr dr _ n w ha hv hx hp rfl hn hle hf.1 hf.2 ho
   ·rw[afErr,afVal,if_neg ho,if_neg ho]
    obtain⟨z,h1,h2,h3⟩:=afOk.first ho
    exact after_big va vx c t1 nr dr _ n z w ha hv hx hp rfl hn hle hf.1 hf.2 h1 h2 h3
 ·rw[apErr,apVal,if_neg hp,if_neg hp]
  exact after_rated va vx c t1 nr dr m w ha hv hx hp
end Go.Proofs.YtlpdkbmmbdfoiaaGreat
