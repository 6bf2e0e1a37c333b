/-
  Sums over the states of a list. No program is named here.
-/
import Derived.Test.YtlpdkbmmbdfoiaaGreatHCs5
import Derived.Test.YtlpdkbmmbdfoiaaGreatHCs2
import Derived.Test.YtlpdkbmmbdfoiaaGreatHRg4
set_option linter.unusedVariables false
set_option linter.unusedSimpArgs false
namespace Go.Proofs.YtlpdkbmmbdfoiaaGreat
set_option maxHeartbeats 6400000
open Go.RowKit
theorem r2reduce_can (va:Value) (q:Rat) (w:World) (ha:zqa w va q) (hf:fits q):Calls Tryz.prog 116 #[va] w (RF0 w q):=by
 have h:=zmq va (RF.of q) w ha.raw (RF.of_ok hf)
 rw[RF.of_q]at h
 exact h
theorem zos (va vv:Value) (c:RC) (ρ:Rat) (i:Nat) (w:World) (n:Nat) (hv:zzp c) (hn:c.rates.length=n) (h1:1≤n) (h24:n≤24) (ha:zam w va n n (zfq c ρ)) (hvv:zbb w vv (itV c ρ i)) (hf:zau n n (zfq c ρ)) (hw:∀j,j<i→wtA c ρ j≤3800):
 Calls Tryz.prog 118 #[va,vv] w (RSt w (if wtA c ρ i≤3800 then 0 else 2) (if wtA c ρ i≤3800 then itV c ρ (i+1)else [])):=by
 have hq:qs ((itV c ρ i).map RF.of)=itV c ρ i:=zvh _
 have h:=zpt va vv c ρ ((itV c ρ i).map RF.of) w n hn ha hvv.raw (by rw[List.length_map,znq hv,hn]) h1 h24 (fun x hx=>by
  obtain⟨y,hy,rfl⟩:=List.mem_map.1 hx
  exact RF.of_ok (zbt hv i hw y hy)) hf
 rw[hq]at h
 exact h
set_option maxRecDepth 100000 in
theorem rafter_rated (va vx:Value) (c:CQ) (t1:Bool) (nr dr:Nat) (m:Int) (w:World) (ha:zlq w va c) (hv:zzp c.raw) (hx:zdc w vx t1 nr dr) (hp:¬zfr t1 nr dr):
 Calls Tryz.prog 51 #[va,vx, .int .i64 m] w (RSt w 1 []):=by
 have hlen:c.rates.length=c.start.length:=by have h:=hv.2.2.2.1;simpa [CQ.raw]using h
 have hrl:c.raw.rates.length=c.rates.length:=by simp[CQ.raw]
 have hsl:c.raw.start.length=c.start.length:=by simp[CQ.raw]
 obtain⟨rv,sv,lv,rfl,hr,hs,hl9⟩:=id ha
 obtain⟨ra,rn,rk,rfl,_⟩:=id hr.sl
 obtain⟨sa,sn,sk,rfl,_⟩:=id hs.sl
 obtain⟨la,ln,lk,rfl,_⟩:=id (zhc.sl hl9)
 obtain⟨x1,y1,rfl,hx4,hx5⟩:=id hx
 obtain⟨a11,l11,k11,rfl,_⟩:=hx4.slen.1
 obtain⟨a12,l12,k12,rfl,_⟩:=hx5.slen.1
 have hsn:sn=c.start.length:=hs.len
 have hbx:=zca w (.cells #[.slice ra rn rk, .slice sa sn sk, .slice la ln lk] 28)
 have hb2:=zca (w.alloc (.cells #[.slice ra rn rk, .slice sa sn sk, .slice la ln lk] 28)) (.cells #[.bool t1, .slice a11 l11 k11, .slice a12 l12 k12] 38)
 have HC:=zH ((C3.new w 28 (.slice ra rn rk) (.slice sa sn sk) (.slice la ln lk)).belowS hb2)
 have HC9:=zH (C3.newB (b:=w.heap.size+1) (w.alloc (.cells #[.slice ra rn rk, .slice sa sn sk, .slice la ln lk] 28)) 38 (.bool t1) (.slice a11 l11 k11) (.slice a12 l12 k12) (by simp))
 have HBW:=zH (zaa hbx hb2)
 have HS:=zH (hs.below HBW.out)
 have HA:=zH (ha.below HBW.out)
 have HX:=zH (hx.below HBW.out)
 have HV:=zH hv
 have HLEN:=zH (And.intro hlen (And.intro hrl hsl))
 have HSN:=zH hsn
 have ssn:=hs.sl
 clear hr hs hl9 ha hv hbx hb2 hx hx4 hx5 hlen hrl hsl
 have HPOS:Hid (∀w0 vx,zdc w0 vx t1 nr dr→Calls Tryz.prog 115 #[vx] w0 (fun e w'=>e= .returned (.bool false)∧Below w0.heap.size w0 w')):=zH (fun w0 vx k=>zkq vx t1 nr dr false w0 k ⟨fun h=>(by cases h),fun h=>absurd h hp⟩)
 clear hp hsn
 go_enter Tryz.func51,Tryz.ntmps51
 go_upto_region 1 with fail
 generalize (w.alloc (.cells #[.slice ra rn rk, .slice sa sn sk, .slice la ln lk] 28)).alloc (.cells #[.bool t1, .slice a11 l11 k11, .slice a12 l12 k12] 38)=W2 at *
 obtain⟨bc,hbc⟩:∃b,w.heap.size=b:=⟨_,rfl⟩
 have HBC:=zH hbc
 rw[hbc]at HC HC9 ⊢
 clear hbc
 obtain⟨_,c0,c1,c2,_,_,_⟩:=HC.out
 obtain⟨_,d0,d1,d2,_,_,_⟩:=HC9.out
 go_wp2_with (first
  |(go_at_call 69;(with_reducible refine(zjq _ c.raw _ HA.out.raw).mono ?_);rintro e1 w1 ⟨⟨bv,rfl,hbv⟩,hb1⟩;obtain rfl:bv=true:=hbv.2 HV.out;clear hbv
    have HX1:=zH (HX.out.below hb1)
    have HA1:=zH (HA.out.below hb1)
    have HB1:=zH (zaa HBW.out hb1)
    have HC1:=zH (HC.out.belowS hb1)
    have HC91:=zH (HC9.out.belowS hb1)
    have HS1:=zH (HS.out.below hb1)
    have HW1:=zH hb1
    clear hb1 c0 c1 c2 d0 d1 d2
    obtain⟨_,c0,c1,c2,_,_,_⟩:=HC1.out
    obtain⟨_,d0,d1,d2,_,_,_⟩:=HC91.out)
  |(go_at_call 115;(with_reducible refine(HPOS.out _ _ HX1.out).mono ?_);rintro e2 w2 ⟨rfl,hb2⟩
    have HX2:=zH (HX1.out.below hb2)
    have HA2:=zH (HA1.out.below hb2)
    have HB2:=zH (zaa HB1.out hb2)
    have HC2:=zH (HC1.out.belowS hb2)
    have HC92:=zH (HC91.out.belowS hb2)
    have HS2:=zH (HS1.out.below hb2)
    have HW2:=zH (zaa HW1.out hb2)
    clear hb2 c0 c1 c2 d0 d1 d2
    obtain⟨_,c0,c1,c2,_,_,_⟩:=HC2.out
    obtain⟨_,d0,d1,d2,_,_,_⟩:=HC92.out)
  | fail)
 go_ret2
 exact RSt.nil rfl rfl HB2.out
set_option maxRecDepth 100000 in
theorem rafter_range (va vx:Value) (c:CQ) (t1:Bool) (nr dr:Nat) (q:Rat) (m:Int) (w:World) (ha:zlq w va c) (hv:zzp c.raw) (hx:zdc w vx t1 nr dr) (hp:zfr t1 nr dr) (hfq:fq t1 nr dr=q) (hr:m<0∨64<m∨q<zyp c.raw c.raw.rates.length):
 Calls Tryz.prog 51 #[va,vx, .int .i64 m] w (RSt w 5 []):=by
 have hlen:c.rates.length=c.start.length:=by have h:=hv.2.2.2.1;simpa [CQ.raw]using h
 have hrl:c.raw.rates.length=c.rates.length:=by simp[CQ.raw]
 have hsl:c.raw.start.length=c.start.length:=by simp[CQ.raw]
 obtain⟨rv,sv,lv,rfl,hr,hs,hl9⟩:=id ha
 obtain⟨ra,rn,rk,rfl,_⟩:=id hr.sl
 obtain⟨sa,sn,sk,rfl,_⟩:=id hs.sl
 obtain⟨la,ln,lk,rfl,_⟩:=id (zhc.sl hl9)
 obtain⟨x1,y1,rfl,hx4,hx5⟩:=id hx
 obtain⟨a11,l11,k11,rfl,_⟩:=hx4.slen.1
 obtain⟨a12,l12,k12,rfl,_⟩:=hx5.slen.1
 have hsn:sn=c.start.length:=hs.len
 have hbx:=zca w (.cells #[.slice ra rn rk, .slice sa sn sk, .slice la ln lk] 28)
 have hb2:=zca (w.alloc (.cells #[.slice ra rn rk, .slice sa sn sk, .slice la ln lk] 28)) (.cells #[.bool t1, .slice a11 l11 k11, .slice a12 l12 k12] 38)
 have HC:=zH ((C3.new w 28 (.slice ra rn rk) (.slice sa sn sk) (.slice la ln lk)).belowS hb2)
 have HC9:=zH (C3.newB (b:=w.heap.size+1) (w.alloc (.cells #[.slice ra rn rk, .slice sa sn sk, .slice la ln lk] 28)) 38 (.bool t1) (.slice a11 l11 k11) (.slice a12 l12 k12) (by simp))
 have HBW:=zH (zaa hbx hb2)
 have HS:=zH (hs.below HBW.out)
 have HA:=zH (ha.below HBW.out)
 have HX:=zH (hx.below HBW.out)
 have HV:=zH hv
 have HLEN:=zH (And.intro hlen (And.intro hrl hsl))
 have HSN:=zH hsn
 have ssn:=hs.sl
 clear hr hs hl9 ha hv hbx hb2 hx hx4 hx5 hlen hrl hsl
 have HPOS:Hid (∀w0 vx,zdc w0 vx t1 nr dr→Calls Tryz.prog 115 #[vx] w0 (fun e w'=>e= .returned (.bool true)∧Below w0.heap.size w0 w')):=zH (fun w0 vx k=>zkq vx t1 nr dr true w0 k ⟨fun _=>hp,fun _=>rfl⟩)
 have HF:=zH hp.1
 have HFQ:=zH hfq
 have HLF:=zH (zwq HV.out _ (Nat.le_refl _))
 obtain⟨L,hL⟩:∃L,zyp c.raw c.raw.rates.length=L:=⟨_,rfl⟩
 have HL2:=zH hL
 rw[hL]at HLF hr
 clear hL hp hfq hsn
 by_cases h1:m<0
 ·clear hr
  go_enter Tryz.func51,Tryz.ntmps51
  go_upto_region 1 with fail
  generalize (w.alloc (.cells #[.slice ra rn rk, .slice sa sn sk, .slice la ln lk] 28)).alloc (.cells #[.bool t1, .slice a11 l11 k11, .slice a12 l12 k12] 38)=W2 at *
  obtain⟨bc,hbc⟩:∃b,w.heap.size=b:=⟨_,rfl⟩
  have HBC:=zH hbc
  rw[hbc]at HC HC9 ⊢
  clear hbc
  obtain⟨_,c0,c1,c2,_,_,_⟩:=HC.out
  obtain⟨_,d0,d1,d2,_,_,_⟩:=HC9.out
  go_upto_region 4 with(first
   |(go_at_call 69;(with_reducible refine(zjq _ c.raw _ HA.out.raw).mono ?_);rintro e1 w1 ⟨⟨bv,rfl,hbv⟩,hb1⟩;obtain rfl:bv=true:=hbv.2 HV.out;clear hbv
     have HX1:=zH (HX.out.below hb1)
     have HA1:=zH (HA.out.below hb1)
     have HB1:=zH (zaa HBW.out hb1)
     have HC1:=zH (HC.out.belowS hb1)
     have HC91:=zH (HC9.out.belowS hb1)
     have HS1:=zH (HS.out.below hb1)
     have HW1:=zH hb1
     clear hb1 c0 c1 c2 d0 d1 d2
     obtain⟨_,c0,c1,c2,_,_,_⟩:=HC1.out
     obtain⟨_,d0,d1,d2,_,_,_⟩:=HC91.out)
   |(go_at_call 115;(with_reducible refine(HPOS.out _ _ HX1.out).mono ?_);rintro e2 w2 ⟨rfl,hb2⟩
     have HX2:=zH (HX1.out.below hb2)
     have HA2:=zH (HA1.out.below hb2)
     have HB2:=zH (zaa HB1.out hb2)
     have HC2:=zH (HC1.out.belowS hb2)
     have HC92:=zH (HC91.out.belowS hb2)
     have HS2:=zH (HS1.out.below hb2)
     have HW2:=zH (zaa HW1.out hb2)
     clear hb2 c0 c1 c2 d0 d1 d2
     obtain⟨_,c0,c1,c2,_,_,_⟩:=HC2.out
     obtain⟨_,d0,d1,d2,_,_,_⟩:=HC92.out)
   |(go_at_call 17;(with_reducible refine(zqq _ c.raw _ HA2.out.raw HV.out).mono ?_);rw[HL2.out];rintro e5 w5 ⟨v5,rfl,hv5,hb5⟩
     obtain⟨t5,x5,y5,rfl,⟨a51,l51,k51,rfl,_⟩,⟨a52,l52,k52,rfl,_⟩⟩:=hv5.isF
     have hba:=zca w5 (.cells #[.bool t5, .slice a51 l51 k51, .slice a52 l52 k52] 38)
     have hbb:=zaa hb5 hba
     have HC5:=zH (C3.new w5 38 (.bool t5) (.slice a51 l51 k51) (.slice a52 l52 k52))
     have HF5:=zH (hv5.below hba)
     replace HB2:=zH (zaa HB2.out hbb);replace HA2:=zH (HA2.out.below hbb);replace HX2:=zH (HX2.out.below hbb);replace HC2:=zH (HC2.out.belowS hbb);replace HC92:=zH (HC92.out.belowS hbb)
     clear hv5 hb5 hba hbb c0 c1 c2 d0 d1 d2))
  obtain⟨b5,hb5⟩:∃b,w5.heap.size=b:=⟨_,rfl⟩
  rw[hb5]at HC5 ⊢
  clear hb5
  generalize w5.alloc (.cells #[.bool t5, .slice a51 l51 k51, .slice a52 l52 k52] 38)=W5 at *
  obtain⟨_,c0,c1,c2,_,_,_⟩:=HC2.out
  obtain⟨_,d0,d1,d2,_,_,_⟩:=HC92.out
  obtain⟨_,p0,p1,p2,_,_,_⟩:=HC5.out
  go_wp2_with fail
  go_ret2
  exact RSt.nil rfl rfl HB2.out
 by_cases h2:64<m
 ·clear hr
  go_enter Tryz.func51,Tryz.ntmps51
  go_upto_region 1 with fail
  generalize (w.alloc (.cells #[.slice ra rn rk, .slice sa sn sk, .slice la ln lk] 28)).alloc (.cells #[.bool t1, .slice a11 l11 k11, .slice a12 l12 k12] 38)=W2 at *
  obtain⟨bc,hbc⟩:∃b,w.heap.size=b:=⟨_,rfl⟩
  have HBC:=zH hbc
  rw[hbc]at HC HC9 ⊢
  clear hbc
  obtain⟨_,c0,c1,c2,_,_,_⟩:=HC.out
  obtain⟨_,d0,d1,d2,_,_,_⟩:=HC9.out
  go_upto_region 4 with(first
   |(go_at_call 69;(with_reducible refine(zjq _ c.raw _ HA.out.raw).mono ?_);rintro e1 w1 ⟨⟨bv,rfl,hbv⟩,hb1⟩;obtain rfl:bv=true:=hbv.2 HV.out;clear hbv
     have HX1:=zH (HX.out.below hb1)
     have HA1:=zH (HA.out.below hb1)
     have HB1:=zH (zaa HBW.out hb1)
     have HC1:=zH (HC.out.belowS hb1)
     have HC91:=zH (HC9.out.belowS hb1)
     have HS1:=zH (HS.out.below hb1)
     have HW1:=zH hb1
     clear hb1 c0 c1 c2 d0 d1 d2
     obtain⟨_,c0,c1,c2,_,_,_⟩:=HC1.out
     obtain⟨_,d0,d1,d2,_,_,_⟩:=HC91.out)
   |(go_at_call 115;(with_reducible refine(HPOS.out _ _ HX1.out).mono ?_);rintro e2 w2 ⟨rfl,hb2⟩
     have HX2:=zH (HX1.out.below hb2)
     have HA2:=zH (HA1.out.below hb2)
     have HB2:=zH (zaa HB1.out hb2)
     have HC2:=zH (HC1.out.belowS hb2)
     have HC92:=zH (HC91.out.belowS hb2)
     have HS2:=zH (HS1.out.below hb2)
     have HW2:=zH (zaa HW1.out hb2)
     clear hb2 c0 c1 c2 d0 d1 d2
     obtain⟨_,c0,c1,c2,_,_,_⟩:=HC2.out
     obtain⟨_,d0,d1,d2,_,_,_⟩:=HC92.out)
   |(go_at_call 17;(with_reducible refine(zqq _ c.raw _ HA2.out.raw HV.out).mono ?_);rw[HL2.out];rintro e5 w5 ⟨v5,rfl,hv5,hb5⟩
     obtain⟨t5,x5,y5,rfl,⟨a51,l51,k51,rfl,_⟩,⟨a52,l52,k52,rfl,_⟩⟩:=hv5.isF
     have hba:=zca w5 (.cells #[.bool t5, .slice a51 l51 k51, .slice a52 l52 k52] 38)
     have hbb:=zaa hb5 hba
     have HC5:=zH (C3.new w5 38 (.bool t5) (.slice a51 l51 k51) (.slice a52 l52 k52))
     have HF5:=zH (hv5.below hba)
     replace HB2:=zH (zaa HB2.out hbb);replace HA2:=zH (HA2.out.below hbb);replace HX2:=zH (HX2.out.below hbb);replace HC2:=zH (HC2.out.belowS hbb);replace HC92:=zH (HC92.out.belowS hbb)
     clear hv5 hb5 hba hbb c0 c1 c2 d0 d1 d2))
  obtain⟨b5,hb5⟩:∃b,w5.heap.size=b:=⟨_,rfl⟩
  rw[hb5]at HC5 ⊢
  clear hb5
  generalize w5.alloc (.cells #[.bool t5, .slice a51 l51 k51, .slice a52 l52 k52] 38)=W5 at *
  obtain⟨_,c0,c1,c2,_,_,_⟩:=HC2.out
  obtain⟨_,d0,d1,d2,_,_,_⟩:=HC92.out
  obtain⟨_,p0,p1,p2,_,_,_⟩:=HC5.out
  go_wp2_with fail
  go_ret2
  exact RSt.nil rfl rfl HB2.out
 have HSLOW:Hid (decide (q<L)=true):=zH (decide_eq_true (by rcases hr with h | h | h;exact absurd h h1;exact absurd h h2;exact h))
 clear hr
 ·skip
  go_enter Tryz.func51,Tryz.ntmps51
  go_upto_region 1 with fail
  generalize (w.alloc (.cells #[.slice ra rn rk, .slice sa sn sk, .slice la ln lk] 28)).alloc (.cells #[.bool t1, .slice a11 l11 k11, .slice a12 l12 k12] 38)=W2 at *
  obtain⟨bc,hbc⟩:∃b,w.heap.size=b:=⟨_,rfl⟩
  have HBC:=zH hbc
  rw[hbc]at HC HC9 ⊢
  clear hbc
  obtain⟨_,c0,c1,c2,_,_,_⟩:=HC.out
  obtain⟨_,d0,d1,d2,_,_,_⟩:=HC9.out
  go_upto_region 4 with(first
   |(go_at_call 69;(with_reducible refine(zjq _ c.raw _ HA.out.raw).mono ?_);rintro e1 w1 ⟨⟨bv,rfl,hbv⟩,hb1⟩;obtain rfl:bv=true:=hbv.2 HV.out;clear hbv
     have HX1:=zH (HX.out.below hb1)
     have HA1:=zH (HA.out.below hb1)
     have HB1:=zH (zaa HBW.out hb1)
     have HC1:=zH (HC.out.belowS hb1)
     have HC91:=zH (HC9.out.belowS hb1)
     have HS1:=zH (HS.out.below hb1)
     have HW1:=zH hb1
     clear hb1 c0 c1 c2 d0 d1 d2
     obtain⟨_,c0,c1,c2,_,_,_⟩:=HC1.out
     obtain⟨_,d0,d1,d2,_,_,_⟩:=HC91.out)
   |(go_at_call 115;(with_reducible refine(HPOS.out _ _ HX1.out).mono ?_);rintro e2 w2 ⟨rfl,hb2⟩
     have HX2:=zH (HX1.out.below hb2)
     have HA2:=zH (HA1.out.below hb2)
     have HB2:=zH (zaa HB1.out hb2)
     have HC2:=zH (HC1.out.belowS hb2)
     have HC92:=zH (HC91.out.belowS hb2)
     have HS2:=zH (HS1.out.below hb2)
     have HW2:=zH (zaa HW1.out hb2)
     clear hb2 c0 c1 c2 d0 d1 d2
     obtain⟨_,c0,c1,c2,_,_,_⟩:=HC2.out
     obtain⟨_,d0,d1,d2,_,_,_⟩:=HC92.out)
   |(go_at_call 17;(with_reducible refine(zqq _ c.raw _ HA2.out.raw HV.out).mono ?_);rw[HL2.out];rintro e5 w5 ⟨v5,rfl,hv5,hb5⟩
     obtain⟨t5,x5,y5,rfl,⟨a51,l51,k51,rfl,_⟩,⟨a52,l52,k52,rfl,_⟩⟩:=hv5.isF
     have hba:=zca w5 (.cells #[.bool t5, .slice a51 l51 k51, .slice a52 l52 k52] 38)
     have hbb:=zaa hb5 hba
     have HC5:=zH (C3.new w5 38 (.bool t5) (.slice a51 l51 k51) (.slice a52 l52 k52))
     have HF5:=zH (hv5.below hba)
     replace HB2:=zH (zaa HB2.out hbb);replace HA2:=zH (HA2.out.below hbb);replace HX2:=zH (HX2.out.below hbb);replace HC2:=zH (HC2.out.belowS hbb);replace HC92:=zH (HC92.out.belowS hbb)
     clear hv5 hb5 hba hbb c0 c1 c2 d0 d1 d2))
  obtain⟨b5,hb5⟩:∃b,w5.heap.size=b:=⟨_,rfl⟩
  rw[hb5]at HC5 ⊢
  clear hb5
  generalize w5.alloc (.cells #[.bool t5, .slice a51 l51 k51, .slice a52 l52 k52] 38)=W5 at *
  obtain⟨_,c0,c1,c2,_,_,_⟩:=HC2.out
  obtain⟨_,d0,d1,d2,_,_,_⟩:=HC92.out
  obtain⟨_,p0,p1,p2,_,_,_⟩:=HC5.out
  go_wp2_with (first
   |(go_at_call 50;(with_reducible refine(zzr _ _ t1 nr dr q L _ HX2.out HF5.out HF.out HFQ.out HLF.out).mono ?_);rw[HSLOW.out];rintro e6 w6 ⟨rfl,hb6⟩
     have HB6:=zH (zaa HB2.out hb6)))
  go_ret2
  exact RSt.nil rfl rfl HB6.out
set_option maxRecDepth 100000 in
theorem rafter_run (va vx:Value) (c:CQ) (t1:Bool) (nr dr:Nat) (q:Rat) (m:Nat) (w:World) (ha:zlq w va c) (hv:zzp c.raw) (h24:c.start.length≤24) (hx:zdc w vx t1 nr dr) (hp:zfr t1 nr dr) (hfq:fq t1 nr dr=q) (hm:m≤64) (hle:zyp c.raw c.raw.rates.length≤q) (hfe:zdu c.raw q):
 Calls Tryz.prog 51 #[va,vx, .int .i64 (m:Nat)] w (RSt w (afErr c.raw q m) (afVal c.raw q m)):=by
 obtain⟨i3,hi3,hz3,hs3,hy3⟩:=info_parts Tryz.infoF
 have hAP:=zpp (P:=Tryz.prog) 25 38 i3 Tryz.underlying25 hi3 hz3 hs3 hy3
 clear hi3 hz3 hs3 hy3
 have h1:1≤c.start.length:=by have h:=hv.1;simpa [CQ.raw]using h
 have hlen:c.rates.length=c.start.length:=by have h:=hv.2.2.2.1;simpa [CQ.raw]using h
 have hrl:c.raw.rates.length=c.rates.length:=by simp[CQ.raw]
 have hsl:c.raw.start.length=c.start.length:=by simp[CQ.raw]
 obtain⟨rv,sv,lv,rfl,hr,hs,hl9⟩:=id ha
 obtain⟨ra,rn,rk,rfl,_⟩:=id hr.sl
 obtain⟨sa,sn,sk,rfl,_⟩:=id hs.sl
 obtain⟨la,ln,lk,rfl,_⟩:=id (zhc.sl hl9)
 obtain⟨x1,y1,rfl,hx4,hx5⟩:=id hx
 obtain⟨a11,l11,k11,rfl,_⟩:=hx4.slen.1
 obtain⟨a12,l12,k12,rfl,_⟩:=hx5.slen.1
 have hsn:sn=c.start.length:=hs.len
 have hbx:=zca w (.cells #[.slice ra rn rk, .slice sa sn sk, .slice la ln lk] 28)
 have hb2:=zca (w.alloc (.cells #[.slice ra rn rk, .slice sa sn sk, .slice la ln lk] 28)) (.cells #[.bool t1, .slice a11 l11 k11, .slice a12 l12 k12] 38)
 have HC:=zH ((C3.new w 28 (.slice ra rn rk) (.slice sa sn sk) (.slice la ln lk)).belowS hb2)
 have HC9:=zH (C3.newB (b:=w.heap.size+1) (w.alloc (.cells #[.slice ra rn rk, .slice sa sn sk, .slice la ln lk] 28)) 38 (.bool t1) (.slice a11 l11 k11) (.slice a12 l12 k12) (by simp))
 have HBW:=zH (zaa hbx hb2)
 have HS:=zH (hs.below HBW.out)
 have HA:=zH (ha.below HBW.out)
 have HX:=zH (hx.below HBW.out)
 have HV:=zH hv
 have HLEN:=zH (And.intro hlen (And.intro hrl hsl))
 have HSN:=zH hsn
 have ssn:=hs.sl
 clear hr hs hl9 ha hv hbx hb2 hx hx4 hx5 hlen hrl hsl
 have HPOS:Hid (∀w0 vx,zdc w0 vx t1 nr dr→Calls Tryz.prog 115 #[vx] w0 (fun e w'=>e= .returned (.bool true)∧Below w0.heap.size w0 w')):=zH (fun w0 vx k=>zkq vx t1 nr dr true w0 k ⟨fun _=>hp,fun _=>rfl⟩)
 have HF:=zH hp.1
 have HN0:=zH hp.2.2
 have HFQ:=zH hfq
 have HLF:=zH (zwq HV.out _ (Nat.le_refl _))
 have HLN:Hid (c.raw.rates.length=c.start.length):=zH (by rw[HLEN.out.2.1,HLEN.out.1])
 have HDIM:Hid (1≤c.start.length∧c.start.length≤24):=zH ⟨h1,h24⟩
 have HFM:Hid (zau c.start.length c.start.length (zfq c.raw q)):=zH (by have h:=zrq hfe.1 hfe.2;rw[HLN.out]at h;exact h)
 have HM:Hid (∀w0 va vx,zlq w0 va c→zdc w0 vx t1 nr dr→Calls Tryz.prog 117 #[va,vx] w0 (fun e w'=>∃v,e= .returned (.tuple #[v, .bool true])∧zam w' v c.start.length c.start.length (zfq c.raw q)∧Below w0.heap.size w0 w')):=
  zH (fun w0 va vx k1 k2=>zbs va vx c t1 nr dr q w0 k1 HV.out HDIM.out.2 k2 HF.out HFQ.out HN0.out hfe)
 have HSF:Hid (∀k,k<c.start.length→fits (c.start.getD k 0)):=zH (fun k hk=>by
  have hk2:k<c.raw.start.length:=by rw[HLEN.out.2.2];exact hk
  have h:=RF.fits (HV.out.2.2.2.2.1.ok _ (List.getElem_mem hk2))
  have e:(c.raw.start[k]'hk2).q=c.start.getD k 0:=by
   have e1:c.raw.start[k]'hk2=RF.of (c.start[k]'hk):=by simp[CQ.raw]
   rw[e1,RF.of_q,List.getD_eq_getElem?_getD,List.getElem?_eq_getElem hk,Option.getD_some]
  rw[e]at h;exact h)
 have HIT0:Hid (itV c.raw q 0=c.start):=zH (zvh c.start)
 obtain⟨L,hL⟩:∃L,zyp c.raw c.raw.rates.length=L:=⟨_,rfl⟩
 have HL2:=zH hL
 rw[hL]at HLF hle
 have HSLOW:Hid (decide (q<L)=false):=zH (decide_eq_false (Rat.not_lt.2 hle))
 have hm0:(0:Int)≤(m:Int):=by omega
 have hm64:(m:Int)≤64:=by omega
 have hsn24:sn≤24:=by omega
 clear hL hp hfq hle hfe h1 h24 hsn
 go_enter Tryz.func51,Tryz.ntmps51
 go_upto_region 1 with fail
 generalize (w.alloc (.cells #[.slice ra rn rk, .slice sa sn sk, .slice la ln lk] 28)).alloc (.cells #[.bool t1, .slice a11 l11 k11, .slice a12 l12 k12] 38)=W2 at *
 obtain⟨bc,hbc⟩:∃b,w.heap.size=b:=⟨_,rfl⟩
 have HBC:=zH hbc
 rw[hbc]at HC HC9 ⊢
 clear hbc
 obtain⟨_,c0,c1,c2,_,_,_⟩:=HC.out
 obtain⟨_,d0,d1,d2,_,_,_⟩:=HC9.out
 go_upto_region 4 with(first
  |(go_at_call 69;(with_reducible refine(zjq _ c.raw _ HA.out.raw).mono ?_);rintro e1 w1 ⟨⟨bv,rfl,hbv⟩,hb1⟩;obtain rfl:bv=true:=hbv.2 HV.out;clear hbv
    have HX1:=zH (HX.out.below hb1)
    have HA1:=zH (HA.out.below hb1)
    have HB1:=zH (zaa HBW.out hb1)
    have HC1:=zH (HC.out.belowS hb1)
    have HC91:=zH (HC9.out.belowS hb1)
    have HS1:=zH (HS.out.below hb1)
    have HW1:=zH hb1
    clear hb1 c0 c1 c2 d0 d1 d2
    obtain⟨_,c0,c1,c2,_,_,_⟩:=HC1.out
    obtain⟨_,d0,d1,d2,_,_,_⟩:=HC91.out)
  |(go_at_call 115;(with_reducible refine(HPOS.out _ _ HX1.out).mono ?_);rintro e2 w2 ⟨rfl,hb2⟩
    have HX2:=zH (HX1.out.below hb2)
    have HA2:=zH (HA1.out.below hb2)
    have HB2:=zH (zaa HB1.out hb2)
    have HC2:=zH (HC1.out.belowS hb2)
    have HC92:=zH (HC91.out.belowS hb2)
    have HS2:=zH (HS1.out.below hb2)
    have HW2:=zH (zaa HW1.out hb2)
    clear hb2 c0 c1 c2 d0 d1 d2
    obtain⟨_,c0,c1,c2,_,_,_⟩:=HC2.out
    obtain⟨_,d0,d1,d2,_,_,_⟩:=HC92.out)
  |(go_at_call 17;(with_reducible refine(zqq _ c.raw _ HA2.out.raw HV.out).mono ?_);rw[HL2.out];rintro e5 w5 ⟨v5,rfl,hv5,hb5⟩
    obtain⟨t5,x5,y5,rfl,⟨a51,l51,k51,rfl,_⟩,⟨a52,l52,k52,rfl,_⟩⟩:=hv5.isF
    have hba:=zca w5 (.cells #[.bool t5, .slice a51 l51 k51, .slice a52 l52 k52] 38)
    have hbb:=zaa hb5 hba
    have HC5:=zH (C3.new w5 38 (.bool t5) (.slice a51 l51 k51) (.slice a52 l52 k52))
    have HF5:=zH (hv5.below hba)
    replace HB2:=zH (zaa HB2.out hbb);replace HA2:=zH (HA2.out.below hbb);replace HX2:=zH (HX2.out.below hbb);replace HC2:=zH (HC2.out.belowS hbb);replace HC92:=zH (HC92.out.belowS hbb);replace HS2:=zH (HS2.out.below hbb)
    clear hv5 hb5 hba hbb c0 c1 c2 d0 d1 d2))
 obtain⟨b5,hb5⟩:∃b,w5.heap.size=b:=⟨_,rfl⟩
 rw[hb5]at HC5 ⊢
 clear hb5
 generalize w5.alloc (.cells #[.bool t5, .slice a51 l51 k51, .slice a52 l52 k52] 38)=W5 at *
 obtain⟨_,c0,c1,c2,_,_,_⟩:=HC2.out
 obtain⟨_,d0,d1,d2,_,_,_⟩:=HC92.out
 obtain⟨_,p0,p1,p2,_,_,_⟩:=HC5.out
 go_wp2_with (first
  |(go_at_call 50;(with_reducible refine(zzr _ _ t1 nr dr q L _ HX2.out HF5.out HF.out HFQ.out HLF.out).mono ?_);rw[HSLOW.out];rintro e6 w6 ⟨rfl,hb6⟩
    have HA6:=zH (HA2.out.below hb6)
    have HX6:=zH (HX2.out.below hb6)
    have HS6:=zH (HS2.out.below hb6)
    have HC6:=zH (HC2.out.belowS hb6)
    have HC96:=zH (HC92.out.belowS hb6)
    have HB6:=zH (zaa HB2.out hb6)
    clear hb6 c0 c1 c2 d0 d1 d2 p0 p1 p2
    obtain⟨_,c0,c1,c2,_,_,_⟩:=HC6.out))
 go_loopg [10,11] (sn) (fun g u10 u11 wr=>∃ (k:Nat),k≤sn∧g=sn-k∧u11= .int .i64 k∧zya wr 38 w6.heap.size u10 (c.start.take k)∧Below w6.heap.size w6 wr)
 case atStart=>exact⟨0,Nat.zero_le _,rfl,rfl,zya.nil _ _ _,Below.refl _ _⟩
 case round=>
  obtain⟨k,hkn,hg,rfl,hfr,hbr⟩:=hrel
  obtain⟨W7,hw7⟩:∃w7,w7=wr:=⟨_,rfl⟩
  subst hw7
  have HG:=zH hg
  have HFR:=zH hfr
  have HBR:=zH hbr
  have s10:=hfr.sl
  obtain⟨_,c0,c1,c2,_,_,_⟩:=HC6.out.belowS hbr
  clear hg hfr hbr
  by_cases hkl:k<sn
  ·have hkc:k<c.start.length:=by rw[←HSN.out];exact hkl
   obtain⟨ts,as1,ls1,ks1,as2,ls2,ks2,g1,g2,g3,hfs⟩:=(HS6.out.below HBR.out).cellsAt (k:=k) hkc
   have HFK:=zH (HSF.out k hkc)
   have HTK:Hid (c.start.take (k+1)=c.start.take k++ [c.start.getD k 0]):=zH (by rw[zxc c.start k hkc,List.getD_eq_getElem?_getD,List.getElem?_eq_getElem hkc,Option.getD_some])
   obtain⟨s,hs9⟩:∃s,c.start.getD k 0=s:=⟨_,rfl⟩
   rw[hs9]at hfs HFK HTK
   have HFS:=zH hfs
   have j1:(0:Int)≤(k:Int):=by omega
   have j2:(k:Int)<(sn:Nat):=by omega
   clear hfs hs9
   go_upto_region 11 with(first
    |(go_at_call 116;(with_reducible refine(r2reduce_can _ s _ HFS.out HFK.out).mono ?_);rintro e8 w8 ⟨v8,rfl,hv8,hb8⟩
      obtain⟨t8,x8,y8,rfl,⟨a81,l81,k81,rfl,_⟩,⟨a82,l82,k82,rfl,_⟩⟩:=hv8.isF
      have hba:=zca w8 (.cells #[.bool t8, .slice a81 l81 k81, .slice a82 l82 k82] 38)
      have hbb:=zaa hb8 hba
      have HC8:=zH (C3.new w8 38 (.bool t8) (.slice a81 l81 k81) (.slice a82 l82 k82))
      have HF8:=zH (hv8.below hba)
      have HFR8:=zH (HFR.out.moves (zhb.below (B:=w6.heap.size) hbb) (Nat.le_refl _))
      have HB8:=zH (zfa HBR.out hbb HBR.out.size)
      clear hv8 hb8 hba hbb))
   clear c0 c1 c2 g1 g2 g3
   obtain⟨b8,hb8⟩:∃b,w8.heap.size=b:=⟨_,rfl⟩
   rw[hb8]at HC8 ⊢
   clear hb8
   generalize w8.alloc (.cells #[.bool t8, .slice a81 l81 k81, .slice a82 l82 k82] 38)=W8 at *
   obtain⟨_,r0,r1,r2,_,_,_⟩:=HC8.out
   have hlen:(c.start.take k).length≤1000:=by rw[List.length_take];omega
   have hsz:=HB8.out.size
   go_wp2_with (first
    |(at_builtin;refine hAP _ rfl _ _ rfl w6.heap.size _ u10 (c.start.take k) rfl HFR8.out _ _ _ s HF8.out rfl hlen hsz ?_;intro v50 w50 ho50 hg50 hn50 hq50 sv50
      have hbg:=zid hg50 hsz HFR8.out.block
      have HB50:=zH (HB8.out.trans hbg)
      have HO50:=zH ho50
      clear hbg hg50 hn50 hq50 ho50))
   go_roundg (sn- (k+1))
   case measure=>(have:=HG.out;omega)
   case rel=>exact⟨k+1,by omega,rfl,by go_num,by rw[HTK.out];exact HO50.out,HB50.out⟩
  ·obtain rfl:k=sn:=by omega
   have HV0:Hid (zbb W7 u10 (itV c.raw q 0)):=zH (by
    have h:=HFR.out.fracs
    rw[List.take_of_length_le (by rw[←HSN.out];exact Nat.le_refl _)]at h
    rw[HIT0.out];exact h)
   have HA7:=zH (HA6.out.below HBR.out)
   have HX7:=zH (HX6.out.below HBR.out)
   have HB7:=zH (zfa HB6.out HBR.out HB6.out.size)
   obtain⟨_,d0,d1,d2,_,_,_⟩:=HC96.out.belowS HBR.out
   go_wp2_with (first
    |(go_at_call 117;(with_reducible refine(HM.out _ _ _ HA7.out HX7.out).mono ?_);rintro e9 w9 ⟨v9,rfl,hm9,hb9⟩
      have HM9:=zH hm9
      have HV9:=zH (HV0.out.below hb9)
      have HB9:=zH (zaa HB7.out hb9)
      have sv9:=HV0.out.sl
      clear hm9 hb9 c0 c1 c2 d0 d1 d2))
   by_cases hok:afOk c.raw q m
   ·have HEV:Hid (afErr c.raw q m=0∧afVal c.raw q m=itV c.raw q m):=zH ⟨by rw[afErr,if_pos hok],by rw[afVal,if_pos hok]⟩
    have HOK:=zH hok
    have HSTEP:Hid (∀ (i:Nat) w0 va vv,i<m→zam w0 va c.start.length c.start.length (zfq c.raw q)→zbb w0 vv (itV c.raw q i)→Calls Tryz.prog 118 #[va,vv] w0 (RSt w0 0 (itV c.raw q (i+1)))):=
     zH (fun i w0 va vv hi k1 k2=>by
      have h:=zos va vv c.raw q i w0 c.start.length HV.out HLN.out HDIM.out.1 HDIM.out.2 k1 k2 HFM.out (fun j hj=>HOK.out j (by omega))
      rw[if_pos (HOK.out i hi),if_pos (HOK.out i hi)]at h
      exact h)
    clear hok
    go_loopg [10,16] (m) (fun g u10 u16 wr=>∃ (i:Nat),i≤m∧g=m-i∧u16= .int .i64 i∧zbb wr u10 (itV c.raw q i)∧Below w9.heap.size w9 wr)
    case atStart=>exact⟨0,Nat.zero_le _,rfl,rfl,HV9.out,Below.refl _ _⟩
    case round=>
     obtain⟨i,hin,hg,rfl,hvi,hbi⟩:=hrel
     obtain⟨wA,hwA⟩:∃w5,w5=wr:=⟨_,rfl⟩
     subst hwA
     have HG:=zH hg
     have HVI:=zH hvi
     have HBI:=zH hbi
     have HMI:=zH (HM9.out.below hbi)
     have svi:=hvi.sl
     clear hg hvi hbi
     by_cases hil:i<m
     ·go_wp2_with (go_at_call 118;(with_reducible refine(HSTEP.out i _ _ _ hil HMI.out HVI.out).mono ?_);rintro e6 wB ⟨v6,rfl,hv6',hb6⟩
                   have HV6:=zH hv6'
                   have HB6':=zH (zaa HBI.out hb6)
                   clear hv6' hb6)
      go_roundg (m- (i+1))
      case measure=>(have:=HG.out;omega)
      case rel=>exact⟨i+1,by omega,rfl,by go_num,HV6.out,HB6'.out⟩
     ·obtain rfl:i=m:=by omega
      go_wp2_with fail
      go_ret2
      exact⟨_,by rw[HEV.out.1];rfl,by rw[HEV.out.2];exact HVI.out,zaa HB9.out HBI.out⟩
   ·have HEV:Hid (afErr c.raw q m=2∧afVal c.raw q m= []):=zH ⟨by rw[afErr,if_neg hok],by rw[afVal,if_neg hok]⟩
    obtain⟨z,hz,hzb,hzw⟩:=afOk.first hok
    have HSTEP:Hid (∀ (i:Nat) w0 va vv,i<z→zam w0 va c.start.length c.start.length (zfq c.raw q)→zbb w0 vv (itV c.raw q i)→Calls Tryz.prog 118 #[va,vv] w0 (RSt w0 0 (itV c.raw q (i+1)))):=
     zH (fun i w0 va vv hi k1 k2=>by
      have h:=zos va vv c.raw q i w0 c.start.length HV.out HLN.out HDIM.out.1 HDIM.out.2 k1 k2 HFM.out (fun j hj=>hzw j (by omega))
      rw[if_pos (hzw i hi),if_pos (hzw i hi)]at h
      exact h)
    have HSTOP:Hid (∀w0 va vv,zam w0 va c.start.length c.start.length (zfq c.raw q)→zbb w0 vv (itV c.raw q z)→Calls Tryz.prog 118 #[va,vv] w0 (RSt w0 2 [])):=
     zH (fun w0 va vv k1 k2=>by
      have h:=zos va vv c.raw q z w0 c.start.length HV.out HLN.out HDIM.out.1 HDIM.out.2 k1 k2 HFM.out hzw
      rw[if_neg (by omega),if_neg (by omega)]at h
      exact h)
    clear hok hzb hzw
    go_loopg [10,16] (m) (fun g u10 u16 wr=>∃ (i:Nat),i≤z∧g=m-i∧u16= .int .i64 i∧zbb wr u10 (itV c.raw q i)∧Below w9.heap.size w9 wr)
    case atStart=>exact⟨0,Nat.zero_le _,rfl,rfl,HV9.out,Below.refl _ _⟩
    case round=>
     obtain⟨i,hin,hg,rfl,hvi,hbi⟩:=hrel
     obtain⟨wA,hwA⟩:∃w5,w5=wr:=⟨_,rfl⟩
     subst hwA
     have HG:=zH hg
     have HVI:=zH hvi
     have HBI:=zH hbi
     have HMI:=zH (HM9.out.below hbi)
     have svi:=hvi.sl
     have him:i<m:=by omega
     clear hg hvi hbi
     by_cases hil:i<z
     ·go_wp2_with (go_at_call 118;(with_reducible refine(HSTEP.out i _ _ _ hil HMI.out HVI.out).mono ?_);rintro e6 wB ⟨v6,rfl,hv6',hb6⟩
                   have HV6:=zH hv6'
                   have HB6':=zH (zaa HBI.out hb6)
                   clear hv6' hb6)
      go_roundg (m- (i+1))
      case measure=>(have:=HG.out;omega)
      case rel=>exact⟨i+1,by omega,rfl,by go_num,HV6.out,HB6'.out⟩
     ·obtain rfl:i=z:=by omega
      go_wp2_with (go_at_call 118;(with_reducible refine(HSTOP.out _ _ _ HMI.out HVI.out).mono ?_);rintro e6 wB ⟨v6,rfl,hv6',hb6⟩
                   have HB6':=zH (zaa HB9.out (zaa HBI.out hb6))
                   clear hv6' hb6)
      go_ret2
      exact RSt.nil HEV.out.1.symm HEV.out.2 HB6'.out
theorem rafter_all (va vx:Value) (c:CQ) (t1:Bool) (nr dr:Nat) (m:Int) (w:World) (ha:zlq w va c) (hv:zzp c.raw) (h24:c.start.length≤24) (hx:zdc w vx t1 nr dr) (hfit:zfr t1 nr dr→zyp c.raw c.raw.rates.length≤fq t1 nr dr→zdu c.raw (fq t1 nr dr)):
 Calls Tryz.prog 51 #[va,vx, .int .i64 m] w (RSt w (apErr c.raw t1 nr dr m) (apVal c.raw t1 nr dr m)):=by
 by_cases hp:zfr t1 nr dr
 ·rw[apErr,apVal,if_pos hp,if_pos hp]
  by_cases hr:m<0∨64<m∨fq t1 nr dr<zyp c.raw c.raw.rates.length
  ·rw[if_pos hr,if_pos hr]
   exact rafter_range va vx c t1 nr dr _ m w ha hv hx hp rfl hr
  ·rw[if_neg hr,if_neg hr]
   obtain⟨n,rfl⟩:∃n:Nat,m=n:=⟨m.toNat,by omega⟩
   have hn:n≤64:=by omega
   have hle:zyp c.raw c.raw.rates.length≤fq t1 nr dr:=Rat.not_lt.1 fun h=>hr (Or.inr (Or.inr h))
   rw[Int.toNat_natCast]
   exact rafter_run va vx c t1 nr dr _ n w ha hv h24 hx hp rfl hn hle (hfit hp hle)
 ·rw[apErr,apVal,if_neg hp,if_neg hp]
  exact rafter_rated va vx c t1 nr dr m w ha hv hx hp
end Go.Proofs.YtlpdkbmmbdfoiaaGreat
namespace Go.Proofs.YtlpdkbmmbdfoiaaGreat
def fac (n m s:Nat) (A:Mx):Prop:=∃C R:Mx,∀i j,i<n→j<m→A i j=ztd s C R i j
def unitIn (n m r:Nat) (A:Mx):Prop:=∃X Y:Mx,∀a b,a<r→b<r→ztd n X (ztd m A Y) a b=zkf a b
theorem mul_congr {m:Nat} {A B C D:Mx} {i k i' k':Nat} (h1:∀j,j<m→A i j=C i' j) (h2:∀j,j<m→B j k=D j k'):ztd m A B i k=ztd m C D i' k':=
 zma fun j hj=>by rw[h1 j hj,h2 j hj]
theorem sg_cut {s r:Nat} {f:Nat→Rat} (h:s≤r) (h0:∀l,s≤l→l<r→f l=0):sg r f=sg s f:=by
 obtain⟨c,rfl⟩:∃c,r=s+c:=⟨r-s,by omega⟩
 rw[zbn,zma (n:=c) (g:=fun _=>0) (fun j hj=>h0 _ (by omega) (by omega)),zsi]
 grind
theorem dt_one (r:Nat):dt r zkf≠0:=by
 rw[zql (fun i j _ _ hij=>by unfold zkf;rw[if_neg hij])]
 exact pr_ne fun i _=>by unfold zkf;rw[if_pos rfl];decide+kernel
theorem unit_le {n m s r:Nat} {A:Mx} (hf:fac n m s A) (hu:unitIn n m r A):r≤s:=by
 obtain⟨C,R,hC⟩:=hf
 obtain⟨X,Y,hX⟩:=hu
 rcases Nat.lt_or_ge s r with h | h
 ·exfalso
  have e:dt r (ztd r (fun a l=>if l<s then ztd n X C a l else 0) (fun l b=>if l<s then ztd m R Y l b else 0))=dt r zkf:=zcd fun a b ha hb=>by
   rw[←hX a b ha hb]
   have e1:ztd n X (ztd m A Y) a b=ztd s (ztd n X C) (ztd m R Y) a b:=by
    rw[mul_assoc]
    refine mul_congr (fun _ _=>rfl) fun i hi=> ?_
    rw[←mul_assoc]
    exact mul_congr (fun j hj=>hC i j hi hj) fun _ _=>rfl
   rw[e1]
   unfold ztd
   rw[sg_cut (Nat.le_of_lt h) (fun l h1 h2=>by dsimp only;rw[if_neg (by omega),Rat.zero_mul])]
   exact zma fun l hl=>by dsimp only;rw[if_pos hl,if_pos hl]
  rw[dt_mul,zme (A:=fun l b=>if l<s then ztd m R Y l b else 0) (r:=r-1) (by omega) (fun j hj=>if_neg (by omega)),Rat.mul_zero]at e
  exact dt_one r e.symm
 ·exact h
def trM (A:Mx):Mx:=fun i j=>A j i
theorem fac_tr {n m s:Nat} {A:Mx} (h:fac n m s A):fac m n s (trM A):=by
 obtain⟨C,R,e⟩:=h
 refine⟨trM R,trM C,fun i j hi hj=> ?_⟩
 show A j i=_
 rw[e j i hj hi]
 exact zma fun l _=>Rat.mul_comm _ _
theorem unit_tr {n m r:Nat} {A:Mx} (h:unitIn n m r A):unitIn m n r (trM A):=by
 obtain⟨X,Y,e⟩:=h
 refine⟨trM Y,trM X,fun a b ha hb=> ?_⟩
 have e1:zkf a b=zkf b a:=by
  unfold zkf
  by_cases h:a=b
  ·rw[if_pos h,if_pos h.symm]
  ·rw[if_neg h,if_neg (fun e=>h e.symm)]
 rw[e1,←e b a hb ha,←mul_assoc]
 unfold ztd trM
 refine zma fun j _=> ?_
 rw[Rat.mul_comm]
 refine congrArg (X b j* ·) (zma fun i _=>Rat.mul_comm _ _)
theorem facC (n m t:Nat) (A:Mx):RowC n fun X _=>fac n m t X→fac n m t A where
 congr:=fun X Y s h hX hY=>hX (by
  obtain⟨C,R,e⟩:=hY
  exact⟨C,R,fun i j hi hj=>by rw[h i hi];exact e i j hi hj⟩)
 swap:=fun X s a b ha hb hab hX hY=>hX (by
  obtain⟨C,R,e⟩:=hY
  refine⟨swp C a b,R,fun i j hi hj=> ?_⟩
  have key:∀i',i'<n→swp X a b i'=X i→swp C a b i=C i'→X i j=ztd t (swp C a b) R i j:=fun i' hi' h1 h2=>by
   rw[←h1,e i' j hi' hj]
   exact(congrFun (zrf h2) j).symm
  by_cases h1:i=a
  ·subst h1
   exact key b hb (by unfold swp;rw[if_neg (fun e=>hab e.symm),if_pos rfl]) (by unfold swp;rw[if_pos rfl])
  ·by_cases h2:i=b
   ·subst h2
    exact key a ha (by unfold swp;rw[if_pos rfl]) (by unfold swp;rw[if_neg h1,if_pos rfl])
   ·exact key i hi (by unfold swp;rw[if_neg h1,if_neg h2]) (by unfold swp;rw[if_neg h1,if_neg h2]))
 add:=fun X s i r c hi hr hir hX hY=>hX (by
  obtain⟨C,R,e⟩:=hY
  refine⟨zoc C i fun l=>C i l-c*C r l,R,fun k j hk hj=> ?_⟩
  have er:=e r j hr hj
  rw[zvc (fun e=>hir e.symm)]at er
  by_cases h1:k=i
  ·subst h1
   have ek:=e k j hk hj
   rw[zed]at ek
   have e2:ztd t (zoc C k fun l=>C k l-c*C r l) R k j=ztd t C R k j+(-c)*ztd t C R r j:=by
    unfold ztd
    rw[zed,←zcb,←zvd]
    exact zma fun l _=>by grind
   rw[e2,←ek,←er]
   grind
  ·have ek:=e k j hk hj
   rw[zvc h1]at ek
   rw[ek]
   exact(congrFun (zrf (zvc h1)) j).symm)
theorem combC (n m:Nat) (A:Mx):RowC n fun X _=>∃E:Mx,∀i j,i<n→j<m→X i j=ztd n E A i j where
 congr:=fun X Y s h hX=>by
  obtain⟨E,e⟩:=hX
  exact⟨E,fun i j hi hj=>by rw[←h i hi];exact e i j hi hj⟩
 swap:=fun X s a b ha hb hab hX=>by
  obtain⟨E,e⟩:=hX
  refine⟨swp E a b,fun i j hi hj=> ?_⟩
  have key:∀i',i'<n→swp X a b i=X i'→swp E a b i=E i'→swp X a b i j=ztd n (swp E a b) A i j:=fun i' hi' h1 h2=>by
   rw[h1,e i' j hi' hj]
   exact(congrFun (zrf h2) j).symm
  by_cases h1:i=a
  ·subst h1
   exact key b hb (by unfold swp;rw[if_pos rfl]) (by unfold swp;rw[if_pos rfl])
  ·by_cases h2:i=b
   ·subst h2
    exact key a ha (by unfold swp;rw[if_neg h1,if_pos rfl]) (by unfold swp;rw[if_neg h1,if_pos rfl])
   ·exact key i hi (by unfold swp;rw[if_neg h1,if_neg h2]) (by unfold swp;rw[if_neg h1,if_neg h2])
 add:=fun X s i r c hi hr hir hX=>by
  obtain⟨E,e⟩:=hX
  refine⟨zoc E i fun l=>E i l+c*E r l,fun k j hk hj=> ?_⟩
  by_cases h1:k=i
  ·subst h1
   rw[zed,e k j hk hj,e r j hr hj]
   unfold ztd
   rw[zed,←zcb,←zvd]
   exact zma fun l _=>by grind
  ·rw[zvc h1,e k j hk hj]
   exact(congrFun (zrf (zvc h1)) j).symm
theorem elim_pivs (n:Nat) (A:Mx):∀k,∃p:Nat→Nat,∀l,l<(elim false n A k).r→p l<k∧(elim false n A k).A l (p l)≠0∧∀i,i<n→i≠l→(elim false n A k).A i (p l)=0
 | 0=>⟨fun _=>0,fun l hl=>absurd hl (by simp[elim])⟩
 | k+1=>by
   obtain⟨p,hp⟩:=elim_pivs n A k
   have hrn:=(zue false n A k).1
   have hge:=zvk n k (elim false n A k)
   rw[elim,zzf]
   by_cases hlt:pvt n k (elim false n A k)<n
   ·have hpn:=pvt_ne hrn hlt
    rw[if_pos hlt]
    dsimp only
    generalize pvt n k (elim false n A k)=a at *
    generalize (elim false n A k).r=r at *
    generalize (elim false n A k).A=S at *
    refine⟨fun l=>if l<r then p l else k,fun l hl=> ?_⟩
    by_cases hlr:l<r
    ·obtain⟨h1,h2,h3⟩:=hp l hlr
     simp only[if_pos hlr]
     have hun:∀i,znj false (swp S r a) r k i (p l)=swp S r a i (p l):=fun i=>by
      unfold znj;rw[if_neg (fun h=>by omega)]
     refine⟨by omega,?_,fun i hi hil=> ?_⟩
     ·rw[hun];unfold swp;rw[if_neg (by omega),if_neg (by omega)];exact h2
     ·rw[hun];unfold swp;split
      ·exact h3 a hlt (by omega)
      ·split
       ·exact h3 r (by omega) (by omega)
       ·exact h3 i hi hil
    ·obtain rfl:l=r:=by omega
     simp only[if_neg hlr]
     have hkk:swp S l a l k≠0:=by rw[zek];exact hpn
     refine⟨by omega,?_,fun i hi hil=> ?_⟩
     ·rw[zpg (fun h=>h.1 rfl)];exact hkk
     ·unfold znj
      by_cases hz:swp S l a i k=0
      ·rw[if_neg (fun h=>h.1.2.2 hz)];exact hz
      ·rw[if_pos ⟨⟨hil,(fun z=>by cases z.1),hz⟩,Nat.le_refl _⟩,Rat.div_mul_cancel hkk];grind
   ·rw[if_neg hlt]
    exact⟨p,fun l hl=>by obtain⟨h1,h2,h3⟩:=hp l hl;exact⟨by omega,h2,h3⟩⟩
theorem zvi (n m:Nat) (A:Mx):(elim true n A m).r=(elim false n A m).r:=(ztm (A:=A) (M:=A) (n:=n) (m:=m) true false (fun _ _ _ _=>rfl) m (Nat.le_refl _)).1
theorem rank_fac (n m:Nat) (A:Mx):fac n m (elim false n A m).r A:=by
 refine zbd (facC n m (elim false n A m).r A) false (A:=A) (fun h=>h) m ⟨zkf,(elim false n A m).A,fun i j hi hj=> ?_⟩
 unfold ztd zkf
 by_cases h:i<(elim false n A m).r
 ·have e:sg (elim false n A m).r (fun l=>(if i=l then(1:Rat)else 0)*(elim false n A m).A l j)=sg (elim false n A m).r (fun l=>if i=l then(elim false n A m).A l j else 0):=zma fun l _=>by
   by_cases h1:i=l
   ·rw[if_pos h1,if_pos h1,Rat.one_mul]
   ·rw[if_neg h1,if_neg h1,Rat.zero_mul]
  rw[e,zfd h]
 ·rw[zyd false n A m i j (by omega) hi hj]
  exact(zsi _).symm.trans (zma fun l hl=>by rw[if_neg (by omega),Rat.zero_mul])
theorem rank_unit (n m:Nat) (A:Mx):unitIn n m (elim false n A m).r A:=by
 obtain⟨E,hE⟩:=zbd (combC n m A) false (A:=A) ⟨zkf,fun i j hi hj=>by
  unfold ztd zkf
  have e:sg n (fun l=>(if i=l then(1:Rat)else 0)*A l j)=sg n (fun l=>if i=l then A l j else 0):=zma fun l _=>by
   by_cases h1:i=l
   ·rw[if_pos h1,if_pos h1,Rat.one_mul]
   ·rw[if_neg h1,if_neg h1,Rat.zero_mul]
  rw[e,zfd hi]⟩ m
 obtain⟨p,hp⟩:=elim_pivs n A m
 have hrn:=(zue false n A m).1
 generalize (elim false n A m).r=r at *
 generalize (elim false n A m).A=T at *
 refine⟨E,fun j b=>if p b=j then 1/T b (p b)else 0,fun a b ha hb=> ?_⟩
 rw[←mul_assoc]
 obtain⟨h1,h2,h3⟩:=hp b hb
 have e1:ztd m (ztd n E A) (fun j b=>if p b=j then 1/T b (p b)else 0) a b=sg m (fun j=>if p b=j then T a j*(1/T b (p b))else 0):=zma fun j hj=>by
  rw[←hE a j (by omega) hj]
  dsimp only
  by_cases h4:p b=j
  ·rw[if_pos h4,if_pos h4]
  ·rw[if_neg h4,if_neg h4,Rat.mul_zero]
 rw[e1,zfd h1 (fun j=>T a j*(1/T b (p b)))]
 unfold zkf
 by_cases h5:a=b
 ·subst h5
  rw[if_pos rfl,Rat.mul_comm,Rat.div_mul_cancel h2]
 ·rw[if_neg h5,h3 a (by omega) h5,Rat.zero_mul]
theorem rank_uniq {n m s:Nat} {A:Mx} (hf:fac n m s A) (hu:unitIn n m s A):(elim true n A m).r=s:=by
 rw[zvi]
 have h1:=unit_le (rank_fac n m A) hu
 have h2:=unit_le hf (rank_unit n m A)
 omega
theorem rank_tr (n m:Nat) (A:Mx):(elim true m (trM A) n).r=(elim true n A m).r:=by
 rw[zvi n m]
 exact rank_uniq (fac_tr (rank_fac n m A)) (unit_tr (rank_unit n m A))
theorem rank_det (n:Nat) (A:Mx):(elim true n A n).r=n↔dt n A≠0:=by
 rw[zvi]
 have h:=elim_dt (M:=A) (n:=n)
 have hr:=(zue false n A n).1
 constructor
 ·exact fun e=>(h.1 e).2
 ·intro e
  rcases Nat.lt_or_ge (elim false n A n).r n with h1 | h1
  ·exact absurd (h.2 h1) e
  ·omega
theorem rightC (n:Nat) (C:Rat):RowC n fun B s=>C=s*dt n (fun i j=>B i (n+j)) where
 congr:=fun X Y s h hX=>by rw[hX,zcd (fun a b ha _=>by rw[h a ha])]
 swap:=fun X s a b ha hb hab hX=>by
  have e:(fun i j=>swp X a b i (n+j))=swp (fun i j=>X i (n+j)) a b:=by
   funext i j;unfold swp;split
   ·rfl
   ·split<;>rfl
  rw[hX,e,dt_swp ha hb hab];grind
 add:=fun X s i r c hi hr hir hX=>by
  have e:(fun a j=>zoc X i (fun b=>X i b+c*X r b) a (n+j))=zoc (fun i j=>X i (n+j)) i (fun b=>X i (n+b)+c*X r (n+b)):=by
   funext a j;unfold zoc;split<;>rfl
  rw[hX,e]
  rw[dt_add (A:=fun i j=>X i (n+j)) hi hr hir c]
theorem ker_of_dt {n:Nat} {A:Mx} (h:dt n A=0):∃c:Nat→Rat,(∃l,l<n∧c l≠0)∧∀i,i<n→sg n (fun l=>A i l*c l)=0:=by
 have hT:dt n (trM A)=0:=by
  by_cases h1:dt n (trM A)=0
  ·exact h1
  ·have h2:=(rank_det n (trM A)).2 h1
   rw[rank_tr]at h2
   exact absurd h ((rank_det n A).1 h2)
 have hr:=rank_less (B:=zkf) hT
 have hl:=zyd false n (zpa n (trM A) zkf) n
 have hk:=zbd (invC n (trM A)) false (A:=zpa n (trM A) zkf) (fun i j hi hj=>by
  rw[zae hj]
  have e:sg n (fun l=>zpa n (trM A) zkf i (n+l)*trM A l j)=sg n (fun l=>if i=l then trM A l j else 0):=zma fun l hl=>by
   rw[zfe];unfold zkf
   by_cases h5:i=l
   ·rw[if_pos h5,if_pos h5];grind
   ·rw[if_neg h5,if_neg h5];grind
  rw[e,zfd hi]) n
 have hd:=zbd (rightC n (dt n zkf)) false (A:=zpa n (trM A) zkf) (by
  have e:dt n (fun i j=>zpa n (trM A) zkf i (n+j))=dt n zkf:=zcd fun a b _ _=>zfe
  rw[e,Rat.one_mul]) n
 generalize (elim false n (zpa n (trM A) zkf) n).A=X at *
 generalize (elim false n (zpa n (trM A) zkf) n).r=r at *
 refine⟨fun l=>X (n-1) (n+l),?_,fun i hi=> ?_⟩
 ·apply Classical.byContradiction
  intro hno
  have hz:∀j,j<n→(fun i j=>X i (n+j)) (n-1) j=0:=fun j hj=>by
   by_cases h5:X (n-1) (n+j)=0
   ·exact h5
   ·exact absurd ⟨j,hj,h5⟩ hno
  rw[zme (A:=fun i j=>X i (n+j)) (show n-1<n by omega) hz,Rat.mul_zero]at hd
  exact dt_one n hd
 ·have h1:=hk (n-1) i (by omega) hi
  rw[hl (n-1) i (by omega) (by omega) hi]at h1
  rw[←h1]
  exact zma fun l _=>by unfold trM;exact Rat.mul_comm _ _
theorem sg_le {n:Nat} {f g:Nat→Rat} (h:∀i,i<n→f i≤g i):sg n f≤sg n g:=by
 induction n with
 | zero=>exact Rat.le_refl
 | succ n ih=>rw[sg,sg];have:=ih fun i hi=>h i (by omega);have:=h n (by omega);grind
theorem sg_lt {n:Nat} {f g:Nat→Rat} (h:∀i,i<n→f i≤g i) {k:Nat} (hk:k<n) (hlt:f k<g k):sg n f<sg n g:=by
 induction n with
 | zero=>omega
 | succ n ih=>
   rw[sg,sg]
   have h1:=sg_le (n:=n) fun i hi=>h i (by omega)
   have h2:=h n (by omega)
   by_cases e:k=n
   ·subst e;grind
   ·have:=ih (fun i hi=>h i (by omega)) (by omega);grind
theorem max_at {x:Nat→Rat}:∀ {n:Nat},0<n→∃i,i<n∧∀j,j<n→x j≤x i
 | 1,_=>⟨0,by omega,fun j hj=>by obtain rfl:j=0:=by omega
                                 exact Rat.le_refl⟩
 | n+2,_=>by
   obtain⟨i,h1,h2⟩:=max_at (x:=x) (n:=n+1) (by omega)
   by_cases h:x (n+1)≤x i
   ·refine⟨i,by omega,fun j hj=> ?_⟩
    by_cases e:j=n+1
    ·subst e;exact h
    ·exact h2 j (by omega)
   ·refine⟨n+1,by omega,fun j hj=> ?_⟩
    by_cases e:j=n+1
    ·subst e;exact Rat.le_refl
    ·have:=h2 j (by omega);grind
def esc (n:Nat) (r:Mx) (o:Nat→Rat):Nat→Nat→Prop
 | 0,i=>sg n (r i)<o i
 | k+1,i=>esc n r o k i∨∃j,j<n∧0<r i j∧esc n r o k j
section
variable {n:Nat} {r:Mx} {o:Nat→Rat}
theorem mm_max (hr:∀i j,i<n→j<n→0≤r i j) (ho:∀i,i<n→sg n (r i)≤o i) (he:∀i,i<n→∃k,esc n r o k i) {x:Nat→Rat} (hx:∀i,i<n→o i*x i≤sg n fun j=>r i j*x j):∀i,i<n→x i≤0:=by
 intro i0 hi0
 obtain⟨im,h1,h2⟩:=max_at (x:=x) (n:=n) (by omega)
 by_cases hm:x im≤0
 ·have:=h2 i0 hi0;grind
 ·exfalso
  have hpos:0<x im:=Rat.not_le.1 hm
  obtain⟨m,hmx⟩:∃m,x im=m:=⟨_,rfl⟩
  rw[hmx]at h2 hpos
  have key:∀i,i<n→x i=m→(sg n fun j=>r i j*x j)≤sg n (r i)*m∧o i*m≤sg n fun j=>r i j*x j:=fun i hi hxi=>by
   refine⟨?_,by have:=hx i hi;rwa[hxi]at this⟩
   rw[←znc]
   exact sg_le fun j hj=>Rat.mul_le_mul_of_nonneg_left (h2 j hj) (hr i j hi hj)
  have no:∀k i,i<n→x i=m→¬esc n r o k i:=by
   intro k
   induction k with
   | zero=>
     intro i hi hxi h
     obtain⟨k1,k2⟩:=key i hi hxi
     have h3:sg n (r i)*m<o i*m:=Rat.mul_lt_mul_of_pos_right h hpos
     grind
   | succ k ih=>
     intro i hi hxi h
     rcases h with h | ⟨j,hj,hrj,h⟩
     ·exact ih i hi hxi h
     ·obtain⟨k1,k2⟩:=key i hi hxi
      refine ih j hj ?_ h
      have h4:=h2 j hj
      by_cases h5:x j=m
      ·exact h5
      ·exfalso
       have h6:x j<m:=by grind
       have h7:(sg n fun j=>r i j*x j)<sg n (r i)*m:=by
        rw[←znc]
        exact sg_lt (fun j hj=>Rat.mul_le_mul_of_nonneg_left (h2 j hj) (hr i j hi hj)) hj (Rat.mul_lt_mul_of_pos_left h6 hrj)
       have h8:sg n (r i)*m≤o i*m:=Rat.mul_le_mul_of_nonneg_right (ho i hi) (Rat.le_of_lt hpos)
       grind
  obtain⟨k,hk⟩:=he im h1
  exact no k im h1 hmx hk
def mmA (r:Mx) (o:Nat→Rat):Mx:=fun i j=>if i=j then o i else -r i j
theorem mmA_row (hd:∀i,i<n→r i i=0) {i:Nat} (hi:i<n) (x:Nat→Rat):sg n (fun j=>mmA r o i j*x j)=o i*x i-sg n fun j=>r i j*x j:=by
 have e:sg n (fun j=>mmA r o i j*x j)=sg n (fun j=>(if i=j then o i*x i else 0)+(-1)*(r i j*x j)):=zma fun j hj=>by
  unfold mmA
  by_cases h:i=j
  ·subst h;rw[if_pos rfl,if_pos rfl,hd i hi];grind
  ·rw[if_neg h,if_neg h];grind
 rw[e,zvd,zcb,zfd (f:=fun _=>o i*x i) hi]
 grind
theorem mm_dt (hd:∀i,i<n→r i i=0) (hr:∀i j,i<n→j<n→0≤r i j) (ho:∀i,i<n→sg n (r i)≤o i) (he:∀i,i<n→∃k,esc n r o k i):dt n (mmA r o)≠0:=by
 intro h
 obtain⟨c,⟨l,hl,hc⟩,hz⟩:=ker_of_dt h
 have e:∀i,i<n→o i*c i=sg n fun j=>r i j*c j:=fun i hi=>by
  have:=hz i hi
  rw[mmA_row hd hi]at this
  grind
 have h1:=mm_max hr ho he (x:=c) (fun i hi=>by rw[e i hi];exact Rat.le_refl) l hl
 have h2:=mm_max hr ho he (x:=fun j=>(-1)*c j) (fun i hi=>by
  have e2:sg n (fun j=>r i j*((-1)*c j))=(-1)*sg n (fun j=>r i j*c j):=by
   rw[←zcb];exact zma fun j _=>by grind
  rw[e2,←e i hi]
  have :o i*((-1)*c i)=(-1)*(o i*c i):=by grind
  rw[this];exact Rat.le_refl) l hl
 have h3:c l=0:=by grind
 exact hc h3
end
theorem sg_zero' {n:Nat} {f:Nat→Rat} (h:∀i,i<n→f i=0):sg n f=0:=by
 induction n with
 | zero=>rfl
 | succ n ih=>show sg n f+f n=0;rw[ih (fun i hi=>h i (by omega)),h n (by omega),Rat.add_zero]
theorem zkt :∀ {l:List Nat} {n:Nat},l.Pairwise (· < ·)→(∀x,x∈l→x<n+1)→n∈l→∃l',l=l'++ [n]∧(∀x,x∈l'→x<n)
 | [],n,_,_,h=>by simp at h
 | x::l,n,hp,hb,h=>by
   rw[List.pairwise_cons]at hp
   by_cases hn:n∈l
   ·obtain⟨l',e,hl⟩:=zkt hp.2 (fun y hy=>hb y (by simp[hy])) hn
    refine⟨x::l',by rw[e];rfl,fun y hy=> ?_⟩
    rcases List.mem_cons.1 hy with rfl | hy
    ·exact hp.1 n hn
    ·exact hl y hy
   ·rcases List.mem_cons.1 h with rfl | h
    ·cases l with
     | nil=>exact⟨[],rfl,fun y hy=>by simp at hy⟩
     | cons y l=>
       have h1:=hp.1 y (by simp)
       have h2:=hb y (by simp)
       omega
    ·exact absurd h hn
theorem getD_app_lt {l:List Nat} {x i:Nat} (h:i<l.length):(l++ [x]).getD i 0=l.getD i 0:=by
 rw[List.getD_eq_getElem?_getD,List.getD_eq_getElem?_getD,List.getElem?_append_left h]
theorem getD_app_eq {l:List Nat} {x:Nat}:(l++ [x]).getD l.length 0=x:=by
 rw[List.getD_eq_getElem?_getD,List.getElem?_append_right (Nat.le_refl _)];simp
theorem zmt :∀ {n:Nat} {l:List Nat} {f:Nat→Rat},l.Pairwise (· < ·)→(∀x,x∈l→x<n)→(∀t,t<n→t∉l→f t=0)→sg n f=sg l.length fun i=>f (l.getD i 0)
 | 0,l,f,_,hb,_=>by
   cases l with
   | nil=>rfl
   | cons x l=>have:=hb x (by simp);omega
 | n+1,l,f,hp,hb,h0=>by
   by_cases hn:n∈l
   ·obtain⟨l',rfl,hl⟩:=zkt hp hb hn
    have hp':=(List.pairwise_append.1 hp).1
    have ih:=zmt (f:=f) hp' hl (fun t ht htl=>h0 t (by omega) (by simp;exact⟨htl,by omega⟩))
    show sg n f+f n=_
    rw[List.length_append]
    show _=sg l'.length _+f ((l'++ [n]).getD l'.length 0)
    rw[getD_app_eq,ih]
    congr 1
    exact zma fun i hi=>by rw[getD_app_lt hi]
   ·have hb':∀x,x∈l→x<n:=fun x hx=>by
     have:=hb x hx
     have :x≠n:=fun e=>hn (e▸hx)
     omega
    have ih:=zmt (f:=f) hp hb' (fun t ht htl=>h0 t (by omega) htl)
    show sg n f+f n=_
    rw[h0 n (by omega) hn,Rat.add_zero,ih]
end Go.Proofs.YtlpdkbmmbdfoiaaGreat
