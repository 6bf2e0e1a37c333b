/-
  Raw data as lists of limbs of any length.
-/
import Derived.Test.YtlpdkbmmbdfoiaaGreatHSp8
import Derived.Test.YtlpdkbmmbdfoiaaGreatHSp10
import Derived.Test.YtlpdkbmmbdfoiaaGreatHSz1
import Derived.Test.YtlpdkbmmbdfoiaaGreatHGw7
import Derived.Test.YtlpdkbmmbdfoiaaGreatHGn
set_option linter.unusedVariables false
set_option linter.unusedSimpArgs false
namespace Go.Proofs.YtlpdkbmmbdfoiaaGreat
open Go.RowKit
theorem zuu {c:CQ} (ht:zrr c):∀i,i<c.raw.rates.length→∀q∈zaq c.raw i,zeu 2304 q:=fun i hi q hq=>by
 have hqv:=ht.valid
 have hm:c.raw.rates.length=c.start.length:=hqv.2.2.2.1.trans (by simp[CQ.raw])
 obtain⟨j,hj,rfl⟩:=List.getElem_of_mem hq
 have hl:=rowsQ_len hqv (i:=i) (by have:=hqv.2.2.1;have:=hqv.2.2.2.1;omega)
 have e1:(zaq c.raw i)[j]=(c.rates.getD i []).getD j 0:=by
  have :zaq c.raw i=c.rates.getD i []:=zkr c i
  simp only[this,List.getD_eq_getElem?_getD (l:=c.rates.getD i [])]
  rw[List.getElem?_eq_getElem (by rw[←this];exact hj)]
  rfl
 rw[e1]
 have hll9:c.raw.lost.length=c.start.length:=hqv.2.2.1.trans (by simp[CQ.raw])
 obtain⟨a,ha,e2⟩:=(ht.rate (i:=i) (j:=j) (by omega) (by omega)).twelve
 rw[e2,zjr a 12 12 (by decide)]
 exact⟨a*12,by omega,rfl⟩
theorem start_over {c:CQ} (ht:zrr c):∀q∈qs c.raw.start,over 12 48 q:=fun q hq=>by
 have e:qs c.raw.start=c.start:=zbu _
 rw[e]at hq
 obtain⟨a,ha,rfl⟩:=(ht.st q hq).twelve
 exact⟨a,rfl,by simpa using ha⟩
theorem it_over {c:RC} {R:Nat} (hR0:R≠0) {ρ:Rat} (ho:∀i j,i<c.rates.length→j<c.rates.length→over R 48672 (zfq c ρ i j)) (hs:∀q∈qs c.start,over 12 48 q) (h5:c.rates.length≤5):∀k,∀q∈itV c ρ k,over (12*R^k) (48*243360^k) q
 | 0=>fun q hq=>by simpa using hs q hq
 | k+1=>fun q hq=>by
   have h:=stepV_over (c:=c) (R:=R) (D:=12*R^k) (B:=48*243360^k) (Nat.mul_ne_zero (by decide) (Nat.ne_of_gt (Nat.pow_pos (Nat.pos_of_ne_zero hR0)))) hR0 ho (it_over hR0 ho hs h5 k) q hq
   rw[Nat.pow_succ,←Nat.mul_assoc]
   refine h.mono ?_
   rw[Nat.pow_succ,←Nat.mul_assoc,Nat.mul_assoc]
   calc c.rates.length*(48*243360^k*48672)≤5*(48*243360^k*48672):=Nat.mul_le_mul_right _ h5
    _=48*(243360^k*243360):=by omega
structure MassS (c:RC) (ρ:Rat):Prop where
 fρ:fits ρ
 pos:0<ρ
 le:zyp c c.rates.length≤ρ
 h1:∀i j,i<c.rates.length→j<c.rates.length→fits ((zaq c i).getD j 0/ρ)
 h2:∀i,i<c.rates.length→fits (zgg (zaq c i)/ρ)∧fits (1-zgg (zaq c i)/ρ)
 hw:∀k,k≤4→wtA c ρ k≤3800
 fv:∀k,k≤4→∀q∈itV c ρ k,fits q
 fs:∀k,k≤4→∀ (p:Nat→Prop) [DecidablePred p] (m:Nat),m≤5→fits (sg m fun i=>if p i then(itV c ρ k).getD i 0 else 0)
theorem pow5 {R k:Nat} (hR0:R≠0) (hR:R≤23328) (hk:k≤4):12*R^k<2^64∧48*243360^k<2^80:=by
 have h1:R^k≤23328^4:=Nat.le_trans (Nat.pow_le_pow_left hR k) (Nat.pow_le_pow_right (by decide) hk)
 have h2:243360^k≤243360^4:=Nat.pow_le_pow_right (by decide) hk
 exact⟨Nat.lt_of_le_of_lt (Nat.mul_le_mul_left _ h1) (by decide+kernel),Nat.lt_of_le_of_lt (Nat.mul_le_mul_left _ h2) (by decide+kernel)⟩
theorem mass_of {c:CQ} (ht:zrr c) {R:Nat} (hR0:R≠0) (hR:R≤23328) (hle:zyp c.raw c.raw.rates.length≤mkRat ((R:Nat):Int) 144):MassS c.raw (mkRat ((R:Nat):Int) 144):=by
 have hqv:=ht.valid
 have hm:c.raw.rates.length=c.start.length:=hqv.2.2.2.1.trans (by simp[CQ.raw])
 have h5:c.raw.rates.length≤5:=by have:=ht.n5;omega
 obtain⟨hok,ho⟩:=stepOk_of (c:=c.raw) hqv (by omega) (zuu ht) hR0 hR hle (v:= []) (by decide)
 have hit:=it_over (c:=c.raw) hR0 ho (start_over ht) h5
 have hD:∀k,12*R^k≠0:=fun k=>Nat.mul_ne_zero (by decide) (Nat.ne_of_gt (Nat.pow_pos (Nat.pos_of_ne_zero hR0)))
 refine⟨hok.fρ,hok.pos,hle,hok.h1,hok.h2,fun k hk=> ?_,fun k hk q hq=> ?_,fun k hk p _ m hm5=> ?_⟩
 ·obtain⟨p1,p2⟩:=pow5 hR0 hR hk
  have h1:wtF c.raw.rates.length c.raw.rates.length (zfq c.raw (mkRat ((R:Nat):Int) 144))≤c.raw.rates.length*(c.raw.rates.length*31):=wtF_le fun i j hi hj=>
   over.wt (a:=16) (b:=15) hR0 (ho i j hi hj) (by decide) (by omega)
  have h2:c.raw.rates.length*(c.raw.rates.length*31)≤5*(5*31):=Nat.mul_le_mul h5 (Nat.mul_le_mul_right _ h5)
  have h3:wts (itV c.raw (mkRat ((R:Nat):Int) 144) k)≤_:=ztu (K:=144) fun q hq=>(hit k q hq).wt (a:=80) (b:=64) (hD k) p2 p1
  rw[znq hqv]at h3
  unfold wtA
  omega
 ·obtain⟨p1,p2⟩:=pow5 hR0 hR hk
  exact(hit k q hq).fits (hD k) (Nat.lt_trans p2 (zcu (by decide))) (Nat.lt_trans p1 (zcu (by decide)))
 ·obtain⟨p1,p2⟩:=pow5 hR0 hR hk
  have h1:over (12*R^k) (m*(48*243360^k)) (sg m fun i=>if p i then(itV c.raw (mkRat ((R:Nat):Int) 144) k).getD i 0 else 0):=over.sg (hD k) fun i hi=>by
   split
   ·by_cases h2:i<(itV c.raw (mkRat ((R:Nat):Int) 144) k).length
    ·rw[List.getD_eq_getElem?_getD,List.getElem?_eq_getElem h2];exact hit k _ (List.getElem_mem h2)
    ·rw[List.getD_eq_getElem?_getD,List.getElem?_eq_none (by omega)];exact over.zero _ _
   ·exact over.zero _ _
  have h2:m*(48*243360^k)≤5*2^80:=Nat.mul_le_mul hm5 (Nat.le_of_lt p2)
  exact h1.fits (hD k) (Nat.lt_of_le_of_lt h2 (Nat.lt_trans (show 5*2^80<2^90 by decide+kernel) (zcu (by decide)))) (Nat.lt_trans p1 (zcu (by decide)))
theorem MassS.after {c:RC} {ρ:Rat} (h:MassS c ρ) (hv:zzp c) {va vx:Value} {w:World} (ha:zdq w va c) (hx:zqa w vx ρ) {m:Nat} (hm:m≤5):
 Calls Tryz.prog 48 #[va,vx, .int .i64 (m:Nat)] w (fun e w'=>∃v,e= .returned (.tuple #[v, .int .i64 0])∧zbb w' v (itV c ρ m)∧Below w.heap.size w w'):=
 after_ok va vx c _ _ _ ρ m w ha hv hx.raw (posR_of h.fρ h.pos) (zvb ρ) (by omega) h.le h.h1 h.h2 (fun i hi=>h.hw i (by omega))
abbrev cTh :CQ:=cTwo (mkRat 1 3)
theorem cTh_r :(cTh.rates.getD 0 []).getD 0 0=0∧(cTh.rates.getD 0 []).getD 1 0=mkRat 1 3:=⟨rfl,rfl⟩
theorem third_pos :(0:Rat)<mkRat 1 3:=by decide+kernel
theorem cTh_sure {H T:Nat→Rat} (h:TC cTh H T):SureQ cTh 0:=fun t ht=>by
 have hn:cTh.raw.rates.length=2:=rfl
 have h1:FT cTh.raw.rates.length (rq cTh.raw) (ziq cTh.raw) 1:=Clo.base (by decide) rfl
 have h0:FT cTh.raw.rates.length (rq cTh.raw) (ziq cTh.raw) 0:=Clo.step h1 (by decide) (by
  show 0<rq cTh.raw 0 1
  rw[zju,cTh_r.2]
  exact third_pos)
 have hlt:=Clo.lt ht
 rw[hn]at hlt
 rcases(show t=0∨t=1 by omega)with rfl | rfl
 ·exact h0
 ·exact h1
theorem two_hm {H T:Nat→Rat} (h:TC cTh H T):stS cTh.raw H=1∧stS cTh.raw T=3∧AllS cTh.raw:=by
 have l1:=h.lost_h (i:=1) (by decide) rfl
 have e1:=h.eq_h (i:=0) (by decide) rfl
 have e2:=h.eq_t (i:=0) (by decide) rfl (cTh_sure h)
 have hl:cTh.start.length=2:=rfl
 have s0:cTh.start.getD 0 0=1:=rfl
 have s1:cTh.start.getD 1 0=0:=rfl
 obtain⟨r0,r1⟩:=cTh_r
 rw[h.sH,h.sT]
 rw[hl]at e1 e2 ⊢
 have m3:(3:Rat)*mkRat 1 3=1:=by decide+kernel
 simp only[sg,r0,r1,s0,s1,l1.1,l1.2.1]at e1 e2 ⊢
 refine⟨?_,?_,h.alls.2 fun s hs h0=> ?_⟩
 ·grind
 ·grind
 ·rw[hl]at hs
  rcases(show s=0∨s=1 by omega)with rfl | rfl
  ·exact cTh_sure h
  ·rw[s1]at h0;exact absurd h0 (by decide)
theorem third_R :mkRat ((48:Nat):Int) 144=mkRat 1 3:=by decide+kernel
theorem cTh_mass :MassS cTh.raw (mkRat 1 3):=by
 have h:=mass_of (c:=cTh) zhs (R:=48) (by decide) (by decide) (by decide+kernel)
 rwa[third_R]at h
theorem cTh_it :itV cTh.raw (mkRat 1 3) 1= [0,1]:=by decide+kernel
theorem cTh_hit {va:Value} {w:World} (ha:zlq w va cTh):Calls Tryz.prog 43 #[va] w (RF0 w 1):=by
 obtain⟨H,T,h⟩:=tape_tc zhs
 have k:=h.hit_c ha.raw
 rwa[(two_hm h).1]at k
theorem cTh_mean {va:Value} {w:World} (ha:zlq w va cTh):Calls Tryz.prog 45 #[va] w (RF0 w 3):=by
 obtain⟨H,T,h⟩:=tape_tc zhs
 have k:=h.mean_c ha.raw
 rw[(two_hm h).2.1]at k
 exact k.mono fun _ _ h1=>by
  rcases h1 with h1 | ⟨h1,_⟩
  ·exact h1.2
  ·exact absurd (two_hm h).2.2 h1
theorem cTh_after {va vx:Value} {w:World} (ha:zlq w va cTh) (hx:zqa w vx (mkRat 1 3)):Calls Tryz.prog 48 #[va,vx, .int .i64 1] w (fun e w'=>∃v,e= .returned (.tuple #[v, .int .i64 0])∧zbb w' v [0,1]∧Below w.heap.size w w'):=by
 have k:=cTh_mass.after (m:=1) zhs.valid ha.raw hx (by decide)
 rw[cTh_it]at k
 exact k
theorem kept6 {w0 X Y:World} {a1 a2 a3 a4 a5 a6:Addr} {x1 x2 x3 x4 x5 x6:Value}
 (h:X.cell? a1=some x1∧X.cell? a2=some x2∧X.cell? a3=some x3∧X.cell? a4=some x4∧X.cell? a5=some x5∧X.cell? a6=some x6∧Below w0.heap.size w0 X)
 (hb:Below X.heap.size X Y):Y.cell? a1=some x1∧Y.cell? a2=some x2∧Y.cell? a3=some x3∧Y.cell? a4=some x4∧Y.cell? a5=some x5∧Y.cell? a6=some x6∧Below w0.heap.size w0 Y:=by
 obtain⟨k1,k2,k3,k4,k5,k6,k13⟩:=h
 exact⟨zba hb k1,zba hb k2,zba hb k3,zba hb k4,zba hb k5,zba hb k6,zaa k13 hb⟩
theorem kept6b {w0 X:World} {a1 a2 a3 a4 a5 a6:Addr} {x1 x2 x3 x4 x5 x6:Value}
 (h:X.cell? a1=some x1∧X.cell? a2=some x2∧X.cell? a3=some x3∧X.cell? a4=some x4∧X.cell? a5=some x5∧X.cell? a6=some x6∧Below w0.heap.size w0 X):Below w0.heap.size w0 X:=h.2.2.2.2.2.2
theorem r2int_3 (w:World):Calls Tryz.prog 20 #[.int .i64 3] w (RF1 w 3):=by
 have h:=zdp 3 w (by decide)
 have e:fq false 3 1=3:=by decide+kernel
 rw[e]at h
 exact h
theorem r2make_13 (w:World):Calls Tryz.prog 18 #[.int .i64 1, .int .i64 3] w (RF0 w (mkRat 1 3)):=r2make_zz 1 3 1 3 w rfl rfl (by decide) (by decide) (by decide)
set_option maxRecDepth 100000 in
set_option maxHeartbeats 6400000 in
theorem zoq (w:World):Calls Tryz.prog 46 #[] w (fun e w'=>e= .returned (.bool true)∧Below w.heap.size w w'):=by
 have HB:=zH (Below.refl w.heap.size w)
 go_enter Tryz.func46,Tryz.ntmps46
 go_upto_region 2 with(first
  |(go_at_call 18;(with_reducible refine(r2make_13 _).mono ?_);rintro e1 w1 ⟨v1,rfl,hv1,hb1⟩
    obtain⟨t1,x1,y1,rfl,⟨a11,l11,k11,rfl,_⟩,⟨a12,l12,k12,rfl,_⟩⟩:=hv1.isF
    have hba:=zca w1 (.cells #[.bool t1, .slice a11 l11 k11, .slice a12 l12 k12] 38)
    have hbb:=zaa hb1 hba
    have HC1:=zH (C3.new w1 38 (.bool t1) (.slice a11 l11 k11) (.slice a12 l12 k12))
    have HF1:=zH (hv1.below hba)
    replace HB:=zH (zaa HB.out hbb)
    clear hv1 hb1 hba hbb))
 obtain⟨b1,hb1⟩:∃b,w1.heap.size=b:=⟨_,rfl⟩
 rw[hb1]at HC1 ⊢
 clear hb1
 generalize w1.alloc (.cells #[.bool t1, .slice a11 l11 k11, .slice a12 l12 k12] 38)=W1 at *
 obtain⟨_,c0,c1,c2,_,_,_⟩:=HC1.out
 go_upto_region 3 with(first
  |(go_at_call 113;(with_reducible refine(two_any _ _ _ HF1.out).mono ?_);rintro e2 w2 ⟨v2,rfl,hv2,hb2⟩
    obtain⟨rv,sv,lv,rfl,hr,hs,hl⟩:=id hv2
    obtain⟨ra,rn,rk,rfl,_⟩:=id hr.sl
    obtain⟨sa,sn,sk,rfl,_⟩:=id hs.sl
    obtain⟨la,ln,lk,rfl,_⟩:=id (zhc.sl hl)
    have hba:=zca w2 (.cells #[.slice ra rn rk, .slice sa sn sk, .slice la ln lk] 28)
    have hbb:=zaa hb2 hba
    have HC2:=zH (C3.new w2 28 (.slice ra rn rk) (.slice sa sn sk) (.slice la ln lk))
    have HC:=zH (hv2.below hba)
    clear c0 c1 c2
    replace HB:=zH (zaa HB.out hbb);replace HC1:=zH (HC1.out.belowS hbb);replace HF1:=zH (HF1.out.below hbb)
    clear hr hs hl hv2 hb2 hba hbb))
 obtain⟨b2,hb2⟩:∃b,w2.heap.size=b:=⟨_,rfl⟩
 rw[hb2]at HC2 ⊢
 clear hb2
 generalize w2.alloc (.cells #[.slice ra rn rk, .slice sa sn sk, .slice la ln lk] 28)=W2 at *
 obtain⟨_,c0,c1,c2,_,_,_⟩:=HC2.out
 go_upto_region 4 with(first
  |(go_at_call 45;(with_reducible refine(cTh_mean HC.out).mono ?_);rintro e3 w3 ⟨v3,rfl,hv3,hb3⟩
    clear c0 c1 c2
    obtain⟨t3,x3,y3,rfl,⟨a31,l31,k31,rfl,_⟩,⟨a32,l32,k32,rfl,_⟩⟩:=hv3.isF
    have hba:=zca w3 (.cells #[.bool t3, .slice a31 l31 k31, .slice a32 l32 k32] 38)
    have hbb:=zaa hb3 hba
    have HC3:=zH (C3.new w3 38 (.bool t3) (.slice a31 l31 k31) (.slice a32 l32 k32))
    have HF3:=zH (hv3.below hba)
    replace HB:=zH (zaa HB.out hbb);replace HC1:=zH (HC1.out.belowS hbb);replace HF1:=zH (HF1.out.below hbb);replace HC2:=zH (HC2.out.belowS hbb);replace HC:=zH (HC.out.below hbb)
    clear hv3 hb3 hba hbb))
 obtain⟨b3,hb3⟩:∃b,w3.heap.size=b:=⟨_,rfl⟩
 rw[hb3]at HC3 ⊢
 clear hb3
 generalize w3.alloc (.cells #[.bool t3, .slice a31 l31 k31, .slice a32 l32 k32] 38)=W3 at *
 obtain⟨_,c0,c1,c2,_,_,_⟩:=HC2.out
 go_upto_region 5 with(first
  |(go_at_call 43;(with_reducible refine(cTh_hit HC.out).mono ?_);rintro e4 w4 ⟨v4,rfl,hv4,hb4⟩
    clear c0 c1 c2
    obtain⟨t4,x4,y4,rfl,⟨a41,l41,k41,rfl,_⟩,⟨a42,l42,k42,rfl,_⟩⟩:=hv4.isF
    have hba:=zca w4 (.cells #[.bool t4, .slice a41 l41 k41, .slice a42 l42 k42] 38)
    have hbb:=zaa hb4 hba
    have HC4:=zH (C3.new w4 38 (.bool t4) (.slice a41 l41 k41) (.slice a42 l42 k42))
    have HF4:=zH (hv4.below hba)
    replace HB:=zH (zaa HB.out hbb);replace HC1:=zH (HC1.out.belowS hbb);replace HF1:=zH (HF1.out.below hbb);replace HC2:=zH (HC2.out.belowS hbb);replace HC:=zH (HC.out.below hbb);replace HC3:=zH (HC3.out.belowS hbb);replace HF3:=zH (HF3.out.below hbb)
    clear hv4 hb4 hba hbb))
 obtain⟨b4,hb4⟩:∃b,w4.heap.size=b:=⟨_,rfl⟩
 rw[hb4]at HC4 ⊢
 clear hb4
 generalize w4.alloc (.cells #[.bool t4, .slice a41 l41 k41, .slice a42 l42 k42] 38)=W4 at *
 obtain⟨_,c0,c1,c2,_,_,_⟩:=HC2.out
 obtain⟨_,d0,d1,d2,_,_,_⟩:=HC1.out
 go_upto_region 6 with(first
  |(go_at_call 48;(with_reducible refine(cTh_after HC.out HF1.out).mono ?_);rintro e5 w5 ⟨v5,rfl,hv5,hb5⟩
    clear c0 c1 c2 d0 d1 d2
    have HV5:=zH hv5
    replace HB:=zH (zaa HB.out hb5);replace HC3:=zH (HC3.out.belowS hb5);replace HF3:=zH (HF3.out.below hb5);replace HC4:=zH (HC4.out.belowS hb5);replace HF4:=zH (HF4.out.below hb5)
    obtain⟨va5,vn5,vk5,rfl,_⟩:=id hv5.sl
    clear hv5 hb5))
 clear HC1 HF1 HC2 HC
 go_upto_region 7 with(first
  |(go_at_call 43;(with_reducible refine(hit_bad _ ⟨[],[],[]⟩ _ (zero_chain _) zero_bad).mono ?_);rintro e6 w6 ⟨rfl,hb6⟩
    have hba:=zca w6 (.cells #[.bool false, .slice none 0 0, .slice none 0 0] 38)
    have hbb:=zaa hb6 hba
    replace HB:=zH (zaa HB.out hbb);replace HC3:=zH (HC3.out.belowS hbb);replace HF3:=zH (HF3.out.below hbb);replace HC4:=zH (HC4.out.belowS hbb);replace HF4:=zH (HF4.out.below hbb);replace HV5:=zH (HV5.out.below hbb)
    clear hb6 hba hbb))
 generalize w6.alloc (.cells #[.bool false, .slice none 0 0, .slice none 0 0] 38)=W6 at *
 obtain⟨_,c0,c1,c2,_,_,_⟩:=HC3.out
 obtain⟨_,d0,d1,d2,_,_,_⟩:=HC4.out
 have S0:=zH (And.intro c0 (And.intro c1 (And.intro c2 (And.intro d0 (And.intro d1 (And.intro d2 (Below.refl W6.heap.size W6)))))))
 clear c0 c1 c2 d0 d1 d2 HC3 HC4
 have sv5:=HV5.out.sl
 go_region_held3 (fun w'=>w'.cell? ⟨b3,0,none⟩=some (.bool t3)∧w'.cell? ⟨b3,1,none⟩=some (.slice a31 l31 k31)∧w'.cell? ⟨b3,2,none⟩=some (.slice a32 l32 k32)∧
  w'.cell? ⟨b4,0,none⟩=some (.bool t4)∧w'.cell? ⟨b4,1,none⟩=some (.slice a41 l41 k41)∧w'.cell? ⟨b4,2,none⟩=some (.slice a42 l42 k42)∧
  Below W6.heap.size W6 w') (first
  | with_reducible exact kept6 S0.out (zja _)
  | with_reducible exact kept6 (by assumption) (zca _ _)
  | with_reducible exact kept6 (by assumption) (by assumption)) (first
  |(go_at_call 20;(with_reducible refine(r2int_3 _).mono ?_);rintro e7 w7 ⟨v7,rfl,hv7,hb7⟩)
  |(go_at_call 20;(with_reducible refine(zwi _).mono ?_);rintro e8 w8 ⟨v8,rfl,hv8,hb8⟩;obtain⟨t8,x8,y8,rfl,⟨a81,l81,k81,rfl,_⟩,⟨a82,l82,k82,rfl,_⟩⟩:=hv8.isF)
  |(go_at_call 20;(with_reducible refine(zas _).mono ?_);rintro e9 w9 ⟨v9,rfl,hv9,hb9⟩;obtain⟨t9,x9,y9,rfl,⟨a91,l91,k91,rfl,_⟩,⟨a92,l92,k92,rfl,_⟩⟩:=hv9.isF)
  |(go_at_call 61;(with_reducible refine(znt _ _ 3 3 _ (HF3.out.below (kept6b (by assumption))) hv7).mono ?_);rintro e10 w10 ⟨⟨q10,rfl,hq10⟩,hb10⟩;obtain rfl:q10=true:=hq10.2 rfl;clear hq10 hv7)
  |(go_at_call 61;(with_reducible refine(znt _ _ 1 1 _ (HF4.out.below (kept6b (by assumption))) (by first | assumption | exact hv9)).mono ?_);rintro e11 w11 ⟨⟨q11,rfl,hq11⟩,hb11⟩;obtain rfl:q11=true:=hq11.2 rfl;clear hq11)
  |(go_at_call 23;(with_reducible refine(znr _ _ [0,1] [0,1] _ (HV5.out.below (kept6b (by assumption))) (zbb.lit2 rfl (hv8.below (by assumption)) (by assumption))).mono ?_);rintro e12 w12 ⟨⟨q12,rfl,hq12⟩,hb12⟩;obtain rfl:q12=true:=hq12.2 rfl;clear hq12))
 all_goals
  have hEnd:=kept6b (by assumption)
  go_wp2_with fail
  go_ret
  exact⟨rfl,zaa HB.out hEnd⟩
structure RFL where
 neg:Bool
 a:List Nat
 b:List Nat
def RFL.rf (x:RFL):RF:=⟨x.neg,val x.a,val x.b⟩
def zyt (w:World) (v:Value) (k:Nat) (x:RFL):Prop:=
 ∃a b,w.cell? (ptr v k)=some (.bool x.neg)∧w.cell? (ptr v (k+1))=some a∧w.cell? (ptr v (k+2))=some b∧zfc w a x.a∧zfc w b x.b
theorem zfc.belowS {w w':World} {v:Value} {l:List Nat} (h:zfc w v l) (hb:Below w.heap.size w w'):zfc w' v l:=⟨h.sl,h.len,fun j hj=>zba hb (h.cell j hj),h.lm⟩
theorem zyt.below {w w':World} {v:Value} {k:Nat} {x:RFL} (h:zyt w v k x) (hb:Below w.heap.size w w'):zyt w' v k x:=by
 obtain⟨a,b,h1,h2,h3,h4,h5⟩:=h
 exact⟨a,b,zba hb h1,zba hb h2,zba hb h3,h4.belowS hb,h5.belowS hb⟩
structure zvs (w:World) (v:Value) (l:List RFL):Prop where
 sl:zgc v
 len:slen v=l.length
 at':∀ (j:Nat) (h:j<l.length),zyt w v (j*3) l[j]
theorem zvs.below {w w':World} {v:Value} {l:List RFL} (h:zvs w v l) (hb:Below w.heap.size w w'):zvs w' v l:=⟨h.sl,h.len,fun j hj=>(h.at' j hj).below hb⟩
def RFL.small (x:RFL):Prop:=x.a.length≤300∧x.b.length≤300
theorem zvs.raw {w:World} {v:Value} {l:List RFL} (h:zvs w v l) (hs:∀x∈l,x.small):zni w v (l.map RFL.rf):=
 ⟨h.sl,by rw[h.len,List.length_map],fun j hj=>by
  have hj2:j<l.length:=by simpa using hj
  obtain⟨a,b,h1,h2,h3,h4,h5⟩:=h.at' j hj2
  obtain⟨s1,s2⟩:=hs _ (List.getElem_mem hj2)
  rw[List.getElem_map]
  exact⟨a,b,h1,h2,h3,⟨_,h4,rfl,by omega⟩,⟨_,h5,rfl,by omega⟩⟩⟩
end Go.Proofs.YtlpdkbmmbdfoiaaGreat
