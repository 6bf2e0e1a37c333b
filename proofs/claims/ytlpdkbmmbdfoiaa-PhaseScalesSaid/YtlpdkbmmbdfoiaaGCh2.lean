/-
  package chain: weight, row.
-/
import Derived.Test.YtlpdkbmmbdfoiaaGMk1
import Derived.Test.YtlpdkbmmbdfoiaaGKp
import Derived.Test.YtlpdkbmmbdfoiaaGOrd
import Derived.Test.YtlpdkbmmbdfoiaaGOwR
import Derived.Test.YtlpdkbmmbdfoiaaGEl1
set_option linter.unusedVariables false
set_option linter.unusedSimpArgs false
namespace Go.Proofs.Ytlpdkbmmbdfoiaa
set_option maxHeartbeats 1600000
open Go.RowKit
theorem zke (va vb:Value) (m n:Nat) (w:World) (ha:zob w va m) (hb:zob w vb n) (hm:zda m≤128) (hn:zda n≤128):
 Calls Try.prog 33 #[va,vb] w (RNat w (m*n)):=by
 have HM:=zH (show zda m≤512 by omega)
 have HN:=zH (show zda n≤512 by omega)
 have HMN:Hid (zda (m*n)≤512):=zH (by
  have h1:=zzb.1 hm
  have h2:=zzb.1 hn
  refine zzb.2 ?_
  have h3:m*n≤pw 128*pw 128:=Nat.mul_le_mul (by omega) (by omega)
  have h4:pw 128*pw 128<pw 512:=by decide+kernel
  omega)
 clear hm hn
 go_enter Try.func33,Try.ntmps33
 go_wp2_with (go_at_call 70;(with_reducible refine(rmul_any _ _ m n _ ha hb HM.out HN.out).mono ?_);rintro e1 w1 ⟨r,er,rfl,hr,hb1⟩)
 go_ret
 exact⟨r,rfl,(hr.1 HMN.out).2,hb1⟩
theorem zlo (v:Value) (q:Rat) (w:World) (h:zqa w v q) (hf:fits q):
 Calls Try.prog 30 #[v] w fun e w'=>e= .returned (.bool true)∧Below w.heap.size w w':=by
 obtain⟨a,b,rfl,ha,hb⟩:=h
 obtain⟨n1,n2⟩:=zrc (zuc hf)
 have hd0:0<zda q.den:=by
  rcases Nat.eq_zero_or_pos (zda q.den)with h | h
  ·have h1:=zzb.1 (Nat.le_of_eq h)
   have h2:=q.den_nz
   simp[pw]at h1
   omega
  ·exact h
 have hd1:decide ((0:Int)<(zda q.den:Nat))=true:=decide_eq_true (by omega)
 have hd2:decide (((zda q.den:Nat):Int)≤128)=true:=decide_eq_true (by omega)
 have hd3:decide (((zda q.num.natAbs:Nat):Int)≤128)=true:=decide_eq_true (by omega)
 obtain⟨aa,al,ak,rfl,_⟩:=id ha.v.sl
 obtain⟨ba,bl,bk,rfl,_⟩:=id hb.v.sl
 have hbx:=zca w (.cells #[.bool (decide (q<0)), .slice aa al ak, .slice ba bl bk] 32)
 have hC:=C3.new w 32 (.bool (decide (q<0))) (.slice aa al ak) (.slice ba bl bk)
 have HC:=zH hC
 have HA:=zH (ha.below hbx)
 have HB:=zH (hb.below hbx)
 obtain⟨_,c0,c1,c2,_,_,_⟩:=id hC
 clear hC hf hd1 hd2 hd3
 go_enter Try.func30,Try.ntmps30
 go_wp2_with (first
  |(go_at_call 66;(with_reducible refine(zra _ q.den _ HB.out.nat).mono ?_);rintro e1 w1 ⟨r1,rfl,hr1,hb1⟩
    have s1:=hr1.v.sl
    have l1:slen r1=zda q.den:=hr1.v.len
    obtain⟨_,c0,c1,c2,_,_,_⟩:=HC.out.belowS hb1)
  |(go_at_call 66;(with_reducible refine(zra _ q.den _ (HB.out.below hb1).nat).mono ?_);rintro e2 w2 ⟨r2,rfl,hr2,hb2⟩
    have s2:=hr2.v.sl
    have l2:slen r2=zda q.den:=hr2.v.len
    obtain⟨_,c0,c1,c2,_,_,_⟩:=HC.out.belowS (zaa hb1 hb2))
  |(go_at_call 66;(with_reducible refine(zra _ q.num.natAbs _ ((HA.out.below hb1).below hb2).nat).mono ?_);rintro e3 w3 ⟨r3,rfl,hr3,hb3⟩
    have s3:=hr3.v.sl
    have l3:slen r3=zda q.num.natAbs:=hr3.v.len))
 go_ret
 refine⟨?_,zaa (zaa (zaa hbx hb1) hb2) hb3⟩
 congr 2
 simp
 omega
theorem r2large_can (v:Value) (q:Rat) (w:World) (h:zqa w v q) (hf:fits q):
 Calls Try.prog 67 #[v] w fun e w'=>e= .returned (.bool false)∧Below w.heap.size w w':=by
 obtain⟨a,b,rfl,ha,hb⟩:=h
 obtain⟨n1,n2⟩:=zrc (zuc hf)
 obtain⟨aa,al,ak,rfl,_⟩:=id ha.v.sl
 obtain⟨ba,bl,bk,rfl,_⟩:=id hb.v.sl
 have e1:al=zda q.num.natAbs:=ha.v.len
 have e2:bl=zda q.den:=hb.v.len
 have n1':al≤128:=by omega
 have n2':bl≤128:=by omega
 have h1:¬ (128<al):=by omega
 have h2:¬ (128<bl):=by omega
 have hbx:=zca w (.cells #[.bool (decide (q<0)), .slice aa al ak, .slice ba bl bk] 32)
 have hC:=C3.new w 32 (.bool (decide (q<0))) (.slice aa al ak) (.slice ba bl bk)
 obtain⟨_,c0,c1,c2,_,_,_⟩:=id hC
 clear hC hf n1 n2 e1 e2
 go_enter Try.func67,Try.ntmps67
 go_wp2_with fail
 go_ret
 refine⟨?_,hbx⟩
 congr 2
 simp
 omega
theorem zuo (v:Value) (q:Rat) (w:World) (h:zqa w v q) (hf:fits q):Calls Try.prog 31 #[v] w (RF0 w q):=by
 obtain⟨a,b,rfl,ha,hb⟩:=id h
 obtain⟨aa,al,ak,rfl,_⟩:=id ha.v.sl
 obtain⟨ba,bl,bk,rfl,_⟩:=id hb.v.sl
 have hbx:=zca w (.cells #[.bool (decide (q<0)), .slice aa al ak, .slice ba bl bk] 32)
 have hb2:=zca (w.alloc (.cells #[.bool (decide (q<0)), .slice aa al ak, .slice ba bl bk] 32)) (.cells #[.bool false, .slice none 0 0, .slice none 0 0] 32)
 have hC:=(C3.new w 32 (.bool (decide (q<0))) (.slice aa al ak) (.slice ba bl bk)).belowS hb2
 have hR:=C3.newB (b:=w.heap.size+1) (w.alloc (.cells #[.bool (decide (q<0)), .slice aa al ak, .slice ba bl bk] 32)) 32 (.bool false) (.slice none 0 0) (.slice none 0 0) (by simp)
 have HC:=zH hC
 have HR:=zH hR
 have HF:=zH hf
 have HQ:=zH ((h.below hbx).below hb2)
 have hbb:=zaa hbx hb2
 obtain⟨_,c0,c1,c2,_,_,_⟩:=id hC
 clear hC hR hf h ha hb
 go_enter Try.func31,Try.ntmps31
 go_wp2_with (go_at_call 67;(with_reducible refine(r2large_can _ q _ HQ.out HF.out).mono ?_);rintro e1 w1 ⟨rfl,hb1⟩
              obtain⟨_,c0,c1,c2,_,_,_⟩:=HC.out.belowS hb1
              have HR1:=zH (HR.out.belowS hb1)
              obtain⟨_,d0,d1,d2,d3,d4,d5⟩:=HR1.out)
 refine zoa rfl rfl Try.aggF Try.sizeF (HR1.out.set _ _ _) rfl ?_
 exact⟨_,rfl,(HQ.out.below hb1).set3 HR1.out (fun z=>by simp) (fun z=>by simp) _ _ _,zga (zaa hbb hb1) (Nat.le_succ _) _ _ _⟩
theorem fq_mul_self (p q:Rat):fq (decide (p<0) != decide (q<0)) (p.num.natAbs*q.num.natAbs) (p.den*q.den)=p*q:=by rw[←fq_mul,zvb,zvb]
theorem fq_mul_self' (p q:Rat):fq (!(decide (p<0)==decide (q<0))) (p.num.natAbs*q.num.natAbs) (p.den*q.den)=p*q:=fq_mul_self p q
theorem keep6b {X Y:World} {a1 a2 a3 a4 a5 a6:Addr} {x1 x2 x3 x4 x5 x6:Value} (h:X.cell? a1=some x1∧X.cell? a2=some x2∧X.cell? a3=some x3∧X.cell? a4=some x4∧X.cell? a5=some x5∧X.cell? a6=some x6) (hb:Below X.heap.size X Y):
 Y.cell? a1=some x1∧Y.cell? a2=some x2∧Y.cell? a3=some x3∧Y.cell? a4=some x4∧Y.cell? a5=some x5∧Y.cell? a6=some x6:=by
 obtain⟨k1,k2,k3,k4,k5,k6⟩:=h
 exact⟨zba hb k1,zba hb k2,zba hb k3,zba hb k4,zba hb k5,zba hb k6⟩
set_option maxRecDepth 100000 in
theorem ziq (va vb:Value) (p q:Rat) (w:World) (ha:zqa w va p) (hb:zqa w vb q) (hp:fits p) (hq:fits q) (hf:fits (p*q)):Calls Try.prog 10 #[va,vb] w (RF0 w (p*q)):=by
 obtain⟨a1,a2,rfl,n1,n2⟩:=id ha
 obtain⟨b1,b2,rfl,m1,m2⟩:=id hb
 obtain⟨x1,y1,z1,rfl,_⟩:=id n1.v.sl
 obtain⟨x2,y2,z2,rfl,_⟩:=id n2.v.sl
 obtain⟨x3,y3,z3,rfl,_⟩:=id m1.v.sl
 obtain⟨x4,y4,z4,rfl,_⟩:=id m2.v.sl
 have k1:=zca w (.cells #[.bool (decide (p<0)), .slice x1 y1 z1, .slice x2 y2 z2] 32)
 have k2:=zca (w.alloc (.cells #[.bool (decide (p<0)), .slice x1 y1 z1, .slice x2 y2 z2] 32)) (.cells #[.bool (decide (q<0)), .slice x3 y3 z3, .slice x4 y4 z4] 32)
 have k3:=zca ((w.alloc (.cells #[.bool (decide (p<0)), .slice x1 y1 z1, .slice x2 y2 z2] 32)).alloc (.cells #[.bool (decide (q<0)), .slice x3 y3 z3, .slice x4 y4 z4] 32)) (.cells #[.bool false, .slice none 0 0, .slice none 0 0] 32)
 have H3:=zmc w 32 (.bool (decide (p<0))) (.slice x1 y1 z1) (.slice x2 y2 z2) (.bool (decide (q<0))) (.slice x3 y3 z3) (.slice x4 y4 z4) (.bool false) (.slice none 0 0) (.slice none 0 0) _ rfl
 obtain⟨hA,hB,hR,hbw⟩:=H3
 have HA:=zH hA
 have HB:=zH hB
 have HR:=zH hR
 have HAP:=zH (ha.below hbw)
 have HBQ:=zH (hb.below hbw)
 have HP:=zH hp
 have HQ:=zH hq
 have HPQ:=zH hf
 have HL:=zH (And.intro (zrc (zuc hp)) (zrc (zuc hq)))
 obtain⟨_,c0,c1,c2,_,_,_⟩:=id hA
 obtain⟨_,d0,d1,d2,_,_,_⟩:=id hB
 clear hA hB hR ha hb n1 n2 m1 m2 hp hq hf k1 k2 k3
 go_enter Try.func10,Try.ntmps10
 go_upto_region 3 with(first
  |(go_at_call 30;(with_reducible refine(zlo _ p _ HAP.out HP.out).mono ?_);rintro e1 w1 ⟨rfl,hb1⟩
    obtain⟨_,c0,c1,c2,_,_,_⟩:=HA.out.belowS hb1
    obtain⟨_,d0,d1,d2,_,_,_⟩:=HB.out.belowS hb1)
  |(go_at_call 30;(with_reducible refine(zlo _ q _ (HBQ.out.below hb1) HQ.out).mono ?_);rintro e2 w2 ⟨rfl,hb2⟩))
 have b12:=zaa hb1 hb2
 have hD:=zja (B:=w2.heap.size) w2
 have b1D:=zaa b12 hD
 obtain⟨_,q1,q2,q3,_,_,_⟩:=HA.out.belowS b1D
 obtain⟨_,r1,r2,r3,_,_,_⟩:=HB.out.belowS b1D
 have HRD:=zH (HR.out.belowS b1D)
 have HAD:=zH (HAP.out.below b1D)
 have HBD:=zH (HBQ.out.below b1D)
 have hbwD:=zaa hbw b1D
 obtain⟨u1,u2,hu,nA,nB⟩:=HAD.out
 injection hu with hu
 injection hu with hu
 simp only[List.cons.injEq,and_true,true_and]at hu
 obtain⟨rfl,rfl⟩:=hu
 obtain⟨u1,u2,hu,mA,mB⟩:=HBD.out
 injection hu with hu
 injection hu with hu
 simp only[List.cons.injEq,and_true,true_and]at hu
 obtain⟨rfl,rfl⟩:=hu
 have kA:w.heap.size+1+1≠w.heap.size:=by omega
 have kB:w.heap.size+1+1≠w.heap.size+1:=by omega
 have HNN:=zH (And.intro nA (And.intro nB (And.intro mA mB)))
 have HDZ:Hid (p.den*q.den≠0):=zH (Nat.mul_ne_zero p.den_nz q.den_nz)
 have HN5:Hid (zda (p.num.natAbs*q.num.natAbs)≤512):=zH (Nat.le_trans (zsd HL.out.1.1 HL.out.2.1) (by decide))
 have HD5:Hid (zda (p.den*q.den)≤512):=zH (Nat.le_trans (zsd HL.out.1.2 HL.out.2.2) (by decide))
 clear nA nB mA mB c0 c1 c2 d0 d1 d2
 go_region_held3 (fun w'=>w'.cell? ⟨w.heap.size,0,none⟩=some (.bool (decide (p<0)))∧w'.cell? ⟨w.heap.size,1,none⟩=some (.slice x1 y1 z1)∧w'.cell? ⟨w.heap.size,2,none⟩=some (.slice x2 y2 z2)∧w'.cell? ⟨w.heap.size+1,0,none⟩=some (.bool (decide (q<0)))∧w'.cell? ⟨w.heap.size+1,1,none⟩=some (.slice x3 y3 z3)∧w'.cell? ⟨w.heap.size+1,2,none⟩=some (.slice x4 y4 z4)) (first
  | with_reducible exact⟨q1,q2,q3,r1,r2,r3⟩
  | with_reducible exact keep6b (by assumption) (by assumption)
  | with_reducible exact zvp (zvp (zvp (by assumption) kA kA kA kB kB kB _) kA kA kA kB kB kB _) kA kA kA kB kB kB _) (first
  |(go_at_call 33;(with_reducible refine(zke _ _ p.num.natAbs q.num.natAbs _ HNN.out.1.nat HNN.out.2.2.1.nat HL.out.1.1 HL.out.2.1).mono ?_);rintro e3 w3 ⟨v3,rfl,hv3,hb3⟩)
  |(go_at_call 33;(with_reducible refine(zke _ _ p.den q.den _ (HNN.out.2.1.below hb3).nat (HNN.out.2.2.2.below hb3).nat HL.out.1.2 HL.out.2.2).mono ?_);rintro e4 w4 ⟨v4,rfl,hv4,hb4⟩)
  |(go_at_call 32;(with_reducible refine(zpe _ _ _ (p.num.natAbs*q.num.natAbs) (p.den*q.den) _ (hv3.below hb4).nat hv4.nat HDZ.out HN5.out HD5.out).mono ?_);rintro e5 w5 ⟨v5,rfl,hv5,hb5⟩)
  |(go_at_call 31;(with_reducible refine(zuo _ (p*q) _ (by(have h9:=hv5;rw[fq_mul_self']at h9;exact h9)) HPQ.out).mono ?_);rintro e6 w6 ⟨v6,rfl,hv6,hb6⟩
    obtain⟨t9,x9,y9,rfl,⟨a91,l91,k91,rfl,_⟩,⟨a92,l92,k92,rfl,_⟩⟩:=hv6.isF
    have HR6:=zH ((((HRD.out.belowS hb3).belowS hb4).belowS hb5).belowS hb6)
    obtain⟨_,g0,g1,g2,g3,g4,g5⟩:=HR6.out))
 have hbE:=zaa (zaa (zaa (zaa hbwD hb3) hb4) hb5) hb6
 go_wp2_with fail
 refine zoa rfl rfl Try.aggF Try.sizeF (HR6.out.set _ _ _) rfl ?_
 exact⟨_,rfl,hv6.set3 HR6.out (fun z=>by simp) (fun z=>by simp) _ _ _,zga hbE (Nat.le_trans (Nat.le_succ _) (Nat.le_succ _)) _ _ _⟩
theorem zfg {d:Nat}:0<zda d↔d≠0:=by
 constructor
 ·intro h e;subst e;have:=zta.2 (rfl:(0:Nat)=0);omega
 ·intro h;have :zda d≠0:=fun e=>h (zta.1 e);omega
set_option maxHeartbeats 1600000
theorem cmpN_swap (a b:Nat):zfj b a= -zfj a b:=by
 unfold zfj
 rcases Nat.lt_trichotomy a b with h | h | h
 ·rw[if_neg (by omega),if_pos h,if_pos h];rfl
 ·subst h;rw[if_neg (by omega),if_neg (by omega)];rfl
 ·rw[if_pos h,if_neg (by omega),if_pos h]
theorem nlen_prod {n e:Nat} (he:e≠0):(n=0→zda (n*e)=0)∧(n≠0→0<zda (n*e)):=
 ⟨fun h=>zta.2 (by rw[h,Nat.zero_mul]),fun h=>zfg.2 (Nat.mul_ne_zero h he)⟩
set_option maxRecDepth 100000 in
theorem ztk (va vb:Value) (s t:Bool) (n d m e:Nat) (w:World) (ha:zdc w va s n d) (hb:zdc w vb t m e) (h1:okN n d) (h2:okN m e):
 Calls Try.prog 34 #[va,vb] w fun en w'=>en= .returned (.int .i64 (cmpR (fq s n d) (fq t m e)))∧Below w.heap.size w w':=by
 obtain⟨xn,xd,rfl,hxn,hxd⟩:=ha
 obtain⟨yn,yd,rfl,hyn,hyd⟩:=hb
 obtain⟨an,ln,kn,rfl,_⟩:=hxn.slen.1
 obtain⟨ad,ld,kd,rfl,_⟩:=hxd.slen.1
 obtain⟨am,lm,km,rfl,_⟩:=hyn.slen.1
 obtain⟨ae,le,ke,rfl,_⟩:=hyd.slen.1
 have l1:=zH (zrc h1)
 have l2:=zH (zrc h2)
 have z1:=nlen_prod (n:=n) h2.1
 have z2:=nlen_prod (n:=m) h1.1
 have HR:=zH (cmpR_eq s t n d m e h1.1 h2.1)
 have HSW:=zH (cmpN_swap (n*e) (m*d))
 clear h1 h2
 obtain⟨L1,hL1⟩:∃L,zda (n*e)=L:=⟨_,rfl⟩
 obtain⟨L2,hL2⟩:∃L,zda (m*d)=L:=⟨_,rfl⟩
 rw[hL1]at z1
 rw[hL2]at z2
 have HL1:=zH hL1
 have HL2:=zH hL2
 have hX:(s=false)∨(s=true∧n=0∧L1=0)∨(s=true∧n≠0∧0<L1):=by
  cases s
  ·exact Or.inl rfl
  ·by_cases h:n=0
   ·exact Or.inr (Or.inl ⟨rfl,h,z1.1 h⟩)
   ·exact Or.inr (Or.inr ⟨rfl,h,z1.2 h⟩)
 have hY:(t=false)∨(t=true∧m=0∧L2=0)∨(t=true∧m≠0∧0<L2):=by
  cases t
  ·exact Or.inl rfl
  ·by_cases h:m=0
   ·exact Or.inr (Or.inl ⟨rfl,h,z2.1 h⟩)
   ·exact Or.inr (Or.inr ⟨rfl,h,z2.2 h⟩)
 have HX0:=zH hX
 have HY0:=zH hY
 clear hL1 hL2 z1 z2 hX hY
 go_enter Try.func34,Try.ntmps34
 go_wp2_with fail
 obtain⟨W,hW⟩:∃W,W=((w.alloc (.cells #[.bool s, .slice an ln kn, .slice ad ld kd] 32)).alloc (.cells #[.bool t, .slice am lm km, .slice ae le ke] 32)):=⟨_,rfl⟩
 obtain⟨bx,byy,hbw⟩:=zcf w 32 _ _ _ _ _ _ W hW
 rw[←hW]
 clear hW
 have hd2:=zja (B:=W.heap.size) W
 have hD:=zaa hbw hd2
 have hbx3:=bx.belowS hd2
 have hby3:=byy.belowS hd2
 have HX3:=zH hbx3
 have HY3:=zH hby3
 obtain⟨_,q1,q2,q3,q4,q5,q6⟩:=hbx3
 obtain⟨_,r1,r2,r3,r4,r5,r6⟩:=hby3
 have g1:=hxn.below hD
 have g2:=hxd.below hD
 have g3:=hyn.below hD
 have g4:=hyd.below hD
 clear bx byy hd2
 have tok1:True:=trivial
 go_region_held3 (fun w'=>w'.cell? ⟨w.heap.size,1,none⟩=some (.slice an ln kn)∧w'.cell? ⟨w.heap.size,2,none⟩=some (.slice ad ld kd)∧w'.cell? ⟨w.heap.size+1,1,none⟩=some (.slice am lm km)∧w'.cell? ⟨w.heap.size+1,2,none⟩=some (.slice ae le ke)) (exact⟨q2,q3,r2,r3⟩) (first
  |(go_at_call 33;have _t:=tok1;clear tok1 _t;(with_reducible refine(zke _ _ n e _ g1 g4 l1.out.1 l2.out.2).mono ?_);rintro e9 w3 ⟨p1,rfl,hp1,hp2⟩
    have X4:=HX3.out.belowS hp2
    have Y4:=HY3.out.belowS hp2
    have HX4:=zH X4
    have HY4:=zH Y4
    obtain⟨_,q1,q2,q3,q4,q5,q6⟩:=X4
    obtain⟨_,r1,r2,r3,r4,r5,r6⟩:=Y4)
  |(go_at_call 33;(with_reducible refine(zke _ _ m d _ (g3.below hp2) (g2.below hp2) l2.out.1 l1.out.2).mono ?_);rintro e9 w4 ⟨p3,rfl,hp3,hp4⟩
    have hp24:=zaa hp2 hp4
    have hp14:=hp1.below hp4
    have X5:=HX4.out.belowS hp4
    have Y5:=HY4.out.belowS hp4
    have HX5:=zH X5
    have HY5:=zH Y5
    obtain⟨_,q1,q2,q3,q4,q5,q6⟩:=X5
    obtain⟨_,r1,r2,r3,r4,r5,r6⟩:=Y5))
 have hdw:Below w.heap.size w w4:=hD.trans (hp24.mono hD.size)
 have HP1:=zH hp14
 have HP3:=zH hp3
 have sp1:=hp14.v.sl
 have lp1:slen p1=L1:=hp14.v.len.trans HL1.out
 have sp3:=hp3.v.sl
 have lp3:slen p3=L2:=hp3.v.len.trans HL2.out
 have k1:=HX5.out.c0
 have k2:=HY5.out.c0
 clear hp24 hp14 hp1 hp3 hp2 hp4 hD g1 g2 g3 g4 HX3 HY3 HX4 HY4 q1 q2 q3 q4 q5 q6 r1 r2 r3 r4 r5 r6 hbw
 rcases HX0.out with rfl | ⟨rfl,hn0,hl0⟩ | ⟨rfl,hn0,hl0⟩<;>rcases HY0.out with rfl | ⟨rfl,hm0,hk0⟩ | ⟨rfl,hm0,hk0⟩<;>(
  try subst hl0
  try subst hk0
  clear HX0 HY0
  go_wp2_with (go_at_call 71;first
   |((with_reducible refine(zee p1 p3 (n*e) (m*d) _ HP1.out.nat HP3.out.nat).mono ?_);rintro e9 w9 ⟨rfl,hb9⟩;have hdw:=zaa hdw hb9)
   |((with_reducible refine(zee p3 p1 (m*d) (n*e) _ HP3.out.nat HP1.out.nat).mono ?_);rintro e9 w9 ⟨rfl,hb9⟩;rw[HSW.out];have hdw:=zaa hdw hb9))
  all_goals
   go_ret
   exact⟨by rw[HR.out];simp[*],hdw⟩)
theorem cmpR_beq (p q:Rat):(cmpR p q==0)=decide (p=q):=by
 have:=zji p q
 by_cases h:p=q
 ·rw[decide_eq_true h,this.2 h];rfl
 ·rw[decide_eq_false h]
  have h2:cmpR p q≠0:=fun e=>h (this.1 e)
  simpa using h2
theorem r2same_any (va vb:Value) (s t:Bool) (n d m e:Nat) (w:World) (ha:zdc w va s n d) (hb:zdc w vb t m e) (h1:okN n d) (h2:okN m e):
 Calls Try.prog 11 #[va,vb] w fun en w'=>en= .returned (.bool (decide (fq s n d=fq t m e)))∧Below w.heap.size w w':=by
 have hA:=ha
 have hB:=hb
 obtain⟨xn,xd,rfl,hxn,hxd⟩:=ha
 obtain⟨yn,yd,rfl,hyn,hyd⟩:=hb
 obtain⟨an,ln,kn,rfl,_⟩:=hxn.slen.1
 obtain⟨ad,ld,kd,rfl,_⟩:=hxd.slen.1
 obtain⟨am,lm,km,rfl,_⟩:=hyn.slen.1
 obtain⟨ae,le,ke,rfl,_⟩:=hyd.slen.1
 have K1:=zH h1
 have K2:=zH h2
 have HE:=zH (cmpR_beq (fq s n d) (fq t m e))
 clear h1 h2
 go_enter Try.func11,Try.ntmps11
 go_wp2_with fail
 obtain⟨W,hW⟩:∃W,W=((w.alloc (.cells #[.bool s, .slice an ln kn, .slice ad ld kd] 32)).alloc (.cells #[.bool t, .slice am lm km, .slice ae le ke] 32)):=⟨_,rfl⟩
 obtain⟨bx,byy,hbw⟩:=zcf w 32 _ _ _ _ _ _ W hW
 rw[←hW]
 clear hW
 obtain⟨_,q1,q2,q3,q4,q5,q6⟩:=bx
 obtain⟨_,r1,r2,r3,r4,r5,r6⟩:=byy
 go_wp2_with (go_at_call 34;(with_reducible refine(ztk _ _ s t n d m e _ (hA.below hbw) (hB.below hbw) K1.out K2.out).mono ?_);rintro e9 w9 ⟨rfl,hb9⟩)
 go_ret
 exact⟨by rw[←HE.out];rfl,zaa hbw hb9⟩
theorem zbb.cellsAt {w:World} {v:Value} {l:List Rat} (h:zbb w v l) {k:Nat} (hk:k<l.length):
 ∃t a1 l1 k1 a2 l2 k2,w.cell? (ptr v (k*3))=some (.bool t)∧w.cell? (ptr v (k*3+1))=some (.slice a1 l1 k1)∧w.cell? (ptr v (k*3+2))=some (.slice a2 l2 k2)∧zqa w (.agg #[.bool t, .slice a1 l1 k1, .slice a2 l2 k2]) (l.getD k 0):=by
 obtain⟨za,zb,p1,p2,p3,p4,p5⟩:=h.at' k hk
 obtain⟨za1,za2,za3,rfl,_⟩:=p4.v.sl
 obtain⟨zb1,zb2,zb3,rfl,_⟩:=p5.v.sl
 refine⟨_,_,_,_,_,_,_,p1,p2,p3,?_⟩
 rw[List.getD_eq_getElem?_getD,List.getElem?_eq_getElem hk]
 exact⟨_,_,rfl,p4,p5⟩
set_option maxHeartbeats 1600000
def zvg (q:Rat):Prop:=0≤q∧zua q.num.natAbs≤32∧zua q.den≤32
theorem zvg.fits {q:Rat} (h:zvg q):fits q:=⟨Nat.le_trans h.2.1 (by decide),Nat.le_trans h.2.2 (by decide)⟩
theorem zoo (va:Value) (q:Rat) (w:World) (ha:zqa w va q) (hf:fits q):Calls Try.prog 88 #[va] w (RF0 w q):=by
 refine(zef va _ _ _ w ha.raw).mono ?_
 rintro e w' ⟨v,er,rfl,hb,h1,_⟩
 obtain⟨rfl,h2⟩:=h1 (zuc hf)
 rw[zvb]at h2
 exact⟨v,rfl,h2,hb⟩
theorem finlim_ok (va:Value) (q:Rat) (w:World) (ha:zqa w va q) (hl:zvg q):Calls Try.prog 53 #[va] w (fun e w'=>e= .returned (.bool true)∧Below w.heap.size w w'):=by
 obtain⟨t1,x1,y1,rfl,⟨a11,l11,k11,rfl,_⟩,⟨a12,l12,k12,rfl,_⟩⟩:=ha.isF
 have hba:=zca w (.cells #[.bool t1, .slice a11 l11 k11, .slice a12 l12 k12] 32)
 have HC:=zH (C3.new w 32 (.bool t1) (.slice a11 l11 k11) (.slice a12 l12 k12))
 have HA:=zH (ha.below hba)
 have HB:=zH hba
 have HF:=zH hl.fits
 have HN:Hid (decide (q<0)=false):=zH (decide_eq_false (Rat.not_lt.2 hl.1))
 have hn1:decide (((zua q.num.natAbs:Nat):Int)≤32)=true:=decide_eq_true (by have:=hl.2.1;omega)
 have hn2:decide (((zua q.den:Nat):Int)≤32)=true:=decide_eq_true (by have:=hl.2.2;omega)
 obtain⟨_,c0,c1,c2,_,_,_⟩:=HC.out
 clear ha hba hl
 go_enter Try.func53,Try.ntmps53
 go_upto_region 2 with(first
  |(go_at_call 88;(with_reducible refine(zoo _ q _ HA.out HF.out).mono ?_);rintro e3 w3 ⟨v3,rfl,hv3,hb3⟩
    obtain⟨x3,y3,rfl,n1,n2⟩:=id hv3
    rw[HN.out]at hv3 ⊢
    obtain⟨a31,l31,k31,rfl,_⟩:=id n1.v.sl
    obtain⟨a32,l32,k32,rfl,_⟩:=id n2.v.sl
    have hba:=zca w3 (.cells #[.bool false, .slice a31 l31 k31, .slice a32 l32 k32] 32)
    have HC3:=zH (C3.new w3 32 (.bool false) (.slice a31 l31 k31) (.slice a32 l32 k32))
    have HN1:=zH (n1.below hba).nat
    have HN2:=zH (n2.below hba).nat
    have HB3:=zH (zaa HB.out (zaa hb3 hba))
    clear c0 c1 c2 hv3 hb3 hba n1 n2))
 obtain⟨b3,hb3⟩:∃b,w3.heap.size=b:=⟨_,rfl⟩
 rw[hb3]at HC3 ⊢
 clear hb3
 generalize w3.alloc (.cells #[.bool false, .slice a31 l31 k31, .slice a32 l32 k32] 32)=W3 at *
 obtain⟨_,c0,c1,c2,_,_,_⟩:=HC3.out
 go_wp2_with (first
  |(go_at_call 91;(with_reducible refine(zva _ q.num.natAbs _ HN1.out).mono ?_);rintro e4 w4 ⟨rfl,rfl⟩)
  |(go_at_call 91;(with_reducible refine(zva _ q.den _ HN2.out).mono ?_);rintro e5 w5 ⟨rfl,rfl⟩))
 go_ret
 exact⟨rfl,HB3.out⟩
theorem ztf (va:Value) (q:Rat) (w:World) (ha:zqa w va q):Calls Try.prog 54 #[va] w (fun e w'=>e= .returned (.bool (decide (0<zua q.num.natAbs)))∧Below w.heap.size w w'):=by
 obtain⟨x1,y1,rfl,n1,n2⟩:=id ha
 obtain⟨a11,l11,k11,rfl,_⟩:=id n1.v.sl
 obtain⟨a12,l12,k12,rfl,_⟩:=id n2.v.sl
 have hba:=zca w (.cells #[.bool (decide (q<0)), .slice a11 l11 k11, .slice a12 l12 k12] 32)
 have HN1:=zH (n1.below hba).nat
 have HB:=zH hba
 obtain⟨_,c0,c1,c2,_,_,_⟩:=C3.new w 32 (.bool (decide (q<0))) (.slice a11 l11 k11) (.slice a12 l12 k12)
 clear ha hba n1 n2
 go_enter Try.func54,Try.ntmps54
 go_wp2_with (first
  |(go_at_call 91;(with_reducible refine(zva _ q.num.natAbs _ HN1.out).mono ?_);rintro e4 w4 ⟨rfl,rfl⟩))
 go_ret
 exact⟨rfl,HB.out⟩
set_option maxRecDepth 100000 in
theorem fall_ok (va:Value) (l:List Rat) (w:World) (ha:zbb w va l) (hl:∀q∈l,zvg q) (hn:l.length≤1000):
 Calls Try.prog 52 #[va, .func (.func 53) #[] #[]] w (fun e w'=>e= .returned (.bool true)∧Below w.heap.size w w'):=by
 obtain⟨xa,xn,xk,rfl,_⟩:=id ha.sl
 have sx:=ha.sl
 have hxn:xn=l.length:=ha.len
 obtain⟨n,hnn⟩:∃n,l.length=n:=⟨_,rfl⟩
 rw[hnn]at hxn hn
 subst hxn
 have HN:=zH hnn
 have HA:=zH ha
 have HL:=zH hl
 clear hnn ha hl
 go_enter Try.func52,Try.ntmps52
 go_wp2_with fail
 go_loopg [9] (xn) (fun g u9 wr=>∃ (k:Nat),k≤xn∧g=xn-k∧u9= .int .i64 k∧Below w.heap.size w wr)
 case atStart=>exact⟨0,Nat.zero_le _,rfl,rfl,Below.refl _ _⟩
 case round=>
  obtain⟨k,hk,hg,rfl,hbr⟩:=hrel
  obtain⟨wb,hwb⟩:∃wb,wb=wr:=⟨_,rfl⟩
  subst hwb
  have HG:=zH hg
  have HBR:=zH hbr
  clear hg hbr
  by_cases hkl:k<xn
  ·have hk2:k<l.length:=by rw[HN.out];exact hkl
   obtain⟨ts,as1,ls1,ks1,as2,ls2,ks2,g1,g2,g3,hfs⟩:=(HA.out.below HBR.out).cellsAt (k:=k) hk2
   have hlq:zvg (l.getD k 0):=by
    rw[List.getD_eq_getElem?_getD,List.getElem?_eq_getElem hk2]
    exact HL.out _ (List.getElem_mem hk2)
   have hba:=zca wb (.cells #[.bool ts, .slice as1 ls1 ks1, .slice as2 ls2 ks2] 32)
   have HFS:=zH (hfs.below hba)
   have HLQ:=zH hlq
   have HB2:=zH (zaa HBR.out hba)
   obtain⟨_,c0,c1,c2,_,_,_⟩:=C3.new wb 32 (.bool ts) (.slice as1 ls1 ks1) (.slice as2 ls2 ks2)
   have i1:(0:Int)≤(k:Int):=by omega
   have i2:(k:Int)<(xn:Nat):=by omega
   clear hfs hlq hba
   go_wp2_with (first
    |(go_at_call 53;(with_reducible refine(finlim_ok _ _ _ HFS.out HLQ.out).mono ?_);rintro e4 w4 ⟨rfl,hb4⟩
      have HB4:=zH (zaa HB2.out hb4)
      clear hb4))
   go_roundg (xn- (k+1))
   case measure=>(have:=HG.out;omega)
   case rel=>exact⟨k+1,by omega,rfl,by go_num,HB4.out⟩
  ·obtain rfl:k=xn:=by omega
   go_wp2_with fail
   go_ret
   exact⟨rfl,HBR.out⟩
structure C4 (w:World) (b:Nat) (v0 v1 v2 v3:Value):Prop where
 lt:b<w.heap.size
 c0:w.cell? ⟨b,0,none⟩=some v0
 c1:w.cell? ⟨b,1,none⟩=some v1
 c2:w.cell? ⟨b,2,none⟩=some v2
 c3:w.cell? ⟨b,3,none⟩=some v3
 f0:w.frozen? ⟨b,0,none⟩=false
 f1:w.frozen? ⟨b,1,none⟩=false
 f2:w.frozen? ⟨b,2,none⟩=false
 f3:w.frozen? ⟨b,3,none⟩=false
theorem C4.of {w:World} {b:Nat} {v0 v1 v2 v3:Value} {t:TypeId} (h:w.heap[b]? =some (.cells #[v0,v1,v2,v3] t (0,0))):C4 w b v0 v1 v2 v3:=by
 refine⟨lt_of_block h,?_,?_,?_,?_,?_,?_,?_,?_⟩<;>simp[World.cell?,World.frozen?,h]
theorem C4.new (w:World) (t:TypeId) (v0 v1 v2 v3:Value):C4 (w.alloc (.cells #[v0,v1,v2,v3] t)) w.heap.size v0 v1 v2 v3:=
 C4.of (t:=t) (by show(w.heap.push _)[w.heap.size]? =_;simp)
theorem C4.below {w w':World} {B b:Nat} {v0 v1 v2 v3:Value} (h:C4 w b v0 v1 v2 v3) (hb:Below B w w') (hB:b<B):C4 w' b v0 v1 v2 v3:=
 ⟨Nat.lt_of_lt_of_le h.lt hb.size,by rw[hb.cell hB];exact h.c0,by rw[hb.cell hB];exact h.c1,by rw[hb.cell hB];exact h.c2,by rw[hb.cell hB];exact h.c3,by rw[hb.frozen hB];exact h.f0,by rw[hb.frozen hB];exact h.f1,by rw[hb.frozen hB];exact h.f2,by rw[hb.frozen hB];exact h.f3⟩
theorem C4.belowS {w w':World} {b:Nat} {v0 v1 v2 v3:Value} (h:C4 w b v0 v1 v2 v3) (hb:Below w.heap.size w w'):C4 w' b v0 v1 v2 v3:=h.below hb h.lt
structure LQ where
 start:List Rat
 exit:List Rat
 rates:List (List Rat)
def zhm (w:World) (v:Value) (l:LQ):Prop:=∃nm s r e,v= .agg #[nm,s,r,e]∧zbb w s l.start∧MatC w r l.rates∧zbb w e l.exit
theorem zhm.below {w w':World} {v:Value} {l:LQ} (h:zhm w v l) (hb:Below w.heap.size w w'):zhm w' v l:=by
 obtain⟨nm,s,r,e,rfl,h1,h2,h3⟩:=h
 exact⟨nm,s,r,e,rfl,h1.below hb,h2.below hb,h3.below hb⟩
structure zxb (l:LQ):Prop where
 n1:1≤l.start.length
 n4:l.start.length≤4
 el:l.exit.length=l.start.length
 rl:l.rates.length=l.start.length
 st:∀q∈l.start,zvg q
 ex:∀q∈l.exit,zvg q
 row:∀ (i:Nat) (h:i<l.rates.length),l.rates[i].length=l.start.length∧(∀q∈l.rates[i],zvg q)∧l.rates[i].getD i 0=0
 sum:zgg l.start=1
 ends:∃d:Nat→Nat,∀i,i<l.start.length→d i≤l.start.length∧(0<l.exit.getD i 0∨∃j,j<l.start.length∧0<(l.rates.getD i []).getD j 0∧d j<d i)
theorem zvg.above {q:Rat} (h:zvg q):decide (0<zua q.num.natAbs)=decide (0<q):=by
 rw[decide_eq_decide]
 constructor
 ·intro h1
  refine Classical.byContradiction fun h2=> ?_
  have h3:q=0:=Rat.le_antisymm (Rat.not_lt.1 h2) h.1
  rw[h3]at h1
  exact absurd h1 (by decide)
 ·intro h1
  refine Nat.pos_of_ne_zero fun h2=> ?_
  have h3:q.num.natAbs<2^0:=zwb.1 (Nat.le_of_eq h2)
  have h4:q.num.natAbs=0:=by simpa using h3
  have h5:q=0:=Rat.num_eq_zero.1 (Int.natAbs_eq_zero.1 h4)
  rw[h5]at h1
  exact absurd h1 (by decide)
@[go_sem] theorem slen_lit0 (a : Option Addr) (n c : Nat) : slen (.slice a n c) = n := rfl
@[go_sem] theorem int_beq_self0 (y : Int) : (y == y) = true := by simp
@[go_sem] theorem int_bne_self0 (y : Int) : (y != y) = false := by simp
theorem make_E2 {P:Program} (t e:TypeId) (i:TypeInfo) (z:Value) (by':Nat) (h1:P.underlying t=some (.slice e)) (h2:P.info? e=some i) (h3:i.zero=some z) (h4:i.size=1) (h5:i.bytes=by') (hby:by'≤32) (hz:z.cells=#[z])
 (w:World) {ops:Array Oper} {rest:List Oper} {o:Oper} {a:Act} {Q:Exit→Act→World→Prop} (hg:o.guard=none) (l c:Operand) (hop:o.op=Op.makeSlice t l c)
 (n:Nat) (hl:a.eval l= .int .i64 n) (hc:a.eval c= .int .i64 n) (hn:n≤128)
 (hK:∀v w',zce w' e w.heap.size v (List.replicate n z)→Below w.heap.size w w'→wpList P ops Q rest (a.put o.dst v) w'):
 wpList P ops Q (o::rest) a w:=
 zjh w hg l c t hop w.heap.size e i z h1 h2 h3 h4 hz n hl hc (by rw[h5];exact Nat.le_trans (Nat.mul_le_mul hby hn) (by decide)) (by simp[maxLen];omega) (Nat.le_refl _) (fun v w' h6 h7 _=>hK v w' h6 h7)
theorem zrn {l:List Bool} {k:Nat} (h:k<l.length):l.getD k false=l[k]:=by
 rw[List.getD_eq_getElem?_getD,List.getElem?_eq_getElem h];rfl
theorem zge {x:Int} (h1:0≤x) (h2:x≤1900):IntKind.i64.wrap x=x:=by
 unfold IntKind.wrap
 simp[IntKind.signed,IntKind.bits]
 omega
set_option maxHeartbeats 6400000
theorem zkc {bs:List Bool} {i t:Nat} {b:Bool} (hi:i<bs.length):(bs.set i b).getD t false=if t=i then b else bs.getD t false:=by
 rw[List.getD_eq_getElem?_getD,List.getElem?_set]
 by_cases e:i=t
 ·subst e
  rw[if_pos rfl,if_pos hi,if_pos rfl]
  rfl
 ·rw[if_neg e,if_neg (fun h=>e h.symm),List.getD_eq_getElem?_getD]
theorem fends1_any (b:Bool) (w:World):Calls Try.prog 96 #[.bool b] w (fun e w'=>e= .returned (.bool b)∧w'=w):=by
 go_enter Try.func96,Try.ntmps96
 go_wp2_with fail
 go_ret
 exact⟨rfl,rfl⟩
set_option maxRecDepth 100000 in
theorem fallB_ok (va:Value) (l:List Bool) (w:World) (ha:zcm w va l) (hl:∀t,t<l.length→l.getD t false=true) (hn:l.length≤1000):
 Calls Try.prog 95 #[va, .func (.func 96) #[] #[]] w (fun e w'=>e= .returned (.bool true)∧Below w.heap.size w w'):=by
 have sx:=zhc.sl ha
 obtain⟨xa,xn,xk,rfl,_⟩:=id sx
 have hxn:xn=l.length:=by have h:=zhc.len ha;rwa[List.length_map]at h
 obtain⟨n,hnn⟩:∃n,l.length=n:=⟨_,rfl⟩
 rw[hnn]at hxn hn
 subst hxn
 have HN:=zH hnn
 have HA:=zH ha
 have HL:=zH hl
 clear hnn ha hl
 go_enter Try.func95,Try.ntmps95
 go_wp2_with fail
 go_loopg [9] (xn) (fun g u9 wr=>∃ (k:Nat),k≤xn∧g=xn-k∧u9= .int .i64 k∧Below w.heap.size w wr)
 case atStart=>exact⟨0,Nat.zero_le _,rfl,rfl,Below.refl _ _⟩
 case round=>
  obtain⟨k,hk,hg,rfl,hbr⟩:=hrel
  obtain⟨wb,hwb⟩:∃wb,wb=wr:=⟨_,rfl⟩
  subst hwb
  have HG:=zH hg
  have HBR:=zH hbr
  clear hg hbr
  by_cases hkl:k<xn
  ·have hk2:k<l.length:=by rw[HN.out];exact hkl
   have q1:=(HA.out.below HBR.out).at' k hk2
   have hlq:=HL.out k hk2
   rw[zrn hk2]at hlq
   rw[hlq]at q1
   have i1:(0:Int)≤(k:Int):=by omega
   have i2:(k:Int)<(xn:Nat):=by omega
   clear hlq
   go_wp2_with (first
    |(go_at_call 96;(with_reducible refine(fends1_any true _).mono ?_);rintro e4 w4 ⟨rfl,rfl⟩))
   go_roundg (xn- (k+1))
   case measure=>(have:=HG.out;omega)
   case rel=>exact⟨k+1,by omega,rfl,by go_num,HBR.out⟩
  ·obtain rfl:k=xn:=by omega
   go_wp2_with fail
   go_ret
   exact⟨rfl,HBR.out⟩
set_option maxRecDepth 100000 in
theorem fends_ok (va:Value) (l:LQ) (w:World) (ha:zhm w va l) (hl:zxb l):Calls Try.prog 58 #[va] w (fun e w'=>e= .returned (.bool true)∧Below w.heap.size w w'):=by
 obtain⟨i0,hi,hz0,hz1,hz2⟩:=info_parts Try.infoBool
 have hM:=make_E2 (P:=Try.prog) 43 4 i0 _ 1 Try.underlying43 hi hz0 hz1 hz2 (by decide) rfl
 clear hi hz0 hz1 hz2
 obtain⟨nm,sv,rv,ev,rfl,hs,hr,he⟩:=id ha
 obtain⟨ra,rn,rk,rfl,_⟩:=id hr.sl
 obtain⟨sa,sn,sk,rfl,_⟩:=id hs.sl
 obtain⟨ea,en,ek,rfl,_⟩:=id he.sl
 have hba:=zca w (.cells #[nm, .slice sa sn sk, .slice ra rn rk, .slice ea en ek] 26)
 have HC:=zH (C4.new w 26 nm (.slice sa sn sk) (.slice ra rn rk) (.slice ea en ek))
 have HR:=zH (hr.below hba)
 have HE:=zH (he.below hba)
 have HBW:=zH hba
 have hen:en=l.start.length:=he.len.trans hl.el
 obtain⟨n,hnn⟩:∃n,l.start.length=n:=⟨_,rfl⟩
 have HN:=zH hnn
 have hrn:rn=l.start.length:=hr.len.trans hl.rl
 have HRN:Hid (rn=n):=zH (by rw[←hnn];exact hrn)
 rw[hnn]at hen
 subst hen
 have hn4:en≤128:=by rw[←hnn];have:=hl.n4;omega
 have HL:=zH hl
 obtain⟨d,hd⟩:=hl.ends
 have HD:=zH hd
 have srt:=hr.sl
 have sxt:=he.sl
 clear hd hs hr he ha hl hba hnn hrn
 go_enter Try.func58,Try.ntmps58
 go_upto_region 1 with fail
 obtain⟨b,hb⟩:∃b,w.heap.size=b:=⟨_,rfl⟩
 rw[hb]at HC ⊢
 have HBE:=zH hb
 clear hb
 generalize w.alloc (.cells #[nm, .slice sa sn sk, .slice ra rn rk, .slice ea en ek] 26)=W1 at *
 obtain⟨_,c0,c1,c2,c3,_,_,_,_⟩:=HC.out
 go_wp2_with (refine hM W1 rfl _ _ rfl en rfl rfl hn4 ?_;intro vL w6 hO6 hb6
              have HO6:=zH hO6
              have HB6:=zH hb6
              have slL:=hO6.sl
              have lnL:slen vL=en:=by have h:=hO6.len;rwa[List.length_replicate]at h
              obtain⟨vb1,vb2,vb3,rfl,_⟩:=id slL
              obtain rfl:vb2=en:=lnL
              clear hO6 hb6)
 clear hM c0 c1 c2 c3
 go_loopg [4] (vb2+1) (fun g u4 wr=>∃ (r:Nat) (bs:List Bool),r≤vb2+1∧g=vb2+1-r∧u4= .int .i64 r∧zce wr 4 W1.heap.size (.slice vb1 vb2 vb3) (bs.map Value.bool)∧bs.length=vb2∧(∀t,t<vb2→d t<r→bs.getD t false=true)∧Below W1.heap.size W1 wr)
 case atStart=>exact⟨0,List.replicate vb2 false,by omega,rfl,rfl,by rw[List.map_replicate];exact HO6.out,by simp,fun t _ h=>by omega,HB6.out⟩
 case round=>
  obtain⟨r,bs,hrn,hg,rfl,ho,hbl,hP,hbr⟩:=hrel
  obtain⟨W2,hw2⟩:∃w2,w2=wr:=⟨_,rfl⟩
  subst hw2
  have HG:=zH hg
  have HO:=zH ho
  have HP1:=zH hP
  have HBL:=zH hbl
  have HBR:=zH hbr
  clear hg ho hP hbl hbr HO6 HB6
  by_cases hrl:r≤vb2
  ·go_wp2_with fail
   go_loopg [20] (vb2) (fun g u20 wr=>∃ (i:Nat) (bs:List Bool),i≤vb2∧g=vb2-i∧u20= .int .i64 i∧zce wr 4 W1.heap.size (.slice vb1 vb2 vb3) (bs.map Value.bool)∧bs.length=vb2∧(∀t,t<vb2→d t<r→bs.getD t false=true)∧(∀t,t<i→d t≤r→bs.getD t false=true)∧Below W1.heap.size W1 wr)
   case atStart=>exact⟨0,bs,by omega,rfl,rfl,HO.out,HBL.out,HP1.out,fun t h=>by omega,HBR.out⟩
   case round=>
    clear HO HP1 HBL HBR
    obtain⟨i,bs,hin,hg,rfl,ho,hbl,hP,hQ,hbr⟩:=hrel
    obtain⟨W3,hw2⟩:∃w2,w2=wr:=⟨_,rfl⟩
    subst hw2
    have HGI:=zH hg
    have HO:=zH ho
    have HP1:=zH hP
    have HP2:=zH hQ
    have HBL:=zH hbl
    have HBR:=zH hbr
    clear hg ho hP hQ hbl hbr
    by_cases hil:i<vb2
    ·have hib:i<bs.length:=by rw[HBL.out];exact hil
     have hie:i<l.exit.length:=by rw[HL.out.el,HN.out];exact hil
     have hir:i<l.rates.length:=by rw[HL.out.rl,HN.out];exact hil
     have hio:i<(bs.map Value.bool).length:=by rw[List.length_map];exact hib
     obtain⟨rw1,hrv,hrow⟩:=HR.out.at' i hir
     obtain⟨rl1,rl2,rl3⟩:=HL.out.row i hir
     have HRE:Hid (l.rates.getD i []=l.rates[i]'hir):=zH (by rw[List.getD_eq_getElem?_getD,List.getElem?_eq_getElem hir];rfl)
     rw[←HRE.out]at hrow rl1 rl2
     obtain⟨ua,un,uk,rfl,_⟩:=id hrow.sl
     have srow:=hrow.sl
     have HROW:=zH hrow
     have HRV:=zH hrv
     have HRL:=zH rl2
     have HRLN:Hid ((l.rates.getD i []).length=vb2):=zH (by rw[rl1,HN.out])
     have hun:un=vb2:=by rw[←HRLN.out];exact hrow.len
     subst hun
     obtain⟨ts,as1,ls1,ks1,as2,ls2,ks2,g1,g2,g3,hfs⟩:=(HE.out.below HBR.out).cellsAt (k:=i) hie
     have hlq:zvg (l.exit.getD i 0):=by
      rw[List.getD_eq_getElem?_getD,List.getElem?_eq_getElem hie]
      exact HL.out.ex _ (List.getElem_mem hie)
     obtain⟨q,hq⟩:∃q,l.exit.getD i 0=q:=⟨_,rfl⟩
     rw[hq]at hlq hfs
     have HQ:=zH hq
     have HFS:=zH hfs
     have HLA:=zH hlq.above
     have q1:=HO.out.cell i hio
     rw[List.getElem_map]at q1
     have hxe:bs.getD i false=bs[i]'hib:=zrn hib
     obtain⟨x,hx⟩:∃x,bs[i]'hib=x:=⟨_,rfl⟩
     rw[hx]at q1 hxe
     have HXE:=zH hxe
     have f1:=HO.out.frozen i hio
     have HIB:=zH hib
     have HIO:=zH hio
     obtain⟨_,c0,c1,c2,c3,_,_,_,_⟩:=HC.out.belowS HBR.out
     have i1:(0:Int)≤(i:Int):=by omega
     have i2:(i:Int)<(un:Nat):=by omega
     have i3:(i:Int)<(rn:Nat):=by have:=HRN.out;omega
     clear hrv hrow rl1 rl2 rl3 hfs hlq hq hx hxe hie hib hio
     go_upto_region 8 with fail
     go_cut [] (fun wy=>∃bs':List Bool,zce wy 4 W1.heap.size (.slice vb1 un vb3) (bs'.map Value.bool)∧bs'.length=un∧(∀t,t<un→d t<r→bs'.getD t false=true)∧(∀t,t<i→d t≤r→bs'.getD t false=true)∧(0<q→bs'.getD i false=true)∧Below W1.heap.size W1 wy)
     case first =>
      cases x with
      | true=>
        go_wp2_with fail
        go_meet
        case rel=>
         have hs4:=HO.out.set i HIO.out (.bool true)
         refine⟨bs.set i true,by rw[List.map_set];exact hs4.1,by rw[List.length_set];exact HBL.out,fun t ht hdt=> ?_,fun t ht hdt=> ?_,fun _=> ?_,HBR.out.trans hs4.2⟩
         ·rw[zkc HIB.out]
          split
          ·rfl
          ·exact HP1.out t ht hdt
         ·rw[zkc HIB.out]
          split
          ·rfl
          ·exact HP2.out t ht hdt
         ·rw[zkc HIB.out,if_pos rfl]
      | false=>
        go_wp2_with (first
         |(go_at_call 54;(with_reducible refine(ztf _ q _ HFS.out).mono ?_);rw[HLA.out];rintro e7 w7 ⟨rfl,hb7⟩
           have ho3:=HO.out.below hb7
           have q1:=ho3.cell i HIO.out
           have f1:=ho3.frozen i HIO.out
           have HO3:=zH ho3
           have HB7:=zH (zaa HBR.out hb7)
           clear ho3 hb7))
        go_meet
        case rel=>
         have hs4:=HO3.out.set i HIO.out (.bool (decide (0<q)))
         refine⟨bs.set i (decide (0<q)),by rw[List.map_set];exact hs4.1,by rw[List.length_set];exact HBL.out,fun t ht hdt=> ?_,fun t ht hdt=> ?_,fun h=> ?_,HB7.out.trans hs4.2⟩
         ·rw[zkc HIB.out]
          split
          ·rename_i e
           subst e
           have:=HP1.out t ht hdt
           rw[HXE.out]at this
           cases this
          ·exact HP1.out t ht hdt
         ·rw[zkc HIB.out,if_neg (by omega)]
          exact HP2.out t ht hdt
         ·rw[zkc HIB.out,if_pos rfl]
          exact decide_eq_true h
     case rest=>
      clear HO HP1 HP2 HBL HBR HXE HIB HIO q1 f1 g1 g2 g3 c0 c1 c2 c3 HFS HLA
      obtain⟨bs,ho,hbl,hP,hQ,hR3,hbr⟩:=hcut
      obtain⟨W4,hw2⟩:∃w2,w2=wc:=⟨_,rfl⟩
      subst hw2
      have HO:=zH ho
      have HP1:=zH hP
      have HP2:=zH hQ
      have HP3:=zH hR3
      have HBL:=zH hbl
      have HBR:=zH hbr
      obtain⟨_,c0,c1,c2,c3,_,_,_,_⟩:=HC.out.belowS hbr
      have hri:=zba hbr HRV.out
      clear ho hP hQ hR3 hbl hbr
      go_wp2_with fail
      clear c0 c1 c2 c3 hri
      go_loopg [44] (un) (fun g u44 wr=>∃ (k:Nat) (bs:List Bool),k≤un∧g=un-k∧u44= .int .i64 k∧zce wr 4 W1.heap.size (.slice vb1 un vb3) (bs.map Value.bool)∧bs.length=un∧(∀t,t<un→d t<r→bs.getD t false=true)∧(∀t,t<i→d t≤r→bs.getD t false=true)∧((0<q∨∃j,j<k∧0<(l.rates.getD i []).getD j 0∧d j<r)→bs.getD i false=true)∧Below W1.heap.size W1 wr)
      case atStart=>exact⟨0,bs,by omega,rfl,rfl,HO.out,HBL.out,HP1.out,HP2.out,fun h=>by rcases h with h | ⟨j,h,_⟩;exact HP3.out h;omega,HBR.out⟩
      case round=>
       clear HO HP1 HP2 HP3 HBL HBR
       obtain⟨k,bs,hkn,hg,rfl,ho,hbl,hP,hQ,hR3,hbr⟩:=hrel
       obtain⟨W5,hw2⟩:∃w2,w2=wr:=⟨_,rfl⟩
       subst hw2
       have HGK:=zH hg
       have HO:=zH ho
       have HP1:=zH hP
       have HP2:=zH hQ
       have HP3:=zH hR3
       have HBL:=zH hbl
       have HBR:=zH hbr
       clear hg ho hP hQ hR3 hbl hbr
       by_cases hkl:k<un
       ·have hib:i<bs.length:=by rw[HBL.out];exact hil
        have hkb:k<bs.length:=by rw[HBL.out];exact hkl
        have hio:i<(bs.map Value.bool).length:=by rw[List.length_map];exact hib
        have hko:k<(bs.map Value.bool).length:=by rw[List.length_map];exact hkb
        have hkr:k<(l.rates.getD i []).length:=by rw[HRLN.out];exact hkl
        obtain⟨ts,as1,ls1,ks1,as2,ls2,ks2,g1,g2,g3,hfs⟩:=(HROW.out.below HBR.out).cellsAt (k:=k) hkr
        have hlq:zvg ((l.rates.getD i []).getD k 0):=by
         rw[List.getD_eq_getElem?_getD,List.getElem?_eq_getElem hkr]
         exact HRL.out _ (List.getElem_mem hkr)
        obtain⟨s,hs⟩:∃s,(l.rates.getD i []).getD k 0=s:=⟨_,rfl⟩
        rw[hs]at hlq hfs
        have HS:=zH hs
        have HLA:=zH hlq.above
        have hba:=zca W5 (.cells #[.bool ts, .slice as1 ls1 ks1, .slice as2 ls2 ks2] 32)
        have HFS:=zH (hfs.below hba)
        have HO5:=zH (HO.out.below hba)
        have HB5:=zH (zaa HBR.out hba)
        have q1:=HO5.out.cell i hio
        rw[List.getElem_map]at q1
        have hxe:bs.getD i false=bs[i]'hib:=zrn hib
        obtain⟨x,hx⟩:∃x,bs[i]'hib=x:=⟨_,rfl⟩
        rw[hx]at q1 hxe
        have HXE:=zH hxe
        have hye:bs.getD k false=bs[k]'hkb:=zrn hkb
        obtain⟨y,hy⟩:∃y,bs[k]'hkb=y:=⟨_,rfl⟩
        rw[hy]at hye
        have HYE:=zH hye
        have HYM:Hid ((bs.map Value.bool)[k]'hko= .bool y):=zH (by rw[List.getElem_map,hy])
        have f1:=HO5.out.frozen i hio
        obtain⟨_,p0,p1,p2,_,_,_⟩:=C3.new W5 32 (.bool ts) (.slice as1 ls1 ks1) (.slice as2 ls2 ks2)
        have HIB:=zH hib
        have HIO:=zH hio
        have HKO:=zH hko
        have j1:(0:Int)≤(k:Int):=by omega
        have j2:(k:Int)<(un:Nat):=by omega
        clear hfs hlq hs hba hx hxe hy hye hib hio hkr
        cases x with
        | true=>
          go_wp2_with fail
          go_roundg (un- (k+1))
          case measure=>(have:=HGK.out;omega)
          case rel=>
           have hs4:=HO5.out.set i HIO.out (.bool true)
           refine⟨k+1,bs.set i true,by omega,rfl,by go_num,by rw[List.map_set];exact hs4.1,by rw[List.length_set];exact HBL.out,fun t ht hdt=> ?_,fun t ht hdt=> ?_,fun _=> ?_,HB5.out.trans hs4.2⟩
           ·rw[zkc HIB.out]
            split
            ·rfl
            ·exact HP1.out t ht hdt
           ·rw[zkc HIB.out]
            split
            ·rfl
            ·exact HP2.out t ht hdt
           ·rw[zkc HIB.out,if_pos rfl]
        | false=>
          have HNO:Hid (¬ (0<q∨∃j,j<k∧0<(l.rates.getD i []).getD j 0∧d j<r)):=zH (fun h=>by have:=HP3.out h;rw[HXE.out]at this;cases this)
          by_cases hs0:0<s
          ·have HDS:Hid (decide (0<s)=true):=zH (decide_eq_true hs0)
           go_wp2_with (first
            |(go_at_call 54;(with_reducible refine(ztf _ s _ HFS.out).mono ?_);rw[HLA.out,HDS.out];rintro e7 w7 ⟨rfl,hb7⟩
              have ho3:=HO5.out.below hb7
              have q1:=ho3.cell i HIO.out
              have q2:=ho3.cell k HKO.out
              rw[HYM.out]at q2
              have f1:=ho3.frozen i HIO.out
              have HO3:=zH ho3
              have HB7:=zH (zaa HB5.out hb7)
              clear ho3 hb7))
           go_roundg (un- (k+1))
           case measure=>(have:=HGK.out;omega)
           case rel=>
            have hs4:=HO3.out.set i HIO.out (.bool y)
            refine⟨k+1,bs.set i y,by omega,rfl,by go_num,by rw[List.map_set];exact hs4.1,by rw[List.length_set];exact HBL.out,fun t ht hdt=> ?_,fun t ht hdt=> ?_,fun h=> ?_,HB7.out.trans hs4.2⟩
            ·rw[zkc HIB.out]
             split
             ·rename_i e
              subst e
              have:=HP1.out t ht hdt
              rw[HXE.out]at this
              cases this
             ·exact HP1.out t ht hdt
            ·rw[zkc HIB.out,if_neg (by omega)]
             exact HP2.out t ht hdt
            ·rw[zkc HIB.out,if_pos rfl]
             rcases h with h | ⟨j,hj,h1,h2⟩
             ·exact absurd (Or.inl h) HNO.out
             ·by_cases e:j=k
              ·subst e
               rw[←HYE.out]
               exact HP1.out j (by omega) h2
              ·exact absurd (Or.inr ⟨j,by omega,h1,h2⟩) HNO.out
          ·have HDS:Hid (decide (0<s)=false):=zH (decide_eq_false hs0)
           go_wp2_with (first
            |(go_at_call 54;(with_reducible refine(ztf _ s _ HFS.out).mono ?_);rw[HLA.out,HDS.out];rintro e7 w7 ⟨rfl,hb7⟩
              have ho3:=HO5.out.below hb7
              have q1:=ho3.cell i HIO.out
              have f1:=ho3.frozen i HIO.out
              have HO3:=zH ho3
              have HB7:=zH (zaa HB5.out hb7)
              clear ho3 hb7))
           go_roundg (un- (k+1))
           case measure=>(have:=HGK.out;omega)
           case rel=>
            have hs4:=HO3.out.set i HIO.out (.bool false)
            refine⟨k+1,bs.set i false,by omega,rfl,by go_num,by rw[List.map_set];exact hs4.1,by rw[List.length_set];exact HBL.out,fun t ht hdt=> ?_,fun t ht hdt=> ?_,fun h=> ?_,HB7.out.trans hs4.2⟩
            ·rw[zkc HIB.out]
             split
             ·rename_i e
              subst e
              have:=HP1.out t ht hdt
              rw[HXE.out]at this
              cases this
             ·exact HP1.out t ht hdt
            ·rw[zkc HIB.out,if_neg (by omega)]
             exact HP2.out t ht hdt
            ·exfalso
             rcases h with h | ⟨j,hj,h1,h2⟩
             ·exact HNO.out (Or.inl h)
             ·by_cases e:j=k
              ·subst e
               rw[HS.out]at h1
               exact hs0 h1
              ·exact HNO.out (Or.inr ⟨j,by omega,h1,h2⟩)
       ·obtain rfl:k=un:=by omega
        have HEND:Hid (d i≤r→bs.getD i false=true):=zH (fun hdi=>by
         have h1:=HD.out i (by rw[HN.out];exact hil)
         rcases h1.2 with h2 | ⟨j,h2,h3,h4⟩
         ·exact HP3.out (Or.inl (by rw[←HQ.out];exact h2))
         ·exact HP3.out (Or.inr ⟨j,by rw[←HN.out];exact h2,h3,by omega⟩))
        go_wp2_with fail
        go_roundg (k- (i+1))
        case measure=>(have:=HGI.out;omega)
        case rel=>
         refine⟨i+1,bs,by omega,rfl,by go_num,HO.out,HBL.out,HP1.out,fun t ht hdt=> ?_,HBR.out⟩
         by_cases e:t=i
         ·subst e;exact HEND.out hdt
         ·exact HP2.out t (by omega) hdt
    ·obtain rfl:i=vb2:=by omega
     go_wp2_with fail
     go_roundg (i+1- (r+1))
     case measure=>(have:=HG.out;omega)
     case rel=>exact⟨r+1,bs,by omega,rfl,by go_num,HO.out,HBL.out,fun t ht hdt=>HP2.out t ht (by omega),HBR.out⟩
  ·have HDN:Hid (∀t,t<vb2→d t≤vb2):=zH (fun t ht=>by have:=(HD.out t (by rw[HN.out];exact ht)).1;rwa[HN.out]at this)
   have hb0:zcm W2 (.slice vb1 vb2 vb3) bs:=⟨HO.out.sl,HO.out.len,fun j hj=>HO.out.cell j hj⟩
   have HB0:=zH hb0
   go_wp2_with (first
    |(go_at_call 95;(with_reducible refine(fallB_ok _ bs _ HB0.out (fun t ht=>HP1.out t (by rw[←HBL.out];exact ht) (by have:=HDN.out t (by rw[←HBL.out];exact ht);omega)) (by rw[HBL.out];omega)).mono ?_);rintro e9 w9 ⟨rfl,hb9⟩))
   go_ret
   exact⟨rfl,HBW.out.trans ((zaa HBR.out hb9).mono HBW.out.size)⟩
theorem RF.fits {x:RF} (h:x.ok):fits x.q:=fits_ok _ h
theorem wt_le {q:Rat} (h:fits q):wt q≤8192:=by
 obtain⟨h1,h2⟩:=h
 unfold wt
 split<;>(try split)<;>omega
theorem wts_le (l:List RF) (h:∀x∈l,x.ok):wts (qs l)≤8192*l.length:=by
 induction l with
 | nil=>simp[qs,wts]
 | cons x l ih=>
   have h1:=ih (fun y hy=>h y (by simp[hy]))
   have h2:=wt_le (RF.fits (h x (by simp)))
   have e:wts (qs (x::l))=wt x.q+wts (qs l):=by unfold qs;rw[List.map_cons,zmg]
   rw[e,List.length_cons];omega
theorem wts_qs (l:List RF) (k:Nat) (h:k<l.length):wts (qs (l.take (k+1)))=wts (qs (l.take k))+wt l[k].q:=by
 rw[zxc l k h];unfold qs;rw[List.map_append];exact wts_snoc _ _
def wtsM (m:List (List RF)):Nat:=(m.map fun l=>wts (qs l)).sum
theorem wtsM_take (m:List (List RF)) (k:Nat) (h:k<m.length):wtsM (m.take (k+1))=wtsM (m.take k)+wts (qs m[k]):=by
 unfold wtsM;rw[zxc m k h,List.map_append,List.sum_append];simp only[List.map_cons,List.map_nil,List.sum_cons,List.sum_nil,Nat.add_zero]
theorem wtsM_le (m:List (List RF)) (h:∀l∈m,∀x∈l,x.ok) (hl:∀l∈m,l.length≤65536):wtsM m≤536870912*m.length:=by
 induction m with
 | nil=>simp[wtsM]
 | cons x m ih=>
   have h1:=ih (fun y hy=>h y (by simp[hy])) (fun y hy=>hl y (by simp[hy]))
   have h2:=wts_le x (h x (by simp))
   have h3:=hl x (by simp)
   have e:wtsM (x::m)=wts (qs x)+wtsM m:=by simp[wtsM]
   rw[e,List.length_cons];omega
theorem wt_zero {q:Rat} (h:q.num=0):wt q=0:=by unfold wt;rw[if_pos h]
theorem wt_int {q:Rat} (h:q.num≠0) (hd:q.den=1):wt q=zua q.num.natAbs:=by unfold wt;rw[if_neg h,if_pos hd];rfl
theorem wt_frac {q:Rat} (h:q.num≠0) (hd:q.den≠1):wt q=zua q.num.natAbs+zua q.den:=by unfold wt;rw[if_neg h,if_neg hd]
theorem zok (va:Value) (x:RF) (w:World) (ha:zdc w va x.neg x.n x.d) (hx:x.ok):Calls Try.prog 88 #[va] w (RF0 w x.q):=
 (zef va x.neg x.n x.d w ha).mono fun e w' h=>by
  obtain⟨v,er,rfl,h1,h2,_⟩:=h
  obtain⟨rfl,h3⟩:=h2 hx
  exact⟨v,rfl,h3,h1⟩
theorem wtsM_one (l:List RF):wtsM [l]=wts (qs l):=by simp[wtsM]
def plainP (x:RF):Prop:=x.ok∧¬x.q<0∧zda x.q.num.natAbs≤4∧zda x.q.den≤4
instance (x :RF):Decidable (plainP x):=inferInstanceAs (Decidable (_∧_∧_∧_))
def rowP (l:List RF) (n:Nat):Prop:=(∀x∈l,plainP x)∧l.length=n∧wts (qs l)≤3800
instance (l :List RF) (n:Nat):Decidable (rowP l n):=inferInstanceAs (Decidable (_∧_∧_))
end Go.Proofs.Ytlpdkbmmbdfoiaa
