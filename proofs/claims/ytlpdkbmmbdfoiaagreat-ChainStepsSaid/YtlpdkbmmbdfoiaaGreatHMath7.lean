/-
  Plain facts on the reference's long division.
-/
import Derived.Test.YtlpdkbmmbdfoiaaGreatHStep
import Derived.Test.YtlpdkbmmbdfoiaaGreatHNa6
import Derived.Deep.RegionHeld3
import Derived.IntWalk
set_option linter.unusedVariables false
set_option linter.unusedSimpArgs false
namespace Go.Proofs.YtlpdkbmmbdfoiaaGreat
set_option maxHeartbeats 1600000
open Go.RowKit
theorem zaa {w w1 w2:World} (h:Below w.heap.size w w1) (h':Below w1.heap.size w1 w2):Below w.heap.size w w2:=h.trans (h'.mono h.size)
theorem zqj (z:Int) (w:World) (h1: -9223372036854775808≤z) (h2:z<9223372036854775808):
 Calls Tryz.prog 143 #[.int .i64 z] w (RNat w z.natAbs):=by
 rcases Int.lt_or_le z 0 with h | h
 ·have h0:z<0:=h
  obtain⟨m,hm⟩:∃m:Nat,z= -(m:Int):=⟨z.natAbs,by omega⟩
  have hM:=zxj m (by omega)
  have e:z.natAbs=m:=by omega
  rw[e]
  clear e
  subst hm
  have hw:IntKind.u64.wrap (-IntKind.u64.wrap (-(m:Int)))=(m:Int):=by rw[zyb,zyb];omega
  go_enter Tryz.func143,Tryz.ntmps143
  go_wp2_with fail
  refine(hM w).mono ?_
  rintro e w' ⟨r,rfl,hr,hb⟩
  go_wp2
  go_ret
  exact⟨_,rfl,hr,hb⟩
 ·obtain⟨m,rfl⟩:∃m:Nat,z=(m:Int):=⟨z.natAbs,by omega⟩
  have hM:=zxj m (by omega)
  have e:(m:Int).natAbs=m:=by omega
  rw[e]
  have hw:IntKind.u64.wrap (m:Int)=(m:Int):=by rw[zyb];omega
  clear e h1 h2 h
  go_enter Tryz.func143,Tryz.ntmps143
  go_wp2_with fail
  refine(hM w).mono ?_
  rintro e w' ⟨r,rfl,hr,hb⟩
  go_wp2
  go_ret
  exact⟨_,rfl,hr,hb⟩
def IsF (v:Value):Prop:=∃s x y,v= .agg #[.bool s,x,y]∧zgc x∧zgc y
theorem zqa.isF {w:World} {v:Value} {q:Rat} (h:zqa w v q):IsF v:=by
 obtain⟨a,b,rfl,h1,h2⟩:=h;exact⟨_,a,b,rfl,h1.v.sl,h2.v.sl⟩
theorem isF_zero :IsF zeroF:=⟨false,_,_,rfl,zgc.nil,zgc.nil⟩
theorem zpb {w0 w:World} {q:Rat} {v:Value} {er:Int} (h1:fits q→er=0∧zqa w v q) (h2:¬fits q→er=2∧v=zeroF):IsF v:=by
 by_cases h:fits q
 ·exact(h1 h).2.isF
 ·rw[(h2 h).2];exact isF_zero
theorem zel (a b:Int) (w:World) (ha1: -9223372036854775808≤a) (ha2:a<9223372036854775808) (hb1: -9223372036854775808≤b) (hb2:b<9223372036854775808) (hb:b≠0):
 Calls Tryz.prog 67 #[.int .i64 a, .int .i64 b] w (zmi w (fq (!decide (a<0)==decide (b<0)) a.natAbs b.natAbs)):=by
 have HA:=zH (And.intro ha1 ha2)
 have HB:=zH (And.intro hb1 hb2)
 have hbn:b.natAbs≠0:=by omega
 have HBN:=zH hbn
 have h1:∀z:Int,-9223372036854775808≤z→z<9223372036854775808→zda z.natAbs≤512:=fun z _ _=>zzb.2 (Nat.lt_of_lt_of_le (show z.natAbs<pw 2 by have :pw 2=18446744073709551616:=rfl;omega) (zzu (by omega)))
 have H1:=zH (h1 a ha1 ha2)
 have H2:=zH (h1 b hb1 hb2)
 have h9:(b==0)=false:=by simpa using hb
 clear ha1 ha2 hb1 hb2 hbn h1 hb
 go_enter Tryz.func67,Tryz.ntmps67
 go_wp2_with (first
  |(go_at_call 143;first
   |((with_reducible refine(zqj a _ HA.out.1 HA.out.2).mono ?_);rintro e w1 ⟨x,rfl,hx,hx1⟩)
   |((with_reducible refine(zqj b _ HB.out.1 HB.out.2).mono ?_);rintro e w2 ⟨y,rfl,hy,hy1⟩;have hx2:=hx.below hy1))
  |(go_at_call 142;(with_reducible refine(zub _ x y a.natAbs b.natAbs _ hx2.nat hy.nat HBN.out H1.out H2.out).mono ?_);rintro e w3 ⟨v,er,rfl,hv1,hv2,hv3⟩
    obtain⟨t,x1,y1,rfl,⟨a1,l1,k1,rfl,_⟩,⟨a2,l2,k2,rfl,_⟩⟩:=zpb (w0:=w) hv2 hv3
    have hC:=(((C3.new w _ _ _ _).belowS hx1).belowS hy1).belowS hv1
    have HC:=zH hC
    have hbz:=(zca w _).trans ((hx1.trans ((hy1.trans (hv1.mono hy1.size)).mono hx1.size)).mono (zca w _).size)
    obtain⟨_,d0,d1,d2,e0,e1,e2⟩:=hC))
 refine zoa rfl rfl Tryz.aggF Tryz.sizeF (HC.out.set _ _ _) rfl ?_
 exact⟨_,_,rfl,zga hbz (Nat.le_refl _) _ _ _,fun h=>⟨(hv2 h).1,(hv2 h).2.set3 HC.out (fun z=>by simp) (fun z=>by simp) _ _ _⟩,hv3⟩
theorem zrd (v:Value) (s:Bool) (n d:Nat) (w:World) (h:zdc w v s n d) (hk:okN n d):
 Calls Tryz.prog 79 #[v] w fun e w'=>e= .returned (.bool true)∧Below w.heap.size w w':=
 (valid_any v s n d w h).mono fun e w' ⟨h1,h2⟩=>⟨by rw[h1,decide_eq_true hk],h2⟩
theorem C3.allocS {w:World} {b:Nat} {v0 v1 v2:Value} (h:C3 w b v0 v1 v2) (o:Obj):C3 (w.alloc o) b v0 v1 v2:=h.belowS (zca w o)
theorem zmc (w:World) (t:TypeId) (x0 x1 x2 y0 y1 y2 z0 z1 z2:Value) (W:World)
 (hW:W=((w.alloc (.cells #[x0,x1,x2] t)).alloc (.cells #[y0,y1,y2] t)).alloc (.cells #[z0,z1,z2] t)):
 C3 W w.heap.size x0 x1 x2∧C3 W (w.heap.size+1) y0 y1 y2∧C3 W (w.heap.size+1+1) z0 z1 z2∧Below w.heap.size w W:=by
 subst hW
 have e1:(w.alloc (.cells #[x0,x1,x2] t)).heap.size=w.heap.size+1:=by show(w.heap.push _).size=_;simp
 have e2:((w.alloc (.cells #[x0,x1,x2] t)).alloc (.cells #[y0,y1,y2] t)).heap.size=w.heap.size+1+1:=by show(World.heap _ |>.push _).size=_;rw[Array.size_push,e1]
 refine⟨((C3.new w t x0 x1 x2).allocS _).allocS _,?_,?_,?_⟩
 ·rw[←e1];exact(C3.new _ t y0 y1 y2).allocS _
 ·rw[←e2];exact C3.new _ t z0 z1 z2
 ·exact(zca w _).trans (((zca _ _).trans ((zca _ _).mono (zca _ _).size)).mono (zca w _).size)
theorem zsd {a b j k:Nat} (ha:zda a≤j) (hb:zda b≤k):zda (a*b)≤j+k:=by
 rw[zzb]at *
 have:=Nat.mul_lt_mul'' ha hb
 rwa[←pw_add]at this
theorem nlen_sum {a b k:Nat} (ha:zda a≤k) (hb:zda b≤k):zda (a+b)≤k+1:=by
 rw[zzb]at *
 rw[zmb];omega
theorem cmp_ge0 (va vb:Value) (m n:Nat) (w:World) (ha:zob w va m) (hb:zob w vb n) (h:n≤m):
 Calls Tryz.prog 159 #[va,vb] w fun e w'=>(∃c:Int,e= .returned (.int .i64 c)∧decide (0≤c)=true)∧Below w.heap.size w w':=
 (ztl va vb m n w ha hb).mono fun _ _ ⟨a,k,b⟩=>⟨⟨_,a,by unfold zfj;rw[if_neg (by omega)];split<;>rfl⟩,b▸zka w k⟩
theorem cmp_lt0 (va vb:Value) (m n:Nat) (w:World) (ha:zob w va m) (hb:zob w vb n) (h:m<n):
 Calls Tryz.prog 159 #[va,vb] w fun e w'=>(∃c:Int,e= .returned (.int .i64 c)∧decide (0≤c)=false)∧Below w.heap.size w w':=
 (ztl va vb m n w ha hb).mono fun _ _ ⟨a,k,b⟩=>⟨⟨_,a,by rw[zkg h];rfl⟩,b▸zka w k⟩
theorem zrc {n d:Nat} (h:okN n d):zda n≤128∧zda d≤128:=⟨zgd h.2.2,zgd h.2.1⟩
set_option maxRecDepth 100000 in
theorem zco (va vb:Value) (s t:Bool) (n d m e:Nat) (w:World) (ha:zdc w va s n d) (hb:zdc w vb t m e) (h1:okN n d) (h2:okN m e):
 Calls Tryz.prog 80 #[va,vb] w (zmi w (fq s n d+fq t m e)):=by
 have hA:=ha
 have hB:=hb
 obtain⟨xn,xd,rfl,hxn,hxd⟩:=ha
 obtain⟨yn,yd,rfl,hyn,hyd⟩:=hb
 obtain⟨an,ln,kn,rfl,_⟩:=hxn.slen.1
 obtain⟨ad,ld,kd,rfl,_⟩:=hxd.slen.1
 obtain⟨am,lm,km,rfl,_⟩:=hyn.slen.1
 obtain⟨ae,le,ke,rfl,_⟩:=hyd.slen.1
 have K1:=zH h1
 have K2:=zH h2
 clear h1 h2
 go_enter Tryz.func80,Tryz.ntmps80
 go_wp2_with fail
 obtain⟨W,hW⟩:∃W,W=(((w.alloc (.cells #[.bool s, .slice an ln kn, .slice ad ld kd] 38)).alloc (.cells #[.bool t, .slice am lm km, .slice ae le ke] 38)).alloc (.cells #[.bool false, .slice none 0 0, .slice none 0 0] 38)):=⟨_,rfl⟩
 obtain⟨bx,byy,bz,hbw⟩:=zmc w 38 _ _ _ _ _ _ _ _ _ W hW
 rw[←hW]
 clear hW
 have HBX:=zH bx
 have HBY:=zH byy
 have HBZ:=zH bz
 obtain⟨_,q1,q2,q3,q4,q5,q6⟩:=bx
 obtain⟨_,r1,r2,r3,r4,r5,r6⟩:=byy
 go_wp2_with (first
  |(go_at_call 79;first
    |((with_reducible refine(zrd _ s n d _ (hA.below hbw) K1.out).mono ?_);rintro e9 w1 ⟨rfl,hv1⟩
      obtain⟨_,f1,f2,f3,f4,f5,f6⟩:=HBY.out.belowS hv1
      have hbw1:=hbw.trans (hv1.mono hbw.size))
    |((with_reducible refine(zrd _ t m e _ (hB.below hbw1) K2.out).mono ?_);rintro e9 w2 ⟨rfl,hv2⟩
      have hbx2:=(HBX.out.belowS hv1).belowS hv2
      have hby2:=(HBY.out.belowS hv1).belowS hv2
      have hbz2:=(HBZ.out.belowS hv1).belowS hv2
      have hbw2:=hbw1.trans (hv2.mono hbw1.size))))
 clear q1 q2 q3 q4 q5 q6 r1 r2 r3 r4 r5 r6 f1 f2 f3 f4 f5 f6
 have hd2:=zja (B:=w2.heap.size) w2
 have hD:=hbw2.trans (hd2.mono hbw2.size)
 have hbx3:=hbx2.belowS hd2
 have hby3:=hby2.belowS hd2
 have hbz3:=hbz2.belowS hd2
 clear hbx2 hby2 hbz2 hbw2 hv1 hv2 hbw hbw1 HBX HBY HBZ bz hd2
 have HX3:=zH hbx3
 have HY3:=zH hby3
 have HZ3:=zH hbz3
 obtain⟨_,q1,q2,q3,q4,q5,q6⟩:=hbx3
 obtain⟨_,r1,r2,r3,r4,r5,r6⟩:=hby3
 clear hbz3
 have g1:=hxn.below hD
 have g2:=hxd.below hD
 have g3:=hyn.below hD
 have g4:=hyd.below hD
 have l1:=zH (zrc K1.out)
 have l2:=zH (zrc K2.out)
 have T1:=zH (Nat.le_trans l1.out.1 (show 128≤256 by decide))
 have T2:=zH (Nat.le_trans l2.out.2 (show 128≤256 by decide))
 have T3:=zH (Nat.le_trans l2.out.1 (show 128≤256 by decide))
 have T4:=zH (Nat.le_trans l1.out.2 (show 128≤256 by decide))
 have tok1:True:=trivial
 have tok2:True:=trivial
 have tok3:True:=trivial
 go_region_held3 (fun w'=>w'.cell? ⟨w.heap.size,1,none⟩=some (.slice an ln kn)∧w'.cell? ⟨w.heap.size,2,none⟩=some (.slice ad ld kd)∧w'.cell? ⟨w.heap.size+1,1,none⟩=some (.slice am lm km)∧w'.cell? ⟨w.heap.size+1,2,none⟩=some (.slice ae le ke)) (exact⟨q2,q3,r2,r3⟩) (first
  |(go_at_call 157;have _t:=tok1;clear tok1 _t;(with_reducible refine(zgb _ _ n e _ g1 g4 T1.out T2.out).mono ?_);rintro e9 w3 ⟨p1,rfl,hp1,hp2⟩
    have X4:=HX3.out.belowS hp2
    have Y4:=HY3.out.belowS hp2
    have HX4:=zH X4
    have HY4:=zH Y4
    obtain⟨_,q1,q2,q3,q4,q5,q6⟩:=X4
    obtain⟨_,r1,r2,r3,r4,r5,r6⟩:=Y4)
  |(go_at_call 157;have _t:=tok2;clear tok2 _t;(with_reducible refine(zgb _ _ m d _ (g3.below hp2) (g2.below hp2) T3.out T4.out).mono ?_);rintro e9 w4 ⟨p3,rfl,hp3,hp4⟩
    have hp24:=zaa hp2 hp4
    have hp14:=hp1.below hp4
    have X5:=HX4.out.belowS hp4
    have Y5:=HY4.out.belowS hp4
    have HX5:=zH X5
    have HY5:=zH Y5
    obtain⟨_,q1,q2,q3,q4,q5,q6⟩:=X5
    obtain⟨_,r1,r2,r3,r4,r5,r6⟩:=Y5)
  |(go_at_call 157;have _t:=tok3;clear tok3 _t;(with_reducible refine(zgb _ _ d e _ (g2.below hp24) (g4.below hp24) T4.out T2.out).mono ?_);rintro e9 w5 ⟨p5,rfl,hp5,hp6⟩
    have hp26:=zaa hp24 hp6
    have hp16:=hp14.below hp6
    have hp36:=hp3.below hp6
    have X6:=HX5.out.belowS hp6
    have Y6:=HY5.out.belowS hp6
    have HX6:=zH X6
    have HY6:=zH Y6
    obtain⟨_,q1,q2,q3,q4,q5,q6⟩:=X6
    obtain⟨_,r1,r2,r3,r4,r5,r6⟩:=Y6))
 have hdw:Below w.heap.size w w5:=hD.trans (hp26.mono hD.size)
 have HZ6:=zH (HZ3.out.belowS hp26)
 have HDE:Hid (d*e≠0):=zH (Nat.mul_ne_zero K1.out.1 K2.out.1)
 have N1:=zH (zsd l1.out.1 l2.out.2)
 have N3:=zH (zsd l2.out.1 l1.out.2)
 have N5:=zH (Nat.le_trans (zsd l1.out.2 l2.out.2) (show 128+128≤512 by decide))
 have NS:=zH (Nat.le_trans (nlen_sum N1.out N3.out) (show 128+128+1≤512 by decide))
 have N12:=zH (Nat.le_trans N1.out (show 128+128≤512 by decide))
 have N32:=zH (Nat.le_trans N3.out (show 128+128≤512 by decide))
 clear hp24 hp26 hp14 hp1 hp3 hp2 hp4 hp6 hD HZ3 g1 g2 g3 g4 HX3 HY3 HX4 HY4 HX5 HY5 T1 T2 T3 T4
 by_cases hst:s=t
 ·have HQ:=zH (zhh s n d m e K1.out.1 K2.out.1)
  subst hst
  go_wp2_with (first
   |(go_at_call 158;(with_reducible refine(add_any p1 p3 (n*e) (m*d) _ hp16.nat hp36.nat N12.out N32.out).mono ?_);rintro e9 w6 ⟨r,er,rfl,hr,hb6⟩
     have hr6:=(hr.1 NS.out).2
     have hp56:=hp5.below hb6
     have hdw6:=zaa hdw hb6
     have HZ7:=zH (HZ6.out.belowS hb6)
     obtain⟨_,q1,q2,q3,q4,q5,q6⟩:=HX6.out.belowS hb6
     obtain⟨_,r1,r2,r3,r4,r5,r6⟩:=HY6.out.belowS hb6
     )
   |(go_at_call 142;(with_reducible refine(zub s r p5 (n*e+m*d) (d*e) _ hr6.nat hp56.nat HDE.out NS.out N5.out).mono ?_);rintro e9 w7 ⟨v,er7,rfl,hv1,hv2,hv3⟩
     rw[←HQ.out]at hv2 hv3
     obtain⟨t9,x9,y9,rfl,⟨a1,l91,k1,rfl,_⟩,⟨a2,l92,k2,rfl,_⟩⟩:=zpb (w0:=w) hv2 hv3
     have hC:=HZ7.out.belowS hv1
     have HC:=zH hC
     have hbz:=zaa hdw6 hv1
     obtain⟨_,d0,d1,d2,e0,e1,e2⟩:=hC
     )
   )
  refine zoa rfl rfl Tryz.aggF Tryz.sizeF (HC.out.set _ _ _) rfl ?_
  exact⟨_,_,rfl,zga hbz (by omega) _ _ _,fun h=>⟨(hv2 h).1,(hv2 h).2.set3 HC.out (fun z=>by simp) (fun z=>by simp) _ _ _⟩,hv3⟩
 ·have hsb:(s==t)=false:=by simpa using hst
  by_cases hle:m*d≤n*e
  ·have HQ:=zH (fq_add_ge s t n d m e K1.out.1 K2.out.1 hsb hle)
   have HLE:=zH hle
   have NS:=zH (Nat.le_trans (zfb (Nat.sub_le (n*e) (m*d))) N12.out)
   clear hle
   go_wp2_with (first
    |(go_at_call 159;(with_reducible refine(cmp_ge0 p1 p3 (n*e) (m*d) _ hp16.nat hp36.nat HLE.out).mono ?_);rintro e9 w5b ⟨⟨c,rfl,hc⟩,hb5⟩
      have hp16:=hp16.below hb5
      have hp36:=hp36.below hb5
      have hp5:=hp5.below hb5
      have HX6:=zH (HX6.out.belowS hb5)
      have HY6:=zH (HY6.out.belowS hb5)
      have HZ6:=zH (HZ6.out.belowS hb5)
      have hdw:=zaa hdw hb5)
    |(go_at_call 160;(with_reducible refine(sub_any p1 p3 (n*e) (m*d) _ hp16.nat hp36.nat N12.out HLE.out).mono ?_);rintro e9 w6 ⟨r,er,rfl,hr,hb6⟩
      have hr6:=(hr.1 NS.out).2
      have hp56:=hp5.below hb6
      have hdw6:=zaa hdw hb6
      have HZ7:=zH (HZ6.out.belowS hb6)
      obtain⟨_,q1,q2,q3,q4,q5,q6⟩:=HX6.out.belowS hb6
      obtain⟨_,r1,r2,r3,r4,r5,r6⟩:=HY6.out.belowS hb6
      )
    |(go_at_call 142;(with_reducible refine(zub s r p5 (n*e-m*d) (d*e) _ hr6.nat hp56.nat HDE.out NS.out N5.out).mono ?_);rintro e9 w7 ⟨v,er7,rfl,hv1,hv2,hv3⟩
      rw[←HQ.out]at hv2 hv3
      obtain⟨t9,x9,y9,rfl,⟨a1,l91,k1,rfl,_⟩,⟨a2,l92,k2,rfl,_⟩⟩:=zpb (w0:=w) hv2 hv3
      have hC:=HZ7.out.belowS hv1
      have HC:=zH hC
      have hbz:=zaa hdw6 hv1
      obtain⟨_,d0,d1,d2,e0,e1,e2⟩:=hC
      )
    )
   refine zoa rfl rfl Tryz.aggF Tryz.sizeF (HC.out.set _ _ _) rfl ?_
   exact⟨_,_,rfl,zga hbz (by omega) _ _ _,fun h=>⟨(hv2 h).1,(hv2 h).2.set3 HC.out (fun z=>by simp) (fun z=>by simp) _ _ _⟩,hv3⟩
  ·have hlt:n*e<m*d:=Nat.lt_of_not_le hle
   have HQ:=zH (fq_add_lt s t n d m e K1.out.1 K2.out.1 hsb (Nat.le_of_lt hlt))
   have HLT:=zH hlt
   have NS:=zH (Nat.le_trans (zfb (Nat.sub_le (m*d) (n*e))) N32.out)
   clear hle hlt
   go_wp2_with (first
    |(go_at_call 159;(with_reducible refine(cmp_lt0 p1 p3 (n*e) (m*d) _ hp16.nat hp36.nat HLT.out).mono ?_);rintro e9 w5b ⟨⟨c,rfl,hc⟩,hb5⟩
      have hp16:=hp16.below hb5
      have hp36:=hp36.below hb5
      have hp5:=hp5.below hb5
      have HX6:=zH (HX6.out.belowS hb5)
      have HY6:=zH (HY6.out.belowS hb5)
      have HZ6:=zH (HZ6.out.belowS hb5)
      have hdw:=zaa hdw hb5)
    |(go_at_call 160;(with_reducible refine(sub_any p3 p1 (m*d) (n*e) _ hp36.nat hp16.nat N32.out (Nat.le_of_lt HLT.out)).mono ?_);rintro e9 w6 ⟨r,er,rfl,hr,hb6⟩
      have hr6:=(hr.1 NS.out).2
      have hp56:=hp5.below hb6
      have hdw6:=zaa hdw hb6
      have HZ7:=zH (HZ6.out.belowS hb6)
      obtain⟨_,q1,q2,q3,q4,q5,q6⟩:=HX6.out.belowS hb6
      obtain⟨_,r1,r2,r3,r4,r5,r6⟩:=HY6.out.belowS hb6
      )
    |(go_at_call 142;(with_reducible refine(zub t r p5 (m*d-n*e) (d*e) _ hr6.nat hp56.nat HDE.out NS.out N5.out).mono ?_);rintro e9 w7 ⟨v,er7,rfl,hv1,hv2,hv3⟩
      rw[←HQ.out]at hv2 hv3
      obtain⟨t9,x9,y9,rfl,⟨a1,l91,k1,rfl,_⟩,⟨a2,l92,k2,rfl,_⟩⟩:=zpb (w0:=w) hv2 hv3
      have hC:=HZ7.out.belowS hv1
      have HC:=zH hC
      have hbz:=zaa hdw6 hv1
      obtain⟨_,d0,d1,d2,e0,e1,e2⟩:=hC
      )
    )
   refine zoa rfl rfl Tryz.aggF Tryz.sizeF (HC.out.set _ _ _) rfl ?_
   exact⟨_,_,rfl,zga hbz (by omega) _ _ _,fun h=>⟨(hv2 h).1,(hv2 h).2.set3 HC.out (fun z=>by simp) (fun z=>by simp) _ _ _⟩,hv3⟩
set_option maxHeartbeats 1600000
theorem zcc.drawn {w:World} {e:TypeId} {B:Nat} {v:Value} {o:List Nat} (h:zcc w e B v o) (k:Nat):zcc (w.drewN k) e B v o:=h.below (zka w k)
theorem zim (c x y q:Nat):(x:Int)*y+q+c=((x*y+q+c:Nat):Int):=by
 rw[Int.natCast_add,Int.natCast_add,Int.natCast_mul]
theorem zod (va vb:Value) (a b:List Nat) (w:World) (ha:zfc w va a) (hb:zfc w vb b) (hla:a.length≤65536) (hlb:b.length≤65536):
 Calls Tryz.prog 197 #[va,vb] w (RNat w (val a*val b)):=by
 obtain⟨i0,hi,hz0,hz1,hz2⟩:=info_parts Tryz.info102
 have hM:=zmd (P:=Tryz.prog) 36 142 i0 Tryz.underlying36 hi hz0 hz1 hz2
 clear hi hz0 hz1 hz2
 have s1:=ha.sl
 have s2:=hb.sl
 have l1:=ha.len
 have l2:=hb.len
 have hroom:a.length+b.length≤35184372088832:=by omega
 go_enter Tryz.func197,Tryz.ntmps197
 go_wp2_with (refine hM _ rfl _ _ rfl w.heap.size _ (a.length+b.length) rfl rfl rfl hroom (Nat.le_refl _) ?_;intro v w1 hown hb1 hvb)
 clear hM hroom
 go_loopw [6] (fun u6 wr=>∃ (k:Nat) (o:List Nat),k≤a.length∧u6= .int .i64 k∧zcc wr 142 w.heap.size v o∧o.length=a.length+b.length∧
  val (o.take (k+b.length))=val (a.take k)*val b∧Below w.heap.size w wr) (fun u6 _=>a.length- (intOf u6).toNat)
 case atStart=>exact⟨0,_,Nat.zero_le _,rfl,hown,by simp,by simp[val,znf],hb1⟩
 case round=>
  obtain⟨k,o,hk,rfl,hownr,hol,hval,hbr⟩:=hrel
  obtain⟨wo,rfl⟩:∃wo:World,wo=wr:=⟨_,rfl⟩
  have HV:=zH hval
  have HOL:=zH hol
  clear hval hol
  by_cases hkp:k<a.length
  ·have HX:=zH (zia a k hkp)
   have hx1:=ha.lt k hkp
   have hca:=fun(wi:World) (h:Below w.heap.size w wi)=>zH ((ha.below h).cell k hkp)
   generalize a[k]=x at *
   go_wp2
   go_loopw [7,8] (fun u7 u8 wi=>∃ (j c:Nat) (o:List Nat),j≤b.length∧u8= .int .i64 j∧u7= .int .u64 c∧c<4294967296∧zcc wi 142 w.heap.size v o∧o.length=a.length+b.length∧
    val (o.take (k+b.length))+pw (k+j)*c=val (a.take k)*val b+pw k*x*val (b.take j)∧Below w.heap.size w wi) (fun _ u8 _=>b.length- (intOf u8).toNat)
   case atStart=>exact⟨0,0,o,Nat.zero_le _,rfl,rfl,by omega,hownr,HOL.out,by rw[HV.out];simp[val],hbr⟩
   case round=>
    obtain⟨j,c,p,hj,rfl,rfl,hc,hownp,hpl,hvp,hbi⟩:=hrel
    have HP:=zH hvp
    have HPL:=zH hpl
    clear hvp
    have sv:=hownp.nat.sl
    have lv:slen v=a.length+b.length:=by rw[hownp.nat.len,hpl]
    clear hpl
    by_cases hjn:j<b.length
    ·have hkj:k+j<p.length:=by rw[HPL.out];omega
     have hx:=(hca _ hbi).out
     have hy:=(hb.below hbi).cell j hjn
     have hy1:=hb.lt j hjn
     have HY:=zH (zia b j hjn)
     have hfz:=hownp.frozen (k+j) hkj
     have hco:=hownp.nat.cell (k+j) hkj
     have hq1:p[k+j]<4294967296:=hownp.lm _ (List.getElem_mem _)
     have HST:=fun(z c':Nat)=>zH (mul_step (o:=p) (b:=b) (k:=k) (j:=j) (N:=k+b.length) (R:=val (a.take k)*val b) (c:=c) (x:=x) (z:=z) (c':=c') (by omega) (by have:=HPL.out;omega) HY.out HP.out)
     generalize b[j]=y at *
     generalize hqe:p[k+j]=q at *
     obtain⟨h0',hxy'⟩:=zsg hx1 hy1
     have hT:=(zcl hx1 hy1 hq1 hc).1
     have hset:=hownp.set (k+j) hkj
     have HT:=zH hT
     have HKJ:=zH hkj
     clear hqe hT hkj
     have e1:IntKind.i64.wrap ((k:Int)+j)=(k:Int)+j:=IntWalk.i64_in _ (by omega)
     have e2:((k:Int)+j).toNat=k+j:=by omega
     have e2b:(0:Int)≤(k:Int)+j:=by omega
     have e3:IntKind.u64.wrap ((x:Int)*y)=(x:Int)*y:=by rw[zyb];omega
     have e4:IntKind.u64.wrap ((x:Int)*y+q)=(x:Int)*y+q:=by rw[zyb];omega
     have e5:IntKind.u64.wrap ((x:Int)*y+q+c)=(x:Int)*y+q+c:=by rw[zyb,zim];have:=HT.out;omega
     go_wp2
     go_quiet (fail)
     clear e1 e2 e2b e3 e4 e5 hset hfz hco hx hy h0' hxy'
     have hownd:=hownp.drawn nq
     have hbd:=hbi.trans ((zka wr nq).mono hbi.size)
     have hco:(wr.drewN nq).cell? (ptr v (k+j))=some (.int .u32 (p[k+j]'HKJ.out:Nat)):=hownd.nat.cell (k+j) HKJ.out
     have hfz:=hownd.frozen (k+j) HKJ.out
     have hset:=hownd.set (k+j) HKJ.out
     generalize wr.drewN nq=W at *
     rw[zim]
     have HT2:=HT.out
     generalize x*y+q+c=t at *
     generalize (p[k+j]'HKJ.out)=q0 at *
     have hset2:=hset (t%4294967296) (by omega)
     clear hset
     go_wp2
     go_roundw
     case rel=>
      have e2:((t:Nat):Int)/4294967296=((t/4294967296:Nat):Int):=rfl
      rw[e2]
      exact⟨j+1,t/4294967296,_,by omega,by go_num,rfl,div_lt_32 HT2,hset2.1,by simp[HPL.out],(HST (t%4294967296) (t/4294967296)).out (by omega),hbd.trans hset2.2⟩
     case measure=>simp[intOf];omega
    ·obtain rfl:j=b.length:=by omega
     have hkj:k+b.length<p.length:=by rw[HPL.out];omega
     have hfz:=hownp.frozen (k+b.length) hkj
     have hco:=hownp.nat.cell (k+b.length) hkj
     have hset:=hownp.set (k+b.length) hkj c hc
     have hv2:=mul_end (o:=p) (a:=a) (b:=b) (k:=k) (n:=val b) (N:=k+b.length) (c:=c) (x:=x) hkj HX.out rfl rfl HP.out
     have HV2:=zH hv2
     clear hv2
     generalize p[k+b.length]=q0 at *
     clear hkj
     go_wp2
     go_roundw
     case rel=>exact⟨k+1,_,by omega,by go_num,hset.1,by simp[HPL.out],by rw[show k+1+b.length=k+b.length+1 from by omega];exact HV2.out,hbi.trans hset.2⟩
     case measure=>simp[intOf];omega
  ·obtain rfl:k=a.length:=by omega
   have hv2:val o=val a*val b:=by
    have e:=HV.out
    rw[List.take_of_length_le (by have:=HOL.out;omega),List.take_of_length_le (show a.length≤a.length from Nat.le_refl _)]at e
    exact e
   have HT:=zra _ _ wo (hownr.nat.natN (by have:=HOL.out;omega))
   rw[hv2]at HT
   have HT2:=zH HT
   clear HT hv2
   go_wp2_with (go_at_call 106;refine HT2.out.mono ?_;rintro e w1 ⟨r,rfl,hr,hb⟩)
   go_ret
   exact⟨r,rfl,hr,hbr.trans (hb.mono hbr.size)⟩
theorem zob.of_eq {w:World} {v:Value} {m n:Nat} (h:zob w v m) (e:m=n):zob w v n:=e▸h
theorem radd_any (va vb:Value) (m n:Nat) (w:World) (ha:zob w va m) (hb:zob w vb n) (hm:zda m≤512) (hn:zda n≤512):
 Calls Tryz.prog 75 #[va,vb] w (zxm w (m+n)):=by
 have HM:=zH hm
 have HN:=zH hn
 have HM2:Hid ((zla m).length≤65536):=zH (Nat.le_trans hm (by decide))
 have HN2:Hid ((zla n).length≤65536):=zH (Nat.le_trans hn (by decide))
 clear hm hn
 go_enter Tryz.func75,Tryz.ntmps75
 go_wp2_with (first
  |(go_at_call 152;first
    |((with_reducible refine(zyc va m _ ha HM.out).mono ?_);rintro e wa ⟨rfl,hba⟩)
    |((with_reducible refine(zyc vb n _ (hb.below hba) HN.out).mono ?_);rintro e wb ⟨rfl,hbb⟩;have hbw:=zaa hba hbb;have ha2:=ha.below hbw;have hb2:=hb.below hbw))
  |(go_at_call 106;first
     |((with_reducible refine(zra va m _ ha2).mono ?_);rintro e w1 ⟨ra,rfl,hra,hb1⟩;have hbw1:=zaa hbw hb1)
     |((with_reducible refine(zra vb n _ (hb2.below hb1)).mono ?_);rintro e w2 ⟨rb,rfl,hrb,hb2⟩;have hbw2:=zaa hbw1 hb2;have hra2:=hra.below hb2))
  |(go_at_call 153;(with_reducible refine(plus_any ra rb (zla m) (zla n) _ hra2.v hrb.v HM2.out HN2.out).mono ?_);rw[zha,zha];rintro e w3 ⟨r,rfl,hr,hb3⟩;have hbw3:=zaa hbw2 hb3)
  |(go_at_call 152;(with_reducible refine(zti r (m+n) _ hr.nat).mono ?_);rintro e w4 ⟨rfl,hb4⟩;have hbw4:=zaa hbw3 hb4;have hr4:=hr.below hb4))
 ·go_ret2
  have hbig:¬zda (m+n)≤512:=by have h5:512<zda (m+n):= ‹_›;omega
  exact⟨_,2,rfl,⟨fun h=>absurd h hbig,fun _=>⟨rfl,zjb.nil _⟩⟩,hbw4⟩
 ·go_ret2
  have hbig:¬512<zda (m+n):=by assumption
  exact⟨_,0,rfl,⟨fun _=>⟨rfl,hr4⟩,fun h=>absurd h hbig⟩,hbw4⟩
theorem rmul_any (va vb:Value) (m n:Nat) (w:World) (ha:zob w va m) (hb:zob w vb n) (hm:zda m≤512) (hn:zda n≤512):
 Calls Tryz.prog 151 #[va,vb] w (zxm w (m*n)):=by
 have HM:=zH hm
 have HN:=zH hn
 have HM2:Hid ((zla m).length≤65536):=zH (Nat.le_trans hm (by decide))
 have HN2:Hid ((zla n).length≤65536):=zH (Nat.le_trans hn (by decide))
 clear hm hn
 go_enter Tryz.func151,Tryz.ntmps151
 go_wp2_with (first
  |(go_at_call 152;first
    |((with_reducible refine(zyc va m _ ha HM.out).mono ?_);rintro e wa ⟨rfl,hba⟩)
    |((with_reducible refine(zyc vb n _ (hb.below hba) HN.out).mono ?_);rintro e wb ⟨rfl,hbb⟩;have hbw:=zaa hba hbb;have ha2:=ha.below hbw;have hb2:=hb.below hbw))
  |(go_at_call 106;first
     |((with_reducible refine(zra va m _ ha2).mono ?_);rintro e w1 ⟨ra,rfl,hra,hb1⟩;have hbw1:=zaa hbw hb1)
     |((with_reducible refine(zra vb n _ (hb2.below hb1)).mono ?_);rintro e w2 ⟨rb,rfl,hrb,hb2⟩;have hbw2:=zaa hbw1 hb2;have hra2:=hra.below hb2))
  |(go_at_call 197;(with_reducible refine(zod ra rb (zla m) (zla n) _ hra2.v hrb.v HM2.out HN2.out).mono ?_);rw[zha,zha];rintro e w3 ⟨r,rfl,hr,hb3⟩;have hbw3:=zaa hbw2 hb3)
  |(go_at_call 152;(with_reducible refine(zti r (m*n) _ hr.nat).mono ?_);rintro e w4 ⟨rfl,hb4⟩;have hbw4:=zaa hbw3 hb4;have hr4:=hr.below hb4))
 ·go_ret2
  have hbig:¬zda (m*n)≤512:=by have h5:512<zda (m*n):= ‹_›;omega
  exact⟨_,2,rfl,⟨fun h=>absurd h hbig,fun _=>⟨rfl,zjb.nil _⟩⟩,hbw4⟩
 ·go_ret2
  have hbig:¬512<zda (m*n):=by assumption
  exact⟨_,0,rfl,⟨fun _=>⟨rfl,hr4⟩,fun h=>absurd h hbig⟩,hbw4⟩
/-- b is at most a. -/
theorem rsub_le (va vb:Value) (m n:Nat) (w:World) (ha:zob w va m) (hb:zob w vb n) (hm:zda m≤512) (hn:n≤m):
 Calls Tryz.prog 78 #[va,vb] w (RNat0 w (m-n)):=by
 have HM:=zH hm
 have HN:=zH (Nat.le_trans (zfb hn) hm)
 have HL:=zH hn
 have HM2:Hid ((zla m).length≤65536):=zH (Nat.le_trans hm (by decide))
 have HN2:Hid ((zla n).length≤(zla m).length):=zH (zfb hn)
 have HL2:Hid (val (zla n)≤val (zla m)):=zH (by rw[zha,zha];exact hn)
 have hc:(zfj m n<0)=False:=by unfold zfj;rw[if_neg (by omega)];split<;>simp
 have hc2:¬zfj m n<0:=by rw[hc];simp
 clear hm hn hc
 generalize hg:zfj m n=g at *
 have HG:=zH hg
 clear hg
 go_enter Tryz.func78,Tryz.ntmps78
 go_wp2_with (first
  |(go_at_call 152;first
    |((with_reducible refine(zyc va m _ ha HM.out).mono ?_);rintro e wa ⟨rfl,hba⟩)
    |((with_reducible refine(zyc vb n _ (hb.below hba) HN.out).mono ?_);rintro e wb ⟨rfl,hbb⟩;have hbw0:=zaa hba hbb;have ha0:=ha.below hbw0;have hb0:=hb.below hbw0))
  |(go_at_call 77;(with_reducible refine(zee va vb m n _ ha0 hb0).mono ?_);rintro e wc ⟨rfl,hbc⟩;rw[HG.out];have hbw:=zaa hbw0 hbc;have ha2:=ha.below hbw;have hb2:=hb.below hbw)
  |(go_at_call 106;first
     |((with_reducible refine(zra va m _ ha2).mono ?_);rintro e w1 ⟨ra,rfl,hra,hb1⟩;have hbw1:=zaa hbw hb1)
     |((with_reducible refine(zra vb n _ (hb2.below hb1)).mono ?_);rintro e w2 ⟨rb,rfl,hrb,hb2⟩;have hbw2:=zaa hbw1 hb2;have hra2:=hra.below hb2))
  |(go_at_call 155;(with_reducible refine(minus_any ra rb (zla m) (zla n) _ hra2.v hrb.v HM2.out HN2.out HL2.out).mono ?_);rw[zha,zha];rintro e w3 ⟨r,rfl,hr,hb3⟩;have hbw3:=zaa hbw2 hb3))
 go_ret2
 exact⟨_,rfl,hr,hbw3⟩
set_option maxHeartbeats 1600000
theorem zsq (v:Value) (n:Nat) (w:World) (h:zob w v n):
 Calls Tryz.prog 207 #[v] w fun e w'=>e= .returned (.int .i64 (zua n))∧Below w.heap.size w w':=by
 have HT:=zH (zra v n w h)
 have hln:=h.len_le
 by_cases hn:n=0
 ·have hz:zda n=0:=zta.2 hn
  have hb:zua n=0:=zyh.2 hn
  have HB:=zH hb
  clear hln hn hb
  go_enter Tryz.func207,Tryz.ntmps207
  go_wp2_with (go_at_call 106;refine HT.out.mono ?_;rintro e w1 ⟨r,rfl,hr,hb⟩;have s1:=hr.v.sl;have s2:slen r=zda n:=hr.v.len)
  go_ret
  exact⟨by rw[HB.out];rfl,hb⟩
 ·obtain⟨t,ht1,ht2,ht3,ht4⟩:=zdi hn
  have hnl:0<zda n:=by have :zda n≠0:=fun h'=>hn (zta.1 h');omega
  obtain⟨htl,hte⟩:=List.getElem?_eq_some_iff.1 ht1
  have HC:=fun(w1:World) (r:Value) (hr:zjb w1 r n)=>zH ((hr.v.cell (zda n-1) (by show zda n-1<zda n;omega)).trans (congrArg (fun x:Nat=>some (Value.int .u32 (x:Nat))) hte))
  have HT4:=zH ht4
  have htb:zua t≤32:=zwb.2 ht3
  have HB:=zH htb
  clear hn ht1 ht2 ht4 htl hte htb
  obtain⟨g,hg⟩:∃g,zda n=g+1:=⟨zda n-1,by omega⟩
  have hg1:zda n-1=g:=by omega
  rw[hg1]at HC HT4
  rw[hg]at hln
  have HG:=zH hg
  clear hg hg1 hnl
  go_enter Tryz.func207,Tryz.ntmps207
  go_wp2_with (go_at_call 106;refine HT.out.mono ?_;rintro e w1 ⟨r,rfl,hr,hb⟩;have s1:=hr.v.sl;have s2:slen r=g+1:=hr.v.len.trans HG.out;have s3:=(HC _ _ hr).out;clear HC;have s4:(((g:Int)+1)==0)=false:=by simp;omega)
  go_loopw [3,4] (fun u3 u4 wr=>∃ (k y:Nat),u3= .int .i64 k∧u4= .int .u32 y∧y<4294967296∧k+zua y=32*g+zua t∧wr=w1) (fun _ u4 _=>(intOf u4).toNat)
  case atStart=>exact⟨32*g,t,by go_num,rfl,ht3,rfl,rfl⟩
  case round=>
   obtain⟨k,y,rfl,rfl,hy,hky,rfl⟩:=hrel
   have hk:k≤137438953504:=by have:=HB.out;omega
   by_cases hy0:0<y
   ·have HK:=zH hky
    clear hky
    have hy2:y/2<y:=by omega
    go_wp2
    go_roundw
    case rel=>exact⟨k+1,y/2,by go_num,by go_num,by omega,by have:=HK.out;have:=zom (n:=y) (by omega);omega,trivial⟩
    case measure=>simp[intOf];omega
   ·obtain rfl:y=0:=by omega
    have hfin:zua n=k:=by rw[HT4.out,←hky,zbj,Nat.add_zero]
    have HF:=zH hfin
    clear hfin hky hy0
    go_wp2
    go_ret
    exact⟨by rw[HF.out];rfl,hb⟩
theorem rup_step {o a:List Nat} {q k c x P t:Nat} (ho:o.length=q+k) (ha:val (a.take (k+1))=val (a.take k)+pw k*x) (ht:P*x+c=t)
 (hv:val o+pw (q+k)*c=pw q*(P*val (a.take k))):
 val (o++ [t%4294967296])+pw (q+(k+1))*(t/4294967296)=pw q*(P*val (a.take (k+1))):=by
 rw[zmh,ha,ho,show q+(k+1)=(q+k)+1 from rfl,zmb]
 have h:t%4294967296+4294967296*(t/4294967296)=t:=by omega
 generalize t%4294967296=z at *
 generalize t/4294967296=d at *
 have e:=pw_add q k
 generalize pw (q+k)=p at *
 subst e
 subst ht
 grind
theorem or_up2 (c x s:Nat) (hs:s<32) (hc:c<2^s) (hx:x<4294967296):bits .or .u64 (IntKind.u64.wrap ((x:Int)*2^s)) (c:Int)=((2^s*x+c:Nat):Int):=by
 have hP:2^s≤2^31:=Nat.pow_le_pow_right (by decide) (by omega)
 have h1:2^s*x≤2^31*4294967295:=Nat.mul_le_mul hP (by omega)
 have h2:((x:Int)*2^s)=((2^s*x:Nat):Int):=by rw[Int.natCast_mul,Int.natCast_pow];exact Int.mul_comm _ _
 rw[h2,zyb]
 have h3:((2^s*x:Nat):Int)%18446744073709551616=((2^s*x:Nat):Int):=by omega
 rw[h3,u64_or_nat (2^s*x) c (by omega) (by omega),zzk x c s hc]
theorem rup_own (va:Value) (a:List Nat) (n:Nat) (w:World) (ha:zfc w va a) (hl:a.length≤65536) (hn:n≤65536):
 Calls Tryz.prog 216 #[va, .int .i64 n] w (RNatO w (2^n*val a)):=by
 obtain⟨i0,hi,hz0,hz1,hz2⟩:=info_parts Tryz.info102
 have hM:=zmd (P:=Tryz.prog) 36 142 i0 Tryz.underlying36 hi hz0 hz1 hz2
 have hA1:=zuf (P:=Tryz.prog) 36 142 i0 Tryz.underlying36 hi hz0 hz1 hz2
 clear hi hz0 hz1 hz2
 have sa:=ha.sl
 have la:=ha.len
 obtain⟨q,s,hs,rfl⟩:∃q s,s<32∧n=32*q+s:=⟨n/32,n%32,Nat.mod_lt _ (by decide),by omega⟩
 by_cases h0:a.length=0
 ·have e:a= []:=List.eq_nil_of_length_eq_zero h0
  subst e
  clear hM hA1
  go_enter Tryz.func216,Tryz.ntmps216
  go_wp2_with fail
  go_ret
  refine⟨_,rfl,?_,?_,Below.refl _ _⟩
  ·simp only[val,Nat.mul_zero,zbc];exact zcc.nil _ _ _
  ·simp only[val,Nat.mul_zero,zzc];omega
 ·have h0b:(((a.length:Nat):Int)==0)=false:=by simpa using h0
  have hv:2^(32*q+s)*val a=pw q*(2^s*val a):=by rw[Nat.pow_add,zuk,Nat.mul_assoc]
  have HV0:=zH hv
  have hqb:q≤2048:=by omega
  generalize hne:32*q+s=n at *
  have e1:(n:Int)/32=(q:Int):=by omega
  have e2:(n:Int)%32=(s:Int):=by omega
  clear hv hne h0
  go_enter Tryz.func216,Tryz.ntmps216
  go_wp2_with (refine hM _ rfl _ _ rfl w.heap.size _ q rfl rfl rfl (by omega) (Nat.le_refl _) ?_;intro v w1 hown hb1 hvb)
  clear hM e1
  go_loopw [5,6,7] (fun u5 u6 u7 wr=>∃ (k c:Nat) (o:List Nat),k≤a.length∧u7= .int .i64 k∧u6= .int .u64 c∧c<2^s∧zcc wr 142 w.heap.size u5 o∧o.length=q+k∧
   val o+pw (q+k)*c=pw q*(2^s*val (a.take k))∧Below w.heap.size w wr) (fun _ _ u7 _=>a.length- (intOf u7).toNat)
  case atStart=>exact⟨0,0,_,Nat.zero_le _,rfl,rfl,Nat.pow_pos (by decide),hown,by simp,by simp[val,znf],hb1⟩
  case round=>
   obtain⟨k,c,o,hk,rfl,rfl,hc,hownr,hol,hval,hbr⟩:=hrel
   have HV:=zH hval
   have HOL:=zH hol
   have HO:Hid (o.length+1≤4294967296):=zH (by omega)
   clear hval hol hown hb1
   by_cases hkp:k<a.length
   ·have hx:=(ha.below hbr).cell k hkp
    have hx1:=ha.lt k hkp
    have HX:=zH (zia a k hkp)
    generalize a[k]=x at *
    have hor:=or_up2 c x s hs hc hx1
    obtain⟨b1,b2⟩:=up_bound c x s hs hc hx1
    have HT:=fun t=>zH (rup_step (o:=o) (a:=a) (q:=q) (k:=k) (c:=c) (x:=x) (P:=2^s) (t:=t) HOL.out HX.out)
    generalize hte:2^s*x+c=t at *
    have HTE:=zH hte
    clear hte
    go_wp2_with (at_builtin;refine hA1 wr rfl _ _ rfl w.heap.size _ u5 o rfl (by exact hownr) _ (t%4294967296) (by omega) (by omega) rfl (Nat.le_trans HO.out (by decide)) hbr.size ?_;intro v' w1 hown1 hbel1)
    go_roundw
    case rel=>exact⟨k+1,t/4294967296,_,by omega,by go_num,by go_num,b2,hown1,by simp[HOL.out,Nat.add_assoc],(HT t).out rfl HV.out,hbr.trans (hbel1.mono (Nat.le_refl _))⟩
    case measure=>simp[intOf];omega
   ·obtain rfl:k=a.length:=by omega
    have hP:2^s≤2^31:=Nat.pow_le_pow_right (by decide) (by omega)
    have hc1:c<4294967296:=by omega
    have hv2:val (o++ [c])=2^n*val a:=by
     rw[zmh,HOL.out,HV.out,List.take_length,HV0.out]
    have HV2:=zH hv2
    have HC1:=zH hc1
    clear hv2 hP hc1 hc
    go_wp2_with (first
     |(at_builtin;refine hA1 wr rfl _ _ rfl w.heap.size _ u5 o rfl (by exact hownr) _ c (by have:=HC1.out;omega) HC1.out rfl (Nat.le_trans HO.out (by decide)) hbr.size ?_;intro v' w1 hown1 hbel1;have hbw:=hbr.trans hbel1;have HT:=zH (zjk v' _ w1 (zob.of_eq (hown1.nat.natN (by have:=HO.out;simp;omega)) HV2.out)))
     |(go_at_call 106;refine HT.out.mono ?_;rintro e w2 ⟨r,rfl,hr,hr2,hb⟩))
    go_ret
    exact⟨r,rfl,hr.mono hbw.size,hr2,hbw.trans (hb.mono hbw.size)⟩
theorem rup_any (va:Value) (a:List Nat) (n:Nat) (w:World) (ha:zfc w va a) (hl:a.length≤65536) (hn:n≤65536):
 Calls Tryz.prog 216 #[va, .int .i64 n] w (RNat w (2^n*val a)):=(rup_own va a n w ha hl hn).mono fun _ _ h=>h.nat
theorem val_drop (a:List Nat) (q:Nat) (h:q≤a.length):val a=val (a.take q)+pw q*val (a.drop q):=by
 have e:=zac (a.take q) (a.drop q)
 rw[List.take_append_drop,List.length_take,Nat.min_eq_left h]at e
 exact e
theorem val_drop_div (a:List Nat) (q:Nat) (ha:Lm a) (h:q≤a.length):val (a.drop q)=val a/pw q:=by
 have h1:=zoe (show Lm (a.take q)from fun x hx=>ha x (List.mem_of_mem_take hx))
 rw[List.length_take,Nat.min_eq_left h]at h1
 rw[val_drop a q h,Nat.add_mul_div_left _ _ (pw_pos q),Nat.div_eq_of_lt h1,Nat.zero_add]
theorem or_hi32 (x y:Nat) (hx:x<4294967296) (hy:y<4294967296):bits .or .u64 (x:Int) ((y:Int)*4294967296)=((y*4294967296+x:Nat):Int):=by
 have h:=or_hi x y 4294967296 32 (by decide) hx (by omega) (by decide)
 rw[show((4294967296*y:Nat):Int)=(y:Int)*4294967296 from by omega]at h
 rw[h];congr 1;omega
theorem getD_drop (a:List Nat) (q k:Nat):(a.drop q).getD k 0=a.getD (q+k) 0:=by simp[List.getD]
theorem zhi (l:List Nat) (j:Nat) (hj:l.length≤j):l.getD j 0=0:=by simp[List.getD,List.getElem?_eq_none hj]
theorem down_step {o d:List Nat} {k i P a b z:Nat} (hP:P*k=4294967296) (ho:o.length=i) (hd:val (d.take (i+1))=val (d.take i)+pw i*a) (ha:a<4294967296) (hz:z=((b*4294967296+a)/P)%4294967296) (c:Nat)
 (hv:P*val o+c=val (d.take i)+pw i*(a%P)):
 P*val (o++ [z])+c=val (d.take (i+1))+pw (i+1)*(b%P):=by
 have h:=rest_limb (b:=b) k hP ha
 rw[←hz]at h
 rw[zmh,hd,zmb,ho]
 have h2:pw i*(P*z+a%P)=pw i*(a+4294967296*(b%P)):=by rw[h]
 generalize a%P=x at *
 generalize b%P=y at *
 grind
theorem down_end {o d:List Nat} {P c:Nat} (hP:0<P) (hc:c<P) (hv:P*val o+c=val d):val o=val d/P:=by
 rw[←hv,Nat.mul_add_div hP,Nat.div_eq_of_lt hc,Nat.add_zero]
set_option maxHeartbeats 1600000 in
theorem rdown_any (va:Value) (a:List Nat) (n:Nat) (w:World) (ha:zfc w va a) (hl:a.length≤65536) (hn:n≤65536):
 Calls Tryz.prog 217 #[va, .int .i64 n] w (RNat w (val a/2^n)):=by
 obtain⟨i0,hi,hz0,hz1,hz2⟩:=info_parts Tryz.info102
 have hA1:=zuf (P:=Tryz.prog) 36 142 i0 Tryz.underlying36 hi hz0 hz1 hz2
 clear hi hz0 hz1 hz2
 have sa:=ha.sl
 have la:=ha.len
 obtain⟨q,s,hs,rfl⟩:∃q s,s<32∧n=32*q+s:=⟨n/32,n%32,Nat.mod_lt _ (by decide),by omega⟩
 have hP0:0<2^s:=Nat.pow_pos (by decide)
 have hPk:2^s*2^(32-s)=4294967296:=by rw[←Nat.pow_add,Nat.add_sub_cancel' (by omega)]
 have HP0:=zH hP0
 have HPK:=zH hPk
 clear hP0 hPk
 have hqb:q≤2048:=by omega
 by_cases hqa:a.length≤q
 ·have hv:val a/2^(32*q+s)=0:=by
   apply Nat.div_eq_of_lt
   have h1:=zoe ha.lm
   have h2:=zzu hqa
   rw[zuk q]at h2
   have h3:2^(32*q)≤2^(32*q+s):=Nat.pow_le_pow_right (by decide) (by omega)
   omega
  rw[hv]
  clear hv
  generalize hne:32*q+s=n at *
  have e1:(n:Int)/32=(q:Int):=by omega
  clear hne hA1
  go_enter Tryz.func217,Tryz.ntmps217
  go_wp2_with fail
  go_ret
  exact⟨_,rfl,zjb.nil _,Below.refl _ _⟩
 ·have hq1:q<a.length:=by omega
  have hfin:∀x:Nat,x=val (a.drop q)/2^s→x=val a/2^(32*q+s):=fun x hx=>by
   rw[hx,val_drop_div a q ha.lm (by omega),Nat.div_div_eq_div_mul,zuk,←Nat.pow_add]
  have HFIN:=zH hfin
  clear hfin
  generalize hne:32*q+s=n at *
  have e1:(n:Int)/32=(q:Int):=by omega
  have e2:(n:Int)%32=(s:Int):=by omega
  clear hne
  go_enter Tryz.func217,Tryz.ntmps217
  go_wp2_with fail
  clear e1
  go_loopw [5,6] (fun u5 u6 wr=>∃ (k:Nat) (o:List Nat),q+k≤a.length∧u6= .int .i64 ((q+k:Nat):Int)∧zcc wr 142 w.heap.size u5 o∧o.length=k∧
   2^s*val o+(a.getD q 0)%2^s=val ((a.drop q).take k)+pw k*((a.getD (q+k) 0)%2^s)∧Below w.heap.size w wr) (fun _ u6 _=>a.length- (intOf u6).toNat)
  case atStart=>exact⟨0,[],by omega,rfl,zcc.nil _ _ _,rfl,by simp[val,zye],Below.refl _ _⟩
  case round=>
   obtain⟨k,o,hk,rfl,hownr,hol,hval,hbr⟩:=hrel
   have HV:=zH hval
   have HOL:=zH hol
   have HO:Hid (o.length+1≤4294967296):=zH (by omega)
   clear hval hol
   by_cases hkp:q+k<a.length
   ·have hx:=(ha.below hbr).cell (q+k) hkp
    have hx1:=ha.lt (q+k) hkp
    have HK1:Hid (q+(k+1)≤a.length):=zH (by omega)
    have hX:val ((a.drop q).take (k+1))=val ((a.drop q).take k)+pw k*a[q+k]:=by
     rw[zmf,getD_drop,zaf a _ hkp]
     try rfl
    have hV1:=HV.out
    rw[zaf a _ hkp]at hV1
    have hSTx:=fun(b z:Nat) (hz:z=((b*4294967296+a[q+k])/2^s)%4294967296)=>down_step (o:=o) (d:=a.drop q) (b:=b) (z:=z) HPK.out HOL.out hX hx1 hz _ hV1
    by_cases hk2:q+k+1<a.length
    ·have hy:=(ha.below hbr).cell (q+k+1) hk2
     have hy1:=ha.lt (q+k+1) hk2
     have hor:=or_hi32 a[q+k] a[q+k+1] hx1 hy1
     have hST:=hSTx a[q+k+1] _ rfl
     rw[←zaf a _ hk2]at hST
     obtain⟨e,he⟩:∃e,(a.getD (q+k+1) 0)*4294967296+a[q+k]=e:=⟨_,rfl⟩
     rw[he]at hST
     rw[zaf a _ hk2]at he
     rw[he]at hor
     have he64:e<18446744073709551616:=by omega
     have HST:=zH hST
     have HZC:=zH (zxn e s)
     clear hST hSTx hV1 hX HV he
     generalize a[q+k]=x at *
     generalize a[q+k+1]=y at *
     go_wp2_with (at_builtin;refine hA1 wr rfl _ _ rfl w.heap.size _ u5 o rfl (by exact hownr) _ (e/2^s%4294967296) HZC.out (Nat.mod_lt _ (by decide)) rfl (Nat.le_trans HO.out (by decide)) hbr.size ?_;intro v' w1 hown1 hbel1)
     go_roundw
     case rel=>exact⟨k+1,_,HK1.out,by go_num,hown1,by simp[HOL.out],HST.out,hbr.trans (hbel1.mono (Nat.le_refl _))⟩
     case measure=>simp[intOf];omega
    ·have hg:a.getD (q+(k+1)) 0=0:=zhi _ _ (by omega)
     have hST:=hSTx 0 _ rfl
     rw[Nat.zero_mul,Nat.zero_add]at hST
     have HZC:=zH (zxn a[q+k] s)
     have HST:Hid (2^s*val (o++ [a[q+k]/2^s%4294967296])+(a.getD q 0)%2^s=val ((a.drop q).take (k+1))+pw (k+1)*((a.getD (q+(k+1)) 0)%2^s)):=zH (by rw[hg];exact hST)
     clear hST hSTx hV1 hX HV hg
     generalize a[q+k]=e at *
     go_wp2_with (at_builtin;refine hA1 wr rfl _ _ rfl w.heap.size _ u5 o rfl (by exact hownr) _ (e/2^s%4294967296) HZC.out (Nat.mod_lt _ (by decide)) rfl (Nat.le_trans HO.out (by decide)) hbr.size ?_;intro v' w1 hown1 hbel1)
     go_roundw
     case rel=>exact⟨k+1,_,HK1.out,by go_num,hown1,by simp[HOL.out],HST.out,hbr.trans (hbel1.mono (Nat.le_refl _))⟩
     case measure=>simp[intOf];omega
   ·have hkl:q+k=a.length:=by omega
    have hv2:val o=val (a.drop q)/2^s:=by
     have h:=HV.out
     rw[zhi a (q+k) (by omega),Nat.zero_mod,Nat.mul_zero,Nat.add_zero,List.take_of_length_le (by rw[List.length_drop];omega)]at h
     exact down_end HP0.out (Nat.mod_lt _ HP0.out) h
    have HT:=zra _ _ wr (zob.of_eq (hownr.nat.natN (by have:=HO.out;omega)) (HFIN.out _ hv2))
    have HT2:=zH HT
    clear HT hv2 hkl
    go_wp2_with (go_at_call 106;refine HT2.out.mono ?_;rintro e w2 ⟨r,rfl,hr,hb⟩)
    go_ret
    exact⟨r,rfl,hr,hbr.trans (hb.mono hbr.size)⟩
set_option maxHeartbeats 1600000
theorem rcmp_lt (va vb:Value) (m n:Nat) (w:World) (ha:zob w va m) (hb:zob w vb n) (h:m<n):
 Calls Tryz.prog 77 #[va,vb] w fun e w'=>(∃c:Int,e= .returned (.int .i64 c)∧decide (c<0)=true)∧Below w.heap.size w w':=
 (zee va vb m n w ha hb).mono fun _ _ ⟨a,b⟩=>⟨⟨_,a,by rw[zkg h];rfl⟩,b⟩
theorem rcmp_ge (va vb:Value) (m n:Nat) (w:World) (ha:zob w va m) (hb:zob w vb n) (h:n≤m):
 Calls Tryz.prog 77 #[va,vb] w fun e w'=>(∃c:Int,e= .returned (.int .i64 c)∧decide (c<0)=false)∧Below w.heap.size w w':=
 (zee va vb m n w ha hb).mono fun _ _ ⟨a,b⟩=>⟨⟨_,a,by unfold zfj;rw[if_neg (by omega)];split<;>rfl⟩,b⟩
set_option maxRecDepth 100000 in
theorem rdivide_less (va vb:Value) (m n:Nat) (w:World) (ha:zjb w va m) (hb:zjb w vb n) (h:m<n):
 Calls Tryz.prog 196 #[va,vb] w (RDiv w m n):=by
 have HQ:=zH (Nat.div_eq_of_lt h)
 have HR:=zH (Nat.mod_eq_of_lt h)
 go_enter Tryz.func196,Tryz.ntmps196
 go_wp2_with (first
  |(go_at_call 77;refine(rcmp_lt va vb m n _ ha.nat hb.nat h).mono ?_;rintro e w1 ⟨⟨c,rfl,hc⟩,hb1⟩;have ha1:=ha.nat.below hb1)
  |(go_at_call 106;refine(zra va m _ ha1).mono ?_;rintro e w' ⟨r,rfl,hr,hbl⟩))
 go_ret2
 exact⟨_,r,rfl,by rw[HQ.out];exact zjb.nil _,by rw[HR.out];exact hr,zaa hb1 hbl⟩
set_option maxRecDepth 100000 in
theorem zfn (va vb:Value) (m d:Nat) (w:World) (ha:zjb w va m) (hb:zjb w vb d) (h:d≤m) (hn:zda d=1) (hm:zda m≤512):
 Calls Tryz.prog 196 #[va,vb] w (RDiv w m d):=by
 have h1:d<4294967296:=by have:=zzb.1 (Nat.le_of_eq hn);simpa [pw]using this
 have h0:0<d:=Nat.pos_of_ne_zero fun e=>by rw[e,zzc]at hn;omega
 have hl:zla d= [d]:=by rw[zxd (by omega),Nat.mod_eq_of_lt h1,Nat.div_eq_of_lt h1,zbc]
 have HC:=fun(w1:World) (h:Below w.heap.size w w1)=>zH (show w1.cell? (ptr vb 0)=some (.int .u32 d)by
  have:=(hb.v.below h).cell 0 (by rw[hl];simp)
  simpa [hl]using this)
 have sa:=ha.v.sl
 have la:slen va=zda m:=ha.v.len
 have sb:=hb.v.sl
 have lb:slen vb=1:=by rw[hb.v.len,hl];rfl
 have HM:=zH hm
 have hmb:zda m≤4294967296:=by omega
 have hroom:zda m≤35184372088832:=by omega
 obtain⟨i0,hi,hz0,hz1,hz2⟩:=info_parts Tryz.info102
 have hM:=zmd (P:=Tryz.prog) 36 142 i0 Tryz.underlying36 hi hz0 hz1 hz2
 clear hi hz0 hz1 hz2 hl hn hm
 go_enter Tryz.func196,Tryz.ntmps196
 go_wp2_with (first
  |(go_at_call 77;refine(rcmp_ge va vb m d _ ha.nat hb.nat h).mono ?_;rintro e w1 ⟨⟨c,rfl,hc⟩,hb1⟩)
  |(refine hM _ rfl _ _ rfl w.heap.size _ (zda m) rfl rfl rfl hroom hb1.size ?_;intro v w2 hown hb2 hvb))
 have hbw:=hb1.trans (hb2.mono hb1.size)
 clear hM hroom hc
 go_loopw [7,8] (fun u7 u8 wr=>∃ (k r:Nat) (q:List Nat),k≤zda m∧u8= .int .i64 ((k:Int)-1)∧u7= .int .u64 r∧r<d∧zcc wr 142 w.heap.size v q∧q.length=zda m∧
  val ((zla m).drop k)=d*val (q.drop k)+r∧Below w.heap.size w wr) (fun _ u8 _=>(intOf u8+1).toNat)
 case atStart=>exact⟨zda m,0,_,Nat.le_refl _,by simp,rfl,h0,hown,by simp,by rw[List.drop_of_length_le (show zda m≤zda m from Nat.le_refl _),List.drop_of_length_le (by simp)];rfl,hbw⟩
 case round=>
  obtain⟨k,r,q,hk,rfl,rfl,hr,hownr,hol,hval,hbr⟩:=hrel
  have sv:=hownr.nat.sl
  have lv:slen v=zda m:=by rw[hownr.nat.len,hol]
  have HV:=zH hval
  have HOL:=zH hol
  have hcd:=(HC _ hbr).out
  clear hval hol
  by_cases hk0:0<k
  ·obtain⟨j,rfl⟩:∃j,k=j+1:=⟨k-1,by omega⟩
   have hj1:j<(zla m).length:=by show j<zda m;omega
   have hx:=(ha.v.below hbr).cell j hj1
   have hx1:(zla m)[j]'hj1<4294967296:=zrb m _ (List.getElem_mem _)
   have hjq:j<q.length:=by rw[HOL.out];omega
   have hfz:=hownr.frozen j hjq
   have hco:=hownr.nat.cell j hjq
   have HS:=zH (zjm (q:=q) (l:=zla m) (k:=j) (d:=d) (r:=r) hjq (znh (zla m) j hj1) h0 HV.out hr)
   have hcd2:∀u,(wr.setCell (ptr v j) u).cell? (ptr vb 0)=some (.int .u32 d):=fun u=>(HC _ (hbr.trans (hownr.own.set j (by simpa using hjq) u).2)).out
   have HJQ:=zH hjq
   generalize (zla m)[j]'hj1=x at *
   generalize q[j]'hjq=q0 at *
   clear hj1 hjq
   obtain⟨b1,b2,b3⟩:=zgk h1 hr hx1
   have hor:=or_lo r x (by omega) hx1
   generalize r*4294967296+x=t at *
   go_wp2
   have ew:=div_limb t d b1
   have hset:=hownr.set j HJQ.out (t/d) b1
   go_roundw
   case rel=>
    rw[ew]
    exact⟨j,t%d,_,by omega,rfl,rfl,b2,hset.1,by simp[HOL.out],HS.out,hbr.trans hset.2⟩
   case measure=>simp[intOf]
  ·obtain rfl:k=0:=by omega
   have e:=HV.out
   simp only[List.drop_zero]at e
   rw[zha]at e
   have hq:val q=m/d:=by rw[e,Nat.mul_add_div h0,Nat.div_eq_of_lt hr,Nat.add_zero]
   have hrr:r=m%d:=by rw[e,Nat.mul_add_mod,Nat.mod_eq_of_lt hr]
   have HT:=zH (zra v (m/d) wr (zob.of_eq (hownr.nat.natN (by have:=HOL.out;omega)) hq))
   have HMK:=fun w=>zH (zkd r (by omega) w)
   have HR:=zH hrr
   clear hq hrr HV e
   go_wp2_with (first
    |(go_at_call 106;refine HT.out.mono ?_;rintro e w3 ⟨q1,rfl,hq1,hb3⟩)
    |(go_at_call 72;refine(HMK _).out.mono ?_;rintro e w4 ⟨r1,rfl,hr1,hb4⟩))
   go_ret2
   exact⟨q1,r1,rfl,hq1.below hb4,HR.out▸hr1,hbr.trans ((zaa hb3 hb4).mono hbr.size)⟩
end Go.Proofs.YtlpdkbmmbdfoiaaGreat
namespace Go.Proofs.YtlpdkbmmbdfoiaaGreat
theorem nbits_shift (s n:Nat) (h:n≠0):zua (2^s*n)=s+zua n:=by
 have:=nbits_add (a:=0) (k:=s) (t:=n) (Nat.pow_pos (by decide)) h
 rwa[Nat.zero_add]at this
theorem norm2 {n s:Nat} (hn:n≠0) (hs:s=32*zda n-zua n):s<32∧zua n≤32*zda n∧zda (2^s*n)=zda n∧∃t,(zla (2^s*n))[zda n-1]? =some t∧2147483648≤t:=by
 obtain⟨t,h1,h2,h3,h4⟩:=zdi hn
 have h0:zda n≠0:=fun e=>hn (zta.1 e)
 have ht:zua t≤32:=zwb.2 h3
 have ht0:=zld.2 h2
 have hY:2^s*n≠0:=Nat.mul_ne_zero (Nat.ne_of_gt (Nat.pow_pos (by decide))) hn
 obtain⟨u,u1,u2,u3,u4⟩:=zdi hY
 have hu:zua u≤32:=zwb.2 u3
 have hu0:=zld.2 u2
 have hY0:zda (2^s*n)≠0:=fun e=>hY (zta.1 e)
 rw[nbits_shift s n hn]at u4
 have e:zda (2^s*n)=zda n:=by omega
 refine⟨by omega,by omega,e,u,by rw[←e];exact u1,?_⟩
 have h5:zua u=32:=by omega
 have h6:¬u<2^31:=fun h=>by have:=zwb.2 h;omega
 have h7:(2:Nat)^31=2147483648:=by decide
 omega
theorem guess_ge {P a t top Y Q V:Nat} (hV:V=a+P*t) (ha:a<P) (hY:P*top≤Y) (hQ:Q=V/Y) (htop:0<top):Q≤t/top:=by
 rw[Nat.le_div_iff_mul_le htop]
 have hP:0<P:=by omega
 have hY0:0<Y:=Nat.lt_of_lt_of_le (Nat.mul_pos hP htop) hY
 have h1:Q*Y≤V:=by rw[hQ];exact Nat.div_mul_le_self V Y
 have h2:Q*(P*top)≤Q*Y:=Nat.mul_le_mul_left _ hY
 have h3:P*(Q*top)<P*(t+1):=by
  have e:P*(Q*top)=Q*(P*top):=by rw[Nat.mul_left_comm]
  rw[e,Nat.mul_add,Nat.mul_one];omega
 have:=Nat.lt_of_mul_lt_mul_left h3
 omega
theorem top_le {l:List Nat} {N:Nat} (h:l.length=N) (hN:0<N):pw (N-1)*l[N-1]≤val l:=by
 have e:=zag l (N-1) (by omega)
 rw[e]
 have:=Nat.zero_le (val (l.take (N-1)))
 have:=Nat.zero_le (pw (N-1+1)*val (l.drop (N-1+1)))
 omega
theorem window_top {p:List Nat} {N:Nat} (h:p.length=N+1) (hN:0<N) (hp:Lm p):val p=val (p.take (N-1))+pw (N-1)*(p[N]'(by omega)*4294967296+p[N-1]'(by omega))∧val (p.take (N-1))<pw (N-1):=by
 constructor
 ·have e1:=zia p (N-1) (by omega)
  have e2:=zia p N (by omega)
  rw[List.take_of_length_le (by omega)]at e2
  rw[show N-1+1=N from by omega]at e1
  have e3:pw N=4294967296*pw (N-1):=by rw[←zmb];congr 1;omega
  rw[e2,e1,e3]
  generalize p[N]'(by omega)=x
  generalize p[N-1]'(by omega)=y
  grind
 ·have:=zoe (show Lm (p.take (N-1))from fun x hx=>hp x (List.mem_of_mem_take hx))
  rwa[List.length_take,Nat.min_eq_left (by omega)]at this
theorem guess_gt {Y g V Q:Nat} (hY:0<Y) (hQ:Q=V/Y):V<Y*g↔Q<g:=by
 subst hQ
 rw[Nat.mul_comm,←Nat.div_lt_iff_lt_mul hY]
theorem zlh {p R:List Nat} {j z:Nat} (hj:j<p.length) (hz:z=R.getD j 0) (hR:val (R.take (j+1))=val (R.take j)+pw j*R.getD j 0) (hv:val (p.take j)=val (R.take j)):
 val ((p.set j z).take (j+1))=val (R.take (j+1)):=by
 rw[zkb p j z hj,hv,hR,hz]
end Go.Proofs.YtlpdkbmmbdfoiaaGreat
