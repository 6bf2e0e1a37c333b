/-
  Weights of lists of fractions: what the walks of weight functions share.
-/
import Derived.Test.YtlpdkbmmbdfoiaaGreatHGn
import Derived.Test.YtlpdkbmmbdfoiaaGreatHRb8
set_option linter.unusedVariables false
set_option linter.unusedSimpArgs false
namespace Go.Proofs.YtlpdkbmmbdfoiaaGreat
set_option maxHeartbeats 1600000
open Go.RowKit
theorem fq_scale2 (s:Bool) {n d k:Nat} (hk:k≠0):fq s (n*k) (d*k)=fq s n d:=by
 unfold fq
 have e:sgn s (n*k)=sgn s n*k:=by unfold sgn;split<;>simp[Int.neg_mul]
 rw[e]
 exact Rat.mkRat_mul_right hk
theorem fq_ne (s:Bool) {n d:Nat} (hn:n≠0) (hd:d≠0):fq s n d≠0:=fun h=>by
 unfold fq at h
 have:=(Rat.mkRat_eq_zero hd).1 h
 have h2:=zog s n
 rw[this]at h2
 exact hn h2.symm
theorem fq_quo (s t:Bool) {n d m e:Nat} (hm:m≠0) (he:e≠0):fq s n d/fq t m e=fq (s != t) (n*e) (d*m):=by
 have h1:fq s n d=fq (s != t) (n*e) (d*m)*fq t m e:=by
  rw[fq_mul,←fq_scale2 s (n:=n) (d:=d) (Nat.mul_ne_zero he hm)]
  congr 1
  ·cases s<;>cases t<;>rfl
  ·rw[Nat.mul_assoc]
  ·rw[Nat.mul_assoc,Nat.mul_comm e m]
 rw[h1,Rat.mul_div_cancel (fq_ne t hm he)]
theorem fq_sub (s t:Bool) (n d m e:Nat) (he:e≠0):fq s n d-fq t m e=fq s n d+fq (!t) m e:=by
 rw[Rat.sub_eq_add_neg]
 congr 1
 unfold fq
 rw[Rat.neg_mkRat]
 congr 1
 unfold sgn
 cases t<;>simp
theorem zob.over {w:World} {v:Value} {n:Nat} (h:zob w v n) {p:Addr} {x:Value} (hp:w.cell? p=some x) (hx:∀z,x≠ .int .u32 z) (u:Value):zob (w.setCell p u) v n:=by
 obtain⟨l,h1,h2⟩:=h;exact⟨l,h1.over hp hx u,h2⟩
theorem zob.set3 {w:World} {v:Value} {n:Nat} {b:Nat} {s:Bool} {x y:Value} (h:zob w v n) (hc:C3 w b (.bool s) x y) (hx:∀z,x≠ .int .u32 z) (hy:∀z,y≠ .int .u32 z) (u0 u1 u2:Value):
 zob (((w.setCell ⟨b,0,none⟩ u0).setCell ⟨b,1,none⟩ u1).setCell ⟨b,2,none⟩ u2) v n:=by
 obtain⟨l,h1,h2⟩:=h;exact⟨l,h1.set3 hc (fun z=>by simp) hx hy u0 u1 u2,h2⟩
theorem fminus_any (va:Value) (s:Bool) (n d:Nat) (w:World) (ha:zdc w va s n d):
 Calls Tryz.prog 202 #[va] w fun e w'=>∃v,e= .returned v∧zdc w' v (!s) n d∧Below w.heap.size w w':=by
 obtain⟨xn,xd,rfl,hxn,hxd⟩:=ha
 obtain⟨an,ln,kn,rfl,_⟩:=hxn.slen.1
 obtain⟨ad,ld,kd,rfl,_⟩:=hxd.slen.1
 obtain⟨bx,bz,hbw⟩:=zcf w 38 (.bool s) (.slice an ln kn) (.slice ad ld kd) (.bool false) (.slice none 0 0) (.slice none 0 0) _ rfl
 have hxn2:=(hxn.below hbw).over bx.c0 (fun z=>by simp) (.bool (!s))
 have hxd2:=(hxd.below hbw).over bx.c0 (fun z=>by simp) (.bool (!s))
 have hZ2:=bz.other ⟨w.heap.size,0,none⟩ (.bool (!s)) (by simp)
 have hbs:=hbw.setCell (p:=⟨w.heap.size,0,none⟩) (Nat.le_refl _) (.bool (!s))
 have HF:=zH (And.intro (And.intro hxn2 hxd2) (And.intro hZ2 hbs))
 obtain⟨_,x0,x1,x2,f0,f1,f2⟩:=bx
 obtain⟨_,z0,z1,z2,g0,g1,g2⟩:=bz
 clear hxn2 hxd2 hZ2 hbs hxn hxd hbw
 go_enter Tryz.func202,Tryz.ntmps202
 go_upto_region 1 with fail
 generalize (w.alloc (.cells #[.bool s, .slice an ln kn, .slice ad ld kd] 38)).alloc (.cells #[.bool false, .slice none 0 0, .slice none 0 0] 38)=W at *
 go_wp2_with fail
 refine zab rfl rfl Tryz.aggF Tryz.sizeF (HF.out.2.1.set _ _ _) rfl ?_
 exact⟨_,rfl,⟨_,_,rfl,HF.out.1.1.set3 HF.out.2.1 (fun z=>by simp) (fun z=>by simp) _ _ _,HF.out.1.2.set3 HF.out.2.1 (fun z=>by simp) (fun z=>by simp) _ _ _⟩,zga HF.out.2.2 (by omega) _ _ _⟩
set_option maxRecDepth 100000 in
theorem mul_frac (va vb:Value) (s t:Bool) (n d m e:Nat) (w:World) (ha:zdc w va s n d) (hb:zdc w vb t m e) (h1:okN n d) (h2:okN m e):
 Calls Tryz.prog 131 #[va,vb] w (zmi w (fq s n d*fq t m e)):=by
 have hA:=ha
 have hB:=hb
 obtain⟨xn,xd,rfl,hxn,hxd⟩:=ha
 obtain⟨yn,yd,rfl,hyn,hyd⟩:=hb
 obtain⟨an,ln,kn,rfl,_⟩:=hxn.slen.1
 obtain⟨ad,ld,kd,rfl,_⟩:=hxd.slen.1
 obtain⟨am,lm,km,rfl,_⟩:=hyn.slen.1
 obtain⟨ae,le,ke,rfl,_⟩:=hyd.slen.1
 have HQ:=zH (fq_mul s t n d m e)
 have K1:=zH h1
 have K2:=zH h2
 clear h1 h2
 go_enter Tryz.func131,Tryz.ntmps131
 go_wp2_with fail
 obtain⟨W,hW⟩:∃W,W=(((w.alloc (.cells #[.bool s, .slice an ln kn, .slice ad ld kd] 38)).alloc (.cells #[.bool t, .slice am lm km, .slice ae le ke] 38)).alloc (.cells #[.bool false, .slice none 0 0, .slice none 0 0] 38)):=⟨_,rfl⟩
 obtain⟨bx,byy,bz,hbw⟩:=zmc w 38 _ _ _ _ _ _ _ _ _ W hW
 rw[←hW]
 clear hW
 have HBX:=zH bx
 have HBY:=zH byy
 have HBZ:=zH bz
 obtain⟨_,q1,q2,q3,q4,q5,q6⟩:=bx
 obtain⟨_,r1,r2,r3,r4,r5,r6⟩:=byy
 go_wp2_with (first
  |(go_at_call 79;first
    |((with_reducible refine(zrd _ s n d _ (hA.below hbw) K1.out).mono ?_);rintro e9 w1 ⟨rfl,hv1⟩
      obtain⟨_,f1,f2,f3,f4,f5,f6⟩:=HBY.out.belowS hv1
      have hbw1:=hbw.trans (hv1.mono hbw.size))
    |((with_reducible refine(zrd _ t m e _ (hB.below hbw1) K2.out).mono ?_);rintro e9 w2 ⟨rfl,hv2⟩
      have hbx2:=(HBX.out.belowS hv1).belowS hv2
      have hby2:=(HBY.out.belowS hv1).belowS hv2
      have hbz2:=(HBZ.out.belowS hv1).belowS hv2
      have hbw2:=hbw1.trans (hv2.mono hbw1.size))))
 clear q1 q2 q3 q4 q5 q6 r1 r2 r3 r4 r5 r6 f1 f2 f3 f4 f5 f6
 have hd2:=zja (B:=w2.heap.size) w2
 have hD:=hbw2.trans (hd2.mono hbw2.size)
 have hbx3:=hbx2.belowS hd2
 have hby3:=hby2.belowS hd2
 have hbz3:=hbz2.belowS hd2
 have HX3:=zH hbx3
 have HY3:=zH hby3
 have HZ3:=zH hbz3
 clear hbx2 hby2 hbz2 hbw2 hv1 hv2 hbw hbw1 HBX HBY HBZ bz hd2
 obtain⟨_,q1,q2,q3,q4,q5,q6⟩:=hbx3
 obtain⟨_,r1,r2,r3,r4,r5,r6⟩:=hby3
 obtain⟨_,z1,z2,z3,z4,z5,z6⟩:=hbz3
 have g1:=hxn.below hD
 have g2:=hxd.below hD
 have g3:=hyn.below hD
 have g4:=hyd.below hD
 have l1:=zH (zrc K1.out)
 have l2:=zH (zrc K2.out)
 have T1:=zH (Nat.le_trans l1.out.1 (show 128≤256 by decide))
 have T2:=zH (Nat.le_trans l2.out.2 (show 128≤256 by decide))
 have T3:=zH (Nat.le_trans l2.out.1 (show 128≤256 by decide))
 have T4:=zH (Nat.le_trans l1.out.2 (show 128≤256 by decide))
 have N1:=zH (Nat.le_trans (zsd l1.out.1 l2.out.1) (show 128+128≤512 by decide))
 have N2:=zH (Nat.le_trans (zsd l1.out.2 l2.out.2) (show 128+128≤512 by decide))
 have HDE:Hid (d*e≠0):=zH (Nat.mul_ne_zero K1.out.1 K2.out.1)
 have tok1:True:=trivial
 rcases s with _ | _<;>rcases t with _ | _
 ·go_region_held3 (fun w'=>w'.cell? ⟨w.heap.size,0,none⟩=some (.bool false)∧w'.cell? ⟨w.heap.size,1,none⟩=some (.slice an ln kn)∧w'.cell? ⟨w.heap.size,2,none⟩=some (.slice ad ld kd)∧w'.cell? ⟨w.heap.size+1,0,none⟩=some (.bool false)∧w'.cell? ⟨w.heap.size+1,1,none⟩=some (.slice am lm km)∧w'.cell? ⟨w.heap.size+1,2,none⟩=some (.slice ae le ke)) (first | with_reducible exact⟨q1,q2,q3,r1,r2,r3⟩ | (refine⟨?_,?_,?_,?_,?_,?_⟩<;>go_simp)) (first
   |(go_at_call 157;have _t:=tok1;clear tok1 _t;(with_reducible refine(zgb _ _ n m _ g1 g3 T1.out T3.out).mono ?_);rintro e9 w3 ⟨p1,rfl,hp1,hp2⟩
     have X4:=HX3.out.belowS hp2
     have Y4:=HY3.out.belowS hp2
     have HX4:=zH X4
     have HY4:=zH Y4
     obtain⟨_,q1,q2,q3,q4,q5,q6⟩:=X4
     obtain⟨_,r1,r2,r3,r4,r5,r6⟩:=Y4)
   |(go_at_call 157;(with_reducible refine(zgb _ _ d e _ (g2.below hp2) (g4.below hp2) T4.out T2.out).mono ?_);rintro e9 w4 ⟨p3,rfl,hp3,hp4⟩
     have hp24:=zaa hp2 hp4
     have hp14:=hp1.below hp4
     have X5:=HX4.out.belowS hp4
     have Y5:=HY4.out.belowS hp4
     have HX5:=zH X5
     have HY5:=zH Y5
     obtain⟨_,q1,q2,q3,q4,q5,q6⟩:=X5
     obtain⟨_,r1,r2,r3,r4,r5,r6⟩:=Y5)
   |(go_at_call 142;(with_reducible refine(zub _ p1 p3 (n*m) (d*e) _ hp14.nat hp3.nat HDE.out N1.out N2.out).mono ?_);rintro e9 w5 ⟨v,er,rfl,hv1,hv2,hv3⟩
     obtain⟨t9,x9,y9,rfl,⟨a1,l91,k1,rfl,_⟩,⟨a2,l92,k2,rfl,_⟩⟩:=zpb (w0:=w) hv2 hv3
     have hp26:=zaa hp24 hv1
     have X6:=HX5.out.belowS hv1
     have Y6:=HY5.out.belowS hv1
     have Z6:=HZ3.out.belowS hp26
     have HZ6:=zH Z6
     obtain⟨_,q1,q2,q3,q4,q5,q6⟩:=X6
     obtain⟨_,r1,r2,r3,r4,r5,r6⟩:=Y6
     obtain⟨_,z1,z2,z3,z4,z5,z6⟩:=Z6))
  all_goals
   go_wp2_with fail
   refine zoa rfl rfl Tryz.aggF Tryz.sizeF (HZ6.out.set _ _ _) rfl ?_
   rw[HQ.out]
   exact⟨_,_,rfl,zga (hD.trans (hp26.mono hD.size)) (by omega) _ _ _,fun h=>⟨(hv2 h).1,(hv2 h).2.set3 HZ6.out (fun z=>by simp) (fun z=>by simp) _ _ _⟩,hv3⟩
 ·go_region_held3 (fun w'=>w'.cell? ⟨w.heap.size,0,none⟩=some (.bool false)∧w'.cell? ⟨w.heap.size,1,none⟩=some (.slice an ln kn)∧w'.cell? ⟨w.heap.size,2,none⟩=some (.slice ad ld kd)∧w'.cell? ⟨w.heap.size+1,0,none⟩=some (.bool true)∧w'.cell? ⟨w.heap.size+1,1,none⟩=some (.slice am lm km)∧w'.cell? ⟨w.heap.size+1,2,none⟩=some (.slice ae le ke)) (first | with_reducible exact⟨q1,q2,q3,r1,r2,r3⟩ | (refine⟨?_,?_,?_,?_,?_,?_⟩<;>go_simp)) (first
   |(go_at_call 157;have _t:=tok1;clear tok1 _t;(with_reducible refine(zgb _ _ n m _ g1 g3 T1.out T3.out).mono ?_);rintro e9 w3 ⟨p1,rfl,hp1,hp2⟩
     have X4:=HX3.out.belowS hp2
     have Y4:=HY3.out.belowS hp2
     have HX4:=zH X4
     have HY4:=zH Y4
     obtain⟨_,q1,q2,q3,q4,q5,q6⟩:=X4
     obtain⟨_,r1,r2,r3,r4,r5,r6⟩:=Y4)
   |(go_at_call 157;(with_reducible refine(zgb _ _ d e _ (g2.below hp2) (g4.below hp2) T4.out T2.out).mono ?_);rintro e9 w4 ⟨p3,rfl,hp3,hp4⟩
     have hp24:=zaa hp2 hp4
     have hp14:=hp1.below hp4
     have X5:=HX4.out.belowS hp4
     have Y5:=HY4.out.belowS hp4
     have HX5:=zH X5
     have HY5:=zH Y5
     obtain⟨_,q1,q2,q3,q4,q5,q6⟩:=X5
     obtain⟨_,r1,r2,r3,r4,r5,r6⟩:=Y5)
   |(go_at_call 142;(with_reducible refine(zub _ p1 p3 (n*m) (d*e) _ hp14.nat hp3.nat HDE.out N1.out N2.out).mono ?_);rintro e9 w5 ⟨v,er,rfl,hv1,hv2,hv3⟩
     obtain⟨t9,x9,y9,rfl,⟨a1,l91,k1,rfl,_⟩,⟨a2,l92,k2,rfl,_⟩⟩:=zpb (w0:=w) hv2 hv3
     have hp26:=zaa hp24 hv1
     have X6:=HX5.out.belowS hv1
     have Y6:=HY5.out.belowS hv1
     have Z6:=HZ3.out.belowS hp26
     have HZ6:=zH Z6
     obtain⟨_,q1,q2,q3,q4,q5,q6⟩:=X6
     obtain⟨_,r1,r2,r3,r4,r5,r6⟩:=Y6
     obtain⟨_,z1,z2,z3,z4,z5,z6⟩:=Z6))
  all_goals
   go_wp2_with fail
   refine zoa rfl rfl Tryz.aggF Tryz.sizeF (HZ6.out.set _ _ _) rfl ?_
   rw[HQ.out]
   exact⟨_,_,rfl,zga (hD.trans (hp26.mono hD.size)) (by omega) _ _ _,fun h=>⟨(hv2 h).1,(hv2 h).2.set3 HZ6.out (fun z=>by simp) (fun z=>by simp) _ _ _⟩,hv3⟩
 ·go_region_held3 (fun w'=>w'.cell? ⟨w.heap.size,0,none⟩=some (.bool true)∧w'.cell? ⟨w.heap.size,1,none⟩=some (.slice an ln kn)∧w'.cell? ⟨w.heap.size,2,none⟩=some (.slice ad ld kd)∧w'.cell? ⟨w.heap.size+1,0,none⟩=some (.bool false)∧w'.cell? ⟨w.heap.size+1,1,none⟩=some (.slice am lm km)∧w'.cell? ⟨w.heap.size+1,2,none⟩=some (.slice ae le ke)) (first | with_reducible exact⟨q1,q2,q3,r1,r2,r3⟩ | (refine⟨?_,?_,?_,?_,?_,?_⟩<;>go_simp)) (first
   |(go_at_call 157;have _t:=tok1;clear tok1 _t;(with_reducible refine(zgb _ _ n m _ g1 g3 T1.out T3.out).mono ?_);rintro e9 w3 ⟨p1,rfl,hp1,hp2⟩
     have X4:=HX3.out.belowS hp2
     have Y4:=HY3.out.belowS hp2
     have HX4:=zH X4
     have HY4:=zH Y4
     obtain⟨_,q1,q2,q3,q4,q5,q6⟩:=X4
     obtain⟨_,r1,r2,r3,r4,r5,r6⟩:=Y4)
   |(go_at_call 157;(with_reducible refine(zgb _ _ d e _ (g2.below hp2) (g4.below hp2) T4.out T2.out).mono ?_);rintro e9 w4 ⟨p3,rfl,hp3,hp4⟩
     have hp24:=zaa hp2 hp4
     have hp14:=hp1.below hp4
     have X5:=HX4.out.belowS hp4
     have Y5:=HY4.out.belowS hp4
     have HX5:=zH X5
     have HY5:=zH Y5
     obtain⟨_,q1,q2,q3,q4,q5,q6⟩:=X5
     obtain⟨_,r1,r2,r3,r4,r5,r6⟩:=Y5)
   |(go_at_call 142;(with_reducible refine(zub _ p1 p3 (n*m) (d*e) _ hp14.nat hp3.nat HDE.out N1.out N2.out).mono ?_);rintro e9 w5 ⟨v,er,rfl,hv1,hv2,hv3⟩
     obtain⟨t9,x9,y9,rfl,⟨a1,l91,k1,rfl,_⟩,⟨a2,l92,k2,rfl,_⟩⟩:=zpb (w0:=w) hv2 hv3
     have hp26:=zaa hp24 hv1
     have X6:=HX5.out.belowS hv1
     have Y6:=HY5.out.belowS hv1
     have Z6:=HZ3.out.belowS hp26
     have HZ6:=zH Z6
     obtain⟨_,q1,q2,q3,q4,q5,q6⟩:=X6
     obtain⟨_,r1,r2,r3,r4,r5,r6⟩:=Y6
     obtain⟨_,z1,z2,z3,z4,z5,z6⟩:=Z6))
  all_goals
   go_wp2_with fail
   refine zoa rfl rfl Tryz.aggF Tryz.sizeF (HZ6.out.set _ _ _) rfl ?_
   rw[HQ.out]
   exact⟨_,_,rfl,zga (hD.trans (hp26.mono hD.size)) (by omega) _ _ _,fun h=>⟨(hv2 h).1,(hv2 h).2.set3 HZ6.out (fun z=>by simp) (fun z=>by simp) _ _ _⟩,hv3⟩
 ·go_region_held3 (fun w'=>w'.cell? ⟨w.heap.size,0,none⟩=some (.bool true)∧w'.cell? ⟨w.heap.size,1,none⟩=some (.slice an ln kn)∧w'.cell? ⟨w.heap.size,2,none⟩=some (.slice ad ld kd)∧w'.cell? ⟨w.heap.size+1,0,none⟩=some (.bool true)∧w'.cell? ⟨w.heap.size+1,1,none⟩=some (.slice am lm km)∧w'.cell? ⟨w.heap.size+1,2,none⟩=some (.slice ae le ke)) (first | with_reducible exact⟨q1,q2,q3,r1,r2,r3⟩ | (refine⟨?_,?_,?_,?_,?_,?_⟩<;>go_simp)) (first
   |(go_at_call 157;have _t:=tok1;clear tok1 _t;(with_reducible refine(zgb _ _ n m _ g1 g3 T1.out T3.out).mono ?_);rintro e9 w3 ⟨p1,rfl,hp1,hp2⟩
     have X4:=HX3.out.belowS hp2
     have Y4:=HY3.out.belowS hp2
     have HX4:=zH X4
     have HY4:=zH Y4
     obtain⟨_,q1,q2,q3,q4,q5,q6⟩:=X4
     obtain⟨_,r1,r2,r3,r4,r5,r6⟩:=Y4)
   |(go_at_call 157;(with_reducible refine(zgb _ _ d e _ (g2.below hp2) (g4.below hp2) T4.out T2.out).mono ?_);rintro e9 w4 ⟨p3,rfl,hp3,hp4⟩
     have hp24:=zaa hp2 hp4
     have hp14:=hp1.below hp4
     have X5:=HX4.out.belowS hp4
     have Y5:=HY4.out.belowS hp4
     have HX5:=zH X5
     have HY5:=zH Y5
     obtain⟨_,q1,q2,q3,q4,q5,q6⟩:=X5
     obtain⟨_,r1,r2,r3,r4,r5,r6⟩:=Y5)
   |(go_at_call 142;(with_reducible refine(zub _ p1 p3 (n*m) (d*e) _ hp14.nat hp3.nat HDE.out N1.out N2.out).mono ?_);rintro e9 w5 ⟨v,er,rfl,hv1,hv2,hv3⟩
     obtain⟨t9,x9,y9,rfl,⟨a1,l91,k1,rfl,_⟩,⟨a2,l92,k2,rfl,_⟩⟩:=zpb (w0:=w) hv2 hv3
     have hp26:=zaa hp24 hv1
     have X6:=HX5.out.belowS hv1
     have Y6:=HY5.out.belowS hv1
     have Z6:=HZ3.out.belowS hp26
     have HZ6:=zH Z6
     obtain⟨_,q1,q2,q3,q4,q5,q6⟩:=X6
     obtain⟨_,r1,r2,r3,r4,r5,r6⟩:=Y6
     obtain⟨_,z1,z2,z3,z4,z5,z6⟩:=Z6))
  all_goals
   go_wp2_with fail
   refine zoa rfl rfl Tryz.aggF Tryz.sizeF (HZ6.out.set _ _ _) rfl ?_
   rw[HQ.out]
   exact⟨_,_,rfl,zga (hD.trans (hp26.mono hD.size)) (by omega) _ _ _,fun h=>⟨(hv2 h).1,(hv2 h).2.set3 HZ6.out (fun z=>by simp) (fun z=>by simp) _ _ _⟩,hv3⟩
set_option maxRecDepth 100000 in
theorem quo_frac (va vb:Value) (s t:Bool) (n d m e:Nat) (w:World) (ha:zdc w va s n d) (hb:zdc w vb t m e) (h1:okN n d) (h2:okN m e) (hm:m≠0):
 Calls Tryz.prog 161 #[va,vb] w (zmi w (fq s n d/fq t m e)):=by
 have hA:=ha
 have hB:=hb
 obtain⟨xn,xd,rfl,hxn,hxd⟩:=ha
 obtain⟨yn,yd,rfl,hyn,hyd⟩:=hb
 obtain⟨an,ln,kn,rfl,_⟩:=hxn.slen.1
 obtain⟨ad,ld,kd,rfl,_⟩:=hxd.slen.1
 obtain⟨am,lm,km,rfl,_⟩:=hyn.slen.1
 obtain⟨ae,le,ke,rfl,_⟩:=hyd.slen.1
 have HQ:=zH (fq_quo s t (n:=n) (d:=d) (m:=m) (e:=e) hm h2.1)
 have K1:=zH h1
 have K2:=zH h2
 have HM:=zH hm
 clear h1 h2
 go_enter Tryz.func161,Tryz.ntmps161
 go_wp2_with fail
 obtain⟨W,hW⟩:∃W,W=(((w.alloc (.cells #[.bool s, .slice an ln kn, .slice ad ld kd] 38)).alloc (.cells #[.bool t, .slice am lm km, .slice ae le ke] 38)).alloc (.cells #[.bool false, .slice none 0 0, .slice none 0 0] 38)):=⟨_,rfl⟩
 obtain⟨bx,byy,bz,hbw⟩:=zmc w 38 _ _ _ _ _ _ _ _ _ W hW
 rw[←hW]
 clear hW
 have HBX:=zH bx
 have HBY:=zH byy
 have HBZ:=zH bz
 obtain⟨_,q1,q2,q3,q4,q5,q6⟩:=bx
 obtain⟨_,r1,r2,r3,r4,r5,r6⟩:=byy
 go_wp2_with (first
  |(go_at_call 79;first
    |((with_reducible refine(zrd _ s n d _ (hA.below hbw) K1.out).mono ?_);rintro e9 w1 ⟨rfl,hv1⟩
      obtain⟨_,f1,f2,f3,f4,f5,f6⟩:=HBY.out.belowS hv1
      have hbw1:=hbw.trans (hv1.mono hbw.size))
    |((with_reducible refine(zrd _ t m e _ (hB.below hbw1) K2.out).mono ?_);rintro e9 w2 ⟨rfl,hv2⟩
      have hbx2:=(HBX.out.belowS hv1).belowS hv2
      have hby2:=(HBY.out.belowS hv1).belowS hv2
      have hbz2:=(HBZ.out.belowS hv1).belowS hv2
      have hbw2:=hbw1.trans (hv2.mono hbw1.size)
      clear f1 f2 f3 f4 f5 f6
      obtain⟨_,f1,f2,f3,f4,f5,f6⟩:=id hby2))
  |(go_at_call 186;(with_reducible refine(zih _ t m e _ (hB.below hbw2)).mono ?_);rw[decide_eq_false HM.out];rintro e9 w2z ⟨rfl,hvz⟩
    have hbx2:=hbx2.belowS hvz
    have hby2:=hby2.belowS hvz
    have hbz2:=hbz2.belowS hvz
    have hbw2:=hbw2.trans (hvz.mono hbw2.size)))
 clear q1 q2 q3 q4 q5 q6 r1 r2 r3 r4 r5 r6 f1 f2 f3 f4 f5 f6 hvz
 have hd2:=zja (B:=w2z.heap.size) w2z
 have hD:=hbw2.trans (hd2.mono hbw2.size)
 have hbx3:=hbx2.belowS hd2
 have hby3:=hby2.belowS hd2
 have hbz3:=hbz2.belowS hd2
 have HX3:=zH hbx3
 have HY3:=zH hby3
 have HZ3:=zH hbz3
 clear hbx2 hby2 hbz2 hbw2 hv1 hv2 hbw hbw1 HBX HBY HBZ bz hd2
 obtain⟨_,q1,q2,q3,q4,q5,q6⟩:=hbx3
 obtain⟨_,r1,r2,r3,r4,r5,r6⟩:=hby3
 obtain⟨_,z1,z2,z3,z4,z5,z6⟩:=hbz3
 have g1:=hxn.below hD
 have g2:=hxd.below hD
 have g3:=hyn.below hD
 have g4:=hyd.below hD
 have l1:=zH (zrc K1.out)
 have l2:=zH (zrc K2.out)
 have T1:=zH (Nat.le_trans l1.out.1 (show 128≤256 by decide))
 have T2:=zH (Nat.le_trans l2.out.2 (show 128≤256 by decide))
 have T3:=zH (Nat.le_trans l2.out.1 (show 128≤256 by decide))
 have T4:=zH (Nat.le_trans l1.out.2 (show 128≤256 by decide))
 have N1:=zH (Nat.le_trans (zsd l1.out.1 l2.out.2) (show 128+128≤512 by decide))
 have N2:=zH (Nat.le_trans (zsd l1.out.2 l2.out.1) (show 128+128≤512 by decide))
 have HDE:Hid (d*m≠0):=zH (Nat.mul_ne_zero K1.out.1 HM.out)
 have tok1:True:=trivial
 rcases s with _ | _<;>rcases t with _ | _
 ·go_region_held3 (fun w'=>w'.cell? ⟨w.heap.size,0,none⟩=some (.bool false)∧w'.cell? ⟨w.heap.size,1,none⟩=some (.slice an ln kn)∧w'.cell? ⟨w.heap.size,2,none⟩=some (.slice ad ld kd)∧w'.cell? ⟨w.heap.size+1,0,none⟩=some (.bool false)∧w'.cell? ⟨w.heap.size+1,1,none⟩=some (.slice am lm km)∧w'.cell? ⟨w.heap.size+1,2,none⟩=some (.slice ae le ke)) (first | with_reducible exact⟨q1,q2,q3,r1,r2,r3⟩ | (refine⟨?_,?_,?_,?_,?_,?_⟩<;>go_simp)) (first
   |(go_at_call 157;have _t:=tok1;clear tok1 _t;(with_reducible refine(zgb _ _ n e _ g1 g4 T1.out T2.out).mono ?_);rintro e9 w3 ⟨p1,rfl,hp1,hp2⟩
     have X4:=HX3.out.belowS hp2
     have Y4:=HY3.out.belowS hp2
     have HX4:=zH X4
     have HY4:=zH Y4
     obtain⟨_,q1,q2,q3,q4,q5,q6⟩:=X4
     obtain⟨_,r1,r2,r3,r4,r5,r6⟩:=Y4)
   |(go_at_call 157;(with_reducible refine(zgb _ _ d m _ (g2.below hp2) (g3.below hp2) T4.out T3.out).mono ?_);rintro e9 w4 ⟨p3,rfl,hp3,hp4⟩
     have hp24:=zaa hp2 hp4
     have hp14:=hp1.below hp4
     have X5:=HX4.out.belowS hp4
     have Y5:=HY4.out.belowS hp4
     have HX5:=zH X5
     have HY5:=zH Y5
     obtain⟨_,q1,q2,q3,q4,q5,q6⟩:=X5
     obtain⟨_,r1,r2,r3,r4,r5,r6⟩:=Y5)
   |(go_at_call 142;(with_reducible refine(zub _ p1 p3 (n*e) (d*m) _ hp14.nat hp3.nat HDE.out N1.out N2.out).mono ?_);rintro e9 w5 ⟨v,er,rfl,hv1,hv2,hv3⟩
     obtain⟨t9,x9,y9,rfl,⟨a1,l91,k1,rfl,_⟩,⟨a2,l92,k2,rfl,_⟩⟩:=zpb (w0:=w) hv2 hv3
     have hp26:=zaa hp24 hv1
     have X6:=HX5.out.belowS hv1
     have Y6:=HY5.out.belowS hv1
     have Z6:=HZ3.out.belowS hp26
     have HZ6:=zH Z6
     obtain⟨_,q1,q2,q3,q4,q5,q6⟩:=X6
     obtain⟨_,r1,r2,r3,r4,r5,r6⟩:=Y6
     obtain⟨_,z1,z2,z3,z4,z5,z6⟩:=Z6))
  all_goals
   go_wp2_with fail
   refine zoa rfl rfl Tryz.aggF Tryz.sizeF (HZ6.out.set _ _ _) rfl ?_
   rw[HQ.out]
   exact⟨_,_,rfl,zga (hD.trans (hp26.mono hD.size)) (by omega) _ _ _,fun h=>⟨(hv2 h).1,(hv2 h).2.set3 HZ6.out (fun z=>by simp) (fun z=>by simp) _ _ _⟩,hv3⟩
 ·go_region_held3 (fun w'=>w'.cell? ⟨w.heap.size,0,none⟩=some (.bool false)∧w'.cell? ⟨w.heap.size,1,none⟩=some (.slice an ln kn)∧w'.cell? ⟨w.heap.size,2,none⟩=some (.slice ad ld kd)∧w'.cell? ⟨w.heap.size+1,0,none⟩=some (.bool true)∧w'.cell? ⟨w.heap.size+1,1,none⟩=some (.slice am lm km)∧w'.cell? ⟨w.heap.size+1,2,none⟩=some (.slice ae le ke)) (first | with_reducible exact⟨q1,q2,q3,r1,r2,r3⟩ | (refine⟨?_,?_,?_,?_,?_,?_⟩<;>go_simp)) (first
   |(go_at_call 157;have _t:=tok1;clear tok1 _t;(with_reducible refine(zgb _ _ n e _ g1 g4 T1.out T2.out).mono ?_);rintro e9 w3 ⟨p1,rfl,hp1,hp2⟩
     have X4:=HX3.out.belowS hp2
     have Y4:=HY3.out.belowS hp2
     have HX4:=zH X4
     have HY4:=zH Y4
     obtain⟨_,q1,q2,q3,q4,q5,q6⟩:=X4
     obtain⟨_,r1,r2,r3,r4,r5,r6⟩:=Y4)
   |(go_at_call 157;(with_reducible refine(zgb _ _ d m _ (g2.below hp2) (g3.below hp2) T4.out T3.out).mono ?_);rintro e9 w4 ⟨p3,rfl,hp3,hp4⟩
     have hp24:=zaa hp2 hp4
     have hp14:=hp1.below hp4
     have X5:=HX4.out.belowS hp4
     have Y5:=HY4.out.belowS hp4
     have HX5:=zH X5
     have HY5:=zH Y5
     obtain⟨_,q1,q2,q3,q4,q5,q6⟩:=X5
     obtain⟨_,r1,r2,r3,r4,r5,r6⟩:=Y5)
   |(go_at_call 142;(with_reducible refine(zub _ p1 p3 (n*e) (d*m) _ hp14.nat hp3.nat HDE.out N1.out N2.out).mono ?_);rintro e9 w5 ⟨v,er,rfl,hv1,hv2,hv3⟩
     obtain⟨t9,x9,y9,rfl,⟨a1,l91,k1,rfl,_⟩,⟨a2,l92,k2,rfl,_⟩⟩:=zpb (w0:=w) hv2 hv3
     have hp26:=zaa hp24 hv1
     have X6:=HX5.out.belowS hv1
     have Y6:=HY5.out.belowS hv1
     have Z6:=HZ3.out.belowS hp26
     have HZ6:=zH Z6
     obtain⟨_,q1,q2,q3,q4,q5,q6⟩:=X6
     obtain⟨_,r1,r2,r3,r4,r5,r6⟩:=Y6
     obtain⟨_,z1,z2,z3,z4,z5,z6⟩:=Z6))
  all_goals
   go_wp2_with fail
   refine zoa rfl rfl Tryz.aggF Tryz.sizeF (HZ6.out.set _ _ _) rfl ?_
   rw[HQ.out]
   exact⟨_,_,rfl,zga (hD.trans (hp26.mono hD.size)) (by omega) _ _ _,fun h=>⟨(hv2 h).1,(hv2 h).2.set3 HZ6.out (fun z=>by simp) (fun z=>by simp) _ _ _⟩,hv3⟩
 ·go_region_held3 (fun w'=>w'.cell? ⟨w.heap.size,0,none⟩=some (.bool true)∧w'.cell? ⟨w.heap.size,1,none⟩=some (.slice an ln kn)∧w'.cell? ⟨w.heap.size,2,none⟩=some (.slice ad ld kd)∧w'.cell? ⟨w.heap.size+1,0,none⟩=some (.bool false)∧w'.cell? ⟨w.heap.size+1,1,none⟩=some (.slice am lm km)∧w'.cell? ⟨w.heap.size+1,2,none⟩=some (.slice ae le ke)) (first | with_reducible exact⟨q1,q2,q3,r1,r2,r3⟩ | (refine⟨?_,?_,?_,?_,?_,?_⟩<;>go_simp)) (first
   |(go_at_call 157;have _t:=tok1;clear tok1 _t;(with_reducible refine(zgb _ _ n e _ g1 g4 T1.out T2.out).mono ?_);rintro e9 w3 ⟨p1,rfl,hp1,hp2⟩
     have X4:=HX3.out.belowS hp2
     have Y4:=HY3.out.belowS hp2
     have HX4:=zH X4
     have HY4:=zH Y4
     obtain⟨_,q1,q2,q3,q4,q5,q6⟩:=X4
     obtain⟨_,r1,r2,r3,r4,r5,r6⟩:=Y4)
   |(go_at_call 157;(with_reducible refine(zgb _ _ d m _ (g2.below hp2) (g3.below hp2) T4.out T3.out).mono ?_);rintro e9 w4 ⟨p3,rfl,hp3,hp4⟩
     have hp24:=zaa hp2 hp4
     have hp14:=hp1.below hp4
     have X5:=HX4.out.belowS hp4
     have Y5:=HY4.out.belowS hp4
     have HX5:=zH X5
     have HY5:=zH Y5
     obtain⟨_,q1,q2,q3,q4,q5,q6⟩:=X5
     obtain⟨_,r1,r2,r3,r4,r5,r6⟩:=Y5)
   |(go_at_call 142;(with_reducible refine(zub _ p1 p3 (n*e) (d*m) _ hp14.nat hp3.nat HDE.out N1.out N2.out).mono ?_);rintro e9 w5 ⟨v,er,rfl,hv1,hv2,hv3⟩
     obtain⟨t9,x9,y9,rfl,⟨a1,l91,k1,rfl,_⟩,⟨a2,l92,k2,rfl,_⟩⟩:=zpb (w0:=w) hv2 hv3
     have hp26:=zaa hp24 hv1
     have X6:=HX5.out.belowS hv1
     have Y6:=HY5.out.belowS hv1
     have Z6:=HZ3.out.belowS hp26
     have HZ6:=zH Z6
     obtain⟨_,q1,q2,q3,q4,q5,q6⟩:=X6
     obtain⟨_,r1,r2,r3,r4,r5,r6⟩:=Y6
     obtain⟨_,z1,z2,z3,z4,z5,z6⟩:=Z6))
  all_goals
   go_wp2_with fail
   refine zoa rfl rfl Tryz.aggF Tryz.sizeF (HZ6.out.set _ _ _) rfl ?_
   rw[HQ.out]
   exact⟨_,_,rfl,zga (hD.trans (hp26.mono hD.size)) (by omega) _ _ _,fun h=>⟨(hv2 h).1,(hv2 h).2.set3 HZ6.out (fun z=>by simp) (fun z=>by simp) _ _ _⟩,hv3⟩
 ·go_region_held3 (fun w'=>w'.cell? ⟨w.heap.size,0,none⟩=some (.bool true)∧w'.cell? ⟨w.heap.size,1,none⟩=some (.slice an ln kn)∧w'.cell? ⟨w.heap.size,2,none⟩=some (.slice ad ld kd)∧w'.cell? ⟨w.heap.size+1,0,none⟩=some (.bool true)∧w'.cell? ⟨w.heap.size+1,1,none⟩=some (.slice am lm km)∧w'.cell? ⟨w.heap.size+1,2,none⟩=some (.slice ae le ke)) (first | with_reducible exact⟨q1,q2,q3,r1,r2,r3⟩ | (refine⟨?_,?_,?_,?_,?_,?_⟩<;>go_simp)) (first
   |(go_at_call 157;have _t:=tok1;clear tok1 _t;(with_reducible refine(zgb _ _ n e _ g1 g4 T1.out T2.out).mono ?_);rintro e9 w3 ⟨p1,rfl,hp1,hp2⟩
     have X4:=HX3.out.belowS hp2
     have Y4:=HY3.out.belowS hp2
     have HX4:=zH X4
     have HY4:=zH Y4
     obtain⟨_,q1,q2,q3,q4,q5,q6⟩:=X4
     obtain⟨_,r1,r2,r3,r4,r5,r6⟩:=Y4)
   |(go_at_call 157;(with_reducible refine(zgb _ _ d m _ (g2.below hp2) (g3.below hp2) T4.out T3.out).mono ?_);rintro e9 w4 ⟨p3,rfl,hp3,hp4⟩
     have hp24:=zaa hp2 hp4
     have hp14:=hp1.below hp4
     have X5:=HX4.out.belowS hp4
     have Y5:=HY4.out.belowS hp4
     have HX5:=zH X5
     have HY5:=zH Y5
     obtain⟨_,q1,q2,q3,q4,q5,q6⟩:=X5
     obtain⟨_,r1,r2,r3,r4,r5,r6⟩:=Y5)
   |(go_at_call 142;(with_reducible refine(zub _ p1 p3 (n*e) (d*m) _ hp14.nat hp3.nat HDE.out N1.out N2.out).mono ?_);rintro e9 w5 ⟨v,er,rfl,hv1,hv2,hv3⟩
     obtain⟨t9,x9,y9,rfl,⟨a1,l91,k1,rfl,_⟩,⟨a2,l92,k2,rfl,_⟩⟩:=zpb (w0:=w) hv2 hv3
     have hp26:=zaa hp24 hv1
     have X6:=HX5.out.belowS hv1
     have Y6:=HY5.out.belowS hv1
     have Z6:=HZ3.out.belowS hp26
     have HZ6:=zH Z6
     obtain⟨_,q1,q2,q3,q4,q5,q6⟩:=X6
     obtain⟨_,r1,r2,r3,r4,r5,r6⟩:=Y6
     obtain⟨_,z1,z2,z3,z4,z5,z6⟩:=Z6))
  all_goals
   go_wp2_with fail
   refine zoa rfl rfl Tryz.aggF Tryz.sizeF (HZ6.out.set _ _ _) rfl ?_
   rw[HQ.out]
   exact⟨_,_,rfl,zga (hD.trans (hp26.mono hD.size)) (by omega) _ _ _,fun h=>⟨(hv2 h).1,(hv2 h).2.set3 HZ6.out (fun z=>by simp) (fun z=>by simp) _ _ _⟩,hv3⟩
set_option maxHeartbeats 1600000
theorem cmpN_swap (a b:Nat):zfj b a= -zfj a b:=by
 unfold zfj
 rcases Nat.lt_trichotomy a b with h | h | h
 ·rw[if_neg (by omega),if_pos h,if_pos h];rfl
 ·subst h;rw[if_neg (by omega),if_neg (by omega)];rfl
 ·rw[if_pos h,if_neg (by omega),if_pos h]
theorem nlen_prod {n e:Nat} (he:e≠0):(n=0→zda (n*e)=0)∧(n≠0→0<zda (n*e)):=
 ⟨fun h=>zta.2 (by rw[h,Nat.zero_mul]),fun h=>zfg.2 (Nat.mul_ne_zero h he)⟩
set_option maxRecDepth 100000 in
theorem ztk (va vb:Value) (s t:Bool) (n d m e:Nat) (w:World) (ha:zdc w va s n d) (hb:zdc w vb t m e) (h1:okN n d) (h2:okN m e):
 Calls Tryz.prog 100 #[va,vb] w fun en w'=>en= .returned (.int .i64 (zsr (fq s n d) (fq t m e)))∧Below w.heap.size w w':=by
 obtain⟨xn,xd,rfl,hxn,hxd⟩:=ha
 obtain⟨yn,yd,rfl,hyn,hyd⟩:=hb
 obtain⟨an,ln,kn,rfl,_⟩:=hxn.slen.1
 obtain⟨ad,ld,kd,rfl,_⟩:=hxd.slen.1
 obtain⟨am,lm,km,rfl,_⟩:=hyn.slen.1
 obtain⟨ae,le,ke,rfl,_⟩:=hyd.slen.1
 have l1:=zH (zrc h1)
 have l2:=zH (zrc h2)
 have z1:=nlen_prod (n:=n) h2.1
 have z2:=nlen_prod (n:=m) h1.1
 have HR:=zH (cmpR_eq s t n d m e h1.1 h2.1)
 have HSW:=zH (cmpN_swap (n*e) (m*d))
 clear h1 h2
 obtain⟨L1,hL1⟩:∃L,zda (n*e)=L:=⟨_,rfl⟩
 obtain⟨L2,hL2⟩:∃L,zda (m*d)=L:=⟨_,rfl⟩
 rw[hL1]at z1
 rw[hL2]at z2
 have HL1:=zH hL1
 have HL2:=zH hL2
 have hX:(s=false)∨(s=true∧n=0∧L1=0)∨(s=true∧n≠0∧0<L1):=by
  cases s
  ·exact Or.inl rfl
  ·by_cases h:n=0
   ·exact Or.inr (Or.inl ⟨rfl,h,z1.1 h⟩)
   ·exact Or.inr (Or.inr ⟨rfl,h,z1.2 h⟩)
 have hY:(t=false)∨(t=true∧m=0∧L2=0)∨(t=true∧m≠0∧0<L2):=by
  cases t
  ·exact Or.inl rfl
  ·by_cases h:m=0
   ·exact Or.inr (Or.inl ⟨rfl,h,z2.1 h⟩)
   ·exact Or.inr (Or.inr ⟨rfl,h,z2.2 h⟩)
 have HX0:=zH hX
 have HY0:=zH hY
 clear hL1 hL2 z1 z2 hX hY
 go_enter Tryz.func100,Tryz.ntmps100
 go_wp2_with fail
 obtain⟨W,hW⟩:∃W,W=((w.alloc (.cells #[.bool s, .slice an ln kn, .slice ad ld kd] 38)).alloc (.cells #[.bool t, .slice am lm km, .slice ae le ke] 38)):=⟨_,rfl⟩
 obtain⟨bx,byy,hbw⟩:=zcf w 38 _ _ _ _ _ _ W hW
 rw[←hW]
 clear hW
 have hd2:=zja (B:=W.heap.size) W
 have hD:=zaa hbw hd2
 have hbx3:=bx.belowS hd2
 have hby3:=byy.belowS hd2
 have HX3:=zH hbx3
 have HY3:=zH hby3
 obtain⟨_,q1,q2,q3,q4,q5,q6⟩:=hbx3
 obtain⟨_,r1,r2,r3,r4,r5,r6⟩:=hby3
 have g1:=hxn.below hD
 have g2:=hxd.below hD
 have g3:=hyn.below hD
 have g4:=hyd.below hD
 clear bx byy hd2
 have tok1:True:=trivial
 go_region_held3 (fun w'=>w'.cell? ⟨w.heap.size,1,none⟩=some (.slice an ln kn)∧w'.cell? ⟨w.heap.size,2,none⟩=some (.slice ad ld kd)∧w'.cell? ⟨w.heap.size+1,1,none⟩=some (.slice am lm km)∧w'.cell? ⟨w.heap.size+1,2,none⟩=some (.slice ae le ke)) (exact⟨q2,q3,r2,r3⟩) (first
  |(go_at_call 74;have _t:=tok1;clear tok1 _t;(with_reducible refine(zke _ _ n e _ g1 g4 l1.out.1 l2.out.2).mono ?_);rintro e9 w3 ⟨p1,rfl,hp1,hp2⟩
    have X4:=HX3.out.belowS hp2
    have Y4:=HY3.out.belowS hp2
    have HX4:=zH X4
    have HY4:=zH Y4
    obtain⟨_,q1,q2,q3,q4,q5,q6⟩:=X4
    obtain⟨_,r1,r2,r3,r4,r5,r6⟩:=Y4)
  |(go_at_call 74;(with_reducible refine(zke _ _ m d _ (g3.below hp2) (g2.below hp2) l2.out.1 l1.out.2).mono ?_);rintro e9 w4 ⟨p3,rfl,hp3,hp4⟩
    have hp24:=zaa hp2 hp4
    have hp14:=hp1.below hp4
    have X5:=HX4.out.belowS hp4
    have Y5:=HY4.out.belowS hp4
    have HX5:=zH X5
    have HY5:=zH Y5
    obtain⟨_,q1,q2,q3,q4,q5,q6⟩:=X5
    obtain⟨_,r1,r2,r3,r4,r5,r6⟩:=Y5))
 have hdw:Below w.heap.size w w4:=hD.trans (hp24.mono hD.size)
 have HP1:=zH hp14
 have HP3:=zH hp3
 have sp1:=hp14.v.sl
 have lp1:slen p1=L1:=hp14.v.len.trans HL1.out
 have sp3:=hp3.v.sl
 have lp3:slen p3=L2:=hp3.v.len.trans HL2.out
 have k1:=HX5.out.c0
 have k2:=HY5.out.c0
 clear hp24 hp14 hp1 hp3 hp2 hp4 hD g1 g2 g3 g4 HX3 HY3 HX4 HY4 q1 q2 q3 q4 q5 q6 r1 r2 r3 r4 r5 r6 hbw
 rcases HX0.out with rfl | ⟨rfl,hn0,hl0⟩ | ⟨rfl,hn0,hl0⟩<;>rcases HY0.out with rfl | ⟨rfl,hm0,hk0⟩ | ⟨rfl,hm0,hk0⟩<;>(
  try subst hl0
  try subst hk0
  clear HX0 HY0
  go_wp2_with (go_at_call 77;first
   |((with_reducible refine(zee p1 p3 (n*e) (m*d) _ HP1.out.nat HP3.out.nat).mono ?_);rintro e9 w9 ⟨rfl,hb9⟩;have hdw:=zaa hdw hb9)
   |((with_reducible refine(zee p3 p1 (m*d) (n*e) _ HP3.out.nat HP1.out.nat).mono ?_);rintro e9 w9 ⟨rfl,hb9⟩;rw[HSW.out];have hdw:=zaa hdw hb9))
  all_goals
   go_ret
   exact⟨by rw[HR.out];simp[*],hdw⟩)
theorem cmpR_beq (p q:Rat):(zsr p q==0)=decide (p=q):=by
 have:=zji p q
 by_cases h:p=q
 ·rw[decide_eq_true h,this.2 h];rfl
 ·rw[decide_eq_false h]
  have h2:zsr p q≠0:=fun e=>h (this.1 e)
  simpa using h2
theorem r2same_any (va vb:Value) (s t:Bool) (n d m e:Nat) (w:World) (ha:zdc w va s n d) (hb:zdc w vb t m e) (h1:okN n d) (h2:okN m e):
 Calls Tryz.prog 33 #[va,vb] w fun en w'=>en= .returned (.bool (decide (fq s n d=fq t m e)))∧Below w.heap.size w w':=by
 have hA:=ha
 have hB:=hb
 obtain⟨xn,xd,rfl,hxn,hxd⟩:=ha
 obtain⟨yn,yd,rfl,hyn,hyd⟩:=hb
 obtain⟨an,ln,kn,rfl,_⟩:=hxn.slen.1
 obtain⟨ad,ld,kd,rfl,_⟩:=hxd.slen.1
 obtain⟨am,lm,km,rfl,_⟩:=hyn.slen.1
 obtain⟨ae,le,ke,rfl,_⟩:=hyd.slen.1
 have K1:=zH h1
 have K2:=zH h2
 have HE:=zH (cmpR_beq (fq s n d) (fq t m e))
 clear h1 h2
 go_enter Tryz.func33,Tryz.ntmps33
 go_wp2_with fail
 obtain⟨W,hW⟩:∃W,W=((w.alloc (.cells #[.bool s, .slice an ln kn, .slice ad ld kd] 38)).alloc (.cells #[.bool t, .slice am lm km, .slice ae le ke] 38)):=⟨_,rfl⟩
 obtain⟨bx,byy,hbw⟩:=zcf w 38 _ _ _ _ _ _ W hW
 rw[←hW]
 clear hW
 obtain⟨_,q1,q2,q3,q4,q5,q6⟩:=bx
 obtain⟨_,r1,r2,r3,r4,r5,r6⟩:=byy
 go_wp2_with (go_at_call 100;(with_reducible refine(ztk _ _ s t n d m e _ (hA.below hbw) (hB.below hbw) K1.out K2.out).mono ?_);rintro e9 w9 ⟨rfl,hb9⟩)
 go_ret
 exact⟨by rw[←HE.out];rfl,zaa hbw hb9⟩
theorem zns (va:Value) (s:Bool) (n d:Nat) (w:World) (ha:zdc w va s n d) (h1:okN n d):
 Calls Tryz.prog 34 #[va] w fun en w'=>en= .returned (.int .i64 (zsr (fq s n d) 0))∧Below w.heap.size w w':=by
 have hA:=ha
 obtain⟨xn,xd,rfl,hxn,hxd⟩:=ha
 obtain⟨an,ln,kn,rfl,_⟩:=hxn.slen.1
 obtain⟨ad,ld,kd,rfl,_⟩:=hxd.slen.1
 have K1:=zH h1
 have K0:Hid (okN (0:Rat).num.natAbs (0:Rat).den):=zH (by decide+kernel)
 have HE:Hid (zsr (fq s n d) (fq false 0 1)=zsr (fq s n d) 0):=zH (by rw[show fq false 0 1=0 from fq_zero false 1 (by decide)])
 clear h1
 go_enter Tryz.func34,Tryz.ntmps34
 go_wp2_with fail
 have bx:=C3.new w 38 (.bool s) (.slice an ln kn) (.slice ad ld kd)
 have hbx:=zca w (.cells #[.bool s, .slice an ln kn, .slice ad ld kd] 38)
 generalize hW:w.alloc (.cells #[.bool s, .slice an ln kn, .slice ad ld kd] 38)=W at *
 clear hW
 have hd2:=zja (B:=W.heap.size) W
 have hD:=zaa hbx hd2
 have hbx3:=bx.belowS hd2
 have HX3:=zH hbx3
 obtain⟨_,q1,q2,q3,q4,q5,q6⟩:=hbx3
 clear bx hd2
 go_region_held3 (fun w'=>w'.cell? ⟨w.heap.size,0,none⟩=some (.bool s)∧w'.cell? ⟨w.heap.size,1,none⟩=some (.slice an ln kn)∧w'.cell? ⟨w.heap.size,2,none⟩=some (.slice ad ld kd)) (exact⟨q1,q2,q3⟩) (first
  |(go_at_call 20;(with_reducible refine(zwi _).mono ?_);rintro e9 w3 ⟨v3,rfl,hv3,hb3⟩
    obtain⟨_,q1,q2,q3,q4,q5,q6⟩:=HX3.out.belowS hb3)
  |(go_at_call 100;(with_reducible refine(ztk _ _ s _ n d _ _ _ ((hA.below hD).below hb3) hv3.raw K1.out K0.out).mono ?_);rintro e9 w4 ⟨rfl,hb4⟩
    obtain⟨_,q1,q2,q3,q4,q5,q6⟩:=HX3.out.belowS (zaa hb3 hb4)))
 go_wp2
 go_ret
 exact⟨by rw[←HE.out];rfl,zaa (zaa hD hb3) hb4⟩
set_option maxRecDepth 100000 in
set_option maxHeartbeats 1600000 in
theorem cmp_frac (va vb:Value) (s t:Bool) (n d m e:Nat) (w:World) (ha:zdc w va s n d) (hb:zdc w vb t m e) (h1:okN n d) (h2:okN m e):
 Calls Tryz.prog 130 #[va,vb] w fun en w'=>en= .returned (.tuple #[.int .i64 (zsr (fq s n d) (fq t m e)), .int .i64 0])∧Below w.heap.size w w':=by
 have hA:=ha
 have hB:=hb
 obtain⟨xn,xd,rfl,hxn,hxd⟩:=ha
 obtain⟨yn,yd,rfl,hyn,hyd⟩:=hb
 obtain⟨an,ln,kn,rfl,_⟩:=hxn.slen.1
 obtain⟨ad,ld,kd,rfl,_⟩:=hxd.slen.1
 obtain⟨am,lm,km,rfl,_⟩:=hyn.slen.1
 obtain⟨ae,le,ke,rfl,_⟩:=hyd.slen.1
 have K1:=zH h1
 have K2:=zH h2
 have HR:=zH (cmpR_eq s t n d m e h1.1 h2.1)
 clear h1 h2
 go_enter Tryz.func130,Tryz.ntmps130
 go_wp2_with fail
 obtain⟨W,hW⟩:∃W,W=((w.alloc (.cells #[.bool s, .slice an ln kn, .slice ad ld kd] 38)).alloc (.cells #[.bool t, .slice am lm km, .slice ae le ke] 38)):=⟨_,rfl⟩
 obtain⟨bx,byy,hbw⟩:=zcf w 38 _ _ _ _ _ _ W hW
 rw[←hW]
 clear hW
 have HBX:=zH bx
 have HBY:=zH byy
 obtain⟨_,q1,q2,q3,q4,q5,q6⟩:=bx
 obtain⟨_,r1,r2,r3,r4,r5,r6⟩:=byy
 go_wp2_with (first
  |(go_at_call 79;first
    |((with_reducible refine(zrd _ s n d _ (hA.below hbw) K1.out).mono ?_);rintro e9 w1 ⟨rfl,hv1⟩
      obtain⟨_,f1,f2,f3,f4,f5,f6⟩:=HBY.out.belowS hv1
      have hbw1:=zaa hbw hv1)
    |((with_reducible refine(zrd _ t m e _ (hB.below hbw1) K2.out).mono ?_);rintro e9 w2 ⟨rfl,hv2⟩
      have hbx2:=(HBX.out.belowS hv1).belowS hv2
      have hby2:=(HBY.out.belowS hv1).belowS hv2
      have hbw2:=zaa hbw1 hv2)))
 clear q1 q2 q3 q4 q5 q6 r1 r2 r3 r4 r5 r6 f1 f2 f3 f4 f5 f6
 have hd2:=zja (B:=w2.heap.size) w2
 have hD:=hbw2.trans (hd2.mono hbw2.size)
 have hbx3:=hbx2.belowS hd2
 have hby3:=hby2.belowS hd2
 clear hbx2 hby2 hbw2 hv1 hv2 hbw hbw1 HBX HBY hd2
 have HX3:=zH hbx3
 have HY3:=zH hby3
 obtain⟨_,q1,q2,q3,q4,q5,q6⟩:=hbx3
 obtain⟨_,r1,r2,r3,r4,r5,r6⟩:=hby3
 have g1:=hxn.below hD
 have g2:=hxd.below hD
 have g3:=hyn.below hD
 have g4:=hyd.below hD
 have l1:=zH (zrc K1.out)
 have l2:=zH (zrc K2.out)
 have T1:=zH (Nat.le_trans l1.out.1 (show 128≤256 by decide))
 have T2:=zH (Nat.le_trans l2.out.2 (show 128≤256 by decide))
 have T3:=zH (Nat.le_trans l2.out.1 (show 128≤256 by decide))
 have T4:=zH (Nat.le_trans l1.out.2 (show 128≤256 by decide))
 have tok1:True:=trivial
 go_region_held3 (fun w'=>w'.cell? ⟨w.heap.size,1,none⟩=some (.slice an ln kn)∧w'.cell? ⟨w.heap.size,2,none⟩=some (.slice ad ld kd)∧w'.cell? ⟨w.heap.size+1,1,none⟩=some (.slice am lm km)∧w'.cell? ⟨w.heap.size+1,2,none⟩=some (.slice ae le ke)) (exact⟨q2,q3,r2,r3⟩) (first
  |(go_at_call 157;have _t:=tok1;clear tok1 _t;(with_reducible refine(zgb _ _ n e _ g1 g4 T1.out T2.out).mono ?_);rintro e9 w3 ⟨p1,rfl,hp1,hp2⟩
    have X4:=HX3.out.belowS hp2
    have Y4:=HY3.out.belowS hp2
    have HX4:=zH X4
    have HY4:=zH Y4
    obtain⟨_,q1,q2,q3,q4,q5,q6⟩:=X4
    obtain⟨_,r1,r2,r3,r4,r5,r6⟩:=Y4)
  |(go_at_call 157;(with_reducible refine(zgb _ _ m d _ (g3.below hp2) (g2.below hp2) T3.out T4.out).mono ?_);rintro e9 w4 ⟨p3,rfl,hp3,hp4⟩
    have hp24:=zaa hp2 hp4
    have hp14:=hp1.below hp4
    have X5:=HX4.out.belowS hp4
    have Y5:=HY4.out.belowS hp4
    have HX5:=zH X5
    have HY5:=zH Y5
    obtain⟨_,q1,q2,q3,q4,q5,q6⟩:=X5
    obtain⟨_,r1,r2,r3,r4,r5,r6⟩:=Y5)
  |(go_at_call 159;(with_reducible refine(ztl p1 p3 (n*e) (m*d) _ hp14.nat hp3.nat).mono ?_);rintro e9 w5 ⟨rfl,k9,rfl⟩
    have hp5:=zka (B:=w4.heap.size) w4 k9
    have hp26:=zaa hp24 hp5
    have X6:=HX5.out.belowS hp5
    have Y6:=HY5.out.belowS hp5
    have HX6:=zH X6
    have HY6:=zH Y6
    obtain⟨_,q1,q2,q3,q4,q5,q6⟩:=X6
    obtain⟨_,r1,r2,r3,r4,r5,r6⟩:=Y6))
 have hdw:Below w.heap.size w (w4.drewN k9):=hD.trans (hp26.mono hD.size)
 clear q1 q2 q3 q4 q5 q6 r1 r2 r3 r4 r5 r6 hp5 hp26 hp24 hp14 hp1 hp3 hp2 hp4 hD g1 g2 g3 g4 HX3 HY3 HX4 HY4 HX5 HY5 T1 T2 T3 T4
 generalize w4.drewN k9=W4 at *
 have hcb: -1≤zfj (n*e) (m*d)∧zfj (n*e) (m*d)≤1:=by unfold zfj;split<;>(try split)<;>omega
 obtain⟨hcb1,hcb2⟩:=hcb
 generalize hcn:zfj (n*e) (m*d)=c at *
 have HCN:=zH hcn
 clear hcn
 have hd2:=zja (B:=W4.heap.size) W4
 have hD:=hdw.trans (hd2.mono hdw.size)
 have hbx3:=HX6.out.belowS hd2
 have hby3:=HY6.out.belowS hd2
 have HX7:=zH hbx3
 have HY7:=zH hby3
 clear HX6 HY6
 go_wp2_with fail
 obtain⟨_,q1,q2,q3,q4,q5,q6⟩:=hbx3
 obtain⟨_,r1,r2,r3,r4,r5,r6⟩:=hby3
 rcases s with _ | _<;>rcases t with _ | _
 ·go_region
  all_goals
   go_wp2
   all_goals
    go_ret2
    exact⟨by rw[HR.out];simp[*],hD⟩
 ·go_region_law (refine zxa 186 #[.agg #[.bool true, .slice am lm km, .slice ae le ke]] ?_ ?_ (zih _ true m e _ (hB.below hD)) ?_;go_simp;go_simp;rintro e9 w5 ⟨rfl,hz1⟩;refine⟨_,rfl,?_⟩;obtain⟨_,q1,q2,q3,q4,q5,q6⟩:=HX7.out.belowS hz1;obtain⟨_,r1,r2,r3,r4,r5,r6⟩:=HY7.out.belowS hz1)
  all_goals
   go_wp2
   all_goals
    go_ret2
    exact⟨by rw[HR.out];simp[*],hD.trans (hz1.mono hD.size)⟩
 ·go_region_law (refine zxa 186 #[.agg #[.bool true, .slice an ln kn, .slice ad ld kd]] ?_ ?_ (zih _ true n d _ (hA.below hD)) ?_;go_simp;go_simp;rintro e9 w5 ⟨rfl,hz1⟩;refine⟨_,rfl,?_⟩;obtain⟨_,q1,q2,q3,q4,q5,q6⟩:=HX7.out.belowS hz1;obtain⟨_,r1,r2,r3,r4,r5,r6⟩:=HY7.out.belowS hz1)
  all_goals
   go_wp2
   all_goals
    go_ret2
    exact⟨by rw[HR.out];simp[*],hD.trans (hz1.mono hD.size)⟩
 ·go_region_held3 (fun w'=>w'.cell? ⟨w.heap.size,0,none⟩=some (.bool true)∧w'.cell? ⟨w.heap.size,1,none⟩=some (.slice an ln kn)∧w'.cell? ⟨w.heap.size,2,none⟩=some (.slice ad ld kd)∧w'.cell? ⟨w.heap.size+1,0,none⟩=some (.bool true)∧w'.cell? ⟨w.heap.size+1,1,none⟩=some (.slice am lm km)∧w'.cell? ⟨w.heap.size+1,2,none⟩=some (.slice ae le ke)) (exact⟨q1,q2,q3,r1,r2,r3⟩) (first
  |(go_at_call 186;(with_reducible refine(zih _ true n d _ (hA.below hD)).mono ?_);rintro e9 w5 ⟨rfl,hz1⟩
    have X8:=HX7.out.belowS hz1
    have Y8:=HY7.out.belowS hz1
    have HX8:=zH X8
    have HY8:=zH Y8
    obtain⟨_,q1,q2,q3,q4,q5,q6⟩:=X8
    obtain⟨_,r1,r2,r3,r4,r5,r6⟩:=Y8)
  |(go_at_call 186;(with_reducible refine(zih _ true m e _ ((hB.below hD).below hz1)).mono ?_);rintro e9 w6 ⟨rfl,hz2⟩
    have X9:=HX8.out.belowS hz2
    have Y9:=HY8.out.belowS hz2
    obtain⟨_,q1,q2,q3,q4,q5,q6⟩:=X9
    obtain⟨_,r1,r2,r3,r4,r5,r6⟩:=Y9))
  all_goals
   go_wp2
   all_goals
    go_ret2
    exact⟨by rw[HR.out];simp[*],hD.trans ((zaa hz1 hz2).mono hD.size)⟩
set_option maxHeartbeats 800000
theorem zdr (w:World):Calls Tryz.prog 109 #[.int .i64 0] w (RF1 w 0):=by
 go_enter Tryz.func109,Tryz.ntmps109
 go_wp2_with (go_at_call 67;(with_reducible refine(make_01 _).mono ?_);rintro e w1 ⟨v,rfl,hv,hb1⟩
              obtain⟨t9,x9,y9,rfl,⟨a1,l91,k1,rfl,_⟩,⟨a2,l92,k2,rfl,_⟩⟩:=hv.isF
              have hr:=((C3.new w 38 (.bool false) (.slice none 0 0) (.slice none 0 0)).belowS hb1).allocS (.cells #[.bool t9, .slice a1 l91 k1, .slice a2 l92 k2] 38)
              have hv2:=hv.below (zca w1 (.cells #[.bool t9, .slice a1 l91 k1, .slice a2 l92 k2] 38))
              have hb2:=zaa (zaa (zca w (.cells #[.bool false, .slice none 0 0, .slice none 0 0] 38)) hb1) (zca w1 (.cells #[.bool t9, .slice a1 l91 k1, .slice a2 l92 k2] 38))
              have HR:=zH hr
              obtain⟨_,d1,d2,d3,d4,d5,d6⟩:=hr)
 refine zab rfl rfl Tryz.aggF Tryz.sizeF (HR.out.set _ _ _) rfl ?_
 exact⟨_,rfl,hv2.set3 HR.out (fun z=>by simp) (fun z=>by simp) _ _ _,zga hb2 (Nat.le_refl _) _ _ _⟩
theorem zqs (w:World):Calls Tryz.prog 109 #[.int .i64 1] w (RF1 w 1):=by
 go_enter Tryz.func109,Tryz.ntmps109
 go_wp2_with (go_at_call 67;(with_reducible refine(make_11 _).mono ?_);rintro e w1 ⟨v,rfl,hv,hb1⟩
              obtain⟨t9,x9,y9,rfl,⟨a1,l91,k1,rfl,_⟩,⟨a2,l92,k2,rfl,_⟩⟩:=hv.isF
              have hr:=((C3.new w 38 (.bool false) (.slice none 0 0) (.slice none 0 0)).belowS hb1).allocS (.cells #[.bool t9, .slice a1 l91 k1, .slice a2 l92 k2] 38)
              have hv2:=hv.below (zca w1 (.cells #[.bool t9, .slice a1 l91 k1, .slice a2 l92 k2] 38))
              have hb2:=zaa (zaa (zca w (.cells #[.bool false, .slice none 0 0, .slice none 0 0] 38)) hb1) (zca w1 (.cells #[.bool t9, .slice a1 l91 k1, .slice a2 l92 k2] 38))
              have HR:=zH hr
              obtain⟨_,d1,d2,d3,d4,d5,d6⟩:=hr)
 refine zab rfl rfl Tryz.aggF Tryz.sizeF (HR.out.set _ _ _) rfl ?_
 exact⟨_,rfl,hv2.set3 HR.out (fun z=>by simp) (fun z=>by simp) _ _ _,zga hb2 (Nat.le_refl _) _ _ _⟩
theorem zer (v:Value) (s:Bool) (n d:Nat) (w:World) (h:zdc w v s n d):
 Calls Tryz.prog 145 #[v] w fun e w'=>e= .returned (.bool (!s&& !decide (n=0)))∧Below w.heap.size w w':=by
 obtain⟨a,b,rfl,ha,hb⟩:=h
 rcases s with _ | _
 ·go_enter Tryz.func145,Tryz.ntmps145
  go_wp2_with (go_at_call 156;refine(zva _ n _ (ha.below (zca _ _))).mono ?_;rintro e w' ⟨rfl,rfl⟩)
  go_ret
  refine⟨?_,zca _ _⟩
  have e:decide ((0:Int)<(zua n:Nat))= !decide (n=0):=by
   by_cases h0:n=0
   ·subst h0;rfl
   ·have:=zld.2 h0;rw[decide_eq_true (by omega),decide_eq_false h0];rfl
  first | (rw[show(!false&& !decide (n=0))=decide ((0:Int)<(zua n:Nat))from by rw[e];rfl];rfl) | (simp[←e])
 ·go_enter Tryz.func145,Tryz.ntmps145
  go_wp2_with fail
  go_ret
  exact⟨rfl,zca _ _⟩
theorem RF.fits {x:RF} (h:x.ok):fits x.q:=fits_ok _ h
theorem wt_le {q:Rat} (h:fits q):wt q≤8192:=by
 obtain⟨h1,h2⟩:=h
 unfold wt
 split<;>(try split)<;>omega
theorem zgt (l:List RF) (h:∀x∈l,x.ok):wts (qs l)≤8192*l.length:=by
 induction l with
 | nil=>simp[qs,wts]
 | cons x l ih=>
   have h1:=ih (fun y hy=>h y (by simp[hy]))
   have h2:=wt_le (RF.fits (h x (by simp)))
   have e:wts (qs (x::l))=wt x.q+wts (qs l):=by unfold qs;rw[List.map_cons,zmg]
   rw[e,List.length_cons];omega
theorem wts_qs (l:List RF) (k:Nat) (h:k<l.length):wts (qs (l.take (k+1)))=wts (qs (l.take k))+wt l[k].q:=by
 rw[zxc l k h];unfold qs;rw[List.map_append];exact zsu _ _
def zxr (m:List (List RF)):Nat:=(m.map fun l=>wts (qs l)).sum
theorem zht (m:List (List RF)) (k:Nat) (h:k<m.length):zxr (m.take (k+1))=zxr (m.take k)+wts (qs m[k]):=by
 unfold zxr;rw[zxc m k h,List.map_append,List.sum_append];simp only[List.map_cons,List.map_nil,List.sum_cons,List.sum_nil,Nat.add_zero]
theorem zit (m:List (List RF)) (h:∀l∈m,∀x∈l,x.ok) (hl:∀l∈m,l.length≤65536):zxr m≤536870912*m.length:=by
 induction m with
 | nil=>simp[zxr]
 | cons x m ih=>
   have h1:=ih (fun y hy=>h y (by simp[hy])) (fun y hy=>hl y (by simp[hy]))
   have h2:=zgt x (h x (by simp))
   have h3:=hl x (by simp)
   have e:zxr (x::m)=wts (qs x)+zxr m:=by simp[zxr]
   rw[e,List.length_cons];omega
theorem wt_zero {q:Rat} (h:q.num=0):wt q=0:=by unfold wt;rw[if_pos h]
theorem wt_int {q:Rat} (h:q.num≠0) (hd:q.den=1):wt q=zua q.num.natAbs:=by unfold wt;rw[if_neg h,if_pos hd];rfl
theorem wt_frac {q:Rat} (h:q.num≠0) (hd:q.den≠1):wt q=zua q.num.natAbs+zua q.den:=by unfold wt;rw[if_neg h,if_neg hd]
theorem zok (va:Value) (x:RF) (w:World) (ha:zdc w va x.neg x.n x.d) (hx:x.ok):Calls Tryz.prog 89 #[va] w (RF0 w x.q):=
 (zef va x.neg x.n x.d w ha).mono fun e w' h=>by
  obtain⟨v,er,rfl,h1,h2,_⟩:=h
  obtain⟨rfl,h3⟩:=h2 hx
  exact⟨v,rfl,h3,h1⟩
theorem zhr (l:List RF):zxr [l]=wts (qs l):=by simp[zxr]
end Go.Proofs.YtlpdkbmmbdfoiaaGreat
