/-
  Six cells kept behind a store; growth in the forms that walks meet. No program is named here.
-/
import Derived.Test.YtlpdkbmmbdfoiaaGEl1
set_option linter.unusedVariables false
set_option linter.unusedSimpArgs false
namespace Go.Proofs.Ytlpdkbmmbdfoiaa
set_option maxHeartbeats 1600000
open Go.RowKit
theorem fq_scale2 (s:Bool) {n d k:Nat} (hk:k≠0):fq s (n*k) (d*k)=fq s n d:=by
 unfold fq
 have e:sgn s (n*k)=sgn s n*k:=by unfold sgn;split<;>simp[Int.neg_mul]
 rw[e]
 exact Rat.mkRat_mul_right hk
theorem fq_ne (s:Bool) {n d:Nat} (hn:n≠0) (hd:d≠0):fq s n d≠0:=fun h=>by
 unfold fq at h
 have:=(Rat.mkRat_eq_zero hd).1 h
 have h2:=zog s n
 rw[this]at h2
 exact hn h2.symm
theorem fq_quo (s t:Bool) {n d m e:Nat} (hm:m≠0) (he:e≠0):fq s n d/fq t m e=fq (s != t) (n*e) (d*m):=by
 have h1:fq s n d=fq (s != t) (n*e) (d*m)*fq t m e:=by
  rw[fq_mul,←fq_scale2 s (n:=n) (d:=d) (Nat.mul_ne_zero he hm)]
  congr 1
  ·cases s<;>cases t<;>rfl
  ·rw[Nat.mul_assoc]
  ·rw[Nat.mul_assoc,Nat.mul_comm e m]
 rw[h1,Rat.mul_div_cancel (fq_ne t hm he)]
theorem fq_sub (s t:Bool) (n d m e:Nat) (he:e≠0):fq s n d-fq t m e=fq s n d+fq (!t) m e:=by
 rw[Rat.sub_eq_add_neg]
 congr 1
 unfold fq
 rw[Rat.neg_mkRat]
 congr 1
 unfold sgn
 cases t<;>simp
theorem zob.over {w:World} {v:Value} {n:Nat} (h:zob w v n) {p:Addr} {x:Value} (hp:w.cell? p=some x) (hx:∀z,x≠ .int .u32 z) (u:Value):zob (w.setCell p u) v n:=by
 obtain⟨l,h1,h2⟩:=h;exact⟨l,h1.over hp hx u,h2⟩
theorem zob.set3 {w:World} {v:Value} {n:Nat} {b:Nat} {s:Bool} {x y:Value} (h:zob w v n) (hc:C3 w b (.bool s) x y) (hx:∀z,x≠ .int .u32 z) (hy:∀z,y≠ .int .u32 z) (u0 u1 u2:Value):
 zob (((w.setCell ⟨b,0,none⟩ u0).setCell ⟨b,1,none⟩ u1).setCell ⟨b,2,none⟩ u2) v n:=by
 obtain⟨l,h1,h2⟩:=h;exact⟨l,h1.set3 hc (fun z=>by simp) hx hy u0 u1 u2,h2⟩
theorem fminus_any (va:Value) (s:Bool) (n d:Nat) (w:World) (ha:zdc w va s n d):
 Calls Try.prog 97 #[va] w fun e w'=>∃v,e= .returned v∧zdc w' v (!s) n d∧Below w.heap.size w w':=by
 obtain⟨xn,xd,rfl,hxn,hxd⟩:=ha
 obtain⟨an,ln,kn,rfl,_⟩:=hxn.slen.1
 obtain⟨ad,ld,kd,rfl,_⟩:=hxd.slen.1
 obtain⟨bx,bz,hbw⟩:=zcf w 32 (.bool s) (.slice an ln kn) (.slice ad ld kd) (.bool false) (.slice none 0 0) (.slice none 0 0) _ rfl
 have hxn2:=(hxn.below hbw).over bx.c0 (fun z=>by simp) (.bool (!s))
 have hxd2:=(hxd.below hbw).over bx.c0 (fun z=>by simp) (.bool (!s))
 have hZ2:=bz.other ⟨w.heap.size,0,none⟩ (.bool (!s)) (by simp)
 have hbs:=hbw.setCell (p:=⟨w.heap.size,0,none⟩) (Nat.le_refl _) (.bool (!s))
 have HF:=zH (And.intro (And.intro hxn2 hxd2) (And.intro hZ2 hbs))
 obtain⟨_,x0,x1,x2,f0,f1,f2⟩:=bx
 obtain⟨_,z0,z1,z2,g0,g1,g2⟩:=bz
 clear hxn2 hxd2 hZ2 hbs hxn hxd hbw
 go_enter Try.func97,Try.ntmps97
 go_upto_region 1 with fail
 generalize (w.alloc (.cells #[.bool s, .slice an ln kn, .slice ad ld kd] 32)).alloc (.cells #[.bool false, .slice none 0 0, .slice none 0 0] 32)=W at *
 go_wp2_with fail
 refine zab rfl rfl Try.aggF Try.sizeF (HF.out.2.1.set _ _ _) rfl ?_
 exact⟨_,rfl,⟨_,_,rfl,HF.out.1.1.set3 HF.out.2.1 (fun z=>by simp) (fun z=>by simp) _ _ _,HF.out.1.2.set3 HF.out.2.1 (fun z=>by simp) (fun z=>by simp) _ _ _⟩,zga HF.out.2.2 (by omega) _ _ _⟩
set_option maxRecDepth 100000 in
theorem mul_frac (va vb:Value) (s t:Bool) (n d m e:Nat) (w:World) (ha:zdc w va s n d) (hb:zdc w vb t m e) (h1:okN n d) (h2:okN m e):
 Calls Try.prog 60 #[va,vb] w (zmi w (fq s n d*fq t m e)):=by
 have hA:=ha
 have hB:=hb
 obtain⟨xn,xd,rfl,hxn,hxd⟩:=ha
 obtain⟨yn,yd,rfl,hyn,hyd⟩:=hb
 obtain⟨an,ln,kn,rfl,_⟩:=hxn.slen.1
 obtain⟨ad,ld,kd,rfl,_⟩:=hxd.slen.1
 obtain⟨am,lm,km,rfl,_⟩:=hyn.slen.1
 obtain⟨ae,le,ke,rfl,_⟩:=hyd.slen.1
 have HQ:=zH (fq_mul s t n d m e)
 have K1:=zH h1
 have K2:=zH h2
 clear h1 h2
 go_enter Try.func60,Try.ntmps60
 go_wp2_with fail
 obtain⟨W,hW⟩:∃W,W=(((w.alloc (.cells #[.bool s, .slice an ln kn, .slice ad ld kd] 32)).alloc (.cells #[.bool t, .slice am lm km, .slice ae le ke] 32)).alloc (.cells #[.bool false, .slice none 0 0, .slice none 0 0] 32)):=⟨_,rfl⟩
 obtain⟨bx,byy,bz,hbw⟩:=zmc w 32 _ _ _ _ _ _ _ _ _ W hW
 rw[←hW]
 clear hW
 have HBX:=zH bx
 have HBY:=zH byy
 have HBZ:=zH bz
 obtain⟨_,q1,q2,q3,q4,q5,q6⟩:=bx
 obtain⟨_,r1,r2,r3,r4,r5,r6⟩:=byy
 go_wp2_with (first
  |(go_at_call 76;first
    |((with_reducible refine(zrd _ s n d _ (hA.below hbw) K1.out).mono ?_);rintro e9 w1 ⟨rfl,hv1⟩
      obtain⟨_,f1,f2,f3,f4,f5,f6⟩:=HBY.out.belowS hv1
      have hbw1:=hbw.trans (hv1.mono hbw.size))
    |((with_reducible refine(zrd _ t m e _ (hB.below hbw1) K2.out).mono ?_);rintro e9 w2 ⟨rfl,hv2⟩
      have hbx2:=(HBX.out.belowS hv1).belowS hv2
      have hby2:=(HBY.out.belowS hv1).belowS hv2
      have hbz2:=(HBZ.out.belowS hv1).belowS hv2
      have hbw2:=hbw1.trans (hv2.mono hbw1.size))))
 clear q1 q2 q3 q4 q5 q6 r1 r2 r3 r4 r5 r6 f1 f2 f3 f4 f5 f6
 have hd2:=zja (B:=w2.heap.size) w2
 have hD:=hbw2.trans (hd2.mono hbw2.size)
 have hbx3:=hbx2.belowS hd2
 have hby3:=hby2.belowS hd2
 have hbz3:=hbz2.belowS hd2
 have HX3:=zH hbx3
 have HY3:=zH hby3
 have HZ3:=zH hbz3
 clear hbx2 hby2 hbz2 hbw2 hv1 hv2 hbw hbw1 HBX HBY HBZ bz hd2
 obtain⟨_,q1,q2,q3,q4,q5,q6⟩:=hbx3
 obtain⟨_,r1,r2,r3,r4,r5,r6⟩:=hby3
 obtain⟨_,z1,z2,z3,z4,z5,z6⟩:=hbz3
 have g1:=hxn.below hD
 have g2:=hxd.below hD
 have g3:=hyn.below hD
 have g4:=hyd.below hD
 have l1:=zH (zrc K1.out)
 have l2:=zH (zrc K2.out)
 have T1:=zH (Nat.le_trans l1.out.1 (show 128≤256 by decide))
 have T2:=zH (Nat.le_trans l2.out.2 (show 128≤256 by decide))
 have T3:=zH (Nat.le_trans l2.out.1 (show 128≤256 by decide))
 have T4:=zH (Nat.le_trans l1.out.2 (show 128≤256 by decide))
 have N1:=zH (Nat.le_trans (zsd l1.out.1 l2.out.1) (show 128+128≤512 by decide))
 have N2:=zH (Nat.le_trans (zsd l1.out.2 l2.out.2) (show 128+128≤512 by decide))
 have HDE:Hid (d*e≠0):=zH (Nat.mul_ne_zero K1.out.1 K2.out.1)
 have tok1:True:=trivial
 rcases s with _ | _<;>rcases t with _ | _
 ·go_region_held3 (fun w'=>w'.cell? ⟨w.heap.size,0,none⟩=some (.bool false)∧w'.cell? ⟨w.heap.size,1,none⟩=some (.slice an ln kn)∧w'.cell? ⟨w.heap.size,2,none⟩=some (.slice ad ld kd)∧w'.cell? ⟨w.heap.size+1,0,none⟩=some (.bool false)∧w'.cell? ⟨w.heap.size+1,1,none⟩=some (.slice am lm km)∧w'.cell? ⟨w.heap.size+1,2,none⟩=some (.slice ae le ke)) (first | with_reducible exact⟨q1,q2,q3,r1,r2,r3⟩ | (refine⟨?_,?_,?_,?_,?_,?_⟩<;>go_simp)) (first
   |(go_at_call 77;have _t:=tok1;clear tok1 _t;(with_reducible refine(zgb _ _ n m _ g1 g3 T1.out T3.out).mono ?_);rintro e9 w3 ⟨p1,rfl,hp1,hp2⟩
     have X4:=HX3.out.belowS hp2
     have Y4:=HY3.out.belowS hp2
     have HX4:=zH X4
     have HY4:=zH Y4
     obtain⟨_,q1,q2,q3,q4,q5,q6⟩:=X4
     obtain⟨_,r1,r2,r3,r4,r5,r6⟩:=Y4)
   |(go_at_call 77;(with_reducible refine(zgb _ _ d e _ (g2.below hp2) (g4.below hp2) T4.out T2.out).mono ?_);rintro e9 w4 ⟨p3,rfl,hp3,hp4⟩
     have hp24:=zaa hp2 hp4
     have hp14:=hp1.below hp4
     have X5:=HX4.out.belowS hp4
     have Y5:=HY4.out.belowS hp4
     have HX5:=zH X5
     have HY5:=zH Y5
     obtain⟨_,q1,q2,q3,q4,q5,q6⟩:=X5
     obtain⟨_,r1,r2,r3,r4,r5,r6⟩:=Y5)
   |(go_at_call 79;(with_reducible refine(zub _ p1 p3 (n*m) (d*e) _ hp14.nat hp3.nat HDE.out N1.out N2.out).mono ?_);rintro e9 w5 ⟨v,er,rfl,hv1,hv2,hv3⟩
     obtain⟨t9,x9,y9,rfl,⟨a1,l91,k1,rfl,_⟩,⟨a2,l92,k2,rfl,_⟩⟩:=zpb (w0:=w) hv2 hv3
     have hp26:=zaa hp24 hv1
     have X6:=HX5.out.belowS hv1
     have Y6:=HY5.out.belowS hv1
     have Z6:=HZ3.out.belowS hp26
     have HZ6:=zH Z6
     obtain⟨_,q1,q2,q3,q4,q5,q6⟩:=X6
     obtain⟨_,r1,r2,r3,r4,r5,r6⟩:=Y6
     obtain⟨_,z1,z2,z3,z4,z5,z6⟩:=Z6))
  all_goals
   go_wp2_with fail
   refine zoa rfl rfl Try.aggF Try.sizeF (HZ6.out.set _ _ _) rfl ?_
   rw[HQ.out]
   exact⟨_,_,rfl,zga (hD.trans (hp26.mono hD.size)) (by omega) _ _ _,fun h=>⟨(hv2 h).1,(hv2 h).2.set3 HZ6.out (fun z=>by simp) (fun z=>by simp) _ _ _⟩,hv3⟩
 ·go_region_held3 (fun w'=>w'.cell? ⟨w.heap.size,0,none⟩=some (.bool false)∧w'.cell? ⟨w.heap.size,1,none⟩=some (.slice an ln kn)∧w'.cell? ⟨w.heap.size,2,none⟩=some (.slice ad ld kd)∧w'.cell? ⟨w.heap.size+1,0,none⟩=some (.bool true)∧w'.cell? ⟨w.heap.size+1,1,none⟩=some (.slice am lm km)∧w'.cell? ⟨w.heap.size+1,2,none⟩=some (.slice ae le ke)) (first | with_reducible exact⟨q1,q2,q3,r1,r2,r3⟩ | (refine⟨?_,?_,?_,?_,?_,?_⟩<;>go_simp)) (first
   |(go_at_call 77;have _t:=tok1;clear tok1 _t;(with_reducible refine(zgb _ _ n m _ g1 g3 T1.out T3.out).mono ?_);rintro e9 w3 ⟨p1,rfl,hp1,hp2⟩
     have X4:=HX3.out.belowS hp2
     have Y4:=HY3.out.belowS hp2
     have HX4:=zH X4
     have HY4:=zH Y4
     obtain⟨_,q1,q2,q3,q4,q5,q6⟩:=X4
     obtain⟨_,r1,r2,r3,r4,r5,r6⟩:=Y4)
   |(go_at_call 77;(with_reducible refine(zgb _ _ d e _ (g2.below hp2) (g4.below hp2) T4.out T2.out).mono ?_);rintro e9 w4 ⟨p3,rfl,hp3,hp4⟩
     have hp24:=zaa hp2 hp4
     have hp14:=hp1.below hp4
     have X5:=HX4.out.belowS hp4
     have Y5:=HY4.out.belowS hp4
     have HX5:=zH X5
     have HY5:=zH Y5
     obtain⟨_,q1,q2,q3,q4,q5,q6⟩:=X5
     obtain⟨_,r1,r2,r3,r4,r5,r6⟩:=Y5)
   |(go_at_call 79;(with_reducible refine(zub _ p1 p3 (n*m) (d*e) _ hp14.nat hp3.nat HDE.out N1.out N2.out).mono ?_);rintro e9 w5 ⟨v,er,rfl,hv1,hv2,hv3⟩
     obtain⟨t9,x9,y9,rfl,⟨a1,l91,k1,rfl,_⟩,⟨a2,l92,k2,rfl,_⟩⟩:=zpb (w0:=w) hv2 hv3
     have hp26:=zaa hp24 hv1
     have X6:=HX5.out.belowS hv1
     have Y6:=HY5.out.belowS hv1
     have Z6:=HZ3.out.belowS hp26
     have HZ6:=zH Z6
     obtain⟨_,q1,q2,q3,q4,q5,q6⟩:=X6
     obtain⟨_,r1,r2,r3,r4,r5,r6⟩:=Y6
     obtain⟨_,z1,z2,z3,z4,z5,z6⟩:=Z6))
  all_goals
   go_wp2_with fail
   refine zoa rfl rfl Try.aggF Try.sizeF (HZ6.out.set _ _ _) rfl ?_
   rw[HQ.out]
   exact⟨_,_,rfl,zga (hD.trans (hp26.mono hD.size)) (by omega) _ _ _,fun h=>⟨(hv2 h).1,(hv2 h).2.set3 HZ6.out (fun z=>by simp) (fun z=>by simp) _ _ _⟩,hv3⟩
 ·go_region_held3 (fun w'=>w'.cell? ⟨w.heap.size,0,none⟩=some (.bool true)∧w'.cell? ⟨w.heap.size,1,none⟩=some (.slice an ln kn)∧w'.cell? ⟨w.heap.size,2,none⟩=some (.slice ad ld kd)∧w'.cell? ⟨w.heap.size+1,0,none⟩=some (.bool false)∧w'.cell? ⟨w.heap.size+1,1,none⟩=some (.slice am lm km)∧w'.cell? ⟨w.heap.size+1,2,none⟩=some (.slice ae le ke)) (first | with_reducible exact⟨q1,q2,q3,r1,r2,r3⟩ | (refine⟨?_,?_,?_,?_,?_,?_⟩<;>go_simp)) (first
   |(go_at_call 77;have _t:=tok1;clear tok1 _t;(with_reducible refine(zgb _ _ n m _ g1 g3 T1.out T3.out).mono ?_);rintro e9 w3 ⟨p1,rfl,hp1,hp2⟩
     have X4:=HX3.out.belowS hp2
     have Y4:=HY3.out.belowS hp2
     have HX4:=zH X4
     have HY4:=zH Y4
     obtain⟨_,q1,q2,q3,q4,q5,q6⟩:=X4
     obtain⟨_,r1,r2,r3,r4,r5,r6⟩:=Y4)
   |(go_at_call 77;(with_reducible refine(zgb _ _ d e _ (g2.below hp2) (g4.below hp2) T4.out T2.out).mono ?_);rintro e9 w4 ⟨p3,rfl,hp3,hp4⟩
     have hp24:=zaa hp2 hp4
     have hp14:=hp1.below hp4
     have X5:=HX4.out.belowS hp4
     have Y5:=HY4.out.belowS hp4
     have HX5:=zH X5
     have HY5:=zH Y5
     obtain⟨_,q1,q2,q3,q4,q5,q6⟩:=X5
     obtain⟨_,r1,r2,r3,r4,r5,r6⟩:=Y5)
   |(go_at_call 79;(with_reducible refine(zub _ p1 p3 (n*m) (d*e) _ hp14.nat hp3.nat HDE.out N1.out N2.out).mono ?_);rintro e9 w5 ⟨v,er,rfl,hv1,hv2,hv3⟩
     obtain⟨t9,x9,y9,rfl,⟨a1,l91,k1,rfl,_⟩,⟨a2,l92,k2,rfl,_⟩⟩:=zpb (w0:=w) hv2 hv3
     have hp26:=zaa hp24 hv1
     have X6:=HX5.out.belowS hv1
     have Y6:=HY5.out.belowS hv1
     have Z6:=HZ3.out.belowS hp26
     have HZ6:=zH Z6
     obtain⟨_,q1,q2,q3,q4,q5,q6⟩:=X6
     obtain⟨_,r1,r2,r3,r4,r5,r6⟩:=Y6
     obtain⟨_,z1,z2,z3,z4,z5,z6⟩:=Z6))
  all_goals
   go_wp2_with fail
   refine zoa rfl rfl Try.aggF Try.sizeF (HZ6.out.set _ _ _) rfl ?_
   rw[HQ.out]
   exact⟨_,_,rfl,zga (hD.trans (hp26.mono hD.size)) (by omega) _ _ _,fun h=>⟨(hv2 h).1,(hv2 h).2.set3 HZ6.out (fun z=>by simp) (fun z=>by simp) _ _ _⟩,hv3⟩
 ·go_region_held3 (fun w'=>w'.cell? ⟨w.heap.size,0,none⟩=some (.bool true)∧w'.cell? ⟨w.heap.size,1,none⟩=some (.slice an ln kn)∧w'.cell? ⟨w.heap.size,2,none⟩=some (.slice ad ld kd)∧w'.cell? ⟨w.heap.size+1,0,none⟩=some (.bool true)∧w'.cell? ⟨w.heap.size+1,1,none⟩=some (.slice am lm km)∧w'.cell? ⟨w.heap.size+1,2,none⟩=some (.slice ae le ke)) (first | with_reducible exact⟨q1,q2,q3,r1,r2,r3⟩ | (refine⟨?_,?_,?_,?_,?_,?_⟩<;>go_simp)) (first
   |(go_at_call 77;have _t:=tok1;clear tok1 _t;(with_reducible refine(zgb _ _ n m _ g1 g3 T1.out T3.out).mono ?_);rintro e9 w3 ⟨p1,rfl,hp1,hp2⟩
     have X4:=HX3.out.belowS hp2
     have Y4:=HY3.out.belowS hp2
     have HX4:=zH X4
     have HY4:=zH Y4
     obtain⟨_,q1,q2,q3,q4,q5,q6⟩:=X4
     obtain⟨_,r1,r2,r3,r4,r5,r6⟩:=Y4)
   |(go_at_call 77;(with_reducible refine(zgb _ _ d e _ (g2.below hp2) (g4.below hp2) T4.out T2.out).mono ?_);rintro e9 w4 ⟨p3,rfl,hp3,hp4⟩
     have hp24:=zaa hp2 hp4
     have hp14:=hp1.below hp4
     have X5:=HX4.out.belowS hp4
     have Y5:=HY4.out.belowS hp4
     have HX5:=zH X5
     have HY5:=zH Y5
     obtain⟨_,q1,q2,q3,q4,q5,q6⟩:=X5
     obtain⟨_,r1,r2,r3,r4,r5,r6⟩:=Y5)
   |(go_at_call 79;(with_reducible refine(zub _ p1 p3 (n*m) (d*e) _ hp14.nat hp3.nat HDE.out N1.out N2.out).mono ?_);rintro e9 w5 ⟨v,er,rfl,hv1,hv2,hv3⟩
     obtain⟨t9,x9,y9,rfl,⟨a1,l91,k1,rfl,_⟩,⟨a2,l92,k2,rfl,_⟩⟩:=zpb (w0:=w) hv2 hv3
     have hp26:=zaa hp24 hv1
     have X6:=HX5.out.belowS hv1
     have Y6:=HY5.out.belowS hv1
     have Z6:=HZ3.out.belowS hp26
     have HZ6:=zH Z6
     obtain⟨_,q1,q2,q3,q4,q5,q6⟩:=X6
     obtain⟨_,r1,r2,r3,r4,r5,r6⟩:=Y6
     obtain⟨_,z1,z2,z3,z4,z5,z6⟩:=Z6))
  all_goals
   go_wp2_with fail
   refine zoa rfl rfl Try.aggF Try.sizeF (HZ6.out.set _ _ _) rfl ?_
   rw[HQ.out]
   exact⟨_,_,rfl,zga (hD.trans (hp26.mono hD.size)) (by omega) _ _ _,fun h=>⟨(hv2 h).1,(hv2 h).2.set3 HZ6.out (fun z=>by simp) (fun z=>by simp) _ _ _⟩,hv3⟩
set_option maxRecDepth 100000 in
theorem quo_frac (va vb:Value) (s t:Bool) (n d m e:Nat) (w:World) (ha:zdc w va s n d) (hb:zdc w vb t m e) (h1:okN n d) (h2:okN m e) (hm:m≠0):
 Calls Try.prog 102 #[va,vb] w (zmi w (fq s n d/fq t m e)):=by
 have hA:=ha
 have hB:=hb
 obtain⟨xn,xd,rfl,hxn,hxd⟩:=ha
 obtain⟨yn,yd,rfl,hyn,hyd⟩:=hb
 obtain⟨an,ln,kn,rfl,_⟩:=hxn.slen.1
 obtain⟨ad,ld,kd,rfl,_⟩:=hxd.slen.1
 obtain⟨am,lm,km,rfl,_⟩:=hyn.slen.1
 obtain⟨ae,le,ke,rfl,_⟩:=hyd.slen.1
 have HQ:=zH (fq_quo s t (n:=n) (d:=d) (m:=m) (e:=e) hm h2.1)
 have K1:=zH h1
 have K2:=zH h2
 have HM:=zH hm
 clear h1 h2
 go_enter Try.func102,Try.ntmps102
 go_wp2_with fail
 obtain⟨W,hW⟩:∃W,W=(((w.alloc (.cells #[.bool s, .slice an ln kn, .slice ad ld kd] 32)).alloc (.cells #[.bool t, .slice am lm km, .slice ae le ke] 32)).alloc (.cells #[.bool false, .slice none 0 0, .slice none 0 0] 32)):=⟨_,rfl⟩
 obtain⟨bx,byy,bz,hbw⟩:=zmc w 32 _ _ _ _ _ _ _ _ _ W hW
 rw[←hW]
 clear hW
 have HBX:=zH bx
 have HBY:=zH byy
 have HBZ:=zH bz
 obtain⟨_,q1,q2,q3,q4,q5,q6⟩:=bx
 obtain⟨_,r1,r2,r3,r4,r5,r6⟩:=byy
 go_wp2_with (first
  |(go_at_call 76;first
    |((with_reducible refine(zrd _ s n d _ (hA.below hbw) K1.out).mono ?_);rintro e9 w1 ⟨rfl,hv1⟩
      obtain⟨_,f1,f2,f3,f4,f5,f6⟩:=HBY.out.belowS hv1
      have hbw1:=hbw.trans (hv1.mono hbw.size))
    |((with_reducible refine(zrd _ t m e _ (hB.below hbw1) K2.out).mono ?_);rintro e9 w2 ⟨rfl,hv2⟩
      have hbx2:=(HBX.out.belowS hv1).belowS hv2
      have hby2:=(HBY.out.belowS hv1).belowS hv2
      have hbz2:=(HBZ.out.belowS hv1).belowS hv2
      have hbw2:=hbw1.trans (hv2.mono hbw1.size)
      clear f1 f2 f3 f4 f5 f6
      obtain⟨_,f1,f2,f3,f4,f5,f6⟩:=id hby2))
  |(go_at_call 94;(with_reducible refine(zih _ t m e _ (hB.below hbw2)).mono ?_);rw[decide_eq_false HM.out];rintro e9 w2z ⟨rfl,hvz⟩
    have hbx2:=hbx2.belowS hvz
    have hby2:=hby2.belowS hvz
    have hbz2:=hbz2.belowS hvz
    have hbw2:=hbw2.trans (hvz.mono hbw2.size)))
 clear q1 q2 q3 q4 q5 q6 r1 r2 r3 r4 r5 r6 f1 f2 f3 f4 f5 f6 hvz
 have hd2:=zja (B:=w2z.heap.size) w2z
 have hD:=hbw2.trans (hd2.mono hbw2.size)
 have hbx3:=hbx2.belowS hd2
 have hby3:=hby2.belowS hd2
 have hbz3:=hbz2.belowS hd2
 have HX3:=zH hbx3
 have HY3:=zH hby3
 have HZ3:=zH hbz3
 clear hbx2 hby2 hbz2 hbw2 hv1 hv2 hbw hbw1 HBX HBY HBZ bz hd2
 obtain⟨_,q1,q2,q3,q4,q5,q6⟩:=hbx3
 obtain⟨_,r1,r2,r3,r4,r5,r6⟩:=hby3
 obtain⟨_,z1,z2,z3,z4,z5,z6⟩:=hbz3
 have g1:=hxn.below hD
 have g2:=hxd.below hD
 have g3:=hyn.below hD
 have g4:=hyd.below hD
 have l1:=zH (zrc K1.out)
 have l2:=zH (zrc K2.out)
 have T1:=zH (Nat.le_trans l1.out.1 (show 128≤256 by decide))
 have T2:=zH (Nat.le_trans l2.out.2 (show 128≤256 by decide))
 have T3:=zH (Nat.le_trans l2.out.1 (show 128≤256 by decide))
 have T4:=zH (Nat.le_trans l1.out.2 (show 128≤256 by decide))
 have N1:=zH (Nat.le_trans (zsd l1.out.1 l2.out.2) (show 128+128≤512 by decide))
 have N2:=zH (Nat.le_trans (zsd l1.out.2 l2.out.1) (show 128+128≤512 by decide))
 have HDE:Hid (d*m≠0):=zH (Nat.mul_ne_zero K1.out.1 HM.out)
 have tok1:True:=trivial
 rcases s with _ | _<;>rcases t with _ | _
 ·go_region_held3 (fun w'=>w'.cell? ⟨w.heap.size,0,none⟩=some (.bool false)∧w'.cell? ⟨w.heap.size,1,none⟩=some (.slice an ln kn)∧w'.cell? ⟨w.heap.size,2,none⟩=some (.slice ad ld kd)∧w'.cell? ⟨w.heap.size+1,0,none⟩=some (.bool false)∧w'.cell? ⟨w.heap.size+1,1,none⟩=some (.slice am lm km)∧w'.cell? ⟨w.heap.size+1,2,none⟩=some (.slice ae le ke)) (first | with_reducible exact⟨q1,q2,q3,r1,r2,r3⟩ | (refine⟨?_,?_,?_,?_,?_,?_⟩<;>go_simp)) (first
   |(go_at_call 77;have _t:=tok1;clear tok1 _t;(with_reducible refine(zgb _ _ n e _ g1 g4 T1.out T2.out).mono ?_);rintro e9 w3 ⟨p1,rfl,hp1,hp2⟩
     have X4:=HX3.out.belowS hp2
     have Y4:=HY3.out.belowS hp2
     have HX4:=zH X4
     have HY4:=zH Y4
     obtain⟨_,q1,q2,q3,q4,q5,q6⟩:=X4
     obtain⟨_,r1,r2,r3,r4,r5,r6⟩:=Y4)
   |(go_at_call 77;(with_reducible refine(zgb _ _ d m _ (g2.below hp2) (g3.below hp2) T4.out T3.out).mono ?_);rintro e9 w4 ⟨p3,rfl,hp3,hp4⟩
     have hp24:=zaa hp2 hp4
     have hp14:=hp1.below hp4
     have X5:=HX4.out.belowS hp4
     have Y5:=HY4.out.belowS hp4
     have HX5:=zH X5
     have HY5:=zH Y5
     obtain⟨_,q1,q2,q3,q4,q5,q6⟩:=X5
     obtain⟨_,r1,r2,r3,r4,r5,r6⟩:=Y5)
   |(go_at_call 79;(with_reducible refine(zub _ p1 p3 (n*e) (d*m) _ hp14.nat hp3.nat HDE.out N1.out N2.out).mono ?_);rintro e9 w5 ⟨v,er,rfl,hv1,hv2,hv3⟩
     obtain⟨t9,x9,y9,rfl,⟨a1,l91,k1,rfl,_⟩,⟨a2,l92,k2,rfl,_⟩⟩:=zpb (w0:=w) hv2 hv3
     have hp26:=zaa hp24 hv1
     have X6:=HX5.out.belowS hv1
     have Y6:=HY5.out.belowS hv1
     have Z6:=HZ3.out.belowS hp26
     have HZ6:=zH Z6
     obtain⟨_,q1,q2,q3,q4,q5,q6⟩:=X6
     obtain⟨_,r1,r2,r3,r4,r5,r6⟩:=Y6
     obtain⟨_,z1,z2,z3,z4,z5,z6⟩:=Z6))
  all_goals
   go_wp2_with fail
   refine zoa rfl rfl Try.aggF Try.sizeF (HZ6.out.set _ _ _) rfl ?_
   rw[HQ.out]
   exact⟨_,_,rfl,zga (hD.trans (hp26.mono hD.size)) (by omega) _ _ _,fun h=>⟨(hv2 h).1,(hv2 h).2.set3 HZ6.out (fun z=>by simp) (fun z=>by simp) _ _ _⟩,hv3⟩
 ·go_region_held3 (fun w'=>w'.cell? ⟨w.heap.size,0,none⟩=some (.bool false)∧w'.cell? ⟨w.heap.size,1,none⟩=some (.slice an ln kn)∧w'.cell? ⟨w.heap.size,2,none⟩=some (.slice ad ld kd)∧w'.cell? ⟨w.heap.size+1,0,none⟩=some (.bool true)∧w'.cell? ⟨w.heap.size+1,1,none⟩=some (.slice am lm km)∧w'.cell? ⟨w.heap.size+1,2,none⟩=some (.slice ae le ke)) (first | with_reducible exact⟨q1,q2,q3,r1,r2,r3⟩ | (refine⟨?_,?_,?_,?_,?_,?_⟩<;>go_simp)) (first
   |(go_at_call 77;have _t:=tok1;clear tok1 _t;(with_reducible refine(zgb _ _ n e _ g1 g4 T1.out T2.out).mono ?_);rintro e9 w3 ⟨p1,rfl,hp1,hp2⟩
     have X4:=HX3.out.belowS hp2
     have Y4:=HY3.out.belowS hp2
     have HX4:=zH X4
     have HY4:=zH Y4
     obtain⟨_,q1,q2,q3,q4,q5,q6⟩:=X4
     obtain⟨_,r1,r2,r3,r4,r5,r6⟩:=Y4)
   |(go_at_call 77;(with_reducible refine(zgb _ _ d m _ (g2.below hp2) (g3.below hp2) T4.out T3.out).mono ?_);rintro e9 w4 ⟨p3,rfl,hp3,hp4⟩
     have hp24:=zaa hp2 hp4
     have hp14:=hp1.below hp4
     have X5:=HX4.out.belowS hp4
     have Y5:=HY4.out.belowS hp4
     have HX5:=zH X5
     have HY5:=zH Y5
     obtain⟨_,q1,q2,q3,q4,q5,q6⟩:=X5
     obtain⟨_,r1,r2,r3,r4,r5,r6⟩:=Y5)
   |(go_at_call 79;(with_reducible refine(zub _ p1 p3 (n*e) (d*m) _ hp14.nat hp3.nat HDE.out N1.out N2.out).mono ?_);rintro e9 w5 ⟨v,er,rfl,hv1,hv2,hv3⟩
     obtain⟨t9,x9,y9,rfl,⟨a1,l91,k1,rfl,_⟩,⟨a2,l92,k2,rfl,_⟩⟩:=zpb (w0:=w) hv2 hv3
     have hp26:=zaa hp24 hv1
     have X6:=HX5.out.belowS hv1
     have Y6:=HY5.out.belowS hv1
     have Z6:=HZ3.out.belowS hp26
     have HZ6:=zH Z6
     obtain⟨_,q1,q2,q3,q4,q5,q6⟩:=X6
     obtain⟨_,r1,r2,r3,r4,r5,r6⟩:=Y6
     obtain⟨_,z1,z2,z3,z4,z5,z6⟩:=Z6))
  all_goals
   go_wp2_with fail
   refine zoa rfl rfl Try.aggF Try.sizeF (HZ6.out.set _ _ _) rfl ?_
   rw[HQ.out]
   exact⟨_,_,rfl,zga (hD.trans (hp26.mono hD.size)) (by omega) _ _ _,fun h=>⟨(hv2 h).1,(hv2 h).2.set3 HZ6.out (fun z=>by simp) (fun z=>by simp) _ _ _⟩,hv3⟩
 ·go_region_held3 (fun w'=>w'.cell? ⟨w.heap.size,0,none⟩=some (.bool true)∧w'.cell? ⟨w.heap.size,1,none⟩=some (.slice an ln kn)∧w'.cell? ⟨w.heap.size,2,none⟩=some (.slice ad ld kd)∧w'.cell? ⟨w.heap.size+1,0,none⟩=some (.bool false)∧w'.cell? ⟨w.heap.size+1,1,none⟩=some (.slice am lm km)∧w'.cell? ⟨w.heap.size+1,2,none⟩=some (.slice ae le ke)) (first | with_reducible exact⟨q1,q2,q3,r1,r2,r3⟩ | (refine⟨?_,?_,?_,?_,?_,?_⟩<;>go_simp)) (first
   |(go_at_call 77;have _t:=tok1;clear tok1 _t;(with_reducible refine(zgb _ _ n e _ g1 g4 T1.out T2.out).mono ?_);rintro e9 w3 ⟨p1,rfl,hp1,hp2⟩
     have X4:=HX3.out.belowS hp2
     have Y4:=HY3.out.belowS hp2
     have HX4:=zH X4
     have HY4:=zH Y4
     obtain⟨_,q1,q2,q3,q4,q5,q6⟩:=X4
     obtain⟨_,r1,r2,r3,r4,r5,r6⟩:=Y4)
   |(go_at_call 77;(with_reducible refine(zgb _ _ d m _ (g2.below hp2) (g3.below hp2) T4.out T3.out).mono ?_);rintro e9 w4 ⟨p3,rfl,hp3,hp4⟩
     have hp24:=zaa hp2 hp4
     have hp14:=hp1.below hp4
     have X5:=HX4.out.belowS hp4
     have Y5:=HY4.out.belowS hp4
     have HX5:=zH X5
     have HY5:=zH Y5
     obtain⟨_,q1,q2,q3,q4,q5,q6⟩:=X5
     obtain⟨_,r1,r2,r3,r4,r5,r6⟩:=Y5)
   |(go_at_call 79;(with_reducible refine(zub _ p1 p3 (n*e) (d*m) _ hp14.nat hp3.nat HDE.out N1.out N2.out).mono ?_);rintro e9 w5 ⟨v,er,rfl,hv1,hv2,hv3⟩
     obtain⟨t9,x9,y9,rfl,⟨a1,l91,k1,rfl,_⟩,⟨a2,l92,k2,rfl,_⟩⟩:=zpb (w0:=w) hv2 hv3
     have hp26:=zaa hp24 hv1
     have X6:=HX5.out.belowS hv1
     have Y6:=HY5.out.belowS hv1
     have Z6:=HZ3.out.belowS hp26
     have HZ6:=zH Z6
     obtain⟨_,q1,q2,q3,q4,q5,q6⟩:=X6
     obtain⟨_,r1,r2,r3,r4,r5,r6⟩:=Y6
     obtain⟨_,z1,z2,z3,z4,z5,z6⟩:=Z6))
  all_goals
   go_wp2_with fail
   refine zoa rfl rfl Try.aggF Try.sizeF (HZ6.out.set _ _ _) rfl ?_
   rw[HQ.out]
   exact⟨_,_,rfl,zga (hD.trans (hp26.mono hD.size)) (by omega) _ _ _,fun h=>⟨(hv2 h).1,(hv2 h).2.set3 HZ6.out (fun z=>by simp) (fun z=>by simp) _ _ _⟩,hv3⟩
 ·go_region_held3 (fun w'=>w'.cell? ⟨w.heap.size,0,none⟩=some (.bool true)∧w'.cell? ⟨w.heap.size,1,none⟩=some (.slice an ln kn)∧w'.cell? ⟨w.heap.size,2,none⟩=some (.slice ad ld kd)∧w'.cell? ⟨w.heap.size+1,0,none⟩=some (.bool true)∧w'.cell? ⟨w.heap.size+1,1,none⟩=some (.slice am lm km)∧w'.cell? ⟨w.heap.size+1,2,none⟩=some (.slice ae le ke)) (first | with_reducible exact⟨q1,q2,q3,r1,r2,r3⟩ | (refine⟨?_,?_,?_,?_,?_,?_⟩<;>go_simp)) (first
   |(go_at_call 77;have _t:=tok1;clear tok1 _t;(with_reducible refine(zgb _ _ n e _ g1 g4 T1.out T2.out).mono ?_);rintro e9 w3 ⟨p1,rfl,hp1,hp2⟩
     have X4:=HX3.out.belowS hp2
     have Y4:=HY3.out.belowS hp2
     have HX4:=zH X4
     have HY4:=zH Y4
     obtain⟨_,q1,q2,q3,q4,q5,q6⟩:=X4
     obtain⟨_,r1,r2,r3,r4,r5,r6⟩:=Y4)
   |(go_at_call 77;(with_reducible refine(zgb _ _ d m _ (g2.below hp2) (g3.below hp2) T4.out T3.out).mono ?_);rintro e9 w4 ⟨p3,rfl,hp3,hp4⟩
     have hp24:=zaa hp2 hp4
     have hp14:=hp1.below hp4
     have X5:=HX4.out.belowS hp4
     have Y5:=HY4.out.belowS hp4
     have HX5:=zH X5
     have HY5:=zH Y5
     obtain⟨_,q1,q2,q3,q4,q5,q6⟩:=X5
     obtain⟨_,r1,r2,r3,r4,r5,r6⟩:=Y5)
   |(go_at_call 79;(with_reducible refine(zub _ p1 p3 (n*e) (d*m) _ hp14.nat hp3.nat HDE.out N1.out N2.out).mono ?_);rintro e9 w5 ⟨v,er,rfl,hv1,hv2,hv3⟩
     obtain⟨t9,x9,y9,rfl,⟨a1,l91,k1,rfl,_⟩,⟨a2,l92,k2,rfl,_⟩⟩:=zpb (w0:=w) hv2 hv3
     have hp26:=zaa hp24 hv1
     have X6:=HX5.out.belowS hv1
     have Y6:=HY5.out.belowS hv1
     have Z6:=HZ3.out.belowS hp26
     have HZ6:=zH Z6
     obtain⟨_,q1,q2,q3,q4,q5,q6⟩:=X6
     obtain⟨_,r1,r2,r3,r4,r5,r6⟩:=Y6
     obtain⟨_,z1,z2,z3,z4,z5,z6⟩:=Z6))
  all_goals
   go_wp2_with fail
   refine zoa rfl rfl Try.aggF Try.sizeF (HZ6.out.set _ _ _) rfl ?_
   rw[HQ.out]
   exact⟨_,_,rfl,zga (hD.trans (hp26.mono hD.size)) (by omega) _ _ _,fun h=>⟨(hv2 h).1,(hv2 h).2.set3 HZ6.out (fun z=>by simp) (fun z=>by simp) _ _ _⟩,hv3⟩
set_option maxRecDepth 100000 in
set_option maxHeartbeats 1600000 in
theorem sub_frac (va vb:Value) (s t:Bool) (n d m e:Nat) (w:World) (ha:zdc w va s n d) (hb:zdc w vb t m e) (h1:okN n d) (h2:okN m e):
 Calls Try.prog 59 #[va,vb] w (zmi w (fq s n d-fq t m e)):=by
 have hA:=ha
 have hB:=hb
 obtain⟨xn,xd,rfl,hxn,hxd⟩:=ha
 obtain⟨yn,yd,rfl,hyn,hyd⟩:=hb
 obtain⟨an,ln,kn,rfl,_⟩:=hxn.slen.1
 obtain⟨ad,ld,kd,rfl,_⟩:=hxd.slen.1
 obtain⟨am,lm,km,rfl,_⟩:=hyn.slen.1
 obtain⟨ae,le,ke,rfl,_⟩:=hyd.slen.1
 have HQ:=zH (fq_sub s t n d m e h2.1)
 have K1:=zH h1
 have K2:=zH h2
 clear h1 h2 hxn hxd hyn hyd
 go_enter Try.func59,Try.ntmps59
 go_wp2_with fail
 obtain⟨W,hW⟩:∃W,W=(((w.alloc (.cells #[.bool s, .slice an ln kn, .slice ad ld kd] 32)).alloc (.cells #[.bool t, .slice am lm km, .slice ae le ke] 32)).alloc (.cells #[.bool false, .slice none 0 0, .slice none 0 0] 32)):=⟨_,rfl⟩
 obtain⟨bx,byy,bz,hbw⟩:=zmc w 32 _ _ _ _ _ _ _ _ _ W hW
 rw[←hW]
 clear hW
 have hd2:=zja (B:=W.heap.size) W
 have hD:=hbw.trans (hd2.mono hbw.size)
 have hbx3:=bx.belowS hd2
 have hby3:=byy.belowS hd2
 have hbz3:=bz.belowS hd2
 have HX3:=zH hbx3
 have HY3:=zH hby3
 have HZ3:=zH hbz3
 have gA:=hA.below hD
 have gB:=hB.below hD
 clear bx byy bz hbw hA hB hd2
 obtain⟨_,q1,q2,q3,q4,q5,q6⟩:=hbx3
 obtain⟨_,r1,r2,r3,r4,r5,r6⟩:=hby3
 obtain⟨_,z1,z2,z3,z4,z5,z6⟩:=hbz3
 go_region_held3 (fun w'=>w'.cell? ⟨w.heap.size,0,none⟩=some (.bool s)∧w'.cell? ⟨w.heap.size,1,none⟩=some (.slice an ln kn)∧w'.cell? ⟨w.heap.size,2,none⟩=some (.slice ad ld kd)∧w'.cell? ⟨w.heap.size+1,0,none⟩=some (.bool t)∧w'.cell? ⟨w.heap.size+1,1,none⟩=some (.slice am lm km)∧w'.cell? ⟨w.heap.size+1,2,none⟩=some (.slice ae le ke)) (first | with_reducible exact⟨q1,q2,q3,r1,r2,r3⟩ | (refine⟨?_,?_,?_,?_,?_,?_⟩<;>go_simp)) (first
  |(go_at_call 97;(with_reducible refine(fminus_any _ t m e _ gB).mono ?_);rintro e9 w3 ⟨v3,rfl,hv3,hb3⟩
    have gA3:=gA.below hb3
    have X4:=HX3.out.belowS hb3
    have Y4:=HY3.out.belowS hb3
    have HX4:=zH X4
    have HY4:=zH Y4
    obtain⟨_,q1,q2,q3,q4,q5,q6⟩:=X4
    obtain⟨_,r1,r2,r3,r4,r5,r6⟩:=Y4)
  |(go_at_call 42;(with_reducible refine(zco _ _ s (!t) n d m e _ gA3 hv3 K1.out K2.out).mono ?_);rintro e9 w5 ⟨v,er,rfl,hv1,hv2,hv4⟩
    obtain⟨t9,x9,y9,rfl,⟨a1,l91,k1,rfl,_⟩,⟨a2,l92,k2,rfl,_⟩⟩:=zpb (w0:=w) hv2 hv4
    have hp26:=zaa hb3 hv1
    have X6:=HX4.out.belowS hv1
    have Y6:=HY4.out.belowS hv1
    have Z6:=HZ3.out.belowS hp26
    have HZ6:=zH Z6
    obtain⟨_,q1,q2,q3,q4,q5,q6⟩:=X6
    obtain⟨_,r1,r2,r3,r4,r5,r6⟩:=Y6
    obtain⟨_,z1,z2,z3,z4,z5,z6⟩:=Z6))
 all_goals
  go_wp2_with fail
  refine zoa rfl rfl Try.aggF Try.sizeF (HZ6.out.set _ _ _) rfl ?_
  rw[HQ.out]
  exact⟨_,_,rfl,zga (hD.trans (hp26.mono hD.size)) (by omega) _ _ _,fun h=>⟨(hv2 h).1,(hv2 h).2.set3 HZ6.out (fun z=>by simp) (fun z=>by simp) _ _ _⟩,hv4⟩
theorem sub_can (va vb:Value) (p q:Rat) (w:World) (ha:zqa w va p) (hb:zqa w vb q) (hp:fits p) (hq:fits q) (hr:fits (p-q)):Calls Try.prog 59 #[va,vb] w (RF0 w (p-q)):=by
 have:=sub_frac va vb _ _ _ _ _ _ w ha.raw hb.raw (zuc hp) (zuc hq)
 rw[zvb,zvb]at this
 exact this.mono fun _ _ h=>h.ok rfl hr
theorem zbl (va vb:Value) (p q:Rat) (w:World) (ha:zqa w va p) (hb:zqa w vb q) (hp:fits p) (hq:fits q) (hr:fits (p*q)):Calls Try.prog 60 #[va,vb] w (RF0 w (p*q)):=by
 have:=mul_frac va vb _ _ _ _ _ _ w ha.raw hb.raw (zuc hp) (zuc hq)
 rw[zvb,zvb]at this
 exact this.mono fun _ _ h=>h.ok rfl hr
theorem add_can (va vb:Value) (p q:Rat) (w:World) (ha:zqa w va p) (hb:zqa w vb q) (hp:fits p) (hq:fits q) (hr:fits (p+q)):Calls Try.prog 42 #[va,vb] w (RF0 w (p+q)):=by
 have:=zco va vb _ _ _ _ _ _ w ha.raw hb.raw (zuc hp) (zuc hq)
 rw[zvb,zvb]at this
 exact this.mono fun _ _ h=>h.ok rfl hr
theorem quo_can (va vb:Value) (p q:Rat) (w:World) (ha:zqa w va p) (hb:zqa w vb q) (hp:fits p) (hq:fits q) (hq0:q≠0) (hr:fits (p/q)):Calls Try.prog 102 #[va,vb] w (RF0 w (p/q)):=by
 have:=quo_frac va vb _ _ _ _ _ _ w ha.raw hb.raw (zuc hp) (zuc hq) (fun h=>hq0 (Rat.num_eq_zero.1 (by omega)))
 rw[zvb,zvb]at this
 exact this.mono fun _ _ h=>h.ok rfl hr
set_option maxRecDepth 100000 in
set_option maxHeartbeats 1600000 in
theorem cmp_frac (va vb:Value) (s t:Bool) (n d m e:Nat) (w:World) (ha:zdc w va s n d) (hb:zdc w vb t m e) (h1:okN n d) (h2:okN m e):
 Calls Try.prog 57 #[va,vb] w fun en w'=>en= .returned (.tuple #[.int .i64 (cmpR (fq s n d) (fq t m e)), .int .i64 0])∧Below w.heap.size w w':=by
 have hA:=ha
 have hB:=hb
 obtain⟨xn,xd,rfl,hxn,hxd⟩:=ha
 obtain⟨yn,yd,rfl,hyn,hyd⟩:=hb
 obtain⟨an,ln,kn,rfl,_⟩:=hxn.slen.1
 obtain⟨ad,ld,kd,rfl,_⟩:=hxd.slen.1
 obtain⟨am,lm,km,rfl,_⟩:=hyn.slen.1
 obtain⟨ae,le,ke,rfl,_⟩:=hyd.slen.1
 have K1:=zH h1
 have K2:=zH h2
 have HR:=zH (cmpR_eq s t n d m e h1.1 h2.1)
 clear h1 h2
 go_enter Try.func57,Try.ntmps57
 go_wp2_with fail
 obtain⟨W,hW⟩:∃W,W=((w.alloc (.cells #[.bool s, .slice an ln kn, .slice ad ld kd] 32)).alloc (.cells #[.bool t, .slice am lm km, .slice ae le ke] 32)):=⟨_,rfl⟩
 obtain⟨bx,byy,hbw⟩:=zcf w 32 _ _ _ _ _ _ W hW
 rw[←hW]
 clear hW
 have HBX:=zH bx
 have HBY:=zH byy
 obtain⟨_,q1,q2,q3,q4,q5,q6⟩:=bx
 obtain⟨_,r1,r2,r3,r4,r5,r6⟩:=byy
 go_wp2_with (first
  |(go_at_call 76;first
    |((with_reducible refine(zrd _ s n d _ (hA.below hbw) K1.out).mono ?_);rintro e9 w1 ⟨rfl,hv1⟩
      obtain⟨_,f1,f2,f3,f4,f5,f6⟩:=HBY.out.belowS hv1
      have hbw1:=zaa hbw hv1)
    |((with_reducible refine(zrd _ t m e _ (hB.below hbw1) K2.out).mono ?_);rintro e9 w2 ⟨rfl,hv2⟩
      have hbx2:=(HBX.out.belowS hv1).belowS hv2
      have hby2:=(HBY.out.belowS hv1).belowS hv2
      have hbw2:=zaa hbw1 hv2)))
 clear q1 q2 q3 q4 q5 q6 r1 r2 r3 r4 r5 r6 f1 f2 f3 f4 f5 f6
 have hd2:=zja (B:=w2.heap.size) w2
 have hD:=hbw2.trans (hd2.mono hbw2.size)
 have hbx3:=hbx2.belowS hd2
 have hby3:=hby2.belowS hd2
 clear hbx2 hby2 hbw2 hv1 hv2 hbw hbw1 HBX HBY hd2
 have HX3:=zH hbx3
 have HY3:=zH hby3
 obtain⟨_,q1,q2,q3,q4,q5,q6⟩:=hbx3
 obtain⟨_,r1,r2,r3,r4,r5,r6⟩:=hby3
 have g1:=hxn.below hD
 have g2:=hxd.below hD
 have g3:=hyn.below hD
 have g4:=hyd.below hD
 have l1:=zH (zrc K1.out)
 have l2:=zH (zrc K2.out)
 have T1:=zH (Nat.le_trans l1.out.1 (show 128≤256 by decide))
 have T2:=zH (Nat.le_trans l2.out.2 (show 128≤256 by decide))
 have T3:=zH (Nat.le_trans l2.out.1 (show 128≤256 by decide))
 have T4:=zH (Nat.le_trans l1.out.2 (show 128≤256 by decide))
 have tok1:True:=trivial
 go_region_held3 (fun w'=>w'.cell? ⟨w.heap.size,1,none⟩=some (.slice an ln kn)∧w'.cell? ⟨w.heap.size,2,none⟩=some (.slice ad ld kd)∧w'.cell? ⟨w.heap.size+1,1,none⟩=some (.slice am lm km)∧w'.cell? ⟨w.heap.size+1,2,none⟩=some (.slice ae le ke)) (exact⟨q2,q3,r2,r3⟩) (first
  |(go_at_call 77;have _t:=tok1;clear tok1 _t;(with_reducible refine(zgb _ _ n e _ g1 g4 T1.out T2.out).mono ?_);rintro e9 w3 ⟨p1,rfl,hp1,hp2⟩
    have X4:=HX3.out.belowS hp2
    have Y4:=HY3.out.belowS hp2
    have HX4:=zH X4
    have HY4:=zH Y4
    obtain⟨_,q1,q2,q3,q4,q5,q6⟩:=X4
    obtain⟨_,r1,r2,r3,r4,r5,r6⟩:=Y4)
  |(go_at_call 77;(with_reducible refine(zgb _ _ m d _ (g3.below hp2) (g2.below hp2) T3.out T4.out).mono ?_);rintro e9 w4 ⟨p3,rfl,hp3,hp4⟩
    have hp24:=zaa hp2 hp4
    have hp14:=hp1.below hp4
    have X5:=HX4.out.belowS hp4
    have Y5:=HY4.out.belowS hp4
    have HX5:=zH X5
    have HY5:=zH Y5
    obtain⟨_,q1,q2,q3,q4,q5,q6⟩:=X5
    obtain⟨_,r1,r2,r3,r4,r5,r6⟩:=Y5)
  |(go_at_call 80;(with_reducible refine(ztl p1 p3 (n*e) (m*d) _ hp14.nat hp3.nat).mono ?_);rintro e9 w5 ⟨rfl,k9,rfl⟩
    have hp5:=zka (B:=w4.heap.size) w4 k9
    have hp26:=zaa hp24 hp5
    have X6:=HX5.out.belowS hp5
    have Y6:=HY5.out.belowS hp5
    have HX6:=zH X6
    have HY6:=zH Y6
    obtain⟨_,q1,q2,q3,q4,q5,q6⟩:=X6
    obtain⟨_,r1,r2,r3,r4,r5,r6⟩:=Y6))
 have hdw:Below w.heap.size w (w4.drewN k9):=hD.trans (hp26.mono hD.size)
 clear q1 q2 q3 q4 q5 q6 r1 r2 r3 r4 r5 r6 hp5 hp26 hp24 hp14 hp1 hp3 hp2 hp4 hD g1 g2 g3 g4 HX3 HY3 HX4 HY4 HX5 HY5 T1 T2 T3 T4
 generalize w4.drewN k9=W4 at *
 have hcb: -1≤zfj (n*e) (m*d)∧zfj (n*e) (m*d)≤1:=by unfold zfj;split<;>(try split)<;>omega
 obtain⟨hcb1,hcb2⟩:=hcb
 generalize hcn:zfj (n*e) (m*d)=c at *
 have HCN:=zH hcn
 clear hcn
 have hd2:=zja (B:=W4.heap.size) W4
 have hD:=hdw.trans (hd2.mono hdw.size)
 have hbx3:=HX6.out.belowS hd2
 have hby3:=HY6.out.belowS hd2
 have HX7:=zH hbx3
 have HY7:=zH hby3
 clear HX6 HY6
 go_wp2_with fail
 obtain⟨_,q1,q2,q3,q4,q5,q6⟩:=hbx3
 obtain⟨_,r1,r2,r3,r4,r5,r6⟩:=hby3
 rcases s with _ | _<;>rcases t with _ | _
 ·go_region
  all_goals
   go_wp2
   all_goals
    go_ret2
    exact⟨by rw[HR.out];simp[*],hD⟩
 ·go_region_law (refine zxa 94 #[.agg #[.bool true, .slice am lm km, .slice ae le ke]] ?_ ?_ (zih _ true m e _ (hB.below hD)) ?_;go_simp;go_simp;rintro e9 w5 ⟨rfl,hz1⟩;refine⟨_,rfl,?_⟩;obtain⟨_,q1,q2,q3,q4,q5,q6⟩:=HX7.out.belowS hz1;obtain⟨_,r1,r2,r3,r4,r5,r6⟩:=HY7.out.belowS hz1)
  all_goals
   go_wp2
   all_goals
    go_ret2
    exact⟨by rw[HR.out];simp[*],hD.trans (hz1.mono hD.size)⟩
 ·go_region_law (refine zxa 94 #[.agg #[.bool true, .slice an ln kn, .slice ad ld kd]] ?_ ?_ (zih _ true n d _ (hA.below hD)) ?_;go_simp;go_simp;rintro e9 w5 ⟨rfl,hz1⟩;refine⟨_,rfl,?_⟩;obtain⟨_,q1,q2,q3,q4,q5,q6⟩:=HX7.out.belowS hz1;obtain⟨_,r1,r2,r3,r4,r5,r6⟩:=HY7.out.belowS hz1)
  all_goals
   go_wp2
   all_goals
    go_ret2
    exact⟨by rw[HR.out];simp[*],hD.trans (hz1.mono hD.size)⟩
 ·go_region_held3 (fun w'=>w'.cell? ⟨w.heap.size,0,none⟩=some (.bool true)∧w'.cell? ⟨w.heap.size,1,none⟩=some (.slice an ln kn)∧w'.cell? ⟨w.heap.size,2,none⟩=some (.slice ad ld kd)∧w'.cell? ⟨w.heap.size+1,0,none⟩=some (.bool true)∧w'.cell? ⟨w.heap.size+1,1,none⟩=some (.slice am lm km)∧w'.cell? ⟨w.heap.size+1,2,none⟩=some (.slice ae le ke)) (exact⟨q1,q2,q3,r1,r2,r3⟩) (first
  |(go_at_call 94;(with_reducible refine(zih _ true n d _ (hA.below hD)).mono ?_);rintro e9 w5 ⟨rfl,hz1⟩
    have X8:=HX7.out.belowS hz1
    have Y8:=HY7.out.belowS hz1
    have HX8:=zH X8
    have HY8:=zH Y8
    obtain⟨_,q1,q2,q3,q4,q5,q6⟩:=X8
    obtain⟨_,r1,r2,r3,r4,r5,r6⟩:=Y8)
  |(go_at_call 94;(with_reducible refine(zih _ true m e _ ((hB.below hD).below hz1)).mono ?_);rintro e9 w6 ⟨rfl,hz2⟩
    have X9:=HX8.out.belowS hz2
    have Y9:=HY8.out.belowS hz2
    obtain⟨_,q1,q2,q3,q4,q5,q6⟩:=X9
    obtain⟨_,r1,r2,r3,r4,r5,r6⟩:=Y9))
  all_goals
   go_wp2
   all_goals
    go_ret2
    exact⟨by rw[HR.out];simp[*],hD.trans ((zaa hz1 hz2).mono hD.size)⟩
set_option maxHeartbeats 1600000
theorem zqe (w:World):Calls Try.prog 23 #[.int .i64 0] w (RF1 w 0):=by
 go_enter Try.func23,Try.ntmps23
 go_wp2_with (go_at_call 56;(with_reducible refine(make_01 _).mono ?_);rintro e w1 ⟨v,rfl,hv,hb1⟩
              obtain⟨t9,x9,y9,rfl,⟨a1,l91,k1,rfl,_⟩,⟨a2,l92,k2,rfl,_⟩⟩:=hv.isF
              have hr:=((C3.new w 32 (.bool false) (.slice none 0 0) (.slice none 0 0)).belowS hb1).allocS (.cells #[.bool t9, .slice a1 l91 k1, .slice a2 l92 k2] 32)
              have hv2:=hv.below (zca w1 (.cells #[.bool t9, .slice a1 l91 k1, .slice a2 l92 k2] 32))
              have hb2:=zaa (zaa (zca w (.cells #[.bool false, .slice none 0 0, .slice none 0 0] 32)) hb1) (zca w1 (.cells #[.bool t9, .slice a1 l91 k1, .slice a2 l92 k2] 32))
              have HR:=zH hr
              obtain⟨_,d1,d2,d3,d4,d5,d6⟩:=hr)
 refine zab rfl rfl Try.aggF Try.sizeF (HR.out.set _ _ _) rfl ?_
 exact⟨_,rfl,hv2.set3 HR.out (fun z=>by simp) (fun z=>by simp) _ _ _,zga hb2 (Nat.le_refl _) _ _ _⟩
theorem zxk (w:World):Calls Try.prog 23 #[.int .i64 1] w (RF1 w 1):=by
 go_enter Try.func23,Try.ntmps23
 go_wp2_with (go_at_call 56;(with_reducible refine(make_11 _).mono ?_);rintro e w1 ⟨v,rfl,hv,hb1⟩
              obtain⟨t9,x9,y9,rfl,⟨a1,l91,k1,rfl,_⟩,⟨a2,l92,k2,rfl,_⟩⟩:=hv.isF
              have hr:=((C3.new w 32 (.bool false) (.slice none 0 0) (.slice none 0 0)).belowS hb1).allocS (.cells #[.bool t9, .slice a1 l91 k1, .slice a2 l92 k2] 32)
              have hv2:=hv.below (zca w1 (.cells #[.bool t9, .slice a1 l91 k1, .slice a2 l92 k2] 32))
              have hb2:=zaa (zaa (zca w (.cells #[.bool false, .slice none 0 0, .slice none 0 0] 32)) hb1) (zca w1 (.cells #[.bool t9, .slice a1 l91 k1, .slice a2 l92 k2] 32))
              have HR:=zH hr
              obtain⟨_,d1,d2,d3,d4,d5,d6⟩:=hr)
 refine zab rfl rfl Try.aggF Try.sizeF (HR.out.set _ _ _) rfl ?_
 exact⟨_,rfl,hv2.set3 HR.out (fun z=>by simp) (fun z=>by simp) _ _ _,zga hb2 (Nat.le_refl _) _ _ _⟩
theorem pplus_can (va vb:Value) (p q:Rat) (w:World) (ha:zqa w va p) (hb:zqa w vb q) (hp:fits p) (hq:fits q) (hr:fits (p+q)):Calls Try.prog 24 #[va,vb] w (RF1 w (p+q)):=by
 obtain⟨t1,x1,y1,rfl,⟨a11,l11,k11,rfl,_⟩,⟨a12,l12,k12,rfl,_⟩⟩:=ha.isF
 obtain⟨t2,x2,y2,rfl,⟨a21,l21,k21,rfl,_⟩,⟨a22,l22,k22,rfl,_⟩⟩:=hb.isF
 obtain⟨hA,hB,hR,hbw⟩:=zmc w 32 (.bool t1) (.slice a11 l11 k11) (.slice a12 l12 k12) (.bool t2) (.slice a21 l21 k21) (.slice a22 l22 k22) (.bool false) (.slice none 0 0) (.slice none 0 0) _ rfl
 have HR:=zH hR
 have HBW:=zH hbw
 have HA:=zH (ha.below hbw)
 have HB:=zH (hb.below hbw)
 have HF:=zH (And.intro hp (And.intro hq hr))
 obtain⟨_,c0,c1,c2,_,_,_⟩:=id hA
 obtain⟨_,d0,d1,d2,_,_,_⟩:=id hB
 clear hA hB hR ha hb hp hq hr hbw
 go_enter Try.func24,Try.ntmps24
 go_wp2_with (first
  |(go_at_call 42;(with_reducible refine(add_can _ _ p q _ HA.out HB.out HF.out.1 HF.out.2.1 HF.out.2.2).mono ?_);rintro e3 w3 ⟨v3,rfl,hv3,hb3⟩
    obtain⟨t3,x3,y3,rfl,⟨a31,l31,k31,rfl,_⟩,⟨a32,l32,k32,rfl,_⟩⟩:=hv3.isF
    have hba:=zca w3 (.cells #[.bool t3, .slice a31 l31 k31, .slice a32 l32 k32] 32)
    have HR3:=zH (HR.out.belowS (zaa hb3 hba))
    have HV3:=zH (hv3.below hba)
    have HB3:=zH (zaa HBW.out (zaa hb3 hba))
    obtain⟨_,g0,g1,g2,g3,g4,g5⟩:=HR3.out
    clear hv3 hb3 hba))
 refine zab rfl rfl Try.aggF Try.sizeF (HR3.out.set _ _ _) rfl ?_
 exact⟨_,rfl,HV3.out.set3 HR3.out (fun z=>by simp) (fun z=>by simp) _ _ _,zga HB3.out (Nat.le_trans (Nat.le_succ _) (Nat.le_succ _)) _ _ _⟩
theorem zyi (va vb:Value) (p q:Rat) (w:World) (ha:zqa w va p) (hb:zqa w vb q) (hp:fits p) (hq:fits q) (hr:fits (p-q)):Calls Try.prog 26 #[va,vb] w (RF1 w (p-q)):=by
 obtain⟨t1,x1,y1,rfl,⟨a11,l11,k11,rfl,_⟩,⟨a12,l12,k12,rfl,_⟩⟩:=ha.isF
 obtain⟨t2,x2,y2,rfl,⟨a21,l21,k21,rfl,_⟩,⟨a22,l22,k22,rfl,_⟩⟩:=hb.isF
 obtain⟨hA,hB,hR,hbw⟩:=zmc w 32 (.bool t1) (.slice a11 l11 k11) (.slice a12 l12 k12) (.bool t2) (.slice a21 l21 k21) (.slice a22 l22 k22) (.bool false) (.slice none 0 0) (.slice none 0 0) _ rfl
 have HR:=zH hR
 have HBW:=zH hbw
 have HA:=zH (ha.below hbw)
 have HB:=zH (hb.below hbw)
 have HF:=zH (And.intro hp (And.intro hq hr))
 obtain⟨_,c0,c1,c2,_,_,_⟩:=id hA
 obtain⟨_,d0,d1,d2,_,_,_⟩:=id hB
 clear hA hB hR ha hb hp hq hr hbw
 go_enter Try.func26,Try.ntmps26
 go_wp2_with (first
  |(go_at_call 59;(with_reducible refine(sub_can _ _ p q _ HA.out HB.out HF.out.1 HF.out.2.1 HF.out.2.2).mono ?_);rintro e3 w3 ⟨v3,rfl,hv3,hb3⟩
    obtain⟨t3,x3,y3,rfl,⟨a31,l31,k31,rfl,_⟩,⟨a32,l32,k32,rfl,_⟩⟩:=hv3.isF
    have hba:=zca w3 (.cells #[.bool t3, .slice a31 l31 k31, .slice a32 l32 k32] 32)
    have HR3:=zH (HR.out.belowS (zaa hb3 hba))
    have HV3:=zH (hv3.below hba)
    have HB3:=zH (zaa HBW.out (zaa hb3 hba))
    obtain⟨_,g0,g1,g2,g3,g4,g5⟩:=HR3.out
    clear hv3 hb3 hba))
 refine zab rfl rfl Try.aggF Try.sizeF (HR3.out.set _ _ _) rfl ?_
 exact⟨_,rfl,HV3.out.set3 HR3.out (fun z=>by simp) (fun z=>by simp) _ _ _,zga HB3.out (Nat.le_trans (Nat.le_succ _) (Nat.le_succ _)) _ _ _⟩
theorem zmp (va vb:Value) (p q:Rat) (w:World) (ha:zqa w va p) (hb:zqa w vb q) (hp:fits p) (hq:fits q) (hr:fits (p*q)):Calls Try.prog 27 #[va,vb] w (RF1 w (p*q)):=by
 obtain⟨t1,x1,y1,rfl,⟨a11,l11,k11,rfl,_⟩,⟨a12,l12,k12,rfl,_⟩⟩:=ha.isF
 obtain⟨t2,x2,y2,rfl,⟨a21,l21,k21,rfl,_⟩,⟨a22,l22,k22,rfl,_⟩⟩:=hb.isF
 obtain⟨hA,hB,hR,hbw⟩:=zmc w 32 (.bool t1) (.slice a11 l11 k11) (.slice a12 l12 k12) (.bool t2) (.slice a21 l21 k21) (.slice a22 l22 k22) (.bool false) (.slice none 0 0) (.slice none 0 0) _ rfl
 have HR:=zH hR
 have HBW:=zH hbw
 have HA:=zH (ha.below hbw)
 have HB:=zH (hb.below hbw)
 have HF:=zH (And.intro hp (And.intro hq hr))
 obtain⟨_,c0,c1,c2,_,_,_⟩:=id hA
 obtain⟨_,d0,d1,d2,_,_,_⟩:=id hB
 clear hA hB hR ha hb hp hq hr hbw
 go_enter Try.func27,Try.ntmps27
 go_wp2_with (first
  |(go_at_call 60;(with_reducible refine(zbl _ _ p q _ HA.out HB.out HF.out.1 HF.out.2.1 HF.out.2.2).mono ?_);rintro e3 w3 ⟨v3,rfl,hv3,hb3⟩
    obtain⟨t3,x3,y3,rfl,⟨a31,l31,k31,rfl,_⟩,⟨a32,l32,k32,rfl,_⟩⟩:=hv3.isF
    have hba:=zca w3 (.cells #[.bool t3, .slice a31 l31 k31, .slice a32 l32 k32] 32)
    have HR3:=zH (HR.out.belowS (zaa hb3 hba))
    have HV3:=zH (hv3.below hba)
    have HB3:=zH (zaa HBW.out (zaa hb3 hba))
    obtain⟨_,g0,g1,g2,g3,g4,g5⟩:=HR3.out
    clear hv3 hb3 hba))
 refine zab rfl rfl Try.aggF Try.sizeF (HR3.out.set _ _ _) rfl ?_
 exact⟨_,rfl,HV3.out.set3 HR3.out (fun z=>by simp) (fun z=>by simp) _ _ _,zga HB3.out (Nat.le_trans (Nat.le_succ _) (Nat.le_succ _)) _ _ _⟩
theorem fin_any (n lo hi:Int) (w:World):Calls Try.prog 51 #[.int .i64 n, .int .i64 lo, .int .i64 hi] w (fun e w'=>e= .returned (.bool (decide (lo≤n)&&decide (n≤hi)))∧w'=w):=by
 go_enter Try.func51,Try.ntmps51
 by_cases h1:lo≤n
 ·have h2:decide (lo≤n)=true:=decide_eq_true h1
  go_wp2_with fail
  go_ret
  exact⟨by simp[h1],rfl⟩
 ·have h2:decide (lo≤n)=false:=decide_eq_false h1
  go_wp2_with fail
  go_ret
  exact⟨by simp[h1],rfl⟩
theorem zvp {w:World} {a1 a2 a3 a4 a5 a6:Addr} {x1 x2 x3 x4 x5 x6:Value} (h:w.cell? a1=some x1∧w.cell? a2=some x2∧w.cell? a3=some x3∧w.cell? a4=some x4∧w.cell? a5=some x5∧w.cell? a6=some x6) {p:Addr}
 (h1:p.block≠a1.block) (h2:p.block≠a2.block) (h3:p.block≠a3.block) (h4:p.block≠a4.block) (h5:p.block≠a5.block) (h6:p.block≠a6.block) (u:Value):
 (w.setCell p u).cell? a1=some x1∧(w.setCell p u).cell? a2=some x2∧(w.setCell p u).cell? a3=some x3∧(w.setCell p u).cell? a4=some x4∧(w.setCell p u).cell? a5=some x5∧(w.setCell p u).cell? a6=some x6:=by
 have key:∀a x,w.cell? a=some x→p.block≠a.block→(w.setCell p u).cell? a=some x:=fun a x ha hp=>by
  rw[World.cell?_setCell_other _ _ _ _ (fun e=>hp (by rw[e]))];exact ha
 obtain⟨k1,k2,k3,k4,k5,k6⟩:=h
 exact⟨key _ _ k1 h1,key _ _ k2 h2,key _ _ k3 h3,key _ _ k4 h4,key _ _ k5 h5,key _ _ k6 h6⟩
theorem zji (p q:Rat):cmpR p q=0↔p=q:=by
 unfold cmpR
 constructor
 ·intro h
  split at h
  ·omega
  ·split at h
   ·omega
   ·next h1 h2=>exact Rat.le_antisymm (Rat.not_lt.1 h2) (Rat.not_lt.1 h1)
 ·rintro rfl
  rw[if_neg (Rat.lt_irrefl),if_neg (Rat.lt_irrefl)]
end Go.Proofs.Ytlpdkbmmbdfoiaa
