/- Lemmas. -/
import Derived.Test.YtlpdkbmmbdfoiaaGreatEOuw
import Derived.ProofKit
set_option linter.unusedVariables false
set_option linter.unusedSimpArgs false
namespace Go.Proofs.YtlpdkbmmbdfoiaaGreat
set_option maxRecDepth 100000
set_option maxHeartbeats 1600000
open Go.RowKit
theorem fq_scale2 (s:Bool) {n d k:Nat} (hk:k≠0):fq s (n*k) (d*k)=fq s n d:=by
 unfold fq
 have e:sgn s (n*k)=sgn s n*k:=by unfold sgn;split<;>simp[Int.neg_mul]
 rw[e]
 exact Rat.mkRat_mul_right hk
theorem fq_ne (s:Bool) {n d:Nat} (hn:n≠0) (hd:d≠0):fq s n d≠0:=fun h=>by
 unfold fq at h
 have:=(Rat.mkRat_eq_zero hd).1 h
 have h2:=zog s n
 rw[this]at h2
 exact hn h2.symm
theorem fq_quo (s t:Bool) {n d m e:Nat} (hm:m≠0) (he:e≠0):fq s n d/fq t m e=fq (s != t) (n*e) (d*m):=by
 have h1:fq s n d=fq (s != t) (n*e) (d*m)*fq t m e:=by
  rw[fq_mul,<-fq_scale2 s (n:=n) (d:=d) (Nat.mul_ne_zero he hm)]
  congr 1
  ·cases s<;>cases t<;>rfl
  ·rw[Nat.mul_assoc]
  ·rw[Nat.mul_assoc,Nat.mul_comm e m]
 rw[h1,Rat.mul_div_cancel (fq_ne t hm he)]
theorem fq_sub (s t:Bool) (n d m e:Nat) (he:e≠0):fq s n d-fq t m e=fq s n d+fq (!t) m e:=by
 rw[Rat.sub_eq_add_neg]
 congr 1
 unfold fq
 rw[Rat.neg_mkRat]
 congr 1
 unfold sgn
 cases t<;>simp
theorem zob.over {w:World} {v:Value} {n:Nat} (h:zob w v n) {p:Addr} {x:Value} (hp:w.cell? p=some x) (hx:∀z,x≠ .int .u32 z) (u:Value):zob (w.setCell p u) v n:=by
 obtain⟨l,h1,h2⟩:=h;exact⟨l,h1.over hp hx u,h2⟩
theorem zob.set3 {w:World} {v:Value} {n:Nat} {b:Nat} {s:Bool} {x y:Value} (h:zob w v n) (hc:C3 w b (.bool s) x y) (hx:∀z,x≠ .int .u32 z) (hy:∀z,y≠ .int .u32 z) (u0 u1 u2:Value):
 zob (((w.setCell ⟨b,0,none⟩ u0).setCell ⟨b,1,none⟩ u1).setCell ⟨b,2,none⟩ u2) v n:=by
 obtain⟨l,h1,h2⟩:=h;exact⟨l,h1.set3 hc (fun z=>by simp) hx hy u0 u1 u2,h2⟩
theorem fminus_any (va:Value) (s:Bool) (n d:Nat) (w:World) (ha:zdc w va s n d):
 Calls Tryz.prog 202 #[va] w fun e w'=>∃v,e= .returned v/\zdc w' v (!s) n d/\Below w.heap.size w w':=by
 obtain⟨xn,xd,rfl,hxn,hxd⟩:=ha
 obtain⟨an,ln,kn,rfl,_⟩:=hxn.slen.1
 obtain⟨ad,ld,kd,rfl,_⟩:=hxd.slen.1
 obtain⟨bx,bz,hbw⟩:=zcf w 38 (.bool s) (.slice an ln kn) (.slice ad ld kd) (.bool false) (.slice none 0 0) (.slice none 0 0) _ rfl
 have hxn2:=(hxn.below hbw).over bx.c0 (fun z=>by simp) (.bool (!s))
 have hxd2:=(hxd.below hbw).over bx.c0 (fun z=>by simp) (.bool (!s))
 have hZ2:=bz.other ⟨w.heap.size,0,none⟩ (.bool (!s)) (by simp)
 have hbs:=hbw.setCell (p:=⟨w.heap.size,0,none⟩) (zLR _) (.bool (!s))
 have HF:=zH (And.intro (And.intro hxn2 hxd2) (And.intro hZ2 hbs))
 obtain⟨_,x0,x1,x2,f0,f1,f2⟩:=bx
 obtain⟨_,z0,z1,z2,g0,g1,g2⟩:=bz
 clear hxn2 hxd2 hZ2 hbs hxn hxd hbw
 go_enter Tryz.func202,Tryz.ntmps202
 go_upto_region 1 with fail
 generalize (w.alloc (.cells #[.bool s, .slice an ln kn, .slice ad ld kd] 38)).alloc (.cells #[.bool false, .slice none 0 0, .slice none 0 0] 38)=W at *
 go_wp2_with fail
 refine zab rfl rfl Tryz.aggF Tryz.sizeF (HF.out.2.1.set _ _ _) rfl ?_
 exact⟨_,rfl,⟨_,_,rfl,HF.out.1.1.set3 HF.out.2.1 (fun z=>by simp) (fun z=>by simp) _ _ _,HF.out.1.2.set3 HF.out.2.1 (fun z=>by simp) (fun z=>by simp) _ _ _⟩,zga HF.out.2.2 (by omega) _ _ _⟩
theorem mul_frac (va vb:Value) (s t:Bool) (n d m e:Nat) (w:World) (ha:zdc w va s n d) (hb:zdc w vb t m e) (h1:okN n d) (h2:okN m e):
 Calls Tryz.prog 131 #[va,vb] w (zmi w (fq s n d*fq t m e)):=by
 have hA:=ha
 have hB:=hb
 obtain⟨xn,xd,rfl,hxn,hxd⟩:=ha
 obtain⟨yn,yd,rfl,hyn,hyd⟩:=hb
 obtain⟨an,ln,kn,rfl,_⟩:=hxn.slen.1
 obtain⟨ad,ld,kd,rfl,_⟩:=hxd.slen.1
 obtain⟨am,lm,km,rfl,_⟩:=hyn.slen.1
 obtain⟨ae,le,ke,rfl,_⟩:=hyd.slen.1
 have HQ:=zH (fq_mul s t n d m e)
 have K1:=zH h1
 have K2:=zH h2
 clear h1 h2
 go_enter Tryz.func131,Tryz.ntmps131
 go_wp2_with fail
 obtain⟨W,hW⟩:∃W,W=(((w.alloc (.cells #[.bool s, .slice an ln kn, .slice ad ld kd] 38)).alloc (.cells #[.bool t, .slice am lm km, .slice ae le ke] 38)).alloc (.cells #[.bool false, .slice none 0 0, .slice none 0 0] 38)):=⟨_,rfl⟩
 obtain⟨bx,byy,bz,hbw⟩:=zmc w 38 _ _ _ _ _ _ _ _ _ W hW
 rw[<-hW]
 clear hW
 have HBX:=zH bx
 have HBY:=zH byy
 have HBZ:=zH bz
 obtain⟨_,q1,q2,q3,q4,q5,q6⟩:=bx
 obtain⟨_,r1,r2,r3,r4,r5,r6⟩:=byy
 go_wp2_with (first
  |(go_at_call 79;first
    |((with_reducible refine(zrd _ s n d _ (hA.below hbw) K1.out).mono ?_);rintro e9 w1 ⟨rfl,hv1⟩
      obtain⟨_,f1,f2,f3,f4,f5,f6⟩:=HBY.out.belowS hv1
      have hbw1:=hbw.trans (hv1.mono hbw.size))
    |((with_reducible refine(zrd _ t m e _ (hB.below hbw1) K2.out).mono ?_);rintro e9 w2 ⟨rfl,hv2⟩
      have hbx2:=(HBX.out.belowS hv1).belowS hv2
      have hby2:=(HBY.out.belowS hv1).belowS hv2
      have hbz2:=(HBZ.out.belowS hv1).belowS hv2
      have hbw2:=hbw1.trans (hv2.mono hbw1.size))))
 clear q1 q2 q3 q4 q5 q6 r1 r2 r3 r4 r5 r6 f1 f2 f3 f4 f5 f6
 have hd2:=zja (B:=w2.heap.size) w2
 have hD:=hbw2.trans (hd2.mono hbw2.size)
 have hbx3:=hbx2.belowS hd2
 have hby3:=hby2.belowS hd2
 have hbz3:=hbz2.belowS hd2
 have HX3:=zH hbx3
 have HY3:=zH hby3
 have HZ3:=zH hbz3
 clear hbx2 hby2 hbz2 hbw2 hv1 hv2 hbw hbw1 HBX HBY HBZ bz hd2
 obtain⟨_,q1,q2,q3,q4,q5,q6⟩:=hbx3
 obtain⟨_,r1,r2,r3,r4,r5,r6⟩:=hby3
 obtain⟨_,z1,z2,z3,z4,z5,z6⟩:=hbz3
 have g1:=hxn.below hD
 have g2:=hxd.below hD
 have g3:=hyn.below hD
 have g4:=hyd.below hD
 have l1:=zH (zrc K1.out)
 have l2:=zH (zrc K2.out)
 have T1:=zH (zLT l1.out.1 (show 128<=256 by decide))
 have T2:=zH (zLT l2.out.2 (show 128<=256 by decide))
 have T3:=zH (zLT l2.out.1 (show 128<=256 by decide))
 have T4:=zH (zLT l1.out.2 (show 128<=256 by decide))
 have N1:=zH (zLT (zsd l1.out.1 l2.out.1) (show 128+128<=512 by decide))
 have N2:=zH (zLT (zsd l1.out.2 l2.out.2) (show 128+128<=512 by decide))
 have HDE:Hid (d*e≠0):=zH (Nat.mul_ne_zero K1.out.1 K2.out.1)
 have tok1:True:=trivial
 rcases s with _ | _<;>rcases t with _ | _
 ·go_region_held3 (fun w'=>w'.cell? ⟨w.heap.size,0,none⟩=some (.bool false)/\w'.cell? ⟨w.heap.size,1,none⟩=some (.slice an ln kn)/\w'.cell? ⟨w.heap.size,2,none⟩=some (.slice ad ld kd)/\w'.cell? ⟨w.heap.size+1,0,none⟩=some (.bool false)/\w'.cell? ⟨w.heap.size+1,1,none⟩=some (.slice am lm km)/\w'.cell? ⟨w.heap.size+1,2,none⟩=some (.slice ae le ke)) (first | with_reducible exact⟨q1,q2,q3,r1,r2,r3⟩ | (refine⟨?_,?_,?_,?_,?_,?_⟩<;>go_simp)) (first
   |(go_at_call 157;have _t:=tok1;clear tok1 _t;(with_reducible refine(zgb _ _ n m _ g1 g3 T1.out T3.out).mono ?_);rintro e9 w3 ⟨p1,rfl,hp1,hp2⟩
     have X4:=HX3.out.belowS hp2
     have Y4:=HY3.out.belowS hp2
     have HX4:=zH X4
     have HY4:=zH Y4
     obtain⟨_,q1,q2,q3,q4,q5,q6⟩:=X4
     obtain⟨_,r1,r2,r3,r4,r5,r6⟩:=Y4)
   |(go_at_call 157;(with_reducible refine(zgb _ _ d e _ (g2.below hp2) (g4.below hp2) T4.out T2.out).mono ?_);rintro e9 w4 ⟨p3,rfl,hp3,hp4⟩
     have hp24:=zaa hp2 hp4
     have hp14:=hp1.below hp4
     have X5:=HX4.out.belowS hp4
     have Y5:=HY4.out.belowS hp4
     have HX5:=zH X5
     have HY5:=zH Y5
     obtain⟨_,q1,q2,q3,q4,q5,q6⟩:=X5
     obtain⟨_,r1,r2,r3,r4,r5,r6⟩:=Y5)
   |(go_at_call 142;(with_reducible refine(zub _ p1 p3 (n*m) (d*e) _ hp14.nat hp3.nat HDE.out N1.out N2.out).mono ?_);rintro e9 w5 ⟨v,er,rfl,hv1,hv2,hv3⟩
     obtain⟨t9,x9,y9,rfl,⟨a1,l91,k1,rfl,_⟩,⟨a2,l92,k2,rfl,_⟩⟩:=zpb (w0:=w) hv2 hv3
     have hp26:=zaa hp24 hv1
     have X6:=HX5.out.belowS hv1
     have Y6:=HY5.out.belowS hv1
     have Z6:=HZ3.out.belowS hp26
     have HZ6:=zH Z6
     obtain⟨_,q1,q2,q3,q4,q5,q6⟩:=X6
     obtain⟨_,r1,r2,r3,r4,r5,r6⟩:=Y6
     obtain⟨_,z1,z2,z3,z4,z5,z6⟩:=Z6))
  all_goals
   go_wp2_with fail
   refine zoa rfl rfl Tryz.aggF Tryz.sizeF (HZ6.out.set _ _ _) rfl ?_
   rw[HQ.out]
   exact⟨_,_,rfl,zga (hD.trans (hp26.mono hD.size)) (by omega) _ _ _,fun h=>⟨(hv2 h).1,(hv2 h).2.set3 HZ6.out (fun z=>by simp) (fun z=>by simp) _ _ _⟩,hv3⟩
 ·go_region_held3 (fun w'=>w'.cell? ⟨w.heap.size,0,none⟩=some (.bool false)/\w'.cell? ⟨w.heap.size,1,none⟩=some (.slice an ln kn)/\w'.cell? ⟨w.heap.size,2,none⟩=some (.slice ad ld kd)/\w'.cell? ⟨w.heap.size+1,0,none⟩=some (.bool true)/\w'.cell? ⟨w.heap.size+1,1,none⟩=some (.slice am lm km)/\w'.cell? ⟨w.heap.size+1,2,none⟩=some (.slice ae le ke)) (first | with_reducible exact⟨q1,q2,q3,r1,r2,r3⟩ | (refine⟨?_,?_,?_,?_,?_,?_⟩<;>go_simp)) (first
   |(go_at_call 157;have _t:=tok1;clear tok1 _t;(with_reducible refine(zgb _ _ n m _ g1 g3 T1.out T3.out).mono ?_);rintro e9 w3 ⟨p1,rfl,hp1,hp2⟩
     have X4:=HX3.out.belowS hp2
     have Y4:=HY3.out.belowS hp2
     have HX4:=zH X4
     have HY4:=zH Y4
     obtain⟨_,q1,q2,q3,q4,q5,q6⟩:=X4
     obtain⟨_,r1,r2,r3,r4,r5,r6⟩:=Y4)
   |(go_at_call 157;(with_reducible refine(zgb _ _ d e _ (g2.below hp2) (g4.below hp2) T4.out T2.out).mono ?_);rintro e9 w4 ⟨p3,rfl,hp3,hp4⟩
     have hp24:=zaa hp2 hp4
     have hp14:=hp1.below hp4
     have X5:=HX4.out.belowS hp4
     have Y5:=HY4.out.belowS hp4
     have HX5:=zH X5
     have HY5:=zH Y5
     obtain⟨_,q1,q2,q3,q4,q5,q6⟩:=X5
     obtain⟨_,r1,r2,r3,r4,r5,r6⟩:=Y5)
   |(go_at_call 142;(with_reducible refine(zub _ p1 p3 (n*m) (d*e) _ hp14.nat hp3.nat HDE.out N1.out N2.out).mono ?_);rintro e9 w5 ⟨v,er,rfl,hv1,hv2,hv3⟩
     obtain⟨t9,x9,y9,rfl,⟨a1,l91,k1,rfl,_⟩,⟨a2,l92,k2,rfl,_⟩⟩:=zpb (w0:=w) hv2 hv3
     have hp26:=zaa hp24 hv1
     have X6:=HX5.out.belowS hv1
     have Y6:=HY5.out.belowS hv1
     have Z6:=HZ3.out.belowS hp26
     have HZ6:=zH Z6
     obtain⟨_,q1,q2,q3,q4,q5,q6⟩:=X6
     obtain⟨_,r1,r2,r3,r4,r5,r6⟩:=Y6
     obtain⟨_,z1,z2,z3,z4,z5,z6⟩:=Z6))
  all_goals
   go_wp2_with fail
   refine zoa rfl rfl Tryz.aggF Tryz.sizeF (HZ6.out.set _ _ _) rfl ?_
   rw[HQ.out]
   exact⟨_,_,rfl,zga (hD.trans (hp26.mono hD.size)) (by omega) _ _ _,fun h=>⟨(hv2 h).1,(hv2 h).2.set3 HZ6.out (fun z=>by simp) (fun z=>by simp) _ _ _⟩,hv3⟩
 ·go_region_held3 (fun w'=>w'.cell? ⟨w.heap.size,0,none⟩=some (.bool true)/\w'.cell? ⟨w.heap.size,1,none⟩=some (.slice an ln kn)/\w'.cell? ⟨w.heap.size,2,none⟩=some (.slice ad ld kd)/\w'.cell? ⟨w.heap.size+1,0,none⟩=some (.bool false)/\w'.cell? ⟨w.heap.size+1,1,none⟩=some (.slice am lm km)/\w'.cell? ⟨w.heap.size+1,2,none⟩=some (.slice ae le ke)) (first | with_reducible exact⟨q1,q2,q3,r1,r2,r3⟩ | (refine⟨?_,?_,?_,?_,?_,?_⟩<;>go_simp)) (first
   |(go_at_call 157;have _t:=tok1;clear tok1 _t;(with_reducible refine(zgb _ _ n m _ g1 g3 T1.out T3.out).mono ?_);rintro e9 w3 ⟨p1,rfl,hp1,hp2⟩
     have X4:=HX3.out.belowS hp2
     have Y4:=HY3.out.belowS hp2
     have HX4:=zH X4
     have HY4:=zH Y4
     obtain⟨_,q1,q2,q3,q4,q5,q6⟩:=X4
     obtain⟨_,r1,r2,r3,r4,r5,r6⟩:=Y4)
   |(go_at_call 157;(with_reducible refine(zgb _ _ d e _ (g2.below hp2) (g4.below hp2) T4.out T2.out).mono ?_);rintro e9 w4 ⟨p3,rfl,hp3,hp4⟩
     have hp24:=zaa hp2 hp4
     have hp14:=hp1.below hp4
     have X5:=HX4.out.belowS hp4
     have Y5:=HY4.out.belowS hp4
     have HX5:=zH X5
     have HY5:=zH Y5
     obtain⟨_,q1,q2,q3,q4,q5,q6⟩:=X5
     obtain⟨_,r1,r2,r3,r4,r5,r6⟩:=Y5)
   |(go_at_call 142;(with_reducible refine(zub _ p1 p3 (n*m) (d*e) _ hp14.nat hp3.nat HDE.out N1.out N2.out).mono ?_);rintro e9 w5 ⟨v,er,rfl,hv1,hv2,hv3⟩
     obtain⟨t9,x9,y9,rfl,⟨a1,l91,k1,rfl,_⟩,⟨a2,l92,k2,rfl,_⟩⟩:=zpb (w0:=w) hv2 hv3
     have hp26:=zaa hp24 hv1
     have X6:=HX5.out.belowS hv1
     have Y6:=HY5.out.belowS hv1
     have Z6:=HZ3.out.belowS hp26
     have HZ6:=zH Z6
     obtain⟨_,q1,q2,q3,q4,q5,q6⟩:=X6
     obtain⟨_,r1,r2,r3,r4,r5,r6⟩:=Y6
     obtain⟨_,z1,z2,z3,z4,z5,z6⟩:=Z6))
  all_goals
   go_wp2_with fail
   refine zoa rfl rfl Tryz.aggF Tryz.sizeF (HZ6.out.set _ _ _) rfl ?_
   rw[HQ.out]
   exact⟨_,_,rfl,zga (hD.trans (hp26.mono hD.size)) (by omega) _ _ _,fun h=>⟨(hv2 h).1,(hv2 h).2.set3 HZ6.out (fun z=>by simp) (fun z=>by simp) _ _ _⟩,hv3⟩
 ·go_region_held3 (fun w'=>w'.cell? ⟨w.heap.size,0,none⟩=some (.bool true)/\w'.cell? ⟨w.heap.size,1,none⟩=some (.slice an ln kn)/\w'.cell? ⟨w.heap.size,2,none⟩=some (.slice ad ld kd)/\w'.cell? ⟨w.heap.size+1,0,none⟩=some (.bool true)/\w'.cell? ⟨w.heap.size+1,1,none⟩=some (.slice am lm km)/\w'.cell? ⟨w.heap.size+1,2,none⟩=some (.slice ae le ke)) (first | with_reducible exact⟨q1,q2,q3,r1,r2,r3⟩ | (refine⟨?_,?_,?_,?_,?_,?_⟩<;>go_simp)) (first
   |(go_at_call 157;have _t:=tok1;clear tok1 _t;(with_reducible refine(zgb _ _ n m _ g1 g3 T1.out T3.out).mono ?_);rintro e9 w3 ⟨p1,rfl,hp1,hp2⟩
     have X4:=HX3.out.belowS hp2
     have Y4:=HY3.out.belowS hp2
     have HX4:=zH X4
     have HY4:=zH Y4
     obtain⟨_,q1,q2,q3,q4,q5,q6⟩:=X4
     obtain⟨_,r1,r2,r3,r4,r5,r6⟩:=Y4)
   |(go_at_call 157;(with_reducible refine(zgb _ _ d e _ (g2.below hp2) (g4.below hp2) T4.out T2.out).mono ?_);rintro e9 w4 ⟨p3,rfl,hp3,hp4⟩
     have hp24:=zaa hp2 hp4
     have hp14:=hp1.below hp4
     have X5:=HX4.out.belowS hp4
     have Y5:=HY4.out.belowS hp4
     have HX5:=zH X5
     have HY5:=zH Y5
     obtain⟨_,q1,q2,q3,q4,q5,q6⟩:=X5
     obtain⟨_,r1,r2,r3,r4,r5,r6⟩:=Y5)
   |(go_at_call 142;(with_reducible refine(zub _ p1 p3 (n*m) (d*e) _ hp14.nat hp3.nat HDE.out N1.out N2.out).mono ?_);rintro e9 w5 ⟨v,er,rfl,hv1,hv2,hv3⟩
     obtain⟨t9,x9,y9,rfl,⟨a1,l91,k1,rfl,_⟩,⟨a2,l92,k2,rfl,_⟩⟩:=zpb (w0:=w) hv2 hv3
     have hp26:=zaa hp24 hv1
     have X6:=HX5.out.belowS hv1
     have Y6:=HY5.out.belowS hv1
     have Z6:=HZ3.out.belowS hp26
     have HZ6:=zH Z6
     obtain⟨_,q1,q2,q3,q4,q5,q6⟩:=X6
     obtain⟨_,r1,r2,r3,r4,r5,r6⟩:=Y6
     obtain⟨_,z1,z2,z3,z4,z5,z6⟩:=Z6))
  all_goals
   go_wp2_with fail
   refine zoa rfl rfl Tryz.aggF Tryz.sizeF (HZ6.out.set _ _ _) rfl ?_
   rw[HQ.out]
   exact⟨_,_,rfl,zga (hD.trans (hp26.mono hD.size)) (by omega) _ _ _,fun h=>⟨(hv2 h).1,(hv2 h).2.set3 HZ6.out (fun z=>by simp) (fun z=>by simp) _ _ _⟩,hv3⟩
theorem quo_frac (va vb:Value) (s t:Bool) (n d m e:Nat) (w:World) (ha:zdc w va s n d) (hb:zdc w vb t m e) (h1:okN n d) (h2:okN m e) (hm:m≠0):
 Calls Tryz.prog 161 #[va,vb] w (zmi w (fq s n d/fq t m e)):=by
 have hA:=ha
 have hB:=hb
 obtain⟨xn,xd,rfl,hxn,hxd⟩:=ha
 obtain⟨yn,yd,rfl,hyn,hyd⟩:=hb
 obtain⟨an,ln,kn,rfl,_⟩:=hxn.slen.1
 obtain⟨ad,ld,kd,rfl,_⟩:=hxd.slen.1
 obtain⟨am,lm,km,rfl,_⟩:=hyn.slen.1
 obtain⟨ae,le,ke,rfl,_⟩:=hyd.slen.1
 have HQ:=zH (fq_quo s t (n:=n) (d:=d) (m:=m) (e:=e) hm h2.1)
 have K1:=zH h1
 have K2:=zH h2
 have HM:=zH hm
 clear h1 h2
 go_enter Tryz.func161,Tryz.ntmps161
 go_wp2_with fail
 obtain⟨W,hW⟩:∃W,W=(((w.alloc (.cells #[.bool s, .slice an ln kn, .slice ad ld kd] 38)).alloc (.cells #[.bool t, .slice am lm km, .slice ae le ke] 38)).alloc (.cells #[.bool false, .slice none 0 0, .slice none 0 0] 38)):=⟨_,rfl⟩
 obtain⟨bx,byy,bz,hbw⟩:=zmc w 38 _ _ _ _ _ _ _ _ _ W hW
 rw[<-hW]
 clear hW
 have HBX:=zH bx
 have HBY:=zH byy
 have HBZ:=zH bz
 obtain⟨_,q1,q2,q3,q4,q5,q6⟩:=bx
 obtain⟨_,r1,r2,r3,r4,r5,r6⟩:=byy
 go_wp2_with (first
  |(go_at_call 79;first
    |((with_reducible refine(zrd _ s n d _ (hA.below hbw) K1.out).mono ?_);rintro e9 w1 ⟨rfl,hv1⟩
      obtain⟨_,f1,f2,f3,f4,f5,f6⟩:=HBY.out.belowS hv1
      have hbw1:=hbw.trans (hv1.mono hbw.size))
    |((with_reducible refine(zrd _ t m e _ (hB.below hbw1) K2.out).mono ?_);rintro e9 w2 ⟨rfl,hv2⟩
      have hbx2:=(HBX.out.belowS hv1).belowS hv2
      have hby2:=(HBY.out.belowS hv1).belowS hv2
      have hbz2:=(HBZ.out.belowS hv1).belowS hv2
      have hbw2:=hbw1.trans (hv2.mono hbw1.size)
      clear f1 f2 f3 f4 f5 f6
      obtain⟨_,f1,f2,f3,f4,f5,f6⟩:=id hby2))
  |(go_at_call 186;(with_reducible refine(zih _ t m e _ (hB.below hbw2)).mono ?_);rw[decide_eq_false HM.out];rintro e9 w2z ⟨rfl,hvz⟩
    have hbx2:=hbx2.belowS hvz
    have hby2:=hby2.belowS hvz
    have hbz2:=hbz2.belowS hvz
    have hbw2:=hbw2.trans (hvz.mono hbw2.size)))
 clear q1 q2 q3 q4 q5 q6 r1 r2 r3 r4 r5 r6 f1 f2 f3 f4 f5 f6 hvz
 have hd2:=zja (B:=w2z.heap.size) w2z
 have hD:=hbw2.trans (hd2.mono hbw2.size)
 have hbx3:=hbx2.belowS hd2
 have hby3:=hby2.belowS hd2
 have hbz3:=hbz2.belowS hd2
 have HX3:=zH hbx3
 have HY3:=zH hby3
 have HZ3:=zH hbz3
 clear hbx2 hby2 hbz2 hbw2 hv1 hv2 hbw hbw1 HBX HBY HBZ bz hd2
 obtain⟨_,q1,q2,q3,q4,q5,q6⟩:=hbx3
 obtain⟨_,r1,r2,r3,r4,r5,r6⟩:=hby3
 obtain⟨_,z1,z2,z3,z4,z5,z6⟩:=hbz3
 have g1:=hxn.below hD
 have g2:=hxd.below hD
 have g3:=hyn.below hD
 have g4:=hyd.below hD
 have l1:=zH (zrc K1.out)
 have l2:=zH (zrc K2.out)
 have T1:=zH (zLT l1.out.1 (show 128<=256 by decide))
 have T2:=zH (zLT l2.out.2 (show 128<=256 by decide))
 have T3:=zH (zLT l2.out.1 (show 128<=256 by decide))
 have T4:=zH (zLT l1.out.2 (show 128<=256 by decide))
 have N1:=zH (zLT (zsd l1.out.1 l2.out.2) (show 128+128<=512 by decide))
 have N2:=zH (zLT (zsd l1.out.2 l2.out.1) (show 128+128<=512 by decide))
 have HDE:Hid (d*m≠0):=zH (Nat.mul_ne_zero K1.out.1 HM.out)
 have tok1:True:=trivial
 rcases s with _ | _<;>rcases t with _ | _
 ·go_region_held3 (fun w'=>w'.cell? ⟨w.heap.size,0,none⟩=some (.bool false)/\w'.cell? ⟨w.heap.size,1,none⟩=some (.slice an ln kn)/\w'.cell? ⟨w.heap.size,2,none⟩=some (.slice ad ld kd)/\w'.cell? ⟨w.heap.size+1,0,none⟩=some (.bool false)/\w'.cell? ⟨w.heap.size+1,1,none⟩=some (.slice am lm km)/\w'.cell? ⟨w.heap.size+1,2,none⟩=some (.slice ae le ke)) (first | with_reducible exact⟨q1,q2,q3,r1,r2,r3⟩ | (refine⟨?_,?_,?_,?_,?_,?_⟩<;>go_simp)) (first
   |(go_at_call 157;have _t:=tok1;clear tok1 _t;(with_reducible refine(zgb _ _ n e _ g1 g4 T1.out T2.out).mono ?_);rintro e9 w3 ⟨p1,rfl,hp1,hp2⟩
     have X4:=HX3.out.belowS hp2
     have Y4:=HY3.out.belowS hp2
     have HX4:=zH X4
     have HY4:=zH Y4
     obtain⟨_,q1,q2,q3,q4,q5,q6⟩:=X4
     obtain⟨_,r1,r2,r3,r4,r5,r6⟩:=Y4)
   |(go_at_call 157;(with_reducible refine(zgb _ _ d m _ (g2.below hp2) (g3.below hp2) T4.out T3.out).mono ?_);rintro e9 w4 ⟨p3,rfl,hp3,hp4⟩
     have hp24:=zaa hp2 hp4
     have hp14:=hp1.below hp4
     have X5:=HX4.out.belowS hp4
     have Y5:=HY4.out.belowS hp4
     have HX5:=zH X5
     have HY5:=zH Y5
     obtain⟨_,q1,q2,q3,q4,q5,q6⟩:=X5
     obtain⟨_,r1,r2,r3,r4,r5,r6⟩:=Y5)
   |(go_at_call 142;(with_reducible refine(zub _ p1 p3 (n*e) (d*m) _ hp14.nat hp3.nat HDE.out N1.out N2.out).mono ?_);rintro e9 w5 ⟨v,er,rfl,hv1,hv2,hv3⟩
     obtain⟨t9,x9,y9,rfl,⟨a1,l91,k1,rfl,_⟩,⟨a2,l92,k2,rfl,_⟩⟩:=zpb (w0:=w) hv2 hv3
     have hp26:=zaa hp24 hv1
     have X6:=HX5.out.belowS hv1
     have Y6:=HY5.out.belowS hv1
     have Z6:=HZ3.out.belowS hp26
     have HZ6:=zH Z6
     obtain⟨_,q1,q2,q3,q4,q5,q6⟩:=X6
     obtain⟨_,r1,r2,r3,r4,r5,r6⟩:=Y6
     obtain⟨_,z1,z2,z3,z4,z5,z6⟩:=Z6))
  all_goals
   go_wp2_with fail
   refine zoa rfl rfl Tryz.aggF Tryz.sizeF (HZ6.out.set _ _ _) rfl ?_
   rw[HQ.out]
   exact⟨_,_,rfl,zga (hD.trans (hp26.mono hD.size)) (by omega) _ _ _,fun h=>⟨(hv2 h).1,(hv2 h).2.set3 HZ6.out (fun z=>by simp) (fun z=>by simp) _ _ _⟩,hv3⟩
 ·go_region_held3 (fun w'=>w'.cell? ⟨w.heap.size,0,none⟩=some (.bool false)/\w'.cell? ⟨w.heap.size,1,none⟩=some (.slice an ln kn)/\w'.cell? ⟨w.heap.size,2,none⟩=some (.slice ad ld kd)/\w'.cell? ⟨w.heap.size+1,0,none⟩=some (.bool true)/\w'.cell? ⟨w.heap.size+1,1,none⟩=some (.slice am lm km)/\w'.cell? ⟨w.heap.size+1,2,none⟩=some (.slice ae le ke)) (first | with_reducible exact⟨q1,q2,q3,r1,r2,r3⟩ | (refine⟨?_,?_,?_,?_,?_,?_⟩<;>go_simp)) (first
   |(go_at_call 157;have _t:=tok1;clear tok1 _t;(with_reducible refine(zgb _ _ n e _ g1 g4 T1.out T2.out).mono ?_);rintro e9 w3 ⟨p1,rfl,hp1,hp2⟩
     have X4:=HX3.out.belowS hp2
     have Y4:=HY3.out.belowS hp2
     have HX4:=zH X4
     have HY4:=zH Y4
     obtain⟨_,q1,q2,q3,q4,q5,q6⟩:=X4
     obtain⟨_,r1,r2,r3,r4,r5,r6⟩:=Y4)
   |(go_at_call 157;(with_reducible refine(zgb _ _ d m _ (g2.below hp2) (g3.below hp2) T4.out T3.out).mono ?_);rintro e9 w4 ⟨p3,rfl,hp3,hp4⟩
     have hp24:=zaa hp2 hp4
     have hp14:=hp1.below hp4
     have X5:=HX4.out.belowS hp4
     have Y5:=HY4.out.belowS hp4
     have HX5:=zH X5
     have HY5:=zH Y5
     obtain⟨_,q1,q2,q3,q4,q5,q6⟩:=X5
     obtain⟨_,r1,r2,r3,r4,r5,r6⟩:=Y5)
   |(go_at_call 142;(with_reducible refine(zub _ p1 p3 (n*e) (d*m) _ hp14.nat hp3.nat HDE.out N1.out N2.out).mono ?_);rintro e9 w5 ⟨v,er,rfl,hv1,hv2,hv3⟩
     obtain⟨t9,x9,y9,rfl,⟨a1,l91,k1,rfl,_⟩,⟨a2,l92,k2,rfl,_⟩⟩:=zpb (w0:=w) hv2 hv3
     have hp26:=zaa hp24 hv1
     have X6:=HX5.out.belowS hv1
     have Y6:=HY5.out.belowS hv1
     have Z6:=HZ3.out.belowS hp26
     have HZ6:=zH Z6
     obtain⟨_,q1,q2,q3,q4,q5,q6⟩:=X6
     obtain⟨_,r1,r2,r3,r4,r5,r6⟩:=Y6
     obtain⟨_,z1,z2,z3,z4,z5,z6⟩:=Z6))
  all_goals
   go_wp2_with fail
   refine zoa rfl rfl Tryz.aggF Tryz.sizeF (HZ6.out.set _ _ _) rfl ?_
   rw[HQ.out]
   exact⟨_,_,rfl,zga (hD.trans (hp26.mono hD.size)) (by omega) _ _ _,fun h=>⟨(hv2 h).1,(hv2 h).2.set3 HZ6.out (fun z=>by simp) (fun z=>by simp) _ _ _⟩,hv3⟩
 ·go_region_held3 (fun w'=>w'.cell? ⟨w.heap.size,0,none⟩=some (.bool true)/\w'.cell? ⟨w.heap.size,1,none⟩=some (.slice an ln kn)/\w'.cell? ⟨w.heap.size,2,none⟩=some (.slice ad ld kd)/\w'.cell? ⟨w.heap.size+1,0,none⟩=some (.bool false)/\w'.cell? ⟨w.heap.size+1,1,none⟩=some (.slice am lm km)/\w'.cell? ⟨w.heap.size+1,2,none⟩=some (.slice ae le ke)) (first | with_reducible exact⟨q1,q2,q3,r1,r2,r3⟩ | (refine⟨?_,?_,?_,?_,?_,?_⟩<;>go_simp)) (first
   |(go_at_call 157;have _t:=tok1;clear tok1 _t;(with_reducible refine(zgb _ _ n e _ g1 g4 T1.out T2.out).mono ?_);rintro e9 w3 ⟨p1,rfl,hp1,hp2⟩
     have X4:=HX3.out.belowS hp2
     have Y4:=HY3.out.belowS hp2
     have HX4:=zH X4
     have HY4:=zH Y4
     obtain⟨_,q1,q2,q3,q4,q5,q6⟩:=X4
     obtain⟨_,r1,r2,r3,r4,r5,r6⟩:=Y4)
   |(go_at_call 157;(with_reducible refine(zgb _ _ d m _ (g2.below hp2) (g3.below hp2) T4.out T3.out).mono ?_);rintro e9 w4 ⟨p3,rfl,hp3,hp4⟩
     have hp24:=zaa hp2 hp4
     have hp14:=hp1.below hp4
     have X5:=HX4.out.belowS hp4
     have Y5:=HY4.out.belowS hp4
     have HX5:=zH X5
     have HY5:=zH Y5
     obtain⟨_,q1,q2,q3,q4,q5,q6⟩:=X5
     obtain⟨_,r1,r2,r3,r4,r5,r6⟩:=Y5)
   |(go_at_call 142;(with_reducible refine(zub _ p1 p3 (n*e) (d*m) _ hp14.nat hp3.nat HDE.out N1.out N2.out).mono ?_);rintro e9 w5 ⟨v,er,rfl,hv1,hv2,hv3⟩
     obtain⟨t9,x9,y9,rfl,⟨a1,l91,k1,rfl,_⟩,⟨a2,l92,k2,rfl,_⟩⟩:=zpb (w0:=w) hv2 hv3
     have hp26:=zaa hp24 hv1
     have X6:=HX5.out.belowS hv1
     have Y6:=HY5.out.belowS hv1
     have Z6:=HZ3.out.belowS hp26
     have HZ6:=zH Z6
     obtain⟨_,q1,q2,q3,q4,q5,q6⟩:=X6
     obtain⟨_,r1,r2,r3,r4,r5,r6⟩:=Y6
     obtain⟨_,z1,z2,z3,z4,z5,z6⟩:=Z6))
  all_goals
   go_wp2_with fail
   refine zoa rfl rfl Tryz.aggF Tryz.sizeF (HZ6.out.set _ _ _) rfl ?_
   rw[HQ.out]
   exact⟨_,_,rfl,zga (hD.trans (hp26.mono hD.size)) (by omega) _ _ _,fun h=>⟨(hv2 h).1,(hv2 h).2.set3 HZ6.out (fun z=>by simp) (fun z=>by simp) _ _ _⟩,hv3⟩
 ·go_region_held3 (fun w'=>w'.cell? ⟨w.heap.size,0,none⟩=some (.bool true)/\w'.cell? ⟨w.heap.size,1,none⟩=some (.slice an ln kn)/\w'.cell? ⟨w.heap.size,2,none⟩=some (.slice ad ld kd)/\w'.cell? ⟨w.heap.size+1,0,none⟩=some (.bool true)/\w'.cell? ⟨w.heap.size+1,1,none⟩=some (.slice am lm km)/\w'.cell? ⟨w.heap.size+1,2,none⟩=some (.slice ae le ke)) (first | with_reducible exact⟨q1,q2,q3,r1,r2,r3⟩ | (refine⟨?_,?_,?_,?_,?_,?_⟩<;>go_simp)) (first
   |(go_at_call 157;have _t:=tok1;clear tok1 _t;(with_reducible refine(zgb _ _ n e _ g1 g4 T1.out T2.out).mono ?_);rintro e9 w3 ⟨p1,rfl,hp1,hp2⟩
     have X4:=HX3.out.belowS hp2
     have Y4:=HY3.out.belowS hp2
     have HX4:=zH X4
     have HY4:=zH Y4
     obtain⟨_,q1,q2,q3,q4,q5,q6⟩:=X4
     obtain⟨_,r1,r2,r3,r4,r5,r6⟩:=Y4)
   |(go_at_call 157;(with_reducible refine(zgb _ _ d m _ (g2.below hp2) (g3.below hp2) T4.out T3.out).mono ?_);rintro e9 w4 ⟨p3,rfl,hp3,hp4⟩
     have hp24:=zaa hp2 hp4
     have hp14:=hp1.below hp4
     have X5:=HX4.out.belowS hp4
     have Y5:=HY4.out.belowS hp4
     have HX5:=zH X5
     have HY5:=zH Y5
     obtain⟨_,q1,q2,q3,q4,q5,q6⟩:=X5
     obtain⟨_,r1,r2,r3,r4,r5,r6⟩:=Y5)
   |(go_at_call 142;(with_reducible refine(zub _ p1 p3 (n*e) (d*m) _ hp14.nat hp3.nat HDE.out N1.out N2.out).mono ?_);rintro e9 w5 ⟨v,er,rfl,hv1,hv2,hv3⟩
     obtain⟨t9,x9,y9,rfl,⟨a1,l91,k1,rfl,_⟩,⟨a2,l92,k2,rfl,_⟩⟩:=zpb (w0:=w) hv2 hv3
     have hp26:=zaa hp24 hv1
     have X6:=HX5.out.belowS hv1
     have Y6:=HY5.out.belowS hv1
     have Z6:=HZ3.out.belowS hp26
     have HZ6:=zH Z6
     obtain⟨_,q1,q2,q3,q4,q5,q6⟩:=X6
     obtain⟨_,r1,r2,r3,r4,r5,r6⟩:=Y6
     obtain⟨_,z1,z2,z3,z4,z5,z6⟩:=Z6))
  all_goals
   go_wp2_with fail
   refine zoa rfl rfl Tryz.aggF Tryz.sizeF (HZ6.out.set _ _ _) rfl ?_
   rw[HQ.out]
   exact⟨_,_,rfl,zga (hD.trans (hp26.mono hD.size)) (by omega) _ _ _,fun h=>⟨(hv2 h).1,(hv2 h).2.set3 HZ6.out (fun z=>by simp) (fun z=>by simp) _ _ _⟩,hv3⟩
set_option maxHeartbeats 1600000 in
theorem sub_frac (va vb:Value) (s t:Bool) (n d m e:Nat) (w:World) (ha:zdc w va s n d) (hb:zdc w vb t m e) (h1:okN n d) (h2:okN m e):
 Calls Tryz.prog 163 #[va,vb] w (zmi w (fq s n d-fq t m e)):=by
 have hA:=ha
 have hB:=hb
 obtain⟨xn,xd,rfl,hxn,hxd⟩:=ha
 obtain⟨yn,yd,rfl,hyn,hyd⟩:=hb
 obtain⟨an,ln,kn,rfl,_⟩:=hxn.slen.1
 obtain⟨ad,ld,kd,rfl,_⟩:=hxd.slen.1
 obtain⟨am,lm,km,rfl,_⟩:=hyn.slen.1
 obtain⟨ae,le,ke,rfl,_⟩:=hyd.slen.1
 have HQ:=zH (fq_sub s t n d m e h2.1)
 have K1:=zH h1
 have K2:=zH h2
 clear h1 h2 hxn hxd hyn hyd
 go_enter Tryz.func163,Tryz.ntmps163
 go_wp2_with fail
 obtain⟨W,hW⟩:∃W,W=(((w.alloc (.cells #[.bool s, .slice an ln kn, .slice ad ld kd] 38)).alloc (.cells #[.bool t, .slice am lm km, .slice ae le ke] 38)).alloc (.cells #[.bool false, .slice none 0 0, .slice none 0 0] 38)):=⟨_,rfl⟩
 obtain⟨bx,byy,bz,hbw⟩:=zmc w 38 _ _ _ _ _ _ _ _ _ W hW
 rw[<-hW]
 clear hW
 have hd2:=zja (B:=W.heap.size) W
 have hD:=hbw.trans (hd2.mono hbw.size)
 have hbx3:=bx.belowS hd2
 have hby3:=byy.belowS hd2
 have hbz3:=bz.belowS hd2
 have HX3:=zH hbx3
 have HY3:=zH hby3
 have HZ3:=zH hbz3
 have gA:=hA.below hD
 have gB:=hB.below hD
 clear bx byy bz hbw hA hB hd2
 obtain⟨_,q1,q2,q3,q4,q5,q6⟩:=hbx3
 obtain⟨_,r1,r2,r3,r4,r5,r6⟩:=hby3
 obtain⟨_,z1,z2,z3,z4,z5,z6⟩:=hbz3
 go_region_held3 (fun w'=>w'.cell? ⟨w.heap.size,0,none⟩=some (.bool s)/\w'.cell? ⟨w.heap.size,1,none⟩=some (.slice an ln kn)/\w'.cell? ⟨w.heap.size,2,none⟩=some (.slice ad ld kd)/\w'.cell? ⟨w.heap.size+1,0,none⟩=some (.bool t)/\w'.cell? ⟨w.heap.size+1,1,none⟩=some (.slice am lm km)/\w'.cell? ⟨w.heap.size+1,2,none⟩=some (.slice ae le ke)) (first | with_reducible exact⟨q1,q2,q3,r1,r2,r3⟩ | (refine⟨?_,?_,?_,?_,?_,?_⟩<;>go_simp)) (first
  |(go_at_call 202;(with_reducible refine(fminus_any _ t m e _ gB).mono ?_);rintro e9 w3 ⟨v3,rfl,hv3,hb3⟩
    have gA3:=gA.below hb3
    have X4:=HX3.out.belowS hb3
    have Y4:=HY3.out.belowS hb3
    have HX4:=zH X4
    have HY4:=zH Y4
    obtain⟨_,q1,q2,q3,q4,q5,q6⟩:=X4
    obtain⟨_,r1,r2,r3,r4,r5,r6⟩:=Y4)
  |(go_at_call 80;(with_reducible refine(zco _ _ s (!t) n d m e _ gA3 hv3 K1.out K2.out).mono ?_);rintro e9 w5 ⟨v,er,rfl,hv1,hv2,hv4⟩
    obtain⟨t9,x9,y9,rfl,⟨a1,l91,k1,rfl,_⟩,⟨a2,l92,k2,rfl,_⟩⟩:=zpb (w0:=w) hv2 hv4
    have hp26:=zaa hb3 hv1
    have X6:=HX4.out.belowS hv1
    have Y6:=HY4.out.belowS hv1
    have Z6:=HZ3.out.belowS hp26
    have HZ6:=zH Z6
    obtain⟨_,q1,q2,q3,q4,q5,q6⟩:=X6
    obtain⟨_,r1,r2,r3,r4,r5,r6⟩:=Y6
    obtain⟨_,z1,z2,z3,z4,z5,z6⟩:=Z6))
 all_goals
  go_wp2_with fail
  refine zoa rfl rfl Tryz.aggF Tryz.sizeF (HZ6.out.set _ _ _) rfl ?_
  rw[HQ.out]
  exact⟨_,_,rfl,zga (hD.trans (hp26.mono hD.size)) (by omega) _ _ _,fun h=>⟨(hv2 h).1,(hv2 h).2.set3 HZ6.out (fun z=>by simp) (fun z=>by simp) _ _ _⟩,hv4⟩
theorem sub_can (va vb:Value) (p q:Rat) (w:World) (ha:zqa w va p) (hb:zqa w vb q) (hp:fits p) (hq:fits q) (hr:fits (p-q)):Calls Tryz.prog 163 #[va,vb] w (RF0 w (p-q)):=by
 have:=sub_frac va vb _ _ _ _ _ _ w ha.raw hb.raw (zuc hp) (zuc hq)
 rw[zvb,zvb]at this
 exact this.mono fun _ _ h=>h.ok rfl hr
theorem zbl (va vb:Value) (p q:Rat) (w:World) (ha:zqa w va p) (hb:zqa w vb q) (hp:fits p) (hq:fits q) (hr:fits (p*q)):Calls Tryz.prog 131 #[va,vb] w (RF0 w (p*q)):=by
 have:=mul_frac va vb _ _ _ _ _ _ w ha.raw hb.raw (zuc hp) (zuc hq)
 rw[zvb,zvb]at this
 exact this.mono fun _ _ h=>h.ok rfl hr
theorem add_can (va vb:Value) (p q:Rat) (w:World) (ha:zqa w va p) (hb:zqa w vb q) (hp:fits p) (hq:fits q) (hr:fits (p+q)):Calls Tryz.prog 80 #[va,vb] w (RF0 w (p+q)):=by
 have:=zco va vb _ _ _ _ _ _ w ha.raw hb.raw (zuc hp) (zuc hq)
 rw[zvb,zvb]at this
 exact this.mono fun _ _ h=>h.ok rfl hr
theorem quo_can (va vb:Value) (p q:Rat) (w:World) (ha:zqa w va p) (hb:zqa w vb q) (hp:fits p) (hq:fits q) (hq0:q≠0) (hr:fits (p/q)):Calls Tryz.prog 161 #[va,vb] w (RF0 w (p/q)):=by
 have:=quo_frac va vb _ _ _ _ _ _ w ha.raw hb.raw (zuc hp) (zuc hq) (fun h=>hq0 (Rat.num_eq_zero.1 (by omega)))
 rw[zvb,zvb]at this
 exact this.mono fun _ _ h=>h.ok rfl hr
set_option maxHeartbeats 800000
theorem lnumber_zero (w:World):Calls Tryz.prog 218 #[.int .i64 0] w (RF1 w 0):=by
 go_enter Tryz.func218,Tryz.ntmps218
 go_wp2_with (go_at_call 67;(with_reducible refine(zwy _).mono ?_);rintro e w1 ⟨v,rfl,hv,hb1⟩
              obtain⟨t9,x9,y9,rfl,⟨a1,l91,k1,rfl,_⟩,⟨a2,l92,k2,rfl,_⟩⟩:=hv.isF
              have hr:=((C3.new w 38 (.bool false) (.slice none 0 0) (.slice none 0 0)).belowS hb1).allocS (.cells #[.bool t9, .slice a1 l91 k1, .slice a2 l92 k2] 38)
              have hv2:=hv.below (zca w1 (.cells #[.bool t9, .slice a1 l91 k1, .slice a2 l92 k2] 38))
              have hb2:=zaa (zaa (zca w (.cells #[.bool false, .slice none 0 0, .slice none 0 0] 38)) hb1) (zca w1 (.cells #[.bool t9, .slice a1 l91 k1, .slice a2 l92 k2] 38))
              have HR:=zH hr
              obtain⟨_,d1,d2,d3,d4,d5,d6⟩:=hr)
 refine zab rfl rfl Tryz.aggF Tryz.sizeF (HR.out.set _ _ _) rfl ?_
 exact⟨_,rfl,hv2.set3 HR.out (fun z=>by simp) (fun z=>by simp) _ _ _,zga hb2 (zLR _) _ _ _⟩
theorem lnumber_one (w:World):Calls Tryz.prog 218 #[.int .i64 1] w (RF1 w 1):=by
 go_enter Tryz.func218,Tryz.ntmps218
 go_wp2_with (go_at_call 67;(with_reducible refine(make_11 _).mono ?_);rintro e w1 ⟨v,rfl,hv,hb1⟩
              obtain⟨t9,x9,y9,rfl,⟨a1,l91,k1,rfl,_⟩,⟨a2,l92,k2,rfl,_⟩⟩:=hv.isF
              have hr:=((C3.new w 38 (.bool false) (.slice none 0 0) (.slice none 0 0)).belowS hb1).allocS (.cells #[.bool t9, .slice a1 l91 k1, .slice a2 l92 k2] 38)
              have hv2:=hv.below (zca w1 (.cells #[.bool t9, .slice a1 l91 k1, .slice a2 l92 k2] 38))
              have hb2:=zaa (zaa (zca w (.cells #[.bool false, .slice none 0 0, .slice none 0 0] 38)) hb1) (zca w1 (.cells #[.bool t9, .slice a1 l91 k1, .slice a2 l92 k2] 38))
              have HR:=zH hr
              obtain⟨_,d1,d2,d3,d4,d5,d6⟩:=hr)
 refine zab rfl rfl Tryz.aggF Tryz.sizeF (HR.out.set _ _ _) rfl ?_
 exact⟨_,rfl,hv2.set3 HR.out (fun z=>by simp) (fun z=>by simp) _ _ _,zga hb2 (zLR _) _ _ _⟩
theorem lzero_any (v:Value) (s:Bool) (n d:Nat) (w:World) (h:zdc w v s n d):
 Calls Tryz.prog 220 #[v] w fun e w'=>e= .returned (.bool (decide (n=0)))/\Below w.heap.size w w':=by
 obtain⟨a,b,rfl,ha,hb⟩:=h
 go_enter Tryz.func220,Tryz.ntmps220
 go_wp2_with (go_at_call 156;refine(zva _ n _ (ha.below (zca _ _))).mono ?_;rintro e w' ⟨rfl,rfl⟩)
 go_ret
 exact⟨by rw[<-beq_bits];rfl,zca _ _⟩
theorem zci (v:Value) (q:Rat) (w:World) (h:zqa w v q):
 Calls Tryz.prog 220 #[v] w fun e w'=>e= .returned (.bool (decide (q=0)))/\Below w.heap.size w w':=by
 refine(lzero_any v _ _ _ w h.raw).mono ?_
 rintro e w' ⟨rfl,hb⟩
 refine⟨?_,hb⟩
 have :(q.num.natAbs=0)↔q=0:=⟨fun h=>Rat.num_eq_zero.1 (by omega),fun h=>by rw[h];rfl⟩
 by_cases hq:q=0
 ·rw[decide_eq_true hq,decide_eq_true (this.2 hq)]
 ·rw[decide_eq_false hq,decide_eq_false (fun h=>hq (this.1 h))]
theorem zgh (p v:Value) (q:Rat) (w:World) (h:zqa w v q):
 Calls Tryz.prog 206 #[p,v, .int .i64 0] w (RF1 w q):=by
 obtain⟨s,x,y,rfl,⟨a1,l1,k1,rfl,_⟩,⟨a2,l2,k2,rfl,_⟩⟩:=id h.isF
 obtain⟨bx,bz,hbw⟩:=zcf w 38 (.bool s) (.slice a1 l1 k1) (.slice a2 l2 k2) (.bool false) (.slice none 0 0) (.slice none 0 0) _ rfl
 have HF:=zH (h.below hbw)
 have HZ:=zH bz
 have HB:=zH hbw
 obtain⟨_,x0,x1,x2,f0,f1,f2⟩:=bx
 obtain⟨_,z0,z1,z2,g0,g1,g2⟩:=bz
 clear h hbw
 go_enter Tryz.func206,Tryz.ntmps206
 go_upto_region 1 with fail
 generalize (w.alloc (.cells #[.bool s, .slice a1 l1 k1, .slice a2 l2 k2] 38)).alloc (.cells #[.bool false, .slice none 0 0, .slice none 0 0] 38)=W at *
 go_wp2_with fail
 refine zab rfl rfl Tryz.aggF Tryz.sizeF (HZ.out.set _ _ _) rfl ?_
 exact⟨_,rfl,HF.out.set3 HZ.out (fun z=>by simp) (fun z=>by simp) _ _ _,zga HB.out (by omega) _ _ _⟩
section
variable {P:Program} {md:Region.Mode} {ops:Array Oper} {Q:Exit->Act->World->Prop} {S:World->Prop} {need:List Nat}
def wpN (P:Program) (md:Region.Mode) (ops:Array Oper) (Q:Exit->Act->World->Prop) (S:World->Prop) (need:List Nat):Nat->Array Bool->Act->World->Prop
 | 0,l,a,w=>Region.ready md ops l= []/\Q .normal a w
 | k+1,l,a,w=>(Region.ready md ops l= []->Q .normal a w)/\∀i∈Region.ready md ops l,wpOp P ops Q i (fun b v=>(need.contains i=false->S v)/\wpN P md ops Q S need k (l.setIfInBounds i true) b v) a w
theorem wpN.any :∀ (k:Nat) (l:Array Bool) (a:Act) (w:World),wpN P md ops Q S need k l a w->wpAny P md ops Q k l a w
 | 0,_,_,_,h=>h
 | k+1,_,_,_,h=>⟨h.1,fun i hi=>wpOp_mono (fun b v g=>wpN.any k _ b v g.2) (h.2 i hi)⟩
def waitT (md:Region.Mode) (ops:Array Oper) (i:Nat):Nat->Nat->Bool
 | 0,_=>false
 | k+1,j=>match ops[j]? with
   | none=>false
   | some o=>o.after.any fun e=>Region.binds md e&&(e.on==i || waitT md ops i k e.on)
def waitB (md:Region.Mode) (ops:Array Oper) (need:List Nat) (i:Nat):Bool:=need.all fun j=>waitT md ops i 14 j
def shutB (md:Region.Mode) (ops:Array Oper) (l:Array Bool):Bool:=
 (List.range ops.size).all fun j=> !l.getD j false || match ops[j]? with
  | none=>true
  | some o=>o.after.all fun e=> !Region.binds md e || l.getD e.on false
def Shut (md:Region.Mode) (ops:Array Oper) (l:Array Bool):Prop:=∀ (j:Nat) (o:Oper),ops[j]? =some o->l.getD j false=true->∀e∈o.after,Region.binds md e=true->l.getD e.on false=true
theorem zri {l:Array Bool} (h:shutB md ops l=true):Shut md ops l:=by
 intro j o ho hl e he hb
 have hj:j<ops.size:=(Array.getElem?_eq_some_iff.1 ho).1
 have h1:=List.all_eq_true.1 h j (List.mem_range.2 hj)
 rw[ho,hl]at h1
 simp only[Bool.not_true,Bool.false_or]at h1
 have h2:=Array.all_eq_true_iff_forall_mem.1 h1 e he
 rw[hb]at h2
 simpa using h2
theorem Shut.set {l:Array Bool} (h:Shut md ops l) {i:Nat} (hi:i∈Region.ready md ops l):Shut md ops (l.setIfInBounds i true):=by
 intro j o ho hl e he hb
 by_cases hij:i=j
 ·subst hij
  obtain⟨_,p,hp,hall⟩:=mem_ready.1 hi
  rw[ho]at hp
  injection hp with hp
  subst hp
  exact getD_set_true (hall e he hb)
 ·rw[getD_set_ne false hij]at hl
  exact getD_set_true (h j o ho hl e he hb)
theorem zng {i:Nat} {l:Array Bool} (hs:Shut md ops l):∀ (k j:Nat) (o:Oper),waitT md ops i k j=true->ops[j]? =some o->(∀e∈o.after,Region.binds md e=true->l.getD e.on false=true)->l.getD i false=true
 | 0,_,_,h,_,_=>by cases h
 | k+1,j,o,h,ho,hall=>by
   rw[waitT,ho]at h
   obtain⟨e,he,h2⟩:=Array.any_eq_true'.1 h
   simp only[Bool.and_eq_true,Bool.or_eq_true,beq_iff_eq]at h2
   obtain⟨hb,h3⟩:=h2
   have hl:=hall e he hb
   rcases h3 with h3 | h3
   ·rw[<-h3];exact hl
   ·cases hp:ops[e.on]? with
    | none=>
      cases k with
      | zero=>cases h3
      | succ k=>rw[waitT,hp]at h3;cases h3
    | some p=>exact zng hs k e.on p h3 hp (hs e.on p hp hl)
theorem zqg {i:Nat} {l:Array Bool} (h1:l.getD i false=true) (h0:l.getD i true=false):False:=by
 rcases Nat.lt_or_ge i l.size with h' | h'
 ·simp[h']at h0 h1;rw[h0]at h1;cases h1
 ·simp[Array.getElem?_eq_none h']at h1
theorem zeh {i j:Nat} {o:Oper} {l:Array Bool} (hj:j∈Region.ready md ops l) (hi:i∈Region.ready md ops l) (ho:ops[j]? =some o):∀e∈o.after,Region.binds md e=true->e.on≠i:=by
 intro e he hb heq
 obtain⟨_,o',ho',hall⟩:=mem_ready.1 hj
 rw[ho]at ho'
 injection ho' with ho'
 subst ho'
 have h1:=hall e he hb
 rw[heq]at h1
 exact zqg h1 (mem_ready.1 hi).1
theorem wpN.first {i:Nat} {o:Oper} {v:Value} (hi:ops[i]? =some o) (hs:Region.noSelect ops=true) (hw:waitB md ops need i=true) (hQ:∀c a w,Q (.panic c) (a.put o.dst v) w->Q (.panic c) a w):
 ∀ (k:Nat) (l:Array Bool) (a:Act) (w:World),Shut md ops l->(∀j p,ops[j]? =some p->j≠i->l.getD j true=false->(∀e∈p.after,Region.binds md e=true->e.on≠i)->o.apart ops p=true)->
  i∈Region.ready md ops l->YieldsIf P ops S o v a->S w->wpN P md ops Q S need k (l.setIfInBounds i true) (a.put o.dst v) w->wpN P md ops Q S need (k+1) l a w
 | 0,l,a,w,_,_,hr,hy,hS,H=>by
   refine⟨(fun h=>by rw[h]at hr;cases hr),fun j hj=> ?_⟩
   by_cases e:j=i
   ·subst e;exact hy.wpOp hi hS ⟨fun _=>hS,H⟩
   ·have h1:=ready_mono hj e
    rw[H.1]at h1
    cases h1
 | k+1,l,a,w,hsh,hfr,hr,hy,hS,H=>by
   refine⟨(fun h=>by rw[h]at hr;cases hr),fun j hj=> ?_⟩
   by_cases e:j=i
   ·subst e;exact hy.wpOp hi hS ⟨fun _=>hS,H⟩
   ·obtain⟨hun,p,hp,_⟩:=mem_ready.1 hj
    have hno:=zeh hj hr hp
    have hnd:need.contains j=false:=by
     cases hc:need.contains j with
     | false=>rfl
     | true=>
       obtain⟨_,p',hp',hall⟩:=mem_ready.1 hj
       exact(zqg (zng hsh 14 j p' (List.all_eq_true.1 hw j (by simpa using hc)) hp' hall) (mem_ready.1 hr).1).elim
    have hsel:=fun(j:Nat) (o:Oper) cs b (h:ops[j]? =some o)=>Region.noSelect_spec hs j o cs b h
    have h2:=wpOp_putIf hp (hfr j p hp e hun hno) (fun cs b=>hsel i o cs b hi) (fun cs b=>hsel j p cs b hp) hQ hy (H.2 j (ready_mono hj e))
    refine wpOp_mono (fun b u g=>⟨fun _=>g.2.1 hnd,wpN.first hi hs hw hQ k (l.setIfInBounds j true) b u (hsh.set hj) ?_ (ready_mono hr (Ne.symm e)) g.1 (g.2.1 hnd) ?_⟩) h2
    ·intro x q hq hxi hxl hxw
     refine hfr x q hq hxi ?_ hxw
     by_cases hjx:j=x
     ·subst hjx;exact hun
     ·rwa[getD_set_ne true hjx]at hxl
    ·rw[Array.setIfInBounds_comm _ _ e]
     exact g.2.2
theorem wpN.take (i:Nat) {fuel:Nat} {l:Array Bool} {a:Act} {w:World} (hs:Region.noSelect ops=true) (hw:waitB md ops need i=true) (hc:shutB md ops l=true) (hf:Region.free md ops l i=true) (hr:(Region.ready md ops l).contains i=true) (hS:S w) (hi:(ops[i]?).isSome=true)
 (h:∀o,ops[i]? =some o->∃v,(∀c a w,Q (.panic c) (a.put o.dst v) w->Q (.panic c) a w)/\YieldsIf P ops S o v a/\wpN P md ops Q S need fuel (l.setIfInBounds i true) (a.put o.dst v) w):wpN P md ops Q S need (fuel+1) l a w:=by
 obtain⟨o,ho⟩:=Option.isSome_iff_exists.1 hi
 obtain⟨v,h1,h2,h3⟩:=h o ho
 exact wpN.first ho hs hw h1 fuel l a w (zri hc) (Region.free_spec ho hf) (by simpa using hr) h2 hS h3
theorem wpN.one (k:Nat) {fuel:Nat} {l:Array Bool} {a:Act} {w:World} (hr:Region.ready md ops l= [k]) (hi:(ops[k]?).isSome=true)
 (h:∀o,ops[k]? =some o->∀K:Act->World->Prop,Hid (∀b v,(need.contains k=false->S v)->wpN P md ops Q S need fuel (l.setIfInBounds k true) b v->K b v)->if Region.wanted o (yielded ops a.tmps)=true then o.wp P a w K Q else K (a.put o.dst undef) w):wpN P md ops Q S need (fuel+1) l a w:=by
 obtain⟨o,ho⟩:=Option.isSome_iff_exists.1 hi
 refine⟨(fun h0=>by rw[hr]at h0;cases h0),fun j hj=> ?_⟩
 rw[hr]at hj
 obtain rfl:j=k:=by simpa using hj
 have h1:=h o ho _ (zH fun b v h2 h3=>(⟨h2,h3⟩:(need.contains j=false->S v)/\_))
 unfold wpOp
 simp only[ho]
 by_cases hw:Region.wanted o (yielded ops a.tmps)=true
 ·rw[if_pos hw]at h1 |-
  exact Or.inl h1
 ·rw[if_neg hw]at h1 |-
  exact h1
theorem wpN.done {l:Array Bool} {a:Act} {w:World} (hr:Region.ready md ops l= []) (h:Q .normal a w):∀fuel,wpN P md ops Q S need fuel l a w
 | 0=>⟨hr,h⟩
 | _+1=>⟨fun _=>h,by rw[hr];simp⟩
theorem wpN.start {id:Nat} {a:Act} {w:World} (need:List Nat) (S:World->Prop) (hm:P.follows .mixedOrders=true) (hS:S w.drew) (h:S w.drew->wpN P .any ops Q S need ops.size (Array.replicate ops.size false) a w.drew):(Code.region id ops true).wp P Q a w:=
 wp_region_any hm (wpN.any _ _ _ _ (h hS))
end
section
variable {P:Program} {md:Region.Mode} {ops:Array Oper} {Q:Exit->Act->World->Prop} {S:World->Prop} {need:List Nat} {fuel:Nat} {l l':Array Bool} {a a':Act} {w:World} {o:Oper} {v:Value}
theorem wpN.t (i:Nat) (h:wpN P md ops Q S need fuel l' a' w) (ho:ops[i]? =some o:=by(simp only[List.getElem?_toArray,List.getElem?_cons_succ,List.getElem?_cons_zero];rfl)) (hs:Region.noSelect ops=true:=by kernel_rfl) (hw:waitB md ops need i=true:=by kernel_rfl) (hc:shutB md ops l=true:=by kernel_rfl) (hf:Region.free md ops l i=true:=by kernel_rfl) (hr:(Region.ready md ops l).contains i=true:=by kernel_rfl) (hS:S w:=by assumption)
 (hQ:∀c a w,Q (.panic c) (a.put o.dst v) w->Q (.panic c) a w:=by exact fun _ _ _ h=>h) (hy:YieldsIf P ops S o v a:=by first | exact Or.inr ⟨by rfl,rfl⟩ | (refine Or.inl ⟨by rfl,?_⟩;intro w hSw;(try dsimp only at hSw);go_simp;try with_reducible rfl))
 (hl:l.setIfInBounds i true=l':=by((try simp only[List.setIfInBounds_toArray,List.set_cons_zero,List.set_cons_succ]);rfl)) (ha:a.put o.dst v=a':=by(simp only[Act.put,List.setIfInBounds_toArray,List.set_cons_zero,List.set_cons_succ];rfl)):wpN P md ops Q S need (fuel+1) l a w:=by
 subst hl ha
 exact wpN.first ho hs hw hQ fuel l a w (zri hc) (Region.free_spec ho hf) (by simpa using hr) hy hS h
theorem wpN.oo (k:Nat) (h:∀K:Act->World->Prop,Hid (∀b v,(need.contains k=false->S v)->wpN P md ops Q S need fuel (l.setIfInBounds k true) b v->K b v)->if Region.wanted o (yielded ops a.tmps)=true then o.wp P a w K Q else K (a.put o.dst undef) w)
 (ho:ops[k]? =some o:=by(simp only[List.getElem?_toArray,List.getElem?_cons_succ,List.getElem?_cons_zero];rfl)) (hr:Region.ready md ops l= [k]:=by kernel_rfl):wpN P md ops Q S need (fuel+1) l a w:=
 wpN.one k hr (by rw[ho];rfl) fun o' h'=>by rw[ho]at h';injection h' with h';subst h';exact h
end
end Go.Proofs.YtlpdkbmmbdfoiaaGreat
