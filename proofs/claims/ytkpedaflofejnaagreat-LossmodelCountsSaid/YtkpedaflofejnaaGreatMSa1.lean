/- Lemmas. -/
import Derived.Test.YtkpedaflofejnaaGreatMLo4
set_option linter.unusedVariables false
set_option linter.unusedSimpArgs false
namespace Go.Proofs.YtkpedaflofejnaaGreat
open Go.RowKit
theorem fq_ne (s:Bool) {n d:Nat} (hn:n≠0) (hd:d≠0):fq s n d≠0:=λ h=>by
 unfold fq at h;have:=(Rat.mkRat_eq_zero hd).1 h;have h2:=zii s n;rw[this]at h2;exact hn h2.symm
set_option maxRecDepth 100000 in
set_option maxHeartbeats 1600000 in
theorem mul_frac (va vb:Value) (s t:Bool) (n d m e:Nat) (w:World) (ha:zjc w va s n d) (hb:zjc w vb t m e) (h1:okN n d) (h2:okN m e):
 Calls Tryz.prog 108 #[va,vb] w (zcm w (fq s n d*fq t m e)):=by
 have hA:=ha;have hB:=hb;obtain⟨xn,xd,rfl,hxn,hxd⟩:=ha;obtain⟨yn,yd,rfl,hyn,hyd⟩:=hb;obtain⟨an,ln,kn,rfl,_⟩:=hxn.slen.1;obtain⟨ad,ld,kd,rfl,_⟩:=hxd.slen.1;obtain⟨am,lm,km,rfl,_⟩:=hyn.slen.1;obtain⟨ae,le,ke,rfl,_⟩:=hyd.slen.1;have HQ:=zH (fq_mul s t n d m e);have K1:=zH h1;have K2:=zH h2;clear h1 h2;go_enter Tryz.func108,Tryz.ntmps108;go_wp2_with fail;obtain⟨W,hW⟩:∃W,W=(((w.alloc (.cells #[.bool s, .slice an ln kn, .slice ad ld kd] 53)).alloc (.cells #[.bool t, .slice am lm km, .slice ae le ke] 53)).alloc (.cells #[.bool false, .slice none 0 0, .slice none 0 0] 53)):=⟨_,rfl⟩;obtain⟨bx,byy,bz,hbw⟩:=zle w 53 _ _ _ _ _ _ _ _ _ W hW;rw[<-hW];clear hW;have HBX:=zH bx;have HBY:=zH byy;have HBZ:=zH bz;obtain⟨_,q1,q2,q3,q4,q5,q6⟩:=bx;obtain⟨_,r1,r2,r3,r4,r5,r6⟩:=byy
 go_wp2_with (first
  |(go_at_call 118;first
    |((with_reducible refine(zlg _ s n d _ (hA.bw hbw) K1.o).mono ?_);rintro e9 w1 ⟨rfl,hv1⟩
      obtain⟨_,f1,f2,f3,f4,f5,f6⟩:=HBY.o.bS hv1;have hbw1:=hbw.trans (hv1.mono hbw.size))
    |((with_reducible refine(zlg _ t m e _ (hB.bw hbw1) K2.o).mono ?_);rintro e9 w2 ⟨rfl,hv2⟩
      have hbx2:=(HBX.o.bS hv1).bS hv2;have hby2:=(HBY.o.bS hv1).bS hv2;have hbz2:=(HBZ.o.bS hv1).bS hv2;have hbw2:=hbw1.trans (hv2.mono hbw1.size))))
 clear q1 q2 q3 q4 q5 q6 r1 r2 r3 r4 r5 r6 f1 f2 f3 f4 f5 f6;have hd2:=zha (B:=w2.heap.size) w2;have hD:=hbw2.trans (hd2.mono hbw2.size);have hbx3:=hbx2.bS hd2;have hby3:=hby2.bS hd2;have hbz3:=hbz2.bS hd2;have HX3:=zH hbx3;have HY3:=zH hby3;have HZ3:=zH hbz3;clear hbx2 hby2 hbz2 hbw2 hv1 hv2 hbw hbw1 HBX HBY HBZ bz hd2;obtain⟨_,q1,q2,q3,q4,q5,q6⟩:=hbx3;obtain⟨_,r1,r2,r3,r4,r5,r6⟩:=hby3;obtain⟨_,z1,z2,z3,z4,z5,z6⟩:=hbz3;have g1:=hxn.bw hD;have g2:=hxd.bw hD;have g3:=hyn.bw hD;have g4:=hyd.bw hD;have l1:=zH (zad K1.o);have l2:=zH (zad K2.o);have T1:=zH (zLT l1.o.1 (show 128<=256 by decide));have T2:=zH (zLT l2.o.2 (show 128<=256 by decide));have T3:=zH (zLT l2.o.1 (show 128<=256 by decide));have T4:=zH (zLT l1.o.2 (show 128<=256 by decide));have N1:=zH (zLT (zoe l1.o.1 l2.o.1) (show 128+128<=512 by decide));have N2:=zH (zLT (zoe l1.o.2 l2.o.2) (show 128+128<=512 by decide));have HDE:zI (d*e≠0):=zH (zMZ K1.o.1 K2.o.1);have tok1:True:=trivial;rcases s with _ | _<;>rcases t with _ | _
 ·go_region_held3 (λ w'=>w'.cell? ⟨w.heap.size,0,none⟩=some (.bool false)/\w'.cell? ⟨w.heap.size,1,none⟩=some (.slice an ln kn)/\w'.cell? ⟨w.heap.size,2,none⟩=some (.slice ad ld kd)/\w'.cell? ⟨w.heap.size+1,0,none⟩=some (.bool false)/\w'.cell? ⟨w.heap.size+1,1,none⟩=some (.slice am lm km)/\w'.cell? ⟨w.heap.size+1,2,none⟩=some (.slice ae le ke)) (first | with_reducible exact⟨q1,q2,q3,r1,r2,r3⟩ | (refine⟨?_,?_,?_,?_,?_,?_⟩<;>go_simp)) (first
   |(go_at_call 120;have _t:=tok1;clear tok1 _t;(with_reducible refine(zpc _ _ n m _ g1 g3 T1.o T3.o).mono ?_);rintro e9 w3 ⟨p1,rfl,hp1,hp2⟩;have X4:=HX3.o.bS hp2;have Y4:=HY3.o.bS hp2;have HX4:=zH X4;have HY4:=zH Y4;obtain⟨_,q1,q2,q3,q4,q5,q6⟩:=X4;obtain⟨_,r1,r2,r3,r4,r5,r6⟩:=Y4)
   |(go_at_call 120;(with_reducible refine(zpc _ _ d e _ (g2.bw hp2) (g4.bw hp2) T4.o T2.o).mono ?_);rintro e9 w4 ⟨p3,rfl,hp3,hp4⟩;have hp24:=zaa hp2 hp4;have hp14:=hp1.bw hp4;have X5:=HX4.o.bS hp4;have Y5:=HY4.o.bS hp4;have HX5:=zH X5;have HY5:=zH Y5;obtain⟨_,q1,q2,q3,q4,q5,q6⟩:=X5;obtain⟨_,r1,r2,r3,r4,r5,r6⟩:=Y5)
   |(go_at_call 135;(with_reducible refine(zfd _ p1 p3 (n*m) (d*e) _ hp14.nat hp3.nat HDE.o N1.o N2.o).mono ?_);rintro e9 w5 ⟨v,er,rfl,hv1,hv2,hv3⟩;obtain⟨t9,x9,y9,rfl,⟨a1,l91,k1,rfl,_⟩,⟨a2,l92,k2,rfl,_⟩⟩:=zyc (w0:=w) hv2 hv3;have hp26:=zaa hp24 hv1;have X6:=HX5.o.bS hv1;have Y6:=HY5.o.bS hv1;have Z6:=HZ3.o.bS hp26;have HZ6:=zH Z6;obtain⟨_,q1,q2,q3,q4,q5,q6⟩:=X6;obtain⟨_,r1,r2,r3,r4,r5,r6⟩:=Y6;obtain⟨_,z1,z2,z3,z4,z5,z6⟩:=Z6))
  all_goals
   go_wp2_with fail;refine zka rfl rfl Tryz.aggF Tryz.sizeF (HZ6.o.set _ _ _) rfl ?_;rw[HQ.o];exact⟨_,_,rfl,zea (hD.trans (hp26.mono hD.size)) zO _ _ _,λ h=>⟨(hv2 h).1,(hv2 h).2.set3 HZ6.o zZ zZ _ _ _⟩,hv3⟩
 ·go_region_held3 (λ w'=>w'.cell? ⟨w.heap.size,0,none⟩=some (.bool false)/\w'.cell? ⟨w.heap.size,1,none⟩=some (.slice an ln kn)/\w'.cell? ⟨w.heap.size,2,none⟩=some (.slice ad ld kd)/\w'.cell? ⟨w.heap.size+1,0,none⟩=some (.bool true)/\w'.cell? ⟨w.heap.size+1,1,none⟩=some (.slice am lm km)/\w'.cell? ⟨w.heap.size+1,2,none⟩=some (.slice ae le ke)) (first | with_reducible exact⟨q1,q2,q3,r1,r2,r3⟩ | (refine⟨?_,?_,?_,?_,?_,?_⟩<;>go_simp)) (first
   |(go_at_call 120;have _t:=tok1;clear tok1 _t;(with_reducible refine(zpc _ _ n m _ g1 g3 T1.o T3.o).mono ?_);rintro e9 w3 ⟨p1,rfl,hp1,hp2⟩;have X4:=HX3.o.bS hp2;have Y4:=HY3.o.bS hp2;have HX4:=zH X4;have HY4:=zH Y4;obtain⟨_,q1,q2,q3,q4,q5,q6⟩:=X4;obtain⟨_,r1,r2,r3,r4,r5,r6⟩:=Y4)
   |(go_at_call 120;(with_reducible refine(zpc _ _ d e _ (g2.bw hp2) (g4.bw hp2) T4.o T2.o).mono ?_);rintro e9 w4 ⟨p3,rfl,hp3,hp4⟩;have hp24:=zaa hp2 hp4;have hp14:=hp1.bw hp4;have X5:=HX4.o.bS hp4;have Y5:=HY4.o.bS hp4;have HX5:=zH X5;have HY5:=zH Y5;obtain⟨_,q1,q2,q3,q4,q5,q6⟩:=X5;obtain⟨_,r1,r2,r3,r4,r5,r6⟩:=Y5)
   |(go_at_call 135;(with_reducible refine(zfd _ p1 p3 (n*m) (d*e) _ hp14.nat hp3.nat HDE.o N1.o N2.o).mono ?_);rintro e9 w5 ⟨v,er,rfl,hv1,hv2,hv3⟩;obtain⟨t9,x9,y9,rfl,⟨a1,l91,k1,rfl,_⟩,⟨a2,l92,k2,rfl,_⟩⟩:=zyc (w0:=w) hv2 hv3;have hp26:=zaa hp24 hv1;have X6:=HX5.o.bS hv1;have Y6:=HY5.o.bS hv1;have Z6:=HZ3.o.bS hp26;have HZ6:=zH Z6;obtain⟨_,q1,q2,q3,q4,q5,q6⟩:=X6;obtain⟨_,r1,r2,r3,r4,r5,r6⟩:=Y6;obtain⟨_,z1,z2,z3,z4,z5,z6⟩:=Z6))
  all_goals
   go_wp2_with fail;refine zka rfl rfl Tryz.aggF Tryz.sizeF (HZ6.o.set _ _ _) rfl ?_;rw[HQ.o];exact⟨_,_,rfl,zea (hD.trans (hp26.mono hD.size)) zO _ _ _,λ h=>⟨(hv2 h).1,(hv2 h).2.set3 HZ6.o zZ zZ _ _ _⟩,hv3⟩
 ·go_region_held3 (λ w'=>w'.cell? ⟨w.heap.size,0,none⟩=some (.bool true)/\w'.cell? ⟨w.heap.size,1,none⟩=some (.slice an ln kn)/\w'.cell? ⟨w.heap.size,2,none⟩=some (.slice ad ld kd)/\w'.cell? ⟨w.heap.size+1,0,none⟩=some (.bool false)/\w'.cell? ⟨w.heap.size+1,1,none⟩=some (.slice am lm km)/\w'.cell? ⟨w.heap.size+1,2,none⟩=some (.slice ae le ke)) (first | with_reducible exact⟨q1,q2,q3,r1,r2,r3⟩ | (refine⟨?_,?_,?_,?_,?_,?_⟩<;>go_simp)) (first
   |(go_at_call 120;have _t:=tok1;clear tok1 _t;(with_reducible refine(zpc _ _ n m _ g1 g3 T1.o T3.o).mono ?_);rintro e9 w3 ⟨p1,rfl,hp1,hp2⟩;have X4:=HX3.o.bS hp2;have Y4:=HY3.o.bS hp2;have HX4:=zH X4;have HY4:=zH Y4;obtain⟨_,q1,q2,q3,q4,q5,q6⟩:=X4;obtain⟨_,r1,r2,r3,r4,r5,r6⟩:=Y4)
   |(go_at_call 120;(with_reducible refine(zpc _ _ d e _ (g2.bw hp2) (g4.bw hp2) T4.o T2.o).mono ?_);rintro e9 w4 ⟨p3,rfl,hp3,hp4⟩;have hp24:=zaa hp2 hp4;have hp14:=hp1.bw hp4;have X5:=HX4.o.bS hp4;have Y5:=HY4.o.bS hp4;have HX5:=zH X5;have HY5:=zH Y5;obtain⟨_,q1,q2,q3,q4,q5,q6⟩:=X5;obtain⟨_,r1,r2,r3,r4,r5,r6⟩:=Y5)
   |(go_at_call 135;(with_reducible refine(zfd _ p1 p3 (n*m) (d*e) _ hp14.nat hp3.nat HDE.o N1.o N2.o).mono ?_);rintro e9 w5 ⟨v,er,rfl,hv1,hv2,hv3⟩;obtain⟨t9,x9,y9,rfl,⟨a1,l91,k1,rfl,_⟩,⟨a2,l92,k2,rfl,_⟩⟩:=zyc (w0:=w) hv2 hv3;have hp26:=zaa hp24 hv1;have X6:=HX5.o.bS hv1;have Y6:=HY5.o.bS hv1;have Z6:=HZ3.o.bS hp26;have HZ6:=zH Z6;obtain⟨_,q1,q2,q3,q4,q5,q6⟩:=X6;obtain⟨_,r1,r2,r3,r4,r5,r6⟩:=Y6;obtain⟨_,z1,z2,z3,z4,z5,z6⟩:=Z6))
  all_goals
   go_wp2_with fail;refine zka rfl rfl Tryz.aggF Tryz.sizeF (HZ6.o.set _ _ _) rfl ?_;rw[HQ.o];exact⟨_,_,rfl,zea (hD.trans (hp26.mono hD.size)) zO _ _ _,λ h=>⟨(hv2 h).1,(hv2 h).2.set3 HZ6.o zZ zZ _ _ _⟩,hv3⟩
 ·go_region_held3 (λ w'=>w'.cell? ⟨w.heap.size,0,none⟩=some (.bool true)/\w'.cell? ⟨w.heap.size,1,none⟩=some (.slice an ln kn)/\w'.cell? ⟨w.heap.size,2,none⟩=some (.slice ad ld kd)/\w'.cell? ⟨w.heap.size+1,0,none⟩=some (.bool true)/\w'.cell? ⟨w.heap.size+1,1,none⟩=some (.slice am lm km)/\w'.cell? ⟨w.heap.size+1,2,none⟩=some (.slice ae le ke)) (first | with_reducible exact⟨q1,q2,q3,r1,r2,r3⟩ | (refine⟨?_,?_,?_,?_,?_,?_⟩<;>go_simp)) (first
   |(go_at_call 120;have _t:=tok1;clear tok1 _t;(with_reducible refine(zpc _ _ n m _ g1 g3 T1.o T3.o).mono ?_);rintro e9 w3 ⟨p1,rfl,hp1,hp2⟩;have X4:=HX3.o.bS hp2;have Y4:=HY3.o.bS hp2;have HX4:=zH X4;have HY4:=zH Y4;obtain⟨_,q1,q2,q3,q4,q5,q6⟩:=X4;obtain⟨_,r1,r2,r3,r4,r5,r6⟩:=Y4)
   |(go_at_call 120;(with_reducible refine(zpc _ _ d e _ (g2.bw hp2) (g4.bw hp2) T4.o T2.o).mono ?_);rintro e9 w4 ⟨p3,rfl,hp3,hp4⟩;have hp24:=zaa hp2 hp4;have hp14:=hp1.bw hp4;have X5:=HX4.o.bS hp4;have Y5:=HY4.o.bS hp4;have HX5:=zH X5;have HY5:=zH Y5;obtain⟨_,q1,q2,q3,q4,q5,q6⟩:=X5;obtain⟨_,r1,r2,r3,r4,r5,r6⟩:=Y5)
   |(go_at_call 135;(with_reducible refine(zfd _ p1 p3 (n*m) (d*e) _ hp14.nat hp3.nat HDE.o N1.o N2.o).mono ?_);rintro e9 w5 ⟨v,er,rfl,hv1,hv2,hv3⟩;obtain⟨t9,x9,y9,rfl,⟨a1,l91,k1,rfl,_⟩,⟨a2,l92,k2,rfl,_⟩⟩:=zyc (w0:=w) hv2 hv3;have hp26:=zaa hp24 hv1;have X6:=HX5.o.bS hv1;have Y6:=HY5.o.bS hv1;have Z6:=HZ3.o.bS hp26;have HZ6:=zH Z6;obtain⟨_,q1,q2,q3,q4,q5,q6⟩:=X6;obtain⟨_,r1,r2,r3,r4,r5,r6⟩:=Y6;obtain⟨_,z1,z2,z3,z4,z5,z6⟩:=Z6))
  all_goals
   go_wp2_with fail;refine zka rfl rfl Tryz.aggF Tryz.sizeF (HZ6.o.set _ _ _) rfl ?_;rw[HQ.o];exact⟨_,_,rfl,zea (hD.trans (hp26.mono hD.size)) zO _ _ _,λ h=>⟨(hv2 h).1,(hv2 h).2.set3 HZ6.o zZ zZ _ _ _⟩,hv3⟩
set_option maxRecDepth 100000 in
set_option maxHeartbeats 1600000 in
theorem cmp_frac (va vb:Value) (s t:Bool) (n d m e:Nat) (w:World) (ha:zjc w va s n d) (hb:zjc w vb t m e) (h1:okN n d) (h2:okN m e):
 Calls Tryz.prog 78 #[va,vb] w λ en w'=>en= .returned (.tuple #[.int .i64 (zto (fq s n d) (fq t m e)), .int .i64 0])/\Below w.heap.size w w':=by
 have hA:=ha;have hB:=hb;obtain⟨xn,xd,rfl,hxn,hxd⟩:=ha;obtain⟨yn,yd,rfl,hyn,hyd⟩:=hb;obtain⟨an,ln,kn,rfl,_⟩:=hxn.slen.1;obtain⟨ad,ld,kd,rfl,_⟩:=hxd.slen.1;obtain⟨am,lm,km,rfl,_⟩:=hyn.slen.1;obtain⟨ae,le,ke,rfl,_⟩:=hyd.slen.1;have K1:=zH h1;have K2:=zH h2;have HR:=zH (cmpR_eq s t n d m e h1.1 h2.1);clear h1 h2;go_enter Tryz.func78,Tryz.ntmps78;go_wp2_with fail;obtain⟨W,hW⟩:∃W,W=((w.alloc (.cells #[.bool s, .slice an ln kn, .slice ad ld kd] 53)).alloc (.cells #[.bool t, .slice am lm km, .slice ae le ke] 53)):=⟨_,rfl⟩;obtain⟨bx,byy,hbw⟩:=zkh w 53 _ _ _ _ _ _ W hW;rw[<-hW];clear hW;have HBX:=zH bx;have HBY:=zH byy;obtain⟨_,q1,q2,q3,q4,q5,q6⟩:=bx;obtain⟨_,r1,r2,r3,r4,r5,r6⟩:=byy
 go_wp2_with (first
  |(go_at_call 118;first
    |((with_reducible refine(zlg _ s n d _ (hA.bw hbw) K1.o).mono ?_);rintro e9 w1 ⟨rfl,hv1⟩
      obtain⟨_,f1,f2,f3,f4,f5,f6⟩:=HBY.o.bS hv1;have hbw1:=zaa hbw hv1)
    |((with_reducible refine(zlg _ t m e _ (hB.bw hbw1) K2.o).mono ?_);rintro e9 w2 ⟨rfl,hv2⟩
      have hbx2:=(HBX.o.bS hv1).bS hv2;have hby2:=(HBY.o.bS hv1).bS hv2;have hbw2:=zaa hbw1 hv2)))
 clear q1 q2 q3 q4 q5 q6 r1 r2 r3 r4 r5 r6 f1 f2 f3 f4 f5 f6;have hd2:=zha (B:=w2.heap.size) w2;have hD:=hbw2.trans (hd2.mono hbw2.size);have hbx3:=hbx2.bS hd2;have hby3:=hby2.bS hd2;clear hbx2 hby2 hbw2 hv1 hv2 hbw hbw1 HBX HBY hd2;have HX3:=zH hbx3;have HY3:=zH hby3;obtain⟨_,q1,q2,q3,q4,q5,q6⟩:=hbx3;obtain⟨_,r1,r2,r3,r4,r5,r6⟩:=hby3;have g1:=hxn.bw hD;have g2:=hxd.bw hD;have g3:=hyn.bw hD;have g4:=hyd.bw hD;have l1:=zH (zad K1.o);have l2:=zH (zad K2.o);have T1:=zH (zLT l1.o.1 (show 128<=256 by decide));have T2:=zH (zLT l2.o.2 (show 128<=256 by decide));have T3:=zH (zLT l2.o.1 (show 128<=256 by decide));have T4:=zH (zLT l1.o.2 (show 128<=256 by decide));have tok1:True:=trivial
 go_region_held3 (λ w'=>w'.cell? ⟨w.heap.size,1,none⟩=some (.slice an ln kn)/\w'.cell? ⟨w.heap.size,2,none⟩=some (.slice ad ld kd)/\w'.cell? ⟨w.heap.size+1,1,none⟩=some (.slice am lm km)/\w'.cell? ⟨w.heap.size+1,2,none⟩=some (.slice ae le ke)) (exact⟨q2,q3,r2,r3⟩) (first
  |(go_at_call 120;have _t:=tok1;clear tok1 _t;(with_reducible refine(zpc _ _ n e _ g1 g4 T1.o T2.o).mono ?_);rintro e9 w3 ⟨p1,rfl,hp1,hp2⟩;have X4:=HX3.o.bS hp2;have Y4:=HY3.o.bS hp2;have HX4:=zH X4;have HY4:=zH Y4;obtain⟨_,q1,q2,q3,q4,q5,q6⟩:=X4;obtain⟨_,r1,r2,r3,r4,r5,r6⟩:=Y4)
  |(go_at_call 120;(with_reducible refine(zpc _ _ m d _ (g3.bw hp2) (g2.bw hp2) T3.o T4.o).mono ?_);rintro e9 w4 ⟨p3,rfl,hp3,hp4⟩;have hp24:=zaa hp2 hp4;have hp14:=hp1.bw hp4;have X5:=HX4.o.bS hp4;have Y5:=HY4.o.bS hp4;have HX5:=zH X5;have HY5:=zH Y5;obtain⟨_,q1,q2,q3,q4,q5,q6⟩:=X5;obtain⟨_,r1,r2,r3,r4,r5,r6⟩:=Y5)
  |(go_at_call 119;(with_reducible refine(zlo p1 p3 (n*e) (m*d) _ hp14.nat hp3.nat).mono ?_);rintro e9 w5 ⟨rfl,k9,rfl⟩;have hp5:=zia (B:=w4.heap.size) w4 k9;have hp26:=zaa hp24 hp5;have X6:=HX5.o.bS hp5;have Y6:=HY5.o.bS hp5;have HX6:=zH X6;have HY6:=zH Y6;obtain⟨_,q1,q2,q3,q4,q5,q6⟩:=X6;obtain⟨_,r1,r2,r3,r4,r5,r6⟩:=Y6))
 have hdw:Below w.heap.size w (w4.drewN k9):=hD.trans (hp26.mono hD.size);clear q1 q2 q3 q4 q5 q6 r1 r2 r3 r4 r5 r6 hp5 hp26 hp24 hp14 hp1 hp3 hp2 hp4 hD g1 g2 g3 g4 HX3 HY3 HX4 HY4 HX5 HY5 T1 T2 T3 T4;generalize w4.drewN k9=W4 at *
 have hcb: -1<=zjl (n*e) (m*d)/\zjl (n*e) (m*d)<=1:=by unfold zjl;split<;>(try split)<;>omega
 obtain⟨hcb1,hcb2⟩:=hcb;generalize hcn:zjl (n*e) (m*d)=c at *
 have HCN:=zH hcn;clear hcn;have hd2:=zha (B:=W4.heap.size) W4;have hD:=hdw.trans (hd2.mono hdw.size);have hbx3:=HX6.o.bS hd2;have hby3:=HY6.o.bS hd2;have HX7:=zH hbx3;have HY7:=zH hby3;clear HX6 HY6;go_wp2_with fail;obtain⟨_,q1,q2,q3,q4,q5,q6⟩:=hbx3;obtain⟨_,r1,r2,r3,r4,r5,r6⟩:=hby3;rcases s with _ | _<;>rcases t with _ | _
 ·go_region
  all_goals
   go_wp2
   all_goals
    go_ret2;exact⟨by rw[HR.o];simp[*],hD⟩
 ·go_region_law (refine zla 121 #[.agg #[.bool true, .slice am lm km, .slice ae le ke]] ?_ ?_ (zdm _ true m e _ (hB.bw hD)) ?_;go_simp;go_simp;rintro e9 w5 ⟨rfl,hz1⟩;refine⟨_,rfl,?_⟩;obtain⟨_,q1,q2,q3,q4,q5,q6⟩:=HX7.o.bS hz1;obtain⟨_,r1,r2,r3,r4,r5,r6⟩:=HY7.o.bS hz1)
  all_goals
   go_wp2
   all_goals
    go_ret2;exact⟨by rw[HR.o];simp[*],hD.trans (hz1.mono hD.size)⟩
 ·go_region_law (refine zla 121 #[.agg #[.bool true, .slice an ln kn, .slice ad ld kd]] ?_ ?_ (zdm _ true n d _ (hA.bw hD)) ?_;go_simp;go_simp;rintro e9 w5 ⟨rfl,hz1⟩;refine⟨_,rfl,?_⟩;obtain⟨_,q1,q2,q3,q4,q5,q6⟩:=HX7.o.bS hz1;obtain⟨_,r1,r2,r3,r4,r5,r6⟩:=HY7.o.bS hz1)
  all_goals
   go_wp2
   all_goals
    go_ret2;exact⟨by rw[HR.o];simp[*],hD.trans (hz1.mono hD.size)⟩
 ·go_region_held3 (λ w'=>w'.cell? ⟨w.heap.size,0,none⟩=some (.bool true)/\w'.cell? ⟨w.heap.size,1,none⟩=some (.slice an ln kn)/\w'.cell? ⟨w.heap.size,2,none⟩=some (.slice ad ld kd)/\w'.cell? ⟨w.heap.size+1,0,none⟩=some (.bool true)/\w'.cell? ⟨w.heap.size+1,1,none⟩=some (.slice am lm km)/\w'.cell? ⟨w.heap.size+1,2,none⟩=some (.slice ae le ke)) (exact⟨q1,q2,q3,r1,r2,r3⟩) (first
  |(go_at_call 121;(with_reducible refine(zdm _ true n d _ (hA.bw hD)).mono ?_);rintro e9 w5 ⟨rfl,hz1⟩;have X8:=HX7.o.bS hz1;have Y8:=HY7.o.bS hz1;have HX8:=zH X8;have HY8:=zH Y8;obtain⟨_,q1,q2,q3,q4,q5,q6⟩:=X8;obtain⟨_,r1,r2,r3,r4,r5,r6⟩:=Y8)
  |(go_at_call 121;(with_reducible refine(zdm _ true m e _ ((hB.bw hD).bw hz1)).mono ?_);rintro e9 w6 ⟨rfl,hz2⟩;have X9:=HX8.o.bS hz2;have Y9:=HY8.o.bS hz2;obtain⟨_,q1,q2,q3,q4,q5,q6⟩:=X9;obtain⟨_,r1,r2,r3,r4,r5,r6⟩:=Y9))
  all_goals
   go_wp2
   all_goals
    go_ret2;exact⟨by rw[HR.o];simp[*],hD.trans ((zaa hz1 hz2).mono hD.size)⟩
set_option maxHeartbeats 800000
theorem number_one (w:World):Calls Tryz.prog 79 #[.int .i64 1] w (RF1 w 1):=by
 go_enter Tryz.func79,Tryz.ntmps79;go_wp2_with (go_at_call 100;(with_reducible refine(make_11 _).mono ?_);rintro e w1 ⟨v,rfl,hv,hb1⟩;obtain⟨t9,a1,l91,k1,a2,l92,k2,rfl⟩:=hv.iF;have hr:=((C3.new w 53 (.bool false) (.slice none 0 0) (.slice none 0 0)).bS hb1).allocS (.cells #[.bool t9, .slice a1 l91 k1, .slice a2 l92 k2] 53);have hv2:=hv.bw (zba w1 (.cells #[.bool t9, .slice a1 l91 k1, .slice a2 l92 k2] 53));have hb2:=zaa (zaa (zba w (.cells #[.bool false, .slice none 0 0, .slice none 0 0] 53)) hb1) (zba w1 (.cells #[.bool t9, .slice a1 l91 k1, .slice a2 l92 k2] 53));have HR:=zH hr;obtain⟨_,d1,d2,d3,d4,d5,d6⟩:=hr);refine zab rfl rfl Tryz.aggF Tryz.sizeF (HR.o.set _ _ _) rfl ?_;exact⟨_,rfl,hv2.set3 HR.o zZ zZ _ _ _,zea hb2 (zLR _) _ _ _⟩
theorem zoo (v:Value) (s:Bool) (n d:Nat) (w:World) (h:zjc w v s n d):
 Calls Tryz.prog 75 #[v] w λ e w'=>e= .returned (.bool (!s&& !decide (n=0)))/\Below w.heap.size w w':=by
 obtain⟨a,b,rfl,ha,hb⟩:=h;rcases s with _ | _
 ·go_enter Tryz.func75,Tryz.ntmps75;go_wp2_with (go_at_call 106;refine(zua _ n _ (ha.bw (zba _ _))).mono ?_;rintro e w' ⟨rfl,rfl⟩);go_ret;refine⟨?_,zba _ _⟩
  have e:decide ((0:Int)<(zsa n:Nat))= !decide (n=0):=by
   by_cases h0:n=0
   ·subst h0;rfl
   ·have:=zld.2 h0;rw[zDT zO,zDF h0];rfl
  first | (rw[show(!false&& !decide (n=0))=decide ((0:Int)<(zsa n:Nat))from by rw[e];rfl];rfl) | (simp[<-e])
 ·go_enter Tryz.func75,Tryz.ntmps75;go_wp2_with fail;go_ret;exact⟨rfl,zba _ _⟩
set_option maxHeartbeats 800000
theorem zvl :∀n:Fin 100,fits (fq false n.val 1):=by decide+kernel
theorem lmmake_n1 (n:Nat) (hn:n<100) (w:World):Calls Tryz.prog 100 #[.int .i64 (n:Nat), .int .i64 1] w (RF0 w (fq false n 1)):=
 (zjk (n:Nat) 1 w zO zO zD zD zD).mono λ _ _ h=>h.ok (by
  rw[zDF (show ¬ ((n:Nat):Int)<0 by omega),zDF (show ¬ (1:Int)<0 by decide)];rfl) (zvl ⟨n,hn⟩)
theorem zvq (w:World):Calls Tryz.prog 105 #[.int .i64 0] w (RF1 w 0):=by
 go_enter Tryz.func105,Tryz.ntmps105;go_wp2_with (go_at_call 100;(with_reducible refine(make_01 _).mono ?_);rintro e w1 ⟨v,rfl,hv,hb1⟩;obtain⟨t9,a1,l91,k1,a2,l92,k2,rfl⟩:=hv.iF;have hr:=((C3.new w 53 (.bool false) (.slice none 0 0) (.slice none 0 0)).bS hb1).allocS (.cells #[.bool t9, .slice a1 l91 k1, .slice a2 l92 k2] 53);have hv2:=hv.bw (zba w1 (.cells #[.bool t9, .slice a1 l91 k1, .slice a2 l92 k2] 53));have hb2:=zaa (zaa (zba w (.cells #[.bool false, .slice none 0 0, .slice none 0 0] 53)) hb1) (zba w1 (.cells #[.bool t9, .slice a1 l91 k1, .slice a2 l92 k2] 53));have HR:=zH hr;obtain⟨_,d1,d2,d3,d4,d5,d6⟩:=hr);refine zab rfl rfl Tryz.aggF Tryz.sizeF (HR.o.set _ _ _) rfl ?_;exact⟨_,rfl,hv2.set3 HR.o zZ zZ _ _ _,zea hb2 (zLR _) _ _ _⟩
theorem zul (w:World):Calls Tryz.prog 105 #[.int .i64 1] w (RF1 w 1):=by
 go_enter Tryz.func105,Tryz.ntmps105;go_wp2_with (go_at_call 100;(with_reducible refine(make_11 _).mono ?_);rintro e w1 ⟨v,rfl,hv,hb1⟩;obtain⟨t9,a1,l91,k1,a2,l92,k2,rfl⟩:=hv.iF;have hr:=((C3.new w 53 (.bool false) (.slice none 0 0) (.slice none 0 0)).bS hb1).allocS (.cells #[.bool t9, .slice a1 l91 k1, .slice a2 l92 k2] 53);have hv2:=hv.bw (zba w1 (.cells #[.bool t9, .slice a1 l91 k1, .slice a2 l92 k2] 53));have hb2:=zaa (zaa (zba w (.cells #[.bool false, .slice none 0 0, .slice none 0 0] 53)) hb1) (zba w1 (.cells #[.bool t9, .slice a1 l91 k1, .slice a2 l92 k2] 53));have HR:=zH hr;obtain⟨_,d1,d2,d3,d4,d5,d6⟩:=hr);refine zab rfl rfl Tryz.aggF Tryz.sizeF (HR.o.set _ _ _) rfl ?_;exact⟨_,rfl,hv2.set3 HR.o zZ zZ _ _ _,zea hb2 (zLR _) _ _ _⟩
theorem lmnumber_nat (n:Nat) (hn:n<100) (w:World):Calls Tryz.prog 105 #[.int .i64 (n:Nat)] w (RF1 w (fq false n 1)):=by
 go_enter Tryz.func105,Tryz.ntmps105;go_wp2_with (go_at_call 100;(with_reducible refine(lmmake_n1 n hn _).mono ?_);rintro e w1 ⟨v,rfl,hv,hb1⟩;obtain⟨t9,a1,l91,k1,a2,l92,k2,rfl⟩:=hv.iF;have hr:=((C3.new w 53 (.bool false) (.slice none 0 0) (.slice none 0 0)).bS hb1).allocS (.cells #[.bool t9, .slice a1 l91 k1, .slice a2 l92 k2] 53);have hv2:=hv.bw (zba w1 (.cells #[.bool t9, .slice a1 l91 k1, .slice a2 l92 k2] 53));have hb2:=zaa (zaa (zba w (.cells #[.bool false, .slice none 0 0, .slice none 0 0] 53)) hb1) (zba w1 (.cells #[.bool t9, .slice a1 l91 k1, .slice a2 l92 k2] 53));have HR:=zH hr;obtain⟨_,d1,d2,d3,d4,d5,d6⟩:=hr);refine zab rfl rfl Tryz.aggF Tryz.sizeF (HR.o.set _ _ _) rfl ?_;exact⟨_,rfl,hv2.set3 HR.o zZ zZ _ _ _,zea hb2 (zLR _) _ _ _⟩
theorem zdo (k m:Int) (w:World):Calls Tryz.prog 37 #[.int .i64 k, .int .i64 m] w (λ e w'=>e= .returned (.bool (decide (1<=k/\k<=6/\0<=m/\m<=4/\k+m<=8)))/\Below w.heap.size w w'):=by
 by_cases h1:1<=k
 ·by_cases h2:k<=6
  ·by_cases h3:0<=m
   ·by_cases h4:m<=4
    ·go_enter Tryz.func37,Tryz.ntmps37;go_wp2_with fail;go_ret;refine⟨?_,zBR _ _⟩;simp[h1,h2,h3,h4]
    ·go_enter Tryz.func37,Tryz.ntmps37;go_wp2_with fail;go_ret;exact⟨by simp;intros;omega,zBR _ _⟩
   ·go_enter Tryz.func37,Tryz.ntmps37;go_wp2_with fail;go_ret;exact⟨by simp;intros;omega,zBR _ _⟩
  ·go_enter Tryz.func37,Tryz.ntmps37;go_wp2_with fail;go_ret;exact⟨by simp;intros;omega,zBR _ _⟩
 ·go_enter Tryz.func37,Tryz.ntmps37;go_wp2_with fail;go_ret;exact⟨by simp;intros;omega,zBR _ _⟩
theorem fin_any (n lo hi:Int) (w:World):Calls Tryz.prog 96 #[.int .i64 n, .int .i64 lo, .int .i64 hi] w (λ e w'=>e= .returned (.bool (decide (lo<=n)&&decide (n<=hi)))/\w'=w):=by
 go_enter Tryz.func96,Tryz.ntmps96;by_cases h1:lo<=n
 ·have h2:decide (lo<=n)=true:=zDT h1;go_wp2_with fail;go_ret;exact⟨by simp[h1],rfl⟩
 ·have h2:decide (lo<=n)=false:=zDF h1;go_wp2_with fail;go_ret;exact⟨by simp[h1],rfl⟩
set_option maxHeartbeats 1600000
def RSame (w0:World) (p:Prop) (e:Ending) (w:World):Prop:=(∃b,e= .returned (.bool b)/\(b=true↔p))/\Below w0.heap.size w0 w
theorem zug {α:Type _} {a b:List α} (hl:a.length=b.length) (h:∀ (j:Nat) (h1:j<a.length) (h2:j<b.length),a[j]=b[j]):a=b:=List.ext_getElem hl h
theorem ztc.at' {w:World} {v:Value} {l:List Nat} (h:ztc w v l) (j:Nat) (hj:j<l.length):w.cell? (ptr v j)=some (.int .u32 (l[j]:Nat)):=h.cell j hj
theorem zyj (va vb:Value) (a b:List Nat) (w:World) (ha:ztc w va a) (hb:ztc w vb b):
 Calls Tryz.prog 94 #[va,vb] w (RSame w (a=b)):=by
 have sa:=ha.sl;have la:=ha.len;have sb:=hb.sl;have lb:=hb.len;have hle:=sa.le;have hle2:=sb.le;rw[la]at hle;rw[lb]at hle2;have hlb:a.length<=9223372036854775807:=zO;have hlb2:b.length<=9223372036854775807:=zO;clear hle hle2;have hw:w.heap.size<=w.heap.size:=zLR _;by_cases hlen:a.length=b.length
 ·skip
  have hL:=zH hlen;rw[<-hlen]at lb;clear hlen;go_enter Tryz.func94,Tryz.ntmps94;go_wp2_with fail;go_loopw [5] (λ u5 wr=>∃ (k:Nat),k<=a.length/\u5= .int .i64 k/\(∀ (j:Nat) (h1:j<a.length) (h2:j<b.length),j<k->a[j]=b[j])/\Below w.heap.size w wr) (λ u5 _=>a.length- (intOf u5).toNat);case atStart=>exact⟨0,zZL _,rfl,λ j _ _ h=>zO,zBR _ _⟩
  case round=>
   obtain⟨k,hk,rfl,hst,hbr⟩:=hrel;have HST:=zH hst;clear hst;by_cases hkl:k<a.length
   ·(have hkb:k<b.length:=by rw[<-hL.o];exact hkl);have hc:=(ha.bw hbr).at' k hkl;have hd:=(hb.bw hbr).at' k hkb;have HX:zI (∀ (h1:k<a.length) (h2:k<b.length),a[k]=b[k]↔a[k]'hkl=b[k]'hkb):=zH (λ _ _=>Iff.rfl);have i1:(0:Int)<=(k:Int):=zO;have i2:(k:Int)<(a.length:Nat):=zO;generalize ha':a[k]'hkl=x at *
    generalize hb':b[k]'hkb=y at *
    have HA:=zH ha';have HB:=zH hb';clear ha' hb';by_cases hxy:x=y
    ·subst hxy
     have HST2:zI (∀ (j:Nat) (h1:j<a.length) (h2:j<b.length),j<k+1->a[j]=b[j]):=zH (λ j h1 h2 h3=>by
      rcases zOG j k with h4 | h4
      ·exact HST.o j h1 h2 h4
      ·obtain rfl:j=k:=zO;rw[HA.o,HB.o])
     go_wp2_with fail;go_quiet (fail);have hbd:=zaa hbr (zia (B:=wr.heap.size) wr nq);go_wp2_with fail;go_roundw;(case rel=>exact⟨k+1,zO,by go_num,HST2.o,hbd⟩);case measure=>simp[intOf];omega
    ·skip
     (have hxy2:((x:Int)==(y:Int))=false:=by first | (simp;omega) | simpa using hxy);go_wp2_with fail;go_quiet (fail);have hbd:=zaa hbr (zia (B:=wr.heap.size) wr nq);go_wp2_with fail;go_ret;exact⟨⟨false,rfl,by simp;intro h;subst h;exact hxy (HA.o.symm.trans HB.o)⟩,hbd⟩
   ·go_wp2_with fail;go_ret;refine⟨⟨true,rfl,by simp;exact zug hL.o (λ j h1 h2=>HST.o j h1 h2 zO)⟩,hbr⟩
 ·have hne:((a.length:Int)==(b.length:Int))=false:=by simp;omega
  go_enter Tryz.func94,Tryz.ntmps94;go_wp2_with fail;go_ret;exact⟨⟨false,rfl,by simp;intro h;exact hlen (by rw[h])⟩,zBR _ _⟩
theorem zcp (va vb:Value) (a b:List Bool) (w:World) (ha:zjg w va a) (hb:zjg w vb b):
 Calls Tryz.prog 66 #[va,vb] w (RSame w (a=b)):=by
 have sa:=zta.sl ha;have la:slen va=a.length:=by have:=zta.len ha;simpa using this
 have sb:=zta.sl hb;have lb:slen vb=b.length:=by have:=zta.len hb;simpa using this
 have hle:=sa.le;have hle2:=sb.le;rw[la]at hle;rw[lb]at hle2;have hlb:a.length<=9223372036854775807:=zO;have hlb2:b.length<=9223372036854775807:=zO;clear hle hle2;have hw:w.heap.size<=w.heap.size:=zLR _;by_cases hlen:a.length=b.length
 ·skip
  have hL:=zH hlen;rw[<-hlen]at lb;clear hlen;go_enter Tryz.func66,Tryz.ntmps66;go_wp2_with fail;go_loopw [5] (λ u5 wr=>∃ (k:Nat),k<=a.length/\u5= .int .i64 k/\(∀ (j:Nat) (h1:j<a.length) (h2:j<b.length),j<k->a[j]=b[j])/\Below w.heap.size w wr) (λ u5 _=>a.length- (intOf u5).toNat);case atStart=>exact⟨0,zZL _,rfl,λ j _ _ h=>zO,zBR _ _⟩
  case round=>
   obtain⟨k,hk,rfl,hst,hbr⟩:=hrel;have HST:=zH hst;clear hst;by_cases hkl:k<a.length
   ·(have hkb:k<b.length:=by rw[<-hL.o];exact hkl);have hc:=(ha.bw hbr).at' k hkl;have hd:=(hb.bw hbr).at' k hkb;have HX:zI (∀ (h1:k<a.length) (h2:k<b.length),a[k]=b[k]↔a[k]'hkl=b[k]'hkb):=zH (λ _ _=>Iff.rfl);have i1:(0:Int)<=(k:Int):=zO;have i2:(k:Int)<(a.length:Nat):=zO;generalize ha':a[k]'hkl=x at *
    generalize hb':b[k]'hkb=y at *
    have HA:=zH ha';have HB:=zH hb';clear ha' hb';by_cases hxy:x=y
    ·subst hxy
     have HST2:zI (∀ (j:Nat) (h1:j<a.length) (h2:j<b.length),j<k+1->a[j]=b[j]):=zH (λ j h1 h2 h3=>by
      rcases zOG j k with h4 | h4
      ·exact HST.o j h1 h2 h4
      ·obtain rfl:j=k:=zO;rw[HA.o,HB.o])
     go_wp2_with fail;go_quiet (fail);have hbd:=zaa hbr (zia (B:=wr.heap.size) wr nq);go_wp2_with fail;go_roundw;(case rel=>exact⟨k+1,zO,by go_num,HST2.o,hbd⟩);case measure=>simp[intOf];omega
    ·skip
     (have hxy2:(x==y)=false:=by first | (simp;omega) | simpa using hxy);go_wp2_with fail;go_quiet (fail);have hbd:=zaa hbr (zia (B:=wr.heap.size) wr nq);go_wp2_with fail;go_ret;exact⟨⟨false,rfl,by simp;intro h;subst h;exact hxy (HA.o.symm.trans HB.o)⟩,hbd⟩
   ·go_wp2_with fail;go_ret;refine⟨⟨true,rfl,by simp;exact zug hL.o (λ j h1 h2=>HST.o j h1 h2 zO)⟩,hbr⟩
 ·have hne:((a.length:Int)==(b.length:Int))=false:=by simp;omega
  go_enter Tryz.func66,Tryz.ntmps66;go_wp2_with fail;go_ret;exact⟨⟨false,rfl,by simp;intro h;exact hlen (by rw[h])⟩,zBR _ _⟩
end Go.Proofs.YtkpedaflofejnaaGreat
