/- Lemmas. -/
import Derived.Test.YtkpedaflofejnaaGreatMStep
import Derived.Deep.RegionHeld3
set_option linter.unusedVariables false
set_option linter.unusedSimpArgs false
namespace Go.Proofs.YtkpedaflofejnaaGreat
set_option maxHeartbeats 1600000
open Go.RowKit
theorem zaa {w w1 w2:World} (h:Below w.heap.size w w1) (h':Below w1.heap.size w1 w2):Below w.heap.size w w2:=h.trans (h'.mono h.size)
theorem zam (z:Int) (w:World) (h1: -9223372036854775808<=z) (h2:z<9223372036854775808):
 Calls Tryz.prog 136 #[.int .i64 z] w (RNat w z.natAbs):=by
 rcases Int.lt_or_le z 0 with h | h
 ·have h0:z<0:=h;obtain⟨m,hm⟩:∃m:Nat,z= -(m:Int):=⟨z.natAbs,zO⟩;have hM:=zmm m zO;have e:z.natAbs=m:=zO;rw[e];clear e;subst hm;have hw:IntKind.u64.wrap (-IntKind.u64.wrap (-(m:Int)))=(m:Int):=by rw[zhc,zhc];omega
  go_enter Tryz.func136,Tryz.ntmps136;go_wp2_with fail;refine(hM w).mono ?_;rintro e w' ⟨r,rfl,hr,hb⟩;go_wp2;go_ret;exact⟨_,rfl,hr,hb⟩
 ·obtain⟨m,rfl⟩:∃m:Nat,z=(m:Int):=⟨z.natAbs,zO⟩;have hM:=zmm m zO;have e:(m:Int).natAbs=m:=zO;rw[e];have hw:IntKind.u64.wrap (m:Int)=(m:Int):=by rw[zhc];omega
  clear e h1 h2 h;go_enter Tryz.func136,Tryz.ntmps136;go_wp2_with fail;refine(hM w).mono ?_;rintro e w' ⟨r,rfl,hr,hb⟩;go_wp2;go_ret;exact⟨_,rfl,hr,hb⟩
def IsF (v:Value):Prop:=∃s x y,v= .agg #[.bool s,x,y]/\zlb x/\zlb y
theorem zna.isF {w:World} {v:Value} {q:Rat} (h:zna w v q):IsF v:=by
 obtain⟨a,b,rfl,h1,h2⟩:=h;exact⟨_,a,b,rfl,h1.v.sl,h2.v.sl⟩
theorem zna.iF {w:World} {v:Value} {q:Rat} (h:zna w v q):∃t a l k b m j,v= .agg #[.bool t, .slice a l k, .slice b m j]:=by
 obtain ⟨t,x,y,rfl,⟨a,l,k,rfl,_⟩,⟨b,m,j,rfl,_⟩⟩:=h.isF;exact⟨t,a,l,k,b,m,j,rfl⟩
theorem zjc.isF {w:World} {v:Value} {s:Bool} {n d:Nat} (h:zjc w v s n d):IsF v:=by
 obtain⟨a,b,rfl,h1,h2⟩:=h;exact⟨_,a,b,rfl,h1.slen.1,h2.slen.1⟩
theorem isF_zero :IsF zeroF:=⟨false,_,_,rfl,zlb.nil,zlb.nil⟩
theorem zyc {w0 w:World} {q:Rat} {v:Value} {er:Int} (h1:fits q->er=0/\zna w v q) (h2:¬fits q->er=2/\v=zeroF):IsF v:=by
 by_cases h:fits q
 ·exact(h1 h).2.isF
 ·rw[(h2 h).2];exact isF_zero
theorem zjk (a b:Int) (w:World) (ha1: -9223372036854775808<=a) (ha2:a<9223372036854775808) (hb1: -9223372036854775808<=b) (hb2:b<9223372036854775808) (hb:b≠0):
 Calls Tryz.prog 100 #[.int .i64 a, .int .i64 b] w (zcm w (fq (!decide (a<0)==decide (b<0)) a.natAbs b.natAbs)):=by
 have HA:=zH (zAI ha1 ha2);have HB:=zH (zAI hb1 hb2);have hbn:b.natAbs≠0:=zO;have HBN:=zH hbn;have h1:∀z:Int,-9223372036854775808<=z->z<9223372036854775808->zda z.natAbs<=512:=λ z _ _=>zcc.2 (zLM (show z.natAbs<pw 2 by have :pw 2=18446744073709551616:=rfl;omega) (pw_le zO))
 have H1:=zH (h1 a ha1 ha2);have H2:=zH (h1 b hb1 hb2);have h9:(b==0)=false:=by simpa using hb
 clear ha1 ha2 hb1 hb2 hbn h1 hb;go_enter Tryz.func100,Tryz.ntmps100
 go_wp2_with (first
  |(go_at_call 136;first
   |((with_reducible refine(zam a _ HA.o.1 HA.o.2).mono ?_);rintro e w1 ⟨x,rfl,hx,hx1⟩)
   |((with_reducible refine(zam b _ HB.o.1 HB.o.2).mono ?_);rintro e w2 ⟨y,rfl,hy,hy1⟩;have hx2:=hx.bw hy1))
  |(go_at_call 135;(with_reducible refine(zfd _ x y a.natAbs b.natAbs _ hx2.nat hy.nat HBN.o H1.o H2.o).mono ?_);rintro e w3 ⟨v,er,rfl,hv1,hv2,hv3⟩;obtain⟨t,x1,y1,rfl,⟨a1,l1,k1,rfl,_⟩,⟨a2,l2,k2,rfl,_⟩⟩:=zyc (w0:=w) hv2 hv3;have hC:=(((C3.new w _ _ _ _).bS hx1).bS hy1).bS hv1;have HC:=zH hC;have hbz:=(zba w _).trans ((hx1.trans ((hy1.trans (hv1.mono hy1.size)).mono hx1.size)).mono (zba w _).size);obtain⟨_,d0,d1,d2,e0,e1,e2⟩:=hC))
 refine zka rfl rfl Tryz.aggF Tryz.sizeF (HC.o.set _ _ _) rfl ?_;exact⟨_,_,rfl,zea hbz (zLR _) _ _ _,λ h=>⟨(hv2 h).1,(hv2 h).2.set3 HC.o zZ zZ _ _ _⟩,hv3⟩
theorem zlg (v:Value) (s:Bool) (n d:Nat) (w:World) (h:zjc w v s n d) (hk:okN n d):
 Calls Tryz.prog 118 #[v] w λ e w'=>e= .returned (.bool true)/\Below w.heap.size w w':=
 (valid_any v s n d w h).mono λ e w' ⟨h1,h2⟩=>⟨by rw[h1,zDT hk],h2⟩
theorem C3.allocS {w:World} {b:Nat} {v0 v1 v2:Value} (h:C3 w b v0 v1 v2) (o:Obj):C3 (w.alloc o) b v0 v1 v2:=h.bS (zba w o)
theorem zle (w:World) (t:TypeId) (x0 x1 x2 y0 y1 y2 z0 z1 z2:Value) (W:World)
 (hW:W=((w.alloc (.cells #[x0,x1,x2] t)).alloc (.cells #[y0,y1,y2] t)).alloc (.cells #[z0,z1,z2] t)):
 C3 W w.heap.size x0 x1 x2/\C3 W (w.heap.size+1) y0 y1 y2/\C3 W (w.heap.size+1+1) z0 z1 z2/\Below w.heap.size w W:=by
 subst hW;have e1:(w.alloc (.cells #[x0,x1,x2] t)).heap.size=w.heap.size+1:=by show(w.heap.push _).size=_;simp
 have e2:((w.alloc (.cells #[x0,x1,x2] t)).alloc (.cells #[y0,y1,y2] t)).heap.size=w.heap.size+1+1:=by show(World.heap _ |>.push _).size=_;rw[Array.size_push,e1]
 refine⟨((C3.new w t x0 x1 x2).allocS _).allocS _,?_,?_,?_⟩
 ·rw[<-e1];exact(C3.new _ t y0 y1 y2).allocS _
 ·rw[<-e2];exact C3.new _ t z0 z1 z2
 ·exact(zba w _).trans (((zba _ _).trans ((zba _ _).mono (zba _ _).size)).mono (zba w _).size)
theorem zoe {a b j k:Nat} (ha:zda a<=j) (hb:zda b<=k):zda (a*b)<=j+k:=by
 rw[zcc]at *
 have:=Nat.mul_lt_mul'' ha hb;rwa[<-pw_add]at this
theorem nlen_sum {a b k:Nat} (ha:zda a<=k) (hb:zda b<=k):zda (a+b)<=k+1:=by
 rw[zcc]at *
 rw[zrb];omega
theorem cmp_ge0 (va vb:Value) (m n:Nat) (w:World) (ha:zwb w va m) (hb:zwb w vb n) (h:n<=m):
 Calls Tryz.prog 119 #[va,vb] w λ e w'=>(∃c:Int,e= .returned (.int .i64 c)/\decide (0<=c)=true)/\Below w.heap.size w w':=
 (zlo va vb m n w ha hb).mono λ _ _ ⟨a,k,b⟩=>⟨⟨_,a,by unfold zjl;rw[zIN zO];split<;>rfl⟩,b▸zia w k⟩
theorem cmp_lt0 (va vb:Value) (m n:Nat) (w:World) (ha:zwb w va m) (hb:zwb w vb n) (h:m<n):
 Calls Tryz.prog 119 #[va,vb] w λ e w'=>(∃c:Int,e= .returned (.int .i64 c)/\decide (0<=c)=false)/\Below w.heap.size w w':=
 (zlo va vb m n w ha hb).mono λ _ _ ⟨a,k,b⟩=>⟨⟨_,a,by rw[zdi h];rfl⟩,b▸zia w k⟩
theorem zad {n d:Nat} (h:okN n d):zda n<=128/\zda d<=128:=⟨zqc h.2.2,zqc h.2.1⟩
set_option maxRecDepth 100000 in
theorem add_frac (va vb:Value) (s t:Bool) (n d m e:Nat) (w:World) (ha:zjc w va s n d) (hb:zjc w vb t m e) (h1:okN n d) (h2:okN m e):
 Calls Tryz.prog 107 #[va,vb] w (zcm w (fq s n d+fq t m e)):=by
 have hA:=ha;have hB:=hb;obtain⟨xn,xd,rfl,hxn,hxd⟩:=ha;obtain⟨yn,yd,rfl,hyn,hyd⟩:=hb;obtain⟨an,ln,kn,rfl,_⟩:=hxn.slen.1;obtain⟨ad,ld,kd,rfl,_⟩:=hxd.slen.1;obtain⟨am,lm,km,rfl,_⟩:=hyn.slen.1;obtain⟨ae,le,ke,rfl,_⟩:=hyd.slen.1;have K1:=zH h1;have K2:=zH h2;clear h1 h2;go_enter Tryz.func107,Tryz.ntmps107;go_wp2_with fail;obtain⟨W,hW⟩:∃W,W=(((w.alloc (.cells #[.bool s, .slice an ln kn, .slice ad ld kd] 53)).alloc (.cells #[.bool t, .slice am lm km, .slice ae le ke] 53)).alloc (.cells #[.bool false, .slice none 0 0, .slice none 0 0] 53)):=⟨_,rfl⟩;obtain⟨bx,byy,bz,hbw⟩:=zle w 53 _ _ _ _ _ _ _ _ _ W hW;rw[<-hW];clear hW;have HBX:=zH bx;have HBY:=zH byy;have HBZ:=zH bz;obtain⟨_,q1,q2,q3,q4,q5,q6⟩:=bx;obtain⟨_,r1,r2,r3,r4,r5,r6⟩:=byy
 go_wp2_with (first
  |(go_at_call 118;first
    |((with_reducible refine(zlg _ s n d _ (hA.bw hbw) K1.o).mono ?_);rintro e9 w1 ⟨rfl,hv1⟩
      obtain⟨_,f1,f2,f3,f4,f5,f6⟩:=HBY.o.bS hv1;have hbw1:=hbw.trans (hv1.mono hbw.size))
    |((with_reducible refine(zlg _ t m e _ (hB.bw hbw1) K2.o).mono ?_);rintro e9 w2 ⟨rfl,hv2⟩
      have hbx2:=(HBX.o.bS hv1).bS hv2;have hby2:=(HBY.o.bS hv1).bS hv2;have hbz2:=(HBZ.o.bS hv1).bS hv2;have hbw2:=hbw1.trans (hv2.mono hbw1.size))))
 clear q1 q2 q3 q4 q5 q6 r1 r2 r3 r4 r5 r6 f1 f2 f3 f4 f5 f6;have hd2:=zha (B:=w2.heap.size) w2;have hD:=hbw2.trans (hd2.mono hbw2.size);have hbx3:=hbx2.bS hd2;have hby3:=hby2.bS hd2;have hbz3:=hbz2.bS hd2;clear hbx2 hby2 hbz2 hbw2 hv1 hv2 hbw hbw1 HBX HBY HBZ bz hd2;have HX3:=zH hbx3;have HY3:=zH hby3;have HZ3:=zH hbz3;obtain⟨_,q1,q2,q3,q4,q5,q6⟩:=hbx3;obtain⟨_,r1,r2,r3,r4,r5,r6⟩:=hby3;clear hbz3;have g1:=hxn.bw hD;have g2:=hxd.bw hD;have g3:=hyn.bw hD;have g4:=hyd.bw hD;have l1:=zH (zad K1.o);have l2:=zH (zad K2.o);have T1:=zH (zLT l1.o.1 (show 128<=256 by decide));have T2:=zH (zLT l2.o.2 (show 128<=256 by decide));have T3:=zH (zLT l2.o.1 (show 128<=256 by decide));have T4:=zH (zLT l1.o.2 (show 128<=256 by decide));have tok1:True:=trivial;have tok2:True:=trivial;have tok3:True:=trivial
 go_region_held3 (λ w'=>w'.cell? ⟨w.heap.size,1,none⟩=some (.slice an ln kn)/\w'.cell? ⟨w.heap.size,2,none⟩=some (.slice ad ld kd)/\w'.cell? ⟨w.heap.size+1,1,none⟩=some (.slice am lm km)/\w'.cell? ⟨w.heap.size+1,2,none⟩=some (.slice ae le ke)) (exact⟨q2,q3,r2,r3⟩) (first
  |(go_at_call 120;have _t:=tok1;clear tok1 _t;(with_reducible refine(zpc _ _ n e _ g1 g4 T1.o T2.o).mono ?_);rintro e9 w3 ⟨p1,rfl,hp1,hp2⟩;have X4:=HX3.o.bS hp2;have Y4:=HY3.o.bS hp2;have HX4:=zH X4;have HY4:=zH Y4;obtain⟨_,q1,q2,q3,q4,q5,q6⟩:=X4;obtain⟨_,r1,r2,r3,r4,r5,r6⟩:=Y4)
  |(go_at_call 120;have _t:=tok2;clear tok2 _t;(with_reducible refine(zpc _ _ m d _ (g3.bw hp2) (g2.bw hp2) T3.o T4.o).mono ?_);rintro e9 w4 ⟨p3,rfl,hp3,hp4⟩;have hp24:=zaa hp2 hp4;have hp14:=hp1.bw hp4;have X5:=HX4.o.bS hp4;have Y5:=HY4.o.bS hp4;have HX5:=zH X5;have HY5:=zH Y5;obtain⟨_,q1,q2,q3,q4,q5,q6⟩:=X5;obtain⟨_,r1,r2,r3,r4,r5,r6⟩:=Y5)
  |(go_at_call 120;have _t:=tok3;clear tok3 _t;(with_reducible refine(zpc _ _ d e _ (g2.bw hp24) (g4.bw hp24) T4.o T2.o).mono ?_);rintro e9 w5 ⟨p5,rfl,hp5,hp6⟩;have hp26:=zaa hp24 hp6;have hp16:=hp14.bw hp6;have hp36:=hp3.bw hp6;have X6:=HX5.o.bS hp6;have Y6:=HY5.o.bS hp6;have HX6:=zH X6;have HY6:=zH Y6;obtain⟨_,q1,q2,q3,q4,q5,q6⟩:=X6;obtain⟨_,r1,r2,r3,r4,r5,r6⟩:=Y6))
 have hdw:Below w.heap.size w w5:=hD.trans (hp26.mono hD.size);have HZ6:=zH (HZ3.o.bS hp26);have HDE:zI (d*e≠0):=zH (zMZ K1.o.1 K2.o.1);have N1:=zH (zoe l1.o.1 l2.o.2);have N3:=zH (zoe l2.o.1 l1.o.2);have N5:=zH (zLT (zoe l1.o.2 l2.o.2) (show 128+128<=512 by decide));have NS:=zH (zLT (nlen_sum N1.o N3.o) (show 128+128+1<=512 by decide));have N12:=zH (zLT N1.o (show 128+128<=512 by decide));have N32:=zH (zLT N3.o (show 128+128<=512 by decide));clear hp24 hp26 hp14 hp1 hp3 hp2 hp4 hp6 hD HZ3 g1 g2 g3 g4 HX3 HY3 HX4 HY4 HX5 HY5 T1 T2 T3 T4;by_cases hst:s=t
 ·have HQ:=zH (zkj s n d m e K1.o.1 K2.o.1);subst hst
  go_wp2_with (first
   |(go_at_call 140;(with_reducible refine(add_any p1 p3 (n*e) (m*d) _ hp16.nat hp36.nat N12.o N32.o).mono ?_);rintro e9 w6 ⟨r,er,rfl,hr,hb6⟩;have hr6:=(hr.1 NS.o).2;have hp56:=hp5.bw hb6;have hdw6:=zaa hdw hb6;have HZ7:=zH (HZ6.o.bS hb6);obtain⟨_,q1,q2,q3,q4,q5,q6⟩:=HX6.o.bS hb6;obtain⟨_,r1,r2,r3,r4,r5,r6⟩:=HY6.o.bS hb6;)
   |(go_at_call 135;(with_reducible refine(zfd s r p5 (n*e+m*d) (d*e) _ hr6.nat hp56.nat HDE.o NS.o N5.o).mono ?_);rintro e9 w7 ⟨v,er7,rfl,hv1,hv2,hv3⟩;rw[<-HQ.o]at hv2 hv3;obtain⟨t9,x9,y9,rfl,⟨a1,l91,k1,rfl,_⟩,⟨a2,l92,k2,rfl,_⟩⟩:=zyc (w0:=w) hv2 hv3;have hC:=HZ7.o.bS hv1;have HC:=zH hC;have hbz:=zaa hdw6 hv1;obtain⟨_,d0,d1,d2,e0,e1,e2⟩:=hC;)
   )
  refine zka rfl rfl Tryz.aggF Tryz.sizeF (HC.o.set _ _ _) rfl ?_;exact⟨_,_,rfl,zea hbz zO _ _ _,λ h=>⟨(hv2 h).1,(hv2 h).2.set3 HC.o zZ zZ _ _ _⟩,hv3⟩
 ·have hsb:(s==t)=false:=by simpa using hst
  by_cases hle:m*d<=n*e
  ·have HQ:=zH (fq_add_ge s t n d m e K1.o.1 K2.o.1 hsb hle);have HLE:=zH hle;have NS:=zH (zLT (zfb (Nat.sub_le (n*e) (m*d))) N12.o);clear hle
   go_wp2_with (first
    |(go_at_call 119;(with_reducible refine(cmp_ge0 p1 p3 (n*e) (m*d) _ hp16.nat hp36.nat HLE.o).mono ?_);rintro e9 w5b ⟨⟨c,rfl,hc⟩,hb5⟩;have hp16:=hp16.bw hb5;have hp36:=hp36.bw hb5;have hp5:=hp5.bw hb5;have HX6:=zH (HX6.o.bS hb5);have HY6:=zH (HY6.o.bS hb5);have HZ6:=zH (HZ6.o.bS hb5);have hdw:=zaa hdw hb5)
    |(go_at_call 141;(with_reducible refine(sub_any p1 p3 (n*e) (m*d) _ hp16.nat hp36.nat N12.o HLE.o).mono ?_);rintro e9 w6 ⟨r,er,rfl,hr,hb6⟩;have hr6:=(hr.1 NS.o).2;have hp56:=hp5.bw hb6;have hdw6:=zaa hdw hb6;have HZ7:=zH (HZ6.o.bS hb6);obtain⟨_,q1,q2,q3,q4,q5,q6⟩:=HX6.o.bS hb6;obtain⟨_,r1,r2,r3,r4,r5,r6⟩:=HY6.o.bS hb6;)
    |(go_at_call 135;(with_reducible refine(zfd s r p5 (n*e-m*d) (d*e) _ hr6.nat hp56.nat HDE.o NS.o N5.o).mono ?_);rintro e9 w7 ⟨v,er7,rfl,hv1,hv2,hv3⟩;rw[<-HQ.o]at hv2 hv3;obtain⟨t9,x9,y9,rfl,⟨a1,l91,k1,rfl,_⟩,⟨a2,l92,k2,rfl,_⟩⟩:=zyc (w0:=w) hv2 hv3;have hC:=HZ7.o.bS hv1;have HC:=zH hC;have hbz:=zaa hdw6 hv1;obtain⟨_,d0,d1,d2,e0,e1,e2⟩:=hC;)
    )
   refine zka rfl rfl Tryz.aggF Tryz.sizeF (HC.o.set _ _ _) rfl ?_;exact⟨_,_,rfl,zea hbz zO _ _ _,λ h=>⟨(hv2 h).1,(hv2 h).2.set3 HC.o zZ zZ _ _ _⟩,hv3⟩
  ·have hlt:n*e<m*d:=Nat.lt_of_not_le hle;have HQ:=zH (fq_add_lt s t n d m e K1.o.1 K2.o.1 hsb (zLO hlt));have HLT:=zH hlt;have NS:=zH (zLT (zfb (Nat.sub_le (m*d) (n*e))) N32.o);clear hle hlt
   go_wp2_with (first
    |(go_at_call 119;(with_reducible refine(cmp_lt0 p1 p3 (n*e) (m*d) _ hp16.nat hp36.nat HLT.o).mono ?_);rintro e9 w5b ⟨⟨c,rfl,hc⟩,hb5⟩;have hp16:=hp16.bw hb5;have hp36:=hp36.bw hb5;have hp5:=hp5.bw hb5;have HX6:=zH (HX6.o.bS hb5);have HY6:=zH (HY6.o.bS hb5);have HZ6:=zH (HZ6.o.bS hb5);have hdw:=zaa hdw hb5)
    |(go_at_call 141;(with_reducible refine(sub_any p3 p1 (m*d) (n*e) _ hp36.nat hp16.nat N32.o (zLO HLT.o)).mono ?_);rintro e9 w6 ⟨r,er,rfl,hr,hb6⟩;have hr6:=(hr.1 NS.o).2;have hp56:=hp5.bw hb6;have hdw6:=zaa hdw hb6;have HZ7:=zH (HZ6.o.bS hb6);obtain⟨_,q1,q2,q3,q4,q5,q6⟩:=HX6.o.bS hb6;obtain⟨_,r1,r2,r3,r4,r5,r6⟩:=HY6.o.bS hb6;)
    |(go_at_call 135;(with_reducible refine(zfd t r p5 (m*d-n*e) (d*e) _ hr6.nat hp56.nat HDE.o NS.o N5.o).mono ?_);rintro e9 w7 ⟨v,er7,rfl,hv1,hv2,hv3⟩;rw[<-HQ.o]at hv2 hv3;obtain⟨t9,x9,y9,rfl,⟨a1,l91,k1,rfl,_⟩,⟨a2,l92,k2,rfl,_⟩⟩:=zyc (w0:=w) hv2 hv3;have hC:=HZ7.o.bS hv1;have HC:=zH hC;have hbz:=zaa hdw6 hv1;obtain⟨_,d0,d1,d2,e0,e1,e2⟩:=hC;)
    )
   refine zka rfl rfl Tryz.aggF Tryz.sizeF (HC.o.set _ _ _) rfl ?_;exact⟨_,_,rfl,zea hbz zO _ _ _,λ h=>⟨(hv2 h).1,(hv2 h).2.set3 HC.o zZ zZ _ _ _⟩,hv3⟩
end Go.Proofs.YtkpedaflofejnaaGreat
namespace Go.Proofs.YtkpedaflofejnaaGreat
def zof (l:List Rat):Rat:=l.foldl (· + ·) 0
theorem lsum_snoc (l:List Rat) (x:Rat):zof (l++ [x])=zof l+x:=by unfold zof;rw[List.foldl_append];rfl
def wt (q:Rat):Nat:=if q.num=0 then 0 else zsa q.num.natAbs+if q.den=1 then 0 else zsa q.den
def wts (l:List Rat):Nat:=(l.map wt).sum
theorem zpf (x:Rat) (l:List Rat):wts (x::l)=wt x+wts l:=by simp[wts]
theorem wts_snoc (l:List Rat) (x:Rat):wts (l++ [x])=wts l+wt x:=by simp[wts]
theorem wts_sub {l m:List Rat} (h:l.Sublist m):wts l<=wts m:=by
 induction h with
 | slnil=>exact zLR _
 | cons x _ ih=>rw[zpf];omega
 | cons_cons x _ ih=>rw[zpf,zpf];omega
def slim (q:Rat) (k:Nat):Prop:=∃N D:Nat,D≠0/\q=fq false N D/\N+D<=2^k
theorem slim_zero :slim 0 0:=⟨0,1,zD,zD,zD⟩
theorem slim_add {p q:Rat} {j k:Nat} (hp:slim p j) (hq:slim q k):slim (p+q) (j+k):=by
 obtain⟨N,D,h1,rfl,h2⟩:=hp;obtain⟨n,d,h3,rfl,h4⟩:=hq;refine⟨N*d+n*D,D*d,zMZ h1 h3,zkj _ _ _ _ _ h1 h3,?_⟩;rw[Nat.pow_add];have h5:=zMM h2 h4;rw[Nat.add_mul,Nat.mul_add,Nat.mul_add]at h5;have e:n*D=D*n:=Nat.mul_comm _ _;have:=zZL (N*n);omega
theorem slim_wt (q:Rat) (h:0<=q):slim q (wt q):=by
 refine⟨q.num.natAbs,q.den,q.den_nz,?_,?_⟩
 ·have e:=zrc q;rw[zDF (Rat.not_lt.2 h)]at e;exact e.symm
 ·unfold wt;have h0:zsa q.num.natAbs<=zsa q.num.natAbs:=zLR _;have h1:zsa q.den<=zsa q.den:=zLR _;rw[ztb]at h0 h1;split
  ·next hz=>
   have e:q=0:=Rat.num_eq_zero.1 hz;subst e;decide
  ·split
   ·next hz hd=>simp only[hd,Nat.add_zero];omega
   ·next hz hd=>
    have hn:q.num.natAbs≠0:=zO;have hd0:=q.den_nz;have h2:1<zsa q.den:=zwh.2 zO;have h3:0<zsa q.num.natAbs:=zld.2 hn;rw[Nat.pow_add];have e1:2^1<=2^zsa q.num.natAbs:=Nat.pow_le_pow_right zD h3;have e2:2^1<=2^zsa q.den:=Nat.pow_le_pow_right zD zO;generalize 2^zsa q.num.natAbs=A at *
    generalize 2^zsa q.den=B at *
    obtain⟨a,rfl⟩:∃a,A=a+2:=⟨A-2,zO⟩;obtain⟨b,rfl⟩:∃b,B=b+2:=⟨B-2,zO⟩;(have e3:(a+2)*(b+2)=a*b+2*a+2*b+4:=by grind);rw[e3];have:=zZL (a*b);omega
theorem slim_lsum (l:List Rat) (h:∀q∈l,0<=q):slim (zof l) (wts l):=by
 have key:∀ (m:List Rat) (s:Rat) (k:Nat),slim s k->(∀q∈m,0<=q)->slim (m.foldl (· + ·) s) (k+wts m):=by
  intro m
  induction m with
  | nil=>intro s k hs _;exact hs
  | cons x m ih=>
    intro s k hs hm;rw[List.foldl_cons,zpf,<-Nat.add_assoc];exact ih _ _ (slim_add hs (slim_wt x (hm x (by simp)))) (λ q hq=>hm q (by simp[hq]))
 have:=key l 0 0 slim_zero h;rwa[Nat.zero_add]at this
theorem zjm {n k:Nat} (h:n<2^k):zsa n<=k:=ztb.2 h
theorem slim_fits {q:Rat} {k:Nat} (h:slim q k) (hk:k<=4095):fits q:=by
 obtain⟨N,D,h1,rfl,h3⟩:=h;have h5:2^k<2^(k+1):=Nat.pow_lt_pow_right zD (zSS k);have h6:k+1<=4096:=zO;refine⟨?_,?_⟩
 ·rw[zzh _ _ _ h1];exact zLT (zjm (zLL (Nat.div_le_self _ _) (zLL (zLT (Nat.le_add_right N D) h3) h5))) h6
 ·rw[fq_den _ _ _ h1];exact zLT (zjm (zLL (Nat.div_le_self _ _) (zLL (zLT (Nat.le_add_left D N) h3) h5))) h6
theorem lsum_fits {l m:List Rat} (hs:l.Sublist m) (h:∀q∈m,0<=q) (hw:wts m<=3800):fits (zof l):=
 slim_fits (slim_lsum l (λ q hq=>h q (hs.subset hq))) (by have:=wts_sub hs;omega)
end Go.Proofs.YtkpedaflofejnaaGreat
namespace Go.Proofs.YtkpedaflofejnaaGreat
open Go.RowKit
@[go_sem] theorem ptr_off1 (v : Value) (k : Nat) : (⟨(ptr v k).block, (ptr v k).off + 1, none⟩ : Addr) = ptr v (k + 1) := by rw [<- ptr_add]; simp [Addr.add]
@[go_sem] theorem ptr_off2 (v : Value) (k : Nat) : (⟨(ptr v k).block, (ptr v k).off + 2, none⟩ : Addr) = ptr v (k + 2) := by rw [<- ptr_add]; simp [Addr.add]
structure RF where
 neg:Bool
 n:Nat
 d:Nat
def RF.q (x:RF):Rat:=fq x.neg x.n x.d
def RF.ok (x:RF):Prop:=okN x.n x.d
instance (x :RF):Decidable x.ok:=inferInstanceAs (Decidable (okN _ _))
def RF.of (q:Rat):RF:=⟨decide (q<0),q.num.natAbs,q.den⟩
theorem RF.of_q (q:Rat):(RF.of q).q=q:=zrc q
theorem RF.of_ok {q:Rat} (h:fits q):(RF.of q).ok:=⟨q.den_nz,h.2,h.1⟩
def FracAt (w:World) (v:Value) (k:Nat) (x:RF):Prop:=
 ∃a b,w.cell? (ptr v k)=some (.bool x.neg)/\w.cell? (ptr v (k+1))=some a/\w.cell? (ptr v (k+2))=some b/\zwb w a x.n/\zwb w b x.d
theorem zca {w w':World} (hb:Below w.heap.size w w') {p:Addr} {x:Value} (h:w.cell? p=some x):w'.cell? p=some x:=by
 have hlt:=World.block_lt_of_cell? w _ h;rw[hb.cell hlt];exact h
theorem FracAt.bw {w w':World} {v:Value} {k:Nat} {x:RF} (h:FracAt w v k x) (hb:Below w.heap.size w w'):FracAt w' v k x:=by
 obtain⟨a,b,h1,h2,h3,h4,h5⟩:=h;exact⟨a,b,zca hb h1,zca hb h2,zca hb h3,h4.bw hb,h5.bw hb⟩
structure zte (w:World) (v:Value) (l:List RF):Prop where
 sl:zlb v
 len:slen v=l.length
 at':∀ (j:Nat) (h:j<l.length),FracAt w v (j*3) l[j]
theorem zte.bw {w w':World} {v:Value} {l:List RF} (h:zte w v l) (hb:Below w.heap.size w w'):zte w' v l:=
 ⟨h.sl,h.len,λ j hj=>(h.at' j hj).bw hb⟩
theorem zte.nil (w:World):zte w (.slice none 0 0) []:=⟨zlb.nil,rfl,λ j h=>by simp at h⟩
structure zpa (w:World) (v:Value) (qs:List Rat):Prop where
 sl:zlb v
 len:slen v=qs.length
 at':∀ (j:Nat) (h:j<qs.length),∃a b,w.cell? (ptr v (j*3))=some (.bool (decide (qs[j]<0)))/\w.cell? (ptr v (j*3+1))=some a/\w.cell? (ptr v (j*3+2))=some b/\zpb w a qs[j].num.natAbs/\zpb w b qs[j].den
theorem zpa.bw {w w':World} {v:Value} {l:List Rat} (h:zpa w v l) (hb:Below w.heap.size w w'):zpa w' v l:=
 ⟨h.sl,h.len,λ j hj=>by
  obtain⟨a,b,h1,h2,h3,h4,h5⟩:=h.at' j hj;exact⟨a,b,zca hb h1,zca hb h2,zca hb h3,h4.bw hb,h5.bw hb⟩⟩
theorem zpa.raw {w:World} {v:Value} {qs:List Rat} (h:zpa w v qs):zte w v (qs.map RF.of):=
 ⟨h.sl,by rw[h.len,zMP],λ j hj=>by
  obtain⟨a,b,h1,h2,h3,h4,h5⟩:=h.at' j (by simpa using hj);rw[List.getElem_map];exact⟨a,b,h1,h2,h3,h4.nat,h5.nat⟩⟩
structure zta (w:World) (v:Value) (l:List Value):Prop where
 sl:zlb v
 len:slen v=l.length
 cell:∀ (j:Nat) (h:j<l.length),w.cell? (ptr v j)=some l[j]
theorem zta.bw {w w':World} {v:Value} {l:List Value} (h:zta w v l) (hb:Below w.heap.size w w'):zta w' v l:=
 ⟨h.sl,h.len,λ j hj=>zca hb (h.cell j hj)⟩
def zjg (w:World) (v:Value) (l:List Bool):Prop:=zta w v (l.map Value.bool)
theorem zjg.bw {w w':World} {v:Value} {l:List Bool} (h:zjg w v l) (hb:Below w.heap.size w w'):zjg w' v l:=zta.bw h hb
theorem zjg.at' {w:World} {v:Value} {l:List Bool} (h:zjg w v l) (j:Nat) (hj:j<l.length):w.cell? (ptr v j)=some (.bool l[j]):=by
 have:=h.cell j (by simpa using hj);simpa using this
theorem zjg.len {w:World} {v:Value} {l:List Bool} (h:zjg w v l):slen v=l.length:=by have:=zta.len h;simpa using this
structure MatN (w:World) (v:Value) (m:List (List RF)):Prop where
 sl:zlb v
 len:slen v=m.length
 at':∀ (j:Nat) (h:j<m.length),∃r,w.cell? (ptr v j)=some r/\zte w r m[j]
theorem MatN.bw {w w':World} {v:Value} {m:List (List RF)} (h:MatN w v m) (hb:Below w.heap.size w w'):MatN w' v m:=
 ⟨h.sl,h.len,λ j hj=>by obtain⟨r,h1,h2⟩:=h.at' j hj;exact⟨r,zca hb h1,h2.bw hb⟩⟩
structure RC where
 rates:List (List RF)
 start:List RF
 lost:List Bool
def zso (w:World) (v:Value) (c:RC):Prop:=∃r s l,v= .agg #[r,s,l]/\MatN w r c.rates/\zte w s c.start/\zjg w l c.lost
def qs (l:List RF):List Rat:=l.map RF.q
theorem zpn (l:List RF):(qs l).length=l.length:=by simp[qs]
theorem qs_take (l:List RF) (k:Nat):(qs l).take k=qs (l.take k):=by unfold qs;rw[List.map_take]
theorem qs_get (l:List RF) (k:Nat) (h:k<l.length):(qs l)[k]'(by rw[zpn];exact h)=l[k].q:=by simp[qs]
theorem lsum_qs (l:List RF) (k:Nat) (h:k<l.length):zof (qs (l.take (k+1)))=zof (qs (l.take k))+l[k].q:=by
 rw[zce l k h];unfold qs;rw[List.map_append];exact lsum_snoc _ _
def zid (w:World) (e:TypeId) (B:Nat) (v:Value) (n:Nat):Prop:=
 ∃g cs,v= .slice (some ⟨g,0,none⟩) n n/\w.ownsRow B e 3 v n cs/\∀c∈cs,∀z,c≠ .int .u32 z
section
variable {w:World} {e:TypeId} {B n:Nat} {v:Value}
theorem zid.pq (h:zid w e B v n):∃g,∀k,ptr v k=⟨g,k,none⟩:=by
 obtain⟨g,cs,rfl,_⟩:=h;exact⟨g,λ k=>by simp only[ptr,base,Addr.add_lit,Nat.zero_add]⟩
theorem zid.inj (h:zid w e B v n) {i j:Nat} (hij:i≠j):ptr v i≠ptr v j:=by
 obtain⟨g,hg⟩:=h.pq;rw[hg,hg];intro h;injection h with h1 h2;exact hij h2
theorem zid.sl (h:zid w e B v n):zlb v:=by
 obtain⟨g,cs,rfl,h1,_⟩:=h;rcases h1.2 with⟨h',_⟩ | ⟨g',cap,cur,h',_,_,h2,h3,_⟩
 ·cases h'
 ·injection h' with h4 h5 h6
  subst h6;exact⟨_,_,_,rfl,h2,h3,λ e=>by cases e⟩
theorem zid.len (h:zid w e B v n):slen v=n:=by obtain⟨g,cs,rfl,_⟩:=h;rfl
theorem zid.cell (h:zid w e B v n) (j:Nat) (hj:j<n*3):∃x,w.cell? (ptr v j)=some x/\∀z,x≠ .int .u32 z:=by
 obtain⟨g,cs,rfl,h1,h2⟩:=h;have hl:cs.length=n*3:=h1.1;have:=World.ownsRow.cellAt h1 j hj;rw[zGE zO]at this;refine⟨cs[j]' zO,?_,h2 _ (zGM _)⟩;simpa only[ptr,base,Addr.add_lit,Nat.zero_add]using this
theorem zid.frozen (h:zid w e B v n) (j:Nat):w.frozen? (ptr v j)=false:=by
 obtain⟨g,cs,rfl,h1,h2⟩:=h;have:=World.ownsRow.frozenAt h1 j;simpa only[ptr,base,Addr.add_lit,Nat.zero_add]using this
theorem zid.block (h:zid w e B v n):B<=(base v).block/\(base v).block<w.heap.size:=by
 obtain⟨g,cs,rfl,h1,h2⟩:=h;rcases h1.2 with⟨h',_⟩ | ⟨g',cap,cur,h',hb,hg,_⟩
 ·cases h'
 ·injection h' with h4
  injection h4 with h4
  injection h4 with h4
  subst h4;exact⟨hb,(Array.getElem?_eq_some_iff.1 hg).1⟩
theorem zid.bw {w':World} (h:zid w e B v n) (hb:Below w.heap.size w w'):zid w' e B v n:=by
 obtain⟨g,cs,rfl,h1,h2⟩:=h;exact⟨g,cs,rfl,World.ownsRow.kept h1 (zeb hb) (Or.inr (by simp[Value.ownBlock])),h2⟩
theorem zid.set (h:zid w e B v n) (j:Nat) (u:Value) (hu:∀z,u≠ .int .u32 z):zid (w.setCell (ptr v j) u) e B v n/\Below B w (w.setCell (ptr v j) u):=by
 have hbl:=h.block;obtain⟨g,cs,rfl,h1,h2⟩:=h;have hs:=World.ownsRow.stored h1 j u;have hp:ptr (.slice (some ⟨g,0,none⟩) n n) j=⟨g,j,none⟩:=by simp only[ptr,base,Addr.add_lit,Nat.zero_add]
 rw[hp];refine⟨⟨g,_,rfl,hs.1,λ c hc=> ?_⟩,zmc hs.2 (by simp only[base]at hbl;omega) (λ k hk=>by simp[base]at hbl hk;omega)⟩;rcases List.mem_or_eq_of_mem_set hc with h' | h'
 ·exact h2 c h'
 ·subst h';exact hu
def zol (w:World) (v:Value) (j:Nat) (q:Rat):Prop:=
 ∃a b,w.cell? (ptr v (j*3))=some (.bool (decide (q<0)))/\w.cell? (ptr v (j*3+1))=some a/\w.cell? (ptr v (j*3+2))=some b/\zpb w a q.num.natAbs/\zpb w b q.den
theorem zol.bw {w':World} {j:Nat} {q:Rat} (h:zol w v j q) (hb:Below w.heap.size w w'):zol w' v j q:=by
 obtain⟨a,b,h1,h2,h3,h4,h5⟩:=h;exact⟨a,b,zca hb h1,zca hb h2,zca hb h3,h4.bw hb,h5.bw hb⟩
theorem zid.set3 (h:zid w e B v n) (i:Nat) (x y z:Value) (hx:∀k,x≠ .int .u32 k) (hy:∀k,y≠ .int .u32 k) (hz:∀k,z≠ .int .u32 k):
 zid (((w.setCell (ptr v (i*3)) x).setCell (ptr v (i*3+1)) y).setCell (ptr v (i*3+2)) z) e B v n/\
  Below B w (((w.setCell (ptr v (i*3)) x).setCell (ptr v (i*3+1)) y).setCell (ptr v (i*3+2)) z):=by
 have h1:=h.set (i*3) x hx;have h2:=h1.1.set (i*3+1) y hy;have h3:=h2.1.set (i*3+2) z hz;exact⟨h3.1,(h1.2.trans h2.2).trans h3.2⟩
theorem zpb.over1 (h:zid w e B v n) {x:Value} {m:Nat} (hx:zpb w x m) (j:Nat) (hj:j<n*3) (u:Value):zpb (w.setCell (ptr v j) u) x m:=by
 obtain⟨c,h1,h2⟩:=h.cell j hj;exact⟨hx.v.over h1 h2 u,hx.2⟩
theorem zpb.over3 (h:zid w e B v n) {c:Value} {m:Nat} (hc:zpb w c m) (i:Nat) (hi:i<n) (x y z:Value) (hx:∀k,x≠ .int .u32 k) (hy:∀k,y≠ .int .u32 k):
 zpb (((w.setCell (ptr v (i*3)) x).setCell (ptr v (i*3+1)) y).setCell (ptr v (i*3+2)) z) c m:=by
 have h1:=h.set (i*3) x hx;have h2:=h1.1.set (i*3+1) y hy;exact zpb.over1 h2.1 (zpb.over1 h1.1 (zpb.over1 h hc _ zO _) _ zO _) _ zO _
theorem zkf (h:zid w e B v n) (i k:Nat) (hk:k≠i*3) (hk1:k≠i*3+1) (hk2:k≠i*3+2) (x y z:Value):
 (((w.setCell (ptr v (i*3)) x).setCell (ptr v (i*3+1)) y).setCell (ptr v (i*3+2)) z).cell? (ptr v k)=w.cell? (ptr v k):=by
 rw[zCO _ _ _ _ (h.inj (Ne.symm hk2)),zCO _ _ _ _ (h.inj (Ne.symm hk1)),zCO _ _ _ _ (h.inj (Ne.symm hk))]
theorem zol.set3_other (h:zid w e B v n) {i j:Nat} (hi:i<n) (hij:i≠j) {q:Rat} (hj:zol w v j q) (x y z:Value) (hx:∀k,x≠ .int .u32 k) (hy:∀k,y≠ .int .u32 k):
 zol (((w.setCell (ptr v (i*3)) x).setCell (ptr v (i*3+1)) y).setCell (ptr v (i*3+2)) z) v j q:=by
 obtain⟨a,b,h1,h2,h3,h4,h5⟩:=hj;refine⟨a,b,?_,?_,?_,zpb.over3 h h4 i hi x y z hx hy,zpb.over3 h h5 i hi x y z hx hy⟩
 ·rw[zkf h i _ zO zO zO];exact h1
 ·rw[zkf h i _ zO zO zO];exact h2
 ·rw[zkf h i _ zO zO zO];exact h3
theorem zol.set3 (h:zid w e B v n) {i:Nat} (hi:i<n) {q:Rat} {x y z:Value} (hf:zna w (.agg #[x,y,z]) q):
 zol (((w.setCell (ptr v (i*3)) x).setCell (ptr v (i*3+1)) y).setCell (ptr v (i*3+2)) z) v i q:=by
 obtain⟨a,b,ha,h4,h5⟩:=hf;injection ha with ha
 injection ha with ha
 simp only[List.cons.injEq,and_true]at ha;obtain⟨rfl,rfl,rfl⟩:=ha;have nx:∀k,Value.bool (decide (q<0))≠ .int .u32 k:=λ k=>by simp
 have ny:∀k,y≠ .int .u32 k:=λ k=>by obtain⟨a1,n1,c1,e1,_⟩:=h4.v.sl;subst e1;simp
 obtain⟨c0,d0,_⟩:=h.cell (i*3) zO;obtain⟨c1,d1,_⟩:=h.cell (i*3+1) zO;obtain⟨c2,d2,_⟩:=h.cell (i*3+2) zO;have n01:=h.inj (show i*3≠i*3+1 by omega);have n02:=h.inj (show i*3≠i*3+2 by omega);have n12:=h.inj (show i*3+1≠i*3+2 by omega);refine⟨y,z,?_,?_,?_,zpb.over3 h h4 i hi _ _ _ nx ny,zpb.over3 h h5 i hi _ _ _ nx ny⟩
 ·rw[zCO _ _ _ _ n02.symm,zCO _ _ _ _ n01.symm];exact World.cell?_setCell_same _ _ _ d0
 ·rw[zCO _ _ _ _ n12.symm];exact World.cell?_setCell_same _ _ _ (u:=c1) (by rw[zCO _ _ _ _ n01];exact d1)
 ·exact World.cell?_setCell_same _ _ _ (u:=c2) (by rw[zCO _ _ _ _ n12,zCO _ _ _ _ n02];exact d2)
end
theorem make_fr {P:Program} (t e:TypeId) (i:TypeInfo) (h1:P.underlying t=some (.slice e)) (h2:P.info? e=some i) (h3:i.zero=some (.agg #[.bool false, .slice none 0 0, .slice none 0 0])) (h4:i.size=3) (h5:i.bytes<=64)
 (w:World) {ops:Array Oper} {rest:List Oper} {o:Oper} {a:Act} {Q:Exit->Act->World->Prop} (hg:o.guard=none) (l c:Operand) (hop:o.op=Op.makeSlice t l c)
 (B:Nat) (u:Int) (n:Nat) (hu:u=n) (hl:a.eval l= .int .i64 u) (hc:a.eval c= .int .i64 u) (b2:n<=4398046511104) (b4:B<=w.heap.size)
 (hK:∀v w',zid w' e B v n->Below w.heap.size w w'->w.heap.size<=(base v).block->wpList P ops Q rest (a.put o.dst v) w'):
 wpList P ops Q (o::rest) a w:=by
 subst hu;refine wpList_make_full w hg l c t hop B e i _ 3 h1 h2 h3 h4 .i64 .i64 n n n hl hc rfl rfl (zLT (zMR _ h5) zO) (by unfold maxLen;omega) b4 ?_;intro w' hown hgr;refine hK _ w' ⟨_,_,rfl,hown,λ x hx z=> ?_⟩ (zmc hgr (zLR _) (λ k hk=>by cases hk)) (by simp[base]);have hx2:x∈(madeCells #[Value.bool false, .slice none 0 0, .slice none 0 0] (n*3)).toList:=hx;unfold madeCells at hx2;simp only[Array.toList_map,List.mem_map,Array.mem_toList_iff]at hx2;obtain⟨k,hk,rfl⟩:=hx2;have h7:k%3<3:=zML2 _ zD;have h8:(#[Value.bool false, .slice none 0 0, .slice none 0 0]:Array Value).size=3:=rfl;rw[h8];rcases(show k%3=0\/k%3=1\/k%3=2 by omega)with h9 | h9 | h9<;>rw[h9]<;>simp
end Go.Proofs.YtkpedaflofejnaaGreat
