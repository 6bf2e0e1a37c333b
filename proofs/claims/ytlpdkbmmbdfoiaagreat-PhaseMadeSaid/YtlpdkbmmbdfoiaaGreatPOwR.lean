/- Lemmas. -/
import Derived.Test.YtlpdkbmmbdfoiaaGreatPStep
import Derived.Deep.RegionHeld3
import Derived.Lib.OwnKind
set_option linter.unusedVariables false
set_option linter.unusedSimpArgs false
namespace Go.Proofs.YtlpdkbmmbdfoiaaGreat
set_option maxHeartbeats 1600000
open Go.RowKit
theorem zaa {w w1 w2:World} (h:Below w.heap.size w w1) (h':Below w1.heap.size w1 w2):Below w.heap.size w w2:=h.trans (h'.mono h.size)
theorem zpm (z:Int) (w:World) (h1: -9223372036854775808<=z) (h2:z<9223372036854775808):
 Calls Tryz.prog 143 #[.int .i64 z] w (RNat w z.natAbs):=by
 rcases Int.lt_or_le z 0 with h | h
 ·have h0:z<0:=h;obtain⟨m,hm⟩:∃m:Nat,z= -(m:Int):=⟨z.natAbs,zO⟩;have hM:=zfn m zO;have e:z.natAbs=m:=zO;rw[e];clear e;subst hm;have hw:IntKind.u64.wrap (-IntKind.u64.wrap (-(m:Int)))=(m:Int):=by rw[zqc,zqc];omega
  go_enter Tryz.func143,Tryz.ntmps143;go_wp2_with fail;refine(hM w).mono ?_;rintro e w' ⟨r,rfl,hr,hb⟩;go_wp2;go_ret;exact⟨_,rfl,hr,hb⟩
 ·obtain⟨m,rfl⟩:∃m:Nat,z=(m:Int):=⟨z.natAbs,zO⟩;have hM:=zfn m zO;have e:(m:Int).natAbs=m:=zO;rw[e];have hw:IntKind.u64.wrap (m:Int)=(m:Int):=by rw[zqc];omega
  clear e h1 h2 h;go_enter Tryz.func143,Tryz.ntmps143;go_wp2_with fail;refine(hM w).mono ?_;rintro e w' ⟨r,rfl,hr,hb⟩;go_wp2;go_ret;exact⟨_,rfl,hr,hb⟩
def IsF (v:Value):Prop:=∃s x y,v= .agg #[.bool s,x,y]/\zvc x/\zvc y
theorem zia.isF {w:World} {v:Value} {q:Rat} (h:zia w v q):IsF v:=by
 obtain⟨a,b,rfl,h1,h2⟩:=h;exact⟨_,a,b,rfl,h1.v.sl,h2.v.sl⟩
theorem zia.iF {w:World} {v:Value} {q:Rat} (h:zia w v q):∃t a l k b m j,v= .agg #[.bool t, .slice a l k, .slice b m j]:=by
 obtain ⟨t,x,y,rfl,⟨a,l,k,rfl,_⟩,⟨b,m,j,rfl,_⟩⟩:=h.isF;exact⟨t,a,l,k,b,m,j,rfl⟩
theorem isF_zero :IsF zeroF:=⟨false,_,_,rfl,zvc.nil,zvc.nil⟩
theorem zdc {w0 w:World} {q:Rat} {v:Value} {er:Int} (h1:fits q->er=0/\zia w v q) (h2:¬fits q->er=2/\v=zeroF):IsF v:=by
 by_cases h:fits q
 ·exact(h1 h).2.isF
 ·rw[(h2 h).2];exact isF_zero
theorem zqo (a b:Int) (w:World) (ha1: -9223372036854775808<=a) (ha2:a<9223372036854775808) (hb1: -9223372036854775808<=b) (hb2:b<9223372036854775808) (hb:b≠0):
 Calls Tryz.prog 67 #[.int .i64 a, .int .i64 b] w (zhl w (fq (!decide (a<0)==decide (b<0)) a.natAbs b.natAbs)):=by
 have HA:=zH (zAI ha1 ha2);have HB:=zH (zAI hb1 hb2);have hbn:b.natAbs≠0:=zO;have HBN:=zH hbn;have h1:∀z:Int,-9223372036854775808<=z->z<9223372036854775808->zha z.natAbs<=512:=λ z _ _=>znc.2 (zLM (show z.natAbs<pw 2 by have :pw 2=18446744073709551616:=rfl;omega) (pw_le zO))
 have H1:=zH (h1 a ha1 ha2);have H2:=zH (h1 b hb1 hb2);have h9:(b==0)=false:=by simpa using hb
 clear ha1 ha2 hb1 hb2 hbn h1 hb;go_enter Tryz.func67,Tryz.ntmps67
 go_wp2_with (first
  |(go_at_call 143;first
   |((with_reducible refine(zpm a _ HA.o.1 HA.o.2).mono ?_);rintro e w1 ⟨x,rfl,hx,hx1⟩)
   |((with_reducible refine(zpm b _ HB.o.1 HB.o.2).mono ?_);rintro e w2 ⟨y,rfl,hy,hy1⟩;have hx2:=hx.bw hy1))
  |(go_at_call 142;(with_reducible refine(zlc _ x y a.natAbs b.natAbs _ hx2.nat hy.nat HBN.o H1.o H2.o).mono ?_);rintro e w3 ⟨v,er,rfl,hv1,hv2,hv3⟩;obtain⟨t,x1,y1,rfl,⟨a1,l1,k1,rfl,_⟩,⟨a2,l2,k2,rfl,_⟩⟩:=zdc (w0:=w) hv2 hv3;have hC:=(((C3.new w _ _ _ _).bS hx1).bS hy1).bS hv1;have HC:=zH hC;have hbz:=(zca w _).trans ((hx1.trans ((hy1.trans (hv1.mono hy1.size)).mono hx1.size)).mono (zca w _).size);obtain⟨_,d0,d1,d2,e0,e1,e2⟩:=hC))
 refine zla rfl rfl Tryz.aggF Tryz.sizeF (HC.o.set _ _ _) rfl ?_;exact⟨_,_,rfl,zga hbz (zLR _) _ _ _,λ h=>⟨(hv2 h).1,(hv2 h).2.set3 HC.o zZ zZ _ _ _⟩,hv3⟩
theorem zue (v:Value) (s:Bool) (n d:Nat) (w:World) (h:zzb w v s n d) (hk:okN n d):
 Calls Tryz.prog 79 #[v] w λ e w'=>e= .returned (.bool true)/\Below w.heap.size w w':=
 (valid_any v s n d w h).mono λ e w' ⟨h1,h2⟩=>⟨by rw[h1,zDT hk],h2⟩
theorem C3.allocS {w:World} {b:Nat} {v0 v1 v2:Value} (h:C3 w b v0 v1 v2) (o:Obj):C3 (w.alloc o) b v0 v1 v2:=h.bS (zca w o)
theorem zpb (w:World) (t:TypeId) (x0 x1 x2 y0 y1 y2 z0 z1 z2:Value) (W:World)
 (hW:W=((w.alloc (.cells #[x0,x1,x2] t)).alloc (.cells #[y0,y1,y2] t)).alloc (.cells #[z0,z1,z2] t)):
 C3 W w.heap.size x0 x1 x2/\C3 W (w.heap.size+1) y0 y1 y2/\C3 W (w.heap.size+1+1) z0 z1 z2/\Below w.heap.size w W:=by
 subst hW;have e1:(w.alloc (.cells #[x0,x1,x2] t)).heap.size=w.heap.size+1:=by show(w.heap.push _).size=_;simp
 have e2:((w.alloc (.cells #[x0,x1,x2] t)).alloc (.cells #[y0,y1,y2] t)).heap.size=w.heap.size+1+1:=by show(World.heap _ |>.push _).size=_;rw[Array.size_push,e1]
 refine⟨((C3.new w t x0 x1 x2).allocS _).allocS _,?_,?_,?_⟩
 ·rw[<-e1];exact(C3.new _ t y0 y1 y2).allocS _
 ·rw[<-e2];exact C3.new _ t z0 z1 z2
 ·exact(zca w _).trans (((zca _ _).trans ((zca _ _).mono (zca _ _).size)).mono (zca w _).size)
theorem zuc {a b j k:Nat} (ha:zha a<=j) (hb:zha b<=k):zha (a*b)<=j+k:=by
 rw[znc]at *
 have:=Nat.mul_lt_mul'' ha hb;rwa[<-pw_add]at this
theorem nlen_sum {a b k:Nat} (ha:zha a<=k) (hb:zha b<=k):zha (a+b)<=k+1:=by
 rw[znc]at *
 rw[zyb];omega
theorem cmp_ge0 (va vb:Value) (m n:Nat) (w:World) (ha:zcc w va m) (hb:zcc w vb n) (h:n<=m):
 Calls Tryz.prog 159 #[va,vb] w λ e w'=>(∃c:Int,e= .returned (.int .i64 c)/\decide (0<=c)=true)/\Below w.heap.size w w':=
 (zkp va vb m n w ha hb).mono λ _ _ ⟨a,k,b⟩=>⟨⟨_,a,by unfold zbm;rw[zIN zO];split<;>rfl⟩,b▸zna w k⟩
theorem cmp_lt0 (va vb:Value) (m n:Nat) (w:World) (ha:zcc w va m) (hb:zcc w vb n) (h:m<n):
 Calls Tryz.prog 159 #[va,vb] w λ e w'=>(∃c:Int,e= .returned (.int .i64 c)/\decide (0<=c)=false)/\Below w.heap.size w w':=
 (zkp va vb m n w ha hb).mono λ _ _ ⟨a,k,b⟩=>⟨⟨_,a,by rw[zqi h];rfl⟩,b▸zna w k⟩
theorem zfc {n d:Nat} (h:okN n d):zha n<=128/\zha d<=128:=⟨zyc h.2.2,zyc h.2.1⟩
set_option maxRecDepth 100000 in
theorem ztr (va vb:Value) (s t:Bool) (n d m e:Nat) (w:World) (ha:zzb w va s n d) (hb:zzb w vb t m e) (h1:okN n d) (h2:okN m e):
 Calls Tryz.prog 80 #[va,vb] w (zhl w (fq s n d+fq t m e)):=by
 have hA:=ha;have hB:=hb;obtain⟨xn,xd,rfl,hxn,hxd⟩:=ha;obtain⟨yn,yd,rfl,hyn,hyd⟩:=hb;obtain⟨an,ln,kn,rfl,_⟩:=hxn.slen.1;obtain⟨ad,ld,kd,rfl,_⟩:=hxd.slen.1;obtain⟨am,lm,km,rfl,_⟩:=hyn.slen.1;obtain⟨ae,le,ke,rfl,_⟩:=hyd.slen.1;have K1:=zH h1;have K2:=zH h2;clear h1 h2;go_enter Tryz.func80,Tryz.ntmps80;go_wp2_with fail;obtain⟨W,hW⟩:∃W,W=(((w.alloc (.cells #[.bool s, .slice an ln kn, .slice ad ld kd] 38)).alloc (.cells #[.bool t, .slice am lm km, .slice ae le ke] 38)).alloc (.cells #[.bool false, .slice none 0 0, .slice none 0 0] 38)):=⟨_,rfl⟩;obtain⟨bx,byy,bz,hbw⟩:=zpb w 38 _ _ _ _ _ _ _ _ _ W hW;rw[<-hW];clear hW;have HBX:=zH bx;have HBY:=zH byy;have HBZ:=zH bz;obtain⟨_,q1,q2,q3,q4,q5,q6⟩:=bx;obtain⟨_,r1,r2,r3,r4,r5,r6⟩:=byy
 go_wp2_with (first
  |(go_at_call 79;first
    |((with_reducible refine(zue _ s n d _ (hA.bw hbw) K1.o).mono ?_);rintro e9 w1 ⟨rfl,hv1⟩
      obtain⟨_,f1,f2,f3,f4,f5,f6⟩:=HBY.o.bS hv1;have hbw1:=hbw.trans (hv1.mono hbw.size))
    |((with_reducible refine(zue _ t m e _ (hB.bw hbw1) K2.o).mono ?_);rintro e9 w2 ⟨rfl,hv2⟩
      have hbx2:=(HBX.o.bS hv1).bS hv2;have hby2:=(HBY.o.bS hv1).bS hv2;have hbz2:=(HBZ.o.bS hv1).bS hv2;have hbw2:=hbw1.trans (hv2.mono hbw1.size))))
 clear q1 q2 q3 q4 q5 q6 r1 r2 r3 r4 r5 r6 f1 f2 f3 f4 f5 f6;have hd2:=zfa (B:=w2.heap.size) w2;have hD:=hbw2.trans (hd2.mono hbw2.size);have hbx3:=hbx2.bS hd2;have hby3:=hby2.bS hd2;have hbz3:=hbz2.bS hd2;clear hbx2 hby2 hbz2 hbw2 hv1 hv2 hbw hbw1 HBX HBY HBZ bz hd2;have HX3:=zH hbx3;have HY3:=zH hby3;have HZ3:=zH hbz3;obtain⟨_,q1,q2,q3,q4,q5,q6⟩:=hbx3;obtain⟨_,r1,r2,r3,r4,r5,r6⟩:=hby3;clear hbz3;have g1:=hxn.bw hD;have g2:=hxd.bw hD;have g3:=hyn.bw hD;have g4:=hyd.bw hD;have l1:=zH (zfc K1.o);have l2:=zH (zfc K2.o);have T1:=zH (zLT l1.o.1 (show 128<=256 by decide));have T2:=zH (zLT l2.o.2 (show 128<=256 by decide));have T3:=zH (zLT l2.o.1 (show 128<=256 by decide));have T4:=zH (zLT l1.o.2 (show 128<=256 by decide));have tok1:True:=trivial;have tok2:True:=trivial;have tok3:True:=trivial
 go_region_held3 (λ w'=>w'.cell? ⟨w.heap.size,1,none⟩=some (.slice an ln kn)/\w'.cell? ⟨w.heap.size,2,none⟩=some (.slice ad ld kd)/\w'.cell? ⟨w.heap.size+1,1,none⟩=some (.slice am lm km)/\w'.cell? ⟨w.heap.size+1,2,none⟩=some (.slice ae le ke)) (exact⟨q2,q3,r2,r3⟩) (first
  |(go_at_call 157;have _t:=tok1;clear tok1 _t;(with_reducible refine(zsb _ _ n e _ g1 g4 T1.o T2.o).mono ?_);rintro e9 w3 ⟨p1,rfl,hp1,hp2⟩;have X4:=HX3.o.bS hp2;have Y4:=HY3.o.bS hp2;have HX4:=zH X4;have HY4:=zH Y4;obtain⟨_,q1,q2,q3,q4,q5,q6⟩:=X4;obtain⟨_,r1,r2,r3,r4,r5,r6⟩:=Y4)
  |(go_at_call 157;have _t:=tok2;clear tok2 _t;(with_reducible refine(zsb _ _ m d _ (g3.bw hp2) (g2.bw hp2) T3.o T4.o).mono ?_);rintro e9 w4 ⟨p3,rfl,hp3,hp4⟩;have hp24:=zaa hp2 hp4;have hp14:=hp1.bw hp4;have X5:=HX4.o.bS hp4;have Y5:=HY4.o.bS hp4;have HX5:=zH X5;have HY5:=zH Y5;obtain⟨_,q1,q2,q3,q4,q5,q6⟩:=X5;obtain⟨_,r1,r2,r3,r4,r5,r6⟩:=Y5)
  |(go_at_call 157;have _t:=tok3;clear tok3 _t;(with_reducible refine(zsb _ _ d e _ (g2.bw hp24) (g4.bw hp24) T4.o T2.o).mono ?_);rintro e9 w5 ⟨p5,rfl,hp5,hp6⟩;have hp26:=zaa hp24 hp6;have hp16:=hp14.bw hp6;have hp36:=hp3.bw hp6;have X6:=HX5.o.bS hp6;have Y6:=HY5.o.bS hp6;have HX6:=zH X6;have HY6:=zH Y6;obtain⟨_,q1,q2,q3,q4,q5,q6⟩:=X6;obtain⟨_,r1,r2,r3,r4,r5,r6⟩:=Y6))
 have hdw:Below w.heap.size w w5:=hD.trans (hp26.mono hD.size);have HZ6:=zH (HZ3.o.bS hp26);have HDE:zI (d*e≠0):=zH (zMZ K1.o.1 K2.o.1);have N1:=zH (zuc l1.o.1 l2.o.2);have N3:=zH (zuc l2.o.1 l1.o.2);have N5:=zH (zLT (zuc l1.o.2 l2.o.2) (show 128+128<=512 by decide));have NS:=zH (zLT (nlen_sum N1.o N3.o) (show 128+128+1<=512 by decide));have N12:=zH (zLT N1.o (show 128+128<=512 by decide));have N32:=zH (zLT N3.o (show 128+128<=512 by decide));clear hp24 hp26 hp14 hp1 hp3 hp2 hp4 hp6 hD HZ3 g1 g2 g3 g4 HX3 HY3 HX4 HY4 HX5 HY5 T1 T2 T3 T4;by_cases hst:s=t
 ·have HQ:=zH (zuj s n d m e K1.o.1 K2.o.1);subst hst
  go_wp2_with (first
   |(go_at_call 158;(with_reducible refine(add_any p1 p3 (n*e) (m*d) _ hp16.nat hp36.nat N12.o N32.o).mono ?_);rintro e9 w6 ⟨r,er,rfl,hr,hb6⟩;have hr6:=(hr.1 NS.o).2;have hp56:=hp5.bw hb6;have hdw6:=zaa hdw hb6;have HZ7:=zH (HZ6.o.bS hb6);obtain⟨_,q1,q2,q3,q4,q5,q6⟩:=HX6.o.bS hb6;obtain⟨_,r1,r2,r3,r4,r5,r6⟩:=HY6.o.bS hb6;)
   |(go_at_call 142;(with_reducible refine(zlc s r p5 (n*e+m*d) (d*e) _ hr6.nat hp56.nat HDE.o NS.o N5.o).mono ?_);rintro e9 w7 ⟨v,er7,rfl,hv1,hv2,hv3⟩;rw[<-HQ.o]at hv2 hv3;obtain⟨t9,x9,y9,rfl,⟨a1,l91,k1,rfl,_⟩,⟨a2,l92,k2,rfl,_⟩⟩:=zdc (w0:=w) hv2 hv3;have hC:=HZ7.o.bS hv1;have HC:=zH hC;have hbz:=zaa hdw6 hv1;obtain⟨_,d0,d1,d2,e0,e1,e2⟩:=hC;)
   )
  refine zla rfl rfl Tryz.aggF Tryz.sizeF (HC.o.set _ _ _) rfl ?_;exact⟨_,_,rfl,zga hbz zO _ _ _,λ h=>⟨(hv2 h).1,(hv2 h).2.set3 HC.o zZ zZ _ _ _⟩,hv3⟩
 ·have hsb:(s==t)=false:=by simpa using hst
  by_cases hle:m*d<=n*e
  ·have HQ:=zH (fq_add_ge s t n d m e K1.o.1 K2.o.1 hsb hle);have HLE:=zH hle;have NS:=zH (zLT (zob (Nat.sub_le (n*e) (m*d))) N12.o);clear hle
   go_wp2_with (first
    |(go_at_call 159;(with_reducible refine(cmp_ge0 p1 p3 (n*e) (m*d) _ hp16.nat hp36.nat HLE.o).mono ?_);rintro e9 w5b ⟨⟨c,rfl,hc⟩,hb5⟩;have hp16:=hp16.bw hb5;have hp36:=hp36.bw hb5;have hp5:=hp5.bw hb5;have HX6:=zH (HX6.o.bS hb5);have HY6:=zH (HY6.o.bS hb5);have HZ6:=zH (HZ6.o.bS hb5);have hdw:=zaa hdw hb5)
    |(go_at_call 160;(with_reducible refine(sub_any p1 p3 (n*e) (m*d) _ hp16.nat hp36.nat N12.o HLE.o).mono ?_);rintro e9 w6 ⟨r,er,rfl,hr,hb6⟩;have hr6:=(hr.1 NS.o).2;have hp56:=hp5.bw hb6;have hdw6:=zaa hdw hb6;have HZ7:=zH (HZ6.o.bS hb6);obtain⟨_,q1,q2,q3,q4,q5,q6⟩:=HX6.o.bS hb6;obtain⟨_,r1,r2,r3,r4,r5,r6⟩:=HY6.o.bS hb6;)
    |(go_at_call 142;(with_reducible refine(zlc s r p5 (n*e-m*d) (d*e) _ hr6.nat hp56.nat HDE.o NS.o N5.o).mono ?_);rintro e9 w7 ⟨v,er7,rfl,hv1,hv2,hv3⟩;rw[<-HQ.o]at hv2 hv3;obtain⟨t9,x9,y9,rfl,⟨a1,l91,k1,rfl,_⟩,⟨a2,l92,k2,rfl,_⟩⟩:=zdc (w0:=w) hv2 hv3;have hC:=HZ7.o.bS hv1;have HC:=zH hC;have hbz:=zaa hdw6 hv1;obtain⟨_,d0,d1,d2,e0,e1,e2⟩:=hC;)
    )
   refine zla rfl rfl Tryz.aggF Tryz.sizeF (HC.o.set _ _ _) rfl ?_;exact⟨_,_,rfl,zga hbz zO _ _ _,λ h=>⟨(hv2 h).1,(hv2 h).2.set3 HC.o zZ zZ _ _ _⟩,hv3⟩
  ·have hlt:n*e<m*d:=Nat.lt_of_not_le hle;have HQ:=zH (fq_add_lt s t n d m e K1.o.1 K2.o.1 hsb (zLO hlt));have HLT:=zH hlt;have NS:=zH (zLT (zob (Nat.sub_le (m*d) (n*e))) N32.o);clear hle hlt
   go_wp2_with (first
    |(go_at_call 159;(with_reducible refine(cmp_lt0 p1 p3 (n*e) (m*d) _ hp16.nat hp36.nat HLT.o).mono ?_);rintro e9 w5b ⟨⟨c,rfl,hc⟩,hb5⟩;have hp16:=hp16.bw hb5;have hp36:=hp36.bw hb5;have hp5:=hp5.bw hb5;have HX6:=zH (HX6.o.bS hb5);have HY6:=zH (HY6.o.bS hb5);have HZ6:=zH (HZ6.o.bS hb5);have hdw:=zaa hdw hb5)
    |(go_at_call 160;(with_reducible refine(sub_any p3 p1 (m*d) (n*e) _ hp36.nat hp16.nat N32.o (zLO HLT.o)).mono ?_);rintro e9 w6 ⟨r,er,rfl,hr,hb6⟩;have hr6:=(hr.1 NS.o).2;have hp56:=hp5.bw hb6;have hdw6:=zaa hdw hb6;have HZ7:=zH (HZ6.o.bS hb6);obtain⟨_,q1,q2,q3,q4,q5,q6⟩:=HX6.o.bS hb6;obtain⟨_,r1,r2,r3,r4,r5,r6⟩:=HY6.o.bS hb6;)
    |(go_at_call 142;(with_reducible refine(zlc t r p5 (m*d-n*e) (d*e) _ hr6.nat hp56.nat HDE.o NS.o N5.o).mono ?_);rintro e9 w7 ⟨v,er7,rfl,hv1,hv2,hv3⟩;rw[<-HQ.o]at hv2 hv3;obtain⟨t9,x9,y9,rfl,⟨a1,l91,k1,rfl,_⟩,⟨a2,l92,k2,rfl,_⟩⟩:=zdc (w0:=w) hv2 hv3;have hC:=HZ7.o.bS hv1;have HC:=zH hC;have hbz:=zaa hdw6 hv1;obtain⟨_,d0,d1,d2,e0,e1,e2⟩:=hC;)
    )
   refine zla rfl rfl Tryz.aggF Tryz.sizeF (HC.o.set _ _ _) rfl ?_;exact⟨_,_,rfl,zga hbz zO _ _ _,λ h=>⟨(hv2 h).1,(hv2 h).2.set3 HC.o zZ zZ _ _ _⟩,hv3⟩
end Go.Proofs.YtlpdkbmmbdfoiaaGreat
namespace Go.Proofs.YtlpdkbmmbdfoiaaGreat
def zef (l:List Rat):Rat:=l.foldl (· + ·) 0
theorem zli (l:List Rat) (x:Rat):zef (l++ [x])=zef l+x:=by unfold zef;rw[List.foldl_append];rfl
theorem lsum_take (l:List Rat) (k:Nat) (h:k<l.length):zef (l.take (k+1))=zef (l.take k)+l[k]:=by rw[zxc l k h,zli]
def wt (q:Rat):Nat:=if q.num=0 then 0 else zza q.num.natAbs+if q.den=1 then 0 else zza q.den
def wts (l:List Rat):Nat:=(l.map wt).sum
theorem zsi (x:Rat) (l:List Rat):wts (x::l)=wt x+wts l:=by simp[wts]
theorem znq (l:List Rat) (x:Rat):wts (l++ [x])=wts l+wt x:=by simp[wts]
theorem wts_sub {l m:List Rat} (h:l.Sublist m):wts l<=wts m:=by
 induction h with
 | slnil=>exact zLR _
 | cons x _ ih=>rw[zsi];omega
 | cons_cons x _ ih=>rw[zsi,zsi];omega
def slim (q:Rat) (k:Nat):Prop:=∃N D:Nat,D≠0/\q=fq false N D/\N+D<=2^k
theorem slim_zero :slim 0 0:=⟨0,1,zD,zD,zD⟩
theorem slim_add {p q:Rat} {j k:Nat} (hp:slim p j) (hq:slim q k):slim (p+q) (j+k):=by
 obtain⟨N,D,h1,rfl,h2⟩:=hp;obtain⟨n,d,h3,rfl,h4⟩:=hq;refine⟨N*d+n*D,D*d,zMZ h1 h3,zuj _ _ _ _ _ h1 h3,?_⟩;rw[Nat.pow_add];have h5:=zMM h2 h4;rw[Nat.add_mul,Nat.mul_add,Nat.mul_add]at h5;have e:n*D=D*n:=Nat.mul_comm _ _;have:=zZL (N*n);omega
theorem slim_wt (q:Rat) (h:0<=q):slim q (wt q):=by
 refine⟨q.num.natAbs,q.den,q.den_nz,?_,?_⟩
 ·have e:=zmb q;rw[zDF (Rat.not_lt.2 h)]at e;exact e.symm
 ·unfold wt;have h0:zza q.num.natAbs<=zza q.num.natAbs:=zLR _;have h1:zza q.den<=zza q.den:=zLR _;rw[zoc]at h0 h1;split
  ·next hz=>
   have e:q=0:=Rat.num_eq_zero.1 hz;subst e;decide
  ·split
   ·next hz hd=>simp only[hd,Nat.add_zero];omega
   ·next hz hd=>
    have hn:q.num.natAbs≠0:=zO;have hd0:=q.den_nz;have h2:1<zza q.den:=zhg.2 zO;have h3:0<zza q.num.natAbs:=zwd.2 hn;rw[Nat.pow_add];have e1:2^1<=2^zza q.num.natAbs:=Nat.pow_le_pow_right zD h3;have e2:2^1<=2^zza q.den:=Nat.pow_le_pow_right zD zO;generalize 2^zza q.num.natAbs=A at *
    generalize 2^zza q.den=B at *
    obtain⟨a,rfl⟩:∃a,A=a+2:=⟨A-2,zO⟩;obtain⟨b,rfl⟩:∃b,B=b+2:=⟨B-2,zO⟩;(have e3:(a+2)*(b+2)=a*b+2*a+2*b+4:=by grind);rw[e3];have:=zZL (a*b);omega
theorem slim_lsum (l:List Rat) (h:∀q∈l,0<=q):slim (zef l) (wts l):=by
 have key:∀ (m:List Rat) (s:Rat) (k:Nat),slim s k->(∀q∈m,0<=q)->slim (m.foldl (· + ·) s) (k+wts m):=by
  intro m
  induction m with
  | nil=>intro s k hs _;exact hs
  | cons x m ih=>
    intro s k hs hm;rw[List.foldl_cons,zsi,<-Nat.add_assoc];exact ih _ _ (slim_add hs (slim_wt x (hm x (by simp)))) (λ q hq=>hm q (by simp[hq]))
 have:=key l 0 0 slim_zero h;rwa[Nat.zero_add]at this
theorem zve {n k:Nat} (h:n<2^k):zza n<=k:=zoc.2 h
theorem slim_fits {q:Rat} {k:Nat} (h:slim q k) (hk:k<=4095):fits q:=by
 obtain⟨N,D,h1,rfl,h3⟩:=h;have h5:2^k<2^(k+1):=Nat.pow_lt_pow_right zD (zSS k);have h6:k+1<=4096:=zO;refine⟨?_,?_⟩
 ·rw[zyf _ _ _ h1];exact zLT (zve (zLL (Nat.div_le_self _ _) (zLL (zLT (Nat.le_add_right N D) h3) h5))) h6
 ·rw[zxo _ _ _ h1];exact zLT (zve (zLL (Nat.div_le_self _ _) (zLL (zLT (Nat.le_add_left D N) h3) h5))) h6
theorem lsum_fits {l m:List Rat} (hs:l.Sublist m) (h:∀q∈m,0<=q) (hw:wts m<=3800):fits (zef l):=
 slim_fits (slim_lsum l (λ q hq=>h q (hs.subset hq))) (by have:=wts_sub hs;omega)
end Go.Proofs.YtlpdkbmmbdfoiaaGreat
namespace Go.Proofs.YtlpdkbmmbdfoiaaGreat
open Go.RowKit
@[go_sem] theorem ptr_off1 (v : Value) (k : Nat) : (⟨(ptr v k).block, (ptr v k).off + 1, none⟩ : Addr) = ptr v (k + 1) := by rw [<- ptr_add]; simp [Addr.add]
@[go_sem] theorem ptr_off2 (v : Value) (k : Nat) : (⟨(ptr v k).block, (ptr v k).off + 2, none⟩ : Addr) = ptr v (k + 2) := by rw [<- ptr_add]; simp [Addr.add]
structure RF where
 neg:Bool
 n:Nat
 d:Nat
def RF.q (x:RF):Rat:=fq x.neg x.n x.d
def RF.ok (x:RF):Prop:=okN x.n x.d
instance (x :RF):Decidable x.ok:=inferInstanceAs (Decidable (okN _ _))
def RF.of (q:Rat):RF:=⟨decide (q<0),q.num.natAbs,q.den⟩
theorem RF.of_q (q:Rat):(RF.of q).q=q:=zmb q
theorem RF.of_ok {q:Rat} (h:fits q):(RF.of q).ok:=⟨q.den_nz,h.2,h.1⟩
def FracAt (w:World) (v:Value) (k:Nat) (x:RF):Prop:=
 ∃a b,w.cell? (ptr v k)=some (.bool x.neg)/\w.cell? (ptr v (k+1))=some a/\w.cell? (ptr v (k+2))=some b/\zcc w a x.n/\zcc w b x.d
theorem zba {w w':World} (hb:Below w.heap.size w w') {p:Addr} {x:Value} (h:w.cell? p=some x):w'.cell? p=some x:=by
 have hlt:=World.block_lt_of_cell? w _ h;rw[hb.cell hlt];exact h
theorem FracAt.bw {w w':World} {v:Value} {k:Nat} {x:RF} (h:FracAt w v k x) (hb:Below w.heap.size w w'):FracAt w' v k x:=by
 obtain⟨a,b,h1,h2,h3,h4,h5⟩:=h;exact⟨a,b,zba hb h1,zba hb h2,zba hb h3,h4.bw hb,h5.bw hb⟩
structure zlg (w:World) (v:Value) (l:List RF):Prop where
 sl:zvc v
 len:slen v=l.length
 at':∀ (j:Nat) (h:j<l.length),FracAt w v (j*3) l[j]
theorem zlg.bw {w w':World} {v:Value} {l:List RF} (h:zlg w v l) (hb:Below w.heap.size w w'):zlg w' v l:=
 ⟨h.sl,h.len,λ j hj=>(h.at' j hj).bw hb⟩
structure zwa (w:World) (v:Value) (qs:List Rat):Prop where
 sl:zvc v
 len:slen v=qs.length
 at':∀ (j:Nat) (h:j<qs.length),∃a b,w.cell? (ptr v (j*3))=some (.bool (decide (qs[j]<0)))/\w.cell? (ptr v (j*3+1))=some a/\w.cell? (ptr v (j*3+2))=some b/\zub w a qs[j].num.natAbs/\zub w b qs[j].den
theorem zwa.bw {w w':World} {v:Value} {l:List Rat} (h:zwa w v l) (hb:Below w.heap.size w w'):zwa w' v l:=
 ⟨h.sl,h.len,λ j hj=>by
  obtain⟨a,b,h1,h2,h3,h4,h5⟩:=h.at' j hj;exact⟨a,b,zba hb h1,zba hb h2,zba hb h3,h4.bw hb,h5.bw hb⟩⟩
theorem zwa.raw {w:World} {v:Value} {qs:List Rat} (h:zwa w v qs):zlg w v (qs.map RF.of):=
 ⟨h.sl,by rw[h.len,zMP],λ j hj=>by
  obtain⟨a,b,h1,h2,h3,h4,h5⟩:=h.at' j (by simpa using hj);rw[List.getElem_map];exact⟨a,b,h1,h2,h3,h4.nat,h5.nat⟩⟩
structure zhd (w:World) (v:Value) (l:List Value):Prop where
 sl:zvc v
 len:slen v=l.length
 cell:∀ (j:Nat) (h:j<l.length),w.cell? (ptr v j)=some l[j]
theorem zhd.bw {w w':World} {v:Value} {l:List Value} (h:zhd w v l) (hb:Below w.heap.size w w'):zhd w' v l:=
 ⟨h.sl,h.len,λ j hj=>zba hb (h.cell j hj)⟩
def zpp (w:World) (v:Value) (l:List Bool):Prop:=zhd w v (l.map Value.bool)
theorem zpp.bw {w w':World} {v:Value} {l:List Bool} (h:zpp w v l) (hb:Below w.heap.size w w'):zpp w' v l:=zhd.bw h hb
theorem zpp.at' {w:World} {v:Value} {l:List Bool} (h:zpp w v l) (j:Nat) (hj:j<l.length):w.cell? (ptr v j)=some (.bool l[j]):=by
 have:=h.cell j (by simpa using hj);simpa using this
structure MatN (w:World) (v:Value) (m:List (List RF)):Prop where
 sl:zvc v
 len:slen v=m.length
 at':∀ (j:Nat) (h:j<m.length),∃r,w.cell? (ptr v j)=some r/\zlg w r m[j]
theorem MatN.bw {w w':World} {v:Value} {m:List (List RF)} (h:MatN w v m) (hb:Below w.heap.size w w'):MatN w' v m:=
 ⟨h.sl,h.len,λ j hj=>by obtain⟨r,h1,h2⟩:=h.at' j hj;exact⟨r,zba hb h1,h2.bw hb⟩⟩
structure RC where
 rates:List (List RF)
 start:List RF
 lost:List Bool
def qs (l:List RF):List Rat:=l.map RF.q
theorem lsum_qs (l:List RF) (k:Nat) (h:k<l.length):zef (qs (l.take (k+1)))=zef (qs (l.take k))+l[k].q:=by
 rw[zxc l k h];unfold qs;rw[List.map_append];exact zli _ _
def zec (w:World) (e:TypeId) (B:Nat) (v:Value) (n:Nat):Prop:=
 ∃g cs,v= .slice (some ⟨g,0,none⟩) n n/\w.ownsRow B e 3 v n cs/\∀c∈cs,∀z,c≠ .int .u32 z
section
variable {w:World} {e:TypeId} {B n:Nat} {v:Value}
theorem zec.pq (h:zec w e B v n):∃g,∀k,ptr v k=⟨g,k,none⟩:=by
 obtain⟨g,cs,rfl,_⟩:=h;exact⟨g,λ k=>by simp only[ptr,base,Addr.add_lit,Nat.zero_add]⟩
theorem zec.inj (h:zec w e B v n) {i j:Nat} (hij:i≠j):ptr v i≠ptr v j:=by
 obtain⟨g,hg⟩:=h.pq;rw[hg,hg];intro h;injection h with h1 h2;exact hij h2
theorem zec.sl (h:zec w e B v n):zvc v:=by
 obtain⟨g,cs,rfl,h1,_⟩:=h;rcases h1.2 with⟨h',_⟩ | ⟨g',cap,cur,h',_,_,h2,h3,_⟩
 ·cases h'
 ·injection h' with h4 h5 h6
  subst h6;exact⟨_,_,_,rfl,h2,h3,λ e=>by cases e⟩
theorem zec.len (h:zec w e B v n):slen v=n:=by obtain⟨g,cs,rfl,_⟩:=h;rfl
theorem zec.cell (h:zec w e B v n) (j:Nat) (hj:j<n*3):∃x,w.cell? (ptr v j)=some x/\∀z,x≠ .int .u32 z:=by
 obtain⟨g,cs,rfl,h1,h2⟩:=h;have hl:cs.length=n*3:=h1.1;have:=World.ownsRow.cellAt h1 j hj;rw[zGE zO]at this;refine⟨cs[j]' zO,?_,h2 _ (zGM _)⟩;simpa only[ptr,base,Addr.add_lit,Nat.zero_add]using this
theorem zec.frozen (h:zec w e B v n) (j:Nat):w.frozen? (ptr v j)=false:=by
 obtain⟨g,cs,rfl,h1,h2⟩:=h;have:=World.ownsRow.frozenAt h1 j;simpa only[ptr,base,Addr.add_lit,Nat.zero_add]using this
theorem zec.block (h:zec w e B v n):B<=(base v).block/\(base v).block<w.heap.size:=by
 obtain⟨g,cs,rfl,h1,h2⟩:=h;rcases h1.2 with⟨h',_⟩ | ⟨g',cap,cur,h',hb,hg,_⟩
 ·cases h'
 ·injection h' with h4
  injection h4 with h4
  injection h4 with h4
  subst h4;exact⟨hb,(Array.getElem?_eq_some_iff.1 hg).1⟩
theorem zec.bw {w':World} (h:zec w e B v n) (hb:Below w.heap.size w w'):zec w' e B v n:=by
 obtain⟨g,cs,rfl,h1,h2⟩:=h;exact⟨g,cs,rfl,World.ownsRow.kept h1 (zpg hb) (Or.inr (by simp[Value.ownBlock])),h2⟩
theorem zec.mono {B':Nat} (h:zec w e B v n) (hB:B'<=B):zec w e B' v n:=by
 obtain⟨g,cs,rfl,h1,h2⟩:=h;refine⟨g,cs,rfl,⟨h1.1,?_⟩,h2⟩;rcases h1.2 with⟨h',_⟩ | ⟨g',cap,cur,h',hb,rest⟩
 ·cases h'
 ·exact .inr ⟨g',cap,cur,h',zO,rest⟩
theorem zec.set (h:zec w e B v n) (j:Nat) (u:Value) (hu:∀z,u≠ .int .u32 z):zec (w.setCell (ptr v j) u) e B v n/\Below B w (w.setCell (ptr v j) u):=by
 have hbl:=h.block;obtain⟨g,cs,rfl,h1,h2⟩:=h;have hs:=World.ownsRow.stored h1 j u;have hp:ptr (.slice (some ⟨g,0,none⟩) n n) j=⟨g,j,none⟩:=by simp only[ptr,base,Addr.add_lit,Nat.zero_add]
 rw[hp];refine⟨⟨g,_,rfl,hs.1,λ c hc=> ?_⟩,zja hs.2 (by simp only[base]at hbl;omega) (λ k hk=>by simp[base]at hbl hk;omega)⟩;rcases List.mem_or_eq_of_mem_set hc with h' | h'
 ·exact h2 c h'
 ·subst h';exact hu
def zri (w:World) (v:Value) (j:Nat) (q:Rat):Prop:=
 ∃a b,w.cell? (ptr v (j*3))=some (.bool (decide (q<0)))/\w.cell? (ptr v (j*3+1))=some a/\w.cell? (ptr v (j*3+2))=some b/\zub w a q.num.natAbs/\zub w b q.den
theorem zri.bw {w':World} {j:Nat} {q:Rat} (h:zri w v j q) (hb:Below w.heap.size w w'):zri w' v j q:=by
 obtain⟨a,b,h1,h2,h3,h4,h5⟩:=h;exact⟨a,b,zba hb h1,zba hb h2,zba hb h3,h4.bw hb,h5.bw hb⟩
theorem zec.set3 (h:zec w e B v n) (i:Nat) (x y z:Value) (hx:∀k,x≠ .int .u32 k) (hy:∀k,y≠ .int .u32 k) (hz:∀k,z≠ .int .u32 k):
 zec (((w.setCell (ptr v (i*3)) x).setCell (ptr v (i*3+1)) y).setCell (ptr v (i*3+2)) z) e B v n/\
  Below B w (((w.setCell (ptr v (i*3)) x).setCell (ptr v (i*3+1)) y).setCell (ptr v (i*3+2)) z):=by
 have h1:=h.set (i*3) x hx;have h2:=h1.1.set (i*3+1) y hy;have h3:=h2.1.set (i*3+2) z hz;exact⟨h3.1,(h1.2.trans h2.2).trans h3.2⟩
theorem zub.over1 (h:zec w e B v n) {x:Value} {m:Nat} (hx:zub w x m) (j:Nat) (hj:j<n*3) (u:Value):zub (w.setCell (ptr v j) u) x m:=by
 obtain⟨c,h1,h2⟩:=h.cell j hj;exact⟨hx.v.over h1 h2 u,hx.2⟩
theorem zub.over3 (h:zec w e B v n) {c:Value} {m:Nat} (hc:zub w c m) (i:Nat) (hi:i<n) (x y z:Value) (hx:∀k,x≠ .int .u32 k) (hy:∀k,y≠ .int .u32 k):
 zub (((w.setCell (ptr v (i*3)) x).setCell (ptr v (i*3+1)) y).setCell (ptr v (i*3+2)) z) c m:=by
 have h1:=h.set (i*3) x hx;have h2:=h1.1.set (i*3+1) y hy;exact zub.over1 h2.1 (zub.over1 h1.1 (zub.over1 h hc _ zO _) _ zO _) _ zO _
theorem zeg (h:zec w e B v n) (i k:Nat) (hk:k≠i*3) (hk1:k≠i*3+1) (hk2:k≠i*3+2) (x y z:Value):
 (((w.setCell (ptr v (i*3)) x).setCell (ptr v (i*3+1)) y).setCell (ptr v (i*3+2)) z).cell? (ptr v k)=w.cell? (ptr v k):=by
 rw[zCO _ _ _ _ (h.inj (Ne.symm hk2)),zCO _ _ _ _ (h.inj (Ne.symm hk1)),zCO _ _ _ _ (h.inj (Ne.symm hk))]
theorem zri.set3_other (h:zec w e B v n) {i j:Nat} (hi:i<n) (hij:i≠j) {q:Rat} (hj:zri w v j q) (x y z:Value) (hx:∀k,x≠ .int .u32 k) (hy:∀k,y≠ .int .u32 k):
 zri (((w.setCell (ptr v (i*3)) x).setCell (ptr v (i*3+1)) y).setCell (ptr v (i*3+2)) z) v j q:=by
 obtain⟨a,b,h1,h2,h3,h4,h5⟩:=hj;refine⟨a,b,?_,?_,?_,zub.over3 h h4 i hi x y z hx hy,zub.over3 h h5 i hi x y z hx hy⟩
 ·rw[zeg h i _ zO zO zO];exact h1
 ·rw[zeg h i _ zO zO zO];exact h2
 ·rw[zeg h i _ zO zO zO];exact h3
theorem zri.set3 (h:zec w e B v n) {i:Nat} (hi:i<n) {q:Rat} {x y z:Value} (hf:zia w (.agg #[x,y,z]) q):
 zri (((w.setCell (ptr v (i*3)) x).setCell (ptr v (i*3+1)) y).setCell (ptr v (i*3+2)) z) v i q:=by
 obtain⟨a,b,ha,h4,h5⟩:=hf;injection ha with ha
 injection ha with ha
 simp only[List.cons.injEq,and_true]at ha;obtain⟨rfl,rfl,rfl⟩:=ha;have nx:∀k,Value.bool (decide (q<0))≠ .int .u32 k:=λ k=>by simp
 have ny:∀k,y≠ .int .u32 k:=λ k=>by obtain⟨a1,n1,c1,e1,_⟩:=h4.v.sl;subst e1;simp
 obtain⟨c0,d0,_⟩:=h.cell (i*3) zO;obtain⟨c1,d1,_⟩:=h.cell (i*3+1) zO;obtain⟨c2,d2,_⟩:=h.cell (i*3+2) zO;have n01:=h.inj (show i*3≠i*3+1 by omega);have n02:=h.inj (show i*3≠i*3+2 by omega);have n12:=h.inj (show i*3+1≠i*3+2 by omega);refine⟨y,z,?_,?_,?_,zub.over3 h h4 i hi _ _ _ nx ny,zub.over3 h h5 i hi _ _ _ nx ny⟩
 ·rw[zCO _ _ _ _ n02.symm,zCO _ _ _ _ n01.symm];exact World.cell?_setCell_same _ _ _ d0
 ·rw[zCO _ _ _ _ n12.symm];exact World.cell?_setCell_same _ _ _ (u:=c1) (by rw[zCO _ _ _ _ n01];exact d1)
 ·exact World.cell?_setCell_same _ _ _ (u:=c2) (by rw[zCO _ _ _ _ n12,zCO _ _ _ _ n02];exact d2)
end
theorem zjr {P:Program} (t e:TypeId) (i:TypeInfo) (h1:P.underlying t=some (.slice e)) (h2:P.info? e=some i) (h3:i.zero=some (.agg #[.bool false, .slice none 0 0, .slice none 0 0])) (h4:i.size=3) (h5:i.bytes<=64)
 (w:World) {ops:Array Oper} {rest:List Oper} {o:Oper} {a:Act} {Q:Exit->Act->World->Prop} (hg:o.guard=none) (l c:Operand) (hop:o.op=Op.makeSlice t l c)
 (B:Nat) (u:Int) (n:Nat) (hu:u=n) (hl:a.eval l= .int .i64 u) (hc:a.eval c= .int .i64 u) (b2:n<=4398046511104) (b4:B<=w.heap.size)
 (hK:∀v w',zec w' e B v n->Below w.heap.size w w'->w.heap.size<=(base v).block->wpList P ops Q rest (a.put o.dst v) w'):
 wpList P ops Q (o::rest) a w:=by
 subst hu;refine wpList_make_full w hg l c t hop B e i _ 3 h1 h2 h3 h4 .i64 .i64 n n n hl hc rfl rfl (zLT (zMR _ h5) zO) (by unfold maxLen;omega) b4 ?_;intro w' hown hgr;refine hK _ w' ⟨_,_,rfl,hown,λ x hx z=> ?_⟩ (zja hgr (zLR _) (λ k hk=>by cases hk)) (by simp[base]);have hx2:x∈(madeCells #[Value.bool false, .slice none 0 0, .slice none 0 0] (n*3)).toList:=hx;unfold madeCells at hx2;simp only[Array.toList_map,List.mem_map,Array.mem_toList_iff]at hx2;obtain⟨k,hk,rfl⟩:=hx2;have h7:k%3<3:=zML2 _ zD;have h8:(#[Value.bool false, .slice none 0 0, .slice none 0 0]:Array Value).size=3:=rfl;rw[h8];rcases(show k%3=0\/k%3=1\/k%3=2 by omega)with h9 | h9 | h9<;>rw[h9]<;>simp
def zrb (w:World) (v:Value):Prop:=∀g,v.ownBlock=some g->∀cur e fz,w.heap[g]? =some (.cells cur e fz)->∀c∈cur.toList,∀z,c≠ .int .u32 z
theorem zrb.nil (w:World):zrb w (.slice none 0 0):=λ g h=>by cases h
theorem ztk {z:Array Value} {n:Nat} {c:Value} (h:c∈(Builtin.zeroCells z n).toList):c∈z.toList:=by
 unfold Builtin.zeroCells at h;simp at h;obtain⟨a,h1,h2⟩:=h;have hz:0<z.size:=zPZ (λ h=>by rw[h]at h1;omega);rw[getElem!_pos z (a%z.size) (zML2 _ hz)]at h2;rw[<-h2];simp
theorem zid {P:Program} (w:World) (B:Nat) (t ty e:TypeId) (i:TypeInfo) (z:Value) (size bytes:Nat) (ht:P.underlying t=some (.slice e)) (hi:P.info? e=some i) (hz:i.zero=some z)
 (hsize:i.size=size) (hby:i.bytes=bytes) (hzs:z.cells.size=size) (hsz:0<size)
 (v:Value) (n:Nat) (xs:List Value) (hown:w.ownsRow B e size v n xs) (a:Addr) (m c:Nat) (news:List Value) (hl:news.length=m*size)
 (hnews:∀j u,news[j]? =some u->w.cell? (a.add j)=some u) (h1:∀u∈news,u.oneCell'=true)
 (h63:n+m<=maxLen) (hbytes:(n+m)*bytes<=140737488355328) (hbase:B<=w.heap.size)
 (hnl:zrb w v) (hnn:∀c∈news,∀z,c≠ .int .u32 z) (hnz:∀c∈z.cells.toList,∀z,c≠ .int .u32 z):
 ∃v' w',(Builtin.append_ #[t,t] ty #[v, .slice (some a) m c]).run P w= .ok v' w'/\w'.ownsRow B e size v' (n+m) (xs++news)/\w.grownBy w' v.ownBlock/\
  (v'.ownBlock=v.ownBlock\/v'.ownBlock=some w.heap.size)/\zrb w' v':=by
 obtain⟨v',w',h2,h3,h4,_⟩:=run_append_own (P:=P) w B t ty e i z size bytes ht hi hz hsize hby hzs hsz v n xs hown a m c news hl hnews h1 h63 hbytes hbase;refine⟨v',w',h2,h3,h4,?_⟩
 have fresh:∀ (cs:Array Value) (k kc:Nat),(∀c∈cs.toList,∀z,c≠ .int .u32 z)->zrb (w.drew.alloc (.cells cs e)) (.slice (some ⟨w.heap.size,0,none⟩) k kc):=by
  intro cs k kc h g' hg' cur' e' fz' hc' c hc;simp only[Value.ownBlock,Option.some.injEq]at hg';subst hg';rw[show(w.drew.alloc (.cells cs e)).heap[w.heap.size]? =some (.cells cs e (0,0))from heap_alloc_new w.drew _]at hc';injection hc' with hc'
  injection hc' with hc' _
  subst hc';exact h c hc
 have hsmall:n+m<=9223372036854775807:=by simp only[maxLen]at h63;omega
 rcases hown.2 with⟨rfl,rfl⟩ | ⟨g,cap,cur,rfl,hbg,hg,hnc,hcm,hcs,htake⟩
 ·have hx:xs= []:=List.eq_nil_of_length_eq_zero (by simpa using hown.1);subst hx;by_cases hm:m=0
  ·subst hm;refine(λ h=>⟨Or.inl (by rw[h]),by rw[h];exact zrb.nil _⟩:v'= .slice none 0 0->_) ?_;rcases h3.2 with⟨rfl,_⟩ | ⟨g,cap,cur,rfl,_,_,h5,_⟩
   ·rfl
   ·exfalso;have hn:news= []:=List.eq_nil_of_length_eq_zero (by simpa using hl);subst hn
    have hr:(Builtin.append_ #[t,t] ty #[.slice none 0 0, .slice (some a) 0 c]).run P w= .ok (.slice none 0 0) w:=by
     simp[Builtin.append_,run_underlying ht,sizeOf,typeInfo,hi,Builtin.lenOf,Builtin.firstCells,loadCells,loadCellsFrom]
    rw[hr]at h2;(injection h2 with h2 _);cases h2
  ·have hr:=run_append_nil (P:=P) w t ty e i z ht hi hz a m c news (by rw[hl,hsize]) hnews zO zO (by rw[hby];have hb:=hbytes;simp only[Nat.zero_add]at hb;omega);rw[hr]at h2;(injection h2 with h2 h2w);refine⟨Or.inr (by rw[<-h2];rfl),?_⟩;rw[<-h2,<-h2w]
   exact fresh _ _ _ (λ c hc=>by
    simp only[Array.toList_append,List.mem_append]at hc;rcases hc with h | h
    ·exact hnn c h
    ·exact hnz c (ztk h))
 ·by_cases hroom:n+m<=cap
  ·(have hfit:n*i.size+news.length<=cur.size:=by rw[hl,hcs,hsize,<-Nat.add_mul];exact zMR _ hroom);have hr:=run_append_room (P:=P) w t ty e i ht hi g n cap cur hg a m c news (by rw[hl,hsize]) hnews h1 hroom hfit;rw[hr]at h2;(injection h2 with h2 h2w);refine⟨Or.inl (by rw[<-h2];rfl),?_⟩;rw[<-h2,<-h2w];intro g' hg' cur' e' fz' hc' c hc;simp only[Value.ownBlock,Option.some.injEq]at hg';subst hg';rw[setRow_heap w g cur _ e _ hg]at hc';(injection hc' with hc');(injection hc' with hc' _);subst hc';have hcc:=hnl g rfl cur e _ hg;simp only[List.mem_append]at hc;rcases hc with(h | h) | h
   ·exact hcc c (List.mem_of_mem_take h)
   ·exact hnn c h
   ·exact hcc c (List.mem_of_mem_drop h)
  ·have holds:∀j u,xs[j]? =some u->w.cell? ((⟨g,0,none⟩:Addr).add j)=some u:=hown.cells (g:=g) rfl;have hr:=run_append_grow (P:=P) w t ty e i z ht hi hz ⟨g,0,none⟩ n cap xs (by rw[hown.1,hsize]) holds a m c news (by rw[hl,hsize]) hnews zO zO (growslice_fits zO (by rw[hby];exact hbytes));rw[hr]at h2;(injection h2 with h2 h2w);refine⟨Or.inr (by rw[<-h2];rfl),?_⟩;rw[<-h2,<-h2w];have hcc:=hnl g rfl cur e _ hg;rw[<-htake]
   exact fresh _ _ _ (λ c hc=>by
    simp only[Array.toList_append,List.mem_append]at hc;rcases hc with(h | h) | h
    ·exact hcc c (List.mem_of_mem_take h)
    ·exact hnn c h
    ·exact hnz c (ztk h))
structure zkc (w:World) (e:TypeId) (B size:Nat) (v:Value) (n:Nat) (xs:List Value):Prop where
 own:w.ownsRow B e size v n xs
 nl:zrb w v
section
variable {w:World} {e:TypeId} {B size n:Nat} {v:Value} {xs:List Value}
theorem zkc.nil (w:World) (e:TypeId) (B size:Nat):zkc w e B size (.slice none 0 0) 0 []:=⟨World.ownsRow_nil w B e size,zrb.nil _⟩
theorem zkc.sl (h:zkc w e B size v n xs):zvc v:=by
 rcases h.own.2 with⟨rfl,h0⟩ | ⟨g,cap,cur,rfl,hb,hg,hn,hm,hs,ht⟩
 ·exact zvc.nil
 ·exact⟨_,_,_,rfl,hn,hm,λ e=>by cases e⟩
theorem zkc.len (h:zkc w e B size v n xs):slen v=n:=by
 rcases h.own.2 with⟨rfl,h0⟩ | ⟨g,cap,cur,rfl,hb,hg,hn,hm,hs,ht⟩
 ·rw[h0];rfl
 ·rfl
theorem zkc.clen (h:zkc w e B size v n xs):xs.length=n*size:=h.own.1
theorem zkc.cell (h:zkc w e B size v n xs) (j:Nat) (hj:j<xs.length):w.cell? (ptr v j)=some xs[j]:=by
 have hl:=h.own.1;obtain⟨ho,_⟩:=h;rcases ho.2 with⟨rfl,h0⟩ | ⟨g,cap,cur,rfl,hb,hg,hn,hm,hs,ht⟩
 ·rw[h0]at hl;omega
 ·have:=World.ownsRow.cellAt ho j zO;simp only[ptr,base,Addr.add_lit,Nat.zero_add];rw[this,zGE hj]
theorem zkc.grown {w':World} {row:Option Nat} (h:zkc w e B size v n xs) (hg:w.grownBy w' row) (hne:v.ownBlock=none\/v.ownBlock≠row):zkc w' e B size v n xs:=by
 refine⟨World.ownsRow.kept h.own hg hne,λ g hgv cur e' fz hc c hcc=> ?_⟩;have hlt:=(World.ownsRow.lt h.own g hgv).2
 rw[hg.block g hlt (by rw[<-hgv];rcases hne with h1 | h1;· rw[h1]at hgv;cases hgv
                       ·exact h1)]at hc
 exact h.nl g hgv cur e' fz hc c hcc
theorem zkc.bw {w':World} (h:zkc w e B size v n xs) (hb:Below w.heap.size w w'):zkc w' e B size v n xs:=
 h.grown (zpg hb) (by cases hv:v.ownBlock<;>simp)
theorem zkc.block (h:zkc w e B size v n xs):∀k,v.ownBlock=some k->B<=k/\k<w.heap.size:=World.ownsRow.lt h.own
theorem ztc.grownR {w':World} {row:Option Nat} {x:Value} {l:List Nat} (h:ztc w x l) (hg:w.grownBy w' row) (hn:∀v,v.ownBlock=row->zrb w v):ztc w' x l:=by
 refine⟨h.sl,h.len,λ j hj=> ?_,h.lm⟩;have hc:=h.cell j hj;refine hg.cell hc (λ e=> ?_);have h2:=hn (.slice (some ⟨(ptr x j).block,0,none⟩) 0 0) (by rw[<-e];rfl) (ptr x j).block rfl;unfold World.cell? at hc;split at hc
 ·rename_i cur e' fz hh
  split at hc
  ·cases hc
  ·exact h2 cur e' fz hh _ (by have:=Array.mem_of_getElem? hc;simpa using this) _ rfl
 ·cases hc
theorem zrb.any {v u:Value} (h:zrb w v) (he:u.ownBlock=v.ownBlock):zrb w u:=λ g hg=>h g (by rw[<-he];exact hg)
theorem zub.grown {w':World} {x:Value} {m:Nat} (h:zub w x m) (hg:w.grownBy w' v.ownBlock) (hn:zrb w v):zub w' x m:=⟨h.1.grownR hg (λ u hu=>hn.any hu),h.2⟩
theorem zia.grown {w':World} {x:Value} {q:Rat} (h:zia w x q) (hg:w.grownBy w' v.ownBlock) (hn:zrb w v):zia w' x q:=by
 obtain⟨a,b,rfl,h1,h2⟩:=h;exact⟨a,b,rfl,h1.grown hg hn,h2.grown hg hn⟩
end
theorem zzh {P:Program} (w0:World) {ops:Array Oper} {rest:List Oper} {o:Oper} {a:Act} {Q:Exit->Act->World->Prop} (hgd:o.guard=none) (s x:Operand) (t:TypeId)
 (ho:o.op= .call { callee:= .builtin .append,args:=#[s,x],argTypes:=#[t,t] })
 (B:Nat) (e e':TypeId) (i:TypeInfo) (z:Value) (size bytes:Nat) (ht:P.underlying t=some (.slice e)) (hi:P.info? e=some i) (hz:i.zero=some z)
 (hsize:i.size=size) (hby:i.bytes=bytes) (hzs:z.cells.size=size) (hsz:0<size) (hnz:∀c∈z.cells.toList,∀z,c≠ .int .u32 z)
 (v:Value) (n:Nat) (xs:List Value) (hs:a.eval s=v) (hown:zkc w0 e B size v n xs) (news:Array Value) (hns:news.size=size) (hxe:a.eval x= .slice (some ⟨w0.heap.size,0,none⟩) 1 1)
 (h1:∀u∈news.toList,u.oneCell'=true) (hnn:∀c∈news.toList,∀z,c≠ .int .u32 z)
 (h63:n+1<=maxLen) (hbytes:(n+1)*bytes<=140737488355328) (hbase:B<=w0.heap.size)
 (h:∀v' w',zkc w' e B size v' (n+1) (xs++news.toList)->w0.grownBy w' v.ownBlock->(v'.ownBlock=v.ownBlock\/v'.ownBlock=some (w0.heap.size+1))->wpList P ops Q rest (a.put o.dst v') w'):
 wpList P ops Q (o::rest) a (w0.alloc (.cells news e')):=by
 refine wpList_plain hgd λ K hK=> ?_
 have hg0:=World.grownBy_alloc w0 (.cells news e') (v.ownBlock);have hown1:=hown.bw (zca w0 (.cells news e'))
 obtain⟨v',w',hr,h2,h3,h4,h5⟩:=zid (P:=P) (w0.alloc (.cells news e')) B t o.type e i z size bytes ht hi hz hsize hby hzs hsz v n xs hown1.own ⟨w0.heap.size,0,none⟩ 1 1 news.toList (by simp[hns])
  (λ j u hu=>by
   have hc:=cell_of_row (w0.alloc (.cells news e')) w0.heap.size j news e' (0,0) (heap_alloc_new w0 _);rw[Addr.add_lit,Nat.zero_add,hc];simpa using hu) h1 h63 hbytes (by simp;omega) hown1.nl hnn hnz
 unfold Oper.wp execOp;simp only[ho,resolve,invoke,builtin,Sem.run_bind,Sem.run_pure,Result.andThen_ok,List.map_toArray,List.map_cons,List.map_nil,hs,hxe,hr];exact hK _ _ (h v' w' ⟨h2,h5⟩ (zod hg0 h3) (by simpa using h4))
end Go.Proofs.YtlpdkbmmbdfoiaaGreat
