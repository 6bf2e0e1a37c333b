/- Lemmas. -/
import Derived.Test.YtkpedaflofejnaaGreatMRb3
set_option linter.unusedVariables false
set_option linter.unusedSimpArgs false
namespace Go.Proofs.YtkpedaflofejnaaGreat
open Go.RowKit
theorem zyd {d:Nat}:0<zda d↔d≠0:=by
 constructor
 ·intro h e;subst e;have:=zqa.2 (rfl:(0:Nat)=0);omega
 ·intro h;have :zda d≠0:=λ e=>h (zqa.1 e);omega
theorem okN_iff (n d:Nat):okN n d↔0<zda d/\zda d<=128/\zda n<=128:=by
 constructor
 ·intro h;exact⟨zyd.2 h.1,zqc (k:=128) h.2.1,zqc (k:=128) h.2.2⟩
 ·intro h;exact⟨zyd.1 h.1,zfg (k:=128) h.2.1,zfg (k:=128) h.2.2⟩
set_option maxHeartbeats 800000 in
theorem znn (v:Value) (s:Bool) (n d:Nat) (w:World) (h:zjc w v s n d):
 Calls Tryz.prog 34 #[v] w λ e w'=>e= .returned (.bool (decide (okN n d)))/\Below w.heap.size w w':=by
 obtain⟨a,b,rfl,ha,hb⟩:=h;obtain⟨aa,al,ak,rfl,_⟩:=id ha.slen.1;obtain⟨ba,bl,bk,rfl,_⟩:=id hb.slen.1;have hbx:=zba w (.cells #[.bool s, .slice aa al ak, .slice ba bl bk] 53);have hC:=C3.new w 53 (.bool s) (.slice aa al ak) (.slice ba bl bk);have HC:=zH hC;have HA:=zH (ha.bw hbx);have HB:=zH (hb.bw hbx);have HO:=zH (okN_iff n d);obtain⟨D,hD⟩:∃D,zda d=D:=⟨_,rfl⟩;obtain⟨M,hM⟩:∃M,zda n=M:=⟨_,rfl⟩;have HD:=zH hD;have HM:=zH hM;obtain⟨_,c0,c1,c2,_,_,_⟩:=id hC;clear hC ha hb hD hM
 have HOB:zI (decide (okN n d)=(decide (0<D)&&(decide (D<=128)&&decide (M<=128)))):=zH (by
  rw[Bool.eq_iff_iff];simp only[Bool.and_eq_true,decide_eq_true_eq];rw[HO.o,HD.o,HM.o])
 by_cases g1:0<D
 ·by_cases g2:D<=128
  ·skip
   go_enter Tryz.func34,Tryz.ntmps34
   go_wp2_with (first
    |(go_at_call 89;(with_reducible refine(zoa _ d _ HB.o).mono ?_);rintro e1 w1 ⟨r1,rfl,hr1,hb1⟩;have s1:=hr1.v.sl;have l1:slen r1=D:=hr1.v.len.trans HD.o;have hbb:=zaa hbx hb1;obtain⟨_,c0,c1,c2,_,_,_⟩:=HC.o.bS hb1)
    |(go_at_call 89;(with_reducible refine(zoa _ d _ (HB.o.bw hb1)).mono ?_);rintro e2 w2 ⟨r2,rfl,hr2,hb2⟩;have s2:=hr2.v.sl;have l2:slen r2=D:=hr2.v.len.trans HD.o;have hb12:=zaa hb1 hb2;have hbb:=zaa hbx hb12;obtain⟨_,c0,c1,c2,_,_,_⟩:=HC.o.bS hb12)
    |(go_at_call 89;(with_reducible refine(zoa _ n _ (HA.o.bw hb12)).mono ?_);rintro e3 w3 ⟨r3,rfl,hr3,hb3⟩;have s3:=hr3.v.sl;have l3:slen r3=M:=hr3.v.len.trans HM.o;have hbb:=zaa hbb hb3))
   go_ret;refine⟨?_,hbb⟩;rw[HOB.o];simp[g1,g2];omega
  ·skip
   go_enter Tryz.func34,Tryz.ntmps34
   go_wp2_with (first
    |(go_at_call 89;(with_reducible refine(zoa _ d _ HB.o).mono ?_);rintro e1 w1 ⟨r1,rfl,hr1,hb1⟩;have s1:=hr1.v.sl;have l1:slen r1=D:=hr1.v.len.trans HD.o;have hbb:=zaa hbx hb1;obtain⟨_,c0,c1,c2,_,_,_⟩:=HC.o.bS hb1)
    |(go_at_call 89;(with_reducible refine(zoa _ d _ (HB.o.bw hb1)).mono ?_);rintro e2 w2 ⟨r2,rfl,hr2,hb2⟩;have s2:=hr2.v.sl;have l2:slen r2=D:=hr2.v.len.trans HD.o;have hb12:=zaa hb1 hb2;have hbb:=zaa hbx hb12;obtain⟨_,c0,c1,c2,_,_,_⟩:=HC.o.bS hb12)
    |(go_at_call 89;(with_reducible refine(zoa _ n _ (HA.o.bw hb12)).mono ?_);rintro e3 w3 ⟨r3,rfl,hr3,hb3⟩;have s3:=hr3.v.sl;have l3:slen r3=M:=hr3.v.len.trans HM.o;have hbb:=zaa hbb hb3))
   go_ret;refine⟨?_,hbb⟩;rw[HOB.o];simp[g1,g2]
 ·skip
  go_enter Tryz.func34,Tryz.ntmps34
  go_wp2_with (first
   |(go_at_call 89;(with_reducible refine(zoa _ d _ HB.o).mono ?_);rintro e1 w1 ⟨r1,rfl,hr1,hb1⟩;have s1:=hr1.v.sl;have l1:slen r1=D:=hr1.v.len.trans HD.o;have hbb:=zaa hbx hb1;obtain⟨_,c0,c1,c2,_,_,_⟩:=HC.o.bS hb1)
   |(go_at_call 89;(with_reducible refine(zoa _ d _ (HB.o.bw hb1)).mono ?_);rintro e2 w2 ⟨r2,rfl,hr2,hb2⟩;have s2:=hr2.v.sl;have l2:slen r2=D:=hr2.v.len.trans HD.o;have hb12:=zaa hb1 hb2;have hbb:=zaa hbx hb12;obtain⟨_,c0,c1,c2,_,_,_⟩:=HC.o.bS hb12)
   |(go_at_call 89;(with_reducible refine(zoa _ n _ (HA.o.bw hb12)).mono ?_);rintro e3 w3 ⟨r3,rfl,hr3,hb3⟩;have s3:=hr3.v.sl;have l3:slen r3=M:=hr3.v.len.trans HM.o;have hbb:=zaa hbb hb3))
  go_ret;refine⟨?_,hbb⟩;rw[HOB.o];simp[g1]
theorem zxk (v:Value) (s:Bool) (n d:Nat) (w:World) (h:zjc w v s n d) (hk:okN n d):
 Calls Tryz.prog 34 #[v] w λ e w'=>e= .returned (.bool true)/\Below w.heap.size w w':=
 (znn v s n d w h).mono λ e w' ⟨h1,h2⟩=>⟨by rw[h1,zDT hk],h2⟩
theorem r2valid_no (v:Value) (s:Bool) (n d:Nat) (w:World) (h:zjc w v s n d) (hk:¬okN n d):
 Calls Tryz.prog 34 #[v] w λ e w'=>e= .returned (.bool false)/\Below w.heap.size w w':=
 (znn v s n d w h).mono λ e w' ⟨h1,h2⟩=>⟨by rw[h1,zDF hk],h2⟩
set_option maxHeartbeats 1600000
theorem fits_nlen (q:Rat):fits q↔zda q.num.natAbs<=128/\zda q.den<=128:=
 ⟨λ h=>⟨zqc (k:=128) h.1,zqc (k:=128) h.2⟩,λ h=>⟨zfg (k:=128) h.1,zfg (k:=128) h.2⟩⟩
theorem r2large_any (v:Value) (q:Rat) (w:World) (h:zna w v q) (b:Bool) (hf:b=true↔¬fits q):
 Calls Tryz.prog 130 #[v] w λ e w'=>e= .returned (.bool b)/\Below w.heap.size w w':=by
 obtain⟨a,c,rfl,ha,hc⟩:=h;have hn:=fits_nlen q;obtain⟨aa,al,ak,rfl,_⟩:=id ha.v.sl;obtain⟨ba,bl,bk,rfl,_⟩:=id hc.v.sl;have e1:al=zda q.num.natAbs:=ha.v.len;have e2:bl=zda q.den:=hc.v.len;rw[<-e1,<-e2]at hn
 have HF:zI (b=decide (128<al\/128<bl)):=zH (by
  by_cases h9:128<al\/128<bl
  ·rw[zDT h9];exact hf.2 (λ h=>by have:=hn.1 h;omega)
  ·rw[zDF h9];exact Bool.eq_false_iff.2 (λ h=>hf.1 h (hn.2 zO)))
 have hbx:=zba w (.cells #[.bool (decide (q<0)), .slice aa al ak, .slice ba bl bk] 53);have hC:=C3.new w 53 (.bool (decide (q<0))) (.slice aa al ak) (.slice ba bl bk);obtain⟨_,c0,c1,c2,_,_,_⟩:=id hC;clear hC hf hn e1 e2;by_cases g1:128<al
 ·go_enter Tryz.func130,Tryz.ntmps130;go_wp2_with fail;go_ret;refine⟨?_,hbx⟩;rw[HF.o];simp[g1]
 ·go_enter Tryz.func130,Tryz.ntmps130;go_wp2_with fail;go_ret;refine⟨?_,hbx⟩;rw[HF.o];simp[g1];rw[zDF zO,Bool.false_or];by_cases g2:128<bl
  ·rw[zDT g2,zDT zO]
  ·rw[zDF g2,zDF zO]
theorem r2fits_yes (v:Value) (q:Rat) (w:World) (h:zna w v q) (hf:fits q):Calls Tryz.prog 87 #[v] w (zcm w q):=
 (zjp v q w h hf).mono λ e w' ⟨v',he,hv,hb⟩=>⟨v',0,he,hb,λ _=>⟨rfl,hv⟩,λ h=>absurd hf h⟩
theorem r2fits_no (v:Value) (q:Rat) (w:World) (h:zna w v q) (hf:¬fits q):Calls Tryz.prog 87 #[v] w (zcm w q):=by
 obtain⟨a,b,rfl,ha,hb⟩:=id h;obtain⟨aa,al,ak,rfl,_⟩:=id ha.v.sl;obtain⟨ba,bl,bk,rfl,_⟩:=id hb.v.sl;have hbx:=zba w (.cells #[.bool (decide (q<0)), .slice aa al ak, .slice ba bl bk] 53);have hb2:=zba (w.alloc (.cells #[.bool (decide (q<0)), .slice aa al ak, .slice ba bl bk] 53)) (.cells #[.bool false, .slice none 0 0, .slice none 0 0] 53);have hC:=(C3.new w 53 (.bool (decide (q<0))) (.slice aa al ak) (.slice ba bl bk)).bS hb2;have hR:=C3.newB (b:=w.heap.size+1) (w.alloc (.cells #[.bool (decide (q<0)), .slice aa al ak, .slice ba bl bk] 53)) 53 (.bool false) (.slice none 0 0) (.slice none 0 0) (by simp);have HC:=zH hC;have HR:=zH hR;have HF:=zH hf;have HQ:=zH ((h.bw hbx).bw hb2);have hbb:=zaa hbx hb2;obtain⟨_,c0,c1,c2,_,_,_⟩:=id hC;clear hC hR hf h ha hb;go_enter Tryz.func87,Tryz.ntmps87;go_wp2_with (go_at_call 130;(with_reducible refine(r2large_any _ q _ HQ.o true ⟨λ _=>HF.o,λ _=>rfl⟩).mono ?_);rintro e1 w1 ⟨rfl,hb1⟩;obtain⟨_,c0,c1,c2,_,_,_⟩:=HC.o.bS hb1;have HR1:=zH (HR.o.bS hb1);obtain⟨_,d0,d1,d2,d3,d4,d5⟩:=HR1.o);refine zka rfl rfl Tryz.aggF Tryz.sizeF (HR1.o.set _ _ _) rfl ?_;exact⟨_,_,rfl,zea (zaa hbb hb1) (zLS _) _ _ _,λ h=>absurd h HF.o,λ _=>⟨rfl,rfl⟩⟩
theorem zzk (v:Value) (q:Rat) (w:World) (h:zna w v q):Calls Tryz.prog 87 #[v] w (zcm w q):=by
 by_cases hf:fits q
 ·exact r2fits_yes v q w h hf
 ·exact r2fits_no v q w h hf
theorem zuh (va:Value) (s:Bool) (n d:Nat) (w:World) (ha:zjc w va s n d):
 Calls Tryz.prog 112 #[va] w (RRed w s n d):=by
 have hA:=ha;obtain⟨xn,xd,rfl,hxn,hxd⟩:=ha;obtain⟨an,ln,kn,rfl,_⟩:=hxn.slen.1;obtain⟨ad,ld,kd,rfl,_⟩:=hxd.slen.1;go_enter Tryz.func112,Tryz.ntmps112;go_wp2_with fail;obtain⟨W,hW⟩:∃W,W=((w.alloc (.cells #[.bool s, .slice an ln kn, .slice ad ld kd] 53)).alloc (.cells #[.bool false, .slice none 0 0, .slice none 0 0] 53)):=⟨_,rfl⟩;obtain⟨bx,bz,hbw⟩:=zkh w 53 _ _ _ _ _ _ W hW;rw[<-hW];clear hW;have HBX:=zH bx;have HBZ:=zH bz;obtain⟨_,q1,q2,q3,q4,q5,q6⟩:=bx;clear bz;by_cases hk:okN n d
 ·have K:=zH hk;have NN:=zH (zLT (zqc (n:=n) (k:=128) hk.2.2) (show 128<=512 by decide));have ND:=zH (zLT (zqc (n:=d) (k:=128) hk.2.1) (show 128<=512 by decide));have D0:=zH hk.1;clear hk
  go_wp2_with (first
   |(go_at_call 34;(with_reducible refine(zxk _ s n d _ (hA.bw hbw) K.o).mono ?_);rintro e9 w1 ⟨rfl,hv1⟩;obtain⟨_,f1,f2,f3,f4,f5,f6⟩:=HBX.o.bS hv1;have hbw1:=zaa hbw hv1)
   |(go_at_call 80;(with_reducible refine(zxd s _ _ n d _ (hxn.bw hbw1) (hxd.bw hbw1) D0.o NN.o ND.o).mono ?_);rintro e9 w7 ⟨v,rfl,hv4,hv5⟩;obtain⟨t9,a1,l91,k1,a2,l92,k2,rfl⟩:=hv4.iF;have hC:=(HBZ.o.bS hv1).bS hv5;have HC:=zH hC;have hbz:=zaa hbw1 hv5;obtain⟨_,d0,d1,d2,e0,e1,e2⟩:=hC))
  refine zka rfl rfl Tryz.aggF Tryz.sizeF (HC.o.set _ _ _) rfl ?_;exact⟨_,_,rfl,zea hbz zO _ _ _,λ h=>⟨rfl,hv4.set3 HC.o zZ zZ _ _ _⟩,λ h=>absurd K.o h⟩
 ·have K:=zH hk;clear hk
  go_wp2_with (first
   |(go_at_call 34;(with_reducible refine(r2valid_no _ s n d _ (hA.bw hbw) K.o).mono ?_);rintro e9 w1 ⟨rfl,hv1⟩;have hC:=HBZ.o.bS hv1;have HC:=zH hC;have hbz:=zaa hbw hv1;obtain⟨_,d0,d1,d2,e0,e1,e2⟩:=hC))
  refine zka rfl rfl Tryz.aggF Tryz.sizeF (HC.o.set _ _ _) rfl ?_;exact⟨_,_,rfl,zea hbz zO _ _ _,λ h=>absurd h K.o,λ _=>⟨rfl,rfl⟩⟩
theorem rcmp_ge0 (va vb:Value) (m n:Nat) (w:World) (ha:zwb w va m) (hb:zwb w vb n) (h:n<=m):
 Calls Tryz.prog 91 #[va,vb] w λ e w'=>(∃c:Int,e= .returned (.int .i64 c)/\decide (0<=c)=true)/\Below w.heap.size w w':=
 (zye va vb m n w ha hb).mono λ _ _ ⟨a,b⟩=>⟨⟨_,a,by unfold zjl;rw[zIN zO];split<;>rfl⟩,b⟩
theorem rcmp_lt0 (va vb:Value) (m n:Nat) (w:World) (ha:zwb w va m) (hb:zwb w vb n) (h:m<n):
 Calls Tryz.prog 91 #[va,vb] w λ e w'=>(∃c:Int,e= .returned (.int .i64 c)/\decide (0<=c)=false)/\Below w.heap.size w w':=
 (zye va vb m n w ha hb).mono λ _ _ ⟨a,b⟩=>⟨⟨_,a,by rw[zdi h];rfl⟩,b⟩
set_option maxRecDepth 100000 in
theorem r2add_any (va vb:Value) (s t:Bool) (n d m e:Nat) (w:World) (ha:zjc w va s n d) (hb:zjc w vb t m e) (h1:okN n d) (h2:okN m e):
 Calls Tryz.prog 28 #[va,vb] w (zcm w (fq s n d+fq t m e)):=by
 have hA:=ha;have hB:=hb;obtain⟨xn,xd,rfl,hxn,hxd⟩:=ha;obtain⟨yn,yd,rfl,hyn,hyd⟩:=hb;obtain⟨an,ln,kn,rfl,_⟩:=hxn.slen.1;obtain⟨ad,ld,kd,rfl,_⟩:=hxd.slen.1;obtain⟨am,lm,km,rfl,_⟩:=hyn.slen.1;obtain⟨ae,le,ke,rfl,_⟩:=hyd.slen.1;have K1:=zH h1;have K2:=zH h2;clear h1 h2;go_enter Tryz.func28,Tryz.ntmps28;go_wp2_with fail;obtain⟨W,hW⟩:∃W,W=(((w.alloc (.cells #[.bool s, .slice an ln kn, .slice ad ld kd] 53)).alloc (.cells #[.bool t, .slice am lm km, .slice ae le ke] 53)).alloc (.cells #[.bool false, .slice none 0 0, .slice none 0 0] 53)):=⟨_,rfl⟩;obtain⟨bx,byy,bz,hbw⟩:=zle w 53 _ _ _ _ _ _ _ _ _ W hW;rw[<-hW];clear hW;have HBX:=zH bx;have HBY:=zH byy;have HBZ:=zH bz;obtain⟨_,q1,q2,q3,q4,q5,q6⟩:=bx;obtain⟨_,r1,r2,r3,r4,r5,r6⟩:=byy
 go_wp2_with (first
  |(go_at_call 34;first
    |((with_reducible refine(zxk _ s n d _ (hA.bw hbw) K1.o).mono ?_);rintro e9 w1 ⟨rfl,hv1⟩
      obtain⟨_,f1,f2,f3,f4,f5,f6⟩:=HBY.o.bS hv1;have hbw1:=hbw.trans (hv1.mono hbw.size))
    |((with_reducible refine(zxk _ t m e _ (hB.bw hbw1) K2.o).mono ?_);rintro e9 w2 ⟨rfl,hv2⟩
      have hbx2:=(HBX.o.bS hv1).bS hv2;have hby2:=(HBY.o.bS hv1).bS hv2;have hbz2:=(HBZ.o.bS hv1).bS hv2;have hbw2:=hbw1.trans (hv2.mono hbw1.size))))
 clear q1 q2 q3 q4 q5 q6 r1 r2 r3 r4 r5 r6 f1 f2 f3 f4 f5 f6;have hd2:=zha (B:=w2.heap.size) w2;have hD:=hbw2.trans (hd2.mono hbw2.size);have hbx3:=hbx2.bS hd2;have hby3:=hby2.bS hd2;have hbz3:=hbz2.bS hd2;clear hbx2 hby2 hbz2 hbw2 hv1 hv2 hbw hbw1 HBX HBY HBZ bz hd2;have HX3:=zH hbx3;have HY3:=zH hby3;have HZ3:=zH hbz3;obtain⟨_,q1,q2,q3,q4,q5,q6⟩:=hbx3;obtain⟨_,r1,r2,r3,r4,r5,r6⟩:=hby3;clear hbz3;have g1:=hxn.bw hD;have g2:=hxd.bw hD;have g3:=hyn.bw hD;have g4:=hyd.bw hD;have l1:=zH (zad K1.o);have l2:=zH (zad K2.o);have tok1:True:=trivial;have tok2:True:=trivial;have tok3:True:=trivial
 go_region_held3 (λ w'=>w'.cell? ⟨w.heap.size,1,none⟩=some (.slice an ln kn)/\w'.cell? ⟨w.heap.size,2,none⟩=some (.slice ad ld kd)/\w'.cell? ⟨w.heap.size+1,1,none⟩=some (.slice am lm km)/\w'.cell? ⟨w.heap.size+1,2,none⟩=some (.slice ae le ke)) (exact⟨q2,q3,r2,r3⟩) (first
  |(go_at_call 88;have _t:=tok1;clear tok1 _t;(with_reducible refine(ztd _ _ n e _ g1 g4 l1.o.1 l2.o.2).mono ?_);rintro e9 w3 ⟨p1,rfl,hp1,hp2⟩;have X4:=HX3.o.bS hp2;have Y4:=HY3.o.bS hp2;have HX4:=zH X4;have HY4:=zH Y4;obtain⟨_,q1,q2,q3,q4,q5,q6⟩:=X4;obtain⟨_,r1,r2,r3,r4,r5,r6⟩:=Y4)
  |(go_at_call 88;have _t:=tok2;clear tok2 _t;(with_reducible refine(ztd _ _ m d _ (g3.bw hp2) (g2.bw hp2) l2.o.1 l1.o.2).mono ?_);rintro e9 w4 ⟨p3,rfl,hp3,hp4⟩;have hp24:=zaa hp2 hp4;have hp14:=hp1.bw hp4;have X5:=HX4.o.bS hp4;have Y5:=HY4.o.bS hp4;have HX5:=zH X5;have HY5:=zH Y5;obtain⟨_,q1,q2,q3,q4,q5,q6⟩:=X5;obtain⟨_,r1,r2,r3,r4,r5,r6⟩:=Y5)
  |(go_at_call 88;have _t:=tok3;clear tok3 _t;(with_reducible refine(ztd _ _ d e _ (g2.bw hp24) (g4.bw hp24) l1.o.2 l2.o.2).mono ?_);rintro e9 w5 ⟨p5,rfl,hp5,hp6⟩;have hp26:=zaa hp24 hp6;have hp16:=hp14.bw hp6;have hp36:=hp3.bw hp6;have X6:=HX5.o.bS hp6;have Y6:=HY5.o.bS hp6;have HX6:=zH X6;have HY6:=zH Y6;obtain⟨_,q1,q2,q3,q4,q5,q6⟩:=X6;obtain⟨_,r1,r2,r3,r4,r5,r6⟩:=Y6))
 have hdw:Below w.heap.size w w5:=hD.trans (hp26.mono hD.size);have HZ6:=zH (HZ3.o.bS hp26);have HDE:zI (d*e≠0):=zH (zMZ K1.o.1 K2.o.1);have N1:=zH (zoe l1.o.1 l2.o.2);have N3:=zH (zoe l2.o.1 l1.o.2);have N5:=zH (zLT (zoe l1.o.2 l2.o.2) (show 128+128<=512 by decide));have NS:=zH (zLT (nlen_sum N1.o N3.o) (show 128+128+1<=512 by decide));have N12:=zH (zLT N1.o (show 128+128<=512 by decide));have N32:=zH (zLT N3.o (show 128+128<=512 by decide));clear hp24 hp26 hp14 hp1 hp3 hp2 hp4 hp6 hD HZ3 g1 g2 g3 g4 HX3 HY3 HX4 HY4 HX5 HY5;by_cases hst:s=t
 ·have HQ:=zH (zkj s n d m e K1.o.1 K2.o.1);subst hst
  go_wp2_with (first
   |(go_at_call 90;(with_reducible refine(radd_any p1 p3 (n*e) (m*d) _ hp16.nat hp36.nat N12.o N32.o).mono ?_);rintro e9 w6 ⟨r,er,rfl,hr,hb6⟩;have hr6:=(hr.1 NS.o).2;have hp56:=hp5.bw hb6;have hdw6:=zaa hdw hb6;have HZ7:=zH (HZ6.o.bS hb6);obtain⟨_,q1,q2,q3,q4,q5,q6⟩:=HX6.o.bS hb6;obtain⟨_,r1,r2,r3,r4,r5,r6⟩:=HY6.o.bS hb6;)
   |(go_at_call 80;(with_reducible refine(zxd s r p5 (n*e+m*d) (d*e) _ hr6.nat hp56.nat HDE.o NS.o N5.o).mono ?_);rintro e9 w7 ⟨v7,rfl,hv7,hb7⟩;rw[<-HQ.o]at hv7;have hdw7:=zaa hdw6 hb7;have HZ8:=zH (HZ7.o.bS hb7);)
   |(go_at_call 87;(with_reducible refine(zzk v7 _ _ hv7).mono ?_);rintro e9 w8 ⟨v,er8,rfl,hv1,hv2,hv3⟩;obtain⟨t9,x9,y9,rfl,⟨a1,l91,k1,rfl,_⟩,⟨a2,l92,k2,rfl,_⟩⟩:=zyc (w0:=w) hv2 hv3;have hC:=HZ8.o.bS hv1;have HC:=zH hC;have hbz:=zaa hdw7 hv1;obtain⟨_,d0,d1,d2,e0,e1,e2⟩:=hC;)
   )
  refine zka rfl rfl Tryz.aggF Tryz.sizeF (HC.o.set _ _ _) rfl ?_;exact⟨_,_,rfl,zea hbz zO _ _ _,λ h=>⟨(hv2 h).1,(hv2 h).2.set3 HC.o zZ zZ _ _ _⟩,hv3⟩
 ·have hsb:(s==t)=false:=by simpa using hst
  by_cases hle:m*d<=n*e
  ·have HQ:=zH (fq_add_ge s t n d m e K1.o.1 K2.o.1 hsb hle);have HLE:=zH hle;have NS:=zH (zLT (zfb (Nat.sub_le (n*e) (m*d))) N12.o);clear hle
   go_wp2_with (first
    |(go_at_call 91;(with_reducible refine(rcmp_ge0 p1 p3 (n*e) (m*d) _ hp16.nat hp36.nat HLE.o).mono ?_);rintro e9 w5b ⟨⟨c,rfl,hc⟩,hb5⟩;have hp16:=hp16.bw hb5;have hp36:=hp36.bw hb5;have hp5:=hp5.bw hb5;have HX6:=zH (HX6.o.bS hb5);have HY6:=zH (HY6.o.bS hb5);have HZ6:=zH (HZ6.o.bS hb5);have hdw:=zaa hdw hb5)
    |(go_at_call 92;(with_reducible refine(rsub_le p1 p3 (n*e) (m*d) _ hp16.nat hp36.nat N12.o HLE.o).mono ?_);rintro e9 w6 ⟨r,rfl,hr6,hb6⟩;have hp56:=hp5.bw hb6;have hdw6:=zaa hdw hb6;have HZ7:=zH (HZ6.o.bS hb6);obtain⟨_,q1,q2,q3,q4,q5,q6⟩:=HX6.o.bS hb6;obtain⟨_,r1,r2,r3,r4,r5,r6⟩:=HY6.o.bS hb6;)
    |(go_at_call 80;(with_reducible refine(zxd s r p5 (n*e-m*d) (d*e) _ hr6.nat hp56.nat HDE.o NS.o N5.o).mono ?_);rintro e9 w7 ⟨v7,rfl,hv7,hb7⟩;rw[<-HQ.o]at hv7;have hdw7:=zaa hdw6 hb7;have HZ8:=zH (HZ7.o.bS hb7);)
    |(go_at_call 87;(with_reducible refine(zzk v7 _ _ hv7).mono ?_);rintro e9 w8 ⟨v,er8,rfl,hv1,hv2,hv3⟩;obtain⟨t9,x9,y9,rfl,⟨a1,l91,k1,rfl,_⟩,⟨a2,l92,k2,rfl,_⟩⟩:=zyc (w0:=w) hv2 hv3;have hC:=HZ8.o.bS hv1;have HC:=zH hC;have hbz:=zaa hdw7 hv1;obtain⟨_,d0,d1,d2,e0,e1,e2⟩:=hC;)
    )
   refine zka rfl rfl Tryz.aggF Tryz.sizeF (HC.o.set _ _ _) rfl ?_;exact⟨_,_,rfl,zea hbz zO _ _ _,λ h=>⟨(hv2 h).1,(hv2 h).2.set3 HC.o zZ zZ _ _ _⟩,hv3⟩
  ·have hlt:n*e<m*d:=Nat.lt_of_not_le hle;have HQ:=zH (fq_add_lt s t n d m e K1.o.1 K2.o.1 hsb (zLO hlt));have HLT:=zH hlt;have NS:=zH (zLT (zfb (Nat.sub_le (m*d) (n*e))) N32.o);clear hle hlt
   go_wp2_with (first
    |(go_at_call 91;(with_reducible refine(rcmp_lt0 p1 p3 (n*e) (m*d) _ hp16.nat hp36.nat HLT.o).mono ?_);rintro e9 w5b ⟨⟨c,rfl,hc⟩,hb5⟩;have hp16:=hp16.bw hb5;have hp36:=hp36.bw hb5;have hp5:=hp5.bw hb5;have HX6:=zH (HX6.o.bS hb5);have HY6:=zH (HY6.o.bS hb5);have HZ6:=zH (HZ6.o.bS hb5);have hdw:=zaa hdw hb5)
    |(go_at_call 92;(with_reducible refine(rsub_le p3 p1 (m*d) (n*e) _ hp36.nat hp16.nat N32.o (zLO HLT.o)).mono ?_);rintro e9 w6 ⟨r,rfl,hr6,hb6⟩;have hp56:=hp5.bw hb6;have hdw6:=zaa hdw hb6;have HZ7:=zH (HZ6.o.bS hb6);obtain⟨_,q1,q2,q3,q4,q5,q6⟩:=HX6.o.bS hb6;obtain⟨_,r1,r2,r3,r4,r5,r6⟩:=HY6.o.bS hb6;)
    |(go_at_call 80;(with_reducible refine(zxd t r p5 (m*d-n*e) (d*e) _ hr6.nat hp56.nat HDE.o NS.o N5.o).mono ?_);rintro e9 w7 ⟨v7,rfl,hv7,hb7⟩;rw[<-HQ.o]at hv7;have hdw7:=zaa hdw6 hb7;have HZ8:=zH (HZ7.o.bS hb7);)
    |(go_at_call 87;(with_reducible refine(zzk v7 _ _ hv7).mono ?_);rintro e9 w8 ⟨v,er8,rfl,hv1,hv2,hv3⟩;obtain⟨t9,x9,y9,rfl,⟨a1,l91,k1,rfl,_⟩,⟨a2,l92,k2,rfl,_⟩⟩:=zyc (w0:=w) hv2 hv3;have hC:=HZ8.o.bS hv1;have HC:=zH hC;have hbz:=zaa hdw7 hv1;obtain⟨_,d0,d1,d2,e0,e1,e2⟩:=hC;)
    )
   refine zka rfl rfl Tryz.aggF Tryz.sizeF (HC.o.set _ _ _) rfl ?_;exact⟨_,_,rfl,zea hbz zO _ _ _,λ h=>⟨(hv2 h).1,(hv2 h).2.set3 HC.o zZ zZ _ _ _⟩,hv3⟩
set_option maxHeartbeats 1600000
theorem cmpN_swap (a b:Nat):zjl b a= -zjl a b:=by
 unfold zjl;rcases Nat.lt_trichotomy a b with h | h | h
 ·rw[zIN zO,zIP h,zIP h];rfl
 ·subst h;rw[zIN zO,zIN zO];rfl
 ·rw[zIP h,zIN zO,zIP h]
theorem nlen_prod {n e:Nat} (he:e≠0):(n=0->zda (n*e)=0)/\(n≠0->0<zda (n*e)):=
 ⟨λ h=>zqa.2 (by rw[h,Nat.zero_mul]),λ h=>zyd.2 (zMZ h he)⟩
set_option maxRecDepth 100000 in
theorem zon (va vb:Value) (s t:Bool) (n d m e:Nat) (w:World) (ha:zjc w va s n d) (hb:zjc w vb t m e) (h1:okN n d) (h2:okN m e):
 Calls Tryz.prog 93 #[va,vb] w λ en w'=>en= .returned (.int .i64 (zto (fq s n d) (fq t m e)))/\Below w.heap.size w w':=by
 obtain⟨xn,xd,rfl,hxn,hxd⟩:=ha;obtain⟨yn,yd,rfl,hyn,hyd⟩:=hb;obtain⟨an,ln,kn,rfl,_⟩:=hxn.slen.1;obtain⟨ad,ld,kd,rfl,_⟩:=hxd.slen.1;obtain⟨am,lm,km,rfl,_⟩:=hyn.slen.1;obtain⟨ae,le,ke,rfl,_⟩:=hyd.slen.1;have l1:=zH (zad h1);have l2:=zH (zad h2);have z1:=nlen_prod (n:=n) h2.1;have z2:=nlen_prod (n:=m) h1.1;have HR:=zH (cmpR_eq s t n d m e h1.1 h2.1);have HSW:=zH (cmpN_swap (n*e) (m*d));clear h1 h2;obtain⟨L1,hL1⟩:∃L,zda (n*e)=L:=⟨_,rfl⟩;obtain⟨L2,hL2⟩:∃L,zda (m*d)=L:=⟨_,rfl⟩;rw[hL1]at z1;rw[hL2]at z2;have HL1:=zH hL1;have HL2:=zH hL2
 have hX:(s=false)\/(s=true/\n=0/\L1=0)\/(s=true/\n≠0/\0<L1):=by
  cases s
  ·exact Or.inl rfl
  ·by_cases h:n=0
   ·exact Or.inr (Or.inl ⟨rfl,h,z1.1 h⟩)
   ·exact Or.inr (Or.inr ⟨rfl,h,z1.2 h⟩)
 have hY:(t=false)\/(t=true/\m=0/\L2=0)\/(t=true/\m≠0/\0<L2):=by
  cases t
  ·exact Or.inl rfl
  ·by_cases h:m=0
   ·exact Or.inr (Or.inl ⟨rfl,h,z2.1 h⟩)
   ·exact Or.inr (Or.inr ⟨rfl,h,z2.2 h⟩)
 have HX0:=zH hX;have HY0:=zH hY;clear hL1 hL2 z1 z2 hX hY;go_enter Tryz.func93,Tryz.ntmps93;go_wp2_with fail;obtain⟨W,hW⟩:∃W,W=((w.alloc (.cells #[.bool s, .slice an ln kn, .slice ad ld kd] 53)).alloc (.cells #[.bool t, .slice am lm km, .slice ae le ke] 53)):=⟨_,rfl⟩;obtain⟨bx,byy,hbw⟩:=zkh w 53 _ _ _ _ _ _ W hW;rw[<-hW];clear hW;have hd2:=zha (B:=W.heap.size) W;have hD:=zaa hbw hd2;have hbx3:=bx.bS hd2;have hby3:=byy.bS hd2;have HX3:=zH hbx3;have HY3:=zH hby3;obtain⟨_,q1,q2,q3,q4,q5,q6⟩:=hbx3;obtain⟨_,r1,r2,r3,r4,r5,r6⟩:=hby3;have g1:=hxn.bw hD;have g2:=hxd.bw hD;have g3:=hyn.bw hD;have g4:=hyd.bw hD;clear bx byy hd2;have tok1:True:=trivial
 go_region_held3 (λ w'=>w'.cell? ⟨w.heap.size,1,none⟩=some (.slice an ln kn)/\w'.cell? ⟨w.heap.size,2,none⟩=some (.slice ad ld kd)/\w'.cell? ⟨w.heap.size+1,1,none⟩=some (.slice am lm km)/\w'.cell? ⟨w.heap.size+1,2,none⟩=some (.slice ae le ke)) (exact⟨q2,q3,r2,r3⟩) (first
  |(go_at_call 88;have _t:=tok1;clear tok1 _t;(with_reducible refine(ztd _ _ n e _ g1 g4 l1.o.1 l2.o.2).mono ?_);rintro e9 w3 ⟨p1,rfl,hp1,hp2⟩;have X4:=HX3.o.bS hp2;have Y4:=HY3.o.bS hp2;have HX4:=zH X4;have HY4:=zH Y4;obtain⟨_,q1,q2,q3,q4,q5,q6⟩:=X4;obtain⟨_,r1,r2,r3,r4,r5,r6⟩:=Y4)
  |(go_at_call 88;(with_reducible refine(ztd _ _ m d _ (g3.bw hp2) (g2.bw hp2) l2.o.1 l1.o.2).mono ?_);rintro e9 w4 ⟨p3,rfl,hp3,hp4⟩;have hp24:=zaa hp2 hp4;have hp14:=hp1.bw hp4;have X5:=HX4.o.bS hp4;have Y5:=HY4.o.bS hp4;have HX5:=zH X5;have HY5:=zH Y5;obtain⟨_,q1,q2,q3,q4,q5,q6⟩:=X5;obtain⟨_,r1,r2,r3,r4,r5,r6⟩:=Y5))
 have hdw:Below w.heap.size w w4:=hD.trans (hp24.mono hD.size);have HP1:=zH hp14;have HP3:=zH hp3;have sp1:=hp14.v.sl;have lp1:slen p1=L1:=hp14.v.len.trans HL1.o;have sp3:=hp3.v.sl;have lp3:slen p3=L2:=hp3.v.len.trans HL2.o;have k1:=HX5.o.c0;have k2:=HY5.o.c0;clear hp24 hp14 hp1 hp3 hp2 hp4 hD g1 g2 g3 g4 HX3 HY3 HX4 HY4 q1 q2 q3 q4 q5 q6 r1 r2 r3 r4 r5 r6 hbw
 rcases HX0.o with rfl | ⟨rfl,hn0,hl0⟩ | ⟨rfl,hn0,hl0⟩<;>rcases HY0.o with rfl | ⟨rfl,hm0,hk0⟩ | ⟨rfl,hm0,hk0⟩<;>(
  try subst hl0
  try subst hk0
  clear HX0 HY0
  go_wp2_with (go_at_call 91;first
   |((with_reducible refine(zye p1 p3 (n*e) (m*d) _ HP1.o.nat HP3.o.nat).mono ?_);rintro e9 w9 ⟨rfl,hb9⟩;have hdw:=zaa hdw hb9)
   |((with_reducible refine(zye p3 p1 (m*d) (n*e) _ HP3.o.nat HP1.o.nat).mono ?_);rintro e9 w9 ⟨rfl,hb9⟩;rw[HSW.o];have hdw:=zaa hdw hb9))
  all_goals
   go_ret;exact⟨by rw[HR.o];simp[*],hdw⟩)
theorem cmpR_beq (p q:Rat):(zto p q==0)=decide (p=q):=by
 have:=zhe p q;by_cases h:p=q
 ·rw[zDT h,this.2 h];rfl
 ·rw[zDF h];have h2:zto p q≠0:=λ e=>h (this.1 e)
  simpa using h2
theorem zhp (va vb:Value) (s t:Bool) (n d m e:Nat) (w:World) (ha:zjc w va s n d) (hb:zjc w vb t m e) (h1:okN n d) (h2:okN m e):
 Calls Tryz.prog 29 #[va,vb] w λ en w'=>en= .returned (.bool (decide (fq s n d=fq t m e)))/\Below w.heap.size w w':=by
 have hA:=ha;have hB:=hb;obtain⟨xn,xd,rfl,hxn,hxd⟩:=ha;obtain⟨yn,yd,rfl,hyn,hyd⟩:=hb;obtain⟨an,ln,kn,rfl,_⟩:=hxn.slen.1;obtain⟨ad,ld,kd,rfl,_⟩:=hxd.slen.1;obtain⟨am,lm,km,rfl,_⟩:=hyn.slen.1;obtain⟨ae,le,ke,rfl,_⟩:=hyd.slen.1;have K1:=zH h1;have K2:=zH h2;have HE:=zH (cmpR_beq (fq s n d) (fq t m e));clear h1 h2;go_enter Tryz.func29,Tryz.ntmps29;go_wp2_with fail;obtain⟨W,hW⟩:∃W,W=((w.alloc (.cells #[.bool s, .slice an ln kn, .slice ad ld kd] 53)).alloc (.cells #[.bool t, .slice am lm km, .slice ae le ke] 53)):=⟨_,rfl⟩;obtain⟨bx,byy,hbw⟩:=zkh w 53 _ _ _ _ _ _ W hW;rw[<-hW];clear hW;obtain⟨_,q1,q2,q3,q4,q5,q6⟩:=bx;obtain⟨_,r1,r2,r3,r4,r5,r6⟩:=byy;go_wp2_with (go_at_call 93;(with_reducible refine(zon _ _ s t n d m e _ (hA.bw hbw) (hB.bw hbw) K1.o K2.o).mono ?_);rintro e9 w9 ⟨rfl,hb9⟩);go_ret;exact⟨by rw[<-HE.o];rfl,zaa hbw hb9⟩
theorem zgp (va:Value) (s:Bool) (n d:Nat) (w:World) (ha:zjc w va s n d) (h1:okN n d):
 Calls Tryz.prog 110 #[va] w λ en w'=>en= .returned (.int .i64 (zto (fq s n d) 0))/\Below w.heap.size w w':=by
 have hA:=ha;obtain⟨xn,xd,rfl,hxn,hxd⟩:=ha;obtain⟨an,ln,kn,rfl,_⟩:=hxn.slen.1;obtain⟨ad,ld,kd,rfl,_⟩:=hxd.slen.1;have K1:=zH h1;have K0:zI (okN (0:Rat).num.natAbs (0:Rat).den):=zH (by decide+kernel);have HE:zI (zto (fq s n d) (fq false 0 1)=zto (fq s n d) 0):=zH (by rw[show fq false 0 1=0 from fq_zero false 1 zD]);clear h1;go_enter Tryz.func110,Tryz.ntmps110;go_wp2_with fail;have bx:=C3.new w 53 (.bool s) (.slice an ln kn) (.slice ad ld kd);have hbx:=zba w (.cells #[.bool s, .slice an ln kn, .slice ad ld kd] 53);generalize hW:w.alloc (.cells #[.bool s, .slice an ln kn, .slice ad ld kd] 53)=W at *
 clear hW;have hd2:=zha (B:=W.heap.size) W;have hD:=zaa hbx hd2;have hbx3:=bx.bS hd2;have HX3:=zH hbx3;obtain⟨_,q1,q2,q3,q4,q5,q6⟩:=hbx3;clear bx hd2
 go_region_held3 (λ w'=>w'.cell? ⟨w.heap.size,0,none⟩=some (.bool s)/\w'.cell? ⟨w.heap.size,1,none⟩=some (.slice an ln kn)/\w'.cell? ⟨w.heap.size,2,none⟩=some (.slice ad ld kd)) (exact⟨q1,q2,q3⟩) (first
  |(go_at_call 23;(with_reducible refine(zac _).mono ?_);rintro e9 w3 ⟨v3,rfl,hv3,hb3⟩;obtain⟨_,q1,q2,q3,q4,q5,q6⟩:=HX3.o.bS hb3)
  |(go_at_call 93;(with_reducible refine(zon _ _ s _ n d _ _ _ ((hA.bw hD).bw hb3) hv3.raw K1.o K0.o).mono ?_);rintro e9 w4 ⟨rfl,hb4⟩;obtain⟨_,q1,q2,q3,q4,q5,q6⟩:=HX3.o.bS (zaa hb3 hb4)))
 go_wp2;go_ret;exact⟨by rw[<-HE.o];rfl,zaa (zaa hD hb3) hb4⟩
theorem r2add_can (va vb:Value) (p q:Rat) (w:World) (ha:zna w va p) (hb:zna w vb q) (hp:fits p) (hq:fits q) (hf:fits (p+q)):Calls Tryz.prog 28 #[va,vb] w (RF0 w (p+q)):=
 (r2add_any va vb _ _ _ _ _ _ w ha.raw hb.raw ⟨p.den_nz,hp.2,hp.1⟩ ⟨q.den_nz,hq.2,hq.1⟩).mono λ _ _ h=>h.ok (by rw[zrc,zrc]) hf
theorem zcn (va:Value) {w:World} {q:Rat} (ha:zna w va q) (hf:fits q):Calls Tryz.prog 110 #[va] w λ en w'=>en= .returned (.int .i64 (zto q 0))/\Below w.heap.size w w':=by
 have h:=zgp va _ _ _ w ha.raw ⟨q.den_nz,hf.2,hf.1⟩;rw[zrc]at h;exact h
theorem sgn_z (va:Value) {w:World} {q:Rat} (ha:zna w va q) (hf:fits q) (hq:q=0):Calls Tryz.prog 110 #[va] w λ en w'=>en= .returned (.int .i64 0)/\Below w.heap.size w w':=by
 refine(zcn va ha hf).mono ?_;rintro e w' ⟨rfl,hb⟩;rw[(zhe q 0).2 hq];exact⟨rfl,hb⟩
theorem sgn_nz (va:Value) {w:World} {q:Rat} (ha:zna w va q) (hf:fits q) (hq:q≠0):Calls Tryz.prog 110 #[va] w λ en w'=>∃z,en= .returned (.int .i64 z)/\(z==0)=false/\Below w.heap.size w w':=by
 refine(zcn va ha hf).mono ?_;rintro e w' ⟨rfl,hb⟩;refine⟨_,rfl,?_,hb⟩;rw[cmpR_beq];exact zDF hq
theorem zpa.cellsAt {w:World} {v:Value} {l:List Rat} (h:zpa w v l) {k:Nat} (hk:k<l.length):
 ∃t a1 l1 k1 a2 l2 k2,w.cell? (ptr v (k*3))=some (.bool t)/\w.cell? (ptr v (k*3+1))=some (.slice a1 l1 k1)/\w.cell? (ptr v (k*3+2))=some (.slice a2 l2 k2)/\zna w (.agg #[.bool t, .slice a1 l1 k1, .slice a2 l2 k2]) (l.getD k 0):=by
 obtain⟨za,zb,p1,p2,p3,p4,p5⟩:=h.at' k hk;obtain⟨za1,za2,za3,rfl,_⟩:=p4.v.sl;obtain⟨zb1,zb2,zb3,rfl,_⟩:=p5.v.sl;refine⟨_,_,_,_,_,_,_,p1,p2,p3,?_⟩;rw[zGD,zGE hk];exact⟨_,_,rfl,p4,p5⟩
end Go.Proofs.YtkpedaflofejnaaGreat
