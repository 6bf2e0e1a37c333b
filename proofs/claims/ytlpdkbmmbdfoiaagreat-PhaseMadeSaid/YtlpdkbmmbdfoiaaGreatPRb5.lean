/- Lemmas. -/
import Derived.Test.YtlpdkbmmbdfoiaaGreatPFr6
set_option linter.unusedVariables false
set_option linter.unusedSimpArgs false
namespace Go.Proofs.YtlpdkbmmbdfoiaaGreat
open Go.RowKit
set_option maxRecDepth 100000 in
set_option maxHeartbeats 1600000 in
theorem cmp_frac (va vb:Value) (s t:Bool) (n d m e:Nat) (w:World) (ha:zzb w va s n d) (hb:zzb w vb t m e) (h1:okN n d) (h2:okN m e):
 Calls Tryz.prog 130 #[va,vb] w λ en w'=>en= .returned (.tuple #[.int .i64 (zdl (fq s n d) (fq t m e)), .int .i64 0])/\Below w.heap.size w w':=by
 have hA:=ha;have hB:=hb;obtain⟨xn,xd,rfl,hxn,hxd⟩:=ha;obtain⟨yn,yd,rfl,hyn,hyd⟩:=hb;obtain⟨an,ln,kn,rfl,_⟩:=hxn.slen.1;obtain⟨ad,ld,kd,rfl,_⟩:=hxd.slen.1;obtain⟨am,lm,km,rfl,_⟩:=hyn.slen.1;obtain⟨ae,le,ke,rfl,_⟩:=hyd.slen.1;have K1:=zH h1;have K2:=zH h2;have HR:=zH (cmpR_eq s t n d m e h1.1 h2.1);clear h1 h2;go_enter Tryz.func130,Tryz.ntmps130;go_wp2_with fail;obtain⟨W,hW⟩:∃W,W=((w.alloc (.cells #[.bool s, .slice an ln kn, .slice ad ld kd] 38)).alloc (.cells #[.bool t, .slice am lm km, .slice ae le ke] 38)):=⟨_,rfl⟩;obtain⟨bx,byy,hbw⟩:=zsf w 38 _ _ _ _ _ _ W hW;rw[<-hW];clear hW;have HBX:=zH bx;have HBY:=zH byy;obtain⟨_,q1,q2,q3,q4,q5,q6⟩:=bx;obtain⟨_,r1,r2,r3,r4,r5,r6⟩:=byy
 go_wp2_with (first
  |(go_at_call 79;first
    |((with_reducible refine(zue _ s n d _ (hA.bw hbw) K1.o).mono ?_);rintro e9 w1 ⟨rfl,hv1⟩
      obtain⟨_,f1,f2,f3,f4,f5,f6⟩:=HBY.o.bS hv1;have hbw1:=zaa hbw hv1)
    |((with_reducible refine(zue _ t m e _ (hB.bw hbw1) K2.o).mono ?_);rintro e9 w2 ⟨rfl,hv2⟩
      have hbx2:=(HBX.o.bS hv1).bS hv2;have hby2:=(HBY.o.bS hv1).bS hv2;have hbw2:=zaa hbw1 hv2)))
 clear q1 q2 q3 q4 q5 q6 r1 r2 r3 r4 r5 r6 f1 f2 f3 f4 f5 f6;have hd2:=zfa (B:=w2.heap.size) w2;have hD:=hbw2.trans (hd2.mono hbw2.size);have hbx3:=hbx2.bS hd2;have hby3:=hby2.bS hd2;clear hbx2 hby2 hbw2 hv1 hv2 hbw hbw1 HBX HBY hd2;have HX3:=zH hbx3;have HY3:=zH hby3;obtain⟨_,q1,q2,q3,q4,q5,q6⟩:=hbx3;obtain⟨_,r1,r2,r3,r4,r5,r6⟩:=hby3;have g1:=hxn.bw hD;have g2:=hxd.bw hD;have g3:=hyn.bw hD;have g4:=hyd.bw hD;have l1:=zH (zfc K1.o);have l2:=zH (zfc K2.o);have T1:=zH (zLT l1.o.1 (show 128<=256 by decide));have T2:=zH (zLT l2.o.2 (show 128<=256 by decide));have T3:=zH (zLT l2.o.1 (show 128<=256 by decide));have T4:=zH (zLT l1.o.2 (show 128<=256 by decide));have tok1:True:=trivial
 go_region_held3 (λ w'=>w'.cell? ⟨w.heap.size,1,none⟩=some (.slice an ln kn)/\w'.cell? ⟨w.heap.size,2,none⟩=some (.slice ad ld kd)/\w'.cell? ⟨w.heap.size+1,1,none⟩=some (.slice am lm km)/\w'.cell? ⟨w.heap.size+1,2,none⟩=some (.slice ae le ke)) (exact⟨q2,q3,r2,r3⟩) (first
  |(go_at_call 157;have _t:=tok1;clear tok1 _t;(with_reducible refine(zsb _ _ n e _ g1 g4 T1.o T2.o).mono ?_);rintro e9 w3 ⟨p1,rfl,hp1,hp2⟩;have X4:=HX3.o.bS hp2;have Y4:=HY3.o.bS hp2;have HX4:=zH X4;have HY4:=zH Y4;obtain⟨_,q1,q2,q3,q4,q5,q6⟩:=X4;obtain⟨_,r1,r2,r3,r4,r5,r6⟩:=Y4)
  |(go_at_call 157;(with_reducible refine(zsb _ _ m d _ (g3.bw hp2) (g2.bw hp2) T3.o T4.o).mono ?_);rintro e9 w4 ⟨p3,rfl,hp3,hp4⟩;have hp24:=zaa hp2 hp4;have hp14:=hp1.bw hp4;have X5:=HX4.o.bS hp4;have Y5:=HY4.o.bS hp4;have HX5:=zH X5;have HY5:=zH Y5;obtain⟨_,q1,q2,q3,q4,q5,q6⟩:=X5;obtain⟨_,r1,r2,r3,r4,r5,r6⟩:=Y5)
  |(go_at_call 159;(with_reducible refine(zkp p1 p3 (n*e) (m*d) _ hp14.nat hp3.nat).mono ?_);rintro e9 w5 ⟨rfl,k9,rfl⟩;have hp5:=zna (B:=w4.heap.size) w4 k9;have hp26:=zaa hp24 hp5;have X6:=HX5.o.bS hp5;have Y6:=HY5.o.bS hp5;have HX6:=zH X6;have HY6:=zH Y6;obtain⟨_,q1,q2,q3,q4,q5,q6⟩:=X6;obtain⟨_,r1,r2,r3,r4,r5,r6⟩:=Y6))
 have hdw:Below w.heap.size w (w4.drewN k9):=hD.trans (hp26.mono hD.size);clear q1 q2 q3 q4 q5 q6 r1 r2 r3 r4 r5 r6 hp5 hp26 hp24 hp14 hp1 hp3 hp2 hp4 hD g1 g2 g3 g4 HX3 HY3 HX4 HY4 HX5 HY5 T1 T2 T3 T4;generalize w4.drewN k9=W4 at *
 have hcb: -1<=zbm (n*e) (m*d)/\zbm (n*e) (m*d)<=1:=by unfold zbm;split<;>(try split)<;>omega
 obtain⟨hcb1,hcb2⟩:=hcb;generalize hcn:zbm (n*e) (m*d)=c at *
 have HCN:=zH hcn;clear hcn;have hd2:=zfa (B:=W4.heap.size) W4;have hD:=hdw.trans (hd2.mono hdw.size);have hbx3:=HX6.o.bS hd2;have hby3:=HY6.o.bS hd2;have HX7:=zH hbx3;have HY7:=zH hby3;clear HX6 HY6;go_wp2_with fail;obtain⟨_,q1,q2,q3,q4,q5,q6⟩:=hbx3;obtain⟨_,r1,r2,r3,r4,r5,r6⟩:=hby3;rcases s with _ | _<;>rcases t with _ | _
 ·go_region
  all_goals
   go_wp2
   all_goals
    go_ret2;exact⟨by rw[HR.o];simp[*],hD⟩
 ·go_region_law (refine zsa 186 #[.agg #[.bool true, .slice am lm km, .slice ae le ke]] ?_ ?_ (zzj _ true m e _ (hB.bw hD)) ?_;go_simp;go_simp;rintro e9 w5 ⟨rfl,hz1⟩;refine⟨_,rfl,?_⟩;obtain⟨_,q1,q2,q3,q4,q5,q6⟩:=HX7.o.bS hz1;obtain⟨_,r1,r2,r3,r4,r5,r6⟩:=HY7.o.bS hz1)
  all_goals
   go_wp2
   all_goals
    go_ret2;exact⟨by rw[HR.o];simp[*],hD.trans (hz1.mono hD.size)⟩
 ·go_region_law (refine zsa 186 #[.agg #[.bool true, .slice an ln kn, .slice ad ld kd]] ?_ ?_ (zzj _ true n d _ (hA.bw hD)) ?_;go_simp;go_simp;rintro e9 w5 ⟨rfl,hz1⟩;refine⟨_,rfl,?_⟩;obtain⟨_,q1,q2,q3,q4,q5,q6⟩:=HX7.o.bS hz1;obtain⟨_,r1,r2,r3,r4,r5,r6⟩:=HY7.o.bS hz1)
  all_goals
   go_wp2
   all_goals
    go_ret2;exact⟨by rw[HR.o];simp[*],hD.trans (hz1.mono hD.size)⟩
 ·go_region_held3 (λ w'=>w'.cell? ⟨w.heap.size,0,none⟩=some (.bool true)/\w'.cell? ⟨w.heap.size,1,none⟩=some (.slice an ln kn)/\w'.cell? ⟨w.heap.size,2,none⟩=some (.slice ad ld kd)/\w'.cell? ⟨w.heap.size+1,0,none⟩=some (.bool true)/\w'.cell? ⟨w.heap.size+1,1,none⟩=some (.slice am lm km)/\w'.cell? ⟨w.heap.size+1,2,none⟩=some (.slice ae le ke)) (exact⟨q1,q2,q3,r1,r2,r3⟩) (first
  |(go_at_call 186;(with_reducible refine(zzj _ true n d _ (hA.bw hD)).mono ?_);rintro e9 w5 ⟨rfl,hz1⟩;have X8:=HX7.o.bS hz1;have Y8:=HY7.o.bS hz1;have HX8:=zH X8;have HY8:=zH Y8;obtain⟨_,q1,q2,q3,q4,q5,q6⟩:=X8;obtain⟨_,r1,r2,r3,r4,r5,r6⟩:=Y8)
  |(go_at_call 186;(with_reducible refine(zzj _ true m e _ ((hB.bw hD).bw hz1)).mono ?_);rintro e9 w6 ⟨rfl,hz2⟩;have X9:=HX8.o.bS hz2;have Y9:=HY8.o.bS hz2;obtain⟨_,q1,q2,q3,q4,q5,q6⟩:=X9;obtain⟨_,r1,r2,r3,r4,r5,r6⟩:=Y9))
  all_goals
   go_wp2
   all_goals
    go_ret2;exact⟨by rw[HR.o];simp[*],hD.trans ((zaa hz1 hz2).mono hD.size)⟩
set_option maxHeartbeats 1600000
theorem zdf (w:World):Calls Tryz.prog 88 #[.int .i64 0] w (RF1 w 0):=by
 go_enter Tryz.func88,Tryz.ntmps88;go_wp2_with (go_at_call 67;(with_reducible refine(make_01 _).mono ?_);rintro e w1 ⟨v,rfl,hv,hb1⟩;obtain⟨t9,a1,l91,k1,a2,l92,k2,rfl⟩:=hv.iF;have hr:=((C3.new w 38 (.bool false) (.slice none 0 0) (.slice none 0 0)).bS hb1).allocS (.cells #[.bool t9, .slice a1 l91 k1, .slice a2 l92 k2] 38);have hv2:=hv.bw (zca w1 (.cells #[.bool t9, .slice a1 l91 k1, .slice a2 l92 k2] 38));have hb2:=zaa (zaa (zca w (.cells #[.bool false, .slice none 0 0, .slice none 0 0] 38)) hb1) (zca w1 (.cells #[.bool t9, .slice a1 l91 k1, .slice a2 l92 k2] 38));have HR:=zH hr;obtain⟨_,d1,d2,d3,d4,d5,d6⟩:=hr);refine zab rfl rfl Tryz.aggF Tryz.sizeF (HR.o.set _ _ _) rfl ?_;exact⟨_,rfl,hv2.set3 HR.o zZ zZ _ _ _,zga hb2 (zLR _) _ _ _⟩
theorem zph (w:World):Calls Tryz.prog 88 #[.int .i64 1] w (RF1 w 1):=by
 go_enter Tryz.func88,Tryz.ntmps88;go_wp2_with (go_at_call 67;(with_reducible refine(make_11 _).mono ?_);rintro e w1 ⟨v,rfl,hv,hb1⟩;obtain⟨t9,a1,l91,k1,a2,l92,k2,rfl⟩:=hv.iF;have hr:=((C3.new w 38 (.bool false) (.slice none 0 0) (.slice none 0 0)).bS hb1).allocS (.cells #[.bool t9, .slice a1 l91 k1, .slice a2 l92 k2] 38);have hv2:=hv.bw (zca w1 (.cells #[.bool t9, .slice a1 l91 k1, .slice a2 l92 k2] 38));have hb2:=zaa (zaa (zca w (.cells #[.bool false, .slice none 0 0, .slice none 0 0] 38)) hb1) (zca w1 (.cells #[.bool t9, .slice a1 l91 k1, .slice a2 l92 k2] 38));have HR:=zH hr;obtain⟨_,d1,d2,d3,d4,d5,d6⟩:=hr);refine zab rfl rfl Tryz.aggF Tryz.sizeF (HR.o.set _ _ _) rfl ?_;exact⟨_,rfl,hv2.set3 HR.o zZ zZ _ _ _,zga hb2 (zLR _) _ _ _⟩
theorem znk (va vb:Value) (p q:Rat) (w:World) (ha:zia w va p) (hb:zia w vb q) (hp:fits p) (hq:fits q) (hr:fits (p+q)):Calls Tryz.prog 94 #[va,vb] w (RF1 w (p+q)):=by
 obtain⟨t1,a11,l11,k11,a12,l12,k12,rfl⟩:=ha.iF;obtain⟨t2,a21,l21,k21,a22,l22,k22,rfl⟩:=hb.iF;obtain⟨hA,hB,hR,hbw⟩:=zpb w 38 (.bool t1) (.slice a11 l11 k11) (.slice a12 l12 k12) (.bool t2) (.slice a21 l21 k21) (.slice a22 l22 k22) (.bool false) (.slice none 0 0) (.slice none 0 0) _ rfl;have HR:=zH hR;have HBW:=zH hbw;have HA:=zH (ha.bw hbw);have HB:=zH (hb.bw hbw);have HF:=zH (zAI hp (zAI hq hr));obtain⟨_,c0,c1,c2,_,_,_⟩:=id hA;obtain⟨_,d0,d1,d2,_,_,_⟩:=id hB;clear hA hB hR ha hb hp hq hr hbw;go_enter Tryz.func94,Tryz.ntmps94
 go_wp2_with (first
  |(go_at_call 80;(with_reducible refine(add_can _ _ p q _ HA.o HB.o HF.o.1 HF.o.2.1 HF.o.2.2).mono ?_);rintro e3 w3 ⟨v3,rfl,hv3,hb3⟩;obtain⟨t3,a31,l31,k31,a32,l32,k32,rfl⟩:=hv3.iF;have hba:=zca w3 (.cells #[.bool t3, .slice a31 l31 k31, .slice a32 l32 k32] 38);have HR3:=zH (HR.o.bS (zaa hb3 hba));have HV3:=zH (hv3.bw hba);have HB3:=zH (zaa HBW.o (zaa hb3 hba));obtain⟨_,g0,g1,g2,g3,g4,g5⟩:=HR3.o;clear hv3 hb3 hba))
 refine zab rfl rfl Tryz.aggF Tryz.sizeF (HR3.o.set _ _ _) rfl ?_;exact⟨_,rfl,HV3.o.set3 HR3.o zZ zZ _ _ _,zga HB3.o (zLT (zLS _) (zLS _)) _ _ _⟩
theorem zzi (va vb:Value) (p q:Rat) (w:World) (ha:zia w va p) (hb:zia w vb q) (hp:fits p) (hq:fits q) (hr:fits (p-q)):Calls Tryz.prog 96 #[va,vb] w (RF1 w (p-q)):=by
 obtain⟨t1,a11,l11,k11,a12,l12,k12,rfl⟩:=ha.iF;obtain⟨t2,a21,l21,k21,a22,l22,k22,rfl⟩:=hb.iF;obtain⟨hA,hB,hR,hbw⟩:=zpb w 38 (.bool t1) (.slice a11 l11 k11) (.slice a12 l12 k12) (.bool t2) (.slice a21 l21 k21) (.slice a22 l22 k22) (.bool false) (.slice none 0 0) (.slice none 0 0) _ rfl;have HR:=zH hR;have HBW:=zH hbw;have HA:=zH (ha.bw hbw);have HB:=zH (hb.bw hbw);have HF:=zH (zAI hp (zAI hq hr));obtain⟨_,c0,c1,c2,_,_,_⟩:=id hA;obtain⟨_,d0,d1,d2,_,_,_⟩:=id hB;clear hA hB hR ha hb hp hq hr hbw;go_enter Tryz.func96,Tryz.ntmps96
 go_wp2_with (first
  |(go_at_call 163;(with_reducible refine(sub_can _ _ p q _ HA.o HB.o HF.o.1 HF.o.2.1 HF.o.2.2).mono ?_);rintro e3 w3 ⟨v3,rfl,hv3,hb3⟩;obtain⟨t3,a31,l31,k31,a32,l32,k32,rfl⟩:=hv3.iF;have hba:=zca w3 (.cells #[.bool t3, .slice a31 l31 k31, .slice a32 l32 k32] 38);have HR3:=zH (HR.o.bS (zaa hb3 hba));have HV3:=zH (hv3.bw hba);have HB3:=zH (zaa HBW.o (zaa hb3 hba));obtain⟨_,g0,g1,g2,g3,g4,g5⟩:=HR3.o;clear hv3 hb3 hba))
 refine zab rfl rfl Tryz.aggF Tryz.sizeF (HR3.o.set _ _ _) rfl ?_;exact⟨_,rfl,HV3.o.set3 HR3.o zZ zZ _ _ _,zga HB3.o (zLT (zLS _) (zLS _)) _ _ _⟩
theorem zvl (va vb:Value) (p q:Rat) (w:World) (ha:zia w va p) (hb:zia w vb q) (hp:fits p) (hq:fits q) (hr:fits (p*q)):Calls Tryz.prog 97 #[va,vb] w (RF1 w (p*q)):=by
 obtain⟨t1,a11,l11,k11,a12,l12,k12,rfl⟩:=ha.iF;obtain⟨t2,a21,l21,k21,a22,l22,k22,rfl⟩:=hb.iF;obtain⟨hA,hB,hR,hbw⟩:=zpb w 38 (.bool t1) (.slice a11 l11 k11) (.slice a12 l12 k12) (.bool t2) (.slice a21 l21 k21) (.slice a22 l22 k22) (.bool false) (.slice none 0 0) (.slice none 0 0) _ rfl;have HR:=zH hR;have HBW:=zH hbw;have HA:=zH (ha.bw hbw);have HB:=zH (hb.bw hbw);have HF:=zH (zAI hp (zAI hq hr));obtain⟨_,c0,c1,c2,_,_,_⟩:=id hA;obtain⟨_,d0,d1,d2,_,_,_⟩:=id hB;clear hA hB hR ha hb hp hq hr hbw;go_enter Tryz.func97,Tryz.ntmps97
 go_wp2_with (first
  |(go_at_call 131;(with_reducible refine(zqj _ _ p q _ HA.o HB.o HF.o.1 HF.o.2.1 HF.o.2.2).mono ?_);rintro e3 w3 ⟨v3,rfl,hv3,hb3⟩;obtain⟨t3,a31,l31,k31,a32,l32,k32,rfl⟩:=hv3.iF;have hba:=zca w3 (.cells #[.bool t3, .slice a31 l31 k31, .slice a32 l32 k32] 38);have HR3:=zH (HR.o.bS (zaa hb3 hba));have HV3:=zH (hv3.bw hba);have HB3:=zH (zaa HBW.o (zaa hb3 hba));obtain⟨_,g0,g1,g2,g3,g4,g5⟩:=HR3.o;clear hv3 hb3 hba))
 refine zab rfl rfl Tryz.aggF Tryz.sizeF (HR3.o.set _ _ _) rfl ?_;exact⟨_,rfl,HV3.o.set3 HR3.o zZ zZ _ _ _,zga HB3.o (zLT (zLS _) (zLS _)) _ _ _⟩
theorem fin_any (n lo hi:Int) (w:World):Calls Tryz.prog 133 #[.int .i64 n, .int .i64 lo, .int .i64 hi] w (λ e w'=>e= .returned (.bool (decide (lo<=n)&&decide (n<=hi)))/\w'=w):=by
 go_enter Tryz.func133,Tryz.ntmps133;by_cases h1:lo<=n
 ·have h2:decide (lo<=n)=true:=zDT h1;go_wp2_with fail;go_ret;exact⟨by simp[h1],rfl⟩
 ·have h2:decide (lo<=n)=false:=zDF h1;go_wp2_with fail;go_ret;exact⟨by simp[h1],rfl⟩
theorem zwm {w:World} {a1 a2 a3 a4 a5 a6:Addr} {x1 x2 x3 x4 x5 x6:Value} (h:w.cell? a1=some x1/\w.cell? a2=some x2/\w.cell? a3=some x3/\w.cell? a4=some x4/\w.cell? a5=some x5/\w.cell? a6=some x6) {p:Addr}
 (h1:p.block≠a1.block) (h2:p.block≠a2.block) (h3:p.block≠a3.block) (h4:p.block≠a4.block) (h5:p.block≠a5.block) (h6:p.block≠a6.block) (u:Value):
 (w.setCell p u).cell? a1=some x1/\(w.setCell p u).cell? a2=some x2/\(w.setCell p u).cell? a3=some x3/\(w.setCell p u).cell? a4=some x4/\(w.setCell p u).cell? a5=some x5/\(w.setCell p u).cell? a6=some x6:=by
 have key:∀a x,w.cell? a=some x->p.block≠a.block->(w.setCell p u).cell? a=some x:=λ a x ha hp=>by
  rw[zCO _ _ _ _ (λ e=>hp (by rw[e]))];exact ha
 obtain⟨k1,k2,k3,k4,k5,k6⟩:=h;exact⟨key _ _ k1 h1,key _ _ k2 h2,key _ _ k3 h3,key _ _ k4 h4,key _ _ k5 h5,key _ _ k6 h6⟩
theorem zvh (p q:Rat):zdl p q=0↔p=q:=by
 unfold zdl;constructor
 ·intro h;split at h
  ·omega
  ·split at h
   ·omega
   ·next h1 h2=>exact Rat.le_antisymm (Rat.not_lt.1 h2) (Rat.not_lt.1 h1)
 ·rintro rfl;rw[zIN (Rat.lt_irrefl),zIN (Rat.lt_irrefl)]
set_option maxHeartbeats 1600000
theorem zmc (va vb:Value) (m n:Nat) (w:World) (ha:zcc w va m) (hb:zcc w vb n) (hm:zha m<=128) (hn:zha n<=128):
 Calls Tryz.prog 74 #[va,vb] w (RNat w (m*n)):=by
 have HM:=zH (show zha m<=512 by omega);have HN:=zH (show zha n<=512 by omega)
 have HMN:zI (zha (m*n)<=512):=zH (by
  have h1:=znc.1 hm;have h2:=znc.1 hn;refine znc.2 ?_;have h3:m*n<=pw 128*pw 128:=zMM zO zO;have h4:pw 128*pw 128<pw 512:=by decide+kernel
  omega)
 clear hm hn;go_enter Tryz.func74,Tryz.ntmps74;go_wp2_with (go_at_call 151;(with_reducible refine(rmul_any _ _ m n _ ha hb HM.o HN.o).mono ?_);rintro e1 w1 ⟨r,er,rfl,hr,hb1⟩);go_ret;exact⟨r,rfl,(hr.1 HMN.o).2,hb1⟩
theorem zvf (v:Value) (q:Rat) (w:World) (h:zia w v q) (hf:fits q):
 Calls Tryz.prog 49 #[v] w λ e w'=>e= .returned (.bool true)/\Below w.heap.size w w':=by
 obtain⟨a,b,rfl,ha,hb⟩:=h;obtain⟨n1,n2⟩:=zfc (zvb hf)
 have hd0:0<zha q.den:=by
  rcases Nat.eq_zero_or_pos (zha q.den)with h | h
  ·have h1:=znc.1 (Nat.le_of_eq h);have h2:=q.den_nz;simp[pw]at h1;omega
  ·exact h
 have hd1:decide ((0:Int)<(zha q.den:Nat))=true:=zDT zO;have hd2:decide (((zha q.den:Nat):Int)<=128)=true:=zDT zO;have hd3:decide (((zha q.num.natAbs:Nat):Int)<=128)=true:=zDT zO;obtain⟨aa,al,ak,rfl,_⟩:=id ha.v.sl;obtain⟨ba,bl,bk,rfl,_⟩:=id hb.v.sl;have hbx:=zca w (.cells #[.bool (decide (q<0)), .slice aa al ak, .slice ba bl bk] 38);have hC:=C3.new w 38 (.bool (decide (q<0))) (.slice aa al ak) (.slice ba bl bk);have HC:=zH hC;have HA:=zH (ha.bw hbx);have HB:=zH (hb.bw hbx);obtain⟨_,c0,c1,c2,_,_,_⟩:=id hC;clear hC hf hd1 hd2 hd3;go_enter Tryz.func49,Tryz.ntmps49
 go_wp2_with (first
  |(go_at_call 106;(with_reducible refine(zta _ q.den _ HB.o.nat).mono ?_);rintro e1 w1 ⟨r1,rfl,hr1,hb1⟩;have s1:=hr1.v.sl;have l1:slen r1=zha q.den:=hr1.v.len;obtain⟨_,c0,c1,c2,_,_,_⟩:=HC.o.bS hb1)
  |(go_at_call 106;(with_reducible refine(zta _ q.den _ (HB.o.bw hb1).nat).mono ?_);rintro e2 w2 ⟨r2,rfl,hr2,hb2⟩;have s2:=hr2.v.sl;have l2:slen r2=zha q.den:=hr2.v.len;obtain⟨_,c0,c1,c2,_,_,_⟩:=HC.o.bS (zaa hb1 hb2))
  |(go_at_call 106;(with_reducible refine(zta _ q.num.natAbs _ ((HA.o.bw hb1).bw hb2).nat).mono ?_);rintro e3 w3 ⟨r3,rfl,hr3,hb3⟩;have s3:=hr3.v.sl;have l3:slen r3=zha q.num.natAbs:=hr3.v.len))
 go_ret;refine⟨?_,zaa (zaa (zaa hbx hb1) hb2) hb3⟩
 congr 2
 simp;omega
theorem r2large_can (v:Value) (q:Rat) (w:World) (h:zia w v q) (hf:fits q):
 Calls Tryz.prog 154 #[v] w λ e w'=>e= .returned (.bool false)/\Below w.heap.size w w':=by
 obtain⟨a,b,rfl,ha,hb⟩:=h;obtain⟨n1,n2⟩:=zfc (zvb hf);obtain⟨aa,al,ak,rfl,_⟩:=id ha.v.sl;obtain⟨ba,bl,bk,rfl,_⟩:=id hb.v.sl;have e1:al=zha q.num.natAbs:=ha.v.len;have e2:bl=zha q.den:=hb.v.len;have n1':al<=128:=zO;have n2':bl<=128:=zO;have h1:¬ (128<al):=zO;have h2:¬ (128<bl):=zO;have hbx:=zca w (.cells #[.bool (decide (q<0)), .slice aa al ak, .slice ba bl bk] 38);have hC:=C3.new w 38 (.bool (decide (q<0))) (.slice aa al ak) (.slice ba bl bk);obtain⟨_,c0,c1,c2,_,_,_⟩:=id hC;clear hC hf n1 n2 e1 e2;go_enter Tryz.func154,Tryz.ntmps154;go_wp2_with fail;go_ret;refine⟨?_,hbx⟩
 congr 2
 simp;omega
theorem zxi (v:Value) (q:Rat) (w:World) (h:zia w v q) (hf:fits q):Calls Tryz.prog 76 #[v] w (RF0 w q):=by
 obtain⟨a,b,rfl,ha,hb⟩:=id h;obtain⟨aa,al,ak,rfl,_⟩:=id ha.v.sl;obtain⟨ba,bl,bk,rfl,_⟩:=id hb.v.sl;have hbx:=zca w (.cells #[.bool (decide (q<0)), .slice aa al ak, .slice ba bl bk] 38);have hb2:=zca (w.alloc (.cells #[.bool (decide (q<0)), .slice aa al ak, .slice ba bl bk] 38)) (.cells #[.bool false, .slice none 0 0, .slice none 0 0] 38);have hC:=(C3.new w 38 (.bool (decide (q<0))) (.slice aa al ak) (.slice ba bl bk)).bS hb2;have hR:=C3.newB (b:=w.heap.size+1) (w.alloc (.cells #[.bool (decide (q<0)), .slice aa al ak, .slice ba bl bk] 38)) 38 (.bool false) (.slice none 0 0) (.slice none 0 0) (by simp);have HC:=zH hC;have HR:=zH hR;have HF:=zH hf;have HQ:=zH ((h.bw hbx).bw hb2);have hbb:=zaa hbx hb2;obtain⟨_,c0,c1,c2,_,_,_⟩:=id hC;clear hC hR hf h ha hb;go_enter Tryz.func76,Tryz.ntmps76;go_wp2_with (go_at_call 154;(with_reducible refine(r2large_can _ q _ HQ.o HF.o).mono ?_);rintro e1 w1 ⟨rfl,hb1⟩;obtain⟨_,c0,c1,c2,_,_,_⟩:=HC.o.bS hb1;have HR1:=zH (HR.o.bS hb1);obtain⟨_,d0,d1,d2,d3,d4,d5⟩:=HR1.o);refine zla rfl rfl Tryz.aggF Tryz.sizeF (HR1.o.set _ _ _) rfl ?_;exact⟨_,rfl,(HQ.o.bw hb1).set3 HR1.o zZ zZ _ _ _,zga (zaa hbb hb1) (zLS _) _ _ _⟩
theorem fq_mul_self (p q:Rat):fq (decide (p<0) != decide (q<0)) (p.num.natAbs*q.num.natAbs) (p.den*q.den)=p*q:=by rw[<-fq_mul,zmb,zmb]
theorem fq_mul_self' (p q:Rat):fq (!(decide (p<0)==decide (q<0))) (p.num.natAbs*q.num.natAbs) (p.den*q.den)=p*q:=fq_mul_self p q
theorem keep6b {X Y:World} {a1 a2 a3 a4 a5 a6:Addr} {x1 x2 x3 x4 x5 x6:Value} (h:X.cell? a1=some x1/\X.cell? a2=some x2/\X.cell? a3=some x3/\X.cell? a4=some x4/\X.cell? a5=some x5/\X.cell? a6=some x6) (hb:Below X.heap.size X Y):
 Y.cell? a1=some x1/\Y.cell? a2=some x2/\Y.cell? a3=some x3/\Y.cell? a4=some x4/\Y.cell? a5=some x5/\Y.cell? a6=some x6:=by
 obtain⟨k1,k2,k3,k4,k5,k6⟩:=h;exact⟨zba hb k1,zba hb k2,zba hb k3,zba hb k4,zba hb k5,zba hb k6⟩
set_option maxRecDepth 100000 in
theorem zmk (va vb:Value) (p q:Rat) (w:World) (ha:zia w va p) (hb:zia w vb q) (hp:fits p) (hq:fits q) (hf:fits (p*q)):Calls Tryz.prog 38 #[va,vb] w (RF0 w (p*q)):=by
 obtain⟨a1,a2,rfl,n1,n2⟩:=id ha;obtain⟨b1,b2,rfl,m1,m2⟩:=id hb;obtain⟨x1,y1,z1,rfl,_⟩:=id n1.v.sl;obtain⟨x2,y2,z2,rfl,_⟩:=id n2.v.sl;obtain⟨x3,y3,z3,rfl,_⟩:=id m1.v.sl;obtain⟨x4,y4,z4,rfl,_⟩:=id m2.v.sl;have k1:=zca w (.cells #[.bool (decide (p<0)), .slice x1 y1 z1, .slice x2 y2 z2] 38);have k2:=zca (w.alloc (.cells #[.bool (decide (p<0)), .slice x1 y1 z1, .slice x2 y2 z2] 38)) (.cells #[.bool (decide (q<0)), .slice x3 y3 z3, .slice x4 y4 z4] 38);have k3:=zca ((w.alloc (.cells #[.bool (decide (p<0)), .slice x1 y1 z1, .slice x2 y2 z2] 38)).alloc (.cells #[.bool (decide (q<0)), .slice x3 y3 z3, .slice x4 y4 z4] 38)) (.cells #[.bool false, .slice none 0 0, .slice none 0 0] 38);have H3:=zpb w 38 (.bool (decide (p<0))) (.slice x1 y1 z1) (.slice x2 y2 z2) (.bool (decide (q<0))) (.slice x3 y3 z3) (.slice x4 y4 z4) (.bool false) (.slice none 0 0) (.slice none 0 0) _ rfl;obtain⟨hA,hB,hR,hbw⟩:=H3;have HA:=zH hA;have HB:=zH hB;have HR:=zH hR;have HAP:=zH (ha.bw hbw);have HBQ:=zH (hb.bw hbw);have HP:=zH hp;have HQ:=zH hq;have HPQ:=zH hf;have HL:=zH (zAI (zfc (zvb hp)) (zfc (zvb hq)));obtain⟨_,c0,c1,c2,_,_,_⟩:=id hA;obtain⟨_,d0,d1,d2,_,_,_⟩:=id hB;clear hA hB hR ha hb n1 n2 m1 m2 hp hq hf k1 k2 k3;go_enter Tryz.func38,Tryz.ntmps38
 go_upto_region 3 with(first
  |(go_at_call 49;(with_reducible refine(zvf _ p _ HAP.o HP.o).mono ?_);rintro e1 w1 ⟨rfl,hb1⟩;obtain⟨_,c0,c1,c2,_,_,_⟩:=HA.o.bS hb1;obtain⟨_,d0,d1,d2,_,_,_⟩:=HB.o.bS hb1)
  |(go_at_call 49;(with_reducible refine(zvf _ q _ (HBQ.o.bw hb1) HQ.o).mono ?_);rintro e2 w2 ⟨rfl,hb2⟩))
 have b12:=zaa hb1 hb2;have hD:=zfa (B:=w2.heap.size) w2;have b1D:=zaa b12 hD;obtain⟨_,q1,q2,q3,_,_,_⟩:=HA.o.bS b1D;obtain⟨_,r1,r2,r3,_,_,_⟩:=HB.o.bS b1D;have HRD:=zH (HR.o.bS b1D);have HAD:=zH (HAP.o.bw b1D);have HBD:=zH (HBQ.o.bw b1D);have hbwD:=zaa hbw b1D;obtain⟨u1,u2,hu,nA,nB⟩:=HAD.o;injection hu with hu
 injection hu with hu
 simp only[List.cons.injEq,and_true,true_and]at hu;obtain⟨rfl,rfl⟩:=hu;obtain⟨u1,u2,hu,mA,mB⟩:=HBD.o;injection hu with hu
 injection hu with hu
 simp only[List.cons.injEq,and_true,true_and]at hu;obtain⟨rfl,rfl⟩:=hu;have kA:w.heap.size+1+1≠w.heap.size:=zO;have kB:w.heap.size+1+1≠w.heap.size+1:=zO;have HNN:=zH (zAI nA (zAI nB (zAI mA mB)));have HDZ:zI (p.den*q.den≠0):=zH (zMZ p.den_nz q.den_nz);have HN5:zI (zha (p.num.natAbs*q.num.natAbs)<=512):=zH (zLT (zuc HL.o.1.1 HL.o.2.1) zD);have HD5:zI (zha (p.den*q.den)<=512):=zH (zLT (zuc HL.o.1.2 HL.o.2.2) zD);clear nA nB mA mB c0 c1 c2 d0 d1 d2
 go_region_held3 (λ w'=>w'.cell? ⟨w.heap.size,0,none⟩=some (.bool (decide (p<0)))/\w'.cell? ⟨w.heap.size,1,none⟩=some (.slice x1 y1 z1)/\w'.cell? ⟨w.heap.size,2,none⟩=some (.slice x2 y2 z2)/\w'.cell? ⟨w.heap.size+1,0,none⟩=some (.bool (decide (q<0)))/\w'.cell? ⟨w.heap.size+1,1,none⟩=some (.slice x3 y3 z3)/\w'.cell? ⟨w.heap.size+1,2,none⟩=some (.slice x4 y4 z4)) (first
  | with_reducible exact⟨q1,q2,q3,r1,r2,r3⟩
  | with_reducible exact keep6b (by assumption) (by assumption)
  | with_reducible exact zwm (zwm (zwm (by assumption) kA kA kA kB kB kB _) kA kA kA kB kB kB _) kA kA kA kB kB kB _) (first
  |(go_at_call 74;(with_reducible refine(zmc _ _ p.num.natAbs q.num.natAbs _ HNN.o.1.nat HNN.o.2.2.1.nat HL.o.1.1 HL.o.2.1).mono ?_);rintro e3 w3 ⟨v3,rfl,hv3,hb3⟩)
  |(go_at_call 74;(with_reducible refine(zmc _ _ p.den q.den _ (HNN.o.2.1.bw hb3).nat (HNN.o.2.2.2.bw hb3).nat HL.o.1.2 HL.o.2.2).mono ?_);rintro e4 w4 ⟨v4,rfl,hv4,hb4⟩)
  |(go_at_call 71;(with_reducible refine(zbd _ _ _ (p.num.natAbs*q.num.natAbs) (p.den*q.den) _ (hv3.bw hb4).nat hv4.nat HDZ.o HN5.o HD5.o).mono ?_);rintro e5 w5 ⟨v5,rfl,hv5,hb5⟩)
  |(go_at_call 76;(with_reducible refine(zxi _ (p*q) _ (by(have h9:=hv5;rw[fq_mul_self']at h9;exact h9)) HPQ.o).mono ?_);rintro e6 w6 ⟨v6,rfl,hv6,hb6⟩;obtain⟨t9,a91,l91,k91,a92,l92,k92,rfl⟩:=hv6.iF;have HR6:=zH ((((HRD.o.bS hb3).bS hb4).bS hb5).bS hb6);obtain⟨_,g0,g1,g2,g3,g4,g5⟩:=HR6.o))
 have hbE:=zaa (zaa (zaa (zaa hbwD hb3) hb4) hb5) hb6;go_wp2_with fail;refine zla rfl rfl Tryz.aggF Tryz.sizeF (HR6.o.set _ _ _) rfl ?_;exact⟨_,rfl,hv6.set3 HR6.o zZ zZ _ _ _,zga hbE (zLT (zLS _) (zLS _)) _ _ _⟩
theorem zfe {d:Nat}:0<zha d↔d≠0:=by
 constructor
 ·intro h e;subst e;have:=zva.2 (rfl:(0:Nat)=0);omega
 ·intro h;have :zha d≠0:=λ e=>h (zva.1 e);omega
theorem okN_iff (n d:Nat):okN n d↔0<zha d/\zha d<=128/\zha n<=128:=by
 constructor
 ·intro h;exact⟨zfe.2 h.1,zyc (k:=128) h.2.1,zyc (k:=128) h.2.2⟩
 ·intro h;exact⟨zfe.1 h.1,zdh (k:=128) h.2.1,zdh (k:=128) h.2.2⟩
set_option maxHeartbeats 800000 in
theorem zfo (v:Value) (s:Bool) (n d:Nat) (w:World) (h:zzb w v s n d):
 Calls Tryz.prog 49 #[v] w λ e w'=>e= .returned (.bool (decide (okN n d)))/\Below w.heap.size w w':=by
 obtain⟨a,b,rfl,ha,hb⟩:=h;obtain⟨aa,al,ak,rfl,_⟩:=id ha.slen.1;obtain⟨ba,bl,bk,rfl,_⟩:=id hb.slen.1;have hbx:=zca w (.cells #[.bool s, .slice aa al ak, .slice ba bl bk] 38);have hC:=C3.new w 38 (.bool s) (.slice aa al ak) (.slice ba bl bk);have HC:=zH hC;have HA:=zH (ha.bw hbx);have HB:=zH (hb.bw hbx);have HO:=zH (okN_iff n d);obtain⟨D,hD⟩:∃D,zha d=D:=⟨_,rfl⟩;obtain⟨M,hM⟩:∃M,zha n=M:=⟨_,rfl⟩;have HD:=zH hD;have HM:=zH hM;obtain⟨_,c0,c1,c2,_,_,_⟩:=id hC;clear hC ha hb hD hM
 have HOB:zI (decide (okN n d)=(decide (0<D)&&(decide (D<=128)&&decide (M<=128)))):=zH (by
  rw[Bool.eq_iff_iff];simp only[Bool.and_eq_true,decide_eq_true_eq];rw[HO.o,HD.o,HM.o])
 by_cases g1:0<D
 ·by_cases g2:D<=128
  ·skip
   go_enter Tryz.func49,Tryz.ntmps49
   go_wp2_with (first
    |(go_at_call 106;(with_reducible refine(zta _ d _ HB.o).mono ?_);rintro e1 w1 ⟨r1,rfl,hr1,hb1⟩;have s1:=hr1.v.sl;have l1:slen r1=D:=hr1.v.len.trans HD.o;have hbb:=zaa hbx hb1;obtain⟨_,c0,c1,c2,_,_,_⟩:=HC.o.bS hb1)
    |(go_at_call 106;(with_reducible refine(zta _ d _ (HB.o.bw hb1)).mono ?_);rintro e2 w2 ⟨r2,rfl,hr2,hb2⟩;have s2:=hr2.v.sl;have l2:slen r2=D:=hr2.v.len.trans HD.o;have hb12:=zaa hb1 hb2;have hbb:=zaa hbx hb12;obtain⟨_,c0,c1,c2,_,_,_⟩:=HC.o.bS hb12)
    |(go_at_call 106;(with_reducible refine(zta _ n _ (HA.o.bw hb12)).mono ?_);rintro e3 w3 ⟨r3,rfl,hr3,hb3⟩;have s3:=hr3.v.sl;have l3:slen r3=M:=hr3.v.len.trans HM.o;have hbb:=zaa hbb hb3))
   go_ret;refine⟨?_,hbb⟩;rw[HOB.o];simp[g1,g2];omega
  ·skip
   go_enter Tryz.func49,Tryz.ntmps49
   go_wp2_with (first
    |(go_at_call 106;(with_reducible refine(zta _ d _ HB.o).mono ?_);rintro e1 w1 ⟨r1,rfl,hr1,hb1⟩;have s1:=hr1.v.sl;have l1:slen r1=D:=hr1.v.len.trans HD.o;have hbb:=zaa hbx hb1;obtain⟨_,c0,c1,c2,_,_,_⟩:=HC.o.bS hb1)
    |(go_at_call 106;(with_reducible refine(zta _ d _ (HB.o.bw hb1)).mono ?_);rintro e2 w2 ⟨r2,rfl,hr2,hb2⟩;have s2:=hr2.v.sl;have l2:slen r2=D:=hr2.v.len.trans HD.o;have hb12:=zaa hb1 hb2;have hbb:=zaa hbx hb12;obtain⟨_,c0,c1,c2,_,_,_⟩:=HC.o.bS hb12)
    |(go_at_call 106;(with_reducible refine(zta _ n _ (HA.o.bw hb12)).mono ?_);rintro e3 w3 ⟨r3,rfl,hr3,hb3⟩;have s3:=hr3.v.sl;have l3:slen r3=M:=hr3.v.len.trans HM.o;have hbb:=zaa hbb hb3))
   go_ret;refine⟨?_,hbb⟩;rw[HOB.o];simp[g1,g2]
 ·skip
  go_enter Tryz.func49,Tryz.ntmps49
  go_wp2_with (first
   |(go_at_call 106;(with_reducible refine(zta _ d _ HB.o).mono ?_);rintro e1 w1 ⟨r1,rfl,hr1,hb1⟩;have s1:=hr1.v.sl;have l1:slen r1=D:=hr1.v.len.trans HD.o;have hbb:=zaa hbx hb1;obtain⟨_,c0,c1,c2,_,_,_⟩:=HC.o.bS hb1)
   |(go_at_call 106;(with_reducible refine(zta _ d _ (HB.o.bw hb1)).mono ?_);rintro e2 w2 ⟨r2,rfl,hr2,hb2⟩;have s2:=hr2.v.sl;have l2:slen r2=D:=hr2.v.len.trans HD.o;have hb12:=zaa hb1 hb2;have hbb:=zaa hbx hb12;obtain⟨_,c0,c1,c2,_,_,_⟩:=HC.o.bS hb12)
   |(go_at_call 106;(with_reducible refine(zta _ n _ (HA.o.bw hb12)).mono ?_);rintro e3 w3 ⟨r3,rfl,hr3,hb3⟩;have s3:=hr3.v.sl;have l3:slen r3=M:=hr3.v.len.trans HM.o;have hbb:=zaa hbb hb3))
  go_ret;refine⟨?_,hbb⟩;rw[HOB.o];simp[g1]
theorem znf (v:Value) (s:Bool) (n d:Nat) (w:World) (h:zzb w v s n d) (hk:okN n d):
 Calls Tryz.prog 49 #[v] w λ e w'=>e= .returned (.bool true)/\Below w.heap.size w w':=
 (zfo v s n d w h).mono λ e w' ⟨h1,h2⟩=>⟨by rw[h1,zDT hk],h2⟩
theorem zyp (v:Value) (s:Bool) (n d:Nat) (w:World) (h:zzb w v s n d) (hk:¬okN n d):
 Calls Tryz.prog 49 #[v] w λ e w'=>e= .returned (.bool false)/\Below w.heap.size w w':=
 (zfo v s n d w h).mono λ e w' ⟨h1,h2⟩=>⟨by rw[h1,zDF hk],h2⟩
set_option maxHeartbeats 1600000
theorem fits_nlen (q:Rat):fits q↔zha q.num.natAbs<=128/\zha q.den<=128:=
 ⟨λ h=>⟨zyc (k:=128) h.1,zyc (k:=128) h.2⟩,λ h=>⟨zdh (k:=128) h.1,zdh (k:=128) h.2⟩⟩
theorem r2large_any (v:Value) (q:Rat) (w:World) (h:zia w v q) (b:Bool) (hf:b=true↔¬fits q):
 Calls Tryz.prog 154 #[v] w λ e w'=>e= .returned (.bool b)/\Below w.heap.size w w':=by
 obtain⟨a,c,rfl,ha,hc⟩:=h;have hn:=fits_nlen q;obtain⟨aa,al,ak,rfl,_⟩:=id ha.v.sl;obtain⟨ba,bl,bk,rfl,_⟩:=id hc.v.sl;have e1:al=zha q.num.natAbs:=ha.v.len;have e2:bl=zha q.den:=hc.v.len;rw[<-e1,<-e2]at hn
 have HF:zI (b=decide (128<al\/128<bl)):=zH (by
  by_cases h9:128<al\/128<bl
  ·rw[zDT h9];exact hf.2 (λ h=>by have:=hn.1 h;omega)
  ·rw[zDF h9];exact Bool.eq_false_iff.2 (λ h=>hf.1 h (hn.2 zO)))
 have hbx:=zca w (.cells #[.bool (decide (q<0)), .slice aa al ak, .slice ba bl bk] 38);have hC:=C3.new w 38 (.bool (decide (q<0))) (.slice aa al ak) (.slice ba bl bk);obtain⟨_,c0,c1,c2,_,_,_⟩:=id hC;clear hC hf hn e1 e2;by_cases g1:128<al
 ·go_enter Tryz.func154,Tryz.ntmps154;go_wp2_with fail;go_ret;refine⟨?_,hbx⟩;rw[HF.o];simp[g1]
 ·go_enter Tryz.func154,Tryz.ntmps154;go_wp2_with fail;go_ret;refine⟨?_,hbx⟩;rw[HF.o];simp[g1];rw[zDF zO,Bool.false_or];by_cases g2:128<bl
  ·rw[zDT g2,zDT zO]
  ·rw[zDF g2,zDF zO]
theorem r2fits_yes (v:Value) (q:Rat) (w:World) (h:zia w v q) (hf:fits q):Calls Tryz.prog 76 #[v] w (zhl w q):=
 (zxi v q w h hf).mono λ e w' ⟨v',he,hv,hb⟩=>⟨v',0,he,hb,λ _=>⟨rfl,hv⟩,λ h=>absurd hf h⟩
theorem r2fits_no (v:Value) (q:Rat) (w:World) (h:zia w v q) (hf:¬fits q):Calls Tryz.prog 76 #[v] w (zhl w q):=by
 obtain⟨a,b,rfl,ha,hb⟩:=id h;obtain⟨aa,al,ak,rfl,_⟩:=id ha.v.sl;obtain⟨ba,bl,bk,rfl,_⟩:=id hb.v.sl;have hbx:=zca w (.cells #[.bool (decide (q<0)), .slice aa al ak, .slice ba bl bk] 38);have hb2:=zca (w.alloc (.cells #[.bool (decide (q<0)), .slice aa al ak, .slice ba bl bk] 38)) (.cells #[.bool false, .slice none 0 0, .slice none 0 0] 38);have hC:=(C3.new w 38 (.bool (decide (q<0))) (.slice aa al ak) (.slice ba bl bk)).bS hb2;have hR:=C3.newB (b:=w.heap.size+1) (w.alloc (.cells #[.bool (decide (q<0)), .slice aa al ak, .slice ba bl bk] 38)) 38 (.bool false) (.slice none 0 0) (.slice none 0 0) (by simp);have HC:=zH hC;have HR:=zH hR;have HF:=zH hf;have HQ:=zH ((h.bw hbx).bw hb2);have hbb:=zaa hbx hb2;obtain⟨_,c0,c1,c2,_,_,_⟩:=id hC;clear hC hR hf h ha hb;go_enter Tryz.func76,Tryz.ntmps76;go_wp2_with (go_at_call 154;(with_reducible refine(r2large_any _ q _ HQ.o true ⟨λ _=>HF.o,λ _=>rfl⟩).mono ?_);rintro e1 w1 ⟨rfl,hb1⟩;obtain⟨_,c0,c1,c2,_,_,_⟩:=HC.o.bS hb1;have HR1:=zH (HR.o.bS hb1);obtain⟨_,d0,d1,d2,d3,d4,d5⟩:=HR1.o);refine zla rfl rfl Tryz.aggF Tryz.sizeF (HR1.o.set _ _ _) rfl ?_;exact⟨_,_,rfl,zga (zaa hbb hb1) (zLS _) _ _ _,λ h=>absurd h HF.o,λ _=>⟨rfl,rfl⟩⟩
theorem zul (v:Value) (q:Rat) (w:World) (h:zia w v q):Calls Tryz.prog 76 #[v] w (zhl w q):=by
 by_cases hf:fits q
 ·exact r2fits_yes v q w h hf
 ·exact r2fits_no v q w h hf
theorem zji (va:Value) (s:Bool) (n d:Nat) (w:World) (ha:zzb w va s n d):
 Calls Tryz.prog 116 #[va] w (RRed w s n d):=by
 have hA:=ha;obtain⟨xn,xd,rfl,hxn,hxd⟩:=ha;obtain⟨an,ln,kn,rfl,_⟩:=hxn.slen.1;obtain⟨ad,ld,kd,rfl,_⟩:=hxd.slen.1;go_enter Tryz.func116,Tryz.ntmps116;go_wp2_with fail;obtain⟨W,hW⟩:∃W,W=((w.alloc (.cells #[.bool s, .slice an ln kn, .slice ad ld kd] 38)).alloc (.cells #[.bool false, .slice none 0 0, .slice none 0 0] 38)):=⟨_,rfl⟩;obtain⟨bx,bz,hbw⟩:=zsf w 38 _ _ _ _ _ _ W hW;rw[<-hW];clear hW;have HBX:=zH bx;have HBZ:=zH bz;obtain⟨_,q1,q2,q3,q4,q5,q6⟩:=bx;clear bz;by_cases hk:okN n d
 ·have K:=zH hk;have NN:=zH (zLT (zyc (n:=n) (k:=128) hk.2.2) (show 128<=512 by decide));have ND:=zH (zLT (zyc (n:=d) (k:=128) hk.2.1) (show 128<=512 by decide));have D0:=zH hk.1;clear hk
  go_wp2_with (first
   |(go_at_call 49;(with_reducible refine(znf _ s n d _ (hA.bw hbw) K.o).mono ?_);rintro e9 w1 ⟨rfl,hv1⟩;obtain⟨_,f1,f2,f3,f4,f5,f6⟩:=HBX.o.bS hv1;have hbw1:=zaa hbw hv1)
   |(go_at_call 71;(with_reducible refine(zbd s _ _ n d _ (hxn.bw hbw1) (hxd.bw hbw1) D0.o NN.o ND.o).mono ?_);rintro e9 w7 ⟨v,rfl,hv4,hv5⟩;obtain⟨t9,a1,l91,k1,a2,l92,k2,rfl⟩:=hv4.iF;have hC:=(HBZ.o.bS hv1).bS hv5;have HC:=zH hC;have hbz:=zaa hbw1 hv5;obtain⟨_,d0,d1,d2,e0,e1,e2⟩:=hC))
  refine zla rfl rfl Tryz.aggF Tryz.sizeF (HC.o.set _ _ _) rfl ?_;exact⟨_,_,rfl,zga hbz zO _ _ _,λ h=>⟨rfl,hv4.set3 HC.o zZ zZ _ _ _⟩,λ h=>absurd K.o h⟩
 ·have K:=zH hk;clear hk
  go_wp2_with (first
   |(go_at_call 49;(with_reducible refine(zyp _ s n d _ (hA.bw hbw) K.o).mono ?_);rintro e9 w1 ⟨rfl,hv1⟩;have hC:=HBZ.o.bS hv1;have HC:=zH hC;have hbz:=zaa hbw hv1;obtain⟨_,d0,d1,d2,e0,e1,e2⟩:=hC))
  refine zla rfl rfl Tryz.aggF Tryz.sizeF (HC.o.set _ _ _) rfl ?_;exact⟨_,_,rfl,zga hbz zO _ _ _,λ h=>absurd h K.o,λ _=>⟨rfl,rfl⟩⟩
theorem rcmp_ge0 (va vb:Value) (m n:Nat) (w:World) (ha:zcc w va m) (hb:zcc w vb n) (h:n<=m):
 Calls Tryz.prog 77 #[va,vb] w λ e w'=>(∃c:Int,e= .returned (.int .i64 c)/\decide (0<=c)=true)/\Below w.heap.size w w':=
 (zjf va vb m n w ha hb).mono λ _ _ ⟨a,b⟩=>⟨⟨_,a,by unfold zbm;rw[zIN zO];split<;>rfl⟩,b⟩
theorem rcmp_lt0 (va vb:Value) (m n:Nat) (w:World) (ha:zcc w va m) (hb:zcc w vb n) (h:m<n):
 Calls Tryz.prog 77 #[va,vb] w λ e w'=>(∃c:Int,e= .returned (.int .i64 c)/\decide (0<=c)=false)/\Below w.heap.size w w':=
 (zjf va vb m n w ha hb).mono λ _ _ ⟨a,b⟩=>⟨⟨_,a,by rw[zqi h];rfl⟩,b⟩
set_option maxRecDepth 100000 in
theorem r2add_any (va vb:Value) (s t:Bool) (n d m e:Nat) (w:World) (ha:zzb w va s n d) (hb:zzb w vb t m e) (h1:okN n d) (h2:okN m e):
 Calls Tryz.prog 19 #[va,vb] w (zhl w (fq s n d+fq t m e)):=by
 have hA:=ha;have hB:=hb;obtain⟨xn,xd,rfl,hxn,hxd⟩:=ha;obtain⟨yn,yd,rfl,hyn,hyd⟩:=hb;obtain⟨an,ln,kn,rfl,_⟩:=hxn.slen.1;obtain⟨ad,ld,kd,rfl,_⟩:=hxd.slen.1;obtain⟨am,lm,km,rfl,_⟩:=hyn.slen.1;obtain⟨ae,le,ke,rfl,_⟩:=hyd.slen.1;have K1:=zH h1;have K2:=zH h2;clear h1 h2;go_enter Tryz.func19,Tryz.ntmps19;go_wp2_with fail;obtain⟨W,hW⟩:∃W,W=(((w.alloc (.cells #[.bool s, .slice an ln kn, .slice ad ld kd] 38)).alloc (.cells #[.bool t, .slice am lm km, .slice ae le ke] 38)).alloc (.cells #[.bool false, .slice none 0 0, .slice none 0 0] 38)):=⟨_,rfl⟩;obtain⟨bx,byy,bz,hbw⟩:=zpb w 38 _ _ _ _ _ _ _ _ _ W hW;rw[<-hW];clear hW;have HBX:=zH bx;have HBY:=zH byy;have HBZ:=zH bz;obtain⟨_,q1,q2,q3,q4,q5,q6⟩:=bx;obtain⟨_,r1,r2,r3,r4,r5,r6⟩:=byy
 go_wp2_with (first
  |(go_at_call 49;first
    |((with_reducible refine(znf _ s n d _ (hA.bw hbw) K1.o).mono ?_);rintro e9 w1 ⟨rfl,hv1⟩
      obtain⟨_,f1,f2,f3,f4,f5,f6⟩:=HBY.o.bS hv1;have hbw1:=hbw.trans (hv1.mono hbw.size))
    |((with_reducible refine(znf _ t m e _ (hB.bw hbw1) K2.o).mono ?_);rintro e9 w2 ⟨rfl,hv2⟩
      have hbx2:=(HBX.o.bS hv1).bS hv2;have hby2:=(HBY.o.bS hv1).bS hv2;have hbz2:=(HBZ.o.bS hv1).bS hv2;have hbw2:=hbw1.trans (hv2.mono hbw1.size))))
 clear q1 q2 q3 q4 q5 q6 r1 r2 r3 r4 r5 r6 f1 f2 f3 f4 f5 f6;have hd2:=zfa (B:=w2.heap.size) w2;have hD:=hbw2.trans (hd2.mono hbw2.size);have hbx3:=hbx2.bS hd2;have hby3:=hby2.bS hd2;have hbz3:=hbz2.bS hd2;clear hbx2 hby2 hbz2 hbw2 hv1 hv2 hbw hbw1 HBX HBY HBZ bz hd2;have HX3:=zH hbx3;have HY3:=zH hby3;have HZ3:=zH hbz3;obtain⟨_,q1,q2,q3,q4,q5,q6⟩:=hbx3;obtain⟨_,r1,r2,r3,r4,r5,r6⟩:=hby3;clear hbz3;have g1:=hxn.bw hD;have g2:=hxd.bw hD;have g3:=hyn.bw hD;have g4:=hyd.bw hD;have l1:=zH (zfc K1.o);have l2:=zH (zfc K2.o);have tok1:True:=trivial;have tok2:True:=trivial;have tok3:True:=trivial
 go_region_held3 (λ w'=>w'.cell? ⟨w.heap.size,1,none⟩=some (.slice an ln kn)/\w'.cell? ⟨w.heap.size,2,none⟩=some (.slice ad ld kd)/\w'.cell? ⟨w.heap.size+1,1,none⟩=some (.slice am lm km)/\w'.cell? ⟨w.heap.size+1,2,none⟩=some (.slice ae le ke)) (exact⟨q2,q3,r2,r3⟩) (first
  |(go_at_call 74;have _t:=tok1;clear tok1 _t;(with_reducible refine(zmc _ _ n e _ g1 g4 l1.o.1 l2.o.2).mono ?_);rintro e9 w3 ⟨p1,rfl,hp1,hp2⟩;have X4:=HX3.o.bS hp2;have Y4:=HY3.o.bS hp2;have HX4:=zH X4;have HY4:=zH Y4;obtain⟨_,q1,q2,q3,q4,q5,q6⟩:=X4;obtain⟨_,r1,r2,r3,r4,r5,r6⟩:=Y4)
  |(go_at_call 74;have _t:=tok2;clear tok2 _t;(with_reducible refine(zmc _ _ m d _ (g3.bw hp2) (g2.bw hp2) l2.o.1 l1.o.2).mono ?_);rintro e9 w4 ⟨p3,rfl,hp3,hp4⟩;have hp24:=zaa hp2 hp4;have hp14:=hp1.bw hp4;have X5:=HX4.o.bS hp4;have Y5:=HY4.o.bS hp4;have HX5:=zH X5;have HY5:=zH Y5;obtain⟨_,q1,q2,q3,q4,q5,q6⟩:=X5;obtain⟨_,r1,r2,r3,r4,r5,r6⟩:=Y5)
  |(go_at_call 74;have _t:=tok3;clear tok3 _t;(with_reducible refine(zmc _ _ d e _ (g2.bw hp24) (g4.bw hp24) l1.o.2 l2.o.2).mono ?_);rintro e9 w5 ⟨p5,rfl,hp5,hp6⟩;have hp26:=zaa hp24 hp6;have hp16:=hp14.bw hp6;have hp36:=hp3.bw hp6;have X6:=HX5.o.bS hp6;have Y6:=HY5.o.bS hp6;have HX6:=zH X6;have HY6:=zH Y6;obtain⟨_,q1,q2,q3,q4,q5,q6⟩:=X6;obtain⟨_,r1,r2,r3,r4,r5,r6⟩:=Y6))
 have hdw:Below w.heap.size w w5:=hD.trans (hp26.mono hD.size);have HZ6:=zH (HZ3.o.bS hp26);have HDE:zI (d*e≠0):=zH (zMZ K1.o.1 K2.o.1);have N1:=zH (zuc l1.o.1 l2.o.2);have N3:=zH (zuc l2.o.1 l1.o.2);have N5:=zH (zLT (zuc l1.o.2 l2.o.2) (show 128+128<=512 by decide));have NS:=zH (zLT (nlen_sum N1.o N3.o) (show 128+128+1<=512 by decide));have N12:=zH (zLT N1.o (show 128+128<=512 by decide));have N32:=zH (zLT N3.o (show 128+128<=512 by decide));clear hp24 hp26 hp14 hp1 hp3 hp2 hp4 hp6 hD HZ3 g1 g2 g3 g4 HX3 HY3 HX4 HY4 HX5 HY5;by_cases hst:s=t
 ·have HQ:=zH (zuj s n d m e K1.o.1 K2.o.1);subst hst
  go_wp2_with (first
   |(go_at_call 75;(with_reducible refine(radd_any p1 p3 (n*e) (m*d) _ hp16.nat hp36.nat N12.o N32.o).mono ?_);rintro e9 w6 ⟨r,er,rfl,hr,hb6⟩;have hr6:=(hr.1 NS.o).2;have hp56:=hp5.bw hb6;have hdw6:=zaa hdw hb6;have HZ7:=zH (HZ6.o.bS hb6);obtain⟨_,q1,q2,q3,q4,q5,q6⟩:=HX6.o.bS hb6;obtain⟨_,r1,r2,r3,r4,r5,r6⟩:=HY6.o.bS hb6;)
   |(go_at_call 71;(with_reducible refine(zbd s r p5 (n*e+m*d) (d*e) _ hr6.nat hp56.nat HDE.o NS.o N5.o).mono ?_);rintro e9 w7 ⟨v7,rfl,hv7,hb7⟩;rw[<-HQ.o]at hv7;have hdw7:=zaa hdw6 hb7;have HZ8:=zH (HZ7.o.bS hb7);)
   |(go_at_call 76;(with_reducible refine(zul v7 _ _ hv7).mono ?_);rintro e9 w8 ⟨v,er8,rfl,hv1,hv2,hv3⟩;obtain⟨t9,x9,y9,rfl,⟨a1,l91,k1,rfl,_⟩,⟨a2,l92,k2,rfl,_⟩⟩:=zdc (w0:=w) hv2 hv3;have hC:=HZ8.o.bS hv1;have HC:=zH hC;have hbz:=zaa hdw7 hv1;obtain⟨_,d0,d1,d2,e0,e1,e2⟩:=hC;)
   )
  refine zla rfl rfl Tryz.aggF Tryz.sizeF (HC.o.set _ _ _) rfl ?_;exact⟨_,_,rfl,zga hbz zO _ _ _,λ h=>⟨(hv2 h).1,(hv2 h).2.set3 HC.o zZ zZ _ _ _⟩,hv3⟩
 ·have hsb:(s==t)=false:=by simpa using hst
  by_cases hle:m*d<=n*e
  ·have HQ:=zH (fq_add_ge s t n d m e K1.o.1 K2.o.1 hsb hle);have HLE:=zH hle;have NS:=zH (zLT (zob (Nat.sub_le (n*e) (m*d))) N12.o);clear hle
   go_wp2_with (first
    |(go_at_call 77;(with_reducible refine(rcmp_ge0 p1 p3 (n*e) (m*d) _ hp16.nat hp36.nat HLE.o).mono ?_);rintro e9 w5b ⟨⟨c,rfl,hc⟩,hb5⟩;have hp16:=hp16.bw hb5;have hp36:=hp36.bw hb5;have hp5:=hp5.bw hb5;have HX6:=zH (HX6.o.bS hb5);have HY6:=zH (HY6.o.bS hb5);have HZ6:=zH (HZ6.o.bS hb5);have hdw:=zaa hdw hb5)
    |(go_at_call 78;(with_reducible refine(rsub_le p1 p3 (n*e) (m*d) _ hp16.nat hp36.nat N12.o HLE.o).mono ?_);rintro e9 w6 ⟨r,rfl,hr6,hb6⟩;have hp56:=hp5.bw hb6;have hdw6:=zaa hdw hb6;have HZ7:=zH (HZ6.o.bS hb6);obtain⟨_,q1,q2,q3,q4,q5,q6⟩:=HX6.o.bS hb6;obtain⟨_,r1,r2,r3,r4,r5,r6⟩:=HY6.o.bS hb6;)
    |(go_at_call 71;(with_reducible refine(zbd s r p5 (n*e-m*d) (d*e) _ hr6.nat hp56.nat HDE.o NS.o N5.o).mono ?_);rintro e9 w7 ⟨v7,rfl,hv7,hb7⟩;rw[<-HQ.o]at hv7;have hdw7:=zaa hdw6 hb7;have HZ8:=zH (HZ7.o.bS hb7);)
    |(go_at_call 76;(with_reducible refine(zul v7 _ _ hv7).mono ?_);rintro e9 w8 ⟨v,er8,rfl,hv1,hv2,hv3⟩;obtain⟨t9,x9,y9,rfl,⟨a1,l91,k1,rfl,_⟩,⟨a2,l92,k2,rfl,_⟩⟩:=zdc (w0:=w) hv2 hv3;have hC:=HZ8.o.bS hv1;have HC:=zH hC;have hbz:=zaa hdw7 hv1;obtain⟨_,d0,d1,d2,e0,e1,e2⟩:=hC;)
    )
   refine zla rfl rfl Tryz.aggF Tryz.sizeF (HC.o.set _ _ _) rfl ?_;exact⟨_,_,rfl,zga hbz zO _ _ _,λ h=>⟨(hv2 h).1,(hv2 h).2.set3 HC.o zZ zZ _ _ _⟩,hv3⟩
  ·have hlt:n*e<m*d:=Nat.lt_of_not_le hle;have HQ:=zH (fq_add_lt s t n d m e K1.o.1 K2.o.1 hsb (zLO hlt));have HLT:=zH hlt;have NS:=zH (zLT (zob (Nat.sub_le (m*d) (n*e))) N32.o);clear hle hlt
   go_wp2_with (first
    |(go_at_call 77;(with_reducible refine(rcmp_lt0 p1 p3 (n*e) (m*d) _ hp16.nat hp36.nat HLT.o).mono ?_);rintro e9 w5b ⟨⟨c,rfl,hc⟩,hb5⟩;have hp16:=hp16.bw hb5;have hp36:=hp36.bw hb5;have hp5:=hp5.bw hb5;have HX6:=zH (HX6.o.bS hb5);have HY6:=zH (HY6.o.bS hb5);have HZ6:=zH (HZ6.o.bS hb5);have hdw:=zaa hdw hb5)
    |(go_at_call 78;(with_reducible refine(rsub_le p3 p1 (m*d) (n*e) _ hp36.nat hp16.nat N32.o (zLO HLT.o)).mono ?_);rintro e9 w6 ⟨r,rfl,hr6,hb6⟩;have hp56:=hp5.bw hb6;have hdw6:=zaa hdw hb6;have HZ7:=zH (HZ6.o.bS hb6);obtain⟨_,q1,q2,q3,q4,q5,q6⟩:=HX6.o.bS hb6;obtain⟨_,r1,r2,r3,r4,r5,r6⟩:=HY6.o.bS hb6;)
    |(go_at_call 71;(with_reducible refine(zbd t r p5 (m*d-n*e) (d*e) _ hr6.nat hp56.nat HDE.o NS.o N5.o).mono ?_);rintro e9 w7 ⟨v7,rfl,hv7,hb7⟩;rw[<-HQ.o]at hv7;have hdw7:=zaa hdw6 hb7;have HZ8:=zH (HZ7.o.bS hb7);)
    |(go_at_call 76;(with_reducible refine(zul v7 _ _ hv7).mono ?_);rintro e9 w8 ⟨v,er8,rfl,hv1,hv2,hv3⟩;obtain⟨t9,x9,y9,rfl,⟨a1,l91,k1,rfl,_⟩,⟨a2,l92,k2,rfl,_⟩⟩:=zdc (w0:=w) hv2 hv3;have hC:=HZ8.o.bS hv1;have HC:=zH hC;have hbz:=zaa hdw7 hv1;obtain⟨_,d0,d1,d2,e0,e1,e2⟩:=hC;)
    )
   refine zla rfl rfl Tryz.aggF Tryz.sizeF (HC.o.set _ _ _) rfl ?_;exact⟨_,_,rfl,zga hbz zO _ _ _,λ h=>⟨(hv2 h).1,(hv2 h).2.set3 HC.o zZ zZ _ _ _⟩,hv3⟩
end Go.Proofs.YtlpdkbmmbdfoiaaGreat
