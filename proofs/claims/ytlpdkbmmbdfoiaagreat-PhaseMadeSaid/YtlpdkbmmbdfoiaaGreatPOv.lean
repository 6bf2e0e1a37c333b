/- Lemmas. -/
import Derived.Test.YtlpdkbmmbdfoiaaGreatPRb5
set_option linter.unusedVariables false
set_option linter.unusedSimpArgs false
namespace Go.Proofs.YtlpdkbmmbdfoiaaGreat
set_option maxHeartbeats 1600000
open Go.RowKit
theorem cmpN_swap (a b:Nat):zbm b a= -zbm a b:=by
 unfold zbm;rcases Nat.lt_trichotomy a b with h | h | h
 ·rw[zIN zO,zIP h,zIP h];rfl
 ·subst h;rw[zIN zO,zIN zO];rfl
 ·rw[zIP h,zIN zO,zIP h]
theorem nlen_prod {n e:Nat} (he:e≠0):(n=0->zha (n*e)=0)/\(n≠0->0<zha (n*e)):=
 ⟨λ h=>zva.2 (by rw[h,Nat.zero_mul]),λ h=>zfe.2 (zMZ h he)⟩
set_option maxRecDepth 100000 in
theorem zoj (va vb:Value) (s t:Bool) (n d m e:Nat) (w:World) (ha:zzb w va s n d) (hb:zzb w vb t m e) (h1:okN n d) (h2:okN m e):
 Calls Tryz.prog 100 #[va,vb] w λ en w'=>en= .returned (.int .i64 (zdl (fq s n d) (fq t m e)))/\Below w.heap.size w w':=by
 obtain⟨xn,xd,rfl,hxn,hxd⟩:=ha;obtain⟨yn,yd,rfl,hyn,hyd⟩:=hb;obtain⟨an,ln,kn,rfl,_⟩:=hxn.slen.1;obtain⟨ad,ld,kd,rfl,_⟩:=hxd.slen.1;obtain⟨am,lm,km,rfl,_⟩:=hyn.slen.1;obtain⟨ae,le,ke,rfl,_⟩:=hyd.slen.1;have l1:=zH (zfc h1);have l2:=zH (zfc h2);have z1:=nlen_prod (n:=n) h2.1;have z2:=nlen_prod (n:=m) h1.1;have HR:=zH (cmpR_eq s t n d m e h1.1 h2.1);have HSW:=zH (cmpN_swap (n*e) (m*d));clear h1 h2;obtain⟨L1,hL1⟩:∃L,zha (n*e)=L:=⟨_,rfl⟩;obtain⟨L2,hL2⟩:∃L,zha (m*d)=L:=⟨_,rfl⟩;rw[hL1]at z1;rw[hL2]at z2;have HL1:=zH hL1;have HL2:=zH hL2
 have hX:(s=false)\/(s=true/\n=0/\L1=0)\/(s=true/\n≠0/\0<L1):=by
  cases s
  ·exact Or.inl rfl
  ·by_cases h:n=0
   ·exact Or.inr (Or.inl ⟨rfl,h,z1.1 h⟩)
   ·exact Or.inr (Or.inr ⟨rfl,h,z1.2 h⟩)
 have hY:(t=false)\/(t=true/\m=0/\L2=0)\/(t=true/\m≠0/\0<L2):=by
  cases t
  ·exact Or.inl rfl
  ·by_cases h:m=0
   ·exact Or.inr (Or.inl ⟨rfl,h,z2.1 h⟩)
   ·exact Or.inr (Or.inr ⟨rfl,h,z2.2 h⟩)
 have HX0:=zH hX;have HY0:=zH hY;clear hL1 hL2 z1 z2 hX hY;go_enter Tryz.func100,Tryz.ntmps100;go_wp2_with fail;obtain⟨W,hW⟩:∃W,W=((w.alloc (.cells #[.bool s, .slice an ln kn, .slice ad ld kd] 38)).alloc (.cells #[.bool t, .slice am lm km, .slice ae le ke] 38)):=⟨_,rfl⟩;obtain⟨bx,byy,hbw⟩:=zsf w 38 _ _ _ _ _ _ W hW;rw[<-hW];clear hW;have hd2:=zfa (B:=W.heap.size) W;have hD:=zaa hbw hd2;have hbx3:=bx.bS hd2;have hby3:=byy.bS hd2;have HX3:=zH hbx3;have HY3:=zH hby3;obtain⟨_,q1,q2,q3,q4,q5,q6⟩:=hbx3;obtain⟨_,r1,r2,r3,r4,r5,r6⟩:=hby3;have g1:=hxn.bw hD;have g2:=hxd.bw hD;have g3:=hyn.bw hD;have g4:=hyd.bw hD;clear bx byy hd2;have tok1:True:=trivial
 go_region_held3 (λ w'=>w'.cell? ⟨w.heap.size,1,none⟩=some (.slice an ln kn)/\w'.cell? ⟨w.heap.size,2,none⟩=some (.slice ad ld kd)/\w'.cell? ⟨w.heap.size+1,1,none⟩=some (.slice am lm km)/\w'.cell? ⟨w.heap.size+1,2,none⟩=some (.slice ae le ke)) (exact⟨q2,q3,r2,r3⟩) (first
  |(go_at_call 74;have _t:=tok1;clear tok1 _t;(with_reducible refine(zmc _ _ n e _ g1 g4 l1.o.1 l2.o.2).mono ?_);rintro e9 w3 ⟨p1,rfl,hp1,hp2⟩;have X4:=HX3.o.bS hp2;have Y4:=HY3.o.bS hp2;have HX4:=zH X4;have HY4:=zH Y4;obtain⟨_,q1,q2,q3,q4,q5,q6⟩:=X4;obtain⟨_,r1,r2,r3,r4,r5,r6⟩:=Y4)
  |(go_at_call 74;(with_reducible refine(zmc _ _ m d _ (g3.bw hp2) (g2.bw hp2) l2.o.1 l1.o.2).mono ?_);rintro e9 w4 ⟨p3,rfl,hp3,hp4⟩;have hp24:=zaa hp2 hp4;have hp14:=hp1.bw hp4;have X5:=HX4.o.bS hp4;have Y5:=HY4.o.bS hp4;have HX5:=zH X5;have HY5:=zH Y5;obtain⟨_,q1,q2,q3,q4,q5,q6⟩:=X5;obtain⟨_,r1,r2,r3,r4,r5,r6⟩:=Y5))
 have hdw:Below w.heap.size w w4:=hD.trans (hp24.mono hD.size);have HP1:=zH hp14;have HP3:=zH hp3;have sp1:=hp14.v.sl;have lp1:slen p1=L1:=hp14.v.len.trans HL1.o;have sp3:=hp3.v.sl;have lp3:slen p3=L2:=hp3.v.len.trans HL2.o;have k1:=HX5.o.c0;have k2:=HY5.o.c0;clear hp24 hp14 hp1 hp3 hp2 hp4 hD g1 g2 g3 g4 HX3 HY3 HX4 HY4 q1 q2 q3 q4 q5 q6 r1 r2 r3 r4 r5 r6 hbw
 rcases HX0.o with rfl | ⟨rfl,hn0,hl0⟩ | ⟨rfl,hn0,hl0⟩<;>rcases HY0.o with rfl | ⟨rfl,hm0,hk0⟩ | ⟨rfl,hm0,hk0⟩<;>(
  try subst hl0
  try subst hk0
  clear HX0 HY0
  go_wp2_with (go_at_call 77;first
   |((with_reducible refine(zjf p1 p3 (n*e) (m*d) _ HP1.o.nat HP3.o.nat).mono ?_);rintro e9 w9 ⟨rfl,hb9⟩;have hdw:=zaa hdw hb9)
   |((with_reducible refine(zjf p3 p1 (m*d) (n*e) _ HP3.o.nat HP1.o.nat).mono ?_);rintro e9 w9 ⟨rfl,hb9⟩;rw[HSW.o];have hdw:=zaa hdw hb9))
  all_goals
   go_ret;exact⟨by rw[HR.o];simp[*],hdw⟩)
theorem cmpR_beq (p q:Rat):(zdl p q==0)=decide (p=q):=by
 have:=zvh p q;by_cases h:p=q
 ·rw[zDT h,this.2 h];rfl
 ·rw[zDF h];have h2:zdl p q≠0:=λ e=>h (this.1 e)
  simpa using h2
theorem r2same_any (va vb:Value) (s t:Bool) (n d m e:Nat) (w:World) (ha:zzb w va s n d) (hb:zzb w vb t m e) (h1:okN n d) (h2:okN m e):
 Calls Tryz.prog 33 #[va,vb] w λ en w'=>en= .returned (.bool (decide (fq s n d=fq t m e)))/\Below w.heap.size w w':=by
 have hA:=ha;have hB:=hb;obtain⟨xn,xd,rfl,hxn,hxd⟩:=ha;obtain⟨yn,yd,rfl,hyn,hyd⟩:=hb;obtain⟨an,ln,kn,rfl,_⟩:=hxn.slen.1;obtain⟨ad,ld,kd,rfl,_⟩:=hxd.slen.1;obtain⟨am,lm,km,rfl,_⟩:=hyn.slen.1;obtain⟨ae,le,ke,rfl,_⟩:=hyd.slen.1;have K1:=zH h1;have K2:=zH h2;have HE:=zH (cmpR_beq (fq s n d) (fq t m e));clear h1 h2;go_enter Tryz.func33,Tryz.ntmps33;go_wp2_with fail;obtain⟨W,hW⟩:∃W,W=((w.alloc (.cells #[.bool s, .slice an ln kn, .slice ad ld kd] 38)).alloc (.cells #[.bool t, .slice am lm km, .slice ae le ke] 38)):=⟨_,rfl⟩;obtain⟨bx,byy,hbw⟩:=zsf w 38 _ _ _ _ _ _ W hW;rw[<-hW];clear hW;obtain⟨_,q1,q2,q3,q4,q5,q6⟩:=bx;obtain⟨_,r1,r2,r3,r4,r5,r6⟩:=byy;go_wp2_with (go_at_call 100;(with_reducible refine(zoj _ _ s t n d m e _ (hA.bw hbw) (hB.bw hbw) K1.o K2.o).mono ?_);rintro e9 w9 ⟨rfl,hb9⟩);go_ret;exact⟨by rw[<-HE.o];rfl,zaa hbw hb9⟩
theorem ztl (va:Value) (s:Bool) (n d:Nat) (w:World) (ha:zzb w va s n d) (h1:okN n d):
 Calls Tryz.prog 34 #[va] w λ en w'=>en= .returned (.int .i64 (zdl (fq s n d) 0))/\Below w.heap.size w w':=by
 have hA:=ha;obtain⟨xn,xd,rfl,hxn,hxd⟩:=ha;obtain⟨an,ln,kn,rfl,_⟩:=hxn.slen.1;obtain⟨ad,ld,kd,rfl,_⟩:=hxd.slen.1;have K1:=zH h1;have K0:zI (okN (0:Rat).num.natAbs (0:Rat).den):=zH (by decide+kernel);have HE:zI (zdl (fq s n d) (fq false 0 1)=zdl (fq s n d) 0):=zH (by rw[show fq false 0 1=0 from fq_zero false 1 zD]);clear h1;go_enter Tryz.func34,Tryz.ntmps34;go_wp2_with fail;have bx:=C3.new w 38 (.bool s) (.slice an ln kn) (.slice ad ld kd);have hbx:=zca w (.cells #[.bool s, .slice an ln kn, .slice ad ld kd] 38);generalize hW:w.alloc (.cells #[.bool s, .slice an ln kn, .slice ad ld kd] 38)=W at *
 clear hW;have hd2:=zfa (B:=W.heap.size) W;have hD:=zaa hbx hd2;have hbx3:=bx.bS hd2;have HX3:=zH hbx3;obtain⟨_,q1,q2,q3,q4,q5,q6⟩:=hbx3;clear bx hd2
 go_region_held3 (λ w'=>w'.cell? ⟨w.heap.size,0,none⟩=some (.bool s)/\w'.cell? ⟨w.heap.size,1,none⟩=some (.slice an ln kn)/\w'.cell? ⟨w.heap.size,2,none⟩=some (.slice ad ld kd)) (exact⟨q1,q2,q3⟩) (first
  |(go_at_call 20;(with_reducible refine(zof _).mono ?_);rintro e9 w3 ⟨v3,rfl,hv3,hb3⟩;obtain⟨_,q1,q2,q3,q4,q5,q6⟩:=HX3.o.bS hb3)
  |(go_at_call 100;(with_reducible refine(zoj _ _ s _ n d _ _ _ ((hA.bw hD).bw hb3) hv3.raw K1.o K0.o).mono ?_);rintro e9 w4 ⟨rfl,hb4⟩;obtain⟨_,q1,q2,q3,q4,q5,q6⟩:=HX3.o.bS (zaa hb3 hb4)))
 go_wp2;go_ret;exact⟨by rw[<-HE.o];rfl,zaa (zaa hD hb3) hb4⟩
theorem zgo (va vb:Value) (p q:Rat) (w:World) (ha:zia w va p) (hb:zia w vb q) (hp:fits p) (hq:fits q) (hf:fits (p+q)):Calls Tryz.prog 19 #[va,vb] w (RF0 w (p+q)):=
 (r2add_any va vb _ _ _ _ _ _ w ha.raw hb.raw ⟨p.den_nz,hp.2,hp.1⟩ ⟨q.den_nz,hq.2,hq.1⟩).mono λ _ _ h=>h.ok (by rw[zmb,zmb]) hf
theorem zsq (va:Value) {w:World} {q:Rat} (ha:zia w va q) (hf:fits q):Calls Tryz.prog 34 #[va] w λ en w'=>en= .returned (.int .i64 (zdl q 0))/\Below w.heap.size w w':=by
 have h:=ztl va _ _ _ w ha.raw ⟨q.den_nz,hf.2,hf.1⟩;rw[zmb]at h;exact h
theorem sgn_z (va:Value) {w:World} {q:Rat} (ha:zia w va q) (hf:fits q) (hq:q=0):Calls Tryz.prog 34 #[va] w λ en w'=>en= .returned (.int .i64 0)/\Below w.heap.size w w':=by
 refine(zsq va ha hf).mono ?_;rintro e w' ⟨rfl,hb⟩;rw[(zvh q 0).2 hq];exact⟨rfl,hb⟩
theorem zwa.cellsAt {w:World} {v:Value} {l:List Rat} (h:zwa w v l) {k:Nat} (hk:k<l.length):
 ∃t a1 l1 k1 a2 l2 k2,w.cell? (ptr v (k*3))=some (.bool t)/\w.cell? (ptr v (k*3+1))=some (.slice a1 l1 k1)/\w.cell? (ptr v (k*3+2))=some (.slice a2 l2 k2)/\zia w (.agg #[.bool t, .slice a1 l1 k1, .slice a2 l2 k2]) (l.getD k 0):=by
 obtain⟨za,zb,p1,p2,p3,p4,p5⟩:=h.at' k hk;obtain⟨za1,za2,za3,rfl,_⟩:=p4.v.sl;obtain⟨zb1,zb2,zb3,rfl,_⟩:=p5.v.sl;refine⟨_,_,_,_,_,_,_,p1,p2,p3,?_⟩;rw[zGD,zGE hk];exact⟨_,_,rfl,p4,p5⟩
set_option maxHeartbeats 1600000
def zqf (q:Rat):Prop:=0<=q/\zza q.num.natAbs<=32/\zza q.den<=32
theorem zqf.fits {q:Rat} (h:zqf q):fits q:=⟨zLT h.2.1 zD,zLT h.2.2 zD⟩
theorem zmf (va:Value) (q:Rat) (w:World) (ha:zia w va q) (hf:fits q):Calls Tryz.prog 89 #[va] w (RF0 w q):=by
 refine(zyg va _ _ _ w ha.raw).mono ?_;rintro e w' ⟨v,er,rfl,hb,h1,_⟩;obtain⟨rfl,h2⟩:=h1 (zvb hf);rw[zmb]at h2;exact⟨v,rfl,h2,hb⟩
theorem finlim_ok (va:Value) (q:Rat) (w:World) (ha:zia w va q) (hl:zqf q):Calls Tryz.prog 135 #[va] w (λ e w'=>e= .returned (.bool true)/\Below w.heap.size w w'):=by
 obtain⟨t1,a11,l11,k11,a12,l12,k12,rfl⟩:=ha.iF;have hba:=zca w (.cells #[.bool t1, .slice a11 l11 k11, .slice a12 l12 k12] 38);have HC:=zH (C3.new w 38 (.bool t1) (.slice a11 l11 k11) (.slice a12 l12 k12));have HA:=zH (ha.bw hba);have HB:=zH hba;have HF:=zH hl.fits;have HN:zI (decide (q<0)=false):=zH (zDF (Rat.not_lt.2 hl.1));have hn1:decide (((zza q.num.natAbs:Nat):Int)<=32)=true:=zDT (by have:=hl.2.1;omega);have hn2:decide (((zza q.den:Nat):Int)<=32)=true:=zDT (by have:=hl.2.2;omega);obtain⟨_,c0,c1,c2,_,_,_⟩:=HC.o;clear ha hba hl;go_enter Tryz.func135,Tryz.ntmps135
 go_upto_region 2 with(first
  |(go_at_call 89;(with_reducible refine(zmf _ q _ HA.o HF.o).mono ?_);rintro e3 w3 ⟨v3,rfl,hv3,hb3⟩;obtain⟨x3,y3,rfl,n1,n2⟩:=id hv3;rw[HN.o]at hv3 |-;obtain⟨a31,l31,k31,rfl,_⟩:=id n1.v.sl;obtain⟨a32,l32,k32,rfl,_⟩:=id n2.v.sl;have hba:=zca w3 (.cells #[.bool false, .slice a31 l31 k31, .slice a32 l32 k32] 38);have HC3:=zH (C3.new w3 38 (.bool false) (.slice a31 l31 k31) (.slice a32 l32 k32));have HN1:=zH (n1.bw hba).nat;have HN2:=zH (n2.bw hba).nat;have HB3:=zH (zaa HB.o (zaa hb3 hba));clear c0 c1 c2 hv3 hb3 hba n1 n2))
 obtain⟨b3,hb3⟩:∃b,w3.heap.size=b:=⟨_,rfl⟩;rw[hb3]at HC3 |-
 clear hb3;generalize w3.alloc (.cells #[.bool false, .slice a31 l31 k31, .slice a32 l32 k32] 38)=W3 at *
 obtain⟨_,c0,c1,c2,_,_,_⟩:=HC3.o
 go_wp2_with (first
  |(go_at_call 156;(with_reducible refine(zbb _ q.num.natAbs _ HN1.o).mono ?_);rintro e4 w4 ⟨rfl,rfl⟩)
  |(go_at_call 156;(with_reducible refine(zbb _ q.den _ HN2.o).mono ?_);rintro e5 w5 ⟨rfl,rfl⟩))
 go_ret;exact⟨rfl,HB3.o⟩
theorem zuh (va:Value) (q:Rat) (w:World) (ha:zia w va q):Calls Tryz.prog 136 #[va] w (λ e w'=>e= .returned (.bool (decide (0<zza q.num.natAbs)))/\Below w.heap.size w w'):=by
 obtain⟨x1,y1,rfl,n1,n2⟩:=id ha;obtain⟨a11,l11,k11,rfl,_⟩:=id n1.v.sl;obtain⟨a12,l12,k12,rfl,_⟩:=id n2.v.sl;have hba:=zca w (.cells #[.bool (decide (q<0)), .slice a11 l11 k11, .slice a12 l12 k12] 38);have HN1:=zH (n1.bw hba).nat;have HB:=zH hba;obtain⟨_,c0,c1,c2,_,_,_⟩:=C3.new w 38 (.bool (decide (q<0))) (.slice a11 l11 k11) (.slice a12 l12 k12);clear ha hba n1 n2;go_enter Tryz.func136,Tryz.ntmps136
 go_wp2_with (first
  |(go_at_call 156;(with_reducible refine(zbb _ q.num.natAbs _ HN1.o).mono ?_);rintro e4 w4 ⟨rfl,rfl⟩))
 go_ret;exact⟨rfl,HB.o⟩
set_option maxRecDepth 100000 in
theorem fall_ok (va:Value) (l:List Rat) (w:World) (ha:zwa w va l) (hl:∀q∈l,zqf q) (hn:l.length<=1000):
 Calls Tryz.prog 134 #[va, .func (.func 135) #[] #[]] w (λ e w'=>e= .returned (.bool true)/\Below w.heap.size w w'):=by
 obtain⟨xa,xn,xk,rfl,_⟩:=id ha.sl;have sx:=ha.sl;have hxn:xn=l.length:=ha.len;obtain⟨n,hnn⟩:∃n,l.length=n:=⟨_,rfl⟩;rw[hnn]at hxn hn;subst hxn;have HN:=zH hnn;have HA:=zH ha;have HL:=zH hl;clear hnn ha hl;go_enter Tryz.func134,Tryz.ntmps134;go_wp2_with fail;go_loopg [9] (xn) (λ g u9 wr=>∃ (k:Nat),k<=xn/\g=xn-k/\u9= .int .i64 k/\Below w.heap.size w wr);case atStart=>exact⟨0,zZL _,rfl,rfl,zBR _ _⟩
 case round=>
  obtain⟨k,hk,hg,rfl,hbr⟩:=hrel;obtain⟨wb,hwb⟩:∃wb,wb=wr:=⟨_,rfl⟩;subst hwb;have HG:=zH hg;have HBR:=zH hbr;clear hg hbr;by_cases hkl:k<xn
  ·(have hk2:k<l.length:=by rw[HN.o];exact hkl);obtain⟨ts,as1,ls1,ks1,as2,ls2,ks2,g1,g2,g3,hfs⟩:=(HA.o.bw HBR.o).cellsAt (k:=k) hk2
   have hlq:zqf (l.getD k 0):=by
    rw[zGD,zGE hk2];exact HL.o _ (zGM hk2)
   have hba:=zca wb (.cells #[.bool ts, .slice as1 ls1 ks1, .slice as2 ls2 ks2] 38);have HFS:=zH (hfs.bw hba);have HLQ:=zH hlq;have HB2:=zH (zaa HBR.o hba);obtain⟨_,c0,c1,c2,_,_,_⟩:=C3.new wb 38 (.bool ts) (.slice as1 ls1 ks1) (.slice as2 ls2 ks2);have i1:(0:Int)<=(k:Int):=zO;have i2:(k:Int)<(xn:Nat):=zO;clear hfs hlq hba
   go_wp2_with (first
    |(go_at_call 135;(with_reducible refine(finlim_ok _ _ _ HFS.o HLQ.o).mono ?_);rintro e4 w4 ⟨rfl,hb4⟩;have HB4:=zH (zaa HB2.o hb4);clear hb4))
   go_roundg (xn- (k+1));(case measure=>(have:=HG.o;omega));case rel=>exact⟨k+1,zO,rfl,by go_num,HB4.o⟩
  ·obtain rfl:k=xn:=zO;go_wp2_with fail;go_ret;exact⟨rfl,HBR.o⟩
structure C4 (w:World) (b:Nat) (v0 v1 v2 v3:Value):Prop where
 lt:b<w.heap.size
 c0:w.cell? ⟨b,0,none⟩=some v0
 c1:w.cell? ⟨b,1,none⟩=some v1
 c2:w.cell? ⟨b,2,none⟩=some v2
 c3:w.cell? ⟨b,3,none⟩=some v3
 f0:w.frozen? ⟨b,0,none⟩=false
 f1:w.frozen? ⟨b,1,none⟩=false
 f2:w.frozen? ⟨b,2,none⟩=false
 f3:w.frozen? ⟨b,3,none⟩=false
theorem C4.of {w:World} {b:Nat} {v0 v1 v2 v3:Value} {t:TypeId} (h:w.heap[b]? =some (.cells #[v0,v1,v2,v3] t (0,0))):C4 w b v0 v1 v2 v3:=by
 refine⟨lt_of_block h,?_,?_,?_,?_,?_,?_,?_,?_⟩<;>simp[World.cell?,World.frozen?,h]
theorem C4.new (w:World) (t:TypeId) (v0 v1 v2 v3:Value):C4 (w.alloc (.cells #[v0,v1,v2,v3] t)) w.heap.size v0 v1 v2 v3:=
 C4.of (t:=t) (by show(w.heap.push _)[w.heap.size]? =_;simp)
theorem C4.bw {w w':World} {B b:Nat} {v0 v1 v2 v3:Value} (h:C4 w b v0 v1 v2 v3) (hb:Below B w w') (hB:b<B):C4 w' b v0 v1 v2 v3:=
 ⟨zLM h.lt hb.size,by rw[hb.cell hB];exact h.c0,by rw[hb.cell hB];exact h.c1,by rw[hb.cell hB];exact h.c2,by rw[hb.cell hB];exact h.c3,by rw[hb.frozen hB];exact h.f0,by rw[hb.frozen hB];exact h.f1,by rw[hb.frozen hB];exact h.f2,by rw[hb.frozen hB];exact h.f3⟩
theorem C4.bS {w w':World} {b:Nat} {v0 v1 v2 v3:Value} (h:C4 w b v0 v1 v2 v3) (hb:Below w.heap.size w w'):C4 w' b v0 v1 v2 v3:=h.bw hb h.lt
structure LQ where
 start:List Rat
 exit:List Rat
 rates:List (List Rat)
def zxj (w:World) (v:Value) (l:LQ):Prop:=∃nm s r e,v= .agg #[nm,s,r,e]/\zwa w s l.start/\MatC w r l.rates/\zwa w e l.exit
theorem zxj.bw {w w':World} {v:Value} {l:LQ} (h:zxj w v l) (hb:Below w.heap.size w w'):zxj w' v l:=by
 obtain⟨nm,s,r,e,rfl,h1,h2,h3⟩:=h;exact⟨nm,s,r,e,rfl,h1.bw hb,h2.bw hb,h3.bw hb⟩
structure znb (l:LQ):Prop where
 n1:1<=l.start.length
 n4:l.start.length<=4
 el:l.exit.length=l.start.length
 rl:l.rates.length=l.start.length
 st:∀q∈l.start,zqf q
 ex:∀q∈l.exit,zqf q
 row:∀ (i:Nat) (h:i<l.rates.length),l.rates[i].length=l.start.length/\(∀q∈l.rates[i],zqf q)/\l.rates[i].getD i 0=0
 sum:zef l.start=1
 ends:∃d:Nat->Nat,∀i,i<l.start.length->d i<=l.start.length/\(0<l.exit.getD i 0\/∃j,j<l.start.length/\0<(l.rates.getD i []).getD j 0/\d j<d i)
theorem zqf.above {q:Rat} (h:zqf q):decide (0<zza q.num.natAbs)=decide (0<q):=by
 rw[decide_eq_decide];constructor
 ·intro h1;refine Classical.byContradiction λ h2=> ?_
  have h3:q=0:=Rat.le_antisymm (Rat.not_lt.1 h2) h.1;rw[h3]at h1;exact absurd h1 zD
 ·intro h1;refine zPZ λ h2=> ?_
  have h3:q.num.natAbs<2^0:=zoc.1 (Nat.le_of_eq h2);have h4:q.num.natAbs=0:=by simpa using h3
  have h5:q=0:=Rat.num_eq_zero.1 (Int.natAbs_eq_zero.1 h4);rw[h5]at h1;exact absurd h1 zD
@[go_sem] theorem slen_lit0 (a : Option Addr) (n c : Nat) : slen (.slice a n c) = n := rfl
@[go_sem] theorem int_beq_self0 (y : Int) : (y == y) = true := by simp
@[go_sem] theorem int_bne_self0 (y : Int) : (y != y) = false := by simp
theorem make_E2 {P:Program} (t e:TypeId) (i:TypeInfo) (z:Value) (by':Nat) (h1:P.underlying t=some (.slice e)) (h2:P.info? e=some i) (h3:i.zero=some z) (h4:i.size=1) (h5:i.bytes=by') (hby:by'<=32) (hz:z.cells=#[z])
 (w:World) {ops:Array Oper} {rest:List Oper} {o:Oper} {a:Act} {Q:Exit->Act->World->Prop} (hg:o.guard=none) (l c:Operand) (hop:o.op=Op.makeSlice t l c)
 (n:Nat) (hl:a.eval l= .int .i64 n) (hc:a.eval c= .int .i64 n) (hn:n<=128)
 (hK:∀v w',zye w' e w.heap.size v (List.replicate n z)->Below w.heap.size w w'->wpList P ops Q rest (a.put o.dst v) w'):
 wpList P ops Q (o::rest) a w:=
 zck w hg l c t hop w.heap.size e i z h1 h2 h3 h4 hz n hl hc (by rw[h5];exact zLT (zMM hby hn) zD) (by simp[maxLen];omega) (zLR _) (λ v w' h6 h7 _=>hK v w' h6 h7)
theorem zni {l:List Bool} {k:Nat} (h:k<l.length):l.getD k false=l[k]:=by
 rw[zGD,zGE h];rfl
theorem zac {x:Int} (h1:0<=x) (h2:x<=1900):IntKind.i64.wrap x=x:=by
 unfold IntKind.wrap;simp[IntKind.signed,IntKind.bits];omega
set_option maxHeartbeats 6400000
theorem zjc {bs:List Bool} {i t:Nat} {b:Bool} (hi:i<bs.length):(bs.set i b).getD t false=if t=i then b else bs.getD t false:=by
 rw[zGD,List.getElem?_set];by_cases e:i=t
 ·subst e;rw[zIP rfl,zIP hi,zIP rfl];rfl
 ·rw[zIN e,zIN (λ h=>e h.symm),zGD]
theorem fends1_any (b:Bool) (w:World):Calls Tryz.prog 189 #[.bool b] w (λ e w'=>e= .returned (.bool b)/\w'=w):=by
 go_enter Tryz.func189,Tryz.ntmps189;go_wp2_with fail;go_ret;exact⟨rfl,rfl⟩
set_option maxRecDepth 100000 in
theorem fallB_ok (va:Value) (l:List Bool) (w:World) (ha:zpp w va l) (hl:∀t,t<l.length->l.getD t false=true) (hn:l.length<=1000):
 Calls Tryz.prog 188 #[va, .func (.func 189) #[] #[]] w (λ e w'=>e= .returned (.bool true)/\Below w.heap.size w w'):=by
 have sx:=zhd.sl ha;obtain⟨xa,xn,xk,rfl,_⟩:=id sx;have hxn:xn=l.length:=by have h:=zhd.len ha;rwa[zMP]at h
 obtain⟨n,hnn⟩:∃n,l.length=n:=⟨_,rfl⟩;rw[hnn]at hxn hn;subst hxn;have HN:=zH hnn;have HA:=zH ha;have HL:=zH hl;clear hnn ha hl;go_enter Tryz.func188,Tryz.ntmps188;go_wp2_with fail;go_loopg [9] (xn) (λ g u9 wr=>∃ (k:Nat),k<=xn/\g=xn-k/\u9= .int .i64 k/\Below w.heap.size w wr);case atStart=>exact⟨0,zZL _,rfl,rfl,zBR _ _⟩
 case round=>
  obtain⟨k,hk,hg,rfl,hbr⟩:=hrel;obtain⟨wb,hwb⟩:∃wb,wb=wr:=⟨_,rfl⟩;subst hwb;have HG:=zH hg;have HBR:=zH hbr;clear hg hbr;by_cases hkl:k<xn
  ·(have hk2:k<l.length:=by rw[HN.o];exact hkl);have q1:=(HA.o.bw HBR.o).at' k hk2;have hlq:=HL.o k hk2;rw[zni hk2]at hlq;rw[hlq]at q1;have i1:(0:Int)<=(k:Int):=zO;have i2:(k:Int)<(xn:Nat):=zO;clear hlq
   go_wp2_with (first
    |(go_at_call 189;(with_reducible refine(fends1_any true _).mono ?_);rintro e4 w4 ⟨rfl,rfl⟩))
   go_roundg (xn- (k+1));(case measure=>(have:=HG.o;omega));case rel=>exact⟨k+1,zO,rfl,by go_num,HBR.o⟩
  ·obtain rfl:k=xn:=zO;go_wp2_with fail;go_ret;exact⟨rfl,HBR.o⟩
set_option maxRecDepth 100000 in
theorem fends_ok (va:Value) (l:LQ) (w:World) (ha:zxj w va l) (hl:znb l):Calls Tryz.prog 138 #[va] w (λ e w'=>e= .returned (.bool true)/\Below w.heap.size w w'):=by
 obtain⟨i0,hi,hz0,hz1,hz2⟩:=info_parts Tryz.infoBool;have hM:=make_E2 (P:=Tryz.prog) 26 4 i0 _ 1 Tryz.underlying26 hi hz0 hz1 hz2 zD rfl;clear hi hz0 hz1 hz2;obtain⟨nm,sv,rv,ev,rfl,hs,hr,he⟩:=id ha;obtain⟨ra,rn,rk,rfl,_⟩:=id hr.sl;obtain⟨sa,sn,sk,rfl,_⟩:=id hs.sl;obtain⟨ea,en,ek,rfl,_⟩:=id he.sl;have hba:=zca w (.cells #[nm, .slice sa sn sk, .slice ra rn rk, .slice ea en ek] 52);have HC:=zH (C4.new w 52 nm (.slice sa sn sk) (.slice ra rn rk) (.slice ea en ek));have HR:=zH (hr.bw hba);have HE:=zH (he.bw hba);have HBW:=zH hba;have hen:en=l.start.length:=he.len.trans hl.el;obtain⟨n,hnn⟩:∃n,l.start.length=n:=⟨_,rfl⟩;have HN:=zH hnn;have hrn:rn=l.start.length:=hr.len.trans hl.rl;have HRN:zI (rn=n):=zH (by rw[<-hnn];exact hrn);rw[hnn]at hen;subst hen;have hn4:en<=128:=by rw[<-hnn];have:=hl.n4;omega
 have HL:=zH hl;obtain⟨d,hd⟩:=hl.ends;have HD:=zH hd;have srt:=hr.sl;have sxt:=he.sl;clear hd hs hr he ha hl hba hnn hrn;go_enter Tryz.func138,Tryz.ntmps138;go_upto_region 1 with fail;obtain⟨b,hb⟩:∃b,w.heap.size=b:=⟨_,rfl⟩;rw[hb]at HC |-
 have HBE:=zH hb;clear hb;generalize w.alloc (.cells #[nm, .slice sa sn sk, .slice ra rn rk, .slice ea en ek] 52)=W1 at *
 obtain⟨_,c0,c1,c2,c3,_,_,_,_⟩:=HC.o;go_wp2_with (refine hM W1 rfl _ _ rfl en rfl rfl hn4 ?_;intro vL w6 hO6 hb6;have HO6:=zH hO6;have HB6:=zH hb6;have slL:=hO6.sl;(have lnL:slen vL=en:=by have h:=hO6.len;rwa[zRP]at h);obtain⟨vb1,vb2,vb3,rfl,_⟩:=id slL;obtain rfl:vb2=en:=lnL;clear hO6 hb6);clear hM c0 c1 c2 c3;go_loopg [4] (vb2+1) (λ g u4 wr=>∃ (r:Nat) (bs:List Bool),r<=vb2+1/\g=vb2+1-r/\u4= .int .i64 r/\zye wr 4 W1.heap.size (.slice vb1 vb2 vb3) (bs.map Value.bool)/\bs.length=vb2/\(∀t,t<vb2->d t<r->bs.getD t false=true)/\Below W1.heap.size W1 wr);case atStart=>exact⟨0,List.replicate vb2 false,zO,rfl,rfl,by rw[List.map_replicate];exact HO6.o,by simp,λ t _ h=>zO,HB6.o⟩
 case round=>
  obtain⟨r,bs,hrn,hg,rfl,ho,hbl,hP,hbr⟩:=hrel;obtain⟨W2,hw2⟩:∃w2,w2=wr:=⟨_,rfl⟩;subst hw2;have HG:=zH hg;have HO:=zH ho;have HP1:=zH hP;have HBL:=zH hbl;have HBR:=zH hbr;clear hg ho hP hbl hbr HO6 HB6;by_cases hrl:r<=vb2
  ·go_wp2_with fail;go_loopg [20] (vb2) (λ g u20 wr=>∃ (i:Nat) (bs:List Bool),i<=vb2/\g=vb2-i/\u20= .int .i64 i/\zye wr 4 W1.heap.size (.slice vb1 vb2 vb3) (bs.map Value.bool)/\bs.length=vb2/\(∀t,t<vb2->d t<r->bs.getD t false=true)/\(∀t,t<i->d t<=r->bs.getD t false=true)/\Below W1.heap.size W1 wr);case atStart=>exact⟨0,bs,zO,rfl,rfl,HO.o,HBL.o,HP1.o,λ t h=>zO,HBR.o⟩
   case round=>
    clear HO HP1 HBL HBR;obtain⟨i,bs,hin,hg,rfl,ho,hbl,hP,hQ,hbr⟩:=hrel;obtain⟨W3,hw2⟩:∃w2,w2=wr:=⟨_,rfl⟩;subst hw2;have HGI:=zH hg;have HO:=zH ho;have HP1:=zH hP;have HP2:=zH hQ;have HBL:=zH hbl;have HBR:=zH hbr;clear hg ho hP hQ hbl hbr;by_cases hil:i<vb2
    ·(have hib:i<bs.length:=by rw[HBL.o];exact hil);(have hie:i<l.exit.length:=by rw[HL.o.el,HN.o];exact hil);(have hir:i<l.rates.length:=by rw[HL.o.rl,HN.o];exact hil);(have hio:i<(bs.map Value.bool).length:=by rw[zMP];exact hib);obtain⟨rw1,hrv,hrow⟩:=HR.o.at' i hir;obtain⟨rl1,rl2,rl3⟩:=HL.o.row i hir;have HRE:zI (l.rates.getD i []=l.rates[i]'hir):=zH (by rw[zGD,zGE hir];rfl);rw[<-HRE.o]at hrow rl1 rl2;obtain⟨ua,un,uk,rfl,_⟩:=id hrow.sl;have srow:=hrow.sl;have HROW:=zH hrow;have HRV:=zH hrv;have HRL:=zH rl2;have HRLN:zI ((l.rates.getD i []).length=vb2):=zH (by rw[rl1,HN.o]);(have hun:un=vb2:=by rw[<-HRLN.o];exact hrow.len);subst hun;obtain⟨ts,as1,ls1,ks1,as2,ls2,ks2,g1,g2,g3,hfs⟩:=(HE.o.bw HBR.o).cellsAt (k:=i) hie
     have hlq:zqf (l.exit.getD i 0):=by
      rw[zGD,zGE hie];exact HL.o.ex _ (zGM hie)
     obtain⟨q,hq⟩:∃q,l.exit.getD i 0=q:=⟨_,rfl⟩;rw[hq]at hlq hfs;have HQ:=zH hq;have HFS:=zH hfs;have HLA:=zH hlq.above;have q1:=HO.o.cell i hio;rw[List.getElem_map]at q1;have hxe:bs.getD i false=bs[i]'hib:=zni hib;obtain⟨x,hx⟩:∃x,bs[i]'hib=x:=⟨_,rfl⟩;rw[hx]at q1 hxe;have HXE:=zH hxe;have f1:=HO.o.frozen i hio;have HIB:=zH hib;have HIO:=zH hio;obtain⟨_,c0,c1,c2,c3,_,_,_,_⟩:=HC.o.bS HBR.o;have i1:(0:Int)<=(i:Int):=zO;have i2:(i:Int)<(un:Nat):=zO;(have i3:(i:Int)<(rn:Nat):=by have:=HRN.o;omega);clear hrv hrow rl1 rl2 rl3 hfs hlq hq hx hxe hie hib hio;go_upto_region 8 with fail;go_cut [] (λ wy=>∃bs':List Bool,zye wy 4 W1.heap.size (.slice vb1 un vb3) (bs'.map Value.bool)/\bs'.length=un/\(∀t,t<un->d t<r->bs'.getD t false=true)/\(∀t,t<i->d t<=r->bs'.getD t false=true)/\(0<q->bs'.getD i false=true)/\Below W1.heap.size W1 wy)
     case first =>
      cases x with
      | true=>
        go_wp2_with fail;go_meet
        case rel=>
         have hs4:=HO.o.set i HIO.o (.bool true);refine⟨bs.set i true,by rw[List.map_set];exact hs4.1,by rw[zGS];exact HBL.o,λ t ht hdt=> ?_,λ t ht hdt=> ?_,λ _=> ?_,HBR.o.trans hs4.2⟩
         ·rw[zjc HIB.o];split
          ·rfl
          ·exact HP1.o t ht hdt
         ·rw[zjc HIB.o];split
          ·rfl
          ·exact HP2.o t ht hdt
         ·rw[zjc HIB.o,zIP rfl]
      | false=>
        go_wp2_with (first
         |(go_at_call 136;(with_reducible refine(zuh _ q _ HFS.o).mono ?_);rw[HLA.o];rintro e7 w7 ⟨rfl,hb7⟩;have ho3:=HO.o.bw hb7;have q1:=ho3.cell i HIO.o;have f1:=ho3.frozen i HIO.o;have HO3:=zH ho3;have HB7:=zH (zaa HBR.o hb7);clear ho3 hb7))
        go_meet
        case rel=>
         have hs4:=HO3.o.set i HIO.o (.bool (decide (0<q)));refine⟨bs.set i (decide (0<q)),by rw[List.map_set];exact hs4.1,by rw[zGS];exact HBL.o,λ t ht hdt=> ?_,λ t ht hdt=> ?_,λ h=> ?_,HB7.o.trans hs4.2⟩
         ·rw[zjc HIB.o];split
          ·rename_i e
           subst e;have:=HP1.o t ht hdt;rw[HXE.o]at this;cases this
          ·exact HP1.o t ht hdt
         ·rw[zjc HIB.o,zIN zO];exact HP2.o t ht hdt
         ·rw[zjc HIB.o,zIP rfl];exact zDT h
     case rest=>
      clear HO HP1 HP2 HBL HBR HXE HIB HIO q1 f1 g1 g2 g3 c0 c1 c2 c3 HFS HLA;obtain⟨bs,ho,hbl,hP,hQ,hR3,hbr⟩:=hcut;obtain⟨W4,hw2⟩:∃w2,w2=wc:=⟨_,rfl⟩;subst hw2;have HO:=zH ho;have HP1:=zH hP;have HP2:=zH hQ;have HP3:=zH hR3;have HBL:=zH hbl;have HBR:=zH hbr;obtain⟨_,c0,c1,c2,c3,_,_,_,_⟩:=HC.o.bS hbr;have hri:=zba hbr HRV.o;clear ho hP hQ hR3 hbl hbr;go_wp2_with fail;clear c0 c1 c2 c3 hri;go_loopg [44] (un) (λ g u44 wr=>∃ (k:Nat) (bs:List Bool),k<=un/\g=un-k/\u44= .int .i64 k/\zye wr 4 W1.heap.size (.slice vb1 un vb3) (bs.map Value.bool)/\bs.length=un/\(∀t,t<un->d t<r->bs.getD t false=true)/\(∀t,t<i->d t<=r->bs.getD t false=true)/\((0<q\/∃j,j<k/\0<(l.rates.getD i []).getD j 0/\d j<r)->bs.getD i false=true)/\Below W1.heap.size W1 wr);case atStart=>exact⟨0,bs,zO,rfl,rfl,HO.o,HBL.o,HP1.o,HP2.o,λ h=>by rcases h with h | ⟨j,h,_⟩;exact HP3.o h;omega,HBR.o⟩
      case round=>
       clear HO HP1 HP2 HP3 HBL HBR;obtain⟨k,bs,hkn,hg,rfl,ho,hbl,hP,hQ,hR3,hbr⟩:=hrel;obtain⟨W5,hw2⟩:∃w2,w2=wr:=⟨_,rfl⟩;subst hw2;have HGK:=zH hg;have HO:=zH ho;have HP1:=zH hP;have HP2:=zH hQ;have HP3:=zH hR3;have HBL:=zH hbl;have HBR:=zH hbr;clear hg ho hP hQ hR3 hbl hbr;by_cases hkl:k<un
       ·(have hib:i<bs.length:=by rw[HBL.o];exact hil);(have hkb:k<bs.length:=by rw[HBL.o];exact hkl);(have hio:i<(bs.map Value.bool).length:=by rw[zMP];exact hib);(have hko:k<(bs.map Value.bool).length:=by rw[zMP];exact hkb);(have hkr:k<(l.rates.getD i []).length:=by rw[HRLN.o];exact hkl);obtain⟨ts,as1,ls1,ks1,as2,ls2,ks2,g1,g2,g3,hfs⟩:=(HROW.o.bw HBR.o).cellsAt (k:=k) hkr
        have hlq:zqf ((l.rates.getD i []).getD k 0):=by
         rw[zGD,zGE hkr];exact HRL.o _ (zGM hkr)
        obtain⟨s,hs⟩:∃s,(l.rates.getD i []).getD k 0=s:=⟨_,rfl⟩;rw[hs]at hlq hfs;have HS:=zH hs;have HLA:=zH hlq.above;have hba:=zca W5 (.cells #[.bool ts, .slice as1 ls1 ks1, .slice as2 ls2 ks2] 38);have HFS:=zH (hfs.bw hba);have HO5:=zH (HO.o.bw hba);have HB5:=zH (zaa HBR.o hba);have q1:=HO5.o.cell i hio;rw[List.getElem_map]at q1;have hxe:bs.getD i false=bs[i]'hib:=zni hib;obtain⟨x,hx⟩:∃x,bs[i]'hib=x:=⟨_,rfl⟩;rw[hx]at q1 hxe;have HXE:=zH hxe;have hye:bs.getD k false=bs[k]'hkb:=zni hkb;obtain⟨y,hy⟩:∃y,bs[k]'hkb=y:=⟨_,rfl⟩;rw[hy]at hye;have HYE:=zH hye;have HYM:zI ((bs.map Value.bool)[k]'hko= .bool y):=zH (by rw[List.getElem_map,hy]);have f1:=HO5.o.frozen i hio;obtain⟨_,p0,p1,p2,_,_,_⟩:=C3.new W5 38 (.bool ts) (.slice as1 ls1 ks1) (.slice as2 ls2 ks2);have HIB:=zH hib;have HIO:=zH hio;have HKO:=zH hko;have j1:(0:Int)<=(k:Int):=zO;have j2:(k:Int)<(un:Nat):=zO;clear hfs hlq hs hba hx hxe hy hye hib hio hkr
        cases x with
        | true=>
          go_wp2_with fail;go_roundg (un- (k+1));case measure=>(have:=HGK.o;omega)
          case rel=>
           have hs4:=HO5.o.set i HIO.o (.bool true);refine⟨k+1,bs.set i true,zO,rfl,by go_num,by rw[List.map_set];exact hs4.1,by rw[zGS];exact HBL.o,λ t ht hdt=> ?_,λ t ht hdt=> ?_,λ _=> ?_,HB5.o.trans hs4.2⟩
           ·rw[zjc HIB.o];split
            ·rfl
            ·exact HP1.o t ht hdt
           ·rw[zjc HIB.o];split
            ·rfl
            ·exact HP2.o t ht hdt
           ·rw[zjc HIB.o,zIP rfl]
        | false=>
          have HNO:zI (¬ (0<q\/∃j,j<k/\0<(l.rates.getD i []).getD j 0/\d j<r)):=zH (λ h=>by have:=HP3.o h;rw[HXE.o]at this;cases this);by_cases hs0:0<s
          ·have HDS:zI (decide (0<s)=true):=zH (zDT hs0)
           go_wp2_with (first
            |(go_at_call 136;(with_reducible refine(zuh _ s _ HFS.o).mono ?_);rw[HLA.o,HDS.o];rintro e7 w7 ⟨rfl,hb7⟩;have ho3:=HO5.o.bw hb7;have q1:=ho3.cell i HIO.o;have q2:=ho3.cell k HKO.o;rw[HYM.o]at q2;have f1:=ho3.frozen i HIO.o;have HO3:=zH ho3;have HB7:=zH (zaa HB5.o hb7);clear ho3 hb7))
           go_roundg (un- (k+1));case measure=>(have:=HGK.o;omega)
           case rel=>
            have hs4:=HO3.o.set i HIO.o (.bool y);refine⟨k+1,bs.set i y,zO,rfl,by go_num,by rw[List.map_set];exact hs4.1,by rw[zGS];exact HBL.o,λ t ht hdt=> ?_,λ t ht hdt=> ?_,λ h=> ?_,HB7.o.trans hs4.2⟩
            ·rw[zjc HIB.o];split
             ·rename_i e
              subst e;have:=HP1.o t ht hdt;rw[HXE.o]at this;cases this
             ·exact HP1.o t ht hdt
            ·rw[zjc HIB.o,zIN zO];exact HP2.o t ht hdt
            ·rw[zjc HIB.o,zIP rfl];rcases h with h | ⟨j,hj,h1,h2⟩
             ·exact absurd (Or.inl h) HNO.o
             ·by_cases e:j=k
              ·subst e;rw[<-HYE.o];exact HP1.o j zO h2
              ·exact absurd (Or.inr ⟨j,zO,h1,h2⟩) HNO.o
          ·have HDS:zI (decide (0<s)=false):=zH (zDF hs0)
           go_wp2_with (first
            |(go_at_call 136;(with_reducible refine(zuh _ s _ HFS.o).mono ?_);rw[HLA.o,HDS.o];rintro e7 w7 ⟨rfl,hb7⟩;have ho3:=HO5.o.bw hb7;have q1:=ho3.cell i HIO.o;have f1:=ho3.frozen i HIO.o;have HO3:=zH ho3;have HB7:=zH (zaa HB5.o hb7);clear ho3 hb7))
           go_roundg (un- (k+1));case measure=>(have:=HGK.o;omega)
           case rel=>
            have hs4:=HO3.o.set i HIO.o (.bool false);refine⟨k+1,bs.set i false,zO,rfl,by go_num,by rw[List.map_set];exact hs4.1,by rw[zGS];exact HBL.o,λ t ht hdt=> ?_,λ t ht hdt=> ?_,λ h=> ?_,HB7.o.trans hs4.2⟩
            ·rw[zjc HIB.o];split
             ·rename_i e
              subst e;have:=HP1.o t ht hdt;rw[HXE.o]at this;cases this
             ·exact HP1.o t ht hdt
            ·rw[zjc HIB.o,zIN zO];exact HP2.o t ht hdt
            ·exfalso;rcases h with h | ⟨j,hj,h1,h2⟩
             ·exact HNO.o (Or.inl h)
             ·by_cases e:j=k
              ·subst e;rw[HS.o]at h1;exact hs0 h1
              ·exact HNO.o (Or.inr ⟨j,zO,h1,h2⟩)
       ·obtain rfl:k=un:=zO
        have HEND:zI (d i<=r->bs.getD i false=true):=zH (λ hdi=>by
         have h1:=HD.o i (by rw[HN.o];exact hil);rcases h1.2 with h2 | ⟨j,h2,h3,h4⟩
         ·exact HP3.o (Or.inl (by rw[<-HQ.o];exact h2))
         ·exact HP3.o (Or.inr ⟨j,by rw[<-HN.o];exact h2,h3,zO⟩))
        go_wp2_with fail;go_roundg (k- (i+1));case measure=>(have:=HGI.o;omega)
        case rel=>
         refine⟨i+1,bs,zO,rfl,by go_num,HO.o,HBL.o,HP1.o,λ t ht hdt=> ?_,HBR.o⟩;by_cases e:t=i
         ·subst e;exact HEND.o hdt
         ·exact HP2.o t zO hdt
    ·obtain rfl:i=vb2:=zO;go_wp2_with fail;go_roundg (i+1- (r+1));(case measure=>(have:=HG.o;omega));case rel=>exact⟨r+1,bs,zO,rfl,by go_num,HO.o,HBL.o,λ t ht hdt=>HP2.o t ht zO,HBR.o⟩
  ·have HDN:zI (∀t,t<vb2->d t<=vb2):=zH (λ t ht=>by have:=(HD.o t (by rw[HN.o];exact ht)).1;rwa[HN.o]at this);have hb0:zpp W2 (.slice vb1 vb2 vb3) bs:=⟨HO.o.sl,HO.o.len,λ j hj=>HO.o.cell j hj⟩;have HB0:=zH hb0
   go_wp2_with (first
    |(go_at_call 188;(with_reducible refine(fallB_ok _ bs _ HB0.o (λ t ht=>HP1.o t (by rw[<-HBL.o];exact ht) (by have:=HDN.o t (by rw[<-HBL.o];exact ht);omega)) (by rw[HBL.o];omega)).mono ?_);rintro e9 w9 ⟨rfl,hb9⟩))
   go_ret;exact⟨rfl,HBW.o.trans ((zaa HBR.o hb9).mono HBW.o.size)⟩
theorem RF.fits {x:RF} (h:x.ok):fits x.q:=fits_ok _ h
theorem wt_le {q:Rat} (h:fits q):wt q<=8192:=by
 obtain⟨h1,h2⟩:=h;unfold wt;split<;>(try split)<;>omega
theorem wts_le (l:List RF) (h:∀x∈l,x.ok):wts (qs l)<=8192*l.length:=by
 induction l with
 | nil=>simp[qs,wts]
 | cons x l ih=>
   have h1:=ih (λ y hy=>h y (by simp[hy]));have h2:=wt_le (RF.fits (h x (by simp)));(have e:wts (qs (x::l))=wt x.q+wts (qs l):=by unfold qs;rw[List.map_cons,zsi]);rw[e,List.length_cons];omega
theorem wts_qs (l:List RF) (k:Nat) (h:k<l.length):wts (qs (l.take (k+1)))=wts (qs (l.take k))+wt l[k].q:=by
 rw[zxc l k h];unfold qs;rw[List.map_append];exact znq _ _
def zqp (m:List (List RF)):Nat:=(m.map λ l=>wts (qs l)).sum
theorem wtsM_take (m:List (List RF)) (k:Nat) (h:k<m.length):zqp (m.take (k+1))=zqp (m.take k)+wts (qs m[k]):=by
 unfold zqp;rw[zxc m k h,List.map_append,List.sum_append];simp only[List.map_cons,List.map_nil,List.sum_cons,List.sum_nil,Nat.add_zero]
theorem wtsM_le (m:List (List RF)) (h:∀l∈m,∀x∈l,x.ok) (hl:∀l∈m,l.length<=65536):zqp m<=536870912*m.length:=by
 induction m with
 | nil=>simp[zqp]
 | cons x m ih=>
   have h1:=ih (λ y hy=>h y (by simp[hy])) (λ y hy=>hl y (by simp[hy]));have h2:=wts_le x (h x (by simp));have h3:=hl x (by simp);(have e:zqp (x::m)=wts (qs x)+zqp m:=by simp[zqp]);rw[e,List.length_cons];omega
theorem wt_zero {q:Rat} (h:q.num=0):wt q=0:=by unfold wt;rw[zIP h]
theorem wt_int {q:Rat} (h:q.num≠0) (hd:q.den=1):wt q=zza q.num.natAbs:=by unfold wt;rw[zIN h,zIP hd];rfl
theorem wt_frac {q:Rat} (h:q.num≠0) (hd:q.den≠1):wt q=zza q.num.natAbs+zza q.den:=by unfold wt;rw[zIN h,zIN hd]
theorem zbo (va:Value) (x:RF) (w:World) (ha:zzb w va x.neg x.n x.d) (hx:x.ok):Calls Tryz.prog 89 #[va] w (RF0 w x.q):=
 (zyg va x.neg x.n x.d w ha).mono λ e w' h=>by
  obtain⟨v,er,rfl,h1,h2,_⟩:=h;obtain⟨rfl,h3⟩:=h2 hx;exact⟨v,rfl,h3,h1⟩
theorem wtsM_one (l:List RF):zqp [l]=wts (qs l):=by simp[zqp]
def plainP (x:RF):Prop:=x.ok/\¬x.q<0/\zha x.q.num.natAbs<=4/\zha x.q.den<=4
instance (x :RF):Decidable (plainP x):=inferInstanceAs (Decidable (_/\_/\_/\_))
def rowP (l:List RF) (n:Nat):Prop:=(∀x∈l,plainP x)/\l.length=n/\wts (qs l)<=3800
instance (l :List RF) (n:Nat):Decidable (rowP l n):=inferInstanceAs (Decidable (_/\_/\_))
theorem cmp_can (va vb:Value) (p q:Rat) (w:World) (ha:zia w va p) (hb:zia w vb q) (hp:fits p) (hq:fits q):
 Calls Tryz.prog 130 #[va,vb] w λ en w'=>en= .returned (.tuple #[.int .i64 (zdl p q), .int .i64 0])/\Below w.heap.size w w':=by
 have h:=cmp_frac va vb _ _ _ _ _ _ w ha.raw hb.raw (zvb hp) (zvb hq);rw[zmb,zmb]at h;exact h
@[go_sem] theorem slen_slice (a : Option Addr) (n c : Nat) : slen (.slice a n c) = n := rfl
end Go.Proofs.YtlpdkbmmbdfoiaaGreat
namespace Go.Proofs.YtlpdkbmmbdfoiaaGreat
def sg :Nat->(Nat->Rat)->Rat
 | 0,_=>0
 | n+1,f=>sg n f+f n
theorem zqa {n:Nat} {f g:Nat->Rat} (h:∀i,i<n->f i=g i):sg n f=sg n g:=by
 induction n with
 | zero=>rfl
 | succ n ih=>rw[sg,sg,ih (λ i hi=>h i zO),h n zO]
theorem zfi (n:Nat):sg n (λ _=>0)=0:=by
 induction n with
 | zero=>rfl
 | succ n ih=>rw[sg,ih];grind
theorem zxg (n:Nat) (f g:Nat->Rat):sg n (λ i=>f i+g i)=sg n f+sg n g:=by
 induction n with
 | zero=>simp[sg];grind
 | succ n ih=>simp only[sg,ih];grind
theorem zhb (n:Nat) (c:Rat) (f:Nat->Rat):sg n (λ i=>c*f i)=c*sg n f:=by
 induction n with
 | zero=>simp[sg]
 | succ n ih=>simp only[sg,ih];grind
theorem zbf (n:Nat) (c:Rat) (f:Nat->Rat):sg n (λ i=>f i*c)=sg n f*c:=by
 induction n with
 | zero=>simp[sg]
 | succ n ih=>simp only[sg,ih];grind
theorem sg_comm (n m:Nat) (f:Nat->Nat->Rat):sg n (λ i=>sg m (λ j=>f i j))=sg m (λ j=>sg n (λ i=>f i j)):=by
 induction n with
 | zero=>simp only[sg];rw[zfi]
 | succ n ih=>simp only[sg];rw[ih,<-zxg]
theorem zee {m k:Nat} (h:k<m) (f:Nat->Rat):sg m (λ a=>if k=a then f a else 0)=f k:=by
 induction m with
 | zero=>omega
 | succ m ih=>
   rw[sg];by_cases hk:k=m
   ·subst hk;rw[zqa (g:=λ _=>0) (λ i hi=>zIN zO),zfi,zIP rfl];grind
   ·rw[ih zO,zIN hk];grind
def slimS (q:Rat) (k:Nat):Prop:=∃ (z:Int) (D:Nat),D≠0/\q=mkRat z D/\z.natAbs+D<=2^k
theorem slimS_mul {p q:Rat} {j k:Nat} (hp:slimS p j) (hq:slimS q k):slimS (p*q) (j+k):=by
 obtain⟨z,D,h1,rfl,h2⟩:=hp;obtain⟨n,d,h3,rfl,h4⟩:=hq;refine⟨z*n,D*d,zMZ h1 h3,Rat.mkRat_mul_mkRat _ _ _ _,?_⟩;rw[Nat.pow_add];have h5:=zMM h2 h4;rw[Int.natAbs_mul];rw[Nat.add_mul,Nat.mul_add,Nat.mul_add]at h5;have:=zZL (z.natAbs*d);have:=zZL (D*n.natAbs);omega
theorem slimS_wt (q:Rat):slimS q (wt q):=by
 refine⟨q.num,q.den,q.den_nz,(Rat.mkRat_self q).symm,?_⟩;unfold wt;have h0:zza q.num.natAbs<=zza q.num.natAbs:=zLR _;have h1:zza q.den<=zza q.den:=zLR _;rw[zoc]at h0 h1;split
 ·next hz=>
  have e:q=0:=Rat.num_eq_zero.1 hz;subst e;decide
 ·split
  ·next hz hd=>simp only[hd,Nat.add_zero];omega
  ·next hz hd=>
   have hn:q.num.natAbs≠0:=zO;have hd0:=q.den_nz;have h2:1<zza q.den:=zhg.2 zO;have h3:0<zza q.num.natAbs:=zwd.2 hn;rw[Nat.pow_add];have e1:2^1<=2^zza q.num.natAbs:=Nat.pow_le_pow_right zD h3;have e2:2^1<=2^zza q.den:=Nat.pow_le_pow_right zD zO;generalize 2^zza q.num.natAbs=A at *
   generalize 2^zza q.den=B at *
   obtain⟨a,rfl⟩:∃a,A=a+2:=⟨A-2,zO⟩;obtain⟨b,rfl⟩:∃b,B=b+2:=⟨B-2,zO⟩;(have e3:(a+2)*(b+2)=a*b+2*a+2*b+4:=by grind);rw[e3];have:=zZL (a*b);omega
theorem slimS_fits {q:Rat} {k:Nat} (h:slimS q k) (hk:k<=4095):fits q:=by
 obtain⟨z,D,h1,rfl,h3⟩:=h
 have e:mkRat z D=fq (decide (z<0)) z.natAbs D:=by
  unfold fq sgn;by_cases hz:z<0
  ·rw[zDT hz,zIP rfl];congr 1;omega
  ·rw[zDF hz,zIN zD];congr 1;omega
 rw[e];have h5:2^k<2^(k+1):=Nat.pow_lt_pow_right zD (zSS k);have h6:k+1<=4096:=zO;refine⟨?_,?_⟩
 ·rw[zyf _ _ _ h1];exact zLT (zve (zLL (Nat.div_le_self _ _) (zLL (zLT (Nat.le_add_right z.natAbs D) h3) h5))) h6
 ·rw[zxo _ _ _ h1];exact zLT (zve (zLL (Nat.div_le_self _ _) (zLL (zLT (Nat.le_add_left D z.natAbs) h3) h5))) h6
theorem mul_fits26 {x y:Rat} (hw:wt x+wt y<=3800):fits (x*y):=slimS_fits (slimS_mul (slimS_wt _) (slimS_wt _)) zO
def over (D B:Nat) (q:Rat):Prop:=∃z:Int,q=mkRat z D/\z.natAbs<=B
theorem over.zero (D B:Nat):over D B 0:=⟨0,by simp,by simp⟩
theorem over.mono {D A B:Nat} {q:Rat} (h:over D A q) (hB:A<=B):over D B q:=by
 obtain⟨z,h1,h2⟩:=h;exact⟨z,h1,zO⟩
theorem over.add {D A B:Nat} {p q:Rat} (hD:D≠0) (hp:over D A p) (hq:over D B q):over D (A+B) (p+q):=by
 obtain⟨y,rfl,h1⟩:=hp;obtain⟨z,rfl,h2⟩:=hq;refine⟨y+z,?_,?_⟩
 ·rw[Rat.mkRat_add_mkRat _ _ hD hD,<-Int.add_mul];exact Rat.mkRat_mul_right hD
 ·have:=Int.natAbs_add_le y z;omega
theorem over.neg {D A:Nat} {p:Rat} (hp:over D A p):over D A (-p):=by
 obtain⟨y,rfl,h1⟩:=hp;exact⟨-y,by rw[Rat.neg_mkRat],zO⟩
theorem over.mul {D E A B:Nat} {p q:Rat} (hp:over D A p) (hq:over E B q):over (D*E) (A*B) (p*q):=by
 obtain⟨y,rfl,h1⟩:=hp;obtain⟨z,rfl,h2⟩:=hq;exact⟨y*z,Rat.mkRat_mul_mkRat _ _ _ _,by rw[Int.natAbs_mul];exact zMM h1 h2⟩
theorem over.scale {D A m:Nat} {p:Rat} (hm:m≠0) (hp:over D A p):over (D*m) (A*m) p:=by
 obtain⟨y,rfl,h1⟩:=hp;exact⟨y*m,(Rat.mkRat_mul_right hm).symm,by rw[Int.natAbs_mul,Int.natAbs_natCast];exact zMR _ h1⟩
theorem over.sg {D B n:Nat} {f:Nat->Rat} (hD:D≠0) (h:∀i,i<n->over D B (f i)):over D (n*B) (sg n f):=by
 induction n with
 | zero=>exact over.zero _ _
 | succ n ih=>rw[Nat.succ_mul];exact over.add hD (ih λ i hi=>h i zO) (h n zO)
theorem over.fq {D B:Nat} {q:Rat} (h:over D B q):∃ (s:Bool) (n:Nat),q=fq s n D/\n<=B:=by
 obtain⟨z,rfl,h2⟩:=h;refine⟨decide (z<0),z.natAbs,?_,h2⟩;unfold Go.Proofs.YtlpdkbmmbdfoiaaGreat.fq sgn;by_cases hz:z<0
 ·rw[zDT hz,zIP rfl];congr 1;omega
 ·rw[zDF hz,zIN zD];congr 1;omega
theorem over.wt {D B a b:Nat} {q:Rat} (hD:D≠0) (h:over D B q) (ha:B<2^a) (hb:D<2^b):wt q<=a+b:=by
 obtain⟨s,n,rfl,h1⟩:=h.fq
 have h2:zza (Go.Proofs.YtlpdkbmmbdfoiaaGreat.fq s n D).num.natAbs<=a:=by
  rw[zyf _ _ _ hD];exact zve (zLL (Nat.div_le_self _ _) (zLL h1 ha))
 have h3:zza (Go.Proofs.YtlpdkbmmbdfoiaaGreat.fq s n D).den<=b:=by
  rw[zxo _ _ _ hD];exact zve (zLL (Nat.div_le_self _ _) hb)
 unfold Go.Proofs.YtlpdkbmmbdfoiaaGreat.wt;split
 ·omega
 ·split<;>omega
theorem over.fits {D B:Nat} {q:Rat} (hD:D≠0) (h:over D B q) (ha:B<2^4096) (hb:D<2^4096):fits q:=by
 obtain⟨s,n,rfl,h1⟩:=h.fq;refine⟨?_,?_⟩
 ·rw[zyf _ _ _ hD];exact zve (zLL (Nat.div_le_self _ _) (zLL h1 ha))
 ·rw[zxo _ _ _ hD];exact zve (zLL (Nat.div_le_self _ _) hb)
theorem over.one {D:Nat} (hD:D≠0):over D D 1:=⟨D,by
 have:=Rat.mkRat_self 1;have h:=Rat.mkRat_mul_right (n:=1) (d:=1) hD;rw[Int.one_mul,Nat.one_mul]at h;rw[h];exact this.symm,by simp⟩
theorem zkr (l:List Rat):zef l=sg l.length (λ j=>l.getD j 0):=by
 have key:∀k,k<=l.length->zef (l.take k)=sg k (λ j=>l.getD j 0):=by
  intro k
  induction k with
  | zero=>intro _;simp[sg,zef]
  | succ k ih=>
    intro h;rw[lsum_take l k zO,sg,ih zO];simp[List.getD,zGE (show k<l.length by omega)]
 have:=key l.length (zLR _);rwa[List.take_length]at this
end Go.Proofs.YtlpdkbmmbdfoiaaGreat
