/- Lemmas. -/
import Derived.Test.YtlpdkbmmbdfoiaaGreatPPv3
set_option linter.unusedVariables false
set_option linter.unusedSimpArgs false
namespace Go.Proofs.YtlpdkbmmbdfoiaaGreat
open Go.RowKit
theorem zlr :zvc (.slice none 0 0):=⟨none,0,0,rfl,zLR _,by simp[maxLen],λ _=>rfl⟩
set_option maxRecDepth 100000 in
set_option maxHeartbeats 3200000 in
theorem zoi (va:Value) (s:Bool) (a d:Nat) (w:World) (ha:zzb w va s a d):Calls Tryz.prog 26 #[va] w (RErl w 1 s a d):=by
 obtain⟨x0,y0,rfl,h1,h2⟩:=id ha;obtain⟨a11,l11,k11,rfl,_⟩:=h1.slen.1;obtain⟨a12,l12,k12,rfl,_⟩:=h2.slen.1;have hb1:=zca w (.cells #[.bool s, .slice a11 l11 k11, .slice a12 l12 k12] 38);have hb2:=zca (w.alloc (.cells #[.bool s, .slice a11 l11 k11, .slice a12 l12 k12] 38)) (.cells #[.string { data:=#[] }, .slice none 0 0, .slice none 0 0, .slice none 0 0] 52);have HB:=zH (zaa hb1 hb2);have HC:=zH ((C3.new w 38 (.bool s) (.slice a11 l11 k11) (.slice a12 l12 k12)).bS hb2);have HT:=zH (C4.new (w.alloc (.cells #[.bool s, .slice a11 l11 k11, .slice a12 l12 k12] 38)) 52 (.string { data:=#[] }) (.slice none 0 0) (.slice none 0 0) (.slice none 0 0));have HA:=zH ((ha.bw hb1).bw hb2);have htb:(w.alloc (.cells #[.bool s, .slice a11 l11 k11, .slice a12 l12 k12] 38)).heap.size=w.heap.size+1:=by show(w.heap.push _).size=_;rw[Array.size_push]
 rw[htb]at HT;clear ha h1 h2 hb1 hb2 htb;go_enter Tryz.func26,Tryz.ntmps26;go_upto_region 1 with fail;generalize (w.alloc (.cells #[.bool s, .slice a11 l11 k11, .slice a12 l12 k12] 38)).alloc (.cells #[.string { data:=#[] }, .slice none 0 0, .slice none 0 0, .slice none 0 0] 52)=W2 at *
 obtain⟨_,c0,c1,c2,_,_,_⟩:=HC.o
 go_wp2_with (go_at_call 28;(with_reducible refine(erlang_any 1 _ s a d _ HA.o).mono ?_);rintro e3 w3 ⟨v,er,rfl,hb3,k1,k2,k3⟩
              have hv:∃x1 x2 x3 x4,v= .agg #[x1,x2,x3,x4]:=(by
               by_cases hr:zlk s a d
               ·obtain⟨_,h5⟩:=k3 ⟨zO,zO⟩ hr;obtain⟨y1,y2,y3,e,_⟩:=h5.lawE;exact⟨_,_,_,_,e⟩
               ·exact⟨_,_,_,_,(k2 ⟨zO,zO⟩ hr).2⟩)
              obtain⟨x1,x2,x3,x4,rfl⟩:=hv
              have hs:zvc x2/\zvc x3/\zvc x4/\x1= .string { data:=#[] }:=(by
               by_cases hr:zlk s a d
               ·obtain⟨_,h5⟩:=k3 ⟨zO,zO⟩ hr;obtain⟨y1,y2,y3,e,e1,e2,e3⟩:=h5.lawE;(injection e with e);(injection e with e);simp only[List.cons.injEq,and_true]at e;obtain⟨rfl,rfl,rfl,rfl⟩:=e;exact⟨e1.sl,e2.sl,e3.sl,rfl⟩
               ·have e:=(k2 ⟨zO,zO⟩ hr).2;unfold zai at e;(injection e with e);(injection e with e);simp only[List.cons.injEq,and_true]at e;obtain⟨rfl,rfl,rfl,rfl⟩:=e;exact⟨zlr,zlr,zlr,rfl⟩)
              obtain⟨⟨p1,p2,p3,rfl,_⟩,⟨q1,q2,q3,rfl,_⟩,⟨r1,r2,r3,rfl,_⟩,rfl⟩:=hs;have HK2:=zH k2;have HK3:=zH k3;have HT3:=zH (HT.o.bS hb3);have HB3:=zH (zjb (zaa HB.o hb3) (zLS w.heap.size) (.string { data:=#[] }) (.slice p1 p2 p3) (.slice q1 q2 q3) (.slice r1 r2 r3));obtain⟨_,d0,d1,d2,d3,f0,f1,f2,f3⟩:=HT3.o;clear hb3 k1 k2 k3 c0 c1 c2)
 refine zdb rfl rfl Tryz.aggL Tryz.sizeL (HT3.o.set _ _ _ _) rfl ?_;refine⟨_,er,rfl,HB3.o,λ h=>absurd zO h,HK2.o,λ h hr=> ?_⟩;obtain⟨h0,h5⟩:=HK3.o h hr;exact⟨h0,(h5.set4 HT3.o zZ zZ zZ _ _ _ _).mono HB.o.size⟩
set_option maxHeartbeats 3200000
set_option maxRecDepth 100000 in
theorem pmean_any (va:Value) (l:LQ) (w:World) (ha:zxj w va l) (hl:znb l) (hp:MomP l 1 1):Calls Tryz.prog 36 #[va] w (RF0 w (momQ l 1)):=by
 obtain⟨nm,sv,rv,ev,rfl,hs,hr,he⟩:=id ha;obtain⟨ra,rn,rk,rfl,_⟩:=id hr.sl;obtain⟨sa,sn,sk,rfl,_⟩:=id hs.sl;obtain⟨ea,en,ek,rfl,_⟩:=id he.sl;have hba:=zca w (.cells #[nm, .slice sa sn sk, .slice ra rn rk, .slice ea en ek] 52);have hbb:=zca (w.alloc (.cells #[nm, .slice sa sn sk, .slice ra rn rk, .slice ea en ek] 52)) (.cells #[.bool false, .slice none 0 0, .slice none 0 0] 38);have HC:=zH ((C4.new w 52 nm (.slice sa sn sk) (.slice ra rn rk) (.slice ea en ek)).bS hbb);have HT:=zH (C3.newB (b:=w.heap.size+1) (w.alloc (.cells #[nm, .slice sa sn sk, .slice ra rn rk, .slice ea en ek] 52)) 38 (.bool false) (.slice none 0 0) (.slice none 0 0) (by show(w.heap.push _).size=_;rw[Array.size_push]));have HBW:=zH (zaa hba hbb);have HA:=zH (ha.bw HBW.o);have HM1:zI (∀w0,zxj w0 (.agg #[nm, .slice sa sn sk, .slice ra rn rk, .slice ea en ek]) l->Calls Tryz.prog 37 #[.agg #[nm, .slice sa sn sk, .slice ra rn rk, .slice ea en ek], .int .i64 1] w0 (RF0 w0 (momQ l 1))):=zH (λ w0 h=>zjo _ l 1 w0 h hl (zLR _) zD hp);clear ha hl hp hs hr he hba hbb;go_enter Tryz.func36,Tryz.ntmps36;go_upto_region 1 with fail;generalize (w.alloc (.cells #[nm, .slice sa sn sk, .slice ra rn rk, .slice ea en ek] 52)).alloc (.cells #[.bool false, .slice none 0 0, .slice none 0 0] 38)=W2 at *
 obtain⟨_,c0,c1,c2,c3,_⟩:=HC.o
 go_wp2_with (first
  |(go_at_call 37;(with_reducible refine(HM1.o _ HA.o).mono ?_);rintro e4 w4 ⟨v4,rfl,hv4,hb4⟩;obtain⟨t9,a91,l91,k91,a92,l92,k92,rfl⟩:=hv4.iF;have HT9:=zH (HT.o.bS hb4);have HB9:=zH (zaa HBW.o hb4);have HV9:=zH hv4;obtain⟨_,d0,d1,d2,f0,f1,f2⟩:=HT9.o;clear hv4 hb4 c0 c1 c2 c3))
 refine zla rfl rfl Tryz.aggF Tryz.sizeF (HT9.o.set _ _ _) rfl ?_;exact⟨_,rfl,HV9.o.set3 HT9.o zZ zZ _ _ _,zga HB9.o (zLS _) _ _ _⟩
set_option maxRecDepth 100000 in
/-- The zero value of a law has no mean. -/
theorem pmoment_zero (n:Nat) (w:World):Calls Tryz.prog 37 #[zai, .int .i64 (n:Nat)] w (λ e w'=>e= .returned (.tuple #[.agg #[.bool false, .slice none 0 0, .slice none 0 0], .int .i64 1])/\Below w.heap.size w w'):=by
 unfold zai;have hba:=zca w (.cells #[.string { data:=#[] }, .slice none 0 0, .slice none 0 0, .slice none 0 0] 52);have hbb:=zca (w.alloc (.cells #[.string { data:=#[] }, .slice none 0 0, .slice none 0 0, .slice none 0 0] 52)) (.cells #[.bool false, .slice none 0 0, .slice none 0 0] 38);have HC:=zH ((C4.new w 52 (.string { data:=#[] }) (.slice none 0 0) (.slice none 0 0) (.slice none 0 0)).bS hbb);have HT:=zH (C3.newB (b:=w.heap.size+1) (w.alloc (.cells #[.string { data:=#[] }, .slice none 0 0, .slice none 0 0, .slice none 0 0] 52)) 38 (.bool false) (.slice none 0 0) (.slice none 0 0) (by show(w.heap.push _).size=_;rw[Array.size_push]));have HBW:=zH (zaa hba hbb);clear hba hbb;go_enter Tryz.func37,Tryz.ntmps37;go_upto_region 1 with fail;generalize (w.alloc (.cells #[.string { data:=#[] }, .slice none 0 0, .slice none 0 0, .slice none 0 0] 52)).alloc (.cells #[.bool false, .slice none 0 0, .slice none 0 0] 38)=W2 at *
 obtain⟨_,c0,c1,c2,c3,_⟩:=HC.o
 go_wp2_with (first
  |(go_at_call 58;(with_reducible refine(zpq _ _).mono ?_);rintro e4 w4 ⟨rfl,hb4⟩;have HT9:=zH (HT.o.bS hb4);have HB9:=zH (zaa HBW.o hb4);obtain⟨_,d0,d1,d2,f0,f1,f2⟩:=HT9.o;clear hb4 c0 c1 c2 c3))
 refine zla rfl rfl Tryz.aggF Tryz.sizeF (HT9.o.set _ _ _) rfl ?_;exact⟨rfl,zga HB9.o (zLS _) _ _ _⟩
set_option maxRecDepth 100000 in
theorem pmean_zero (w:World):Calls Tryz.prog 36 #[zai] w (λ e w'=>e= .returned (.tuple #[.agg #[.bool false, .slice none 0 0, .slice none 0 0], .int .i64 1])/\Below w.heap.size w w'):=by
 unfold zai;have hba:=zca w (.cells #[.string { data:=#[] }, .slice none 0 0, .slice none 0 0, .slice none 0 0] 52);have hbb:=zca (w.alloc (.cells #[.string { data:=#[] }, .slice none 0 0, .slice none 0 0, .slice none 0 0] 52)) (.cells #[.bool false, .slice none 0 0, .slice none 0 0] 38);have HC:=zH ((C4.new w 52 (.string { data:=#[] }) (.slice none 0 0) (.slice none 0 0) (.slice none 0 0)).bS hbb);have HT:=zH (C3.newB (b:=w.heap.size+1) (w.alloc (.cells #[.string { data:=#[] }, .slice none 0 0, .slice none 0 0, .slice none 0 0] 52)) 38 (.bool false) (.slice none 0 0) (.slice none 0 0) (by show(w.heap.push _).size=_;rw[Array.size_push]));have HBW:=zH (zaa hba hbb);have HZ:zI (∀w0,Calls Tryz.prog 37 #[.agg #[.string { data:=#[] }, .slice none 0 0, .slice none 0 0, .slice none 0 0], .int .i64 1] w0 (λ e w'=>e= .returned (.tuple #[.agg #[.bool false, .slice none 0 0, .slice none 0 0], .int .i64 1])/\Below w0.heap.size w0 w')):=zH (λ w0=>pmoment_zero 1 w0);clear hba hbb;go_enter Tryz.func36,Tryz.ntmps36;go_upto_region 1 with fail;generalize (w.alloc (.cells #[.string { data:=#[] }, .slice none 0 0, .slice none 0 0, .slice none 0 0] 52)).alloc (.cells #[.bool false, .slice none 0 0, .slice none 0 0] 38)=W2 at *
 obtain⟨_,c0,c1,c2,c3,_⟩:=HC.o
 go_wp2_with (first
  |(go_at_call 37;(with_reducible refine(HZ.o _).mono ?_);rintro e4 w4 ⟨rfl,hb4⟩;have HT9:=zH (HT.o.bS hb4);have HB9:=zH (zaa HBW.o hb4);obtain⟨_,d0,d1,d2,f0,f1,f2⟩:=HT9.o;clear hb4 c0 c1 c2 c3))
 refine zla rfl rfl Tryz.aggF Tryz.sizeF (HT9.o.set _ _ _) rfl ?_;exact⟨rfl,zga HB9.o (zLS _) _ _ _⟩
set_option maxHeartbeats 3200000
def FX (w:World) (v:Value) (s:Bool) (x z:List Nat):Prop:=∃a b,v= .agg #[.bool s,a,b]/\ztc w a x/\ztc w b z
theorem zia.fx {w:World} {v:Value} {q:Rat} (h:zia w v q):FX w v (decide (q<0)) (zoa q.num.natAbs) (zoa q.den):=by
 obtain⟨a,b,rfl,h1,h2⟩:=h;exact⟨a,b,rfl,h1.1,h2.1⟩
theorem FX.zero (w:World):FX w (.agg #[.bool false, .slice none 0 0, .slice none 0 0]) false [] []:=⟨_,_,rfl,ztc.nil w,ztc.nil w⟩
theorem FX.bw {w w':World} {v:Value} {s:Bool} {x z:List Nat} (h:FX w v s x z) (hb:Below w.heap.size w w'):FX w' v s x z:=by
 obtain⟨a,b,rfl,h1,h2⟩:=h;exact⟨a,b,rfl,h1.bw hb,h2.bw hb⟩
theorem FX.isF {w:World} {v:Value} {s:Bool} {x z:List Nat} (h:FX w v s x z):∃a1 l1 k1 a2 l2 k2,v= .agg #[.bool s, .slice a1 l1 k1, .slice a2 l2 k2]:=by
 obtain⟨a,b,rfl,h1,h2⟩:=h;obtain⟨a1,l1,k1,rfl,_⟩:=h1.sl;obtain⟨a2,l2,k2,rfl,_⟩:=h2.sl;exact⟨_,_,_,_,_,_,rfl⟩
set_option maxRecDepth 100000 in
theorem same_fx (va vb:Value) (s:Bool) (x z:List Nat) (w:World) (ha:FX w va s x z) (hb:FX w vb s x z):
 Calls Tryz.prog 61 #[va,vb] w (λ e w'=>e= .returned (.bool true)/\Below w.heap.size w w'):=by
 obtain⟨a1,a2,rfl,n1,n2⟩:=ha;obtain⟨b1,b2,rfl,m1,m2⟩:=hb;obtain⟨a1a,a1n,a1c,rfl,_⟩:=n1.sl;obtain⟨a2a,a2n,a2c,rfl,_⟩:=n2.sl;obtain⟨b1a,b1n,b1c,rfl,_⟩:=m1.sl;obtain⟨b2a,b2n,b2c,rfl,_⟩:=m2.sl;have hbx:=zca w (.cells #[.bool s, .slice a1a a1n a1c, .slice a2a a2n a2c] 38);have hbx:=(hbx.alloc hbx.size (.cells #[.bool s, .slice b1a b1n b1c, .slice b2a b2n b2c] 38));have n1:=n1.bw hbx;have n2:=n2.bw hbx;have m1:=m1.bw hbx;have m2:=m2.bw hbx;have hC:=(C3.new w 38 (.bool s) (.slice a1a a1n a1c) (.slice a2a a2n a2c)).allocS (.cells #[.bool s, .slice b1a b1n b1c, .slice b2a b2n b2c] 38);have hD:=C3.new (w.alloc (.cells #[.bool s, .slice a1a a1n a1c, .slice a2a a2n a2c] 38)) 38 (.bool s) (.slice b1a b1n b1c) (.slice b2a b2n b2c);rw[show(w.alloc (.cells #[.bool s, .slice a1a a1n a1c, .slice a2a a2n a2c] 38)).heap.size=w.heap.size+1 from by simp]at hD;have h2:(s==s)=true:=by simp
 have tok:True:=trivial;go_enter Tryz.func61,Tryz.ntmps61
 go_wp2_with (first
  |(go_at_call 140;have _t:=tok;(with_reducible refine(zlh _ _ x x _ n1 m1).mono ?_);rintro e1 w1 ⟨⟨r1,rfl,h1⟩,hbel1⟩;obtain rfl:r1=true:=h1.2 rfl;clear h1 tok _t;have n3:=n2.bw hbel1;have m3:=m2.bw hbel1;obtain⟨_,c0,c1,c2,_,_,_⟩:=hC.bS hbel1;obtain⟨_,d0,d1,d2,_,_,_⟩:=hD.bS hbel1)
  |(go_at_call 140;(with_reducible refine(zlh _ _ z z _ n3 m3).mono ?_);rintro e2 w2 ⟨⟨r2,rfl,h2⟩,hbel2⟩;obtain rfl:r2=true:=h2.2 rfl;clear h2))
 go_ret;exact⟨rfl,(hbx.trans (hbel1.mono hbx.size)).trans (hbel2.mono (hbx.trans (hbel1.mono hbx.size)).size)⟩
def RFX (w0:World) (s:Bool) (x z:List Nat) (er:Int) (e:Ending) (w:World):Prop:=∃v,e= .returned (.tuple #[v, .int .i64 er])/\FX w v s x z/\Below w0.heap.size w0 w
theorem RF0.fx {w0:World} {q:Rat} {e:Ending} {w:World} (h:RF0 w0 q e w):RFX w0 (decide (q<0)) (zoa q.num.natAbs) (zoa q.den) 0 e w:=by
 obtain⟨v,rfl,h1,h2⟩:=h;exact⟨v,rfl,h1.fx,h2⟩
set_option maxRecDepth 100000 in
theorem pmoment_rng (va:Value) (l:LQ) (n:Nat) (w:World) (ha:zxj w va l) (hl:znb l) (hn:n<1\/3<n):Calls Tryz.prog 37 #[va, .int .i64 (n:Nat)] w (RFX w false [] [] 5):=by
 obtain⟨nm,sv,rv,ev,rfl,hs,hr,he⟩:=id ha;obtain⟨ra,rn,rk,rfl,_⟩:=id hr.sl;obtain⟨sa,sn,sk,rfl,_⟩:=id hs.sl;obtain⟨ea,en,ek,rfl,_⟩:=id he.sl;have hba:=zca w (.cells #[nm, .slice sa sn sk, .slice ra rn rk, .slice ea en ek] 52);have hbb:=zca (w.alloc (.cells #[nm, .slice sa sn sk, .slice ra rn rk, .slice ea en ek] 52)) (.cells #[.bool false, .slice none 0 0, .slice none 0 0] 38);have HC:=zH ((C4.new w 52 nm (.slice sa sn sk) (.slice ra rn rk) (.slice ea en ek)).bS hbb);have HT:=zH (C3.newB (b:=w.heap.size+1) (w.alloc (.cells #[nm, .slice sa sn sk, .slice ra rn rk, .slice ea en ek] 52)) 38 (.bool false) (.slice none 0 0) (.slice none 0 0) (by show(w.heap.push _).size=_;rw[Array.size_push]));have HBW:=zH (zaa hba hbb);have HA:=zH (ha.bw HBW.o);have HL:=zH hl;clear hs hr he ha hl hba hbb;go_enter Tryz.func37,Tryz.ntmps37;go_upto_region 1 with fail;generalize (w.alloc (.cells #[nm, .slice sa sn sk, .slice ra rn rk, .slice ea en ek] 52)).alloc (.cells #[.bool false, .slice none 0 0, .slice none 0 0] 38)=W2 at *
 obtain⟨_,c0,c1,c2,c3,_⟩:=HC.o;rcases hn with hn | hn
 ·have h13:decide ((n:Int)<1)=true:=zDT zO;clear hn
  go_wp2_with (first
   |(go_at_call 58;(with_reducible refine(zzd _ l _ HA.o HL.o).mono ?_);rintro e4 w4 ⟨rfl,hb4⟩;have HT9:=zH (HT.o.bS hb4);have HB9:=zH (zaa HBW.o hb4);obtain⟨_,d0,d1,d2,f0,f1,f2⟩:=HT9.o;clear hb4 c0 c1 c2 c3))
  refine zla rfl rfl Tryz.aggF Tryz.sizeF (HT9.o.set _ _ _) rfl ?_;exact⟨_,rfl,FX.zero _,zga HB9.o (zLS _) _ _ _⟩
 ·have h13:decide ((n:Int)<1)=false:=zDF zO;have h33:decide ((3:Int)<(n:Int))=true:=zDT zO;clear hn
  go_wp2_with (first
   |(go_at_call 58;(with_reducible refine(zzd _ l _ HA.o HL.o).mono ?_);rintro e4 w4 ⟨rfl,hb4⟩;have HT9:=zH (HT.o.bS hb4);have HB9:=zH (zaa HBW.o hb4);obtain⟨_,d0,d1,d2,f0,f1,f2⟩:=HT9.o;clear hb4 c0 c1 c2 c3))
  refine zla rfl rfl Tryz.aggF Tryz.sizeF (HT9.o.set _ _ _) rfl ?_;exact⟨_,rfl,FX.zero _,zga HB9.o (zLS _) _ _ _⟩
set_option maxRecDepth 100000 in
theorem rmoment_rng (va:Value) (l:LQ) (n:Nat) (w:World) (ha:zgd w va l) (hl:znb l) (hn:n<1\/3<n):Calls Tryz.prog 124 #[va, .int .i64 (n:Nat)] w (RFX w false [] [] 5):=by
 obtain⟨sv,rv,ev,rfl,hs,hr,he⟩:=id ha;obtain⟨ra,rn,rk,rfl,_⟩:=id hr.sl;obtain⟨sa,sn,sk,rfl,_⟩:=id hs.sl;obtain⟨ea,en,ek,rfl,_⟩:=id he.sl;have hba:=zca w (.cells #[.string { data:=#[] }, .slice sa sn sk, .slice ra rn rk, .slice ea en ek] 52);have hbb:=zca (w.alloc (.cells #[.string { data:=#[] }, .slice sa sn sk, .slice ra rn rk, .slice ea en ek] 52)) (.cells #[.bool false, .slice none 0 0, .slice none 0 0] 38);have HC:=zH ((C4.new w 52 (.string { data:=#[] }) (.slice sa sn sk) (.slice ra rn rk) (.slice ea en ek)).bS hbb);have HT:=zH (C3.newB (b:=w.heap.size+1) (w.alloc (.cells #[.string { data:=#[] }, .slice sa sn sk, .slice ra rn rk, .slice ea en ek] 52)) 38 (.bool false) (.slice none 0 0) (.slice none 0 0) (by show(w.heap.push _).size=_;rw[Array.size_push]));have HBW:=zH (zaa hba hbb);have HA:=zH (ha.bw HBW.o);have HL:=zH hl;clear hs hr he ha hl hba hbb;go_enter Tryz.func124,Tryz.ntmps124;go_upto_region 1 with fail;generalize (w.alloc (.cells #[.string { data:=#[] }, .slice sa sn sk, .slice ra rn rk, .slice ea en ek] 52)).alloc (.cells #[.bool false, .slice none 0 0, .slice none 0 0] 38)=W2 at *
 obtain⟨_,c0,c1,c2,c3,_⟩:=HC.o;rcases hn with hn | hn
 ·have h13:decide ((n:Int)<1)=true:=zDT zO;clear hn
  go_wp2_with (first
   |(go_at_call 180;(with_reducible refine(zxb _ l _ HA.o.lawC HL.o).mono ?_);rintro e4 w4 ⟨rfl,hb4⟩;have HT9:=zH (HT.o.bS hb4);have HB9:=zH (zaa HBW.o hb4);obtain⟨_,d0,d1,d2,f0,f1,f2⟩:=HT9.o;clear hb4 c0 c1 c2 c3))
  refine zla rfl rfl Tryz.aggF Tryz.sizeF (HT9.o.set _ _ _) rfl ?_;exact⟨_,rfl,FX.zero _,zga HB9.o (zLS _) _ _ _⟩
 ·have h13:decide ((n:Int)<1)=false:=zDF zO;have h33:decide ((3:Int)<(n:Int))=true:=zDT zO;clear hn
  go_wp2_with (first
   |(go_at_call 180;(with_reducible refine(zxb _ l _ HA.o.lawC HL.o).mono ?_);rintro e4 w4 ⟨rfl,hb4⟩;have HT9:=zH (HT.o.bS hb4);have HB9:=zH (zaa HBW.o hb4);obtain⟨_,d0,d1,d2,f0,f1,f2⟩:=HT9.o;clear hb4 c0 c1 c2 c3))
  refine zla rfl rfl Tryz.aggF Tryz.sizeF (HT9.o.set _ _ _) rfl ?_;exact⟨_,rfl,FX.zero _,zga HB9.o (zLS _) _ _ _⟩
set_option maxRecDepth 100000 in
theorem rmean20_any (va:Value) (l:LQ) (w:World) (ha:zgd w va l) (hl:znb l) (hp:MomP l 1 1) (hrm:RMom l 1):Calls Tryz.prog 125 #[va] w (RF0 w (momQ l 1)):=by
 obtain⟨sv,rv,ev,rfl,hs,hr,he⟩:=id ha;obtain⟨ra,rn,rk,rfl,_⟩:=id hr.sl;obtain⟨sa,sn,sk,rfl,_⟩:=id hs.sl;obtain⟨ea,en,ek,rfl,_⟩:=id he.sl;have hba:=zca w (.cells #[.string { data:=#[] }, .slice sa sn sk, .slice ra rn rk, .slice ea en ek] 52);have hbb:=zca (w.alloc (.cells #[.string { data:=#[] }, .slice sa sn sk, .slice ra rn rk, .slice ea en ek] 52)) (.cells #[.bool false, .slice none 0 0, .slice none 0 0] 38);have HC:=zH ((C4.new w 52 (.string { data:=#[] }) (.slice sa sn sk) (.slice ra rn rk) (.slice ea en ek)).bS hbb);have HT:=zH (C3.newB (b:=w.heap.size+1) (w.alloc (.cells #[.string { data:=#[] }, .slice sa sn sk, .slice ra rn rk, .slice ea en ek] 52)) 38 (.bool false) (.slice none 0 0) (.slice none 0 0) (by show(w.heap.push _).size=_;rw[Array.size_push]));have HBW:=zH (zaa hba hbb);have HA:=zH (ha.bw HBW.o);have HM1:zI (∀w0,zgd w0 (.agg #[.string { data:=#[] }, .slice sa sn sk, .slice ra rn rk, .slice ea en ek]) l->Calls Tryz.prog 124 #[.agg #[.string { data:=#[] }, .slice sa sn sk, .slice ra rn rk, .slice ea en ek], .int .i64 1] w0 (RF0 w0 (momQ l 1))):=zH (λ w0 h=>zao _ l 1 w0 h hl (zLR _) zD hp hrm);clear ha hl hp hrm hs hr he hba hbb;go_enter Tryz.func125,Tryz.ntmps125;go_upto_region 1 with fail;generalize (w.alloc (.cells #[.string { data:=#[] }, .slice sa sn sk, .slice ra rn rk, .slice ea en ek] 52)).alloc (.cells #[.bool false, .slice none 0 0, .slice none 0 0] 38)=W2 at *
 obtain⟨_,c0,c1,c2,c3,_⟩:=HC.o
 go_wp2_with (first
  |(go_at_call 124;(with_reducible refine(HM1.o _ HA.o).mono ?_);rintro e4 w4 ⟨v4,rfl,hv4,hb4⟩;obtain⟨t9,a91,l91,k91,a92,l92,k92,rfl⟩:=hv4.iF;have HT9:=zH (HT.o.bS hb4);have HB9:=zH (zaa HBW.o hb4);have HV9:=zH hv4;obtain⟨_,d0,d1,d2,f0,f1,f2⟩:=HT9.o;clear hv4 hb4 c0 c1 c2 c3))
 refine zla rfl rfl Tryz.aggF Tryz.sizeF (HT9.o.set _ _ _) rfl ?_;exact⟨_,rfl,HV9.o.set3 HT9.o zZ zZ _ _ _,zga HB9.o (zLS _) _ _ _⟩
def zfg (n:Nat) (f:Mx):List (List Rat):=(List.range n).map λ i=>zxa n (f i)
theorem zgb (n:Nat) (f:Mx):(zfg n f).length=n:=by simp[zfg]
theorem zeb (n:Nat) (f:Mx) (i:Nat) (h:i<(zfg n f).length):(zfg n f)[i]=zxa n (f i):=by simp[zfg]
theorem tabL_congr {n:Nat} {f g:Mx} (h:∀i j,i<n->j<n->f i j=g i j):zfg n f=zfg n g:=
 List.map_congr_left λ i hi=>zlb λ j hj=>h i j (List.mem_range.1 hi) hj
theorem znn (n:Nat):zcb n=zxa n λ _=>0:=by
 refine List.ext_getElem (by rw[zpa,zda]) λ i h1 h2=> ?_
 rw[zqb];exact(List.mem_replicate.1 (zGM h1)).2
theorem zeros_tab (n:Nat):List.replicate n (zcb n)=zfg n λ _ _=>0:=by
 refine List.ext_getElem (by simp[zfg]) λ i h1 h2=> ?_
 rw[zeb,List.getElem_replicate,znn]
theorem tabL_put {n i j:Nat} {f g:Mx} (hi:i<n) (hj:j<n) (h:∀r c,r<n->c<n->¬ (r=i/\c=j)->f r c=g r c) (hi2:i<(zfg n f).length):(zfg n f).set i ((zfg n f)[i].set j (g i j))=zfg n g:=by
 refine List.ext_getElem (by simp[zfg]) λ r h1 h2=> ?_
 have hr:r<n:=by rw[zgb]at h2;exact h2
 rw[List.getElem_set,zeb n g];by_cases e:i=r
 ·subst e;rw[zIP rfl,zeb n f];exact zuf λ k hk hne=>h i k hr hk (λ e=>hne e.2)
 ·rw[zIN e,zeb n f];exact zlb λ k hk=>h r k hr hk (λ e2=>e e2.1.symm)
def znd (w:World) (B:Nat) (vs ve vr:Value) (rs:List Value) (n:Nat) (s e:Nat->Rat) (f:Mx):Prop:=zpe w B vs ve vr rs (zxa n s) (zxa n e) (zfg n f)
section
variable {w w':World} {B n:Nat} {vs ve vr:Value} {rs:List Value} {s e s' e':Nat->Rat} {f g:Mx}
theorem zpe.lawT (h:zpe w B vs ve vr rs (zcb n) (zcb n) (List.replicate n (zcb n))):znd w B vs ve vr rs n (λ _=>0) (λ _=>0) (λ _ _=>0):=by
 unfold znd;rw[<-znn,<-zeros_tab];exact h
theorem znd.bw (h:znd w B vs ve vr rs n s e f) (hb:Below w.heap.size w w'):znd w' B vs ve vr rs n s e f:=zpe.bw h hb
theorem znd.congr (h:znd w B vs ve vr rs n s e f) (h1:∀i,i<n->s i=s' i) (h2:∀i,i<n->e i=e' i) (h3:∀i j,i<n->j<n->f i j=g i j):znd w B vs ve vr rs n s' e' g:=by
 unfold znd at *
 rw[zlb h1,zlb h2,tabL_congr h3]at h;exact h
theorem znd.rsl (h:znd w B vs ve vr rs n s e f):rs.length=n:=by
 have h1:=zpe.rl h;rw[zgb]at h1;exact h1
theorem znd.putS (h:znd w B vs ve vr rs n s e f) {i:Nat} (hi:i<n) (hs:∀k,k<n->k≠i->s k=s' k) {x y z:Value} (hf:zia w (.agg #[x,y,z]) (s' i)):
 znd (((w.setCell (ptr vs (i*3)) x).setCell (ptr vs (i*3+1)) y).setCell (ptr vs (i*3+2)) z) B vs ve vr rs n s' e f/\Below B w (((w.setCell (ptr vs (i*3)) x).setCell (ptr vs (i*3+1)) y).setCell (ptr vs (i*3+2)) z):=by
 have h1:=zpe.putS h (i:=i) (by rw[zda];exact hi) hf;rw[zuf hs]at h1;exact h1
theorem znd.putE (h:znd w B vs ve vr rs n s e f) {i:Nat} (hi:i<n) (hs:∀k,k<n->k≠i->e k=e' k) {x y z:Value} (hf:zia w (.agg #[x,y,z]) (e' i)):
 znd (((w.setCell (ptr ve (i*3)) x).setCell (ptr ve (i*3+1)) y).setCell (ptr ve (i*3+2)) z) B vs ve vr rs n s e' f/\Below B w (((w.setCell (ptr ve (i*3)) x).setCell (ptr ve (i*3+1)) y).setCell (ptr ve (i*3+2)) z):=by
 have h1:=zpe.putE h (i:=i) (by rw[zda];exact hi) hf;rw[zuf hs]at h1;exact h1
theorem znd.putR (h:znd w B vs ve vr rs n s e f) {i j:Nat} (hi:i<rs.length) (hj:j<n) (hs:∀r c,r<n->c<n->¬ (r=i/\c=j)->f r c=g r c) {x y z:Value} (hf:zia w (.agg #[x,y,z]) (g i j)):
 znd (((w.setCell (ptr rs[i] (j*3)) x).setCell (ptr rs[i] (j*3+1)) y).setCell (ptr rs[i] (j*3+2)) z) B vs ve vr rs n s e g/\Below B w (((w.setCell (ptr rs[i] (j*3)) x).setCell (ptr rs[i] (j*3+1)) y).setCell (ptr rs[i] (j*3+2)) z):=by
 have hn:=h.rsl;have hi2:i<(zfg n f).length:=by rw[zgb,<-hn];exact hi
 have h1:=zpe.putR h (j:=j) hi hi2 (by rw[zeb,zda];exact hj) hf;rw[tabL_put (by rw[<-hn];exact hi) hj hs hi2]at h1;exact h1
theorem znd.lawC (h:znd w B vs ve vr rs n s e f) (nm:Value):zxj w (.agg #[nm,vs,vr,ve]) ⟨zxa n s,zxa n e,zfg n f⟩:=zpe.lawC h nm
end
def plF (f g:Mx) (m at' i k:Nat):Mx:=λ r c=>if at'<=r/\at'<=c/\c<at'+m/\(r<at'+i\/(r=at'+i/\c<at'+k))then g (r-at') (c-at')else f r c
section
variable {f g:Mx} {m n at' i k:Nat}
theorem plF_zero (r c:Nat):f r c=plF f g m at' 0 0 r c:=by
 unfold plF;rw[zIN zO]
theorem plF_put (hk:k<m) {r c:Nat} (h:¬ (r=at'+i/\c=at'+k)):plF f g m at' i k r c=plF f g m at' i (k+1) r c:=by
 unfold plF;by_cases h1:at'<=r/\at'<=c/\c<at'+m/\(r<at'+i\/(r=at'+i/\c<at'+k))
 ·rw[zIP h1,zIP zO]
 ·rw[zIN h1,zIN zO]
theorem plF_at (hk:k<m):plF f g m at' i (k+1) (at'+i) (at'+k)=g i k:=by
 unfold plF;rw[zIP zO,zAS,zAS]
theorem plF_row (r c:Nat):plF f g m at' i m r c=plF f g m at' (i+1) 0 r c:=by
 unfold plF;by_cases h1:at'<=r/\at'<=c/\c<at'+m/\(r<at'+i\/(r=at'+i/\c<at'+m))
 ·rw[zIP h1,zIP zO]
 ·rw[zIN h1,zIN zO]
end
def plA (f g:Mx) (m at':Nat):Mx:=λ r c=>if at'<=r/\at'<=c/\c<at'+m/\r<at'+m then g (r-at') (c-at')else f r c
theorem plF_all {f g:Mx} {m at':Nat} (r c:Nat):plF f g m at' m 0 r c=plA f g m at' r c:=by
 unfold plF plA;by_cases h1:at'<=r/\at'<=c/\c<at'+m/\r<at'+m
 ·rw[zIP h1,zIP zO]
 ·rw[zIN h1,zIN zO]
end Go.Proofs.YtlpdkbmmbdfoiaaGreat
namespace Go.Proofs.YtlpdkbmmbdfoiaaGreat
def fnL (n:Nat) (s e:Nat->Rat) (f:Mx):LQ:=⟨zxa n s,zxa n e,zfg n f⟩
section
variable {n:Nat} {s e:Nat->Rat} {f:Mx}
theorem ztd {n:Nat} {f:Nat->Rat} {i:Nat} (h:i<n):(zxa n f).getD i 0=f i:=by
 rw[zGD,zGE (by rw[zda];exact h),Option.getD_some,zqb]
theorem zzf :(fnL n s e f).start.length=n:=zda _ _
theorem fn_st {i:Nat} (h:i<n):stQ (fnL n s e f) i=s i:=ztd h
theorem fn_ex {i:Nat} (h:i<n):exQ (fnL n s e f) i=e i:=ztd h
theorem fn_row {i:Nat} (h:i<n):(fnL n s e f).rates.getD i []=zxa n (f i):=by
 show(zfg n f).getD i []=_
 rw[zGD,zGE (by rw[zgb];exact h),Option.getD_some,zeb]
theorem fn_rt {i j:Nat} (h:i<n) (h2:j<n):rtQ (fnL n s e f) i j=f i j:=by
 unfold rtQ;rw[fn_row h];exact ztd h2
theorem fn_law (h1:1<=n) (h4:n<=4) (hs:∀i,i<n->zqf (s i)) (he:∀i,i<n->zqf (e i)) (hr:∀i j,i<n->j<n->zqf (f i j)) (hd:∀i,i<n->f i i=0) (hsum:sg n s=1)
 (hends:∀i,i<n->0<e i\/∃j,i<j/\j<n/\0<f i j):znb (fnL n s e f) where
 n1:=by rw[zzf];exact h1
 n4:=by rw[zzf];exact h4
 el:=(zda _ _).trans (zda _ _).symm
 rl:=(zgb _ _).trans (zda _ _).symm
 st:=λ q hq=>by
  obtain⟨i,hi,rfl⟩:=List.mem_map.1 (show q∈(List.range n).map s from hq);exact hs i (List.mem_range.1 hi)
 ex:=λ q hq=>by
  obtain⟨i,hi,rfl⟩:=List.mem_map.1 (show q∈(List.range n).map e from hq);exact he i (List.mem_range.1 hi)
 row:=λ i hi=>by
  have hi2:i<n:=by rw[show(fnL n s e f).rates.length=n from zgb _ _]at hi;exact hi
  have e1:(fnL n s e f).rates[i]=zxa n (f i):=zeb _ _ _ _;rw[e1];refine⟨by rw[zda,zzf],λ q hq=> ?_,by rw[ztd hi2];exact hd i hi2⟩;obtain⟨j,hj,rfl⟩:=List.mem_map.1 (show q∈(List.range n).map (f i)from hq);exact hr i j hi2 (List.mem_range.1 hj)
 sum:=by
  show zef (zxa n s)=1
  rw[zkr,zda,<-hsum];exact zqa λ i hi=>ztd hi
 ends:=by
  refine⟨λ i=>n-1-i,λ i hi=> ?_⟩;rw[zzf]at hi |-
  refine⟨show n-1-i<=n by omega,?_⟩;rcases hends i hi with h | ⟨j,hij,hj,h⟩
  ·exact Or.inl (by rw[show(fnL n s e f).exit.getD i 0=e i from ztd hi];exact h)
  ·refine Or.inr ⟨j,hj,?_,show n-1-j<n-1-i by omega⟩;rw[fn_row hi,ztd hj];exact h
end
section
variable {l:LQ}
end
section
variable (a b:LQ) (p:Rat)
def smS :Nat->Rat:=λ i=>if i<a.start.length then stQ a i else 0
def smE :Nat->Rat:=λ i=>if i<a.start.length then 0 else exQ b (i-a.start.length)
def smR :Mx:=λ i j=>if i<a.start.length then(if j<a.start.length then rtQ a i j else exQ a i*stQ b (j-a.start.length))else(if j<a.start.length then 0 else rtQ b (i-a.start.length) (j-a.start.length))
def sumL :LQ:=fnL (a.start.length+b.start.length) (smS a) (smE a b) (smR a b)
def mxS :Nat->Rat:=λ i=>if i<a.start.length then p*stQ a i else(1-p)*stQ b (i-a.start.length)
def mxE :Nat->Rat:=λ i=>if i<a.start.length then exQ a i else exQ b (i-a.start.length)
def mxR :Mx:=λ i j=>if i<a.start.length then(if j<a.start.length then rtQ a i j else 0)else(if j<a.start.length then 0 else rtQ b (i-a.start.length) (j-a.start.length))
def zir :LQ:=fnL (a.start.length+b.start.length) (mxS a b p) (mxE a b) (mxR a b)
def fiE :Nat->Rat:=λ r=>exQ a (r/b.start.length)+exQ b (r%b.start.length)
def firL :LQ:=fnL (bfN a b) (bfS a b) (fiE a b) (bfr a b)
end
section
variable {a b:LQ} {p:Rat}
theorem sm_lt {i:Nat} (h:i<a.start.length):smS a i=stQ a i/\smE a b i=0:=by unfold smS smE;rw[zIP h,zIP h];exact⟨rfl,rfl⟩
theorem sm_ge (k:Nat):smS a (a.start.length+k)=0/\smE a b (a.start.length+k)=exQ b k:=by
 unfold smS smE;rw[zIN zO,zIN zO,zAS];exact⟨rfl,rfl⟩
theorem smR_aa {i j:Nat} (hi:i<a.start.length) (hj:j<a.start.length):smR a b i j=rtQ a i j:=by unfold smR;rw[zIP hi,zIP hj]
theorem smR_ab {i:Nat} (hi:i<a.start.length) (k:Nat):smR a b i (a.start.length+k)=exQ a i*stQ b k:=by unfold smR;rw[zIP hi,zIN zO,zAS]
theorem smR_ba (k:Nat) {j:Nat} (hj:j<a.start.length):smR a b (a.start.length+k) j=0:=by unfold smR;rw[zIN zO,zIP hj]
theorem smR_bb (k t:Nat):smR a b (a.start.length+k) (a.start.length+t)=rtQ b k t:=by unfold smR;rw[zIN zO,zIN zO,zAS,zAS]
theorem zig {n m i:Nat} (h:i<n+m):i<n\/∃k,k<m/\i=n+k:=by
 rcases zOG i n with h1 | h1
 ·exact Or.inl h1
 ·exact Or.inr ⟨i-n,zO,zO⟩
theorem sum_one {n:Nat} (f:Nat->Rat):sg n f=sg n λ j=>f j*1:=zqa λ j _=>(Rat.mul_one _).symm
theorem mx_lt {i:Nat} (h:i<a.start.length):mxS a b p i=p*stQ a i/\mxE a b i=exQ a i:=by unfold mxS mxE;rw[zIP h,zIP h];exact⟨rfl,rfl⟩
theorem mx_ge (k:Nat):mxS a b p (a.start.length+k)=(1-p)*stQ b k/\mxE a b (a.start.length+k)=exQ b k:=by
 unfold mxS mxE;rw[zIN zO,zIN zO,zAS];exact⟨rfl,rfl⟩
theorem mxR_aa {i j:Nat} (hi:i<a.start.length) (hj:j<a.start.length):mxR a b i j=rtQ a i j:=by unfold mxR;rw[zIP hi,zIP hj]
theorem mxR_ab {i:Nat} (hi:i<a.start.length) (k:Nat):mxR a b i (a.start.length+k)=0:=by unfold mxR;rw[zIP hi,zIN zO]
theorem mxR_ba (k:Nat) {j:Nat} (hj:j<a.start.length):mxR a b (a.start.length+k) j=0:=by unfold mxR;rw[zIN zO,zIP hj]
theorem mxR_bb (k t:Nat):mxR a b (a.start.length+k) (a.start.length+t)=rtQ b k t:=by unfold mxR;rw[zIN zO,zIN zO,zAS,zAS]
theorem fir_sum {x:Nat->Rat} (hb:znb b):sg (bfN a b) (λ r=>bfS a b r*x r)=sg a.start.length λ i=>sg b.start.length λ j=>stQ a i*stQ b j*x (i*b.start.length+j):=by
 unfold bfN;rw[sg_pairs];refine zqa λ i hi=>zqa λ j hj=> ?_
 unfold bfS;rw[zhc hj,zrc hj]
end
def midN (n:Nat) (q:Rat):Prop:=∃E K,E≠0/\E<2^n/\K<2^n/\over E K q
def mid (q:Rat):Prop:=midN 240 q
section
variable {a b:Nat} {p q:Rat}
end
section
variable {p q r s:Rat}
end
section
variable {l:LQ} {D B:Nat}
end
theorem zyk {D B:Nat} {q:Rat} (hD:D≠0) (h:over D B q) (h0:0<=q) (h1:D<2^32) (h2:B<2^32):zqf q:=by
 obtain⟨s,n,rfl,h4⟩:=h.fq;refine⟨h0,?_,?_⟩
 ·rw[zyf _ _ _ hD];exact zve (zLL (Nat.div_le_self _ _) (zLL h4 h2))
 ·rw[zxo _ _ _ hD];exact zve (zLL (Nat.div_le_self _ _) h1)
section
variable {a b:LQ} {p:Rat}
theorem zze.step {m:Nat} (h:zze m a) {i:Nat} (hi:i<a.start.length):0<exQ a i\/(i+1<a.start.length/\0<rtQ a i (i+1)):=by
 obtain⟨n,h1,h2,h3⟩:=h;rw[h3.sl]at hi |-
 rcases h3.ex_get hi with h4 | ⟨_,h4⟩
 ·exact Or.inl h4.pos
 ·exact Or.inr ⟨h4,((h3.rt_get hi h4).1 rfl).pos⟩
theorem sum_lawG {z:Nat} (ha:zze z a) (hb:zze z b) (hz:z<=4) (h4:a.start.length+b.start.length<=4):znb (sumL a b):=by
 have pa:=ha.law hz;have pb:=hb.law hz;have n1:=pa.n1;have m1:=pb.n1;refine fn_law zO h4 (λ i hi=> ?_) (λ i hi=> ?_) (λ i j hi hj=> ?_) (λ i hi=> ?_) ?_ λ i hi=> ?_
 ·rcases zig hi with h | ⟨k,hk,rfl⟩
  ·rw[(sm_lt (b:=b) h).1];exact pa.st_lim h
  ·rw[(sm_ge (b:=b) k).1];exact zfd
 ·rcases zig hi with h | ⟨k,hk,rfl⟩
  ·rw[(sm_lt h).2];exact zfd
  ·rw[(sm_ge k).2];exact pb.ex_lim hk
 ·rcases zig hi with h | ⟨k,hk,rfl⟩
  ·rcases zig hj with h2 | ⟨t,ht,rfl⟩
   ·rw[smR_aa h h2];exact pa.rt_lim h h2
   ·rw[smR_ab h];exact zyk zD (over.mul (ha.sm.e i h) (hb.start8 ht)) (Rat.mul_nonneg (pa.ex_lim h).1 (pb.st_lim ht).1) zD zD
  ·rcases zig hj with h2 | ⟨t,ht,rfl⟩
   ·rw[smR_ba k h2];exact zfd
   ·rw[smR_bb];exact pb.rt_lim hk ht
 ·rcases zig hi with h | ⟨k,hk,rfl⟩
  ·rw[smR_aa h h];exact pa.rt_diag h
  ·rw[smR_bb];exact pb.rt_diag hk
 ·rw[zjk];have e1:sg a.start.length (smS a)=1:=by rw[<-pa.st_sum];exact zqa λ i hi=>(sm_lt (b:=b) hi).1
  have e2:(sg b.start.length λ j=>smS a (a.start.length+j))=sg b.start.length λ _=>0:=zqa λ k _=>(sm_ge (b:=b) k).1
  rw[e1,e2,zfi,Rat.add_zero]
 ·rcases zig hi with h | ⟨k,hk,rfl⟩
  ·right
   rcases ha.step h with h1 | ⟨h1,h2⟩
   ·have hne:∃k,k<b.start.length/\0<stQ b k:=Classical.byContradiction λ hn=>by
     have h5:sg b.start.length (stQ b)=sg b.start.length λ _=>0:=zqa λ k hk=>by
      refine Rat.le_antisymm (Rat.not_lt.1 λ h6=>hn ⟨k,hk,h6⟩) (pb.st_lim hk).1
     rw[pb.st_sum,zfi]at h5;exact absurd h5 (by decide+kernel)
    obtain⟨k,hk,h6⟩:=hne;refine⟨a.start.length+k,zO,zO,?_⟩;rw[smR_ab h];exact Rat.mul_pos h1 h6
   ·exact⟨i+1,zO,zO,by rw[smR_aa h h1];exact h2⟩
  ·rcases hb.step hk with h1 | ⟨h1,h2⟩
   ·left;rw[(sm_ge k).2];exact h1
   ·right
    exact⟨a.start.length+(k+1),zO,zO,by rw[smR_bb];exact h2⟩
end
section
variable {a b:LQ} {p:Rat} {D:Nat}
theorem mix_lawG {z:Nat} (ha:zze z a) (hb:zze z b) (hz:z<=4) (h4:a.start.length+b.start.length<=4) (hD:D≠0) (hD2:D<=256) (hp:over D 256 p) (h0:0<=p) (h1:p<=1):znb (zir a b p):=by
 have pa:=ha.law hz;have pb:=hb.law hz;have n1:=pa.n1;have m1:=pb.n1;have hq:over D (256+256) (1-p):=over.sub hD ((over.one hD).mono hD2) hp;have hq0:0<=1-p:=by grind
 have hD8:D*8≠0:=zO;have hD9:D*8<2^32:=zLL (zMR 8 hD2) zD;refine fn_law zO h4 (λ i hi=> ?_) (λ i hi=> ?_) (λ i j hi hj=> ?_) (λ i hi=> ?_) ?_ λ i hi=> ?_
 ·rcases zig hi with h | ⟨k,hk,rfl⟩
  ·rw[(mx_lt h).1];exact zyk hD8 (over.mul hp (ha.start8 h)) (Rat.mul_nonneg h0 (pa.st_lim h).1) hD9 zD
  ·rw[(mx_ge k).1];exact zyk hD8 (over.mul hq (hb.start8 hk)) (Rat.mul_nonneg hq0 (pb.st_lim hk).1) hD9 zD
 ·rcases zig hi with h | ⟨k,hk,rfl⟩
  ·rw[(mx_lt (p:=p) h).2];exact pa.ex_lim h
  ·rw[(mx_ge (p:=p) k).2];exact pb.ex_lim hk
 ·rcases zig hi with h | ⟨k,hk,rfl⟩
  ·rcases zig hj with h2 | ⟨t,ht,rfl⟩
   ·rw[mxR_aa h h2];exact pa.rt_lim h h2
   ·rw[mxR_ab h];exact zfd
  ·rcases zig hj with h2 | ⟨t,ht,rfl⟩
   ·rw[mxR_ba k h2];exact zfd
   ·rw[mxR_bb];exact pb.rt_lim hk ht
 ·rcases zig hi with h | ⟨k,hk,rfl⟩
  ·rw[mxR_aa h h];exact pa.rt_diag h
  ·rw[mxR_bb];exact pb.rt_diag hk
 ·rw[zjk]
  have e1:sg a.start.length (mxS a b p)=p:=by
   (have e:sg a.start.length (mxS a b p)=sg a.start.length λ i=>p*stQ a i:=zqa λ i hi=>(mx_lt hi).1);rw[e,zhb,pa.st_sum,Rat.mul_one]
  have e2:(sg b.start.length λ j=>mxS a b p (a.start.length+j))=1-p:=by
   (have e:(sg b.start.length λ j=>mxS a b p (a.start.length+j))=sg b.start.length λ k=>(1-p)*stQ b k:=zqa λ k _=>(mx_ge k).1);rw[e,zhb,pb.st_sum,Rat.mul_one]
  rw[e1,e2];grind
 ·rcases zig hi with h | ⟨k,hk,rfl⟩
  ·rcases ha.step h with h1 | ⟨h1,h2⟩
   ·left;rw[(mx_lt (p:=p) h).2];exact h1
   ·right;exact⟨i+1,zO,zO,by rw[mxR_aa h h1];exact h2⟩
  ·rcases hb.step hk with h1 | ⟨h1,h2⟩
   ·left;rw[(mx_ge (p:=p) k).2];exact h1
   ·right;exact⟨a.start.length+(k+1),zO,zO,by rw[mxR_bb];exact h2⟩
theorem fir_lawG {z:Nat} (ha:zze z a) (hb:zze z b) (hz:z<=4) (h4:a.start.length*b.start.length<=4):znb (firL a b):=by
 have pa:=ha.law hz;have pb:=hb.law hz;refine fn_law (Nat.mul_pos (by have:=pa.n1;omega) (by have:=pb.n1;omega)) h4 (λ r hr=> ?_) (λ r hr=> ?_) (λ r c hr hc=> ?_) (λ r hr=>bfr_diag r) ?_ λ r hr=> ?_
 ·obtain⟨r1,r2⟩:=ztg pb hr;exact zyk zD (over.mul (ha.start8 r1) (hb.start8 r2)) (Rat.mul_nonneg (pa.st_lim r1).1 (pb.st_lim r2).1) zD zD
 ·obtain⟨r1,r2⟩:=ztg pb hr;exact zyk zD (over.add zD (ha.sm.e _ r1) (hb.sm.e _ r2)) (Rat.add_nonneg (pa.ex_lim r1).1 (pb.ex_lim r2).1) zD zD
 ·obtain⟨r1,r2⟩:=ztg pb hr;obtain⟨c1,c2⟩:=ztg pb hc;unfold bfr;split
  ·exact zfd
  ·split
   ·exact pa.rt_lim r1 c1
   ·split
    ·exact pb.rt_lim r2 c2
    ·exact zfd
 ·have h:=fir_sum (a:=a) (b:=b) (x:=λ _=>1) pb;rw[<-sum_one]at h;rw[h]
  have e:(sg a.start.length λ i=>sg b.start.length λ j=>stQ a i*stQ b j*1)=sg a.start.length λ i=>stQ a i*1:=zqa λ i hi=>by
   rw[<-pb.st_sum,<-zhb];exact zqa λ j _=>by rw[pb.st_sum,Rat.mul_one]
  rw[e,<-sum_one];exact pa.st_sum
 ·obtain⟨r1,r2⟩:=ztg pb hr;rcases ha.step r1 with h1 | ⟨h1,h2⟩
  ·left
   have h3:=(pb.ex_lim r2).1;(show 0<exQ a (r/b.start.length)+exQ b (r%b.start.length));grind
  ·right
   have hm:b.start.length*1<=b.start.length:=zO;have e0:r/b.start.length*b.start.length+r%b.start.length=r:=zgm;have e1:(r/b.start.length+1)*b.start.length=r/b.start.length*b.start.length+b.start.length:=Nat.succ_mul _ _;have hb1:=pb.n1;refine⟨(r/b.start.length+1)*b.start.length+r%b.start.length,zO,zfm h1 r2,?_⟩;unfold bfr;rw[zIN zO,zhc r2,zrc r2,zIP rfl];exact h2
end
end Go.Proofs.YtlpdkbmmbdfoiaaGreat
namespace Go.Proofs.YtlpdkbmmbdfoiaaGreat
open Go.RowKit
theorem append_rowsP {P:Program} (t e:TypeId) (i:TypeInfo) (ht:P.underlying t=some (.slice e)) (hi:P.info? e=some i) (hz:i.zero=some (.slice none 0 0)) (hsize:i.size=1) (hby:i.bytes=24)
 (w:World) {ops:Array Oper} {rest:List Oper} {o:Oper} {a:Act} {Q:Exit->Act->World->Prop} (hgd:o.guard=none) (s x:Operand)
 (ho:o.op= .call { callee:= .builtin .append,args:=#[s,x],argTypes:=#[t,t] }) (B:Nat)
 (v:Value) (xs:List Value) (hs:a.eval s=v) (hown:zkc w e B 1 v xs.length xs) (ad:Addr) (m c:Nat) (hxe:a.eval x= .slice (some ad) m c) (news:List Value) (hl:news.length=m)
 (hnews:∀j u,news[j]? =some u->w.cell? (ad.add j)=some u) (h1:∀u∈news,u.oneCell'=true) (hnn:∀c∈news,∀z,c≠ .int .u32 z) (hn:xs.length+m<=1000) (hbase:B<=w.heap.size)
 (h:∀v' w',zkc w' e B 1 v' (xs++news).length (xs++news)->w.grownBy w' v.ownBlock->zrb w v->(v'.ownBlock=v.ownBlock\/v'.ownBlock=some w.heap.size)->zvc v'->wpList P ops Q rest (a.put o.dst v') w'):
 wpList P ops Q (o::rest) a w:=by
 refine wpList_plain hgd λ K hK=> ?_
 obtain⟨v',w',hr,k1,k2,k3,k4⟩:=zid (P:=P) w B t o.type e i _ 1 24 ht hi hz hsize hby rfl zD v xs.length xs hown.own ad m c news zO
  hnews h1 (by simp[maxLen];omega) zO hbase hown.nl hnn (λ c hc z=>by
   have hc2:c∈ [Value.slice none 0 0]:=hc;simp at hc2;subst hc2;simp)
 unfold Oper.wp execOp;simp only[ho,resolve,invoke,builtin,Sem.run_bind,Sem.run_pure,Result.andThen_ok,List.map_toArray,List.map_cons,List.map_nil,hs,hxe,hr];have hR:zkc w' e B 1 v' (xs.length+m) (xs++news):=⟨k1,k4⟩;exact hK _ _ (h v' w' (by rw[zLA,hl];exact hR) k2 hown.nl k3 hR.sl)
end Go.Proofs.YtlpdkbmmbdfoiaaGreat
