/- Lemmas. -/
import Derived.Test.YtkpedaflofejnaaGreatMBlk
import Derived.Deep.RegionLaw
set_option linter.unusedVariables false
set_option linter.unusedSimpArgs false
namespace Go.Proofs.YtkpedaflofejnaaGreat
set_option maxHeartbeats 1600000
open Go.RowKit
def zjc (w:World) (v:Value) (neg:Bool) (n d:Nat):Prop:=∃a b,v= .agg #[.bool neg,a,b]/\zwb w a n/\zwb w b d
def zna (w:World) (v:Value) (q:Rat):Prop:=∃a b,v= .agg #[.bool (decide (q<0)),a,b]/\zpb w a q.num.natAbs/\zpb w b q.den
theorem zna.raw {w:World} {v:Value} {q:Rat} (h:zna w v q):zjc w v (decide (q<0)) q.num.natAbs q.den:=by
 obtain⟨a,b,rfl,ha,hb⟩:=h;exact⟨a,b,rfl,ha.nat,hb.nat⟩
theorem zjc.bw {w w':World} {v:Value} {s:Bool} {n d:Nat} (h:zjc w v s n d) (hb:Below w.heap.size w w'):zjc w' v s n d:=by
 obtain⟨a,b,rfl,h1,h2⟩:=h;exact⟨a,b,rfl,h1.bw hb,h2.bw hb⟩
theorem zna.bw {w w':World} {v:Value} {q:Rat} (h:zna w v q) (hb:Below w.heap.size w w'):zna w' v q:=by
 obtain⟨a,b,rfl,h1,h2⟩:=h;exact⟨a,b,rfl,h1.bw hb,h2.bw hb⟩
theorem zba (w:World) (o:Obj):Below w.heap.size w (w.alloc o):=(zBR w.heap.size w).alloc (zLR _) o
theorem beq_bits (n:Nat):((zsa n:Int)==0)=decide (n=0):=by
 by_cases h:n=0
 ·simp[h,zcl]
 ·have:=zld.2 h;rw[zDF h];exact beq_eq_false_iff_ne.2 zO
theorem zdm (v:Value) (s:Bool) (n d:Nat) (w:World) (h:zjc w v s n d):
 Calls Tryz.prog 121 #[v] w λ e w'=>e= .returned (.bool (decide (n=0)))/\Below w.heap.size w w':=by
 obtain⟨a,b,rfl,ha,hb⟩:=h;go_enter Tryz.func121,Tryz.ntmps121;go_wp2_with (go_at_call 106;refine(zua _ n _ (ha.bw (zba _ _))).mono ?_;rintro e w' ⟨rfl,rfl⟩);go_ret;exact⟨by rw[<-beq_bits];rfl,zba _ _⟩
theorem zpc (va vb:Value) (m n:Nat) (w:World) (ha:zwb w va m) (hb:zwb w vb n) (hm:zda m<=256) (hn:zda n<=256):
 Calls Tryz.prog 120 #[va,vb] w (RNat w (m*n)):=by
 have h1:zda m<=512:=zO;have h2:zda n<=512:=zO
 have h3:zda (m*n)<=512:=by
  rw[zcc]at *
  have:=Nat.mul_lt_mul'' hm hn;rw[<-pw_add]at this;exact this
 have H1:=zH h1;have H2:=zH h2;have H3:=zH h3;clear h1 h2 h3 hm hn;go_enter Tryz.func120,Tryz.ntmps120;go_wp2_with (go_at_call 144;(with_reducible refine(mul_any _ _ m n _ ha hb H1.o H2.o).mono ?_);rintro e w1 ⟨r,er,rfl,hr,hbl⟩);obtain⟨rfl,hr2⟩:=hr.1 H3.o;go_wp2;go_ret;exact⟨_,rfl,hr2,hbl⟩
def okN (n d:Nat):Prop:=d≠0/\zsa d<=4096/\zsa n<=4096
instance (n d:Nat):Decidable (okN n d):=inferInstanceAs (Decidable (_/\_/\_))
theorem valid_any (v:Value) (s:Bool) (n d:Nat) (w:World) (h:zjc w v s n d):
 Calls Tryz.prog 118 #[v] w λ e w'=>e= .returned (.bool (decide (okN n d)))/\Below w.heap.size w w':=by
 obtain⟨a,b,rfl,ha,hb⟩:=h;have hbp:=zld (n:=d);generalize hx:zsa d=x at *
 have HX:=zH hx;clear hx;go_enter Tryz.func118,Tryz.ntmps118
 go_wp2_with (go_at_call 106;first
  |((with_reducible refine(zua a n _ (ha.bw (zba _ _))).mono ?_);rintro e w' ⟨rfl,rfl⟩)
  |((with_reducible refine(zua b d _ (hb.bw (zba _ _))).mono ?_);rintro e w' ⟨rfl,rfl⟩;rw[HX.o]))
 ·next h0=>
  go_ret;refine⟨?_,zba _ _⟩;rw[zDF (λ h=>h.1 h0)];rfl
 ·next h0 h1=>
  go_ret;refine⟨?_,zba _ _⟩
  have :decide (okN n d)=decide ((zsa n:Int)<=4096):=by
   by_cases hb:zsa n<=4096
   ·rw[zDT (show okN n d from⟨h0,by rw[HX.o];omega,hb⟩),zDT zO]
   ·rw[zDF (λ h:okN n d=>hb h.2.2),zDF zO]
  rw[this];rfl
 ·next h0 h1=>
  go_ret;refine⟨?_,zba _ _⟩;rw[zDF (λ h=>by have:=h.2.1;rw[HX.o]at this;omega)];rfl
theorem Tryz.aggF (w:World):(isAgg 53).run Tryz.prog w= .ok true w:=by go_simp
theorem Tryz.sizeF (w:World):(sizeOf 53).run Tryz.prog w= .ok 3 w:=by go_simp
def zeroF :Value:= .agg #[.bool false, .slice none 0 0, .slice none 0 0]
def zcm (w0:World) (q:Rat) (e:Ending) (w:World):Prop:=
 ∃v er,e= .returned (.tuple #[v, .int .i64 er])/\Below w0.heap.size w0 w/\(fits q->er=0/\zna w v q)/\(¬fits q->er=2/\v=zeroF)
theorem ztc.over {w:World} {v:Value} {l:List Nat} (h:ztc w v l) {p:Addr} {x:Value} (hp:w.cell? p=some x) (hx:∀z,x≠ .int .u32 z) (u:Value):ztc (w.setCell p u) v l:=
 ⟨h.sl,h.len,λ j hj=>by
  have h1:=h.cell j hj;rw[zCO]
  ·exact h1
  ·intro e;rw[<-e,hp]at h1;(injection h1 with h1);exact hx _ h1,h.lm⟩
theorem ztc.set3 {w:World} {v:Value} {l:List Nat} {b:Nat} {v0 v1 v2:Value} (h:ztc w v l) (hc:C3 w b v0 v1 v2) (h0:∀z,v0≠ .int .u32 z) (h1:∀z,v1≠ .int .u32 z) (h2:∀z,v2≠ .int .u32 z) (u0 u1 u2:Value):
 ztc (((w.setCell ⟨b,0,none⟩ u0).setCell ⟨b,1,none⟩ u1).setCell ⟨b,2,none⟩ u2) v l:=by
 refine((h.over hc.c0 h0 _).over (x:=v1) ?_ h1 _).over (x:=v2) ?_ h2 _
 ·rw[zCO]
  ·exact hc.c1
  ·simp
 ·rw[zCO,zCO]
  ·exact hc.c2
  ·simp
  ·simp
theorem zpb.set3 {w:World} {v:Value} {n:Nat} {b:Nat} {s:Bool} {x y:Value} (h:zpb w v n) (hc:C3 w b (.bool s) x y) (hx:∀z,x≠ .int .u32 z) (hy:∀z,y≠ .int .u32 z) (u0 u1 u2:Value):
 zpb (((w.setCell ⟨b,0,none⟩ u0).setCell ⟨b,1,none⟩ u1).setCell ⟨b,2,none⟩ u2) v n:=⟨h.v.set3 hc zZ hx hy _ _ _,h.2⟩
theorem zna.set3 {w:World} {v:Value} {q:Rat} {b:Nat} {s:Bool} {x y:Value} (h:zna w v q) (hc:C3 w b (.bool s) x y) (hx:∀z,x≠ .int .u32 z) (hy:∀z,y≠ .int .u32 z) (u0 u1 u2:Value):
 zna (((w.setCell ⟨b,0,none⟩ u0).setCell ⟨b,1,none⟩ u1).setCell ⟨b,2,none⟩ u2) v q:=by
 obtain⟨xa,xb,rfl,ha,hb⟩:=h;exact⟨xa,xb,rfl,ha.set3 hc hx hy _ _ _,hb.set3 hc hx hy _ _ _⟩
theorem zgk (n:Nat):decide (0<zsa n)=(true&&decide (0<n)):=by
 have:=zld (n:=n);by_cases h:n=0
 ·subst h;rfl
 ·rw[zDT (this.2 h),zDT (zPZ h)];rfl
theorem zho (s:Bool) (n d:Nat) (hd:d≠0):fits (fq s n d)↔zsa (n/Nat.gcd n d)<=4096/\zsa (d/Nat.gcd n d)<=4096:=by
 unfold fits;rw[zzh _ _ _ hd,fq_den _ _ _ hd]
theorem zsi {w:World} {xa xb:Value} {s t:Bool} {n d:Nat} (hd:d≠0) (ha:zpb w xa (n/Nat.gcd n d)) (hb:zpb w xb (d/Nat.gcd n d)) (ht:t=(s&&decide (0<n/Nat.gcd n d))):
 zna w (.agg #[.bool t,xa,xb]) (fq s n d):=by
 refine⟨xa,xb,by rw[fq_neg _ _ _ hd,ht],?_,?_⟩
 ·rw[zzh _ _ _ hd];exact ha
 ·rw[fq_den _ _ _ hd];exact hb
theorem lowest_one (s:Bool) (va vb:Value) (n d:Nat) (w:World) (ha:zwb w va n) (hb:zwb w vb d) (hd:d≠0) (hn5:zda n<=512) (hd5:zda d<=512) (hg:Nat.gcd n d=1):
 Calls Tryz.prog 135 #[.bool s,va,vb] w (zcm w (fq s n d)):=by
 have HN:=zH hn5;have HD:=zH hd5;have HG:=zH hg;have h1:zsa 1=1:=zD;have H1:=zH h1;clear hn5 hd5 hg h1;rcases s with _ | _
 case true=>
  go_enter Tryz.func135,Tryz.ntmps135
  go_wp2_with (first
   |(go_at_call 153;(with_reducible refine(zxq _ _ n d _ (ha.bw (zba _ _)) (hb.bw (zba _ _)) HN.o HD.o).mono ?_);rintro e w1 ⟨g,rfl,hg1,hb1⟩;rw[HG.o]at hg1)
   |(go_at_call 106;first
    |((with_reducible refine(zua g 1 _ hg1.nat).mono ?_);rintro e w' ⟨rfl,rfl⟩;rw[H1.o])))
  have hbz:=(zba _ _).trans (hb1.mono (zba _ _).size);have hxa:=ha.bw hbz;have hxb:=hb.bw hbz;have hC:=(C3.new w _ _ _ _).bS hb1;clear hb1 ha hb hg1;have hq1:n=n/Nat.gcd n d:=by rw[HG.o,Nat.div_one]
  have hq2:d=d/Nat.gcd n d:=by rw[HG.o,Nat.div_one]
  rw[hq1]at hxa;rw[hq2]at hxb;clear hq1 hq2;have hF:=zho true n d hd;generalize hN1:n/Nat.gcd n d=N1 at *
  generalize hD1:d/Nat.gcd n d=D1 at *
  have HN1:=zH hN1;have HD1:=zH hD1;have HC:=zH hC;have HBZ:=zH hbz;have HIF:=zH hF;obtain⟨_,c0,c1,c2,f0,f1,f2⟩:=hC;clear hN1 hD1 hF hbz;by_cases hfit:zsa N1<=4096/\zsa D1<=4096
  ·have HFI:=zH (HIF.o.2 hfit);obtain⟨hf1,hf2⟩:=hfit
   go_wp2_with (first
    |(go_at_call 106;first
     |((with_reducible refine(zua va N1 _ hxa).mono ?_);rintro e w' ⟨rfl,rfl⟩)
     |((with_reducible refine(zua vb D1 _ hxb).mono ?_);rintro e w' ⟨rfl,rfl⟩)))
   all_goals go_wp2_with (go_at_call 155;first
    |((with_reducible refine(zbe va N1 _ hxa).mono ?_);rintro e w1 ⟨ra,rfl,hra,hb1⟩;obtain⟨a1,l1,k1,rfl,_⟩:=hra.v.sl)
    |((with_reducible refine(zbe vb D1 _ (hxb.bw hb1)).mono ?_);rintro e w2 ⟨rb,rfl,hrb,hb2⟩;obtain⟨a2,l2,k2,rfl,_⟩:=hrb.v.sl
      have hra2:=hra.bw hb2;have hC2:=(HC.o.bS hb1).bS hb2;have HC2:=zH hC2;have HBZ2:=zH (HBZ.o.trans ((hb1.trans (hb2.mono hb1.size)).mono HBZ.o.size));obtain⟨_,d0,d1,d2,e0,e1,e2⟩:=hC2))
   all_goals
    (try simp only[Exit.inBlock,Exit.then]);refine zka rfl rfl Tryz.aggF Tryz.sizeF (HC2.o.set _ _ _) rfl ?_;refine⟨_,0,rfl,zea HBZ2.o (zLR _) _ _ _,λ _=>⟨rfl,zna.set3 (zsi hd (HN1.o▸hra2) (HD1.o▸hrb) ?_) HC2.o zZ zZ _ _ _⟩,λ h=>absurd HFI.o h⟩;rw[HN1.o];first | rfl | exact zgk N1
  ·have HFI:=zH (λ h=>hfit (HIF.o.1 h))
   go_wp2_with (first
    |(go_at_call 106;first
     |((with_reducible refine(zua va N1 _ hxa).mono ?_);rintro e w' ⟨rfl,rfl⟩)
     |((with_reducible refine(zua vb D1 _ hxb).mono ?_);rintro e w' ⟨rfl,rfl⟩)))
   all_goals
    refine zka rfl rfl Tryz.aggF Tryz.sizeF (HC.o.set _ _ _) rfl ?_;exact⟨_,2,rfl,zea HBZ.o (zLR _) _ _ _,λ h=>absurd h HFI.o,λ _=>⟨rfl,rfl⟩⟩
 case false=>
  go_enter Tryz.func135,Tryz.ntmps135
  go_wp2_with (first
   |(go_at_call 153;(with_reducible refine(zxq _ _ n d _ (ha.bw (zba _ _)) (hb.bw (zba _ _)) HN.o HD.o).mono ?_);rintro e w1 ⟨g,rfl,hg1,hb1⟩;rw[HG.o]at hg1)
   |(go_at_call 106;first
    |((with_reducible refine(zua g 1 _ hg1.nat).mono ?_);rintro e w' ⟨rfl,rfl⟩;rw[H1.o])))
  have hbz:=(zba _ _).trans (hb1.mono (zba _ _).size);have hxa:=ha.bw hbz;have hxb:=hb.bw hbz;have hC:=(C3.new w _ _ _ _).bS hb1;clear hb1 ha hb hg1;have hq1:n=n/Nat.gcd n d:=by rw[HG.o,Nat.div_one]
  have hq2:d=d/Nat.gcd n d:=by rw[HG.o,Nat.div_one]
  rw[hq1]at hxa;rw[hq2]at hxb;clear hq1 hq2;have hF:=zho false n d hd;generalize hN1:n/Nat.gcd n d=N1 at *
  generalize hD1:d/Nat.gcd n d=D1 at *
  have HN1:=zH hN1;have HD1:=zH hD1;have HC:=zH hC;have HBZ:=zH hbz;have HIF:=zH hF;obtain⟨_,c0,c1,c2,f0,f1,f2⟩:=hC;clear hN1 hD1 hF hbz;by_cases hfit:zsa N1<=4096/\zsa D1<=4096
  ·have HFI:=zH (HIF.o.2 hfit);obtain⟨hf1,hf2⟩:=hfit
   go_wp2_with (first
    |(go_at_call 106;first
     |((with_reducible refine(zua va N1 _ hxa).mono ?_);rintro e w' ⟨rfl,rfl⟩)
     |((with_reducible refine(zua vb D1 _ hxb).mono ?_);rintro e w' ⟨rfl,rfl⟩)))
   all_goals go_wp2_with (go_at_call 155;first
    |((with_reducible refine(zbe va N1 _ hxa).mono ?_);rintro e w1 ⟨ra,rfl,hra,hb1⟩;obtain⟨a1,l1,k1,rfl,_⟩:=hra.v.sl)
    |((with_reducible refine(zbe vb D1 _ (hxb.bw hb1)).mono ?_);rintro e w2 ⟨rb,rfl,hrb,hb2⟩;obtain⟨a2,l2,k2,rfl,_⟩:=hrb.v.sl
      have hra2:=hra.bw hb2;have hC2:=(HC.o.bS hb1).bS hb2;have HC2:=zH hC2;have HBZ2:=zH (HBZ.o.trans ((hb1.trans (hb2.mono hb1.size)).mono HBZ.o.size));obtain⟨_,d0,d1,d2,e0,e1,e2⟩:=hC2))
   all_goals
    (try simp only[Exit.inBlock,Exit.then]);refine zka rfl rfl Tryz.aggF Tryz.sizeF (HC2.o.set _ _ _) rfl ?_;refine⟨_,0,rfl,zea HBZ2.o (zLR _) _ _ _,λ _=>⟨rfl,zna.set3 (zsi hd (HN1.o▸hra2) (HD1.o▸hrb) ?_) HC2.o zZ zZ _ _ _⟩,λ h=>absurd HFI.o h⟩;rw[HN1.o];first | rfl | exact zgk N1
  ·have HFI:=zH (λ h=>hfit (HIF.o.1 h))
   go_wp2_with (first
    |(go_at_call 106;first
     |((with_reducible refine(zua va N1 _ hxa).mono ?_);rintro e w' ⟨rfl,rfl⟩)
     |((with_reducible refine(zua vb D1 _ hxb).mono ?_);rintro e w' ⟨rfl,rfl⟩)))
   all_goals
    refine zka rfl rfl Tryz.aggF Tryz.sizeF (HC.o.set _ _ _) rfl ?_;exact⟨_,2,rfl,zea HBZ.o (zLR _) _ _ _,λ h=>absurd h HFI.o,λ _=>⟨rfl,rfl⟩⟩
theorem lowest_more (s:Bool) (va vb:Value) (n d:Nat) (w:World) (ha:zwb w va n) (hb:zwb w vb d) (hd:d≠0) (hn5:zda n<=512) (hd5:zda d<=512) (hg:1<Nat.gcd n d):
 Calls Tryz.prog 135 #[.bool s,va,vb] w (zcm w (fq s n d)):=by
 have HN:=zH hn5;have HD:=zH hd5;have hgb:1<zsa (Nat.gcd n d):=zwh.2 hg;have HG0:zI (Nat.gcd n d≠0):=by (have :Nat.gcd n d≠0:=zO);exact zH this
 have HG5:zI (zda (Nat.gcd n d)<=512):=zH (zLT (zfb (Nat.le_of_dvd (zPZ hd) (Nat.gcd_dvd_right n d))) hd5);clear hn5 hd5 hg;rcases s with _ | _
 case true=>
  go_enter Tryz.func135,Tryz.ntmps135
  go_wp2_with (first
   |(go_at_call 153;(with_reducible refine(zxq _ _ n d _ (ha.bw (zba _ _)) (hb.bw (zba _ _)) HN.o HD.o).mono ?_);rintro e w1 ⟨g,rfl,hg1,hb1⟩;have hC:=(C3.new w _ _ _ _).bS hb1;have hbz:=(zba _ _).trans (hb1.mono (zba _ _).size);have hxa:=ha.bw hbz;have hxb:=hb.bw hbz)
   |(go_at_call 106;first
    |((with_reducible refine(zua g (Nat.gcd n d) _ hg1.nat).mono ?_);rintro e w' ⟨rfl,rfl⟩))
   |(go_at_call 154;first
    |((with_reducible refine(zfr va g n (Nat.gcd n d) _ hxa hg1.nat HG0.o HN.o HG5.o).mono ?_);rintro e w3 ⟨q1,r1,rfl,hq1,hr1,hbl1⟩
      have hg3:=hg1.bw hbl1;have hxb3:=hxb.bw hbl1)
    |((with_reducible refine(zfr vb g d (Nat.gcd n d) _ hxb3 hg3.nat HG0.o HD.o HG5.o).mono ?_);rintro e w4 ⟨q2,r2,rfl,hq2,hr2,hbl2⟩
      have hq14:=hq1.nat.bw hbl2;have hq24:=hq2.nat;have hC4:=(hC.bS hbl1).bS hbl2;have hbz4:=hbz.trans ((hbl1.trans (hbl2.mono hbl1.size)).mono hbz.size))))
  clear hC hbz hxa hxb hb1 ha hb hg1 hg3 hxb3 hbl1 hbl2 hq1 hq2 hr1 hr2;have hxa:=hq14;have hxb:=hq24;have hC:=hC4;have hbz:=hbz4;clear hq14 hq24 hC4 hbz4 hgb;have hF:=zho true n d hd;generalize hN1:n/Nat.gcd n d=N1 at *
  generalize hD1:d/Nat.gcd n d=D1 at *
  have HN1:=zH hN1;have HD1:=zH hD1;have HC:=zH hC;have HBZ:=zH hbz;have HIF:=zH hF;obtain⟨_,c0,c1,c2,f0,f1,f2⟩:=hC;clear hN1 hD1 hF hbz;by_cases hfit:zsa N1<=4096/\zsa D1<=4096
  ·have HFI:=zH (HIF.o.2 hfit);obtain⟨hf1,hf2⟩:=hfit
   go_wp2_with (first
    |(go_at_call 106;first
     |((with_reducible refine(zua q1 N1 _ hxa).mono ?_);rintro e w' ⟨rfl,rfl⟩)
     |((with_reducible refine(zua q2 D1 _ hxb).mono ?_);rintro e w' ⟨rfl,rfl⟩)))
   all_goals go_wp2_with (go_at_call 155;first
    |((with_reducible refine(zbe q1 N1 _ hxa).mono ?_);rintro e w1 ⟨ra,rfl,hra,hb1⟩;obtain⟨a1,l1,k1,rfl,_⟩:=hra.v.sl)
    |((with_reducible refine(zbe q2 D1 _ (hxb.bw hb1)).mono ?_);rintro e w2 ⟨rb,rfl,hrb,hb2⟩;obtain⟨a2,l2,k2,rfl,_⟩:=hrb.v.sl
      have hra2:=hra.bw hb2;have hC2:=(HC.o.bS hb1).bS hb2;have HC2:=zH hC2;have HBZ2:=zH (HBZ.o.trans ((hb1.trans (hb2.mono hb1.size)).mono HBZ.o.size));obtain⟨_,d0,d1,d2,e0,e1,e2⟩:=hC2))
   all_goals
    (try simp only[Exit.inBlock,Exit.then]);refine zka rfl rfl Tryz.aggF Tryz.sizeF (HC2.o.set _ _ _) rfl ?_;refine⟨_,0,rfl,zea HBZ2.o (zLR _) _ _ _,λ _=>⟨rfl,zna.set3 (zsi hd (HN1.o▸hra2) (HD1.o▸hrb) ?_) HC2.o zZ zZ _ _ _⟩,λ h=>absurd HFI.o h⟩;rw[HN1.o];first | rfl | exact zgk N1
  ·have HFI:=zH (λ h=>hfit (HIF.o.1 h))
   go_wp2_with (first
    |(go_at_call 106;first
     |((with_reducible refine(zua q1 N1 _ hxa).mono ?_);rintro e w' ⟨rfl,rfl⟩)
     |((with_reducible refine(zua q2 D1 _ hxb).mono ?_);rintro e w' ⟨rfl,rfl⟩)))
   all_goals
    refine zka rfl rfl Tryz.aggF Tryz.sizeF (HC.o.set _ _ _) rfl ?_;exact⟨_,2,rfl,zea HBZ.o (zLR _) _ _ _,λ h=>absurd h HFI.o,λ _=>⟨rfl,rfl⟩⟩
 case false=>
  go_enter Tryz.func135,Tryz.ntmps135
  go_wp2_with (first
   |(go_at_call 153;(with_reducible refine(zxq _ _ n d _ (ha.bw (zba _ _)) (hb.bw (zba _ _)) HN.o HD.o).mono ?_);rintro e w1 ⟨g,rfl,hg1,hb1⟩;have hC:=(C3.new w _ _ _ _).bS hb1;have hbz:=(zba _ _).trans (hb1.mono (zba _ _).size);have hxa:=ha.bw hbz;have hxb:=hb.bw hbz)
   |(go_at_call 106;first
    |((with_reducible refine(zua g (Nat.gcd n d) _ hg1.nat).mono ?_);rintro e w' ⟨rfl,rfl⟩))
   |(go_at_call 154;first
    |((with_reducible refine(zfr va g n (Nat.gcd n d) _ hxa hg1.nat HG0.o HN.o HG5.o).mono ?_);rintro e w3 ⟨q1,r1,rfl,hq1,hr1,hbl1⟩
      have hg3:=hg1.bw hbl1;have hxb3:=hxb.bw hbl1)
    |((with_reducible refine(zfr vb g d (Nat.gcd n d) _ hxb3 hg3.nat HG0.o HD.o HG5.o).mono ?_);rintro e w4 ⟨q2,r2,rfl,hq2,hr2,hbl2⟩
      have hq14:=hq1.nat.bw hbl2;have hq24:=hq2.nat;have hC4:=(hC.bS hbl1).bS hbl2;have hbz4:=hbz.trans ((hbl1.trans (hbl2.mono hbl1.size)).mono hbz.size))))
  clear hC hbz hxa hxb hb1 ha hb hg1 hg3 hxb3 hbl1 hbl2 hq1 hq2 hr1 hr2;have hxa:=hq14;have hxb:=hq24;have hC:=hC4;have hbz:=hbz4;clear hq14 hq24 hC4 hbz4 hgb;have hF:=zho false n d hd;generalize hN1:n/Nat.gcd n d=N1 at *
  generalize hD1:d/Nat.gcd n d=D1 at *
  have HN1:=zH hN1;have HD1:=zH hD1;have HC:=zH hC;have HBZ:=zH hbz;have HIF:=zH hF;obtain⟨_,c0,c1,c2,f0,f1,f2⟩:=hC;clear hN1 hD1 hF hbz;by_cases hfit:zsa N1<=4096/\zsa D1<=4096
  ·have HFI:=zH (HIF.o.2 hfit);obtain⟨hf1,hf2⟩:=hfit
   go_wp2_with (first
    |(go_at_call 106;first
     |((with_reducible refine(zua q1 N1 _ hxa).mono ?_);rintro e w' ⟨rfl,rfl⟩)
     |((with_reducible refine(zua q2 D1 _ hxb).mono ?_);rintro e w' ⟨rfl,rfl⟩)))
   all_goals go_wp2_with (go_at_call 155;first
    |((with_reducible refine(zbe q1 N1 _ hxa).mono ?_);rintro e w1 ⟨ra,rfl,hra,hb1⟩;obtain⟨a1,l1,k1,rfl,_⟩:=hra.v.sl)
    |((with_reducible refine(zbe q2 D1 _ (hxb.bw hb1)).mono ?_);rintro e w2 ⟨rb,rfl,hrb,hb2⟩;obtain⟨a2,l2,k2,rfl,_⟩:=hrb.v.sl
      have hra2:=hra.bw hb2;have hC2:=(HC.o.bS hb1).bS hb2;have HC2:=zH hC2;have HBZ2:=zH (HBZ.o.trans ((hb1.trans (hb2.mono hb1.size)).mono HBZ.o.size));obtain⟨_,d0,d1,d2,e0,e1,e2⟩:=hC2))
   all_goals
    (try simp only[Exit.inBlock,Exit.then]);refine zka rfl rfl Tryz.aggF Tryz.sizeF (HC2.o.set _ _ _) rfl ?_;refine⟨_,0,rfl,zea HBZ2.o (zLR _) _ _ _,λ _=>⟨rfl,zna.set3 (zsi hd (HN1.o▸hra2) (HD1.o▸hrb) ?_) HC2.o zZ zZ _ _ _⟩,λ h=>absurd HFI.o h⟩;rw[HN1.o];first | rfl | exact zgk N1
  ·have HFI:=zH (λ h=>hfit (HIF.o.1 h))
   go_wp2_with (first
    |(go_at_call 106;first
     |((with_reducible refine(zua q1 N1 _ hxa).mono ?_);rintro e w' ⟨rfl,rfl⟩)
     |((with_reducible refine(zua q2 D1 _ hxb).mono ?_);rintro e w' ⟨rfl,rfl⟩)))
   all_goals
    refine zka rfl rfl Tryz.aggF Tryz.sizeF (HC.o.set _ _ _) rfl ?_;exact⟨_,2,rfl,zea HBZ.o (zLR _) _ _ _,λ h=>absurd h HFI.o,λ _=>⟨rfl,rfl⟩⟩
theorem zfd (s:Bool) (va vb:Value) (n d:Nat) (w:World) (ha:zwb w va n) (hb:zwb w vb d) (hd:d≠0) (hn5:zda n<=512) (hd5:zda d<=512):
 Calls Tryz.prog 135 #[.bool s,va,vb] w (zcm w (fq s n d)):=by
 have h0:Nat.gcd n d≠0:=λ h=>hd (Nat.gcd_eq_zero_iff.1 h).2
 rcases zOG 1 (Nat.gcd n d)with h | h
 ·exact lowest_more s va vb n d w ha hb hd hn5 hd5 h
 ·exact lowest_one s va vb n d w ha hb hd hn5 hd5 zO
theorem zxc {P:Program} {ops:Array Oper} {o:Oper} {a:Act} {w:World} {K:Act->World->Prop} {Q:Exit->Act->World->Prop} {E:Prop} (hg:o.guard=none) (f:FuncId) (argv:Array Value)
 (hrun:(execOp a.eval o).run P w= .ok (.enter f argv) w) {R:Ending->World->Prop} (hc:Calls P f argv w R) (h:∀e w',R e w'->∃v,e= .returned v/\K (a.put o.dst v) w'):
 if Region.wanted o (yielded ops a.tmps)=true then Oper.wp P o a w K Q else E:=by
 rw[zIP (by simp[Region.wanted,hg])];unfold Oper.wp;rw[hrun,Oper.upon_enter];refine hc.mono λ e w' hr=> ?_
 obtain⟨v,rfl,hk⟩:=h e w' hr;exact hk
end Go.Proofs.YtkpedaflofejnaaGreat
