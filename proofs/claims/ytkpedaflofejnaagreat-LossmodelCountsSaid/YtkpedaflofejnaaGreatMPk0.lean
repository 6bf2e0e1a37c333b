/- Lemmas. -/
import Derived.Test.YtkpedaflofejnaaGreatMTk
set_option linter.unusedVariables false
set_option linter.unusedSimpArgs false
namespace Go.Proofs.YtkpedaflofejnaaGreat
set_option maxHeartbeats 1600000
open Go.RowKit
def zdh (q:Rat):Prop:=0<=q/\zsa q.num.natAbs<=32/\zsa q.den<=32
theorem zdh.fits {q:Rat} (h:zdh q):fits q:=⟨zLT h.2.1 zD,zLT h.2.2 zD⟩
theorem reduce_can (va:Value) (q:Rat) (w:World) (ha:zna w va q) (hf:fits q):Calls Tryz.prog 116 #[va] w (RF0 w q):=by
 refine(zli va _ _ _ w ha.raw).mono ?_;rintro e w' ⟨v,er,rfl,hb,h1,_⟩;obtain⟨rfl,h2⟩:=h1 (zpd hf);rw[zrc]at h2;exact⟨v,rfl,h2,hb⟩
theorem finlim_ok (va:Value) (q:Rat) (w:World) (ha:zna w va q) (hl:zdh q):Calls Tryz.prog 98 #[va] w (λ e w'=>e= .returned (.bool true)/\Below w.heap.size w w'):=by
 obtain⟨t1,a11,l11,k11,a12,l12,k12,rfl⟩:=ha.iF;have hba:=zba w (.cells #[.bool t1, .slice a11 l11 k11, .slice a12 l12 k12] 53);have HC:=zH (C3.new w 53 (.bool t1) (.slice a11 l11 k11) (.slice a12 l12 k12));have HA:=zH (ha.bw hba);have HB:=zH hba;have HF:=zH hl.fits;have HN:zI (decide (q<0)=false):=zH (zDF (Rat.not_lt.2 hl.1));have hn1:decide (((zsa q.num.natAbs:Nat):Int)<=32)=true:=zDT (by have:=hl.2.1;omega);have hn2:decide (((zsa q.den:Nat):Int)<=32)=true:=zDT (by have:=hl.2.2;omega);obtain⟨_,c0,c1,c2,_,_,_⟩:=HC.o;clear ha hba hl;go_enter Tryz.func98,Tryz.ntmps98
 go_upto_region 2 with(first
  |(go_at_call 116;(with_reducible refine(reduce_can _ q _ HA.o HF.o).mono ?_);rintro e3 w3 ⟨v3,rfl,hv3,hb3⟩;obtain⟨x3,y3,rfl,n1,n2⟩:=id hv3;rw[HN.o]at hv3 |-;obtain⟨a31,l31,k31,rfl,_⟩:=id n1.v.sl;obtain⟨a32,l32,k32,rfl,_⟩:=id n2.v.sl;have hba:=zba w3 (.cells #[.bool false, .slice a31 l31 k31, .slice a32 l32 k32] 53);have HC3:=zH (C3.new w3 53 (.bool false) (.slice a31 l31 k31) (.slice a32 l32 k32));have HN1:=zH (n1.bw hba).nat;have HN2:=zH (n2.bw hba).nat;have HB3:=zH (zaa HB.o (zaa hb3 hba));clear c0 c1 c2 hv3 hb3 hba n1 n2))
 obtain⟨b3,hb3⟩:∃b,w3.heap.size=b:=⟨_,rfl⟩;rw[hb3]at HC3 |-
 clear hb3;generalize w3.alloc (.cells #[.bool false, .slice a31 l31 k31, .slice a32 l32 k32] 53)=W3 at *
 obtain⟨_,c0,c1,c2,_,_,_⟩:=HC3.o
 go_wp2_with (first
  |(go_at_call 106;(with_reducible refine(zua _ q.num.natAbs _ HN1.o).mono ?_);rintro e4 w4 ⟨rfl,rfl⟩)
  |(go_at_call 106;(with_reducible refine(zua _ q.den _ HN2.o).mono ?_);rintro e5 w5 ⟨rfl,rfl⟩))
 go_ret;exact⟨rfl,HB3.o⟩
theorem zwg (va:Value) (q:Rat) (w:World) (ha:zna w va q):Calls Tryz.prog 99 #[va] w (λ e w'=>e= .returned (.bool (decide (0<zsa q.num.natAbs)))/\Below w.heap.size w w'):=by
 obtain⟨x1,y1,rfl,n1,n2⟩:=id ha;obtain⟨a11,l11,k11,rfl,_⟩:=id n1.v.sl;obtain⟨a12,l12,k12,rfl,_⟩:=id n2.v.sl;have hba:=zba w (.cells #[.bool (decide (q<0)), .slice a11 l11 k11, .slice a12 l12 k12] 53);have HN1:=zH (n1.bw hba).nat;have HB:=zH hba;obtain⟨_,c0,c1,c2,_,_,_⟩:=C3.new w 53 (.bool (decide (q<0))) (.slice a11 l11 k11) (.slice a12 l12 k12);clear ha hba n1 n2;go_enter Tryz.func99,Tryz.ntmps99
 go_wp2_with (first
  |(go_at_call 106;(with_reducible refine(zua _ q.num.natAbs _ HN1.o).mono ?_);rintro e4 w4 ⟨rfl,rfl⟩))
 go_ret;exact⟨rfl,HB.o⟩
set_option maxRecDepth 100000 in
theorem fall_ok (va:Value) (l:List Rat) (w:World) (ha:zpa w va l) (hl:∀q∈l,zdh q) (hn:l.length<=1000):
 Calls Tryz.prog 97 #[va, .func (.func 98) #[] #[]] w (λ e w'=>e= .returned (.bool true)/\Below w.heap.size w w'):=by
 obtain⟨xa,xn,xk,rfl,_⟩:=id ha.sl;have sx:=ha.sl;have hxn:xn=l.length:=ha.len;obtain⟨n,hnn⟩:∃n,l.length=n:=⟨_,rfl⟩;rw[hnn]at hxn hn;subst hxn;have HN:=zH hnn;have HA:=zH ha;have HL:=zH hl;clear hnn ha hl;go_enter Tryz.func97,Tryz.ntmps97;go_wp2_with fail;go_loopg [9] (xn) (λ g u9 wr=>∃ (k:Nat),k<=xn/\g=xn-k/\u9= .int .i64 k/\Below w.heap.size w wr);case atStart=>exact⟨0,zZL _,rfl,rfl,zBR _ _⟩
 case round=>
  obtain⟨k,hk,hg,rfl,hbr⟩:=hrel;obtain⟨wb,hwb⟩:∃wb,wb=wr:=⟨_,rfl⟩;subst hwb;have HG:=zH hg;have HBR:=zH hbr;clear hg hbr;by_cases hkl:k<xn
  ·(have hk2:k<l.length:=by rw[HN.o];exact hkl);obtain⟨ts,as1,ls1,ks1,as2,ls2,ks2,g1,g2,g3,hfs⟩:=(HA.o.bw HBR.o).cellsAt (k:=k) hk2
   have hlq:zdh (l.getD k 0):=by
    rw[zGD,zGE hk2];exact HL.o _ (zGM hk2)
   have hba:=zba wb (.cells #[.bool ts, .slice as1 ls1 ks1, .slice as2 ls2 ks2] 53);have HFS:=zH (hfs.bw hba);have HLQ:=zH hlq;have HB2:=zH (zaa HBR.o hba);obtain⟨_,c0,c1,c2,_,_,_⟩:=C3.new wb 53 (.bool ts) (.slice as1 ls1 ks1) (.slice as2 ls2 ks2);have i1:(0:Int)<=(k:Int):=zO;have i2:(k:Int)<(xn:Nat):=zO;clear hfs hlq hba
   go_wp2_with (first
    |(go_at_call 98;(with_reducible refine(finlim_ok _ _ _ HFS.o HLQ.o).mono ?_);rintro e4 w4 ⟨rfl,hb4⟩;have HB4:=zH (zaa HB2.o hb4);clear hb4))
   go_roundg (xn- (k+1));(case measure=>(have:=HG.o;omega));case rel=>exact⟨k+1,zO,rfl,by go_num,HB4.o⟩
  ·obtain rfl:k=xn:=zO;go_wp2_with fail;go_ret;exact⟨rfl,HBR.o⟩
set_option maxHeartbeats 1600000
def zmf (w:World) (v:Value) (q:Rat):Prop:=∃x:RF,zjc w v x.neg x.n x.d/\x.ok/\x.q=q
section
variable {w w':World} {v:Value} {q:Rat}
theorem zna.toV (h:zna w v q) (hf:fits q):zmf w v q:=⟨RF.of q,h.raw,RF.of_ok hf,RF.of_q q⟩
theorem zmf.bw (h:zmf w v q) (hb:Below w.heap.size w w'):zmf w' v q:=by
 obtain⟨x,h1,h2,h3⟩:=h;exact⟨x,h1.bw hb,h2,h3⟩
theorem zmf.isF (h:zmf w v q):IsF v:=by obtain⟨x,h1,_⟩:=h;exact h1.isF
theorem zmf.iF {w:World} {v:Value} {q:Rat} (h:zmf w v q):∃t a l k b m j,v= .agg #[.bool t, .slice a l k, .slice b m j]:=by
 obtain ⟨t,x,y,rfl,⟨a,l,k,rfl,_⟩,⟨b,m,j,rfl,_⟩⟩:=h.isF;exact⟨t,a,l,k,b,m,j,rfl⟩
end
def znc (w:World) (v:Value) (l:List Rat):Prop:=∃x:List RF,zte w v x/\(∀y∈x,y.ok)/\qs x=l
section
variable {w w':World} {v:Value} {l:List Rat}
theorem zpa.toV (h:zpa w v l) (hf:∀q∈l,fits q):znc w v l:=by
 refine⟨l.map RF.of,h.raw,λ y hy=> ?_,?_⟩
 ·obtain⟨q,hq,rfl⟩:=List.mem_map.1 hy;exact RF.of_ok (hf q hq)
 ·unfold qs;rw[List.map_map];exact List.map_id'' (λ q=>RF.of_q q) l
theorem znc.bw (h:znc w v l) (hb:Below w.heap.size w w'):znc w' v l:=by
 obtain⟨x,h1,h2,h3⟩:=h;exact⟨x,h1.bw hb,h2,h3⟩
theorem znc.sl (h:znc w v l):zlb v:=by obtain⟨x,h1,_⟩:=h;exact h1.sl
theorem znc.len (h:znc w v l):slen v=l.length:=by
 obtain⟨x,h1,_,rfl⟩:=h;rw[h1.len,zpn]
theorem znc.at' (h:znc w v l) (j:Nat) (hj:j<l.length):∃t a b,w.cell? (ptr v (j*3))=some (.bool t)/\w.cell? (ptr v (j*3+1))=some a/\w.cell? (ptr v (j*3+2))=some b/\zlb a/\zlb b/\zmf w (.agg #[.bool t,a,b]) l[j]:=by
 obtain⟨x,h1,h2,rfl⟩:=h;have hj2:j<x.length:=by rw[zpn]at hj;exact hj
 obtain⟨a,b,e1,e2,e3,e4,e5⟩:=h1.at' j hj2;exact⟨_,a,b,e1,e2,e3,e4.slen.1,e5.slen.1,x[j],⟨a,b,rfl,e4,e5⟩,h2 _ (zGM hj2),(qs_get x j hj2).symm⟩
end
theorem reduce_v (va:Value) (q:Rat) (w:World) (ha:zmf w va q):Calls Tryz.prog 116 #[va] w (RF0 w q):=by
 obtain⟨x,h1,h2,rfl⟩:=ha;refine(zli va _ _ _ w h1).mono ?_;rintro e w' ⟨v,er,rfl,hb,h3,_⟩;obtain⟨rfl,h4⟩:=h3 h2;exact⟨v,rfl,h4,hb⟩
theorem mul_v (va vb:Value) (p q:Rat) (w:World) (ha:zmf w va p) (hb:zmf w vb q) (hf:fits (p*q)):Calls Tryz.prog 108 #[va,vb] w (RF0 w (p*q)):=by
 obtain⟨x,h1,h2,rfl⟩:=ha;obtain⟨y,k1,k2,rfl⟩:=hb;exact(mul_frac va vb _ _ _ _ _ _ w h1 k1 h2 k2).mono λ e w' h=>h.ok rfl hf
theorem add_v (va vb:Value) (p q:Rat) (w:World) (ha:zmf w va p) (hb:zmf w vb q) (hf:fits (p+q)):Calls Tryz.prog 107 #[va,vb] w (RF0 w (p+q)):=by
 obtain⟨x,h1,h2,rfl⟩:=ha;obtain⟨y,k1,k2,rfl⟩:=hb;exact(add_frac va vb _ _ _ _ _ _ w h1 k1 h2 k2).mono λ e w' h=>h.ok rfl hf
theorem ztg (va vb:Value) (p q:Rat) (w:World) (ha:zmf w va p) (hb:zmf w vb q) (hr:fits (p*q)):Calls Tryz.prog 49 #[va,vb] w (RF1 w (p*q)):=by
 obtain⟨t1,a11,l11,k11,a12,l12,k12,rfl⟩:=ha.iF;obtain⟨t2,a21,l21,k21,a22,l22,k22,rfl⟩:=hb.iF;obtain⟨hA,hB,hR,hbw⟩:=zle w 53 (.bool t1) (.slice a11 l11 k11) (.slice a12 l12 k12) (.bool t2) (.slice a21 l21 k21) (.slice a22 l22 k22) (.bool false) (.slice none 0 0) (.slice none 0 0) _ rfl;have HR:=zH hR;have HBW:=zH hbw;have HA:=zH (ha.bw hbw);have HB:=zH (hb.bw hbw);have HF:=zH hr;obtain⟨_,c0,c1,c2,_,_,_⟩:=id hA;obtain⟨_,d0,d1,d2,_,_,_⟩:=id hB;clear hA hB hR ha hb hr hbw;go_enter Tryz.func49,Tryz.ntmps49
 go_wp2_with (first
  |(go_at_call 108;(with_reducible refine(mul_v _ _ p q _ HA.o HB.o HF.o).mono ?_);rintro e3 w3 ⟨v3,rfl,hv3,hb3⟩;obtain⟨t3,a31,l31,k31,a32,l32,k32,rfl⟩:=hv3.iF;have hba:=zba w3 (.cells #[.bool t3, .slice a31 l31 k31, .slice a32 l32 k32] 53);have HR3:=zH (HR.o.bS (zaa hb3 hba));have HV3:=zH (hv3.bw hba);have HB3:=zH (zaa HBW.o (zaa hb3 hba));obtain⟨_,g0,g1,g2,g3,g4,g5⟩:=HR3.o;clear hv3 hb3 hba))
 refine zab rfl rfl Tryz.aggF Tryz.sizeF (HR3.o.set _ _ _) rfl ?_;exact⟨_,rfl,HV3.o.set3 HR3.o zZ zZ _ _ _,zea HB3.o (zLT (zLS _) (zLS _)) _ _ _⟩
theorem fq_zero_iff {s:Bool} {n d:Nat} (hd:d≠0):n=0↔fq s n d=0:=⟨λ h=>by rw[h];exact fq_zero s d hd,λ h=>Classical.byContradiction λ hn=>fq_ne s hn hd h⟩
theorem zud (v:Value) (q:Rat) (w:World) (h:zmf w v q):
 Calls Tryz.prog 45 #[v] w λ e w'=>e= .returned (.bool (decide (q=0)))/\Below w.heap.size w w':=by
 obtain⟨x,⟨a,b,rfl,ha,hb⟩,hx,rfl⟩:=h;have hd:x.d≠0:=hx.1;have HD:zI (decide (x.q=0)=decide (x.n=0)):=zH (decide_eq_decide.2 (fq_zero_iff hd).symm);clear hd hx;go_enter Tryz.func45,Tryz.ntmps45;go_wp2_with (go_at_call 106;refine(zua _ x.n _ (ha.bw (zba _ _))).mono ?_;rintro e w' ⟨rfl,rfl⟩);go_ret;exact⟨by rw[HD.o,<-beq_bits];rfl,zba _ _⟩
theorem lrate_ok (va:Value) (q:Rat) (w:World) (ha:zmf w va q) (hl:zdh q):Calls Tryz.prog 95 #[va] w (λ e w'=>e= .returned (.bool true)/\Below w.heap.size w w'):=by
 obtain⟨t1,a11,l11,k11,a12,l12,k12,rfl⟩:=ha.iF;have hba:=zba w (.cells #[.bool t1, .slice a11 l11 k11, .slice a12 l12 k12] 53);have HC:=zH (C3.new w 53 (.bool t1) (.slice a11 l11 k11) (.slice a12 l12 k12));have HA:=zH (ha.bw hba);have HB:=zH hba;have HN:zI (decide (q<0)=false):=zH (zDF (Rat.not_lt.2 hl.1));have hn1:decide (((zsa q.num.natAbs:Nat):Int)<=32)=true:=zDT (by have:=hl.2.1;omega);have hn2:decide (((zsa q.den:Nat):Int)<=32)=true:=zDT (by have:=hl.2.2;omega);obtain⟨_,c0,c1,c2,_,_,_⟩:=HC.o;clear ha hba hl;go_enter Tryz.func95,Tryz.ntmps95
 go_upto_region 2 with(first
  |(go_at_call 116;(with_reducible refine(reduce_v _ q _ HA.o).mono ?_);rintro e3 w3 ⟨v3,rfl,hv3,hb3⟩;obtain⟨x3,y3,rfl,n1,n2⟩:=id hv3;rw[HN.o]at hv3 |-;obtain⟨a31,l31,k31,rfl,_⟩:=id n1.v.sl;obtain⟨a32,l32,k32,rfl,_⟩:=id n2.v.sl;have hba:=zba w3 (.cells #[.bool false, .slice a31 l31 k31, .slice a32 l32 k32] 53);have HC3:=zH (C3.new w3 53 (.bool false) (.slice a31 l31 k31) (.slice a32 l32 k32));have HN1:=zH (n1.bw hba).nat;have HN2:=zH (n2.bw hba).nat;have HB3:=zH (zaa HB.o (zaa hb3 hba));clear c0 c1 c2 hv3 hb3 hba n1 n2))
 obtain⟨b3,hb3⟩:∃b,w3.heap.size=b:=⟨_,rfl⟩;rw[hb3]at HC3 |-
 clear hb3;generalize w3.alloc (.cells #[.bool false, .slice a31 l31 k31, .slice a32 l32 k32] 53)=W3 at *
 obtain⟨_,c0,c1,c2,_,_,_⟩:=HC3.o
 go_wp2_with (first
  |(go_at_call 106;(with_reducible refine(zua _ q.num.natAbs _ HN1.o).mono ?_);rintro e4 w4 ⟨rfl,rfl⟩)
  |(go_at_call 106;(with_reducible refine(zua _ q.den _ HN2.o).mono ?_);rintro e5 w5 ⟨rfl,rfl⟩))
 go_ret;exact⟨rfl,HB3.o⟩
structure C4 (w:World) (b:Nat) (v0 v1 v2 v3:Value):Prop where
 lt:b<w.heap.size
 c0:w.cell? ⟨b,0,none⟩=some v0
 c1:w.cell? ⟨b,1,none⟩=some v1
 c2:w.cell? ⟨b,2,none⟩=some v2
 c3:w.cell? ⟨b,3,none⟩=some v3
 f0:w.frozen? ⟨b,0,none⟩=false
 f1:w.frozen? ⟨b,1,none⟩=false
 f2:w.frozen? ⟨b,2,none⟩=false
 f3:w.frozen? ⟨b,3,none⟩=false
theorem C4.of {w:World} {b:Nat} {v0 v1 v2 v3:Value} {t:TypeId} (h:w.heap[b]? =some (.cells #[v0,v1,v2,v3] t (0,0))):C4 w b v0 v1 v2 v3:=by
 refine⟨lt_of_block h,?_,?_,?_,?_,?_,?_,?_,?_⟩<;>simp[World.cell?,World.frozen?,h]
theorem C4.new (w:World) (t:TypeId) (v0 v1 v2 v3:Value):C4 (w.alloc (.cells #[v0,v1,v2,v3] t)) w.heap.size v0 v1 v2 v3:=
 C4.of (t:=t) (by show(w.heap.push _)[w.heap.size]? =_;simp)
theorem C4.bw {w w':World} {B b:Nat} {v0 v1 v2 v3:Value} (h:C4 w b v0 v1 v2 v3) (hb:Below B w w') (hB:b<B):C4 w' b v0 v1 v2 v3:=
 ⟨zLM h.lt hb.size,by rw[hb.cell hB];exact h.c0,by rw[hb.cell hB];exact h.c1,by rw[hb.cell hB];exact h.c2,by rw[hb.cell hB];exact h.c3,by rw[hb.frozen hB];exact h.f0,by rw[hb.frozen hB];exact h.f1,by rw[hb.frozen hB];exact h.f2,by rw[hb.frozen hB];exact h.f3⟩
theorem C4.bS {w w':World} {b:Nat} {v0 v1 v2 v3:Value} (h:C4 w b v0 v1 v2 v3) (hb:Below w.heap.size w w'):C4 w' b v0 v1 v2 v3:=h.bw hb h.lt
structure LQ where
 start:List Rat
 exit:List Rat
 rates:List (List Rat)
def LawC (w:World) (v:Value) (l:LQ):Prop:=∃nm s r e,v= .agg #[nm,s,r,e]/\zpa w s l.start/\MatC w r l.rates/\zpa w e l.exit
theorem LawC.bw {w w':World} {v:Value} {l:LQ} (h:LawC w v l) (hb:Below w.heap.size w w'):LawC w' v l:=by
 obtain⟨nm,s,r,e,rfl,h1,h2,h3⟩:=h;exact⟨nm,s,r,e,rfl,h1.bw hb,h2.bw hb,h3.bw hb⟩
structure LawP (l:LQ):Prop where
 n1:1<=l.start.length
 n4:l.start.length<=4
 el:l.exit.length=l.start.length
 rl:l.rates.length=l.start.length
 st:∀q∈l.start,zdh q
 ex:∀q∈l.exit,zdh q
 row:∀ (i:Nat) (h:i<l.rates.length),l.rates[i].length=l.start.length/\(∀q∈l.rates[i],zdh q)/\l.rates[i].getD i 0=0
 sum:zof l.start=1
 ends:∃d:Nat->Nat,∀i,i<l.start.length->d i<=l.start.length/\(0<l.exit.getD i 0\/∃j,j<l.start.length/\0<(l.rates.getD i []).getD j 0/\d j<d i)
theorem zdh.above {q:Rat} (h:zdh q):decide (0<zsa q.num.natAbs)=decide (0<q):=by
 rw[decide_eq_decide];constructor
 ·intro h1;refine Classical.byContradiction λ h2=> ?_
  have h3:q=0:=Rat.le_antisymm (Rat.not_lt.1 h2) h.1;rw[h3]at h1;exact absurd h1 zD
 ·intro h1;refine zPZ λ h2=> ?_
  have h3:q.num.natAbs<2^0:=ztb.1 (Nat.le_of_eq h2);have h4:q.num.natAbs=0:=by simpa using h3
  have h5:q=0:=Rat.num_eq_zero.1 (Int.natAbs_eq_zero.1 h4);rw[h5]at h1;exact absurd h1 zD
@[go_sem] theorem slen_lit0 (a : Option Addr) (n c : Nat) : slen (.slice a n c) = n := rfl
@[go_sem] theorem int_beq_self0 (y : Int) : (y == y) = true := by simp
@[go_sem] theorem int_bne_self0 (y : Int) : (y != y) = false := by simp
theorem make_E2 {P:Program} (t e:TypeId) (i:TypeInfo) (z:Value) (by':Nat) (h1:P.underlying t=some (.slice e)) (h2:P.info? e=some i) (h3:i.zero=some z) (h4:i.size=1) (h5:i.bytes=by') (hby:by'<=32) (hz:z.cells=#[z])
 (w:World) {ops:Array Oper} {rest:List Oper} {o:Oper} {a:Act} {Q:Exit->Act->World->Prop} (hg:o.guard=none) (l c:Operand) (hop:o.op=Op.makeSlice t l c)
 (n:Nat) (hl:a.eval l= .int .i64 n) (hc:a.eval c= .int .i64 n) (hn:n<=128)
 (hK:∀v w',zib w' e w.heap.size v (List.replicate n z)->Below w.heap.size w w'->wpList P ops Q rest (a.put o.dst v) w'):
 wpList P ops Q (o::rest) a w:=
 zkg w hg l c t hop w.heap.size e i z h1 h2 h3 h4 hz n hl hc (by rw[h5];exact zLT (zMM hby hn) zD) (by simp[maxLen];omega) (zLR _) (λ v w' h6 h7 _=>hK v w' h6 h7)
theorem zyh {l:List Bool} {k:Nat} (h:k<l.length):l.getD k false=l[k]:=by
 rw[zGD,zGE h];rfl
theorem zub {x:Int} (h1:0<=x) (h2:x<=1900):IntKind.i64.wrap x=x:=by
 unfold IntKind.wrap;simp[IntKind.signed,IntKind.bits];omega
end Go.Proofs.YtkpedaflofejnaaGreat
