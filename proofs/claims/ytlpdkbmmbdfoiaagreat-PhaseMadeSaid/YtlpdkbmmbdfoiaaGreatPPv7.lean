/- Lemmas. -/
import Derived.Test.YtlpdkbmmbdfoiaaGreatPPv5
import Derived.Test.YtlpdkbmmbdfoiaaGreatPSao
set_option linter.unusedVariables false
set_option linter.unusedSimpArgs false
namespace Go.Proofs.YtlpdkbmmbdfoiaaGreat
open Go.RowKit
theorem zua.putT {w:World} {e:TypeId} {B n:Nat} {v:Value} {s s':Nat->Rat} (h:zua w e B v (zxa n s)) (hB:B<=w.heap.size) {i:Nat} (hi:i<n) (hs:∀k,k<n->k≠i->s k=s' k) {x y z:Value} (hf:zia w (.agg #[x,y,z]) (s' i)):
 zua (((w.setCell (ptr v (i*3)) x).setCell (ptr v (i*3+1)) y).setCell (ptr v (i*3+2)) z) e B v (zxa n s')/\Below B w (((w.setCell (ptr v (i*3)) x).setCell (ptr v (i*3+1)) y).setCell (ptr v (i*3+2)) z):=by
 obtain⟨p1,hg⟩:=h.put (i:=i) (by rw[zda];exact hi) hf;rw[zuf hs]at p1;exact⟨p1,zja hg hB λ k hk=>(h.block k hk).1⟩
structure SvV (w:World) (B m:Nat) (A:Mx) (b s:Nat->Rat) (k8 k9 k10:Nat) (u8 u9 u10:Value) (rs:List Value):Prop where
 rows:MkR w B u8 rs m A
 rl:rs.length=k8
 r9:zua w 38 B u9 (zxa k9 b)
 r10:zua w 38 B u10 (zxa k10 s)
 a9:∀ (j:Nat) (hj:j<rs.length) g,rs[j].ownBlock=some g->u9.ownBlock≠some g
 a10:∀ (j:Nat) (hj:j<rs.length) g,rs[j].ownBlock=some g->u10.ownBlock≠some g
 ne:∀g,u9.ownBlock=some g->u10.ownBlock≠some g
section
variable {w w':World} {B m k8 k9 k10:Nat} {A:Mx} {b s:Nat->Rat} {u8 u9 u10 r v':Value} {rs:List Value}
theorem SvV.bw (h:SvV w B m A b s k8 k9 k10 u8 u9 u10 rs) (hb:Below w.heap.size w w'):SvV w' B m A b s k8 k9 k10 u8 u9 u10 rs:=⟨h.rows.bw hb,h.rl,frb h.r9 hb,frb h.r10 hb,h.a9,h.a10,h.ne⟩
theorem SvV.push1 (h:SvV w B m A b s k8 k9 k10 u8 u9 u10 rs) (hr:zua w 38 B r (zxa m (A k8))) (h9:∀g,r.ownBlock=some g->u9.ownBlock≠some g) (h10:∀g,r.ownBlock=some g->u10.ownBlock≠some g)
 (hv:zkc w' 25 B 1 v' (rs++ [r]).length (rs++ [r])) (hg:w.grownBy w' u8.ownBlock):SvV w' B m A b s (k8+1) k9 k10 v' u9 u10 (rs++ [r])/\Below B w w':=by
 have hp:=h.rows.push (r:=r) (by rw[h.rl];exact hr) hv hg h.rows.ra.nl
 have hk:∀ {u:Value},(∀ (j:Nat) (hj:j<rs.length) g,rs[j].ownBlock=some g->u.ownBlock≠some g)->(∀g,r.ownBlock=some g->u.ownBlock≠some g)->∀ (j:Nat) (hj:j<(rs++ [r]).length) g,(rs++ [r])[j].ownBlock=some g->u.ownBlock≠some g:=λ h1 h2 j hj g hg2=>by
  by_cases e:j<rs.length
  ·rw[zAL e]at hg2;exact h1 j e g hg2
  ·(have e2:j=rs.length:=by rw[zLA]at hj;simp at hj;omega);subst e2;rw[List.getElem_append_right (zLR _)]at hg2;simp at hg2;exact h2 g hg2
 exact⟨⟨hp.1,by rw[zLA,h.rl];rfl,h.r9.grown hg h.rows.ra.nl (frKind h.r9 h.rows.ra),h.r10.grown hg h.rows.ra.nl (frKind h.r10 h.rows.ra),hk h.a9 h9,hk h.a10 h10,h.ne⟩,hp.2⟩
theorem SvV.push2 (h:SvV w B m A b s k8 k9 k10 u8 u9 u10 rs) (hv:zua w' 38 B v' (zxa (k9+1) b)) (hg:w.grownBy w' u9.ownBlock) (hn:zrb w u9) (ho:v'.ownBlock=u9.ownBlock\/∃k,w.heap.size<=k/\v'.ownBlock=some k):
 SvV w' B m A b s k8 (k9+1) k10 u8 v' u10 rs/\Below B w w':=by
 have hb:Below B w w':=zja hg h.rows.sz (λ k hk=>(h.r9.block k hk).1)
 have hn9:u10.ownBlock=none\/u10.ownBlock≠u9.ownBlock:=by
  cases hk:u10.ownBlock with
  | none=>exact Or.inl rfl
  | some g=>exact Or.inr λ e=>h.ne g e.symm hk
 refine⟨⟨⟨h.rows.ra.grown hg (frKind' h.r9 h.rows.ra),λ j hj=>(h.rows.rows j hj).grown hg hn ?_,zLT h.rows.sz hb.size⟩,h.rl,hv,h.r10.grown hg hn hn9,λ j hj g hg2=> ?_,h.a10,λ g h1 h2=> ?_⟩,hb⟩
 ·cases hk:rs[j].ownBlock with
  | none=>exact Or.inl rfl
  | some g=>exact Or.inr λ e=>h.a9 j hj g hk e.symm
 ·rcases ho with e | ⟨k,hk,e⟩
  ·rw[e];exact h.a9 j hj g hg2
  ·rw[e];intro e2;have:=((h.rows.rows j hj).block g hg2).2;simp at e2;omega
 ·rcases ho with e | ⟨k,hk,e⟩
  ·rw[e]at h1;exact h.ne g h1 h2
  ·rw[e]at h1;have:=(h.r10.block g h2).2;simp at h1;omega
theorem SvV.push3 (h:SvV w B m A b s k8 k9 k10 u8 u9 u10 rs) (hv:zua w' 38 B v' (zxa (k10+1) s)) (hg:w.grownBy w' u10.ownBlock) (hn:zrb w u10) (ho:v'.ownBlock=u10.ownBlock\/∃k,w.heap.size<=k/\v'.ownBlock=some k):
 SvV w' B m A b s k8 k9 (k10+1) u8 u9 v' rs/\Below B w w':=by
 have hb:Below B w w':=zja hg h.rows.sz (λ k hk=>(h.r10.block k hk).1)
 have hn9:u9.ownBlock=none\/u9.ownBlock≠u10.ownBlock:=by
  cases hk:u9.ownBlock with
  | none=>exact Or.inl rfl
  | some g=>exact Or.inr λ e=>h.ne g hk e.symm
 refine⟨⟨⟨h.rows.ra.grown hg (frKind' h.r10 h.rows.ra),λ j hj=>(h.rows.rows j hj).grown hg hn ?_,zLT h.rows.sz hb.size⟩,h.rl,h.r9.grown hg hn hn9,hv,h.a9,λ j hj g hg2=> ?_,λ g h1=> ?_⟩,hb⟩
 ·cases hk:rs[j].ownBlock with
  | none=>exact Or.inl rfl
  | some g=>exact Or.inr λ e=>h.a10 j hj g hk e.symm
 ·rcases ho with e | ⟨k,hk,e⟩
  ·rw[e];exact h.a10 j hj g hg2
  ·rw[e];intro e2;have:=((h.rows.rows j hj).block g hg2).2;simp at e2;omega
 ·rcases ho with e | ⟨k,hk,e⟩
  ·rw[e];exact h.ne g h1
  ·rw[e];intro e2;have:=(h.r9.block g h1).2;simp at e2;omega
end
theorem bef_box (w:World) (t u:TypeId) (x0 x1 x2 x3 y0 y1 y2 y3 q0 q1 q2:Value) (W:World) (hW:W=((w.alloc (.cells #[x0,x1,x2,x3] t)).alloc (.cells #[y0,y1,y2,y3] t)).alloc (.cells #[q0,q1,q2] u)):
 C4 W w.heap.size x0 x1 x2 x3/\C4 W (w.heap.size+1) y0 y1 y2 y3/\C3 W (w.heap.size+1+1) q0 q1 q2/\Below w.heap.size w W:=by
 obtain⟨h1,h2,h3⟩:=zal w t x0 x1 x2 x3 y0 y1 y2 y3;have hb:=zca ((w.alloc (.cells #[x0,x1,x2,x3] t)).alloc (.cells #[y0,y1,y2,y3] t)) (.cells #[q0,q1,q2] u);rw[hW];refine⟨h1.bS hb,h2.bS hb,C3.newB _ _ _ _ _ ?_,zaa h3 hb⟩;show((w.heap.push _).push _).size=_
 rw[Array.size_push,Array.size_push]
section
variable {a b:LQ} {m i j t k c:Nat}
theorem bfo_at (hm:b.start.length=m) (hj:j<m) (ht:i*m+j=t):bfo a b t=zff a i+zff b j:=by unfold bfo;rw[hm,<-ht,zhc hj,zrc hj]
theorem bfA_dg (ha:znb a) (hb:znb b) (ht:t<bfN a b) (hm:b.start.length=m) (hj:j<m) (e:i*m+j=t):bfA a b t t=zff a i+zff b j:=by
 rw[bfA_mm ha hb ht ht];unfold mmA;rw[zIP rfl];exact bfo_at hm hj e
theorem bfA_of (ha:znb a) (hb:znb b) (ht:t<bfN a b) (hc:c<bfN a b) (hne:t≠c):bfA a b t c= -(bfr a b t c):=by
 rw[bfA_mm ha hb ht hc];unfold mmA;rw[zIN hne]
theorem rowB_end (ha:znb a) (hb:znb b) (ht:t<bfN a b) (hc:c<bfN a b) (hm:b.start.length=m) (hm0:0<m) (hj:j<m) (e:i*m+j=t):wr1 (λ c=>c=t\/PB m i j t m t c) (bfA a b t) c=bfA a b t c:=by
 by_cases h:c=t
 ·exact zbk (P:=λ c=>c=t\/PB m i j t m t c) (Or.inl h)
 ·rcases PB_end (a:=a) (b:=b) (r:=t) (c:=c) hm hm0 hj e with h1 | h1
  ·exact zbk (P:=λ c=>c=t\/PB m i j t m t c) (Or.inr (h1.2 (zSS t)))
  ·(have h2:bfA a b t c=0:=by rw[bfA_of ha hb ht hc (λ h2=>h h2.symm),h1];rfl);rw[h2];exact(zak (P:=λ c=>c=t\/PB m i j t m t c) λ _=>h2).symm
end
theorem rdot_sca (n f:Nat) (x y:Nat->Rat) (hp:ScaP (zxa n x) (zxa n y) f) (vu vv:Value) (w:World) (hu:zwa w vu (zxa n x)) (hv:zwa w vv (zxa n y)):Calls Tryz.prog 176 #[vu,vv] w (RF1 w (sg n λ j=>x j*y j)):=by
 have hlen:(zxa n x).length=n:=zda _ _;have hfa:=λ k (hk:k<n)=>hp.fa k (by rw[hlen];exact hk)
 have hg:∀ (z:Nat->Rat) k,k<n->(zxa n z).getD k 0=z k:=λ z k hk=>by
  rw[zGD,zGE (by rw[zda];exact hk),zqb];rfl
 have hd:∀k,k<=n->zhp (zxa n x) (zxa n y) k=sg k λ j=>x j*y j:=λ k hk=>by
  unfold zhp;rw[Rat.zero_add];exact zqa λ t ht=>by rw[hg x t zO,hg y t zO]
 exact rdot_can vu vv n x y w hu hv (by have h:=hp.n;rwa[hlen]at h) (λ k hk=>by have h:=(hfa k hk).1;rwa[hg x k hk]at h) (λ k hk=>by have h:=(hfa k hk).2.1;rwa[hg y k hk]at h)
  (λ k hk=>by have h:=(hfa k hk).2.2;rwa[hg x k hk,hg y k hk]at h) (λ k hk=>by rw[<-hd k hk];exact hp.fs k (by rw[hlen];exact hk))
set_option maxRecDepth 100000 in
set_option maxHeartbeats 12800000 in
theorem rbefore_any (va vb:Value) (a b:LQ) (w:World) (ha:zgd w va a) (hb:zgd w vb b) (hla:znb a) (hlb:znb b) (hp:BefP a b) (hs:zrm (bfN a b) (bfN a b+1) (zra (bfN a b) (bfA a b) λ i _=>bfR a b i)):
 Calls Tryz.prog 129 #[va,vb] w (RF0 w (befQ a b)):=by
 obtain⟨i3,hi3,hz3,hs3,hy3⟩:=info_parts Tryz.infoF;have hAP:=fun{ops:Array Oper} {o:Oper} {a:Act} {w:World} {K:Act->World->Prop} {Q:Exit->Act->World->Prop} {E:Prop}=>zaf (P:=Tryz.prog) 25 38 i3 Tryz.underlying25 hi3 hz3 hs3 hy3 (ops:=ops) (o:=o) (a:=a) (w:=w) (K:=K) (Q:=Q) (E:=E)
 obtain⟨i4,hi4,hz4,hs4,hy4⟩:=info_parts Tryz.infoRow;have hAR:=fun{ops:Array Oper} {o:Oper} {a:Act} {w:World} {K:Act->World->Prop} {Q:Exit->Act->World->Prop} {E:Prop}=>step_app_one (P:=Tryz.prog) 24 25 i4 _ 24 Tryz.underlying24 hi4 hz4 hs4 hy4 zD rfl zZ (ops:=ops) (o:=o) (a:=a) (w:=w) (K:=K) (Q:=Q) (E:=E)
 clear hi3 hz3 hs3 hy3 hi4 hz4 hs4 hy4;obtain⟨saA,skA,raA,rkA,eaA,ekA,enA,rfl,hn,hsA,hrA,heA,n1,n4⟩:=ha.pre hla;obtain⟨saB,skB,raB,rkB,eaB,ekB,enB,rfl,hm,hsB,hrB,heB,m1,m4⟩:=hb.pre hlb;obtain⟨N,hNN⟩:∃N,enA*enB=N:=⟨_,rfl⟩;have hN16:N<=16:=by rw[<-hNN];exact zMM n4 m4
 obtain⟨hc1,hc2,hc3,hbw⟩:=bef_box w 52 38 (.string { data:=#[] }) (.slice saA enA skA) (.slice raA enA rkA) (.slice eaA enA ekA) (.string { data:=#[] }) (.slice saB enB skB) (.slice raB enB rkB) (.slice eaB enB ekB) (.bool false) (.slice none 0 0) (.slice none 0 0) _ rfl;have HC1:=zH hc1;have HC2:=zH hc2;have HC3:=zH hc3;have HBW:=zH hbw;have HA:=zH (ha.bw hbw);have HB:=zH (hb.bw hbw);have HSA:=zH (hsA.bw hbw);have HRA:=zH (hrA.bw hbw);have HEA:=zH (heA.bw hbw);have HSB:=zH (hsB.bw hbw);have HRB:=zH (hrB.bw hbw);have HLA:=zH hla;have HLB:=zH hlb;have HP:=zH hp;have HBN:zI (bfN a b=N):=zH (by unfold bfN;rw[hn,hm];exact hNN);have HSU:zI (zrm N (N+1) (zra N (bfA a b) λ i _=>bfR a b i)):=zH (by rw[HBN.o]at hs;exact hs);have HNA:=zH hn;have HNB:=zH hm;have HNN:=zH hNN;have ssA:=hsA.sl;have seA:=heA.sl;have ssB:=hsB.sl;have srA:=hrA.sl;have srB:=hrB.sl;have hwN:=zti n4 m4 hNN;have HWN:=zH hwN;clear hc1 hc2 hc3 hbw hsA hrA heA hsB hrB heB hla hlb hn hm hNN ha hb hp hs;go_enter Tryz.func129,Tryz.ntmps129;go_upto_region 1 with fail;generalize ((w.alloc (.cells #[.string { data:=#[] }, .slice saA enA skA, .slice raA enA rkA, .slice eaA enA ekA] 52)).alloc (.cells #[.string { data:=#[] }, .slice saB enB skB, .slice raB enB rkB, .slice eaB enB ekB] 52)).alloc (.cells #[.bool false, .slice none 0 0, .slice none 0 0] 38)=W2 at *
 obtain⟨-,c0,c1,c2,c3,-,-,-,-⟩:=HC1.o;obtain⟨-,d0,d1,d2,d3,-,-,-,-⟩:=HC2.o
 go_upto_region 3 with(first
  |(go_at_call 180;(with_reducible refine(zxb _ a W2 HA.o.lawC HLA.o).mono ?_);rintro e3 w3 ⟨rfl,hb3⟩;have HB30:=zH hb3;clear c0 c1 c2 c3 d0 d1 d2 d3;obtain⟨-,d0,d1,d2,d3,-,-,-,-⟩:=HC2.o.bS hb3;clear hb3)
  |(go_at_call 180;(with_reducible refine(zxb _ b w3 (HB.o.bw HB30.o).lawC HLB.o).mono ?_);rintro e4 w4 ⟨rfl,hb4⟩;have HB3:=zH (zaa HB30.o hb4);clear hb4 d0 d1 d2 d3))
 obtain⟨-,c0,c1,c2,c3,-,-,-,-⟩:=HC1.o.bS HB3.o;obtain⟨-,d0,d1,d2,d3,-,-,-,-⟩:=HC2.o.bS HB3.o;have S0:=zH (zAI c1 d1);clear c0 c1 c2 c3 d0 d1 d2 d3;go_cut [6,7] (λ u6 u7 wy=>u6= .int .i64 (enA:Nat)/\u7= .int .i64 (enB:Nat)/\Below w4.heap.size w4 wy)
 case first =>
  go_region_held3 (λ w'=>w'.cell? ⟨w.heap.size,1,none⟩=some (.slice saA enA skA)/\w'.cell? ⟨w.heap.size+1,1,none⟩=some (.slice saB enB skB)/\Below w4.heap.size w4 w') (first
   | with_reducible exact kp2a S0.o (zfa _)
   | with_reducible exact kp2w (by assumption) (by assumption)) (fail)
  all_goals
   have hE:=kp2c (by assumption);go_wp2_with fail;go_meet;case rel=>exact⟨rfl,rfl,hE⟩
 case rest=>
  obtain⟨rfl,rfl,hcb⟩:=hcut;obtain⟨W4,hw4⟩:∃w4,w4=wc:=⟨_,rfl⟩;subst hw4;have HB4:=zH (zaa HB3.o hcb);clear hcb S0 HB3 HB30;go_wp2_with fail;go_loopg [8,9,10,11] (enA) (λ g u8 u9 u10 u11 wr=>∃ (i:Nat) (rs:List Value),i<=enA/\g=enA-i/\u11= .int .i64 i/\SvV wr W2.heap.size N (bfA a b) (bfR a b) (bfS a b) (i*enB) (i*enB) (i*enB) u8 u9 u10 rs/\Below W2.heap.size W2 wr);case atStart=>exact⟨0,[],zZL _,rfl,rfl,by rw[Nat.zero_mul];exact⟨⟨zkc.nil _ _ _ _,λ j h=>by simp at h,HB4.o.size⟩,rfl,zua.nil _ _ _,zua.nil _ _ _,λ j h=>by simp at h,λ j h=>by simp at h,λ g h=>by cases h⟩,HB4.o⟩
  case round=>
   obtain⟨i,rs,hin,hgi,rfl,hsv,hbr⟩:=hrel;obtain⟨wx,hwx⟩:∃w6,w6=wr:=⟨_,rfl⟩;subst hwx;have HGi:=zH hgi;have HSV:=zH hsv;have HBR:=zH hbr;clear hgi hsv hbr HB4;by_cases hil:i<enA
   ·have i1:(0:Int)<=(i:Int):=zO;have i2:(i:Int)<(enA:Nat):=zO;have HIA:zI (i<a.start.length):=zH (by rw[HNA.o];exact hil);go_wp2_with fail;go_loopg [8,9,10,12] (enB) (λ g u8 u9 u10 u12 wr=>∃ (j:Nat) (rs:List Value),j<=enB/\g=enB-j/\u12= .int .i64 j/\SvV wr W2.heap.size N (bfA a b) (bfR a b) (bfS a b) (i*enB+j) (i*enB+j) (i*enB+j) u8 u9 u10 rs/\Below W2.heap.size W2 wr);case atStart=>exact⟨0,rs,zZL _,rfl,rfl,HSV.o,HBR.o⟩
    case round=>
     clear HSV HBR;obtain⟨j,rs,hjn,hgj,rfl,hsv,hbr⟩:=hrel;obtain⟨wy,hwx⟩:∃w6,w6=wr:=⟨_,rfl⟩;subst hwx;have HGj:=zH hgj;have HSV:=zH hsv;have HBR:=zH hbr;clear hgj hsv hbr;by_cases hjl:j<enB
     ·have j1:(0:Int)<=(j:Int):=zO;have j2:(j:Int)<(enB:Nat):=zO;obtain⟨t,ht⟩:∃t,i*enB+j=t:=⟨_,rfl⟩;(have htN:t<N:=by rw[<-HNN.o,<-ht];exact zfm hil hjl);obtain⟨p1,hp1⟩:∃p,i*enB=p:=⟨_,rfl⟩;(have p16:p1<=16:=by rw[<-hp1];exact zei zO m4);have hwa1:IntKind.i64.wrap ((i:Int)*(enB:Int))=((p1:Nat):Int):=zti zO m4 hp1;have hwa2:IntKind.i64.wrap ((p1:Int)+(j:Int))=((t:Nat):Int):=zil p16 zO (by rw[<-hp1];exact ht);have HP1:=zH hp1;have HP16:=zH p16;rw[ht]at HSV;have HT:=zH ht;have HTS:zI (i*enB+(j+1)=t+1):=zH zO;have t3:(0:Int)<=(t:Int):=zO;have t4:(t:Int)<(N:Nat):=zO;have HJB:zI (j<b.start.length):=zH (by rw[HNB.o];exact hjl);have HJL:=zH hjl;have HTB:zI (t<bfN a b):=zH (by rw[HBN.o];exact htN);have HDG:zI (bfA a b t t=zff a i+zff b j):=zH (bfA_dg HLA.o HLB.o HTB.o HNB.o hjl ht);have HFO:zI (fits (zff a i)/\fits (zff b j)/\fits (zff a i+zff b j)):=zH ⟨zpk HLA.o HIA.o,zpk HLB.o HJB.o,zqk HLA.o HLB.o HIA.o HJB.o⟩;clear hp1 p16 ht
      go_upto_region 13 with(first
       |(go_at_call 165;(try rw[HWN.o]);(with_reducible refine(zwi N _ hN16).mono ?_);rintro e5 w5 ⟨v5,rfl,hv5,hb5⟩;obtain⟨r1,r2,r3,rfl,_⟩:=id hv5.sl;have hr2:r2=N:=(by have h:=hv5.fracs.len;rw[zpa]at h;exact h);rw[hr2]at hv5 |-;rw[znn]at hv5;have HFR:=zH hv5;have HB5:=zH hb5;clear hv5 hb5 hr2))
      have HBX:=zH (zaa HBR.o HB5.o);have hbD:=zfa (B:=w5.heap.size) w5;obtain⟨-,c0,c1,c2,c3,-,-,-,-⟩:=HC1.o.bS HBX.o;obtain⟨-,d0,d1,d2,d3,-,-,-,-⟩:=HC2.o.bS HBX.o;have HRD:=zH (frb HFR.o hbD);have HBD:=zH (zaa HB5.o hbD);have HAD:=zH (HA.o.bw (zaa HBX.o hbD));have HBL:=zH (HB.o.bw (zaa HBX.o hbD));refine wpL.start 14 (λ w'=>w'.cell? ⟨w.heap.size,0,none⟩=some (.string { data:=#[] })/\w'.cell? ⟨w.heap.size,1,none⟩=some (.slice saA enA skA)/\w'.cell? ⟨w.heap.size,2,none⟩=some (.slice raA enA rkA)/\w'.cell? ⟨w.heap.size,3,none⟩=some (.slice eaA enA ekA)/\w'.cell? ⟨w.heap.size+1,0,none⟩=some (.string { data:=#[] })/\w'.cell? ⟨w.heap.size+1,1,none⟩=some (.slice saB enB skB)/\w'.cell? ⟨w.heap.size+1,2,none⟩=some (.slice raB enB rkB)/\w'.cell? ⟨w.heap.size+1,3,none⟩=some (.slice eaB enB ekB)) (by kernel_rfl) ⟨zba hbD c0,zba hbD c1,zba hbD c2,zba hbD c3,zba hbD d0,zba hbD d1,zba hbD d2,zba hbD d3⟩ (λ hHeld=> ?_);clear hbD HFR HB5 c0 c1 c2 c3 d0 d1 d2 d3;generalize w5.drew=wd at *
      refine zU 0 ?_;refine zU 1 ?_;refine zU 2 ?_;refine zU 3 ?_;refine zU 4 ?_;refine zU 5 ?_;refine zY 6 ?_;refine zU 7 ?_;refine zY 9 ?_;refine zU 10 ?_;(refine zCF 8 181 #[.agg #[.string { data:=#[] }, .slice saA enA skA, .slice raA enA rkA, .slice eaA enA ekA], .int .i64 (i:Nat)] (zuq _ a i _ HAD.o.lawC HLA.o HIA.o) λ t6 a61 l61 k61 a62 l62 k62 w6 hv6 hb6=>⟨kcl8 hb6 hHeld,λ hH6=> ?_⟩);clear hHeld;have hHeld:=hH6;clear hH6;(refine zCF 11 181 #[.agg #[.string { data:=#[] }, .slice saB enB skB, .slice raB enB rkB, .slice eaB enB ekB], .int .i64 (j:Nat)] (zuq _ b j _ (HBL.o.bw hb6).lawC HLB.o HJB.o) λ t7 a71 l71 k71 a72 l72 k72 w7 hv7 hb7=>⟨kcl8 hb7 hHeld,λ hH7=> ?_⟩);clear hHeld;have hHeld:=hH7;clear hH7;(refine zCF 12 185 #[.agg #[.bool t6, .slice a61 l61 k61, .slice a62 l62 k62], .agg #[.bool t7, .slice a71 l71 k71, .slice a72 l72 k72]] (zsl _ _ _ _ _ (hv6.bw hb7) hv7 HFO.o.1 HFO.o.2.1 HFO.o.2.2) λ t8 a81 l81 k81 a82 l82 k82 w8 hv8 hb8=>⟨kcl8 hb8 hHeld,λ hH8=> ?_⟩);clear hHeld;have hB8:=zaa (zaa (zaa HBD.o hb6) hb7) hb8;have hr8:=frb (frb (frb HRD.o hb6) hb7) hb8;have hput:=hr8.putT (s':=(wr1 (λ c=>c=t\/PA enB i j t 0 t c) (bfA a b t))) (zAI trivial hB8.size).2 (i:=t) htN (λ k _ hk=>zak λ h=>h.elim (λ h=>absurd h hk) (λ h=>absurd (PA_zero.1 h) (zIR _))) (zbi (Or.inl rfl) HDG.o hv8);(have hjR:=show t<(zxa N (λ _=>0)).length by rw[zda];exact htN);obtain⟨y0,z0,y1,y2,y3,y4,f0,f1,f2,slo,n01,n02,n12⟩:=hr8.prep hjR;have HFP:=zH hput.1;have HBP:=zH (hB8.trans hput.2);clear hput hB8 hr8 HRD HBD HAD HBL hv6 hv7 hv8 hb6 hb7 hb8;refine zPA 13 hH8 ?_;clear hH8;refine zPB 14 ?_;clear y2 y3 y4 f0 f1 f2 n01 n02 n12;generalize ((w8.setCell (ptr (.slice r1 N r3) (t*3)) (.bool t8)).setCell (ptr (.slice r1 N r3) (t*3+1)) (.slice a81 l81 k81)).setCell (ptr (.slice r1 N r3) (t*3+2)) (.slice a82 l82 k82)=w9 at *
      clear HDG HFO;go_wp2_with fail;go_loopg [14] (enA) (λ g u14 wr=>∃ (k:Nat),k<=enA/\g=enA-k/\u14= .int .i64 k/\zua wr 38 wy.heap.size (.slice r1 N r3) (zxa N (wr1 (λ c=>c=t\/PA enB i j t k t c) (bfA a b t)))/\Below wy.heap.size wy wr);case atStart=>exact⟨0,zZL _,rfl,rfl,HFP.o,HBP.o⟩
      case round=>
       clear HFP HBP;obtain⟨k,hkn,hgk,rfl,hfr,hbi⟩:=hrel;obtain⟨wz,hwx⟩:∃w6,w6=wr:=⟨_,rfl⟩;subst hwx;have HGk:=zH hgk;have HFR:=zH hfr;have HBI:=zH hbi;clear hgk hfr hbi;by_cases hkl:k<enA
       ·have k1:(0:Int)<=(k:Int):=zO;have k2:(k:Int)<(enA:Nat):=zO;by_cases hke:k=i
        ·(have hne:((k:Int) != (i:Int))=false:=by simp;omega);have HKE:=zH hke;clear hke;go_wp2_with fail;go_roundg (enA- (k+1));(case measure=>(have:=HGk.o;omega));case rel=>exact⟨k+1,zO,rfl,by go_num,by rw[<-zlb (f:=(wr1 (λ c=>c=t\/PA enB i j t k t c) (bfA a b t))) λ c hc=>zvg (Or.inl (or_congr Iff.rfl (by rw[HKE.o];exact PA_skip)))];exact HFR.o,HBI.o⟩
        ·(have hne:((k:Int) != (i:Int))=true:=by simp;omega);have HKE:=zH hke;obtain⟨ck,hck⟩:∃x,k*enB+j=x:=⟨_,rfl⟩;(have hckN:ck<N:=by rw[<-HNN.o,<-hck];exact zfm hkl hjl);obtain⟨p2,hp2⟩:∃p,k*enB=p:=⟨_,rfl⟩;(have p26:p2<=16:=by rw[<-hp2];exact zei zO m4);have hwk1:IntKind.i64.wrap ((k:Int)*(enB:Int))=((p2:Nat):Int):=zti zO m4 hp2;have hwk2:IntKind.i64.wrap ((p2:Int)+(j:Int))=((ck:Nat):Int):=zil p26 zO (by rw[<-hp2];exact hck);clear hp2 p26;have k3:(0:Int)<=(ck:Int):=zO;have k4:(ck:Int)<(N:Nat):=zO;have HCK:=zH hck;have HKX:zI (k<a.start.length):=zH (by rw[HNA.o];exact hkl);have hir:=HLA.o.rlen HIA.o;obtain⟨rw1,hrv,hrow⟩:=HRA.o.at' i hir;rw[<-HLA.o.rget HIA.o]at hrow;obtain⟨ua,un,uk,rfl,_⟩:=id hrow.sl;have srow:=hrow.sl;(have hun:un=enA:=by have h:=hrow.len;rw[HLA.o.rowlen HIA.o,HNA.o]at h;exact h);rw[hun]at hrv hrow srow;clear hun;have HBZ:=zH (zea HBR.o HBI.o HBR.o.size);obtain⟨ts,as1,ls1,ks1,as2,ls2,ks2,g1,g2,g3,hfs⟩:=(hrow.bw HBZ.o).cellsAt (k:=k) (by rw[HLA.o.rowlen HIA.o];exact HKX.o);have HFX:zI (zia wz (.agg #[.bool ts, .slice as1 ls1 ks1, .slice as2 ls2 ks2]) (rtQ a i k)):=zH hfs;have HLX:zI (fits (rtQ a i k)):=zH (HLA.o.rt_lim HIA.o HKX.o).fits;have HVT:zI (bfA a b t ck= -(rtQ a i k)):=zH (by rw[bfA_of HLA.o HLB.o HTB.o (by rw[HBN.o];exact hckN) (λ e=>HKE.o (by have h:=HT.o;rw[e,<-hck]at h;exact(by have h2:=congrArg (· /enB) h;simpa only[zhc HJL.o]using h2.symm))),<-hck];exact congrArg Neg.neg (bfr_a HNB.o HJL.o HT.o HKE.o));have hri:=zba HBZ.o hrv;obtain⟨-,c0,c1,c2,c3,-,-,-,-⟩:=HC1.o.bS HBZ.o;clear hfs hrv hrow hck hke c0 c1 c3
         go_wp2_with (first
          |(go_at_call 92;(with_reducible refine(zcd _ _ _ HFX.o HLX.o).mono ?_);rintro e6 w6 ⟨v6,rfl,hv6,hb6⟩;obtain⟨t6,a61,l61,k61,a62,l62,k62,rfl⟩:=hv6.iF)
          |(go_at_call 105;(with_reducible refine(zzg _ _ _ hv6).mono ?_);rintro e7 w7 ⟨v7,rfl,hv7,hb7⟩;obtain⟨t7,a71,l71,k71,a72,l72,k72,rfl⟩:=hv7.iF;have hB7:=zaa (zaa HBI.o hb6) hb7;have hr7:=frb (frb HFR.o hb6) hb7;have hput:=hr7.putT (s':=(wr1 (λ c=>c=t\/PA enB i j t (k+1) t c) (bfA a b t))) (zAI trivial hB7.size).2 (i:=ck) hckN (λ x _ hx=>zvg (Or.inl (or_congr Iff.rfl (PA_put (λ h=>hx (by rw[h.2];exact HCK.o)))))) (zbi (Or.inr (by rw[<-HCK.o];exact PA_at HJL.o HKE.o)) HVT.o hv7);(have hjR:=show ck<(zxa N (wr1 (λ c=>c=t\/PA enB i j t k t c) (bfA a b t))).length by rw[zda];exact hckN);obtain⟨y0,z0,y1,y2,y3,y4,f0,f1,f2,slo,n01,n02,n12⟩:=hr7.prep hjR;have HFP:=zH hput.1;have HBP:=zH (hB7.trans hput.2);clear hput hB7 hr7))
         go_roundg (enA- (k+1));(case measure=>(have:=HGk.o;omega));case rel=>exact⟨k+1,zO,rfl,by go_num,HFP.o,HBP.o⟩
       ·obtain rfl:enA=k:=zO;go_wp2_with fail;go_loopg [15] (enB) (λ g u15 wr=>∃ (k:Nat),k<=enB/\g=enB-k/\u15= .int .i64 k/\zua wr 38 wy.heap.size (.slice r1 N r3) (zxa N (wr1 (λ c=>c=t\/PB enB i j t k t c) (bfA a b t)))/\Below wy.heap.size wy wr);case atStart=>exact⟨0,zZL _,rfl,rfl,by rw[<-zlb (f:=(wr1 (λ c=>c=t\/PA enB i j t enA t c) (bfA a b t))) λ c hc=>zvg (Or.inl (or_congr Iff.rfl (PA_end (n:=enA) (by rw[HNN.o];exact hc))))];exact HFR.o,HBI.o⟩
        case round=>
         clear HFR HBI;obtain⟨k,hkn,hgk,rfl,hfr,hbi⟩:=hrel;obtain⟨wv,hwx⟩:∃w6,w6=wr:=⟨_,rfl⟩;subst hwx;have HGk:=zH hgk;have HFR:=zH hfr;have HBI:=zH hbi;clear hgk hfr hbi;by_cases hkl:k<enB
         ·have k1:(0:Int)<=(k:Int):=zO;have k2:(k:Int)<(enB:Nat):=zO;by_cases hke:k=j
          ·(have hne:((k:Int) != (j:Int))=false:=by simp;omega);have HKE:=zH hke;clear hke;go_wp2_with fail;go_roundg (enB- (k+1));(case measure=>(have:=HGk.o;omega));case rel=>exact⟨k+1,zO,rfl,by go_num,by rw[<-zlb (f:=(wr1 (λ c=>c=t\/PB enB i j t k t c) (bfA a b t))) λ c hc=>zvg (Or.inl (or_congr Iff.rfl (by rw[HKE.o];exact PB_skip)))];exact HFR.o,HBI.o⟩
          ·(have hne:((k:Int) != (j:Int))=true:=by simp;omega);have HKE:=zH hke;obtain⟨ck,hck⟩:∃x,i*enB+k=x:=⟨_,rfl⟩;(have hckN:ck<N:=by rw[<-HNN.o,<-hck];exact zfm hil hkl);have hwk2:IntKind.i64.wrap ((p1:Int)+(k:Int))=((ck:Nat):Int):=zil HP16.o zO (by rw[<-HP1.o];exact hck);have k3:(0:Int)<=(ck:Int):=zO;have k4:(ck:Int)<(N:Nat):=zO;have HCK:=zH hck;have HKX:zI (k<b.start.length):=zH (by rw[HNB.o];exact hkl);have hir:=HLB.o.rlen HJB.o;obtain⟨rw1,hrv,hrow⟩:=HRB.o.at' j hir;rw[<-HLB.o.rget HJB.o]at hrow;obtain⟨ua,un,uk,rfl,_⟩:=id hrow.sl;have srow:=hrow.sl;(have hun:un=enB:=by have h:=hrow.len;rw[HLB.o.rowlen HJB.o,HNB.o]at h;exact h);rw[hun]at hrv hrow srow;clear hun;have HBZ:=zH (zea HBR.o HBI.o HBR.o.size);obtain⟨ts,as1,ls1,ks1,as2,ls2,ks2,g1,g2,g3,hfs⟩:=(hrow.bw HBZ.o).cellsAt (k:=k) (by rw[HLB.o.rowlen HJB.o];exact HKX.o);have HFX:zI (zia wv (.agg #[.bool ts, .slice as1 ls1 ks1, .slice as2 ls2 ks2]) (rtQ b j k)):=zH hfs;have HLX:zI (fits (rtQ b j k)):=zH (HLB.o.rt_lim HJB.o HKX.o).fits;have HVT:zI (bfA a b t ck= -(rtQ b j k)):=zH (by rw[bfA_of HLA.o HLB.o HTB.o (by rw[HBN.o];exact hckN) (λ e=>HKE.o (by have h:=HT.o;rw[e,<-hck]at h;exact zO)),<-hck];exact congrArg Neg.neg (bfr_b HNB.o HJL.o hkl HT.o HKE.o));have hri:=zba HBZ.o hrv;obtain⟨-,c0,c1,c2,c3,-,-,-,-⟩:=HC2.o.bS HBZ.o;clear hfs hrv hrow hck hke c0 c1 c3
           go_wp2_with (first
            |(go_at_call 92;(with_reducible refine(zcd _ _ _ HFX.o HLX.o).mono ?_);rintro e6 w6 ⟨v6,rfl,hv6,hb6⟩;obtain⟨t6,a61,l61,k61,a62,l62,k62,rfl⟩:=hv6.iF)
            |(go_at_call 105;(with_reducible refine(zzg _ _ _ hv6).mono ?_);rintro e7 w7 ⟨v7,rfl,hv7,hb7⟩;obtain⟨t7,a71,l71,k71,a72,l72,k72,rfl⟩:=hv7.iF;have hB7:=zaa (zaa HBI.o hb6) hb7;have hr7:=frb (frb HFR.o hb6) hb7;have hput:=hr7.putT (s':=(wr1 (λ c=>c=t\/PB enB i j t (k+1) t c) (bfA a b t))) (zAI trivial hB7.size).2 (i:=ck) hckN (λ x _ hx=>zvg (Or.inl (or_congr Iff.rfl (PB_put (λ h=>hx (by rw[h.2];exact HCK.o)))))) (zbi (Or.inr (by rw[<-HCK.o];exact PB_at hkl HKE.o)) HVT.o hv7);(have hjR:=show ck<(zxa N (wr1 (λ c=>c=t\/PB enB i j t k t c) (bfA a b t))).length by rw[zda];exact hckN);obtain⟨y0,z0,y1,y2,y3,y4,f0,f1,f2,slo,n01,n02,n12⟩:=hr7.prep hjR;have HFP:=zH hput.1;have HBP:=zH (hB7.trans hput.2);clear hput hB7 hr7))
           go_roundg (enB- (k+1));(case measure=>(have:=HGk.o;omega));case rel=>exact⟨k+1,zO,rfl,by go_num,HFP.o,HBP.o⟩
         ·obtain rfl:enB=k:=zO
          have hrowF:zua wv 38 wy.heap.size (.slice r1 N r3) (zxa N (bfA a b t)):=by
           rw[<-zlb λ c hc=>rowB_end HLA.o HLB.o HTB.o (by rw[HBN.o];exact hc) HNB.o m1 HJL.o HT.o];exact HFR.o
          have HRW:=zH hrowF;have hbD:=zfa (B:=wv.heap.size) wv;have HBD:=zH (zea HBR.o (zaa HBI.o hbD) HBR.o.size);have HSD:=zH (HSV.o.bw (zaa HBI.o hbD));have HRD:zI (zua wv.drew 38 W2.heap.size (.slice r1 N r3) (zxa N (bfA a b t))):=zH ((frb hrowF hbD).mono HBR.o.size)
          have HN9:zI (∀g,(Value.slice r1 N r3).ownBlock=some g->u9.ownBlock≠some g):=zH (λ g h1 h2=>by
           have e1:=(HRW.o.block g h1).1;have e2:=(HSV.o.r9.block g h2).2;omega)
          have HN10:zI (∀g,(Value.slice r1 N r3).ownBlock=some g->u10.ownBlock≠some g):=zH (λ g h1 h2=>by
           have e1:=(HRW.o.block g h1).1;have e2:=(HSV.o.r10.block g h2).2;omega)
          (have hrl:rs.length<=1000:=by have h:=HSV.o.rl;omega);(have hl9:(zxa t (bfR a b)).length<=1000:=by rw[zda];omega);(have hl10:(zxa t (bfS a b)).length<=1000:=by rw[zda];omega);obtain⟨ts,as1,ls1,ks1,as2,ls2,ks2,g1,g2,g3,hf1⟩:=HEA.o.cellsAt (k:=i) (by rw[HLA.o.el];exact HIA.o);obtain⟨us,bs1,ms1,os1,bs2,ms2,os2,g4,g5,g6,hf2⟩:=HSA.o.cellsAt (k:=i) HIA.o;obtain⟨vs,es1,is1,fs1,es2,is2,fs2,g7,g8,g9,hf3⟩:=HSB.o.cellsAt (k:=j) HJB.o;have HF1:zI (zia W2 (.agg #[.bool ts, .slice as1 ls1 ks1, .slice as2 ls2 ks2]) (bfR a b t)):=zH (by unfold bfR;rw[HNB.o,<-HT.o,zhc HJL.o];exact hf1);have HF2:zI (zia W2 (.agg #[.bool us, .slice bs1 ms1 os1, .slice bs2 ms2 os2]) (stQ a i)):=zH hf2;have HF3:zI (zia W2 (.agg #[.bool vs, .slice es1 is1 fs1, .slice es2 is2 fs2]) (stQ b j)):=zH hf3;have HFT:zI (fits (bfR a b t)):=zH (HP.o.sys.fb t HTB.o);have HBS:zI (stQ a i*stQ b j=bfS a b t):=zH (bfS_at HNB.o HJL.o HT.o).symm
          have HFM:zI (fits (stQ a i)/\fits (stQ b j)/\fits (stQ a i*stQ b j)):=zH ⟨(HLA.o.st_lim HIA.o).fits,(HLB.o.st_lim HJB.o).fits,by
           rw[HBS.o];have h:=(HP.o.sca.fa t (by rw[zda];exact HTB.o)).1;rwa[ztd HTB.o]at h⟩
          have S0:=zH (zAI HC1.o.c3 (zAI g1 (zAI g2 (zAI g3 (zAI HC1.o.c1 (zAI g4 (zAI g5 (zAI g6 (zAI HC2.o.c1 (zAI g7 (zAI g8 g9)))))))))));clear hf1 hf2 hf3 g1 g2 g3 g4 g5 g6 g7 g8 g9 hrowF;go_upto_region 24 with fail;refine wpL.start 24 (λ w'=>w'.cell? ⟨w.heap.size,3,none⟩=some (.slice eaA enA ekA)/\w'.cell? (ptr (.slice eaA enA ekA) (i*3))=some (.bool ts)/\w'.cell? (ptr (.slice eaA enA ekA) (i*3+1))=some (.slice as1 ls1 ks1)/\w'.cell? (ptr (.slice eaA enA ekA) (i*3+2))=some (.slice as2 ls2 ks2)/\w'.cell? ⟨w.heap.size,1,none⟩=some (.slice saA enA skA)/\w'.cell? (ptr (.slice saA enA skA) (i*3))=some (.bool us)/\w'.cell? (ptr (.slice saA enA skA) (i*3+1))=some (.slice bs1 ms1 os1)/\w'.cell? (ptr (.slice saA enA skA) (i*3+2))=some (.slice bs2 ms2 os2)/\w'.cell? ⟨w.heap.size+1,1,none⟩=some (.slice saB enB skB)/\w'.cell? (ptr (.slice saB enB skB) (j*3))=some (.bool vs)/\w'.cell? (ptr (.slice saB enB skB) (j*3+1))=some (.slice es1 is1 fs1)/\w'.cell? (ptr (.slice saB enB skB) (j*3+2))=some (.slice es2 is2 fs2)) (by kernel_rfl) (zgf S0.o HBD.o) (λ hHeld=> ?_);clear hbD HFR HBI HSV HBR HRW;generalize wv.drew=wd at *
          refine zU 0 ?_;refine zU 1 ?_;refine zU 4 ?_;refine zU 5 ?_;refine zY 6 ?_;refine zU 7 ?_;refine zU 8 ?_;refine zY 9 ?_;refine zU 13 ?_;refine zU 14 ?_;refine zY 15 ?_;refine zU 16 ?_;refine zU 17 ?_;refine zY 18 ?_;refine zU 19 ?_;refine zY 20 ?_;refine zU 21 ?_;refine zU 22 ?_;refine zY 23 ?_;(refine zW 2 ?_;intro K hK);rw[zIP (by rfl)];go_simp;have hb1:=zca wd (.cells #[.slice r1 N r3] 25);(have hg1:(wd.alloc (.cells #[.slice r1 N r3] 25)).cell? ⟨wd.heap.size,0,none⟩=some (.slice r1 N r3):=by go_simp);have HB1:=zH (zaa HBD.o hb1);have HS1:=zH (HSD.o.bw hb1);have HR1:=zH (frb HRD.o hb1);refine hK.o _ _ (λ _=>zgf S0.o HB1.o) ?_;replace hHeld:=zgf S0.o HB1.o;clear hK K hb1 HBD HSD HRD;refine zS ?_;obtain⟨w1,hw1⟩:∃w1,w1=wd.alloc (.cells #[.slice r1 N r3] 25):=⟨_,rfl⟩;(rw[<-hw1]at HB1 HS1 HR1 hg1 |-);clear hw1;(refine zW 3 ?_;intro K hK);refine hAR rfl _ _ rfl W2.heap.size u8 rs rfl HS1.o.rows.ra (.slice r1 N r3) rfl zZ wd.heap.size rfl hg1 hrl HS1.o.rows.sz ?_;intro v2 w2 ho2 hg2;have hS2:=HS1.o.push1 HR1.o HN9.o HN10.o ho2 hg2;have HS2:=zH hS2.1;have HB2:=zH (HB1.o.trans hS2.2);refine hK.o _ _ (λ _=>zgf S0.o HB2.o) ?_;replace hHeld:=zgf S0.o HB2.o;clear hK K hS2 ho2 hg2 HB1 HS1 HR1 hg1;refine zS ?_;(refine zW 10 ?_;intro K hK);refine zsa 92 #[.agg #[.bool ts, .slice as1 ls1 ks1, .slice as2 ls2 ks2]] ?_ ?_ (zcd _ _ _ (HF1.o.bw HB2.o) HFT.o) ?_
          ·rfl
          ·go_simp
          rintro e3 w3 ⟨v3,rfl,hv3,hb3⟩;obtain⟨t3,a31,l31,k31,a32,l32,k32,rfl⟩:=hv3.iF;have HB3:=zH (zaa HB2.o hb3);have HS3:=zH (HS2.o.bw hb3);refine⟨_,rfl,?_⟩;refine hK.o _ _ (λ _=>zgf S0.o HB3.o) ?_;replace hHeld:=zgf S0.o HB3.o;clear hK K hb3 HB2 HS2;refine zS ?_;(refine zW 11 ?_;intro K hK);rw[zIP (by rfl)];go_simp;have hb4:=zca w3 (.cells #[.bool t3, .slice a31 l31 k31, .slice a32 l32 k32] 38);have hV4:=zkg.new w3 #[.bool t3, .slice a31 l31 k31, .slice a32 l32 k32] 38;have HB4:=zH (zaa HB3.o hb4);have HS4:=zH (HS3.o.bw hb4);have HV4:=zH (hv3.bw hb4);refine hK.o _ _ (λ _=>zgf S0.o HB4.o) ?_;replace hHeld:=zgf S0.o HB4.o;clear hK K hb4 HB3 HS3 hv3;refine zS ?_;obtain⟨w4x,hw4⟩:∃w1,w1=w3.alloc (.cells #[.bool t3, .slice a31 l31 k31, .slice a32 l32 k32] 38):=⟨_,rfl⟩;(rw[<-hw4]at HB4 HS4 HV4 hV4 |-);clear hw4;(refine zW 12 ?_;intro K hK);refine hAP rfl _ _ rfl W2.heap.size u9 (zxa t (bfR a b)) rfl HS4.o.r9 _ _ _ _ HV4.o w3.heap.size rfl hV4 hl9 HS4.o.rows.sz ?_;intro v5 w5x ho5 hg5 hn5 hq5;rw[zkd]at ho5;have hS5:=HS4.o.push2 ho5 hg5 hn5 (hq5.imp id λ e=>⟨_,zLR _,e⟩);have HS5:=zH hS5.1;have HB5:=zH (HB4.o.trans hS5.2);refine hK.o _ _ (λ _=>zgf S0.o HB5.o) ?_;replace hHeld:=zgf S0.o HB5.o;clear hK K hS5 ho5 hg5 hn5 hq5 HB4 HS4 HV4 hV4;refine zS ?_;(refine zW 24 ?_;intro K hK);refine zsa 183 #[.agg #[.bool us, .slice bs1 ms1 os1, .slice bs2 ms2 os2], .agg #[.bool vs, .slice es1 is1 fs1, .slice es2 is2 fs2]] ?_ ?_ (zml _ _ _ _ _ (HF2.o.bw HB5.o) (HF3.o.bw HB5.o) HFM.o.1 HFM.o.2.1 HFM.o.2.2) ?_
          ·rfl
          ·go_simp
          rintro e6 w6 ⟨v6,rfl,hv6,hb6⟩;rw[HBS.o]at hv6;obtain⟨t6,a61,l61,k61,a62,l62,k62,rfl⟩:=hv6.iF;have HB6:=zH (zaa HB5.o hb6);have HS6:=zH (HS5.o.bw hb6);refine⟨_,rfl,?_⟩;refine hK.o _ _ (λ h=>by first | cases h | simp at h) ?_;clear hK K hb6 HB5 HS5 hHeld;refine zS ?_;(refine zW 25 ?_;intro K hK);rw[zIP (by rfl)];go_simp;have hb7:=zca w6 (.cells #[.bool t6, .slice a61 l61 k61, .slice a62 l62 k62] 38);have hV7:=zkg.new w6 #[.bool t6, .slice a61 l61 k61, .slice a62 l62 k62] 38;have HB7:=zH (zaa HB6.o hb7);have HS7:=zH (HS6.o.bw hb7);have HV7:=zH (hv6.bw hb7);refine hK.o _ _ (λ h=>by first | cases h | simp at h) ?_;clear hK K hb7 HB6 HS6 hv6;refine zS ?_;obtain⟨w7x,hw7⟩:∃w1,w1=w6.alloc (.cells #[.bool t6, .slice a61 l61 k61, .slice a62 l62 k62] 38):=⟨_,rfl⟩;(rw[<-hw7]at HB7 HS7 HV7 hV7 |-);clear hw7;(refine zW 26 ?_;intro K hK);refine hAP rfl _ _ rfl W2.heap.size u10 (zxa t (bfS a b)) rfl HS7.o.r10 _ _ _ _ HV7.o w6.heap.size rfl hV7 hl10 HS7.o.rows.sz ?_;intro v8 w8 ho8 hg8 hn8 hq8;rw[zkd]at ho8;have hS8:=HS7.o.push3 ho8 hg8 hn8 (hq8.imp id λ e=>⟨_,zLR _,e⟩);have HS8:=zH hS8.1;have HB8:=zH (HB7.o.trans hS8.2);refine hK.o _ _ (λ h=>by first | cases h | simp at h) ?_;clear hK K hS8 ho8 hg8 hn8 hq8 HB7 HS7 HV7 hV7;refine zS ?_;(refine zW 27 ?_;intro K hK);rw[zIP (by rfl)];go_simp;refine hK.o _ _ (λ h=>by first | cases h | simp at h) ?_;clear hK K;refine zS ?_;(refine zW 28 ?_;intro K hK);rw[zIP (by rfl)];go_simp;refine hK.o _ _ (λ h=>by first | cases h | simp at h) ?_;clear hK K;refine zS ?_;(refine zW 29 ?_;intro K hK);rw[zIP (by rfl)];go_simp;refine hK.o _ _ (λ h=>by first | cases h | simp at h) ?_;clear hK K;refine wpL.done (by kernel_rfl) ?_ _;refine zS ?_;go_wp2_with fail;go_roundg (enB- (j+1));(case measure=>(have:=HGj.o;omega));case rel=>exact⟨j+1,_,zO,rfl,by go_num,by rw[HTS.o];exact HS8.o,HB8.o⟩
     ·obtain rfl:j=enB:=zO;go_wp2_with fail;go_roundg (enA- (i+1));(case measure=>(have:=HGi.o;omega));case rel=>exact⟨i+1,rs,zO,rfl,by go_num,by rw[Nat.succ_mul];exact HSV.o,HBR.o⟩
   ·obtain rfl:i=enA:=zO;have hsv:=HSV.o;rw[HNN.o]at hsv;have HMT:zI (zij wx u8 N N (bfA a b)):=zH (by have h:=hsv.rows.mat;rwa[hsv.rl]at h);have HRV:zI (zwa wx u9 (zxa N (bfR a b))):=zH hsv.r9.fracs;have HST:zI (zwa wx u10 (zxa N (bfS a b))):=zH hsv.r10.fracs;have HSYS:zI (zim N (bfA a b) (bfR a b) (befX a b)):=zH (by have h:=HP.o.sys;rwa[HBN.o]at h)
    have HSC:zI (∀w0 v1 v2,zwa w0 v1 (zxa N (bfS a b))->zwa w0 v2 (zxa N (befX a b))->Calls Tryz.prog 176 #[v1,v2] w0 (RF1 w0 (befQ a b))):=zH (λ w0 v1 v2 h1 h2=>by
     rw[befQ_sg,HBN.o];exact rdot_sca N 1 _ _ (by have h:=HP.o.sca;rwa[HBN.o]at h) v1 v2 w0 h1 h2)
    have HTB:=zH (HC3.o.bS HBR.o);have HWB:=zH (zaa HBW.o HBR.o);obtain⟨r1,r2,r3,rfl,_⟩:=id hsv.r9.sl;obtain⟨s1,s2,s3,rfl,_⟩:=id hsv.r10.sl;have slR:=hsv.rows.ra.sl;clear hsv HSV HBR
    go_wp2_with (first
     |(go_at_call 182;(with_reducible refine(rsolve_x _ _ N (bfA a b) (bfR a b) (befX a b) _ HMT.o HRV.o HSYS.o zO HSU.o).mono ?_);rintro e9 w9 ⟨v9,rfl,hv9,hb9⟩;obtain⟨q1,q2,q3,rfl,_⟩:=id hv9.sl;have HX9:=zH hv9;have HS9:=zH (HST.o.bw hb9);have HT9:=zH (HTB.o.bS hb9);have HB9:=zH (zaa HWB.o hb9);clear hv9 hb9)
     |(go_at_call 176;(with_reducible refine(HSC.o _ _ _ HS9.o HX9.o).mono ?_);rintro e8 w8 ⟨v8,rfl,hv8,hb8⟩;obtain⟨t9,a91,l91,k91,a92,l92,k92,rfl⟩:=hv8.iF;have HT8:=zH (HT9.o.bS hb8);have HB8:=zH (zaa HB9.o hb8);have HV8:=zH hv8;obtain⟨-,d0,d1,d2,f0,f1,f2⟩:=HT8.o;clear hv8 hb8))
    refine zla rfl rfl Tryz.aggF Tryz.sizeF (HT8.o.set _ _ _) rfl ?_;exact⟨_,rfl,HV8.o.set3 HT8.o zZ zZ _ _ _,zga HB8.o (zLT (zLS _) (zLS _)) _ _ _⟩
end Go.Proofs.YtlpdkbmmbdfoiaaGreat
