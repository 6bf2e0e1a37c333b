/- Lemmas. -/
import Derived.Test.YtlpdkbmmbdfoiaaGreatPOne1
set_option linter.unusedVariables false
set_option linter.unusedSimpArgs false
namespace Go.Proofs.YtlpdkbmmbdfoiaaGreat
open Go.RowKit
structure zmn (w:World) (B S:Nat) (vt:Value) (rs:List Value) (n m:Nat) (A:Mx):Prop where
 own:zkc w 25 B 1 vt rs.length rs
 rl:rs.length=n
 np:0<n
 mp:0<m
 row:∀ (i:Nat) (h:i<rs.length),zua w 38 B rs[i] (zxa m (A i))
 ap:∀ (i j:Nat) (hi:i<rs.length) (hj:j<rs.length),i≠j->rs[i].ownBlock≠rs[j].ownBlock
 bt:(base vt).block<S
 br:∀ (i:Nat) (h:i<rs.length),(base rs[i]).block<S
 sz:S<=w.heap.size
section
variable {w w':World} {B S n m:Nat} {vt:Value} {rs:List Value} {A:Mx}
theorem zmn.bw (h:zmn w B S vt rs n m A) (hb:Below w.heap.size w w'):zmn w' B S vt rs n m A:=
 ⟨h.own.moves (zkb.bw (B:=B) hb) (zLR _),h.rl,h.np,h.mp,λ i hi=>(h.row i hi).moves (zkb.bw (B:=B) hb) (zLR _),h.ap,h.bt,h.br,zLT h.sz hb.size⟩
theorem zmn.congr {A':Mx} (h:zmn w B S vt rs n m A) (hA:∀i j,i<n->j<m->A i j=A' i j):zmn w B S vt rs n m A':=
 ⟨h.own,h.rl,h.np,h.mp,λ i hi=>by rw[<-zlb (λ j hj=>hA i j (by rw[<-h.rl];exact hi) hj)];exact h.row i hi,h.ap,h.bt,h.br,h.sz⟩
theorem zmn.elem (h:zmn w B S vt rs n m A) {i j:Nat} (hi:i<rs.length) (hj:j<m):
 ∃a b,w.cell? (ptr rs[i] (j*3))=some (.bool (decide (A i j<0)))/\w.cell? (ptr rs[i] (j*3+1))=some a/\w.cell? (ptr rs[i] (j*3+2))=some b/\zub w a (A i j).num.natAbs/\zub w b (A i j).den:=by
 obtain⟨a,b,h1,h2,h3,h4,h5⟩:=(h.row i hi).fracs.at' j (by rw[zda];exact hj);rw[zqb]at h1 h4 h5;exact⟨a,b,h1,h2,h3,h4,h5⟩
theorem zmn.c3 (h:zmn w B S vt rs n m A) {b:Nat} {s t:Bool} {u y u' y':Value} (hC:C3 w b (.bool s) u y) (hb:S<=b) (hx:∀z,u≠ .int .u32 z) (hy:∀z,y≠ .int .u32 z) (hx':∀z,u'≠ .int .u32 z):
 zmn (((w.setCell ⟨b,0,none⟩ (.bool t)).setCell ⟨b,1,none⟩ u').setCell ⟨b,2,none⟩ y') B S vt rs n m A:=by
 have ht:=h.bt
 exact⟨((h.own.other (p:=⟨b,0,none⟩) (show b≠_ by omega) _).other (p:=⟨b,1,none⟩) (show b≠_ by omega) _).other (p:=⟨b,2,none⟩) (show b≠_ by omega) _,h.rl,h.np,h.mp,
  λ i hi=>(h.row i hi).c3 hC (by have:=h.br i hi;omega) hx hy hx',h.ap,h.bt,h.br,by simpa [World.setCell]using h.sz⟩
theorem zmn.bsz (h:zmn w B S vt rs n m A):B<=w.heap.size:=by
 obtain⟨g,_,_,hB,hg,_⟩:=h.own.blk (by rw[h.rl];exact h.np);omega
theorem zmn.put (h:zmn w B S vt rs n m A) {i j:Nat} (hi:i<rs.length) (hj:j<m) {x y z:Value} {r:Rat} (hf:zia w (.agg #[x,y,z]) r):
 zmn (((w.setCell (ptr rs[i] (j*3)) x).setCell (ptr rs[i] (j*3+1)) y).setCell (ptr rs[i] (j*3+2)) z) B S vt rs n m (upd A i j r)/\
  w.grownBy (((w.setCell (ptr rs[i] (j*3)) x).setCell (ptr rs[i] (j*3+1)) y).setCell (ptr rs[i] (j*3+2)) z) rs[i].ownBlock/\Below B w (((w.setCell (ptr rs[i] (j*3)) x).setCell (ptr rs[i] (j*3+1)) y).setCell (ptr rs[i] (j*3+2)) z):=by
 have hbs:=h.bsz;obtain⟨own,rl,np,mp,row,ap,bt,br,sz⟩:=h;have hr:=row i hi;obtain⟨hp,gg⟩:=hr.put (i:=j) (by rw[zda];exact hj) hf;have hnl:=hr.noLimb;obtain⟨ys,y1,y2⟩:=id hr;refine⟨⟨own.grown gg (own.kinds y1 zD),rl,np,mp,λ k hk=> ?_,ap,bt,br,by simpa [World.setCell]using sz⟩,gg,zja gg hbs (λ k hk=>(hr.block k hk).1)⟩;by_cases hki:k=i
 ·subst hki;rw[rowL_set]at hp
  have e:zxa m (upd A k j r k)=zxa m (λ b=>if b=j then r else A k b):=zlb λ b _=>by
   unfold upd;by_cases hb:b=j
   ·rw[zIP ⟨rfl,hb⟩,zIP hb]
   ·rw[zIN (λ h=>hb h.2),zIN hb]
  rw[e];exact hp
 ·have e:zxa m (upd A i j r k)=zxa m (A k):=zlb λ b _=>by unfold upd;rw[zIN (λ h=>hki h.1)]
  rw[e];exact(row k hk).grown gg hnl (Or.inr (ap k i hk hi hki))
theorem zmn.swap (h:zmn w B S vt rs n m A) {i j:Nat} (hi:i<rs.length) (hj:j<rs.length) (hij:i≠j):
 zmn ((w.setCell (ptr vt i) rs[j]).setCell (ptr vt j) rs[i]) B S vt ((rs.set i rs[j]).set j rs[i]) n m (swp A i j)/\
  w.grownBy ((w.setCell (ptr vt i) rs[j]).setCell (ptr vt j) rs[i]) vt.ownBlock/\zrb w vt/\Below B w ((w.setCell (ptr vt i) rs[j]).setCell (ptr vt j) rs[i]):=by
 have hbs:=h.bsz;obtain⟨own,rl,np,mp,row,ap,bt,br,sz⟩:=h
 have hn:∀k (hk:k<rs.length) z,rs[k]≠ .int .u32 z:=λ k hk z=>by
  obtain⟨a1,a2,a3,e1,_⟩:=(row k hk).sl;rw[e1];simp
 obtain⟨s1,g1⟩:=own.set1 i hi rs[j] (hn j hj);obtain⟨s2,g2⟩:=s1.set1 j (by rw[zGS];exact hj) rs[i] (hn i hi);have gg:=zte g1 g2
 have ge:∀k (hk:k<((rs.set i rs[j]).set j rs[i]).length),∃k',∃hk':k'<rs.length,((rs.set i rs[j]).set j rs[i])[k]=rs[k']/\swp A i j k=A k'/\(k'=if k=j then i else if k=i then j else k):=λ k hk=>by
  have hk0:k<rs.length:=by simpa using hk
  unfold swp;by_cases e1:k=j
  ·subst e1;exact⟨i,hi,by rw[zSF],by rw[zIN (λ e=>hij e.symm),zIP rfl],by rw[zIP rfl]⟩
  ·by_cases e2:k=i
   ·subst e2;exact⟨j,hj,by rw[zTN (λ e=>e1 e.symm),zSF],by rw[zIP rfl],by rw[zIN e1,zIP rfl]⟩
   ·exact⟨k,hk0,by rw[zTN (λ e=>e1 e.symm),zTN (λ e=>e2 e.symm)],by rw[zIN e2,zIN e1],by rw[zIN e1,zIN e2]⟩
 refine⟨⟨?_,by simp[rl],np,mp,λ k hk=> ?_,λ k l hk hl hkl=> ?_,bt,λ k hk=> ?_,by simpa [World.setCell]using sz⟩,gg,own.nl,zja gg hbs (λ k hk=>(own.block k hk).1)⟩
 ·rw[zGS,zGS];exact s2
 ·obtain⟨k',hk',e1,e2,_⟩:=ge k hk;obtain⟨ys,y1,y2⟩:=id (row k' hk');rw[e1,e2];exact(row k' hk').grown gg own.nl (y1.kinds own zD)
 ·obtain⟨k',hk',e1,_,f1⟩:=ge k hk;obtain⟨l',hl',e2,_,f2⟩:=ge l hl;rw[e1,e2];refine ap k' l' hk' hl' ?_;rw[f1,f2];split<;>split<;>(try split)<;>(try split)<;>omega
 ·obtain⟨k',hk',e1,_,_⟩:=ge k hk;rw[e1];exact br k' hk'
end
structure zxm (w:World) (B S b7:Nat) (vt:Value) (rs:List Value) (n m:Nat) (A:Mx) (t':Bool) (a1 a2:Option Addr) (l1 k1 l2 k2:Nat) (q:Rat) (wr:World):Prop where
 c7:C3 wr b7 (.bool t') (.slice a1 l1 k1) (.slice a2 l2 k2)
 f7:zia wr (.agg #[.bool t', .slice a1 l1 k1, .slice a2 l2 k2]) q
 c5:C3 wr S (.bool false) (.slice none 0 0) (.slice none 0 0)
 t:zmn wr B S vt rs n m A
 b:Below B w wr
 lt:S<b7
 bs:B<=S
section
variable {w w' wr:World} {B S b7 n m:Nat} {vt:Value} {rs:List Value} {A:Mx} {t':Bool} {a1 a2:Option Addr} {l1 k1 l2 k2:Nat} {q:Rat}
theorem zxm.sz (h:zxm w B S b7 vt rs n m A t' a1 a2 l1 k1 l2 k2 q wr):B<=wr.heap.size:=by
 have:=h.bs;have:=h.t.sz;omega
theorem zxm.congr {A':Mx} (h:zxm w B S b7 vt rs n m A t' a1 a2 l1 k1 l2 k2 q wr) (hA:∀i j,i<n->j<m->A i j=A' i j):zxm w B S b7 vt rs n m A' t' a1 a2 l1 k1 l2 k2 q wr:=
 ⟨h.c7,h.f7,h.c5,h.t.congr hA,h.b,h.lt,h.bs⟩
theorem zxm.bw (h:zxm w B S b7 vt rs n m A t' a1 a2 l1 k1 l2 k2 q wr) (hb:Below wr.heap.size wr w'):zxm w B S b7 vt rs n m A t' a1 a2 l1 k1 l2 k2 q w':=
 ⟨h.c7.bS hb,h.f7.bw hb,h.c5.bS hb,h.t.bw hb,zea h.b hb h.sz,h.lt,h.bs⟩
theorem zxm.set7 (h:zxm w B S b7 vt rs n m A t' a1 a2 l1 k1 l2 k2 q wr) {s:Bool} {c1 c2:Option Addr} {m1 j1 m2 j2:Nat} {p:Rat} (hf:zia wr (.agg #[.bool s, .slice c1 m1 j1, .slice c2 m2 j2]) p):
 zxm w B S b7 vt rs n m A s c1 c2 m1 j1 m2 j2 p (((wr.setCell ⟨b7,0,none⟩ (.bool s)).setCell ⟨b7,1,none⟩ (.slice c1 m1 j1)).setCell ⟨b7,2,none⟩ (.slice c2 m2 j2)):=by
 have hl:=h.lt;have hs:=h.bs;exact⟨h.c7.set _ _ _,hf.set3 h.c7 zZ zZ _ _ _,h.c5.c3 zO _ _ _,h.t.c3 h.c7 zO zZ zZ zZ,zga h.b zO _ _ _,h.lt,h.bs⟩
theorem zxm.put (h:zxm w B S b7 vt rs n m A t' a1 a2 l1 k1 l2 k2 q wr) {i k:Nat} (hi:i<rs.length) (hk:k<m) {a b c:Value} {p:Rat} (hf:zia wr (.agg #[a,b,c]) p):
 zxm w B S b7 vt rs n m (upd A i k p) t' a1 a2 l1 k1 l2 k2 q (((wr.setCell (ptr rs[i] (k*3)) a).setCell (ptr rs[i] (k*3+1)) b).setCell (ptr rs[i] (k*3+2)) c)/\
  ∀ {b':Nat} {v0 v1 v2:Value} {u:Rat},S<b'->C3 wr b' v0 v1 v2->zia wr (.agg #[v0,v1,v2]) u->C3 (((wr.setCell (ptr rs[i] (k*3)) a).setCell (ptr rs[i] (k*3+1)) b).setCell (ptr rs[i] (k*3+2)) c) b' v0 v1 v2/\zia (((wr.setCell (ptr rs[i] (k*3)) a).setCell (ptr rs[i] (k*3+1)) b).setCell (ptr rs[i] (k*3+2)) c) (.agg #[v0,v1,v2]) u:=by
 obtain⟨p1,p2,p3⟩:=h.t.put hi hk hf;have hr:=h.t.br i hi;have hl:=h.lt;have hnl:=(h.t.row i hi).noLimb;obtain⟨g,hg1,hg2,_⟩:=(h.t.row i hi).blk (by rw[zda];exact h.t.mp)
 have hne:∀b',S<=b'->rs[i].ownBlock≠some b':=λ b' hb' e=>by
  rw[hg1]at e;injection e with e;omega
 exact⟨⟨h.c7.grownB p2 (hne _ zO),h.f7.grown p2 hnl,h.c5.grownB p2 (hne _ (zLR _)),p1,h.b.trans p3,h.lt,h.bs⟩,λ hb' hc' hf'=>⟨hc'.grownB p2 (hne _ zO),hf'.grown p2 hnl⟩⟩
theorem zxm.swap (h:zxm w B S b7 vt rs n m A t' a1 a2 l1 k1 l2 k2 q wr) {i j:Nat} (hi:i<rs.length) (hj:j<rs.length) (hij:i≠j):
 zxm w B S b7 vt ((rs.set i rs[j]).set j rs[i]) n m (swp A i j) t' a1 a2 l1 k1 l2 k2 q ((wr.setCell (ptr vt i) rs[j]).setCell (ptr vt j) rs[i]):=by
 obtain⟨p1,p2,hnl,p3⟩:=h.t.swap hi hj hij;have hr:=h.t.bt;have hl:=h.lt;obtain⟨g,hg1,hg2,_⟩:=h.t.own.blk (by rw[h.t.rl];exact h.t.np)
 have hne:∀b',S<=b'->vt.ownBlock≠some b':=λ b' hb' e=>by
  rw[hg1]at e;injection e with e;omega
 exact⟨h.c7.grownB p2 (hne _ zO),h.f7.grown p2 hnl,h.c5.grownB p2 (hne _ (zLR _)),p1,h.b.trans p3,h.lt,h.bs⟩
end
set_option maxHeartbeats 1600000 in
theorem r2quo_can (va vb:Value) (p q:Rat) (w:World) (ha:zia w va p) (hb:zia w vb q) (hp:fits p) (hq:fits q) (hq0:q≠0) (hf:fits (p/q)):Calls Tryz.prog 40 #[va,vb] w (RF0 w (p/q)):=by
 obtain⟨a1,a2,rfl,n1,n2⟩:=id ha;obtain⟨b1,b2,rfl,m1,m2⟩:=id hb;obtain⟨x1,y1,z1,rfl,_⟩:=id n1.v.sl;obtain⟨x2,y2,z2,rfl,_⟩:=id n2.v.sl;obtain⟨x3,y3,z3,rfl,_⟩:=id m1.v.sl;obtain⟨x4,y4,z4,rfl,_⟩:=id m2.v.sl;have k1:=zca w (.cells #[.bool (decide (p<0)), .slice x1 y1 z1, .slice x2 y2 z2] 38);have k2:=zca (w.alloc (.cells #[.bool (decide (p<0)), .slice x1 y1 z1, .slice x2 y2 z2] 38)) (.cells #[.bool (decide (q<0)), .slice x3 y3 z3, .slice x4 y4 z4] 38);have k3:=zca ((w.alloc (.cells #[.bool (decide (p<0)), .slice x1 y1 z1, .slice x2 y2 z2] 38)).alloc (.cells #[.bool (decide (q<0)), .slice x3 y3 z3, .slice x4 y4 z4] 38)) (.cells #[.bool false, .slice none 0 0, .slice none 0 0] 38);have H3:=zpb w 38 (.bool (decide (p<0))) (.slice x1 y1 z1) (.slice x2 y2 z2) (.bool (decide (q<0))) (.slice x3 y3 z3) (.slice x4 y4 z4) (.bool false) (.slice none 0 0) (.slice none 0 0) _ rfl;obtain⟨hA,hB,hR,hbw⟩:=H3;have HA:=zH hA;have HB:=zH hB;have HR:=zH hR;have HAP:=zH (ha.bw hbw);have HBQ:=zH (hb.bw hbw);have HP:=zH hp;have HQ:=zH hq;have HPQ:=zH hf;have hqn:q.num.natAbs≠0:=λ e=>hq0 (Rat.num_eq_zero.1 zO)
 have hlq:∃L,zha q.num.natAbs=L/\0<L:=⟨_,rfl,zPZ λ e=>hqn (zva.1 e)⟩;obtain⟨L,hL,hL0⟩:=hlq;have HLL:=zH hL
 have HFQ:zI (p/q=fq (!(decide (p<0)==decide (q<0))) (p.num.natAbs*q.den) (p.den*q.num.natAbs)):=zH (by
  have h:=fq_quo (decide (p<0)) (decide (q<0)) (n:=p.num.natAbs) (d:=p.den) hqn q.den_nz;rw[zmb,zmb]at h;exact h)
 have HL:=zH (zAI (zfc (zvb hp)) (zfc (zvb hq)));obtain⟨_,c0,c1,c2,_,_,_⟩:=id hA;obtain⟨_,d0,d1,d2,_,_,_⟩:=id hB;have HQNUM:=zH m1.nat;have HDZ0:zI (p.den*q.num.natAbs≠0):=zH (zMZ p.den_nz hqn);clear hA hB hR ha hb n1 n2 m1 m2 hp hq hf k1 k2 k3 hq0 hqn hL;go_enter Tryz.func40,Tryz.ntmps40
 go_upto_region 5 with(first
  |(go_at_call 49;(with_reducible refine(zvf _ p _ HAP.o HP.o).mono ?_);rintro e1 w1 ⟨rfl,hb1⟩;obtain⟨_,c0,c1,c2,_,_,_⟩:=HA.o.bS hb1;obtain⟨_,d0,d1,d2,_,_,_⟩:=HB.o.bS hb1)
  |(go_at_call 49;(with_reducible refine(zvf _ q _ (HBQ.o.bw hb1) HQ.o).mono ?_);rintro e2 w2' ⟨rfl,hb2'⟩;obtain⟨_,d0,d1,d2,_,_,_⟩:=HB.o.bS (zaa hb1 hb2'))
  |(go_at_call 106;(with_reducible refine(zta _ q.num.natAbs _ ((HQNUM.o.bw hbw).bw (zaa hb1 hb2'))).mono ?_);rintro e2 w2 ⟨r2,rfl,hr2,hb2''⟩;have s2:=hr2.v.sl;have l2:slen r2=L:=hr2.v.len.trans HLL.o;have hb2:=zaa hb2' hb2''))
 have b12:=zaa hb1 hb2;have hD:=zfa (B:=w2.heap.size) w2;have b1D:=zaa b12 hD;obtain⟨_,q1,q2,q3,_,_,_⟩:=HA.o.bS b1D;obtain⟨_,r1,r2,r3,_,_,_⟩:=HB.o.bS b1D;have HRD:=zH (HR.o.bS b1D);have HAD:=zH (HAP.o.bw b1D);have HBD:=zH (HBQ.o.bw b1D);have hbwD:=zaa hbw b1D;obtain⟨u1,u2,hu,nA,nB⟩:=HAD.o;injection hu with hu
 injection hu with hu
 simp only[List.cons.injEq,and_true,true_and]at hu;obtain⟨rfl,rfl⟩:=hu;obtain⟨u1,u2,hu,mA,mB⟩:=HBD.o;injection hu with hu
 injection hu with hu
 simp only[List.cons.injEq,and_true,true_and]at hu;obtain⟨rfl,rfl⟩:=hu;have kA:w.heap.size+1+1≠w.heap.size:=zO;have kB:w.heap.size+1+1≠w.heap.size+1:=zO;have HNN:=zH (zAI nA (zAI nB (zAI mA mB)));have HDZ:=HDZ0;have HN5:zI (zha (p.num.natAbs*q.den)<=512):=zH (zLT (zuc HL.o.1.1 HL.o.2.2) zD);have HD5:zI (zha (p.den*q.num.natAbs)<=512):=zH (zLT (zuc HL.o.1.2 HL.o.2.1) zD);clear nA nB mA mB c0 c1 c2 d0 d1 d2
 go_region_held3 (λ w'=>w'.cell? ⟨w.heap.size,0,none⟩=some (.bool (decide (p<0)))/\w'.cell? ⟨w.heap.size,1,none⟩=some (.slice x1 y1 z1)/\w'.cell? ⟨w.heap.size,2,none⟩=some (.slice x2 y2 z2)/\w'.cell? ⟨w.heap.size+1,0,none⟩=some (.bool (decide (q<0)))/\w'.cell? ⟨w.heap.size+1,1,none⟩=some (.slice x3 y3 z3)/\w'.cell? ⟨w.heap.size+1,2,none⟩=some (.slice x4 y4 z4)) (first
  | with_reducible exact⟨q1,q2,q3,r1,r2,r3⟩
  | with_reducible exact keep6b (by assumption) (by assumption)
  | with_reducible exact zwm (zwm (zwm (by assumption) kA kA kA kB kB kB _) kA kA kA kB kB kB _) kA kA kA kB kB kB _) (first
  |(go_at_call 74;(with_reducible refine(zmc _ _ p.num.natAbs q.den _ HNN.o.1.nat HNN.o.2.2.2.nat HL.o.1.1 HL.o.2.2).mono ?_);rintro e3 w3 ⟨v3,rfl,hv3,hb3⟩)
  |(go_at_call 74;(with_reducible refine(zmc _ _ p.den q.num.natAbs _ (HNN.o.2.1.bw hb3).nat (HNN.o.2.2.1.bw hb3).nat HL.o.1.2 HL.o.2.1).mono ?_);rintro e4 w4 ⟨v4,rfl,hv4,hb4⟩)
  |(go_at_call 71;(with_reducible refine(zbd _ _ _ (p.num.natAbs*q.den) (p.den*q.num.natAbs) _ (hv3.bw hb4).nat hv4.nat HDZ.o HN5.o HD5.o).mono ?_);rintro e5 w5 ⟨v5,rfl,hv5,hb5⟩)
  |(go_at_call 76;(with_reducible refine(zxi _ (p/q) _ (by(rw[HFQ.o];exact hv5)) HPQ.o).mono ?_);rintro e6 w6 ⟨v6,rfl,hv6,hb6⟩;obtain⟨t9,a91,l91,k91,a92,l92,k92,rfl⟩:=hv6.iF;have HR6:=zH ((((HRD.o.bS hb3).bS hb4).bS hb5).bS hb6);obtain⟨_,g0,g1,g2,g3,g4,g5⟩:=HR6.o))
 have hbE:=zaa (zaa (zaa (zaa hbwD hb3) hb4) hb5) hb6;go_wp2_with fail;refine zla rfl rfl Tryz.aggF Tryz.sizeF (HR6.o.set _ _ _) rfl ?_;exact⟨_,rfl,hv6.set3 HR6.o zZ zZ _ _ _,zga hbE (zLT (zLS _) (zLS _)) _ _ _⟩
def rowF (n:Nat) (x:Nat->RF):List RF:=(List.range n).map x
theorem zmh (n:Nat) (x:Nat->RF):(rowF n x).length=n:=by simp[rowF]
theorem rowF_get (n:Nat) (x:Nat->RF) (j:Nat) (h:j<(rowF n x).length):(rowF n x)[j]=x j:=by simp[rowF]
section
variable {w:World} {e:TypeId} {B n:Nat} {v:Value}
end
def cols (a:List (List RF)):Nat:=(a.headD []).length
def mulP (a b:List (List RF)):Prop:=zde a/\zde b/\cols a=b.length
instance (a b:List (List RF)):Decidable (mulP a b):=inferInstanceAs (Decidable (_/\_/\_))
def appP (a:List (List RF)) (v:List RF):Prop:=zde a/\vecP v (cols a)
instance (a :List (List RF)) (v:List RF):Decidable (appP a v):=inferInstanceAs (Decidable (_/\_))
set_option maxHeartbeats 1600000 in
theorem r2mul_raw (va vb:Value) (s t:Bool) (n d m e:Nat) (w:World) (ha:zzb w va s n d) (hb:zzb w vb t m e) (hp:okN n d) (hq:okN m e) (hf:fits (fq s n d*fq t m e)):Calls Tryz.prog 38 #[va,vb] w (RF0 w (fq s n d*fq t m e)):=by
 obtain⟨a1,a2,rfl,n1,n2⟩:=id ha;obtain⟨b1,b2,rfl,m1,m2⟩:=id hb;obtain⟨x1,y1,z1,rfl,_⟩:=id n1.slen.1;obtain⟨x2,y2,z2,rfl,_⟩:=id n2.slen.1;obtain⟨x3,y3,z3,rfl,_⟩:=id m1.slen.1;obtain⟨x4,y4,z4,rfl,_⟩:=id m2.slen.1;have k1:=zca w (.cells #[.bool s, .slice x1 y1 z1, .slice x2 y2 z2] 38);have k2:=zca (w.alloc (.cells #[.bool s, .slice x1 y1 z1, .slice x2 y2 z2] 38)) (.cells #[.bool t, .slice x3 y3 z3, .slice x4 y4 z4] 38);have k3:=zca ((w.alloc (.cells #[.bool s, .slice x1 y1 z1, .slice x2 y2 z2] 38)).alloc (.cells #[.bool t, .slice x3 y3 z3, .slice x4 y4 z4] 38)) (.cells #[.bool false, .slice none 0 0, .slice none 0 0] 38);have H3:=zpb w 38 (.bool s) (.slice x1 y1 z1) (.slice x2 y2 z2) (.bool t) (.slice x3 y3 z3) (.slice x4 y4 z4) (.bool false) (.slice none 0 0) (.slice none 0 0) _ rfl;obtain⟨hA,hB,hR,hbw⟩:=H3;have HA:=zH hA;have HB:=zH hB;have HR:=zH hR;have HAP:=zH (ha.bw hbw);have HBQ:=zH (hb.bw hbw);have HP:=zH hp;have HQ:=zH hq;have HPQ:=zH hf;have HFQ:zI (fq s n d*fq t m e=fq (!(s==t)) (n*m) (d*e)):=zH (by rw[fq_mul];rfl);have HL:=zH (zAI (zfc hp) (zfc hq));obtain⟨_,c0,c1,c2,_,_,_⟩:=id hA;obtain⟨_,d0,d1,d2,_,_,_⟩:=id hB;clear hA hB hR ha hb n1 n2 m1 m2 hp hq hf k1 k2 k3;go_enter Tryz.func38,Tryz.ntmps38
 go_upto_region 3 with(first
  |(go_at_call 49;(with_reducible refine(znf _ s n d _ HAP.o HP.o).mono ?_);rintro z1' w1 ⟨rfl,hb1⟩;obtain⟨_,c0,c1,c2,_,_,_⟩:=HA.o.bS hb1;obtain⟨_,d0,d1,d2,_,_,_⟩:=HB.o.bS hb1)
  |(go_at_call 49;(with_reducible refine(znf _ t m e _ (HBQ.o.bw hb1) HQ.o).mono ?_);rintro z2' w2 ⟨rfl,hb2⟩))
 have b12:=zaa hb1 hb2;have hD:=zfa (B:=w2.heap.size) w2;have b1D:=zaa b12 hD;obtain⟨_,q1,q2,q3,_,_,_⟩:=HA.o.bS b1D;obtain⟨_,r1,r2,r3,_,_,_⟩:=HB.o.bS b1D;have HRD:=zH (HR.o.bS b1D);have HAD:=zH (HAP.o.bw b1D);have HBD:=zH (HBQ.o.bw b1D);have hbwD:=zaa hbw b1D;obtain⟨u1,u2,hu,nA,nB⟩:=HAD.o;injection hu with hu
 injection hu with hu
 simp only[List.cons.injEq,and_true,true_and]at hu;obtain⟨rfl,rfl⟩:=hu;obtain⟨u1,u2,hu,mA,mB⟩:=HBD.o;injection hu with hu
 injection hu with hu
 simp only[List.cons.injEq,and_true,true_and]at hu;obtain⟨rfl,rfl⟩:=hu;have kA:w.heap.size+1+1≠w.heap.size:=zO;have kB:w.heap.size+1+1≠w.heap.size+1:=zO;have HNN:=zH (zAI nA (zAI nB (zAI mA mB)));have HDZ:zI (d*e≠0):=zH (zMZ HP.o.1 HQ.o.1);have HN5:zI (zha (n*m)<=512):=zH (zLT (zuc HL.o.1.1 HL.o.2.1) zD);have HD5:zI (zha (d*e)<=512):=zH (zLT (zuc HL.o.1.2 HL.o.2.2) zD);clear nA nB mA mB c0 c1 c2 d0 d1 d2
 go_region_held3 (λ w'=>w'.cell? ⟨w.heap.size,0,none⟩=some (.bool s)/\w'.cell? ⟨w.heap.size,1,none⟩=some (.slice x1 y1 z1)/\w'.cell? ⟨w.heap.size,2,none⟩=some (.slice x2 y2 z2)/\w'.cell? ⟨w.heap.size+1,0,none⟩=some (.bool t)/\w'.cell? ⟨w.heap.size+1,1,none⟩=some (.slice x3 y3 z3)/\w'.cell? ⟨w.heap.size+1,2,none⟩=some (.slice x4 y4 z4)) (first
  | with_reducible exact⟨q1,q2,q3,r1,r2,r3⟩
  | with_reducible exact keep6b (by assumption) (by assumption)
  | with_reducible exact zwm (zwm (zwm (by assumption) kA kA kA kB kB kB _) kA kA kA kB kB kB _) kA kA kA kB kB kB _) (first
  |(go_at_call 74;(with_reducible refine(zmc _ _ n m _ HNN.o.1 HNN.o.2.2.1 HL.o.1.1 HL.o.2.1).mono ?_);rintro z3' w3 ⟨v3,rfl,hv3,hb3⟩)
  |(go_at_call 74;(with_reducible refine(zmc _ _ d e _ (HNN.o.2.1.bw hb3) (HNN.o.2.2.2.bw hb3) HL.o.1.2 HL.o.2.2).mono ?_);rintro z4' w4 ⟨v4,rfl,hv4,hb4⟩)
  |(go_at_call 71;(with_reducible refine(zbd _ _ _ (n*m) (d*e) _ (hv3.bw hb4).nat hv4.nat HDZ.o HN5.o HD5.o).mono ?_);rintro z5' w5 ⟨v5,rfl,hv5,hb5⟩)
  |(go_at_call 76;(with_reducible refine(zxi _ (fq s n d*fq t m e) _ (by(rw[HFQ.o];exact hv5)) HPQ.o).mono ?_);rintro z6' w6 ⟨v6,rfl,hv6,hb6⟩;obtain⟨t9,a91,l91,k91,a92,l92,k92,rfl⟩:=hv6.iF;have HR6:=zH ((((HRD.o.bS hb3).bS hb4).bS hb5).bS hb6);obtain⟨_,g0,g1,g2,g3,g4,g5⟩:=HR6.o))
 have hbE:=zaa (zaa (zaa (zaa hbwD hb3) hb4) hb5) hb6;go_wp2_with fail;refine zla rfl rfl Tryz.aggF Tryz.sizeF (HR6.o.set _ _ _) rfl ?_;exact⟨_,rfl,hv6.set3 HR6.o zZ zZ _ _ _,zga hbE (zLT (zLS _) (zLS _)) _ _ _⟩
set_option maxHeartbeats 3200000
set_option maxRecDepth 100000 in
theorem zlj (va:Value) (l:List RF) (n:Nat) (w:World) (ha:zlg w va l):
 Calls Tryz.prog 212 #[va, .int .i64 n] w λ e w'=>e= .returned (.bool (decide (vecP l n)))/\Below w.heap.size w w':=by
 have sa:=ha.sl;have la:=ha.len;have hle:=sa.le;rw[la]at hle;have hlb:l.length<=9223372036854775807:=zO;clear hle;by_cases hln:l.length=n
 ·subst hln;go_enter Tryz.func212,Tryz.ntmps212;go_wp2_with fail;go_loopw [5] (λ u5 wr=>∃ (k:Nat),k<=l.length/\u5= .int .i64 k/\(∀x∈l.take k,x.ok)/\Below w.heap.size w wr) (λ u5 _=>l.length- (intOf u5).toNat);case atStart=>exact⟨0,zZL _,rfl,λ x h=>by simp at h,zBR _ _⟩
  case round=>
   obtain⟨k,hk,rfl,hok,hb⟩:=hrel;have HOK:=zH hok;clear hok;by_cases hkl:k<l.length
   ·obtain⟨xa,xb,c1,c2,c3,hxa,hxb⟩:=(ha.bw hb).at' k hkl;obtain⟨c1a,c1l,c1k,rfl,_⟩:=hxa.slen.1;obtain⟨c2a,c2l,c2k,rfl,_⟩:=hxb.slen.1;obtain⟨x,hx⟩:∃x,l[k]'hkl=x:=⟨_,rfl⟩;rw[hx]at c1 hxa hxb;have HMEM:zI (x∈l):=zH (by rw[<-hx];exact zGM hkl);have HTK:zI (l.take (k+1)=l.take k++ [x]):=zH (by rw[zxc l k hkl,hx]);have hA:zzb wr (.agg #[.bool x.neg, .slice c1a c1l c1k, .slice c2a c2l c2k]) x.neg x.n x.d:=⟨_,_,rfl,hxa,hxb⟩;clear hxa hxb hx;by_cases hko:x.ok
    ·have HX:zI (okN x.n x.d):=zH hko;clear hko;go_wp2_with (go_at_call 49;(with_reducible refine(znf _ x.neg x.n x.d _ hA HX.o).mono ?_);rintro e w7 ⟨rfl,hb7⟩);go_roundw
     case rel=>exact⟨k+1,hkl,by go_num,λ y hy=>by
      rw[HTK.o]at hy;rcases List.mem_append.1 hy with h | h
      ·exact HOK.o y h
      ·(have :y=x:=by simpa using h);rw[this];exact HX.o,zaa hb hb7⟩
     case measure=>simp[intOf];omega
    ·have HX:zI (¬okN x.n x.d):=zH hko;have HBAD:zI (¬vecP l l.length):=zH (λ h=>hko (h.1 x HMEM.o));clear hko;go_wp2_with (go_at_call 49;(with_reducible refine(zyp _ x.neg x.n x.d _ hA HX.o).mono ?_);rintro e w7 ⟨rfl,hb7⟩);go_ret;exact⟨by rw[zDF HBAD.o];rfl,zaa hb hb7⟩
   ·obtain rfl:k=l.length:=zO
    have HD:zI (vecP l l.length):=zH (by
     have h:=HOK.o;rw[List.take_length]at h;exact⟨h,rfl⟩)
    go_wp2_with fail;go_ret;exact⟨by rw[zDT HD.o];rfl,hb⟩
 ·have HBAD:zI (¬vecP l n):=zH (λ h=>hln h.2);have hne:((l.length:Int) != (n:Int))=true:=by simp;omega
  clear hln;go_enter Tryz.func212,Tryz.ntmps212;go_wp2_with fail;go_ret;exact⟨by rw[zDF HBAD.o];rfl,zBR _ _⟩
set_option maxRecDepth 100000 in
theorem rweights_any (va:Value) (m:List (List RF)) (w:World) (ha:MatN w va m) (hs:zde m):
 Calls Tryz.prog 174 #[va] w λ e w'=>e= .returned (.int .i64 (zqp m:Nat))/\Below w.heap.size w w':=by
 have sa:=ha.sl;have la:=ha.len;have hml:m.length<=24:=hs.2.1;have HOK:zI (∀l∈m,∀x∈l,x.ok):=zH λ l hl=>(hs.2.2.2.2 l hl).1
 have HL:zI (∀l∈m,l.length<=65536):=zH λ l hl=>by rw[(hs.2.2.2.2 l hl).2];have:=hs.2.2.2.1;omega
 clear hs;go_enter Tryz.func174,Tryz.ntmps174;go_wp2_with fail;go_loopw [3,4] (λ u3 u4 wr=>∃ (k:Nat),k<=m.length/\u4= .int .i64 k/\u3= .int .i64 (zqp (m.take k):Nat)/\Below w.heap.size w wr) (λ _ u4 _=>m.length- (intOf u4).toNat);case atStart=>exact⟨0,zZL _,rfl,rfl,zBR _ _⟩
 case round=>
  obtain⟨k,hk,rfl,rfl,hb⟩:=hrel;by_cases hkm:k<m.length
  ·obtain⟨rv,hrc,hrv⟩:=(ha.bw hb).at' k hkm
   have hW:zqp (m.take k)<=536870912*24:=by
    have h1:=wtsM_le (m.take k) (λ l h=>HOK.o l (List.mem_of_mem_take h)) (λ l h=>HL.o l (List.mem_of_mem_take h));rw[zTK]at h1;omega
   have hlk:=HL.o m[k] (zGM hkm);have HOKL:=zH (HOK.o m[k] (zGM hkm));have hwl:=wts_le m[k] HOKL.o;have HTM:=zH (wtsM_take m k hkm);generalize m[k]'hkm=l at *
   generalize zqp (m.take k)=W0 at *
   obtain⟨W1,hW1⟩:∃W1,wts (qs l)=W1:=⟨_,rfl⟩;rw[hW1]at hwl;have HW1:=zH hW1;have hwl2:W1<=8192*65536:=zLT hwl (zML _ hlk);have srv:=hrv.sl;clear hW1 hwl;go_wp2_with (go_at_call 175;(with_reducible refine(zwn _ l _ hrv HOKL.o hlk).mono ?_);rw[HW1.o];rintro e w7 ⟨rfl,hb7⟩);go_roundw;(case rel=>exact⟨k+1,hkm,by go_num,by rw[HTM.o,HW1.o];go_num,zaa hb hb7⟩);case measure=>simp[intOf];omega
  ·obtain rfl:k=m.length:=zO;rw[List.take_length];go_wp2_with fail;go_ret;exact⟨rfl,hb⟩
set_option maxRecDepth 100000 in
theorem r5mul_raw (va vb:Value) (x y:RF) (w:World) (ha:zzb w va x.neg x.n x.d) (hb:zzb w vb y.neg y.n y.d) (hx:x.ok) (hy:y.ok) (hf:fits (x.q*y.q)):Calls Tryz.prog 209 #[va,vb] w (RF1 w (x.q*y.q)):=by
 obtain⟨a1,a2,rfl,n1,n2⟩:=id ha;obtain⟨b1,b2,rfl,m1,m2⟩:=id hb;obtain⟨x1,y1,z1,rfl,_⟩:=id n1.slen.1;obtain⟨x2,y2,z2,rfl,_⟩:=id n2.slen.1;obtain⟨x3,y3,z3,rfl,_⟩:=id m1.slen.1;obtain⟨x4,y4,z4,rfl,_⟩:=id m2.slen.1;obtain⟨s,hs⟩:∃s,x.neg=s:=⟨_,rfl⟩;obtain⟨t,ht⟩:∃t,y.neg=t:=⟨_,rfl⟩;have HX:zI (okN x.n x.d):=zH hx;have HY:zI (okN y.n y.d):=zH hy;have HQ:zI (x.q*y.q=fq s x.n x.d*fq t y.n y.d):=zH (by unfold RF.q;rw[hs,ht]);have HF:zI (fits (fq s x.n x.d*fq t y.n y.d)):=zH (by rw[<-HQ.o];exact hf);rw[hs]at ha |-
 rw[ht]at hb |-
 clear n1 n2 m1 m2 hx hy hf hs ht;have k1:=zca w (.cells #[.bool s, .slice x1 y1 z1, .slice x2 y2 z2] 38);have H3:=zpb w 38 (.bool s) (.slice x1 y1 z1) (.slice x2 y2 z2) (.bool t) (.slice x3 y3 z3) (.slice x4 y4 z4) (.bool false) (.slice none 0 0) (.slice none 0 0) _ rfl;obtain⟨hA,hB,hR,hbw⟩:=H3;have HR:=zH hR;have HAP:=zH (ha.bw hbw);have HBQ:=zH (hb.bw hbw);obtain⟨_,c0,c1,c2,_,_,_⟩:=id hA;obtain⟨_,d0,d1,d2,_,_,_⟩:=id hB;clear hA hB hR ha hb;go_enter Tryz.func209,Tryz.ntmps209;go_wp2_with (go_at_call 38;(with_reducible refine(r2mul_raw _ _ s t x.n x.d y.n y.d _ HAP.o HBQ.o HX.o HY.o HF.o).mono ?_);rintro e6 w6 ⟨v6,rfl,hv6,hb6⟩;obtain⟨t9,a91,l91,k91,a92,l92,k92,rfl⟩:=hv6.iF;have hv6:=hv6.bw (zca w6 (.cells #[.bool t9, .slice a91 l91 k91, .slice a92 l92 k92] 38));have HR6:=zH ((HR.o.bS hb6).bS (zca w6 (.cells #[.bool t9, .slice a91 l91 k91, .slice a92 l92 k92] 38)));obtain⟨_,g0,g1,g2,g3,g4,g5⟩:=HR6.o);rw[HQ.o];refine zab rfl rfl Tryz.aggF Tryz.sizeF (HR6.o.set _ _ _) rfl ?_;exact⟨_,rfl,hv6.set3 HR6.o zZ zZ _ _ _,zga (zaa (zaa hbw hb6) (zca _ _)) (zLT (zLS _) (zLS _)) _ _ _⟩
set_option maxRecDepth 100000 in
theorem r5add_can (va vb:Value) (p q:Rat) (w:World) (ha:zia w va p) (hb:zia w vb q) (hp:fits p) (hq:fits q) (hf:fits (p+q)):Calls Tryz.prog 208 #[va,vb] w (RF1 w (p+q)):=by
 obtain⟨a1,a2,rfl,n1,n2⟩:=id ha;obtain⟨b1,b2,rfl,m1,m2⟩:=id hb;obtain⟨x1,y1,z1,rfl,_⟩:=id n1.v.sl;obtain⟨x2,y2,z2,rfl,_⟩:=id n2.v.sl;obtain⟨x3,y3,z3,rfl,_⟩:=id m1.v.sl;obtain⟨x4,y4,z4,rfl,_⟩:=id m2.v.sl;obtain⟨s,hs⟩:∃s,decide (p<0)=s:=⟨_,rfl⟩;obtain⟨t,ht⟩:∃t,decide (q<0)=t:=⟨_,rfl⟩;have HX:=zH hp;have HY:=zH hq;have HF:=zH hf;rw[hs]at ha |-
 rw[ht]at hb |-
 clear n1 n2 m1 m2 hp hq hf hs ht;have k1:=zca w (.cells #[.bool s, .slice x1 y1 z1, .slice x2 y2 z2] 38);have H3:=zpb w 38 (.bool s) (.slice x1 y1 z1) (.slice x2 y2 z2) (.bool t) (.slice x3 y3 z3) (.slice x4 y4 z4) (.bool false) (.slice none 0 0) (.slice none 0 0) _ rfl;obtain⟨hA,hB,hR,hbw⟩:=H3;have HR:=zH hR;have HAP:=zH (ha.bw hbw);have HBQ:=zH (hb.bw hbw);obtain⟨_,c0,c1,c2,_,_,_⟩:=id hA;obtain⟨_,d0,d1,d2,_,_,_⟩:=id hB;clear hA hB hR ha hb;go_enter Tryz.func208,Tryz.ntmps208;go_wp2_with (go_at_call 19;(with_reducible refine(zgo _ _ p q _ HAP.o HBQ.o HX.o HY.o HF.o).mono ?_);rintro e6 w6 ⟨v6,rfl,hv6,hb6⟩;obtain⟨t9,a91,l91,k91,a92,l92,k92,rfl⟩:=hv6.iF;have hv6:=hv6.bw (zca w6 (.cells #[.bool t9, .slice a91 l91 k91, .slice a92 l92 k92] 38));have HR6:=zH ((HR.o.bS hb6).bS (zca w6 (.cells #[.bool t9, .slice a91 l91 k91, .slice a92 l92 k92] 38)));obtain⟨_,g0,g1,g2,g3,g4,g5⟩:=HR6.o);refine zab rfl rfl Tryz.aggF Tryz.sizeF (HR6.o.set _ _ _) rfl ?_;exact⟨_,rfl,hv6.set3 HR6.o zZ zZ _ _ _,zga (zaa (zaa hbw hb6) (zca _ _)) (zLT (zLS _) (zLS _)) _ _ _⟩
theorem r5mul_can (va vb:Value) (p q:Rat) (w:World) (ha:zia w va p) (hb:zia w vb q) (hp:fits p) (hq:fits q) (hf:fits (p*q)):Calls Tryz.prog 209 #[va,vb] w (RF1 w (p*q)):=by
 have h:=r5mul_raw va vb (RF.of p) (RF.of q) w ha.raw hb.raw (RF.of_ok hp) (RF.of_ok hq) (by rw[RF.of_q,RF.of_q];exact hf);rw[RF.of_q,RF.of_q]at h;exact h
theorem ztm {fn:Func} {p u:Tmp} {ty:TypeId} (h:fn.results=#[.tmp u, .cell p ty]) (tmps:Array Value) (P:Program) (w:World):
 (results fn tmps).run P w=((asAddr (tmps.getD p undef)).run P w).andThen λ a w1=>((loadVar ty a).run P w1).andThen λ v w2=> .ok (.tuple #[tmps.getD u undef,v]) w2:=by
 simp only[results,h];simp[Sem.run_bind,Result.andThen]
theorem bodyPost_1c {P:Program} {fn:Func} {R:Ending->World->Prop} {a:Act} {w:World} {p u:Tmp} {ty:TypeId} {b:Nat} {v0 v1 v2:Value} (h:fn.results=#[.tmp u, .cell p ty])
 (hp:a.tmps.getD p undef= .pointer (some ⟨b,0,none⟩)) (hagg:∀w,(isAgg ty).run P w= .ok true w) (hs:∀w,(sizeOf ty).run P w= .ok 3 w) (hc:C3 w b v0 v1 v2) (hd:a.defers= [])
 (hR:R (.returned (.tuple #[a.tmps.getD u undef, .agg #[v0,v1,v2]])) w):bodyPost P fn R .ret a w:=by
 refine bodyPost_ret ?_ hd hR;rw[ztm h,hp];simp only[asAddr,Sem.run_pure,Result.andThen_ok,load_c3 hagg hs hc]
section
variable {w w' wr:World} {B S b7 n:Nat} {vt r:Value} {y:Nat->Rat} {t':Bool} {a1 a2:Option Addr} {l1 k1 l2 k2:Nat} {q:Rat}
end
end Go.Proofs.YtlpdkbmmbdfoiaaGreat
