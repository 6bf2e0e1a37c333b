/- Lemmas. -/
import Derived.Test.YtlpdkbmmbdfoiaaGreatPOv
set_option linter.unusedVariables false
set_option linter.unusedSimpArgs false
namespace Go.Proofs.YtlpdkbmmbdfoiaaGreat
def fp (z:Nat->Bool):Nat->Nat->Nat
 | 0,r=>r
 | f+1,r=>if z r=true then r else fp z f (r+1)
theorem fp_ge (z:Nat->Bool) (f r:Nat):r<=fp z f r/\fp z f r<=r+f:=by
 induction f generalizing r with
 | zero=>exact⟨zLR _,zLR _⟩
 | succ f ih=>rw[fp];have:=ih (r+1);split<;>omega
theorem zyo (z:Nat->Bool) (f r:Nat):∀i,r<=i->i<fp z f r->z i=false:=by
 induction f generalizing r with
 | zero=>intro i h1 h2;rw[fp]at h2;omega
 | succ f ih=>
   intro i h1 h2;rw[fp]at h2;split at h2
   ·omega
   ·next h=>
    rcases Nat.eq_or_lt_of_le h1 with h3 | h3
    ·subst h3;simpa using h
    ·exact ih (r+1) i h3 h2
theorem fp_at (z:Nat->Bool) (f r:Nat) (h:fp z f r<r+f):z (fp z f r)=true:=by
 induction f generalizing r with
 | zero=>rw[fp]at h;omega
 | succ f ih=>
   (rw[fp]at h |-);split
   ·next h1=>exact h1
   ·next h1=>rw[zIN h1]at h;exact ih (r+1) zO
theorem fp_eq {z:Nat->Bool} {f r k:Nat} (h1:r<=k) (h2:k<=r+f) (h3:∀i,r<=i->i<k->z i=false) (h4:k<r+f->z k=true):fp z f r=k:=by
 have g1:=fp_ge z f r;rcases Nat.lt_trichotomy (fp z f r) k with h | h | h
 ·have:=fp_at z f r zO;rw[h3 _ g1.1 h]at this;cases this
 ·exact h
 ·have:=zyo z f r k h1 h;rw[h4 zO]at this;cases this
abbrev Mx :=Nat->Nat->Rat
def swp (A:Mx) (a b:Nat):Mx:=λ i=>if i=a then A b else if i=b then A a else A i
structure St where
 A:Mx
 r:Nat
 d:Rat
def act (below:Bool) (A:Mx) (r k i:Nat):Prop:=i≠r/\¬ (below=true/\i<r)/\A i k≠0
instance (below :Bool) (A:Mx) (r k i:Nat):Decidable (act below A r k i):=inferInstanceAs (Decidable (_/\_/\_))
def zhj (below:Bool) (A:Mx) (r k:Nat):Mx:=λ i j=>if act below A r k i/\k<=j then A i j-A i k/A r k*A r j else A i j
def pvt (n k:Nat) (S:St):Nat:=fp (λ i=>decide (S.A i k≠0)) (n-S.r) S.r
def zrg (below:Bool) (n k:Nat) (S:St):St:=
 if pvt n k S<n then⟨zhj below (swp S.A S.r (pvt n k S)) S.r k,S.r+1,(if pvt n k S=S.r then S.d else -S.d)*swp S.A S.r (pvt n k S) S.r k⟩else S
def elim (below:Bool) (n:Nat) (A:Mx):Nat->St
 | 0=>⟨A,0,1⟩
 | k+1=>zrg below n k (elim below n A k)
theorem zcg (below:Bool) (n:Nat) (A:Mx) (k:Nat):(elim below n A k).r<=n/\(elim below n A k).r<=k:=by
 induction k with
 | zero=>exact⟨zZL _,zLR _⟩
 | succ k ih=>
   rw[elim,zrg];have:=fp_ge (λ i=>decide ((elim below n A k).A i k≠0)) (n- (elim below n A k).r) (elim below n A k).r;split
   ·next h=>unfold pvt at h;show(elim below n A k).r+1<=n/\(elim below n A k).r+1<=k+1;omega
   ·omega
theorem estep_stop {below:Bool} {n k:Nat} {S:St} (h:n<=S.r):zrg below n k S=S:=by
 have:=fp_ge (λ i=>decide (S.A i k≠0)) (n-S.r) S.r;rw[zrg,zIN (by unfold pvt;omega)]
theorem elim_stop {below:Bool} {n:Nat} {A:Mx} {k:Nat} (h:(elim below n A k).r=n):∀j,k<=j->elim below n A j=elim below n A k
 | 0,hj=>by (obtain rfl:k=0:=zO);rfl
 | j+1,hj=>by
   rcases Nat.eq_or_lt_of_le hj with h1 | h1
   ·rw[h1]
   ·have ih:=elim_stop h j zO;rw[elim,ih,estep_stop zO]
def fitE (below:Bool) (n m k:Nat) (S:St):Prop:=
 pvt n k S<n->fits (-S.d)/\fits ((if pvt n k S=S.r then S.d else -S.d)*swp S.A S.r (pvt n k S) S.r k)/\
  ∀i,i<n->act below (swp S.A S.r (pvt n k S)) S.r k i->fits (swp S.A S.r (pvt n k S) i k/swp S.A S.r (pvt n k S) S.r k)/\
   ∀j,j<m->k<=j->fits (swp S.A S.r (pvt n k S) i k/swp S.A S.r (pvt n k S) S.r k*swp S.A S.r (pvt n k S) S.r j)/\
    fits (swp S.A S.r (pvt n k S) i j-swp S.A S.r (pvt n k S) i k/swp S.A S.r (pvt n k S) S.r k*swp S.A S.r (pvt n k S) S.r j)
theorem over.zero' {D B:Nat} {z:Int} (hD:D≠0) (h:mkRat z D≠0):z≠0:=λ e=>h (by rw[e];simp)
theorem div_mk {y z:Int} {D:Nat} (hD:D≠0) (hz:z≠0):mkRat y D/mkRat z D=mkRat (y*z.sign) z.natAbs:=by
 have hn:z.natAbs≠0:=zO;have hq:mkRat z D≠0:=λ e=>hz ((Rat.mkRat_eq_zero hD).1 e)
 have e:mkRat y D=mkRat (y*z.sign) z.natAbs*mkRat z D:=by
  rw[Rat.mkRat_mul_mkRat,Int.mul_assoc,Int.sign_mul_self,Int.mul_comm y];exact(Rat.mkRat_mul_left hn).symm
 rw[e,Rat.mul_div_cancel hq]
theorem over.quo {D B:Nat} {p:Rat} {z:Int} (hD:D≠0) (hp:over D B p) (hz:z≠0):over z.natAbs B (p/mkRat z D):=by
 obtain⟨y,rfl,h1⟩:=hp;refine⟨y*z.sign,div_mk hD hz,?_⟩;rw[Int.natAbs_mul,Int.natAbs_sign_of_ne_zero hz,Nat.mul_one];exact h1
theorem over.sub {D A B:Nat} {p q:Rat} (hD:D≠0) (hp:over D A p) (hq:over D B q):over D (A+B) (p-q):=by
 rw[Rat.sub_eq_add_neg];exact over.add hD hp (over.neg hq)
def zvm (n m D B:Nat) (A:Mx):Prop:=∀i j,i<n->j<m->over D B (A i j)
def grow :Nat->Nat×Nat×Nat×Nat->Nat×Nat×Nat×Nat
 | 0,x=>x
 | k+1,x=>let (b,d,e,f):=grow k x;(2*(b*b),d*b,e*b,f*d)
def slim4 (x:Nat×Nat×Nat×Nat):Prop:=x.1<2^4096/\x.2.1<2^4096/\x.2.2.1<2^4096/\x.2.2.2<2^4096
instance (x :Nat×Nat×Nat×Nat):Decidable (slim4 x):=inferInstanceAs (Decidable (_/\_/\_/\_))
theorem zjj {A:Mx} {a b:Nat}:swp A a b a=A b:=by unfold swp;rw[zIP rfl]
theorem zaq {n k:Nat} {S:St} (hn:S.r<=n) (h:pvt n k S<n):S.A (pvt n k S) k≠0:=by
 have:=fp_at (λ i=>decide (S.A i k≠0)) (n-S.r) S.r (by unfold pvt at h;omega);unfold pvt;simpa using this
theorem zmm (n k:Nat) (S:St):S.r<=pvt n k S:=(fp_ge _ _ _).1
end Go.Proofs.YtlpdkbmmbdfoiaaGreat
namespace Go.Proofs.YtlpdkbmmbdfoiaaGreat
open Go.RowKit
section
variable {w:World} {e:TypeId} {B size n:Nat} {v:Value} {xs:List Value}
theorem zkc.set1 (h:zkc w e B size v n xs) (j:Nat) (hj:j<xs.length) (u:Value) (hu:∀z,u≠ .int .u32 z):
 zkc (w.setCell (ptr v j) u) e B size v n (xs.set j u)/\w.grownBy (w.setCell (ptr v j) u) v.ownBlock:=by
 have hl:=h.own.1;rcases h.own.2 with⟨rfl,h0⟩ | ⟨g,cap,cur,rfl,hb,hg,hn,hm,hs,ht⟩
 ·rw[h0]at hl;omega
 ·have hp:ptr (.slice (some ⟨g,0,none⟩) n cap) j=⟨g,j,none⟩:=by simp only[ptr,base,Addr.add_lit,Nat.zero_add]
  have hst:=World.ownsRow.stored h.own j u;rw[hp];refine⟨⟨hst.1,?_⟩,hst.2⟩;intro g' hg' cur' e' fz hc c hcc;simp only[Value.ownBlock,Option.some.injEq]at hg';subst hg';rw[heap_setCell_same w g j cur e u hg]at hc;injection hc with hc
  injection hc with hc _ _
  subst hc;rw[Array.toList_setIfInBounds]at hcc;rcases List.mem_or_eq_of_mem_set hcc with h' | h'
  ·exact h.nl g rfl cur e _ hg c h'
  ·subst h';exact hu
theorem zkc.frozen (h:zkc w e B size v n xs) (j:Nat) (hj:j<xs.length):w.frozen? (ptr v j)=false:=by
 have hl:=h.own.1;obtain⟨ho,_⟩:=h;rcases ho.2 with⟨rfl,h0⟩ | ⟨g,cap,cur,rfl,hb,hg,hn,hm,hs,ht⟩
 ·rw[h0]at hl;omega
 ·have:=World.ownsRow.frozenAt ho j;simpa only[ptr,base,Addr.add_lit,Nat.zero_add]using this
theorem zkc.blk (h:zkc w e B size v n xs) (hx:0<xs.length):∃g,v.ownBlock=some g/\(base v).block=g/\B<=g/\g<w.heap.size/\∀j,ptr v j=⟨g,j,none⟩:=by
 have hl:=h.own.1;have hbl:=h.block;rcases h.own.2 with⟨rfl,h0⟩ | ⟨g,cap,cur,rfl,hb,hg,hn,hm,hs,ht⟩
 ·rw[h0]at hl;omega
 ·exact⟨g,rfl,rfl,(hbl g rfl).1,(hbl g rfl).2,λ j=>by simp only[ptr,base,Addr.add_lit,Nat.zero_add]⟩
end
theorem zte {a b c:World} {r:Option Nat} (h:a.grownBy b r) (k:b.grownBy c r):a.grownBy c r:=zod h k
section
variable {w:World} {e:TypeId} {B:Nat} {v:Value} {q:List Rat}
theorem zua.frozen (h:zua w e B v q) (k:Nat) (hk:k<q.length*3):w.frozen? (ptr v k)=false:=by
 obtain⟨xs,h1,_⟩:=h;exact h1.frozen k (by rw[h1.clen];exact hk)
theorem zua.blk (h:zua w e B v q) (hq:0<q.length):∃g,v.ownBlock=some g/\(base v).block=g/\B<=g/\g<w.heap.size/\∀j,ptr v j=⟨g,j,none⟩:=by
 obtain⟨xs,h1,_⟩:=h;exact h1.blk (by rw[h1.clen];omega)
theorem zua.inj (h:zua w e B v q) (hq:0<q.length) {i j:Nat} (hij:i≠j):ptr v i≠ptr v j:=by
 obtain⟨g,_,_,_,_,hp⟩:=h.blk hq;rw[hp,hp];intro h;injection h with h1 h2;exact hij h2
theorem zua.noLimb (h:zua w e B v q):zrb w v:=by obtain⟨xs,h1,_⟩:=h;exact h1.nl
theorem zua.put (h:zua w e B v q) {i:Nat} (hi:i<q.length) {x y z:Value} {r:Rat} (hf:zia w (.agg #[x,y,z]) r):
 zua (((w.setCell (ptr v (i*3)) x).setCell (ptr v (i*3+1)) y).setCell (ptr v (i*3+2)) z) e B v (q.set i r)/\
  w.grownBy (((w.setCell (ptr v (i*3)) x).setCell (ptr v (i*3+1)) y).setCell (ptr v (i*3+2)) z) v.ownBlock:=by
 obtain⟨xs,h1,h2⟩:=h;obtain⟨a,b,ha,h4,h5⟩:=id hf;injection ha with ha
 injection ha with ha
 simp only[List.cons.injEq,and_true]at ha;obtain⟨rfl,rfl,rfl⟩:=ha;have hl:=h1.clen;have ny:∀k,y≠ .int .u32 k:=λ k=>by obtain⟨a1,n1,c1,e1,_⟩:=h4.v.sl;subst e1;simp
 have nz:∀k,z≠ .int .u32 k:=λ k=>by obtain⟨a1,n1,c1,e1,_⟩:=h5.v.sl;subst e1;simp
 obtain⟨s1,g1⟩:=h1.set1 (i*3) zO (.bool (decide (r<0))) (λ k=>by simp);obtain⟨s2,g2⟩:=s1.set1 (i*3+1) (by rw[zGS];omega) y ny;obtain⟨s3,g3⟩:=s2.set1 (i*3+2) (by rw[zGS,zGS];omega) z nz;have gg:=zte (zte g1 g2) g3;refine⟨⟨_,by rw[zGS];exact s3,λ j hj=> ?_⟩,gg⟩;rw[zGS]at hj;by_cases hij:i=j
 ·subst hij;refine⟨y,z,?_,?_,?_,?_,?_⟩
  ·rw[zSN zO,zSN zO,List.getElem?_set_self zO,zSF]
  ·rw[zSN zO,List.getElem?_set_self (by rw[zGS];omega)]
  ·rw[List.getElem?_set_self (by rw[zGS,zGS];omega)]
  ·rw[zSF];exact h4.grown gg h1.nl
  ·rw[zSF];exact h5.grown gg h1.nl
 ·obtain⟨a,b,e1,e2,e3,e4,e5⟩:=h2 j hj;rw[zTN hij];refine⟨a,b,?_,?_,?_,e4.grown gg h1.nl,e5.grown gg h1.nl⟩
  ·rw[zSN zO,zSN zO,zSN zO];exact e1
  ·rw[zSN zO,zSN zO,zSN zO];exact e2
  ·rw[zSN zO,zSN zO,zSN zO];exact e3
end
def zkg (w:World) (T:Nat) (cs:Array Value):Prop:=∃ty,w.heap[T]? =some (.cells cs ty (0,0))
section
variable {w w':World} {T:Nat} {cs:Array Value}
theorem zkg.new (w:World) (cs:Array Value) (ty:TypeId):zkg (w.alloc (.cells cs ty)) w.heap.size cs:=⟨ty,heap_alloc_new w _⟩
theorem zkg.lt (h:zkg w T cs):T<w.heap.size:=by obtain⟨ty,h⟩:=h;exact(Array.getElem?_eq_some_iff.1 h).1
theorem zkg.cell (h:zkg w T cs) (j:Nat) {u:Value} (hu:cs[j]? =some u):w.cell? ⟨T,j,none⟩=some u:=by
 obtain⟨ty,h⟩:=h;simp[World.cell?,h,hu]
theorem zkg.frozen (h:zkg w T cs) (j:Nat):w.frozen? ⟨T,j,none⟩=false:=by
 obtain⟨ty,h⟩:=h;simp[World.frozen?,h]
theorem zkg.set (h:zkg w T cs) (j:Nat) (u:Value):zkg (w.setCell ⟨T,j,none⟩ u) T (cs.setIfInBounds j u):=by
 obtain⟨ty,h⟩:=h;exact⟨ty,heap_setCell_same w T j cs ty u h⟩
theorem zkg.bw (h:zkg w T cs) (hb:Below w.heap.size w w'):zkg w' T cs:=by
 have hlt:=h.lt;obtain⟨ty,h⟩:=h;exact⟨ty,by rw[hb.block T hlt];exact h⟩
theorem zkg.grown {r:Option Nat} (h:zkg w T cs) (hg:w.grownBy w' r) (hr:r≠some T):zkg w' T cs:=by
 have hlt:=h.lt;obtain⟨ty,h⟩:=h;exact⟨ty,by rw[hg.block T hlt hr.symm];exact h⟩
end
def zxa (m:Nat) (f:Nat->Rat):List Rat:=(List.range m).map f
theorem zda (m:Nat) (f:Nat->Rat):(zxa m f).length=m:=by simp[zxa]
theorem zqb (m:Nat) (f:Nat->Rat) (j:Nat) (h:j<(zxa m f).length):(zxa m f)[j]=f j:=by simp[zxa]
theorem zlb {m:Nat} {f g:Nat->Rat} (h:∀j,j<m->f j=g j):zxa m f=zxa m g:=
 List.map_congr_left λ j hj=>h j (List.mem_range.1 hj)
theorem rowL_of (q:List Rat):zxa q.length (λ j=>q.getD j 0)=q:=by
 refine List.ext_getElem (by rw[zda]) λ j h1 h2=> ?_
 rw[zqb,zGD,zGE h2];rfl
theorem rowL_set (m:Nat) (f:Nat->Rat) (i:Nat) (r:Rat):(zxa m f).set i r=zxa m (λ j=>if j=i then r else f j):=by
 refine List.ext_getElem (by rw[zGS,zda,zda]) λ j h1 h2=> ?_
 rw[zqb];by_cases h:j=i
 ·subst h;rw[zSF,zIP rfl]
 ·rw[zTN (λ e=>h e.symm),zIN h,zqb]
def upd (A:Mx) (i j:Nat) (r:Rat):Mx:=λ a b=>if a=i/\b=j then r else A a b
structure zqe (w:World) (T:Nat) (vR:Value) (rs:List Value) (n m:Nat) (A:Mx) (wd rk:Nat) (d:Rat):Prop where
 box:∃a b,zkg w T #[vR, .int .i64 wd, .int .i64 rk, .bool (decide (d<0)),a,b, .int .i64 0]/\zub w a d.num.natAbs/\zub w b d.den
 own:zkc w 25 (T+1) 1 vR rs.length rs
 rl:rs.length=n
 mp:0<m
 row:∀ (i:Nat) (h:i<rs.length),zua w 38 (T+1) rs[i] (zxa m (A i))
 ap:∀ (i j:Nat) (hi:i<rs.length) (hj:j<rs.length),i≠j->rs[i].ownBlock≠rs[j].ownBlock
section
variable {w w':World} {T n m wd rk:Nat} {vR:Value} {rs:List Value} {A:Mx} {d:Rat}
theorem zqe.lt (h:zqe w T vR rs n m A wd rk d):T<w.heap.size:=by obtain⟨a,b,hb,_⟩:=h.box;exact hb.lt
theorem zqe.bw (h:zqe w T vR rs n m A wd rk d) (hb:Below w.heap.size w w'):zqe w' T vR rs n m A wd rk d:=by
 obtain⟨a,b,h1,h2,h3⟩:=h.box;exact⟨⟨a,b,h1.bw hb,h2.bw hb,h3.bw hb⟩,h.own.bw hb,h.rl,h.mp,λ i hi=>(h.row i hi).moves (zkb.bw (B:=T+1) hb) (zLR _),h.ap⟩
theorem zqe.congr {A':Mx} (h:zqe w T vR rs n m A wd rk d) (hA:∀i j,i<n->j<m->A i j=A' i j):zqe w T vR rs n m A' wd rk d:=
 ⟨h.box,h.own,h.rl,h.mp,λ i hi=>by rw[<-zlb (λ j hj=>hA i j (by rw[<-h.rl];exact hi) hj)];exact h.row i hi,h.ap⟩
theorem zqe.elem (h:zqe w T vR rs n m A wd rk d) {i j:Nat} (hi:i<rs.length) (hj:j<m):
 ∃a b,w.cell? (ptr rs[i] (j*3))=some (.bool (decide (A i j<0)))/\w.cell? (ptr rs[i] (j*3+1))=some a/\w.cell? (ptr rs[i] (j*3+2))=some b/\zub w a (A i j).num.natAbs/\zub w b (A i j).den:=by
 obtain⟨a,b,h1,h2,h3,h4,h5⟩:=(h.row i hi).fracs.at' j (by rw[zda];exact hj);rw[zqb]at h1 h4 h5;exact⟨a,b,h1,h2,h3,h4,h5⟩
theorem zqe.put (h:zqe w T vR rs n m A wd rk d) {i j:Nat} (hi:i<rs.length) (hj:j<m) {x y z:Value} {r:Rat} (hf:zia w (.agg #[x,y,z]) r):
 zqe (((w.setCell (ptr rs[i] (j*3)) x).setCell (ptr rs[i] (j*3+1)) y).setCell (ptr rs[i] (j*3+2)) z) T vR rs n m (upd A i j r) wd rk d/\
  Below T w (((w.setCell (ptr rs[i] (j*3)) x).setCell (ptr rs[i] (j*3+1)) y).setCell (ptr rs[i] (j*3+2)) z):=by
 have hT:=h.lt;obtain⟨⟨a,b,h1,h2,h3⟩,own,rl,mp,row,ap⟩:=h;have hr:=row i hi;obtain⟨hp,gg⟩:=hr.put (i:=j) (by rw[zda];exact hj) hf;have hnl:=hr.noLimb;obtain⟨g,hg,_,hgT,hgw,_⟩:=hr.blk (by rw[zda];exact mp);have hgT':rs[i].ownBlock≠some T:=by rw[hg];intro e;injection e with e;omega
 obtain⟨ys,y1,y2⟩:=id hr;refine⟨⟨⟨a,b,h1.grown gg hgT',h2.grown gg hnl,h3.grown gg hnl⟩,own.grown gg (own.kinds y1 zD),rl,mp,λ k hk=> ?_,ap⟩,zja gg zO (λ k hk=>by rw[hg]at hk;injection hk with hk;omega)⟩;by_cases hki:k=i
 ·subst hki;rw[rowL_set]at hp
  have e:zxa m (upd A k j r k)=zxa m (λ b=>if b=j then r else A k b):=zlb λ b _=>by
   unfold upd;by_cases hb:b=j
   ·rw[zIP ⟨rfl,hb⟩,zIP hb]
   ·rw[zIN (λ h=>hb h.2),zIN hb]
  rw[e];exact hp
 ·have e:zxa m (upd A i j r k)=zxa m (A k):=zlb λ b _=>by unfold upd;rw[zIN (λ h=>hki h.1)]
  rw[e];exact(row k hk).grown gg hnl (Or.inr (ap k i hk hi hki))
theorem zqe.setDet (h:zqe w T vR rs n m A wd rk d) {x y z:Value} {r:Rat} (hf:zia w (.agg #[x,y,z]) r):
 zqe (((w.setCell ⟨T,3,none⟩ x).setCell ⟨T,4,none⟩ y).setCell ⟨T,5,none⟩ z) T vR rs n m A wd rk r/\Below T w (((w.setCell ⟨T,3,none⟩ x).setCell ⟨T,4,none⟩ y).setCell ⟨T,5,none⟩ z):=by
 obtain⟨⟨a,b,h1,h2,h3⟩,own,rl,mp,row,ap⟩:=h;obtain⟨p,q,ha,h4,h5⟩:=id hf;injection ha with ha
 injection ha with ha
 simp only[List.cons.injEq,and_true]at ha;obtain⟨rfl,rfl,rfl⟩:=ha;obtain⟨a1,a2,a3,rfl,_⟩:=h2.v.sl;obtain⟨b1,b2,b3,rfl,_⟩:=h3.v.sl;have s1:=h1.set 3 (.bool (decide (r<0)));have s2:=s1.set 4 y;have s3:=s2.set 5 z;have m1:=zkb.set (B:=T+1) (p:=⟨T,3,none⟩) (zSS T) (h1.cell 3 rfl) zZ (.bool (decide (r<0)));have m2:=zkb.set (B:=T+1) (p:=⟨T,4,none⟩) (zSS T) (s1.cell 4 rfl) zZ y;have m3:=zkb.set (B:=T+1) (p:=⟨T,5,none⟩) (zSS T) (s2.cell 5 rfl) zZ z;have mm:=(m1.trans m2).trans m3
 exact⟨⟨⟨y,z,s3,h4.moves mm,h5.moves mm⟩,own.moves mm (zLR _),rl,mp,λ i hi=>(row i hi).moves mm (zLR _),ap⟩,
  (((zBR T w).setCell (p:=⟨T,3,none⟩) (zLR _) _).setCell (p:=⟨T,4,none⟩) (zLR _) _).setCell (p:=⟨T,5,none⟩) (zLR _) _⟩
theorem zqe.setRank (h:zqe w T vR rs n m A wd rk d) (k:Nat):
 zqe (w.setCell ⟨T,2,none⟩ (.int .i64 k)) T vR rs n m A wd k d/\Below T w (w.setCell ⟨T,2,none⟩ (.int .i64 k)):=by
 obtain⟨⟨a,b,h1,h2,h3⟩,own,rl,mp,row,ap⟩:=h;have mm:=zkb.set (B:=T+1) (p:=⟨T,2,none⟩) (zSS T) (h1.cell 2 rfl) zZ (.int .i64 k)
 exact⟨⟨⟨a,b,h1.set 2 (.int .i64 k),h2.moves mm,h3.moves mm⟩,own.moves mm (zLR _),rl,mp,λ i hi=>(row i hi).moves mm (zLR _),ap⟩,
  (zBR T w).setCell (p:=⟨T,2,none⟩) (zLR _) _⟩
theorem zqe.swap (h:zqe w T vR rs n m A wd rk d) {i j:Nat} (hi:i<rs.length) (hj:j<rs.length) (hij:i≠j):
 zqe ((w.setCell (ptr vR i) rs[j]).setCell (ptr vR j) rs[i]) T vR ((rs.set i rs[j]).set j rs[i]) n m (swp A i j) wd rk d/\Below T w ((w.setCell (ptr vR i) rs[j]).setCell (ptr vR j) rs[i]):=by
 have hT:=h.lt;obtain⟨⟨a,b,h1,h2,h3⟩,own,rl,mp,row,ap⟩:=h
 have hn:∀k (hk:k<rs.length) z,rs[k]≠ .int .u32 z:=λ k hk z=>by
  obtain⟨a1,a2,a3,e1,_⟩:=(row k hk).sl;rw[e1];simp
 obtain⟨s1,g1⟩:=own.set1 i hi rs[j] (hn j hj);obtain⟨s2,g2⟩:=s1.set1 j (by rw[zGS];exact hj) rs[i] (hn i hi);have gg:=zte g1 g2;obtain⟨g,hg,_,hgT,hgw,_⟩:=own.blk zO;have hgT':vR.ownBlock≠some T:=by rw[hg];intro e;injection e with e;omega
 have ge:∀k (hk:k<((rs.set i rs[j]).set j rs[i]).length),∃k',∃hk':k'<rs.length,((rs.set i rs[j]).set j rs[i])[k]=rs[k']/\swp A i j k=A k'/\(k'=if k=j then i else if k=i then j else k):=λ k hk=>by
  have hk0:k<rs.length:=by simpa using hk
  unfold swp;by_cases e1:k=j
  ·subst e1;exact⟨i,hi,by rw[zSF],by rw[zIN (λ e=>hij e.symm),zIP rfl],by rw[zIP rfl]⟩
  ·by_cases e2:k=i
   ·subst e2;exact⟨j,hj,by rw[zTN (λ e=>e1 e.symm),zSF],by rw[zIP rfl],by rw[zIN e1,zIP rfl]⟩
   ·exact⟨k,hk0,by rw[zTN (λ e=>e1 e.symm),zTN (λ e=>e2 e.symm)],by rw[zIN e2,zIN e1],by rw[zIN e1,zIN e2]⟩
 refine⟨⟨⟨a,b,h1.grown gg hgT',h2.grown gg own.nl,h3.grown gg own.nl⟩,?_,by simp[rl],mp,λ k hk=> ?_,λ k l hk hl hkl=> ?_⟩,zja gg zO (λ k hk=>by rw[hg]at hk;injection hk with hk;omega)⟩
 ·rw[zGS,zGS];exact s2
 ·obtain⟨k',hk',e1,e2,_⟩:=ge k hk;obtain⟨ys,y1,y2⟩:=id (row k' hk');rw[e1,e2];exact(row k' hk').grown gg own.nl (y1.kinds own zD)
 ·obtain⟨k',hk',e1,_,f1⟩:=ge k hk;obtain⟨l',hl',e2,_,f2⟩:=ge l hl;rw[e1,e2];refine ap k' l' hk' hl' ?_;rw[f1,f2];split<;>split<;>(try split)<;>(try split)<;>omega
end
theorem kp2w {w0 X Y:World} {a1 a2:Addr} {x1 x2:Value} (h:X.cell? a1=some x1/\X.cell? a2=some x2/\Below w0.heap.size w0 X) (hb:Below X.heap.size X Y):Y.cell? a1=some x1/\Y.cell? a2=some x2/\Below w0.heap.size w0 Y:=by
 obtain⟨k1,k2,k0⟩:=h;exact⟨zba hb k1,zba hb k2,zaa k0 hb⟩
theorem kp2a {w0 X:World} {a1 a2:Addr} {x1 x2:Value} (h:w0.cell? a1=some x1/\w0.cell? a2=some x2) (hb:Below w0.heap.size w0 X):X.cell? a1=some x1/\X.cell? a2=some x2/\Below w0.heap.size w0 X:=by
 obtain⟨k1,k2⟩:=h;exact⟨zba hb k1,zba hb k2,hb⟩
theorem kp2c {w0 X:World} {a1 a2:Addr} {x1 x2:Value} (h:X.cell? a1=some x1/\X.cell? a2=some x2/\Below w0.heap.size w0 X):Below w0.heap.size w0 X:=by
 obtain⟨k1,k2,k0⟩:=h;exact k0
theorem kp3w {w0 X Y:World} {a1 a2 a3:Addr} {x1 x2 x3:Value} (h:X.cell? a1=some x1/\X.cell? a2=some x2/\X.cell? a3=some x3/\Below w0.heap.size w0 X) (hb:Below X.heap.size X Y):Y.cell? a1=some x1/\Y.cell? a2=some x2/\Y.cell? a3=some x3/\Below w0.heap.size w0 Y:=by
 obtain⟨k1,k2,k3,k0⟩:=h;exact⟨zba hb k1,zba hb k2,zba hb k3,zaa k0 hb⟩
theorem kp3a {w0 X:World} {a1 a2 a3:Addr} {x1 x2 x3:Value} (h:w0.cell? a1=some x1/\w0.cell? a2=some x2/\w0.cell? a3=some x3) (hb:Below w0.heap.size w0 X):X.cell? a1=some x1/\X.cell? a2=some x2/\X.cell? a3=some x3/\Below w0.heap.size w0 X:=by
 obtain⟨k1,k2,k3⟩:=h;exact⟨zba hb k1,zba hb k2,zba hb k3,hb⟩
theorem kp3c {w0 X:World} {a1 a2 a3:Addr} {x1 x2 x3:Value} (h:X.cell? a1=some x1/\X.cell? a2=some x2/\X.cell? a3=some x3/\Below w0.heap.size w0 X):Below w0.heap.size w0 X:=by
 obtain⟨k1,k2,k3,k0⟩:=h;exact k0
theorem kp3s {w0 X:World} {a1 a2 a3:Addr} {x1 x2 x3:Value} (h:w0.cell? a1=some x1/\w0.cell? a2=some x2/\w0.cell? a3=some x3) (hb:Below w0.heap.size w0 X) {b:Nat} (hB:w0.heap.size<=b) (x y z:Value):(((X.setCell ⟨b,0,none⟩ x).setCell ⟨b,1,none⟩ y).setCell ⟨b,2,none⟩ z).cell? a1=some x1/\(((X.setCell ⟨b,0,none⟩ x).setCell ⟨b,1,none⟩ y).setCell ⟨b,2,none⟩ z).cell? a2=some x2/\(((X.setCell ⟨b,0,none⟩ x).setCell ⟨b,1,none⟩ y).setCell ⟨b,2,none⟩ z).cell? a3=some x3/\Below w0.heap.size w0 (((X.setCell ⟨b,0,none⟩ x).setCell ⟨b,1,none⟩ y).setCell ⟨b,2,none⟩ z):=
 kp3a h (zga hb hB x y z)
theorem kp8w {w0 X Y:World} {a1 a2 a3 a4 a5 a6 a7 a8:Addr} {x1 x2 x3 x4 x5 x6 x7 x8:Value} (h:X.cell? a1=some x1/\X.cell? a2=some x2/\X.cell? a3=some x3/\X.cell? a4=some x4/\X.cell? a5=some x5/\X.cell? a6=some x6/\X.cell? a7=some x7/\X.cell? a8=some x8/\Below w0.heap.size w0 X) (hb:Below X.heap.size X Y):Y.cell? a1=some x1/\Y.cell? a2=some x2/\Y.cell? a3=some x3/\Y.cell? a4=some x4/\Y.cell? a5=some x5/\Y.cell? a6=some x6/\Y.cell? a7=some x7/\Y.cell? a8=some x8/\Below w0.heap.size w0 Y:=by
 obtain⟨k1,k2,k3,k4,k5,k6,k7,k8,k0⟩:=h;exact⟨zba hb k1,zba hb k2,zba hb k3,zba hb k4,zba hb k5,zba hb k6,zba hb k7,zba hb k8,zaa k0 hb⟩
theorem kp8a {w0 X:World} {a1 a2 a3 a4 a5 a6 a7 a8:Addr} {x1 x2 x3 x4 x5 x6 x7 x8:Value} (h:w0.cell? a1=some x1/\w0.cell? a2=some x2/\w0.cell? a3=some x3/\w0.cell? a4=some x4/\w0.cell? a5=some x5/\w0.cell? a6=some x6/\w0.cell? a7=some x7/\w0.cell? a8=some x8) (hb:Below w0.heap.size w0 X):X.cell? a1=some x1/\X.cell? a2=some x2/\X.cell? a3=some x3/\X.cell? a4=some x4/\X.cell? a5=some x5/\X.cell? a6=some x6/\X.cell? a7=some x7/\X.cell? a8=some x8/\Below w0.heap.size w0 X:=by
 obtain⟨k1,k2,k3,k4,k5,k6,k7,k8⟩:=h;exact⟨zba hb k1,zba hb k2,zba hb k3,zba hb k4,zba hb k5,zba hb k6,zba hb k7,zba hb k8,hb⟩
theorem kp8c {w0 X:World} {a1 a2 a3 a4 a5 a6 a7 a8:Addr} {x1 x2 x3 x4 x5 x6 x7 x8:Value} (h:X.cell? a1=some x1/\X.cell? a2=some x2/\X.cell? a3=some x3/\X.cell? a4=some x4/\X.cell? a5=some x5/\X.cell? a6=some x6/\X.cell? a7=some x7/\X.cell? a8=some x8/\Below w0.heap.size w0 X):Below w0.heap.size w0 X:=by
 obtain⟨k1,k2,k3,k4,k5,k6,k7,k8,k0⟩:=h;exact k0
theorem kp8s {w0 X:World} {a1 a2 a3 a4 a5 a6 a7 a8:Addr} {x1 x2 x3 x4 x5 x6 x7 x8:Value} (h:w0.cell? a1=some x1/\w0.cell? a2=some x2/\w0.cell? a3=some x3/\w0.cell? a4=some x4/\w0.cell? a5=some x5/\w0.cell? a6=some x6/\w0.cell? a7=some x7/\w0.cell? a8=some x8) (hb:Below w0.heap.size w0 X) {b:Nat} (hB:w0.heap.size<=b) (x y z:Value):(((X.setCell ⟨b,0,none⟩ x).setCell ⟨b,1,none⟩ y).setCell ⟨b,2,none⟩ z).cell? a1=some x1/\(((X.setCell ⟨b,0,none⟩ x).setCell ⟨b,1,none⟩ y).setCell ⟨b,2,none⟩ z).cell? a2=some x2/\(((X.setCell ⟨b,0,none⟩ x).setCell ⟨b,1,none⟩ y).setCell ⟨b,2,none⟩ z).cell? a3=some x3/\(((X.setCell ⟨b,0,none⟩ x).setCell ⟨b,1,none⟩ y).setCell ⟨b,2,none⟩ z).cell? a4=some x4/\(((X.setCell ⟨b,0,none⟩ x).setCell ⟨b,1,none⟩ y).setCell ⟨b,2,none⟩ z).cell? a5=some x5/\(((X.setCell ⟨b,0,none⟩ x).setCell ⟨b,1,none⟩ y).setCell ⟨b,2,none⟩ z).cell? a6=some x6/\(((X.setCell ⟨b,0,none⟩ x).setCell ⟨b,1,none⟩ y).setCell ⟨b,2,none⟩ z).cell? a7=some x7/\(((X.setCell ⟨b,0,none⟩ x).setCell ⟨b,1,none⟩ y).setCell ⟨b,2,none⟩ z).cell? a8=some x8/\Below w0.heap.size w0 (((X.setCell ⟨b,0,none⟩ x).setCell ⟨b,1,none⟩ y).setCell ⟨b,2,none⟩ z):=
 kp8a h (zga hb hB x y z)
structure zij (w:World) (v:Value) (n m:Nat) (A:Mx):Prop where
 sl:zvc v
 len:slen v=n
 row:∀i,i<n->∃r,w.cell? (ptr v i)=some r/\zwa w r (zxa m (A i))
theorem zij.bw {w w':World} {v:Value} {n m:Nat} {A:Mx} (h:zij w v n m A) (hb:Below w.heap.size w w'):zij w' v n m A:=
 ⟨h.sl,h.len,λ i hi=>by obtain⟨r,h1,h2⟩:=h.row i hi;exact⟨r,zba hb h1,h2.bw hb⟩⟩
theorem zaf {P:Program} (t e:TypeId) (i:TypeInfo) (ht:P.underlying t=some (.slice e)) (hi:P.info? e=some i) (hz:i.zero=some (.agg #[.bool false, .slice none 0 0, .slice none 0 0])) (hsize:i.size=3) (hby:i.bytes=56)
 {ops:Array Oper} {o:Oper} {a:Act} {w:World} {K:Act->World->Prop} {Q:Exit->Act->World->Prop} {E:Prop} (hgd:o.guard=none) (s x:Operand)
 (ho:o.op= .call { callee:= .builtin .append,args:=#[s,x],argTypes:=#[t,t] }) (B:Nat) (v:Value) (q:List Rat) (hs:a.eval s=v) (hown:zua w e B v q) (c0 c1 c2:Value) (r:Rat) (hf:zia w (.agg #[c0,c1,c2]) r) (g:Nat) (hxe:a.eval x= .slice (some ⟨g,0,none⟩) 1 1)
 (hc:zkg w g #[c0,c1,c2]) (hn:q.length<=1000) (hbase:B<=w.heap.size)
 (h:∀v' w',zua w' e B v' (q++ [r])->w.grownBy w' v.ownBlock->zrb w v->(v'.ownBlock=v.ownBlock\/v'.ownBlock=some w.heap.size)->K (a.put o.dst v') w'):
 if Region.wanted o (yielded ops a.tmps)=true then Oper.wp P o a w K Q else E:=by
 obtain⟨xs,h1,h2⟩:=hown;have hl:xs.length=q.length*3:=h1.clen;obtain⟨a1,b1,ha,h4,h5⟩:=id hf;injection ha with ha
 injection ha with ha
 simp only[List.cons.injEq,and_true]at ha;obtain⟨rfl,rfl,rfl⟩:=ha;obtain⟨p1,p2,p3,rfl,_⟩:=h4.v.sl;obtain⟨s1,s2,s3,rfl,_⟩:=h5.v.sl;rw[zIP (by simp[Region.wanted,hgd])]
 obtain⟨v',w',hr,k2,k3,k4,k5⟩:=zid (P:=P) w B t o.type e i _ 3 56 ht hi hz hsize hby rfl zD v q.length xs h1.own ⟨g,0,none⟩ 1 1 [.bool (decide (r<0)), .slice p1 p2 p3, .slice s1 s2 s3] rfl
  (λ j u hu=>by
   rw[Addr.add_lit,Nat.zero_add];exact hc.cell j (by simpa using hu)) (λ u hu=>by simp at hu;rcases hu with rfl | rfl | rfl<;>rfl) (by simp[maxLen];omega) zO hbase h1.nl (λ u hu z=>by simp at hu;rcases hu with rfl | rfl | rfl<;>simp) (λ c hc z=>by
   have hc2:c∈ [Value.bool false, .slice none 0 0, .slice none 0 0]:=hc;simp at hc2;rcases hc2 with rfl | rfl<;>simp)
 unfold Oper.wp execOp;simp only[ho,resolve,invoke,builtin,Sem.run_bind,Sem.run_pure,Result.andThen_ok,List.map_toArray,List.map_cons,List.map_nil,hs,hxe,hr];refine h v' w' ⟨_,?_,(zmg.snoc (r:=r) h2 hl hf).grown k3 h1.nl⟩ k3 h1.nl k4;rw[zLA];exact⟨k2,k5⟩
theorem zuk {P:Program} (t e:TypeId) (i:TypeInfo) (h1:P.underlying t=some (.slice e)) (h2:P.info? e=some i) (h3:i.zero=some (.slice none 0 0)) (h4:i.size=1) (h5:i.bytes=24)
 (w:World) {ops:Array Oper} {rest:List Oper} {o:Oper} {a:Act} {Q:Exit->Act->World->Prop} (hg:o.guard=none) (l c:Operand) (hop:o.op=Op.makeSlice t l c)
 (B:Nat) (u:Int) (n:Nat) (hu:u=n) (hl:a.eval l= .int .i64 u) (hc:a.eval c= .int .i64 u) (b2:n<=1000) (b4:B<=w.heap.size)
 (hK:∀v w',zkc w' e B 1 v n (List.replicate n (.slice none 0 0))->Below w.heap.size w w'->wpList P ops Q rest (a.put o.dst v) w'):
 wpList P ops Q (o::rest) a w:=by
 subst hu;refine wpList_make_full w hg l c t hop B e i _ 1 h1 h2 h3 h4 .i64 .i64 n n n hl hc rfl rfl (by rw[h5];omega) (by unfold maxLen;omega) b4 ?_;intro w' hown hgr
 have hcs:(madeCells (Value.slice none 0 0).cells (n*1)).toList=List.replicate n (.slice none 0 0):=by
  rw[show(Value.slice none 0 0).cells=#[.slice none 0 0]from rfl,Nat.mul_one,toList_madeCells_one]
 rw[hcs]at hown;refine hK _ w' ⟨hown,?_⟩ (zja hgr (zLR _) (λ k hk=>by cases hk));intro g' hg' cur e' fz hcc x hx z;rcases hown.2 with⟨h',_⟩ | ⟨g2,cap,cur2,h',hb,hgg,_,_,hs,ht⟩
 ·cases h'
 ·injection h' with k4 k5 k6
  injection k4 with k4
  injection k4 with k4
  simp only[Value.ownBlock,Option.some.injEq]at hg';rw[<-hg',k4,hgg]at hcc;injection hcc with hcc
  injection hcc with hcc _ _
  subst hcc
  have e9:cur2.toList=List.replicate n (.slice none 0 0):=by
   rw[<-ht];exact(zTL (by rw[Array.length_toList,hs,<-k6];exact zLR _)).symm
  rw[e9]at hx;rw[List.eq_of_mem_replicate hx];simp
structure zwj (w:World) (B:Nat) (vO:Value) (rs:List Value) (n:Nat) (qs:Nat->List Rat):Prop where
 own:zkc w 25 B 1 vO n rs
 row:∀ (i:Nat) (h:i<rs.length),zua w 38 B rs[i] (qs i)
 ap:∀ (i j:Nat) (hi:i<rs.length) (hj:j<rs.length),i≠j->rs[i].ownBlock=none\/rs[i].ownBlock≠rs[j].ownBlock
section
variable {w w':World} {B n:Nat} {vO:Value} {rs:List Value} {qs:Nat->List Rat}
theorem zwj.rl (h:zwj w B vO rs n qs):rs.length=n:=by have:=h.own.clen;omega
theorem zwj.start (h:zkc w 25 B 1 vO n (List.replicate n (.slice none 0 0))):zwj w B vO (List.replicate n (.slice none 0 0)) n (λ _=> []):=
 ⟨h,λ i hi=>by rw[List.getElem_replicate];exact zua.nil _ _ _,λ i j hi hj _=>Or.inl (by rw[List.getElem_replicate];rfl)⟩
theorem zwj.bw (h:zwj w B vO rs n qs) (hb:Below w.heap.size w w'):zwj w' B vO rs n qs:=
 ⟨h.own.bw hb,λ i hi=>(h.row i hi).moves (zkb.bw (B:=B) hb) (zLR _),h.ap⟩
theorem zwj.set (h:zwj w B vO rs n qs) {i:Nat} (hi:i<rs.length) {v':Value} {q:List Rat} (hB:B<=w.heap.size) (hv:zua w' 38 B v' q) (hg:w.grownBy w' rs[i].ownBlock) (hn:zrb w rs[i]) (hob:v'.ownBlock=rs[i].ownBlock\/v'.ownBlock=some w.heap.size):
 zwj (w'.setCell (ptr vO i) v') B vO (rs.set i v') n (λ k=>if k=i then q else qs k)/\Below B w (w'.setCell (ptr vO i) v'):=by
 obtain⟨own,row,ap⟩:=h;obtain⟨ys,y1,y2⟩:=id (row i hi);have own':=own.grown hg (own.kinds y1 zD);have hlen:rs.length=n:=by have:=own.clen;omega
 obtain⟨s1,s2⟩:=own'.set1 i hi v' (λ z e=>by obtain⟨a1,a2,a3,e1,_⟩:=hv.sl;rw[e1]at e;cases e);have hbr:=(row i hi).block;have hbo:=own.block;refine⟨⟨s1,λ k hk=> ?_,λ j k hj hk hjk=> ?_⟩,(zja hg hB (λ k hk=>(hbr k hk).1)).trans (zja s2 (zLT hB hg.size) (λ k hk=>(hbo k hk).1))⟩
 ·have hk0:k<rs.length:=by simpa using hk
  by_cases hki:k=i
  ·subst hki;rw[zSF,zIP rfl];obtain⟨zs,z1,z2⟩:=id hv;exact hv.grown s2 own'.nl (z1.kinds own' zD)
  ·rw[zTN (λ e=>hki e.symm),zIN hki];obtain⟨zs,z1,z2⟩:=id (row k hk0);have hk1:=(row k hk0).grown hg hn (ap k i hk0 hi hki);exact hk1.grown s2 own'.nl (z1.kinds own zD)
 ·have hj0:j<rs.length:=by simpa using hj
  have hk0:k<rs.length:=by simpa using hk
  by_cases h1:j=i
  ·subst h1;rw[zSF,zTN hjk];rcases hob with h | h
   ·rw[h];exact ap j k hj0 hk0 hjk
   ·rw[h];refine Or.inr (λ e=> ?_);have:=((row k hk0).block _ e.symm).2;omega
  ·rw[zTN (λ e=>h1 e.symm)];by_cases h2:k=i
   ·subst h2;rw[zSF];rcases hob with h | h
    ·rw[h];exact ap j k hj0 hk0 hjk
    ·rw[h];refine Or.inr (λ e=> ?_);have:=((row j hj0).block _ e).2;omega
   ·rw[zTN (λ e=>h2 e.symm)];exact ap j k hj0 hk0 hjk
end
@[go_sem ↓] theorem zrp {P : Program} (w : World) {t : TypeId} {v : Value} {lo : Int} (h : zvc v) (ht : P.underlying t = some (.slice (P.elem t))) (h0 : 0 <= lo) (h1 : lo <= (slen v : Int)) :
 (Instr.slice t v (some (.int .i64 lo)) none none).run P w=((sizeOf (P.elem t)).run P w).andThen λ s w=> .ok (cut s v lo.toNat (slen v)) w:=by
  obtain⟨a,n,cap,rfl,hn,_,h3⟩:=h;simp only[slen]at h1;have h00:(n:Int)<=cap:=zO;simp[Instr.slice,run_underlying ht,Instr.sliceBounds,Instr.sliceBound,asIntOf,h0,h1,h00,cut,slen]
theorem zwa.drop {w:World} {v:Value} {q:List Rat} (h:zwa w v q) (lo:Nat) (hlo:lo<q.length):zwa w (cut 3 v lo (slen v)) (q.drop lo):=by
 have hl:=h.len;have hle:=h.sl.le;refine⟨h.sl.cut zO hle.1,by rw[h.sl.slen_cut,List.length_drop,hl],λ j hj=> ?_⟩;have hj2:lo+j<q.length:=by rw[List.length_drop]at hj;omega
 obtain⟨a,b,h1,h2,h3,h4,h5⟩:=h.at' (lo+j) hj2;have e:(q.drop lo)[j]'hj=q[lo+j]'hj2:=by rw[List.getElem_drop]
 rw[e];rw[zio h.sl zO,zio h.sl zO,zio h.sl zO];exact⟨a,b,by rw[show lo*3+j*3=(lo+j)*3 by omega];exact h1,by rw[show lo*3+(j*3+1)=(lo+j)*3+1 by omega];exact h2,by rw[show lo*3+(j*3+2)=(lo+j)*3+2 by omega];exact h3,h4,h5⟩
theorem zwj.congr {w:World} {B n:Nat} {vO:Value} {rs:List Value} {p q:Nat->List Rat} (h:zwj w B vO rs n p) (hpq:∀i,i<n->p i=q i):zwj w B vO rs n q:=
 ⟨h.own,λ i hi=>by rw[<-hpq i (by rw[<-h.rl];exact hi)];exact h.row i hi,h.ap⟩
theorem zkd (k:Nat) (f:Nat->Rat):zxa k f++ [f k]=zxa (k+1) f:=by
 unfold zxa;rw[List.range_succ,List.map_append];rfl
def rawM (n m:Nat) (A:Mx):List (List RF):=(List.range n).map λ i=>(zxa m (A i)).map RF.of
theorem zsc (n m:Nat) (A:Mx):(rawM n m A).length=n:=by simp[rawM]
theorem rawM_get (n m:Nat) (A:Mx) (i:Nat) (h:i<(rawM n m A).length):(rawM n m A)[i]=(zxa m (A i)).map RF.of:=by simp[rawM]
theorem zij.raw {w:World} {v:Value} {n m:Nat} {A:Mx} (h:zij w v n m A):MatN w v (rawM n m A):=
 ⟨h.sl,by rw[h.len,zsc],λ j hj=>by
  rw[zsc]at hj;obtain⟨r,h1,h2⟩:=h.row j hj;exact⟨r,h1,by rw[rawM_get];exact h2.raw⟩⟩
def fitM (n m:Nat) (A:Mx):Prop:=∀i j,i<n->j<m->fits (A i j)
theorem zcn {n m:Nat} {A:Mx} {l:List RF} (h:l∈rawM n m A):∃i,i<n/\l=(zxa m (A i)).map RF.of:=by
 obtain⟨i,hi,rfl⟩:=List.mem_map.1 h;exact⟨i,List.mem_range.1 hi,rfl⟩
theorem rawM_ok {n m:Nat} {A:Mx} (hf:fitM n m A):∀l∈rawM n m A,∀x∈l,x.ok:=by
 intro l hl x hx;obtain⟨i,hi,rfl⟩:=zcn hl;obtain⟨q,hq,rfl⟩:=List.mem_map.1 hx;obtain⟨j,hj,rfl⟩:=List.mem_map.1 hq;exact RF.of_ok (hf i j hi (List.mem_range.1 hj))
theorem zyq {n m:Nat} {A:Mx}:∀l∈rawM n m A,l.length=m:=by
 intro l hl;obtain⟨i,hi,rfl⟩:=zcn hl;rw[zMP,zda]
theorem zii {n m:Nat} {A:Mx} (hn:1<=n):((rawM n m A).headD []).length=m:=by
 cases h:rawM n m A with
 | nil=>have:=zsc n m A;rw[h]at this;simp at this;omega
 | cons a l=>exact zyq (A:=A) (n:=n) a (by rw[h];simp)
def wtF (n m:Nat) (A:Mx):Nat:=zqp (rawM n m A)
theorem zwa.setc {w:World} {v:Value} {q:List Rat} (h:zwa w v q) {p:Addr} {x:Value} (hp:(base v).block≠p.block) (hc:w.cell? p=some x) (hx:∀z,x≠ .int .u32 z) (u:Value):zwa (w.setCell p u) v q:=by
 have hne:∀k,p≠ptr v k:=λ k e=>hp (by rw[e,zya])
 refine⟨h.sl,h.len,λ j hj=> ?_⟩;obtain⟨a,b,h1,h2,h3,h4,h5⟩:=h.at' j hj;exact⟨a,b,by rw[zCO _ _ _ _ (hne _)];exact h1,by rw[zCO _ _ _ _ (hne _)];exact h2,by rw[zCO _ _ _ _ (hne _)];exact h3,⟨h4.v.over hc hx u,h4.2⟩,⟨h5.v.over hc hx u,h5.2⟩⟩
theorem fracs_one {w:World} {b:Nat} {x y z:Value} {r:Rat} (hb:zkg w b #[x,y,z]) (hf:zia w (.agg #[x,y,z]) r):zwa w (.slice (some ⟨b,0,none⟩) 1 1) [r]:=by
 obtain⟨a1,b1,ha,h4,h5⟩:=hf;injection ha with ha
 injection ha with ha
 simp only[List.cons.injEq,and_true]at ha;obtain⟨rfl,rfl,rfl⟩:=ha;refine⟨⟨_,1,1,rfl,zLR _,by simp[maxLen],λ e=>by cases e⟩,rfl,λ j hj=> ?_⟩;obtain rfl:j=0:=by simp at hj;omega
 have hp:∀k,ptr (.slice (some ⟨b,0,none⟩) 1 1) k=⟨b,k,none⟩:=λ k=>by simp only[ptr,base,Addr.add_lit,Nat.zero_add]
 exact⟨y,z,by rw[hp];exact hb.cell 0 rfl,by rw[hp];exact hb.cell 1 rfl,by rw[hp];exact hb.cell 2 rfl,h4,h5⟩
theorem mat_one {w:World} {b:Nat} {r:Value} {q:List RF} (hb:zkg w b #[r]) (hq:zlg w r q):MatN w (.slice (some ⟨b,0,none⟩) 1 1) [q]:=by
 refine⟨⟨_,1,1,rfl,zLR _,by simp[maxLen],λ e=>by cases e⟩,rfl,λ j hj=> ?_⟩;obtain rfl:j=0:=by simp at hj;omega
 have hp:∀k,ptr (.slice (some ⟨b,0,none⟩) 1 1) k=⟨b,k,none⟩:=λ k=>by simp only[ptr,base,Addr.add_lit,Nat.zero_add]
 exact⟨r,by rw[hp];exact hb.cell 0 rfl,hq⟩
theorem zxf (l:List Rat):qs (l.map RF.of)=l:=by
 unfold qs;rw[List.map_map];have :(RF.q∘RF.of)=id:=by funext q;exact RF.of_q q
 rw[this,List.map_id]
theorem zoq {n K:Nat} {f:Nat->Rat} (h:∀j,j<n->wt (f j)<=K):wts (zxa n f)<=n*K:=by
 induction n with
 | zero=>simp[zxa,wts]
 | succ n ih=>
   (have h1:=ih λ j hj=>h j zO);have h2:=h n (zSS n);(have e:zxa (n+1) f=zxa n f++ [f n]:=by unfold zxa;rw[List.range_succ,List.map_append];rfl);rw[e,znq,Nat.succ_mul];omega
theorem wts_rawV {n K:Nat} {f:Nat->Rat} (h:∀j,j<n->wt (f j)<=K):wts (qs ((zxa n f).map RF.of))<=n*K:=by
 rw[zxf];exact zoq h
theorem zup {l:List (List RF)} {g:List RF->Nat} {K:Nat} (h:∀x∈l,g x<=K):(l.map g).sum<=l.length*K:=by
 induction l with
 | nil=>simp
 | cons x l ih=>
   have h1:=h x (by simp);(have h2:=ih λ y hy=>h y (by simp[hy]));rw[List.map_cons,List.sum_cons,List.length_cons,Nat.succ_mul];omega
theorem wtF_le {n m K:Nat} {A:Mx} (h:∀i j,i<n->j<m->wt (A i j)<=K):wtF n m A<=n*(m*K):=by
 unfold wtF zqp
 have h2:=zup (l:=rawM n m A) (g:=λ l=>wts (qs l)) (K:=m*K) λ l hl=>by
  obtain⟨i,hi,rfl⟩:=zcn hl;exact wts_rawV λ j hj=>h i j hi hj
 rw[zsc]at h2;exact h2
theorem keep6w {w0 X Y:World} {a1 a2 a3 a4 a5 a6:Addr} {x1 x2 x3 x4 x5 x6:Value} (h:X.cell? a1=some x1/\X.cell? a2=some x2/\X.cell? a3=some x3/\X.cell? a4=some x4/\X.cell? a5=some x5/\X.cell? a6=some x6/\Below w0.heap.size w0 X) (hb:Below X.heap.size X Y):
 Y.cell? a1=some x1/\Y.cell? a2=some x2/\Y.cell? a3=some x3/\Y.cell? a4=some x4/\Y.cell? a5=some x5/\Y.cell? a6=some x6/\Below w0.heap.size w0 Y:=by
 obtain⟨k1,k2,k3,k4,k5,k6,k7⟩:=h;exact⟨zba hb k1,zba hb k2,zba hb k3,zba hb k4,zba hb k5,zba hb k6,zaa k7 hb⟩
theorem zfq {w0 X:World} {a1 a2 a3 a4 a5 a6:Addr} {x1 x2 x3 x4 x5 x6:Value} (h:w0.cell? a1=some x1/\w0.cell? a2=some x2/\w0.cell? a3=some x3/\w0.cell? a4=some x4/\w0.cell? a5=some x5/\w0.cell? a6=some x6) (hb:Below w0.heap.size w0 X):
 X.cell? a1=some x1/\X.cell? a2=some x2/\X.cell? a3=some x3/\X.cell? a4=some x4/\X.cell? a5=some x5/\X.cell? a6=some x6/\Below w0.heap.size w0 X:=by
 obtain⟨k1,k2,k3,k4,k5,k6⟩:=h;exact⟨zba hb k1,zba hb k2,zba hb k3,zba hb k4,zba hb k5,zba hb k6,hb⟩
theorem zfh {w0 X:World} {a1 a2 a3 a4 a5 a6:Addr} {x1 x2 x3 x4 x5 x6:Value} (h:X.cell? a1=some x1/\X.cell? a2=some x2/\X.cell? a3=some x3/\X.cell? a4=some x4/\X.cell? a5=some x5/\X.cell? a6=some x6/\Below w0.heap.size w0 X):Below w0.heap.size w0 X:=h.2.2.2.2.2.2
theorem keep6s {w0 X:World} {a1 a2 a3 a4 a5 a6:Addr} {x1 x2 x3 x4 x5 x6:Value} (h:w0.cell? a1=some x1/\w0.cell? a2=some x2/\w0.cell? a3=some x3/\w0.cell? a4=some x4/\w0.cell? a5=some x5/\w0.cell? a6=some x6) (hb:Below w0.heap.size w0 X) {b:Nat} (hB:w0.heap.size<=b) (x y z:Value):
 (((X.setCell ⟨b,0,none⟩ x).setCell ⟨b,1,none⟩ y).setCell ⟨b,2,none⟩ z).cell? a1=some x1/\(((X.setCell ⟨b,0,none⟩ x).setCell ⟨b,1,none⟩ y).setCell ⟨b,2,none⟩ z).cell? a2=some x2/\(((X.setCell ⟨b,0,none⟩ x).setCell ⟨b,1,none⟩ y).setCell ⟨b,2,none⟩ z).cell? a3=some x3/\
 (((X.setCell ⟨b,0,none⟩ x).setCell ⟨b,1,none⟩ y).setCell ⟨b,2,none⟩ z).cell? a4=some x4/\(((X.setCell ⟨b,0,none⟩ x).setCell ⟨b,1,none⟩ y).setCell ⟨b,2,none⟩ z).cell? a5=some x5/\(((X.setCell ⟨b,0,none⟩ x).setCell ⟨b,1,none⟩ y).setCell ⟨b,2,none⟩ z).cell? a6=some x6/\Below w0.heap.size w0 (((X.setCell ⟨b,0,none⟩ x).setCell ⟨b,1,none⟩ y).setCell ⟨b,2,none⟩ z):=
 zfq h (zga hb hB x y z)
theorem r2add_acc (va vb:Value) (p r:Rat) (x:RF) (w:World) (ha:zia w va p) (hb:zzb w vb x.neg x.n x.d) (hp:fits p) (hx:okN x.n x.d) (hr:p+x.q=r) (hf:fits r):
 Calls Tryz.prog 19 #[va,vb] w (RF0 w r):=by
 refine(r2add_any va vb _ _ _ _ _ _ w ha.raw hb (zvb hp) hx).mono ?_;rw[zmb,show p+fq x.neg x.n x.d=r from hr];rintro e w' ⟨v,er,rfl,h1,h2,_⟩;obtain⟨rfl,h3⟩:=h2 hf;exact⟨v,rfl,h3,h1⟩
set_option maxRecDepth 100000 in
set_option maxHeartbeats 3200000 in
theorem r2sum_fit (va:Value) (l:List RF) (w:World) (ha:zlg w va l) (hok:∀x∈l,x.ok) (hfit:∀k,k<=l.length->fits (zef (qs (l.take k)))):
 Calls Tryz.prog 148 #[va] w (RF0 w (zef (qs l))):=by
 have sa:=ha.sl;have la:=ha.len;have hle:=sa.le;rw[la]at hle;have hlb:l.length<=9223372036854775807:=zO;have HOK:=zH hok;have HFIT:=zH hfit;clear hok hfit hle;have hb0:=(zca w (.cells #[.bool false, .slice none 0 0, .slice none 0 0] 38));have HR0:=zH (C3.new w 38 (.bool false) (.slice none 0 0) (.slice none 0 0));go_enter Tryz.func148,Tryz.ntmps148;go_wp2_with (go_at_call 20;(with_reducible refine(zof _).mono ?_);rintro e1 w1 ⟨v1,rfl,hv1,hb1⟩;obtain⟨t9,a1,l91,k1,a2,l92,k2,rfl⟩:=hv1.iF;have hT:=C3.new w1 38 (.bool t9) (.slice a1 l91 k1) (.slice a2 l92 k2);have hb3:=zca w1 (.cells #[.bool t9, .slice a1 l91 k1, .slice a2 l92 k2] 38);have HV:=zH (hv1.bw hb3);have HB:=zH (zaa (zaa hb0 hb1) hb3);have HR3:=zH ((HR0.o.bS hb1).bS hb3);have hS:w.heap.size<w1.heap.size:=(HR0.o.bS hb1).lt);generalize w1.alloc (.cells #[.bool t9, .slice a1 l91 k1, .slice a2 l92 k2] 38)=W1 at *
 generalize w1.heap.size=S at *
 clear hb0 hb1 hb3 hv1;go_loopg [5] (l.length) (λ g u5 wr=>∃ (k:Nat) (v0 v1 v2:Value),k<=l.length/\g=l.length-k/\u5= .int .i64 k/\C3 wr S v0 v1 v2/\zia wr (.agg #[v0,v1,v2]) (zef (qs (l.take k)))/\C3 wr w.heap.size (.bool false) (.slice none 0 0) (.slice none 0 0)/\Below w.heap.size w wr);case atStart=>exact⟨0,_,_,_,zZL _,rfl,rfl,hT,HV.o,HR3.o,HB.o⟩
 case round=>
  obtain⟨k,v0,v1,v2,hk,hg,rfl,hs,hf,hr,hbr⟩:=hrel;obtain⟨s0,b1,m1,j1,b2,m2,j2,rfl,rfl,rfl⟩:=C3.frac hf;obtain⟨w2,hw2⟩:∃w2,w2=wr:=⟨_,rfl⟩;subst hw2;have HS:=zH hs;have HR:=zH hr;have HF:=zH hf;have HBR:=zH hbr;clear hT HV HR3 HB hf;obtain⟨_,s1,s2,s3,s4,s5,s6⟩:=hs;obtain⟨_,q1,q2,q3,q4,q5,q6⟩:=hr;by_cases hkl:k<l.length
  ·obtain⟨xa,xb,c1,c2,c3,hxa,hxb⟩:=(ha.bw hbr).at' k hkl;obtain⟨c1a,c1l,c1k,rfl,_⟩:=hxa.slen.1;obtain⟨c2a,c2l,c2k,rfl,_⟩:=hxb.slen.1;have HO:zI (okN l[k].n l[k].d):=zH (HOK.o l[k] (zGM hkl));have HQ:=zH (HFIT.o k hk);have HE:zI (zef (qs (l.take k))+(l[k]'hkl).q=zef (qs (l.take (k+1)))):=zH (lsum_qs l k hkl).symm;have HF1:=zH (HFIT.o (k+1) hkl);generalize l[k]'hkl=x at *
   have HA:zI (zzb w2 (.agg #[.bool x.neg, .slice c1a c1l c1k, .slice c2a c2l c2k]) x.neg x.n x.d):=zH ⟨_,_,rfl,hxa,hxb⟩;have S0:=zH (zAI s1 (zAI s2 (zAI s3 (zAI c1 (zAI c2 c3)))));have i1:(0:Int)<=(k:Int):=zO;have i2:(k:Int)<(l.length:Nat):=zO;clear hxa hxb s1 s2 s3 s4 s5 s6 q1 q2 q3 q4 q5 q6 c1 c2 c3 hbr;go_wp2_with fail;go_cut [6,7] (λ u6 u7 wy=>∃ (b6:Nat) (t':Bool) (x' y':Value),u6= .pointer (some ⟨b6,0,none⟩)/\u7= .int .i64 0/\C3 wy b6 (.bool t') x' y'/\zia wy (.agg #[.bool t',x',y']) (zef (qs (l.take (k+1))))/\Below w2.heap.size w2 wy)
   case first =>
    go_region_held3 (λ w'=>w'.cell? ⟨S,0,none⟩=some (.bool s0)/\w'.cell? ⟨S,1,none⟩=some (.slice b1 m1 j1)/\w'.cell? ⟨S,2,none⟩=some (.slice b2 m2 j2)/\w'.cell? (ptr va (k*3))=some (.bool x.neg)/\w'.cell? (ptr va (k*3+1))=some (.slice c1a c1l c1k)/\w'.cell? (ptr va (k*3+2))=some (.slice c2a c2l c2k)/\Below w2.heap.size w2 w') (first
     | with_reducible exact zfq S0.o (zfa _)
     | with_reducible exact keep6w (by assumption) (zca _ _)
     | with_reducible exact keep6w (by assumption) (by assumption)
     | with_reducible exact zfq S0.o (zaa hB31 (zca _ _))
     | with_reducible exact keep6s S0.o hB31 (zLR _) _ _ _) (first
     |(go_at_call 19;(with_reducible refine(r2add_acc _ _ (zef (qs (l.take k))) (zef (qs (l.take (k+1)))) x _ (HF.o.bw (zfh (by assumption))) (HA.o.bw (zfh (by assumption))) HQ.o HO.o HE.o HF1.o).mono ?_);rintro e31 w31 ⟨v31,rfl,hv31,hb31⟩;obtain⟨t31,a311,l311,k311,a312,l312,k312,rfl⟩:=hv31.iF;have hB31:=zaa (zfh (by assumption)) hb31;have hc5:=(fun(p:Addr) hp=>hb31.cell (p:=p) hp);have hf5:=(fun(p:Addr) hp=>hb31.frozen (p:=p) hp);have zq:=hb31.size;(try simp only[zgj,zsm]at zq);(try have z1:w2.heap.size<w31.heap.size:=zO)))
    all_goals
     have hE:=zfh (by assumption);go_wp2_with fail;go_meet
     case rel=>
      first
       | exact⟨_,_,_,_,rfl,rfl,C3.new w31 _ _ _ _,hv31.bw (zca _ _),hE⟩
       | exact⟨_,_,_,_,rfl,rfl,(((C3.newB (b:=w2.heap.size) w2 38 (.bool false) (.slice none 0 0) (.slice none 0 0) rfl).bS (zfa _)).bS hb31).set _ _ _,hv31.set3 (((C3.newB (b:=w2.heap.size) w2 38 (.bool false) (.slice none 0 0) (.slice none 0 0) rfl).bS (zfa _)).bS hb31) zZ zZ _ _ _,hE⟩
   case rest=>
    obtain⟨b6,t6,x6,y6,rfl,rfl,hC6,hv6,hb6⟩:=hcut;obtain⟨w3,hw3⟩:∃w3,w3=wc:=⟨_,rfl⟩;subst hw3;have hv6':=hv6;obtain⟨_,_,_,hF6,⟨a61,l61,k61,rfl,_⟩,⟨a62,l62,k62,rfl,_⟩⟩:=hv6'.isF;(injection hF6 with hF6);(injection hF6 with hF6);simp only[List.cons.injEq,and_true,Value.bool.injEq]at hF6;obtain⟨rfl,rfl,rfl⟩:=hF6;have HS3:=zH (HS.o.bS hb6);have HR3:=zH (HR.o.bS hb6);have HB3:=zH (zaa HBR.o hb6);obtain⟨_,e1,e2,e3,_,_,_⟩:=id hC6;obtain⟨_,s1,s2,s3,s4,s5,s6⟩:=HS3.o;go_wp2_with fail;go_roundg (l.length- (k+1));(case measure=>omega);case rel=>exact⟨k+1,_,_,_,hkl,rfl,by go_num,HS3.o.set _ _ _,hv6.set3 HS3.o zZ zZ _ _ _,HR3.o.set_other zO _ _ _,zga HB3.o zO _ _ _⟩
  ·obtain rfl:k=l.length:=zO;have HF2:zI (zia w2 (.agg #[.bool s0, .slice b1 m1 j1, .slice b2 m2 j2]) (zef (qs l))):=zH (by have h5:=HF.o;rw[List.take_length]at h5;exact h5);clear HF;go_wp2;refine zla rfl rfl Tryz.aggF Tryz.sizeF (HR.o.set _ _ _) rfl ?_;exact⟨_,rfl,HF2.o.set3 HR.o zZ zZ _ _ _,zga hbr (zLR _) _ _ _⟩
end Go.Proofs.YtlpdkbmmbdfoiaaGreat
