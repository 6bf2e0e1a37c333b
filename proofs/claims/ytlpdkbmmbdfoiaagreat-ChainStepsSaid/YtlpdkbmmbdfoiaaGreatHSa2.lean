/-
  package drydocksame: Frac.
-/
import Derived.Test.YtlpdkbmmbdfoiaaGreatHOv
import Derived.Test.YtlpdkbmmbdfoiaaGreatHGn
import Derived.Test.YtlpdkbmmbdfoiaaGreatHRb8
import Derived.Test.YtlpdkbmmbdfoiaaGreatHSa1
import Derived.RegionTactic
import Derived.ChangeAlike
set_option linter.unusedVariables false
set_option linter.unusedSimpArgs false
namespace Go.Proofs.YtlpdkbmmbdfoiaaGreat
def fp (z:Nat→Bool):Nat→Nat→Nat
 | 0,r=>r
 | f+1,r=>if z r=true then r else fp z f (r+1)
theorem fp_ge (z:Nat→Bool) (f r:Nat):r≤fp z f r∧fp z f r≤r+f:=by
 induction f generalizing r with
 | zero=>exact⟨Nat.le_refl _,Nat.le_refl _⟩
 | succ f ih=>rw[fp];have:=ih (r+1);split<;>omega
theorem fp_before (z:Nat→Bool) (f r:Nat):∀i,r≤i→i<fp z f r→z i=false:=by
 induction f generalizing r with
 | zero=>intro i h1 h2;rw[fp]at h2;omega
 | succ f ih=>
   intro i h1 h2
   rw[fp]at h2
   split at h2
   ·omega
   ·next h=>
    rcases Nat.eq_or_lt_of_le h1 with h3 | h3
    ·subst h3;simpa using h
    ·exact ih (r+1) i h3 h2
theorem fp_at (z:Nat→Bool) (f r:Nat) (h:fp z f r<r+f):z (fp z f r)=true:=by
 induction f generalizing r with
 | zero=>rw[fp]at h;omega
 | succ f ih=>
   rw[fp]at h ⊢
   split
   ·next h1=>exact h1
   ·next h1=>rw[if_neg h1]at h;exact ih (r+1) (by omega)
theorem fp_eq {z:Nat→Bool} {f r k:Nat} (h1:r≤k) (h2:k≤r+f) (h3:∀i,r≤i→i<k→z i=false) (h4:k<r+f→z k=true):fp z f r=k:=by
 have g1:=fp_ge z f r
 rcases Nat.lt_trichotomy (fp z f r) k with h | h | h
 ·have:=fp_at z f r (by omega)
  rw[h3 _ g1.1 h]at this;cases this
 ·exact h
 ·have:=fp_before z f r k h1 h
  rw[h4 (by omega)]at this;cases this
abbrev Mx :=Nat→Nat→Rat
def swp (A:Mx) (a b:Nat):Mx:=fun i=>if i=a then A b else if i=b then A a else A i
structure St where
 A:Mx
 r:Nat
 d:Rat
def act (below:Bool) (A:Mx) (r k i:Nat):Prop:=i≠r∧¬ (below=true∧i<r)∧A i k≠0
instance (below :Bool) (A:Mx) (r k i:Nat):Decidable (act below A r k i):=inferInstanceAs (Decidable (_∧_∧_))
def znj (below:Bool) (A:Mx) (r k:Nat):Mx:=fun i j=>if act below A r k i∧k≤j then A i j-A i k/A r k*A r j else A i j
def pvt (n k:Nat) (S:St):Nat:=fp (fun i=>decide (S.A i k≠0)) (n-S.r) S.r
def zzf (below:Bool) (n k:Nat) (S:St):St:=
 if pvt n k S<n then⟨znj below (swp S.A S.r (pvt n k S)) S.r k,S.r+1,(if pvt n k S=S.r then S.d else -S.d)*swp S.A S.r (pvt n k S) S.r k⟩else S
def elim (below:Bool) (n:Nat) (A:Mx):Nat→St
 | 0=>⟨A,0,1⟩
 | k+1=>zzf below n k (elim below n A k)
theorem zue (below:Bool) (n:Nat) (A:Mx) (k:Nat):(elim below n A k).r≤n∧(elim below n A k).r≤k:=by
 induction k with
 | zero=>exact⟨Nat.zero_le _,Nat.le_refl _⟩
 | succ k ih=>
   rw[elim,zzf]
   have:=fp_ge (fun i=>decide ((elim below n A k).A i k≠0)) (n- (elim below n A k).r) (elim below n A k).r
   split
   ·next h=>unfold pvt at h;show(elim below n A k).r+1≤n∧(elim below n A k).r+1≤k+1;omega
   ·omega
theorem estep_stop {below:Bool} {n k:Nat} {S:St} (h:n≤S.r):zzf below n k S=S:=by
 have:=fp_ge (fun i=>decide (S.A i k≠0)) (n-S.r) S.r
 rw[zzf,if_neg (by unfold pvt;omega)]
theorem elim_stop {below:Bool} {n:Nat} {A:Mx} {k:Nat} (h:(elim below n A k).r=n):∀j,k≤j→elim below n A j=elim below n A k
 | 0,hj=>by obtain rfl:k=0:=by omega
            rfl
 | j+1,hj=>by
   rcases Nat.eq_or_lt_of_le hj with h1 | h1
   ·rw[h1]
   ·have ih:=elim_stop h j (by omega)
    rw[elim,ih,estep_stop (by omega)]
def fitE (below:Bool) (n m k:Nat) (S:St):Prop:=
 pvt n k S<n→fits (-S.d)∧fits ((if pvt n k S=S.r then S.d else -S.d)*swp S.A S.r (pvt n k S) S.r k)∧
  ∀i,i<n→act below (swp S.A S.r (pvt n k S)) S.r k i→fits (swp S.A S.r (pvt n k S) i k/swp S.A S.r (pvt n k S) S.r k)∧
   ∀j,j<m→k≤j→fits (swp S.A S.r (pvt n k S) i k/swp S.A S.r (pvt n k S) S.r k*swp S.A S.r (pvt n k S) S.r j)∧
    fits (swp S.A S.r (pvt n k S) i j-swp S.A S.r (pvt n k S) i k/swp S.A S.r (pvt n k S) S.r k*swp S.A S.r (pvt n k S) S.r j)
theorem over.zero' {D B:Nat} {z:Int} (hD:D≠0) (h:mkRat z D≠0):z≠0:=fun e=>h (by rw[e];simp)
theorem div_mk {y z:Int} {D:Nat} (hD:D≠0) (hz:z≠0):mkRat y D/mkRat z D=mkRat (y*z.sign) z.natAbs:=by
 have hn:z.natAbs≠0:=by omega
 have hq:mkRat z D≠0:=fun e=>hz ((Rat.mkRat_eq_zero hD).1 e)
 have e:mkRat y D=mkRat (y*z.sign) z.natAbs*mkRat z D:=by
  rw[Rat.mkRat_mul_mkRat,Int.mul_assoc,Int.sign_mul_self,Int.mul_comm y]
  exact(Rat.mkRat_mul_left hn).symm
 rw[e,Rat.mul_div_cancel hq]
theorem over.quo {D B:Nat} {p:Rat} {z:Int} (hD:D≠0) (hp:over D B p) (hz:z≠0):over z.natAbs B (p/mkRat z D):=by
 obtain⟨y,rfl,h1⟩:=hp
 refine⟨y*z.sign,div_mk hD hz,?_⟩
 rw[Int.natAbs_mul,Int.natAbs_sign_of_ne_zero hz,Nat.mul_one]
 exact h1
theorem over.sub {D A B:Nat} {p q:Rat} (hD:D≠0) (hp:over D A p) (hq:over D B q):over D (A+B) (p-q):=by
 rw[Rat.sub_eq_add_neg];exact over.add hD hp (over.neg hq)
def overT (n m D B:Nat) (A:Mx):Prop:=∀i j,i<n→j<m→over D B (A i j)
def slim4 (x:Nat×Nat×Nat×Nat):Prop:=x.1<2^4096∧x.2.1<2^4096∧x.2.2.1<2^4096∧x.2.2.2<2^4096
instance (x :Nat×Nat×Nat×Nat):Decidable (slim4 x):=inferInstanceAs (Decidable (_∧_∧_∧_))
theorem zek {A:Mx} {a b:Nat}:swp A a b a=A b:=by unfold swp;rw[if_pos rfl]
theorem pvt_ne {n k:Nat} {S:St} (hn:S.r≤n) (h:pvt n k S<n):S.A (pvt n k S) k≠0:=by
 have:=fp_at (fun i=>decide (S.A i k≠0)) (n-S.r) S.r (by unfold pvt at h;omega)
 unfold pvt
 simpa using this
theorem zvk (n k:Nat) (S:St):S.r≤pvt n k S:=(fp_ge _ _ _).1
end Go.Proofs.YtlpdkbmmbdfoiaaGreat
namespace Go.Proofs.YtlpdkbmmbdfoiaaGreat
open Go.RowKit
section
variable {w:World} {e:TypeId} {B size n:Nat} {v:Value} {xs:List Value}
theorem zlc.set1 (h:zlc w e B size v n xs) (j:Nat) (hj:j<xs.length) (u:Value) (hu:∀z,u≠ .int .u32 z):
 zlc (w.setCell (ptr v j) u) e B size v n (xs.set j u)∧w.grownBy (w.setCell (ptr v j) u) v.ownBlock:=by
 have hl:=h.own.1
 rcases h.own.2 with⟨rfl,h0⟩ | ⟨g,cap,cur,rfl,hb,hg,hn,hm,hs,ht⟩
 ·rw[h0]at hl;omega
 ·have hp:ptr (.slice (some ⟨g,0,none⟩) n cap) j=⟨g,j,none⟩:=by simp only[ptr,base,Addr.add_lit,Nat.zero_add]
  have hst:=World.ownsRow.stored h.own j u
  rw[hp]
  refine⟨⟨hst.1,?_⟩,hst.2⟩
  intro g' hg' cur' e' fz hc c hcc
  simp only[Value.ownBlock,Option.some.injEq]at hg'
  subst hg'
  rw[heap_setCell_same w g j cur e u hg]at hc
  injection hc with hc
  injection hc with hc _ _
  subst hc
  rw[Array.toList_setIfInBounds]at hcc
  rcases List.mem_or_eq_of_mem_set hcc with h' | h'
  ·exact h.nl g rfl cur e _ hg c h'
  ·subst h';exact hu
theorem zlc.frozen (h:zlc w e B size v n xs) (j:Nat) (hj:j<xs.length):w.frozen? (ptr v j)=false:=by
 have hl:=h.own.1
 obtain⟨ho,_⟩:=h
 rcases ho.2 with⟨rfl,h0⟩ | ⟨g,cap,cur,rfl,hb,hg,hn,hm,hs,ht⟩
 ·rw[h0]at hl;omega
 ·have:=World.ownsRow.frozenAt ho j
  simpa only[ptr,base,Addr.add_lit,Nat.zero_add]using this
theorem zlc.blk (h:zlc w e B size v n xs) (hx:0<xs.length):∃g,v.ownBlock=some g∧(base v).block=g∧B≤g∧g<w.heap.size∧∀j,ptr v j=⟨g,j,none⟩:=by
 have hl:=h.own.1
 have hbl:=h.block
 rcases h.own.2 with⟨rfl,h0⟩ | ⟨g,cap,cur,rfl,hb,hg,hn,hm,hs,ht⟩
 ·rw[h0]at hl;omega
 ·exact⟨g,rfl,rfl,(hbl g rfl).1,(hbl g rfl).2,fun j=>by simp only[ptr,base,Addr.add_lit,Nat.zero_add]⟩
end
theorem zle {a b c:World} {r:Option Nat} (h:a.grownBy b r) (k:b.grownBy c r):a.grownBy c r:=zsc h k
section
variable {w:World} {e:TypeId} {B:Nat} {v:Value} {q:List Rat}
theorem zya.frozen (h:zya w e B v q) (k:Nat) (hk:k<q.length*3):w.frozen? (ptr v k)=false:=by
 obtain⟨xs,h1,_⟩:=h
 exact h1.frozen k (by rw[h1.clen];exact hk)
theorem zya.blk (h:zya w e B v q) (hq:0<q.length):∃g,v.ownBlock=some g∧(base v).block=g∧B≤g∧g<w.heap.size∧∀j,ptr v j=⟨g,j,none⟩:=by
 obtain⟨xs,h1,_⟩:=h
 exact h1.blk (by rw[h1.clen];omega)
theorem zya.inj (h:zya w e B v q) (hq:0<q.length) {i j:Nat} (hij:i≠j):ptr v i≠ptr v j:=by
 obtain⟨g,_,_,_,_,hp⟩:=h.blk hq
 rw[hp,hp]
 intro h;injection h with h1 h2;exact hij h2
theorem zya.noLimb (h:zya w e B v q):zlb w v:=by obtain⟨xs,h1,_⟩:=h;exact h1.nl
theorem zya.put (h:zya w e B v q) {i:Nat} (hi:i<q.length) {x y z:Value} {r:Rat} (hf:zqa w (.agg #[x,y,z]) r):
 zya (((w.setCell (ptr v (i*3)) x).setCell (ptr v (i*3+1)) y).setCell (ptr v (i*3+2)) z) e B v (q.set i r)∧
  w.grownBy (((w.setCell (ptr v (i*3)) x).setCell (ptr v (i*3+1)) y).setCell (ptr v (i*3+2)) z) v.ownBlock:=by
 obtain⟨xs,h1,h2⟩:=h
 obtain⟨a,b,ha,h4,h5⟩:=id hf
 injection ha with ha
 injection ha with ha
 simp only[List.cons.injEq,and_true]at ha
 obtain⟨rfl,rfl,rfl⟩:=ha
 have hl:=h1.clen
 have ny:∀k,y≠ .int .u32 k:=fun k=>by obtain⟨a1,n1,c1,e1,_⟩:=h4.v.sl;subst e1;simp
 have nz:∀k,z≠ .int .u32 k:=fun k=>by obtain⟨a1,n1,c1,e1,_⟩:=h5.v.sl;subst e1;simp
 obtain⟨s1,g1⟩:=h1.set1 (i*3) (by omega) (.bool (decide (r<0))) (fun k=>by simp)
 obtain⟨s2,g2⟩:=s1.set1 (i*3+1) (by rw[List.length_set];omega) y ny
 obtain⟨s3,g3⟩:=s2.set1 (i*3+2) (by rw[List.length_set,List.length_set];omega) z nz
 have gg:=zle (zle g1 g2) g3
 refine⟨⟨_,by rw[List.length_set];exact s3,fun j hj=> ?_⟩,gg⟩
 rw[List.length_set]at hj
 by_cases hij:i=j
 ·subst hij
  refine⟨y,z,?_,?_,?_,?_,?_⟩
  ·rw[List.getElem?_set_ne (by omega),List.getElem?_set_ne (by omega),List.getElem?_set_self (by omega),List.getElem_set_self]
  ·rw[List.getElem?_set_ne (by omega),List.getElem?_set_self (by rw[List.length_set];omega)]
  ·rw[List.getElem?_set_self (by rw[List.length_set,List.length_set];omega)]
  ·rw[List.getElem_set_self];exact h4.grown gg h1.nl
  ·rw[List.getElem_set_self];exact h5.grown gg h1.nl
 ·obtain⟨a,b,e1,e2,e3,e4,e5⟩:=h2 j hj
  rw[List.getElem_set_ne hij]
  refine⟨a,b,?_,?_,?_,e4.grown gg h1.nl,e5.grown gg h1.nl⟩
  ·rw[List.getElem?_set_ne (by omega),List.getElem?_set_ne (by omega),List.getElem?_set_ne (by omega)];exact e1
  ·rw[List.getElem?_set_ne (by omega),List.getElem?_set_ne (by omega),List.getElem?_set_ne (by omega)];exact e2
  ·rw[List.getElem?_set_ne (by omega),List.getElem?_set_ne (by omega),List.getElem?_set_ne (by omega)];exact e3
end
def zjf (w:World) (T:Nat) (cs:Array Value):Prop:=∃ty,w.heap[T]? =some (.cells cs ty (0,0))
section
variable {w w':World} {T:Nat} {cs:Array Value}
theorem zjf.new (w:World) (cs:Array Value) (ty:TypeId):zjf (w.alloc (.cells cs ty)) w.heap.size cs:=⟨ty,heap_alloc_new w _⟩
theorem zjf.lt (h:zjf w T cs):T<w.heap.size:=by obtain⟨ty,h⟩:=h;exact(Array.getElem?_eq_some_iff.1 h).1
theorem zjf.cell (h:zjf w T cs) (j:Nat) {u:Value} (hu:cs[j]? =some u):w.cell? ⟨T,j,none⟩=some u:=by
 obtain⟨ty,h⟩:=h
 simp[World.cell?,h,hu]
theorem zjf.frozen (h:zjf w T cs) (j:Nat):w.frozen? ⟨T,j,none⟩=false:=by
 obtain⟨ty,h⟩:=h
 simp[World.frozen?,h]
theorem zjf.set (h:zjf w T cs) (j:Nat) (u:Value):zjf (w.setCell ⟨T,j,none⟩ u) T (cs.setIfInBounds j u):=by
 obtain⟨ty,h⟩:=h
 exact⟨ty,heap_setCell_same w T j cs ty u h⟩
theorem zjf.below (h:zjf w T cs) (hb:Below w.heap.size w w'):zjf w' T cs:=by
 have hlt:=h.lt
 obtain⟨ty,h⟩:=h
 exact⟨ty,by rw[hb.block T hlt];exact h⟩
theorem zjf.grown {r:Option Nat} (h:zjf w T cs) (hg:w.grownBy w' r) (hr:r≠some T):zjf w' T cs:=by
 have hlt:=h.lt
 obtain⟨ty,h⟩:=h
 exact⟨ty,by rw[hg.block T hlt hr.symm];exact h⟩
end
def zib (m:Nat) (f:Nat→Rat):List Rat:=(List.range m).map f
theorem zea (m:Nat) (f:Nat→Rat):(zib m f).length=m:=by simp[zib]
theorem ztb (m:Nat) (f:Nat→Rat) (j:Nat) (h:j<(zib m f).length):(zib m f)[j]=f j:=by simp[zib]
theorem zdf {m:Nat} {f g:Nat→Rat} (h:∀j,j<m→f j=g j):zib m f=zib m g:=
 List.map_congr_left fun j hj=>h j (List.mem_range.1 hj)
theorem rowL_set (m:Nat) (f:Nat→Rat) (i:Nat) (r:Rat):(zib m f).set i r=zib m (fun j=>if j=i then r else f j):=by
 refine List.ext_getElem (by rw[List.length_set,zea,zea]) fun j h1 h2=> ?_
 rw[ztb]
 by_cases h:j=i
 ·subst h;rw[List.getElem_set_self,if_pos rfl]
 ·rw[List.getElem_set_ne (fun e=>h e.symm),if_neg h,ztb]
def upd (A:Mx) (i j:Nat) (r:Rat):Mx:=fun a b=>if a=i∧b=j then r else A a b
structure znd (w:World) (T:Nat) (vR:Value) (rs:List Value) (n m:Nat) (A:Mx) (wd rk:Nat) (d:Rat):Prop where
 box:∃a b,zjf w T #[vR, .int .i64 wd, .int .i64 rk, .bool (decide (d<0)),a,b, .int .i64 0]∧zjb w a d.num.natAbs∧zjb w b d.den
 own:zlc w 25 (T+1) 1 vR rs.length rs
 rl:rs.length=n
 mp:0<m
 row:∀ (i:Nat) (h:i<rs.length),zya w 38 (T+1) rs[i] (zib m (A i))
 ap:∀ (i j:Nat) (hi:i<rs.length) (hj:j<rs.length),i≠j→rs[i].ownBlock≠rs[j].ownBlock
section
variable {w w':World} {T n m wd rk:Nat} {vR:Value} {rs:List Value} {A:Mx} {d:Rat}
theorem znd.lt (h:znd w T vR rs n m A wd rk d):T<w.heap.size:=by obtain⟨a,b,hb,_⟩:=h.box;exact hb.lt
theorem znd.below (h:znd w T vR rs n m A wd rk d) (hb:Below w.heap.size w w'):znd w' T vR rs n m A wd rk d:=by
 obtain⟨a,b,h1,h2,h3⟩:=h.box
 exact⟨⟨a,b,h1.below hb,h2.below hb,h3.below hb⟩,h.own.below hb,h.rl,h.mp,fun i hi=>(h.row i hi).moves (zhb.below (B:=T+1) hb) (Nat.le_refl _),h.ap⟩
theorem znd.congr {A':Mx} (h:znd w T vR rs n m A wd rk d) (hA:∀i j,i<n→j<m→A i j=A' i j):znd w T vR rs n m A' wd rk d:=
 ⟨h.box,h.own,h.rl,h.mp,fun i hi=>by rw[←zdf (fun j hj=>hA i j (by rw[←h.rl];exact hi) hj)];exact h.row i hi,h.ap⟩
theorem znd.elem (h:znd w T vR rs n m A wd rk d) {i j:Nat} (hi:i<rs.length) (hj:j<m):
 ∃a b,w.cell? (ptr rs[i] (j*3))=some (.bool (decide (A i j<0)))∧w.cell? (ptr rs[i] (j*3+1))=some a∧w.cell? (ptr rs[i] (j*3+2))=some b∧zjb w a (A i j).num.natAbs∧zjb w b (A i j).den:=by
 obtain⟨a,b,h1,h2,h3,h4,h5⟩:=(h.row i hi).fracs.at' j (by rw[zea];exact hj)
 rw[ztb]at h1 h4 h5
 exact⟨a,b,h1,h2,h3,h4,h5⟩
theorem znd.put (h:znd w T vR rs n m A wd rk d) {i j:Nat} (hi:i<rs.length) (hj:j<m) {x y z:Value} {r:Rat} (hf:zqa w (.agg #[x,y,z]) r):
 znd (((w.setCell (ptr rs[i] (j*3)) x).setCell (ptr rs[i] (j*3+1)) y).setCell (ptr rs[i] (j*3+2)) z) T vR rs n m (upd A i j r) wd rk d∧
  Below T w (((w.setCell (ptr rs[i] (j*3)) x).setCell (ptr rs[i] (j*3+1)) y).setCell (ptr rs[i] (j*3+2)) z):=by
 have hT:=h.lt
 obtain⟨⟨a,b,h1,h2,h3⟩,own,rl,mp,row,ap⟩:=h
 have hr:=row i hi
 obtain⟨hp,gg⟩:=hr.put (i:=j) (by rw[zea];exact hj) hf
 have hnl:=hr.noLimb
 obtain⟨g,hg,_,hgT,hgw,_⟩:=hr.blk (by rw[zea];exact mp)
 have hgT':rs[i].ownBlock≠some T:=by rw[hg];intro e;injection e with e;omega
 obtain⟨ys,y1,y2⟩:=id hr
 refine⟨⟨⟨a,b,h1.grown gg hgT',h2.grown gg hnl,h3.grown gg hnl⟩,own.grown gg (own.kinds y1 (by decide)),rl,mp,fun k hk=> ?_,ap⟩,zna gg (by omega) (fun k hk=>by rw[hg]at hk;injection hk with hk;omega)⟩
 by_cases hki:k=i
 ·subst hki
  rw[rowL_set]at hp
  have e:zib m (upd A k j r k)=zib m (fun b=>if b=j then r else A k b):=zdf fun b _=>by
   unfold upd
   by_cases hb:b=j
   ·rw[if_pos ⟨rfl,hb⟩,if_pos hb]
   ·rw[if_neg (fun h=>hb h.2),if_neg hb]
  rw[e];exact hp
 ·have e:zib m (upd A i j r k)=zib m (A k):=zdf fun b _=>by unfold upd;rw[if_neg (fun h=>hki h.1)]
  rw[e]
  exact(row k hk).grown gg hnl (Or.inr (ap k i hk hi hki))
theorem znd.setDet (h:znd w T vR rs n m A wd rk d) {x y z:Value} {r:Rat} (hf:zqa w (.agg #[x,y,z]) r):
 znd (((w.setCell ⟨T,3,none⟩ x).setCell ⟨T,4,none⟩ y).setCell ⟨T,5,none⟩ z) T vR rs n m A wd rk r∧Below T w (((w.setCell ⟨T,3,none⟩ x).setCell ⟨T,4,none⟩ y).setCell ⟨T,5,none⟩ z):=by
 obtain⟨⟨a,b,h1,h2,h3⟩,own,rl,mp,row,ap⟩:=h
 obtain⟨p,q,ha,h4,h5⟩:=id hf
 injection ha with ha
 injection ha with ha
 simp only[List.cons.injEq,and_true]at ha
 obtain⟨rfl,rfl,rfl⟩:=ha
 obtain⟨a1,a2,a3,rfl,_⟩:=h2.v.sl
 obtain⟨b1,b2,b3,rfl,_⟩:=h3.v.sl
 have s1:=h1.set 3 (.bool (decide (r<0)))
 have s2:=s1.set 4 y
 have s3:=s2.set 5 z
 have m1:=zhb.set (B:=T+1) (p:=⟨T,3,none⟩) (Nat.lt_succ_self T) (h1.cell 3 rfl) (fun z=>by simp) (.bool (decide (r<0)))
 have m2:=zhb.set (B:=T+1) (p:=⟨T,4,none⟩) (Nat.lt_succ_self T) (s1.cell 4 rfl) (fun z=>by simp) y
 have m3:=zhb.set (B:=T+1) (p:=⟨T,5,none⟩) (Nat.lt_succ_self T) (s2.cell 5 rfl) (fun z=>by simp) z
 have mm:=(m1.trans m2).trans m3
 exact⟨⟨⟨y,z,s3,h4.moves mm,h5.moves mm⟩,own.moves mm (Nat.le_refl _),rl,mp,fun i hi=>(row i hi).moves mm (Nat.le_refl _),ap⟩,
  (((Below.refl T w).setCell (p:=⟨T,3,none⟩) (Nat.le_refl _) _).setCell (p:=⟨T,4,none⟩) (Nat.le_refl _) _).setCell (p:=⟨T,5,none⟩) (Nat.le_refl _) _⟩
theorem znd.setRank (h:znd w T vR rs n m A wd rk d) (k:Nat):
 znd (w.setCell ⟨T,2,none⟩ (.int .i64 k)) T vR rs n m A wd k d∧Below T w (w.setCell ⟨T,2,none⟩ (.int .i64 k)):=by
 obtain⟨⟨a,b,h1,h2,h3⟩,own,rl,mp,row,ap⟩:=h
 have mm:=zhb.set (B:=T+1) (p:=⟨T,2,none⟩) (Nat.lt_succ_self T) (h1.cell 2 rfl) (fun z=>by simp) (.int .i64 k)
 exact⟨⟨⟨a,b,h1.set 2 (.int .i64 k),h2.moves mm,h3.moves mm⟩,own.moves mm (Nat.le_refl _),rl,mp,fun i hi=>(row i hi).moves mm (Nat.le_refl _),ap⟩,
  (Below.refl T w).setCell (p:=⟨T,2,none⟩) (Nat.le_refl _) _⟩
theorem znd.swap (h:znd w T vR rs n m A wd rk d) {i j:Nat} (hi:i<rs.length) (hj:j<rs.length) (hij:i≠j):
 znd ((w.setCell (ptr vR i) rs[j]).setCell (ptr vR j) rs[i]) T vR ((rs.set i rs[j]).set j rs[i]) n m (swp A i j) wd rk d∧Below T w ((w.setCell (ptr vR i) rs[j]).setCell (ptr vR j) rs[i]):=by
 have hT:=h.lt
 obtain⟨⟨a,b,h1,h2,h3⟩,own,rl,mp,row,ap⟩:=h
 have hn:∀k (hk:k<rs.length) z,rs[k]≠ .int .u32 z:=fun k hk z=>by
  obtain⟨a1,a2,a3,e1,_⟩:=(row k hk).sl
  rw[e1];simp
 obtain⟨s1,g1⟩:=own.set1 i hi rs[j] (hn j hj)
 obtain⟨s2,g2⟩:=s1.set1 j (by rw[List.length_set];exact hj) rs[i] (hn i hi)
 have gg:=zle g1 g2
 obtain⟨g,hg,_,hgT,hgw,_⟩:=own.blk (by omega)
 have hgT':vR.ownBlock≠some T:=by rw[hg];intro e;injection e with e;omega
 have ge:∀k (hk:k<((rs.set i rs[j]).set j rs[i]).length),∃k',∃hk':k'<rs.length,((rs.set i rs[j]).set j rs[i])[k]=rs[k']∧swp A i j k=A k'∧(k'=if k=j then i else if k=i then j else k):=fun k hk=>by
  have hk0:k<rs.length:=by simpa using hk
  unfold swp
  by_cases e1:k=j
  ·subst e1
   exact⟨i,hi,by rw[List.getElem_set_self],by rw[if_neg (fun e=>hij e.symm),if_pos rfl],by rw[if_pos rfl]⟩
  ·by_cases e2:k=i
   ·subst e2
    exact⟨j,hj,by rw[List.getElem_set_ne (fun e=>e1 e.symm),List.getElem_set_self],by rw[if_pos rfl],by rw[if_neg e1,if_pos rfl]⟩
   ·exact⟨k,hk0,by rw[List.getElem_set_ne (fun e=>e1 e.symm),List.getElem_set_ne (fun e=>e2 e.symm)],by rw[if_neg e2,if_neg e1],by rw[if_neg e1,if_neg e2]⟩
 refine⟨⟨⟨a,b,h1.grown gg hgT',h2.grown gg own.nl,h3.grown gg own.nl⟩,?_,by simp[rl],mp,fun k hk=> ?_,fun k l hk hl hkl=> ?_⟩,zna gg (by omega) (fun k hk=>by rw[hg]at hk;injection hk with hk;omega)⟩
 ·rw[List.length_set,List.length_set];exact s2
 ·obtain⟨k',hk',e1,e2,_⟩:=ge k hk
  obtain⟨ys,y1,y2⟩:=id (row k' hk')
  rw[e1,e2]
  exact(row k' hk').grown gg own.nl (y1.kinds own (by decide))
 ·obtain⟨k',hk',e1,_,f1⟩:=ge k hk
  obtain⟨l',hl',e2,_,f2⟩:=ge l hl
  rw[e1,e2]
  refine ap k' l' hk' hl' ?_
  rw[f1,f2]
  split<;>split<;>(try split)<;>(try split)<;>omega
end
theorem kp2w {w0 X Y:World} {a1 a2:Addr} {x1 x2:Value} (h:X.cell? a1=some x1∧X.cell? a2=some x2∧Below w0.heap.size w0 X) (hb:Below X.heap.size X Y):Y.cell? a1=some x1∧Y.cell? a2=some x2∧Below w0.heap.size w0 Y:=by
 obtain⟨k1,k2,k0⟩:=h
 exact⟨zba hb k1,zba hb k2,zaa k0 hb⟩
theorem kp2a {w0 X:World} {a1 a2:Addr} {x1 x2:Value} (h:w0.cell? a1=some x1∧w0.cell? a2=some x2) (hb:Below w0.heap.size w0 X):X.cell? a1=some x1∧X.cell? a2=some x2∧Below w0.heap.size w0 X:=by
 obtain⟨k1,k2⟩:=h
 exact⟨zba hb k1,zba hb k2,hb⟩
theorem kp2c {w0 X:World} {a1 a2:Addr} {x1 x2:Value} (h:X.cell? a1=some x1∧X.cell? a2=some x2∧Below w0.heap.size w0 X):Below w0.heap.size w0 X:=by
 obtain⟨k1,k2,k0⟩:=h
 exact k0
theorem kp3w {w0 X Y:World} {a1 a2 a3:Addr} {x1 x2 x3:Value} (h:X.cell? a1=some x1∧X.cell? a2=some x2∧X.cell? a3=some x3∧Below w0.heap.size w0 X) (hb:Below X.heap.size X Y):Y.cell? a1=some x1∧Y.cell? a2=some x2∧Y.cell? a3=some x3∧Below w0.heap.size w0 Y:=by
 obtain⟨k1,k2,k3,k0⟩:=h
 exact⟨zba hb k1,zba hb k2,zba hb k3,zaa k0 hb⟩
theorem kp3a {w0 X:World} {a1 a2 a3:Addr} {x1 x2 x3:Value} (h:w0.cell? a1=some x1∧w0.cell? a2=some x2∧w0.cell? a3=some x3) (hb:Below w0.heap.size w0 X):X.cell? a1=some x1∧X.cell? a2=some x2∧X.cell? a3=some x3∧Below w0.heap.size w0 X:=by
 obtain⟨k1,k2,k3⟩:=h
 exact⟨zba hb k1,zba hb k2,zba hb k3,hb⟩
theorem kp3c {w0 X:World} {a1 a2 a3:Addr} {x1 x2 x3:Value} (h:X.cell? a1=some x1∧X.cell? a2=some x2∧X.cell? a3=some x3∧Below w0.heap.size w0 X):Below w0.heap.size w0 X:=by
 obtain⟨k1,k2,k3,k0⟩:=h
 exact k0
theorem kp8w {w0 X Y:World} {a1 a2 a3 a4 a5 a6 a7 a8:Addr} {x1 x2 x3 x4 x5 x6 x7 x8:Value} (h:X.cell? a1=some x1∧X.cell? a2=some x2∧X.cell? a3=some x3∧X.cell? a4=some x4∧X.cell? a5=some x5∧X.cell? a6=some x6∧X.cell? a7=some x7∧X.cell? a8=some x8∧Below w0.heap.size w0 X) (hb:Below X.heap.size X Y):Y.cell? a1=some x1∧Y.cell? a2=some x2∧Y.cell? a3=some x3∧Y.cell? a4=some x4∧Y.cell? a5=some x5∧Y.cell? a6=some x6∧Y.cell? a7=some x7∧Y.cell? a8=some x8∧Below w0.heap.size w0 Y:=by
 obtain⟨k1,k2,k3,k4,k5,k6,k7,k8,k0⟩:=h
 exact⟨zba hb k1,zba hb k2,zba hb k3,zba hb k4,zba hb k5,zba hb k6,zba hb k7,zba hb k8,zaa k0 hb⟩
theorem kp8a {w0 X:World} {a1 a2 a3 a4 a5 a6 a7 a8:Addr} {x1 x2 x3 x4 x5 x6 x7 x8:Value} (h:w0.cell? a1=some x1∧w0.cell? a2=some x2∧w0.cell? a3=some x3∧w0.cell? a4=some x4∧w0.cell? a5=some x5∧w0.cell? a6=some x6∧w0.cell? a7=some x7∧w0.cell? a8=some x8) (hb:Below w0.heap.size w0 X):X.cell? a1=some x1∧X.cell? a2=some x2∧X.cell? a3=some x3∧X.cell? a4=some x4∧X.cell? a5=some x5∧X.cell? a6=some x6∧X.cell? a7=some x7∧X.cell? a8=some x8∧Below w0.heap.size w0 X:=by
 obtain⟨k1,k2,k3,k4,k5,k6,k7,k8⟩:=h
 exact⟨zba hb k1,zba hb k2,zba hb k3,zba hb k4,zba hb k5,zba hb k6,zba hb k7,zba hb k8,hb⟩
theorem kp8c {w0 X:World} {a1 a2 a3 a4 a5 a6 a7 a8:Addr} {x1 x2 x3 x4 x5 x6 x7 x8:Value} (h:X.cell? a1=some x1∧X.cell? a2=some x2∧X.cell? a3=some x3∧X.cell? a4=some x4∧X.cell? a5=some x5∧X.cell? a6=some x6∧X.cell? a7=some x7∧X.cell? a8=some x8∧Below w0.heap.size w0 X):Below w0.heap.size w0 X:=by
 obtain⟨k1,k2,k3,k4,k5,k6,k7,k8,k0⟩:=h
 exact k0
theorem kp8s {w0 X:World} {a1 a2 a3 a4 a5 a6 a7 a8:Addr} {x1 x2 x3 x4 x5 x6 x7 x8:Value} (h:w0.cell? a1=some x1∧w0.cell? a2=some x2∧w0.cell? a3=some x3∧w0.cell? a4=some x4∧w0.cell? a5=some x5∧w0.cell? a6=some x6∧w0.cell? a7=some x7∧w0.cell? a8=some x8) (hb:Below w0.heap.size w0 X) {b:Nat} (hB:w0.heap.size≤b) (x y z:Value):(((X.setCell ⟨b,0,none⟩ x).setCell ⟨b,1,none⟩ y).setCell ⟨b,2,none⟩ z).cell? a1=some x1∧(((X.setCell ⟨b,0,none⟩ x).setCell ⟨b,1,none⟩ y).setCell ⟨b,2,none⟩ z).cell? a2=some x2∧(((X.setCell ⟨b,0,none⟩ x).setCell ⟨b,1,none⟩ y).setCell ⟨b,2,none⟩ z).cell? a3=some x3∧(((X.setCell ⟨b,0,none⟩ x).setCell ⟨b,1,none⟩ y).setCell ⟨b,2,none⟩ z).cell? a4=some x4∧(((X.setCell ⟨b,0,none⟩ x).setCell ⟨b,1,none⟩ y).setCell ⟨b,2,none⟩ z).cell? a5=some x5∧(((X.setCell ⟨b,0,none⟩ x).setCell ⟨b,1,none⟩ y).setCell ⟨b,2,none⟩ z).cell? a6=some x6∧(((X.setCell ⟨b,0,none⟩ x).setCell ⟨b,1,none⟩ y).setCell ⟨b,2,none⟩ z).cell? a7=some x7∧(((X.setCell ⟨b,0,none⟩ x).setCell ⟨b,1,none⟩ y).setCell ⟨b,2,none⟩ z).cell? a8=some x8∧Below w0.heap.size w0 (((X.setCell ⟨b,0,none⟩ x).setCell ⟨b,1,none⟩ y).setCell ⟨b,2,none⟩ z):=
 kp8a h (zga hb hB x y z)
structure zam (w:World) (v:Value) (n m:Nat) (A:Mx):Prop where
 sl:zgc v
 len:slen v=n
 row:∀i,i<n→∃r,w.cell? (ptr v i)=some r∧zbb w r (zib m (A i))
theorem zam.below {w w':World} {v:Value} {n m:Nat} {A:Mx} (h:zam w v n m A) (hb:Below w.heap.size w w'):zam w' v n m A:=
 ⟨h.sl,h.len,fun i hi=>by obtain⟨r,h1,h2⟩:=h.row i hi;exact⟨r,zba hb h1,h2.below hb⟩⟩
theorem zcg {P:Program} (t e:TypeId) (i:TypeInfo) (ht:P.underlying t=some (.slice e)) (hi:P.info? e=some i) (hz:i.zero=some (.agg #[.bool false, .slice none 0 0, .slice none 0 0])) (hsize:i.size=3) (hby:i.bytes=56)
 {ops:Array Oper} {o:Oper} {a:Act} {w:World} {K:Act→World→Prop} {Q:Exit→Act→World→Prop} {E:Prop} (hgd:o.guard=none) (s x:Operand)
 (ho:o.op= .call { callee:= .builtin .append,args:=#[s,x],argTypes:=#[t,t] }) (B:Nat) (v:Value) (q:List Rat) (hs:a.eval s=v) (hown:zya w e B v q) (c0 c1 c2:Value) (r:Rat) (hf:zqa w (.agg #[c0,c1,c2]) r) (g:Nat) (hxe:a.eval x= .slice (some ⟨g,0,none⟩) 1 1)
 (hc:zjf w g #[c0,c1,c2]) (hn:q.length≤1000) (hbase:B≤w.heap.size)
 (h:∀v' w',zya w' e B v' (q++ [r])→w.grownBy w' v.ownBlock→zlb w v→(v'.ownBlock=v.ownBlock∨v'.ownBlock=some w.heap.size)→K (a.put o.dst v') w'):
 if Region.wanted o (yielded ops a.tmps)=true then Oper.wp P o a w K Q else E:=by
 obtain⟨xs,h1,h2⟩:=hown
 have hl:xs.length=q.length*3:=h1.clen
 obtain⟨a1,b1,ha,h4,h5⟩:=id hf
 injection ha with ha
 injection ha with ha
 simp only[List.cons.injEq,and_true]at ha
 obtain⟨rfl,rfl,rfl⟩:=ha
 obtain⟨p1,p2,p3,rfl,_⟩:=h4.v.sl
 obtain⟨s1,s2,s3,rfl,_⟩:=h5.v.sl
 rw[if_pos (by simp[Region.wanted,hgd])]
 obtain⟨v',w',hr,k2,k3,k4,k5⟩:=zwd (P:=P) w B t o.type e i _ 3 56 ht hi hz hsize hby rfl (by decide) v q.length xs h1.own ⟨g,0,none⟩ 1 1 [.bool (decide (r<0)), .slice p1 p2 p3, .slice s1 s2 s3] rfl
  (fun j u hu=>by
   rw[Addr.add_lit,Nat.zero_add]
   exact hc.cell j (by simpa using hu)) (fun u hu=>by simp at hu;rcases hu with rfl | rfl | rfl<;>rfl) (by simp[maxLen];omega) (by omega) hbase h1.nl (fun u hu z=>by simp at hu;rcases hu with rfl | rfl | rfl<;>simp) (fun c hc z=>by
   have hc2:c∈ [Value.bool false, .slice none 0 0, .slice none 0 0]:=hc
   simp at hc2;rcases hc2 with rfl | rfl<;>simp)
 unfold Oper.wp execOp
 simp only[ho,resolve,invoke,builtin,Sem.run_bind,Sem.run_pure,Result.andThen_ok,List.map_toArray,List.map_cons,List.map_nil,hs,hxe,hr]
 refine h v' w' ⟨_,?_,(zwe.snoc (r:=r) h2 hl hf).grown k3 h1.nl⟩ k3 h1.nl k4
 rw[List.length_append]
 exact⟨k2,k5⟩
theorem zbi {P:Program} (t e:TypeId) (i:TypeInfo) (h1:P.underlying t=some (.slice e)) (h2:P.info? e=some i) (h3:i.zero=some (.slice none 0 0)) (h4:i.size=1) (h5:i.bytes=24)
 (w:World) {ops:Array Oper} {rest:List Oper} {o:Oper} {a:Act} {Q:Exit→Act→World→Prop} (hg:o.guard=none) (l c:Operand) (hop:o.op=Op.makeSlice t l c)
 (B:Nat) (u:Int) (n:Nat) (hu:u=n) (hl:a.eval l= .int .i64 u) (hc:a.eval c= .int .i64 u) (b2:n≤1000) (b4:B≤w.heap.size)
 (hK:∀v w',zlc w' e B 1 v n (List.replicate n (.slice none 0 0))→Below w.heap.size w w'→wpList P ops Q rest (a.put o.dst v) w'):
 wpList P ops Q (o::rest) a w:=by
 subst hu
 refine wpList_make_full w hg l c t hop B e i _ 1 h1 h2 h3 h4 .i64 .i64 n n n hl hc rfl rfl (by rw[h5];omega) (by unfold maxLen;omega) b4 ?_
 intro w' hown hgr
 have hcs:(madeCells (Value.slice none 0 0).cells (n*1)).toList=List.replicate n (.slice none 0 0):=by
  rw[show(Value.slice none 0 0).cells=#[.slice none 0 0]from rfl,Nat.mul_one,toList_madeCells_one]
 rw[hcs]at hown
 refine hK _ w' ⟨hown,?_⟩ (zna hgr (Nat.le_refl _) (fun k hk=>by cases hk))
 intro g' hg' cur e' fz hcc x hx z
 rcases hown.2 with⟨h',_⟩ | ⟨g2,cap,cur2,h',hb,hgg,_,_,hs,ht⟩
 ·cases h'
 ·injection h' with k4 k5 k6
  injection k4 with k4
  injection k4 with k4
  simp only[Value.ownBlock,Option.some.injEq]at hg'
  rw[←hg',k4,hgg]at hcc
  injection hcc with hcc
  injection hcc with hcc _ _
  subst hcc
  have e9:cur2.toList=List.replicate n (.slice none 0 0):=by
   rw[←ht]
   exact(List.take_of_length_le (by rw[Array.length_toList,hs,←k6];exact Nat.le_refl _)).symm
  rw[e9]at hx
  rw[List.eq_of_mem_replicate hx];simp
structure zrj (w:World) (B:Nat) (vO:Value) (rs:List Value) (n:Nat) (qs:Nat→List Rat):Prop where
 own:zlc w 25 B 1 vO n rs
 row:∀ (i:Nat) (h:i<rs.length),zya w 38 B rs[i] (qs i)
 ap:∀ (i j:Nat) (hi:i<rs.length) (hj:j<rs.length),i≠j→rs[i].ownBlock=none∨rs[i].ownBlock≠rs[j].ownBlock
section
variable {w w':World} {B n:Nat} {vO:Value} {rs:List Value} {qs:Nat→List Rat}
theorem zrj.rl (h:zrj w B vO rs n qs):rs.length=n:=by have:=h.own.clen;omega
theorem zrj.start (h:zlc w 25 B 1 vO n (List.replicate n (.slice none 0 0))):zrj w B vO (List.replicate n (.slice none 0 0)) n (fun _=> []):=
 ⟨h,fun i hi=>by rw[List.getElem_replicate];exact zya.nil _ _ _,fun i j hi hj _=>Or.inl (by rw[List.getElem_replicate];rfl)⟩
theorem zrj.below (h:zrj w B vO rs n qs) (hb:Below w.heap.size w w'):zrj w' B vO rs n qs:=
 ⟨h.own.below hb,fun i hi=>(h.row i hi).moves (zhb.below (B:=B) hb) (Nat.le_refl _),h.ap⟩
theorem zrj.set (h:zrj w B vO rs n qs) {i:Nat} (hi:i<rs.length) {v':Value} {q:List Rat} (hB:B≤w.heap.size) (hv:zya w' 38 B v' q) (hg:w.grownBy w' rs[i].ownBlock) (hn:zlb w rs[i]) (hob:v'.ownBlock=rs[i].ownBlock∨v'.ownBlock=some w.heap.size):
 zrj (w'.setCell (ptr vO i) v') B vO (rs.set i v') n (fun k=>if k=i then q else qs k)∧Below B w (w'.setCell (ptr vO i) v'):=by
 obtain⟨own,row,ap⟩:=h
 obtain⟨ys,y1,y2⟩:=id (row i hi)
 have own':=own.grown hg (own.kinds y1 (by decide))
 have hlen:rs.length=n:=by have:=own.clen;omega
 obtain⟨s1,s2⟩:=own'.set1 i hi v' (fun z e=>by obtain⟨a1,a2,a3,e1,_⟩:=hv.sl;rw[e1]at e;cases e)
 have hbr:=(row i hi).block
 have hbo:=own.block
 refine⟨⟨s1,fun k hk=> ?_,fun j k hj hk hjk=> ?_⟩,(zna hg hB (fun k hk=>(hbr k hk).1)).trans (zna s2 (Nat.le_trans hB hg.size) (fun k hk=>(hbo k hk).1))⟩
 ·have hk0:k<rs.length:=by simpa using hk
  by_cases hki:k=i
  ·subst hki
   rw[List.getElem_set_self,if_pos rfl]
   obtain⟨zs,z1,z2⟩:=id hv
   exact hv.grown s2 own'.nl (z1.kinds own' (by decide))
  ·rw[List.getElem_set_ne (fun e=>hki e.symm),if_neg hki]
   obtain⟨zs,z1,z2⟩:=id (row k hk0)
   have hk1:=(row k hk0).grown hg hn (ap k i hk0 hi hki)
   exact hk1.grown s2 own'.nl (z1.kinds own (by decide))
 ·have hj0:j<rs.length:=by simpa using hj
  have hk0:k<rs.length:=by simpa using hk
  by_cases h1:j=i
  ·subst h1
   rw[List.getElem_set_self,List.getElem_set_ne hjk]
   rcases hob with h | h
   ·rw[h];exact ap j k hj0 hk0 hjk
   ·rw[h];refine Or.inr (fun e=> ?_)
    have:=((row k hk0).block _ e.symm).2
    omega
  ·rw[List.getElem_set_ne (fun e=>h1 e.symm)]
   by_cases h2:k=i
   ·subst h2
    rw[List.getElem_set_self]
    rcases hob with h | h
    ·rw[h];exact ap j k hj0 hk0 hjk
    ·rw[h];refine Or.inr (fun e=> ?_)
     have:=((row j hj0).block _ e).2
     omega
   ·rw[List.getElem_set_ne (fun e=>h2 e.symm)];exact ap j k hj0 hk0 hjk
end
@[go_sem ↓] theorem zdm {P : Program} (w : World) {t : TypeId} {v : Value} {lo : Int} (h : zgc v) (ht : P.underlying t = some (.slice (P.elem t))) (h0 : 0 ≤ lo) (h1 : lo ≤ (slen v : Int)) :
 (Instr.slice t v (some (.int .i64 lo)) none none).run P w=((sizeOf (P.elem t)).run P w).andThen fun s w=> .ok (cut s v lo.toNat (slen v)) w:=by
  obtain⟨a,n,cap,rfl,hn,_,h3⟩:=h
  simp only[slen]at h1
  have h00:(n:Int)≤cap:=by omega
  simp[Instr.slice,run_underlying ht,Instr.sliceBounds,Instr.sliceBound,asIntOf,h0,h1,h00,cut,slen]
theorem zbb.drop {w:World} {v:Value} {q:List Rat} (h:zbb w v q) (lo:Nat) (hlo:lo<q.length):zbb w (cut 3 v lo (slen v)) (q.drop lo):=by
 have hl:=h.len
 have hle:=h.sl.le
 refine⟨h.sl.cut (by omega) hle.1,by rw[h.sl.slen_cut,List.length_drop,hl],fun j hj=> ?_⟩
 have hj2:lo+j<q.length:=by rw[List.length_drop]at hj;omega
 obtain⟨a,b,h1,h2,h3,h4,h5⟩:=h.at' (lo+j) hj2
 have e:(q.drop lo)[j]'hj=q[lo+j]'hj2:=by rw[List.getElem_drop]
 rw[e]
 rw[zwk h.sl (by omega),zwk h.sl (by omega),zwk h.sl (by omega)]
 exact⟨a,b,by rw[show lo*3+j*3=(lo+j)*3 by omega];exact h1,by rw[show lo*3+(j*3+1)=(lo+j)*3+1 by omega];exact h2,by rw[show lo*3+(j*3+2)=(lo+j)*3+2 by omega];exact h3,h4,h5⟩
theorem zrj.congr {w:World} {B n:Nat} {vO:Value} {rs:List Value} {p q:Nat→List Rat} (h:zrj w B vO rs n p) (hpq:∀i,i<n→p i=q i):zrj w B vO rs n q:=
 ⟨h.own,fun i hi=>by rw[←hpq i (by rw[←h.rl];exact hi)];exact h.row i hi,h.ap⟩
theorem zlk (k:Nat) (f:Nat→Rat):zib k f++ [f k]=zib (k+1) f:=by
 unfold zib;rw[List.range_succ,List.map_append];rfl
set_option maxHeartbeats 800000
structure znb (w:World) (b:Nat) (l:List Nat) (at':Nat):Prop where
 lt:b<w.heap.size
 ex:∃v,w.cell? ⟨b,0,none⟩=some v∧zhc w v (l.map fun x:Nat=>Value.int .u8 (x:Nat))
 c1:w.cell? ⟨b,1,none⟩=some (.int .i64 (at':Nat))
 f1:w.frozen? ⟨b,1,none⟩=false
 len:l.length≤400
 le:at'≤400
 byte:∀x∈l,x<256
def zyl (b:Nat) (w w':World):Prop:=(∃k,w'=w.drewN k)∨∃k k' a,w'=((w.drewN k).setCell ⟨b,1,none⟩ (.int .i64 a)).drewN k'
def RNext (w0:World) (b:Nat) (l:List Nat) (n:Nat) (e:Ending) (w:World):Prop:=∃x a:Nat,e= .returned (.int .i64 (x:Nat))∧x<n∧znb w b l a∧zyl b w0 w
theorem znb.drawn {w:World} {b:Nat} {l:List Nat} {a:Nat} (h:znb w b l a) (k:Nat):znb (w.drewN k) b l a:=by
 obtain⟨lt,⟨v,e1,e2⟩,c1,f1,h1,h2,h3⟩:=h
 have hb:=zka (B:=w.heap.size) w k
 exact⟨Nat.lt_of_lt_of_le lt hb.size,⟨v,zba hb e1,e2.below hb⟩,zba hb c1,by rw[hb.frozen lt];exact f1,h1,h2,h3⟩
theorem next_zero (b:Nat) (l:List Nat) (a n:Nat) (w:World) (h:znb w b l a) (hn:1≤n) (hn2:n≤65536) (hz:l.length≤a∨n<2):
 Calls Tryz.prog 107 #[.pointer (some ⟨b,0,none⟩), .int .i64 n] w (RNext w b l n):=by
 obtain⟨v,e1,e2⟩:=h.ex
 have c1:=h.c1
 have f1:=h.f1
 have sv:=zhc.sl e2
 have lv:slen v=l.length:=by have:=zhc.len e2;simpa using this
 have hll:=h.len
 have hle:=h.le
 by_cases h1:l.length≤a
 ·have hd:decide (((l.length:Nat):Int)≤(a:Nat))=true:=decide_eq_true (by omega)
  go_enter Tryz.func107,Tryz.ntmps107
  go_wp2
  go_quiet (fail)
  go_wp2
  go_ret
  exact⟨0,a,rfl,hn,h.drawn _,Or.inl ⟨_,rfl⟩⟩
 ·have hd:decide (((l.length:Nat):Int)≤(a:Nat))=false:=decide_eq_false (by omega)
  have h2:n<2:=hz.resolve_left h1
  have hd2:decide ((n:Int)<2)=true:=decide_eq_true (by omega)
  go_enter Tryz.func107,Tryz.ntmps107
  go_wp2
  go_quiet (fail)
  go_wp2
  go_ret
  exact⟨0,a,rfl,hn,h.drawn _,Or.inl ⟨_,rfl⟩⟩
theorem cell_tick {w:World} {b:Nat} {a0:Int} {p:Addr} {x:Value} (hc:w.cell? ⟨b,1,none⟩=some (.int .i64 a0)) (hp:w.cell? p=some x) (hx:∀z,x≠ .int .i64 z) (u:Value):(w.setCell ⟨b,1,none⟩ u).cell? p=some x:=by
 rw[World.cell?_setCell_other]
 ·exact hp
 ·intro e
  rw[←e,hc]at hp
  injection hp with hp
  exact hx _ hp.symm
theorem znb.tick {w:World} {b:Nat} {l:List Nat} {a:Nat} (h:znb w b l a) (a':Nat) (ha:a'≤400):znb (w.setCell ⟨b,1,none⟩ (.int .i64 (a':Nat))) b l a':=by
 obtain⟨lt,⟨v,e1,e2⟩,c1,f1,h1,h2,h3⟩:=h
 refine⟨by simpa [World.setCell]using lt,⟨v,?_,e2.sl,e2.len,fun j hj=>cell_tick c1 (e2.cell j hj) (fun z=>by simp) _⟩,?_,?_,h1,ha,h3⟩
 ·rw[World.cell?_setCell_other _ _ _ _ (by simp)];exact e1
 ·exact World.cell?_setCell_same _ _ _ c1
 ·go_simp
theorem next_more (b:Nat) (l:List Nat) (a n:Nat) (w:World) (h:znb w b l a) (hn2:n≤65536) (h1:a<l.length) (h2:2≤n):
 Calls Tryz.prog 107 #[.pointer (some ⟨b,0,none⟩), .int .i64 n] w (RNext w b l n):=by
 obtain⟨v,e1,e2⟩:=h.ex
 have c1:=h.c1
 have f1:=h.f1
 have sv:=zhc.sl e2
 have lv:slen v=l.length:=by have:=zhc.len e2;simpa using this
 have hll:=h.len
 have hd:decide (((l.length:Nat):Int)≤(a:Nat))=false:=decide_eq_false (by omega)
 have hd2:decide ((n:Int)<2)=false:=decide_eq_false (by omega)
 have HT:=zH h
 go_enter Tryz.func107,Tryz.ntmps107
 go_wp2
 go_quiet (fail)
 have hT1:=HT.out.drawn nq
 obtain⟨v2,e11,e12⟩:=hT1.ex
 have c2:=hT1.c1
 have f2:=hT1.f1
 clear hd hd2 c1 f1
 go_wp2
 have hT2:znb ((w.drewN nq).setCell ⟨b,1,none⟩ (.int .i64 ((a:Int)+1))) b l (a+1):=by
  have:=hT1.tick (a+1) (by omega)
  rwa[show(((a+1:Nat)):Int)=(a:Int)+1 from by omega]at this
 obtain⟨v3,e13,e14⟩:=hT2.ex
 have c3:=hT2.c1
 have s3:=zhc.sl e14
 have l3:slen v3=l.length:=by have:=zhc.len e14;simpa using this
 have hx:=e14.cell a (by simpa using h1)
 rw[List.getElem_map]at hx
 have hxb:=h.byte l[a] (List.getElem_mem h1)
 have HTK:Hid (∀k,zyl b w (((w.drewN nq).setCell ⟨b,1,none⟩ (.int .i64 ((a:Int)+1))).drewN k)):=zH (fun k=>Or.inr ⟨_,_,_,rfl⟩)
 generalize l[a]'h1=x at *
 generalize (w.drewN nq).setCell ⟨b,1,none⟩ (.int .i64 ((a:Int)+1))=W2 at *
 have i1:IntKind.i64.wrap ((((a+1:Nat)):Int)-1)=(a:Int):=by rw[IntWalk.i64_in _ (by omega)];omega
 have i2:(0:Int)≤(a:Int):=by omega
 have i3:(a:Int)<(l.length:Nat):=by omega
 have i4:Int.tmod (x:Int) (n:Int)=((x%n:Nat):Int):=by rw[Int.tmod_eq_emod_of_nonneg (by omega)];omega
 go_quiet (fail)
 go_wp2
 go_ret
 exact⟨x%n,a+1,by first | rfl | (congr 2),Nat.mod_lt _ (by omega),hT2.drawn _,HTK.out _⟩
theorem next_any (b:Nat) (l:List Nat) (a n:Nat) (w:World) (h:znb w b l a) (hn:1≤n) (hn2:n≤65536):
 Calls Tryz.prog 107 #[.pointer (some ⟨b,0,none⟩), .int .i64 n] w (RNext w b l n):=by
 rcases Nat.lt_or_ge a l.length with h1 | h1
 ·rcases Nat.lt_or_ge n 2 with h2 | h2
  ·exact next_zero b l a n w h hn hn2 (Or.inr h2)
  ·exact next_more b l a n w h hn2 h1 h2
 ·exact next_zero b l a n w h hn hn2 (Or.inl h1)
theorem zyl.cell {b:Nat} {w w':World} (h:zyl b w w') {a0:Int} (hc:w.cell? ⟨b,1,none⟩=some (.int .i64 a0)) {p:Addr} {x:Value} (hp:w.cell? p=some x) (hx:∀z,x≠ .int .i64 z):w'.cell? p=some x:=by
 rcases h with⟨k,rfl⟩ | ⟨k,k',a,rfl⟩
 ·exact zba (zka w k) hp
 ·refine zba (zka _ k') ?_
  exact cell_tick (zba (zka w k) hc) (zba (zka w k) hp) hx _
theorem zyl.size {b:Nat} {w w':World} (h:zyl b w w'):w.heap.size≤w'.heap.size:=by
 rcases h with⟨k,rfl⟩ | ⟨k,k',a,rfl⟩
 ·exact(zka (B:=w.heap.size) w k).size
 ·have h1:=(zka (B:=w.heap.size) w k).size
  have h2:=(zka (B:=w.heap.size) ((w.drewN k).setCell ⟨b,1,none⟩ (.int .i64 a)) k').size
  have h3:((w.drewN k).setCell ⟨b,1,none⟩ (.int .i64 a)).heap.size=(w.drewN k).heap.size:=by simp[World.setCell]
  omega
theorem zyl.below {b B:Nat} {w w':World} (h:zyl b w w') (hB:B≤b) (hs:B≤w.heap.size):Below B w w':=by
 rcases h with⟨k,rfl⟩ | ⟨k,k',a,rfl⟩
 ·exact zka w k
 ·exact((zka w k).setCell (p:=⟨b,1,none⟩) hB _).trans (zka _ k')
theorem zfc.tick {b:Nat} {w w':World} {l0:List Nat} {a:Nat} (ht:znb w b l0 a) (h:zyl b w w') {v:Value} {l:List Nat} (hv:zfc w v l):zfc w' v l:=
 ⟨hv.sl,hv.len,fun j hj=>h.cell ht.c1 (hv.cell j hj) (fun z=>by simp),hv.lm⟩
theorem zjb.tick {b:Nat} {w w':World} {l0:List Nat} {a:Nat} (ht:znb w b l0 a) (h:zyl b w w') {v:Value} {n:Nat} (hv:zjb w v n):zjb w' v n:=⟨hv.v.tick ht h,hv.2⟩
theorem zqa.tick {b:Nat} {w w':World} {l0:List Nat} {a:Nat} (ht:znb w b l0 a) (h:zyl b w w') {v:Value} {q:Rat} (hv:zqa w v q):zqa w' v q:=by
 obtain⟨x,y,rfl,h1,h2⟩:=hv;exact⟨x,y,rfl,h1.tick ht h,h2.tick ht h⟩
theorem Tryz.infoU8 :(Tryz.prog.info? 5).map (fun i=>(i.zero,i.size,i.bytes))=some (some (.int .u8 0),1,1):=by kernel_rfl
def bytes (l:List Nat):List Value:=l.map fun x:Nat=>Value.int .u8 (x:Nat)
theorem zhc.tk {w:World} {v:Value} {l:List Value} (h:zhc w v l) (n:Nat) (hn:n≤l.length):zhc w (tk v n) (l.take n):=by
 have e:(l.take n).length=n:=by rw[List.length_take];omega
 have h1:=h.sl.le
 have h2:=h.len
 refine⟨h.sl.tk (by omega),by rw[e];exact h.sl.slen_tk n,fun j hj=> ?_⟩
 rw[ptr_tk,List.getElem_take]
 exact h.cell j (by omega)
def RTape (w0:World) (l:List Nat) (e:Ending) (w:World):Prop:=∃b,e= .returned (.pointer (some ⟨b,0,none⟩))∧w0.heap.size≤b∧znb w b l 0∧Below w0.heap.size w0 w
theorem tape_new (w w1:World) (v:Value) (l:List Nat) (t e:TypeId) (hl:l.length≤400) (hb:∀x∈l,x<256) (h:zce w1 e w.heap.size v (bytes l)) (hbel:Below w.heap.size w w1):
 RTape w l (.returned (.pointer (some ⟨w1.heap.size,0,none⟩))) (w1.alloc (.cells #[v, .int .i64 0] t)):=by
 refine⟨_,rfl,hbel.size,⟨by simp,⟨v,by simp,?_⟩,by simp,by simp,hl,by omega,hb⟩,hbel.alloc hbel.size _⟩
 exact⟨h.sl,by rw[h.len];rfl,fun j hj=>(h.alloc _).cell j hj⟩
theorem append_u8 {P:Program} (t e:TypeId) (i:TypeInfo) (ht:P.underlying t=some (.slice e)) (hi:P.info? e=some i) (hz:i.zero=some (.int .u8 0))
 (hsize:i.size=1) (hby:i.bytes=1) (w:World) {ops:Array Oper} {rest:List Oper} {o:Oper} {a:Act} {Q:Exit→Act→World→Prop} (hgd:o.guard=none) (s x:Operand)
 (ho:o.op= .call { callee:= .builtin .append,args:=#[s,x],argTypes:=#[t,t] })
 (hs:a.eval s= .slice none 0 0) (xv:Value) (hxe:a.eval x=xv) (l:List Nat) (hx:zhc w xv (bytes l)) (hb:l.length≤400)
 (h:∀v' w',zce w' e w.heap.size v' (bytes l)→Below w.heap.size w w'→wpList P ops Q rest (a.put o.dst v') w'):wpList P ops Q (o::rest) a w:=by
 have hl:(bytes l).length=l.length:=by simp[bytes]
 refine zie w hgd s x t ho w.heap.size e i (.int .u8 0) 1 ht hi hz hsize hby rfl _ [] hs (zce.nil _ _ _) xv hxe hx.sl (bytes l) hx.len
  (fun j hj=>hx.cell j hj) (fun u hu=>by obtain⟨x,_,rfl⟩:=List.mem_map.1 hu;rfl)
  (by simp[maxLen,hl];omega) (by simp[hl];omega) (Nat.le_refl _) ?_
 intro v' w' h2 _ h4
 rw[List.nil_append]at h2
 exact h v' w' h2 h4
set_option maxHeartbeats 1600000 in
theorem new_any (v:Value) (l:List Nat) (w:World) (h:zhc w v (bytes l)) (hb:∀x∈l,x<256):
 Calls Tryz.prog 41 #[v] w (RTape w (l.take 400)):=by
 obtain⟨i0,hi,hz0,hz1,hz2⟩:=info_parts Tryz.infoU8
 have hA:=append_u8 (P:=Tryz.prog) 22 5 i0 Tryz.underlying22 hi hz0 hz1 hz2
 clear hi hz0 hz1 hz2
 have sv:=h.sl
 have lv:slen v=l.length:=by rw[h.len,bytes,List.length_map]
 have hle:=sv.le
 rw[lv]at hle
 by_cases hd:400<l.length
 ·have hd1:decide ((400:Int)<(l.length:Nat))=true:=decide_eq_true (by omega)
  have hcap:(400:Int)≤scap v:=by omega
  have ht2:zhc w (tk v 400) (bytes (l.take 400)):=by have:=h.tk 400 (by simp[bytes];omega);simpa [bytes,List.map_take]using this
  go_enter Tryz.func41,Tryz.ntmps41
  go_wp2_with (at_builtin;refine hA w rfl _ _ rfl rfl _ rfl (l.take 400) ht2 (by simp;omega) ?_;intro v' w1 hown hbel;obtain⟨an,nn,cn,rfl,_⟩:=hown.sl)
  go_ret
  exact tape_new w w1 _ _ _ _ (by simp;omega) (fun x hx=>hb x (List.mem_of_mem_take hx)) hown hbel
 ·have hd1:decide ((400:Int)<(l.length:Nat))=false:=decide_eq_false (by omega)
  rw[List.take_of_length_le (by omega)]
  go_enter Tryz.func41,Tryz.ntmps41
  go_wp2_with (at_builtin;refine hA w rfl _ _ rfl rfl _ rfl l h (by omega) ?_;intro v' w1 hown hbel;obtain⟨an,nn,cn,rfl,_⟩:=hown.sl)
  go_ret
  exact tape_new w w1 _ _ _ _ (by omega) hb hown hbel
theorem rat_parts {p q:Rat}:p=q↔decide (p<0)=decide (q<0)∧zla p.num.natAbs=zla q.num.natAbs∧zla p.den=zla q.den:=by
 constructor
 ·rintro rfl;exact⟨rfl,rfl,rfl⟩
 ·rintro⟨h1,h2,h3⟩
  have e2:=zhg h2
  have e3:=zhg h3
  rw[←zvb p,←zvb q,h1,e2,e3]
set_option maxRecDepth 100000 in
set_option maxHeartbeats 1600000 in
theorem znt (va vb:Value) (p q:Rat) (w:World) (ha:zqa w va p) (hb:zqa w vb q):
 Calls Tryz.prog 61 #[va,vb] w (RSame w (p=q)):=by
 obtain⟨a1,a2,rfl,n1,n2⟩:=ha
 obtain⟨b1,b2,rfl,m1,m2⟩:=hb
 have HP:=zH (@rat_parts p q)
 have n1:=n1.1
 have n2:=n2.1
 have m1:=m1.1
 have m2:=m2.1
 obtain⟨a1a,a1n,a1c,rfl,_⟩:=n1.sl
 obtain⟨a2a,a2n,a2c,rfl,_⟩:=n2.sl
 obtain⟨b1a,b1n,b1c,rfl,_⟩:=m1.sl
 obtain⟨b2a,b2n,b2c,rfl,_⟩:=m2.sl
 generalize decide (p<0)=s at *
 generalize decide (q<0)=t at *
 generalize zla p.num.natAbs=x at *
 generalize zla q.num.natAbs=y at *
 generalize zla p.den=z at *
 generalize zla q.den=u at *
 have hbx:=zca w (.cells #[.bool s, .slice a1a a1n a1c, .slice a2a a2n a2c] 38)
 have hbx:=(hbx.alloc hbx.size (.cells #[.bool t, .slice b1a b1n b1c, .slice b2a b2n b2c] 38))
 have n1:=n1.below hbx
 have n2:=n2.below hbx
 have m1:=m1.below hbx
 have m2:=m2.below hbx
 have hC:=(C3.new w 38 (.bool s) (.slice a1a a1n a1c) (.slice a2a a2n a2c)).allocS (.cells #[.bool t, .slice b1a b1n b1c, .slice b2a b2n b2c] 38)
 have hD:=C3.new (w.alloc (.cells #[.bool s, .slice a1a a1n a1c, .slice a2a a2n a2c] 38)) 38 (.bool t) (.slice b1a b1n b1c) (.slice b2a b2n b2c)
 rw[show(w.alloc (.cells #[.bool s, .slice a1a a1n a1c, .slice a2a a2n a2c] 38)).heap.size=w.heap.size+1 from by simp]at hD
 by_cases h1:s=t
 ·subst h1
  by_cases hxy:x=y
  ·by_cases hzu:z=u
   ·have tok:True:=trivial
    go_enter Tryz.func61,Tryz.ntmps61
    go_wp2_with (first
     |(go_at_call 140;have _t:=tok;(with_reducible refine(zrh _ _ x y _ n1 m1).mono ?_);rintro e1 w1 ⟨⟨r1,rfl,h1⟩,hbel1⟩;obtain rfl:r1=true:=h1.2 hxy;clear h1 tok _t
       have n3:=n2.below hbel1
       have m3:=m2.below hbel1
       obtain⟨_,c0,c1,c2,_,_,_⟩:=hC.belowS hbel1
       obtain⟨_,d0,d1,d2,_,_,_⟩:=hD.belowS hbel1)
     |(go_at_call 140;(with_reducible refine(zrh _ _ z u _ n3 m3).mono ?_);rintro e2 w2 ⟨⟨r2,rfl,h2⟩,hbel2⟩;obtain rfl:r2=true:=h2.2 hzu;clear h2))
    go_ret
    exact⟨⟨true,rfl,by simp;exact HP.out.2 ⟨by first | rfl | trivial,hxy,hzu⟩⟩,(hbx.trans (hbel1.mono hbx.size)).trans (hbel2.mono (hbx.trans (hbel1.mono hbx.size)).size)⟩
   ·have tok:True:=trivial
    go_enter Tryz.func61,Tryz.ntmps61
    go_wp2_with (first
     |(go_at_call 140;have _t:=tok;(with_reducible refine(zrh _ _ x y _ n1 m1).mono ?_);rintro e1 w1 ⟨⟨r1,rfl,h1⟩,hbel1⟩;obtain rfl:r1=true:=h1.2 hxy;clear h1 tok _t
       have n3:=n2.below hbel1
       have m3:=m2.below hbel1
       obtain⟨_,c0,c1,c2,_,_,_⟩:=hC.belowS hbel1
       obtain⟨_,d0,d1,d2,_,_,_⟩:=hD.belowS hbel1)
     |(go_at_call 140;(with_reducible refine(zrh _ _ z u _ n3 m3).mono ?_);rintro e2 w2 ⟨⟨r2,rfl,h2⟩,hbel2⟩;obtain rfl:r2=false:=Bool.eq_false_iff.2 (fun h=>hzu (h2.1 h));clear h2))
    go_ret
    exact⟨⟨false,rfl,by simp;exact fun h=>hzu (HP.out.1 h).2.2⟩,(hbx.trans (hbel1.mono hbx.size)).trans (hbel2.mono (hbx.trans (hbel1.mono hbx.size)).size)⟩
  ·go_enter Tryz.func61,Tryz.ntmps61
   go_wp2_with (go_at_call 140;(with_reducible refine(zrh _ _ x y _ n1 m1).mono ?_);rintro e1 w1 ⟨⟨r1,rfl,h1⟩,hbel1⟩;obtain rfl:r1=false:=Bool.eq_false_iff.2 (fun h=>hxy (h1.1 h));clear h1)
   go_ret
   exact⟨⟨false,rfl,by simp;exact fun h=>hxy (HP.out.1 h).2.1⟩,hbx.trans (hbel1.mono hbx.size)⟩
 ·have h2:(s==t)=false:=by simpa using h1
  go_enter Tryz.func61,Tryz.ntmps61
  go_wp2_with fail
  go_ret
  exact⟨⟨false,rfl,by simp;exact fun h=>h1 (HP.out.1 h).1⟩,hbx⟩
end Go.Proofs.YtlpdkbmmbdfoiaaGreat
