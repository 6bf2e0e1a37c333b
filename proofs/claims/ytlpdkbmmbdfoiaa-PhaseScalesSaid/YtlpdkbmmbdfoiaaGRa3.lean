/-
  package drydockref01: times, Add, Sub, Mul.
-/
import Derived.Test.YtlpdkbmmbdfoiaaGEl1
import Derived.Test.YtlpdkbmmbdfoiaaGNa6
import Derived.Test.YtlpdkbmmbdfoiaaGFr1
import Derived.IntWalk
set_option linter.unusedVariables false
set_option linter.unusedSimpArgs false
namespace Go.Proofs.Ytlpdkbmmbdfoiaa
open Go.RowKit
section
variable {w:World} {e:TypeId} {B size n:Nat} {v:Value} {xs:List Value}
theorem zlc.set1 (h:zlc w e B size v n xs) (j:Nat) (hj:j<xs.length) (u:Value) (hu:∀z,u≠ .int .u32 z):
 zlc (w.setCell (ptr v j) u) e B size v n (xs.set j u)∧w.grownBy (w.setCell (ptr v j) u) v.ownBlock:=by
 have hl:=h.own.1
 rcases h.own.2 with⟨rfl,h0⟩ | ⟨g,cap,cur,rfl,hb,hg,hn,hm,hs,ht⟩
 ·rw[h0]at hl;omega
 ·have hp:ptr (.slice (some ⟨g,0,none⟩) n cap) j=⟨g,j,none⟩:=by simp only[ptr,base,Addr.add_lit,Nat.zero_add]
  have hst:=World.ownsRow.stored h.own j u
  rw[hp]
  refine⟨⟨hst.1,?_⟩,hst.2⟩
  intro g' hg' cur' e' fz hc c hcc
  simp only[Value.ownBlock,Option.some.injEq]at hg'
  subst hg'
  rw[heap_setCell_same w g j cur e u hg]at hc
  injection hc with hc
  injection hc with hc _ _
  subst hc
  rw[Array.toList_setIfInBounds]at hcc
  rcases List.mem_or_eq_of_mem_set hcc with h' | h'
  ·exact h.nl g rfl cur e _ hg c h'
  ·subst h';exact hu
theorem zlc.frozen (h:zlc w e B size v n xs) (j:Nat) (hj:j<xs.length):w.frozen? (ptr v j)=false:=by
 have hl:=h.own.1
 obtain⟨ho,_⟩:=h
 rcases ho.2 with⟨rfl,h0⟩ | ⟨g,cap,cur,rfl,hb,hg,hn,hm,hs,ht⟩
 ·rw[h0]at hl;omega
 ·have:=World.ownsRow.frozenAt ho j
  simpa only[ptr,base,Addr.add_lit,Nat.zero_add]using this
theorem zlc.blk (h:zlc w e B size v n xs) (hx:0<xs.length):∃g,v.ownBlock=some g∧(base v).block=g∧B≤g∧g<w.heap.size∧∀j,ptr v j=⟨g,j,none⟩:=by
 have hl:=h.own.1
 have hbl:=h.block
 rcases h.own.2 with⟨rfl,h0⟩ | ⟨g,cap,cur,rfl,hb,hg,hn,hm,hs,ht⟩
 ·rw[h0]at hl;omega
 ·exact⟨g,rfl,rfl,(hbl g rfl).1,(hbl g rfl).2,fun j=>by simp only[ptr,base,Addr.add_lit,Nat.zero_add]⟩
end
theorem zle {a b c:World} {r:Option Nat} (h:a.grownBy b r) (k:b.grownBy c r):a.grownBy c r:=zsc h k
section
variable {w:World} {e:TypeId} {B:Nat} {v:Value} {q:List Rat}
theorem zya.frozen (h:zya w e B v q) (k:Nat) (hk:k<q.length*3):w.frozen? (ptr v k)=false:=by
 obtain⟨xs,h1,_⟩:=h
 exact h1.frozen k (by rw[h1.clen];exact hk)
theorem zya.blk (h:zya w e B v q) (hq:0<q.length):∃g,v.ownBlock=some g∧(base v).block=g∧B≤g∧g<w.heap.size∧∀j,ptr v j=⟨g,j,none⟩:=by
 obtain⟨xs,h1,_⟩:=h
 exact h1.blk (by rw[h1.clen];omega)
theorem zya.inj (h:zya w e B v q) (hq:0<q.length) {i j:Nat} (hij:i≠j):ptr v i≠ptr v j:=by
 obtain⟨g,_,_,_,_,hp⟩:=h.blk hq
 rw[hp,hp]
 intro h;injection h with h1 h2;exact hij h2
theorem zya.noLimb (h:zya w e B v q):zlb w v:=by obtain⟨xs,h1,_⟩:=h;exact h1.nl
theorem zya.put (h:zya w e B v q) {i:Nat} (hi:i<q.length) {x y z:Value} {r:Rat} (hf:zqa w (.agg #[x,y,z]) r):
 zya (((w.setCell (ptr v (i*3)) x).setCell (ptr v (i*3+1)) y).setCell (ptr v (i*3+2)) z) e B v (q.set i r)∧
  w.grownBy (((w.setCell (ptr v (i*3)) x).setCell (ptr v (i*3+1)) y).setCell (ptr v (i*3+2)) z) v.ownBlock:=by
 obtain⟨xs,h1,h2⟩:=h
 obtain⟨a,b,ha,h4,h5⟩:=id hf
 injection ha with ha
 injection ha with ha
 simp only[List.cons.injEq,and_true]at ha
 obtain⟨rfl,rfl,rfl⟩:=ha
 have hl:=h1.clen
 have ny:∀k,y≠ .int .u32 k:=fun k=>by obtain⟨a1,n1,c1,e1,_⟩:=h4.v.sl;subst e1;simp
 have nz:∀k,z≠ .int .u32 k:=fun k=>by obtain⟨a1,n1,c1,e1,_⟩:=h5.v.sl;subst e1;simp
 obtain⟨s1,g1⟩:=h1.set1 (i*3) (by omega) (.bool (decide (r<0))) (fun k=>by simp)
 obtain⟨s2,g2⟩:=s1.set1 (i*3+1) (by rw[List.length_set];omega) y ny
 obtain⟨s3,g3⟩:=s2.set1 (i*3+2) (by rw[List.length_set,List.length_set];omega) z nz
 have gg:=zle (zle g1 g2) g3
 refine⟨⟨_,by rw[List.length_set];exact s3,fun j hj=> ?_⟩,gg⟩
 rw[List.length_set]at hj
 by_cases hij:i=j
 ·subst hij
  refine⟨y,z,?_,?_,?_,?_,?_⟩
  ·rw[List.getElem?_set_ne (by omega),List.getElem?_set_ne (by omega),List.getElem?_set_self (by omega),List.getElem_set_self]
  ·rw[List.getElem?_set_ne (by omega),List.getElem?_set_self (by rw[List.length_set];omega)]
  ·rw[List.getElem?_set_self (by rw[List.length_set,List.length_set];omega)]
  ·rw[List.getElem_set_self];exact h4.grown gg h1.nl
  ·rw[List.getElem_set_self];exact h5.grown gg h1.nl
 ·obtain⟨a,b,e1,e2,e3,e4,e5⟩:=h2 j hj
  rw[List.getElem_set_ne hij]
  refine⟨a,b,?_,?_,?_,e4.grown gg h1.nl,e5.grown gg h1.nl⟩
  ·rw[List.getElem?_set_ne (by omega),List.getElem?_set_ne (by omega),List.getElem?_set_ne (by omega)];exact e1
  ·rw[List.getElem?_set_ne (by omega),List.getElem?_set_ne (by omega),List.getElem?_set_ne (by omega)];exact e2
  ·rw[List.getElem?_set_ne (by omega),List.getElem?_set_ne (by omega),List.getElem?_set_ne (by omega)];exact e3
end
def zjf (w:World) (T:Nat) (cs:Array Value):Prop:=∃ty,w.heap[T]? =some (.cells cs ty (0,0))
section
variable {w w':World} {T:Nat} {cs:Array Value}
theorem zjf.new (w:World) (cs:Array Value) (ty:TypeId):zjf (w.alloc (.cells cs ty)) w.heap.size cs:=⟨ty,heap_alloc_new w _⟩
theorem zjf.lt (h:zjf w T cs):T<w.heap.size:=by obtain⟨ty,h⟩:=h;exact(Array.getElem?_eq_some_iff.1 h).1
theorem zjf.cell (h:zjf w T cs) (j:Nat) {u:Value} (hu:cs[j]? =some u):w.cell? ⟨T,j,none⟩=some u:=by
 obtain⟨ty,h⟩:=h
 simp[World.cell?,h,hu]
theorem zjf.frozen (h:zjf w T cs) (j:Nat):w.frozen? ⟨T,j,none⟩=false:=by
 obtain⟨ty,h⟩:=h
 simp[World.frozen?,h]
theorem zjf.set (h:zjf w T cs) (j:Nat) (u:Value):zjf (w.setCell ⟨T,j,none⟩ u) T (cs.setIfInBounds j u):=by
 obtain⟨ty,h⟩:=h
 exact⟨ty,heap_setCell_same w T j cs ty u h⟩
theorem zjf.below (h:zjf w T cs) (hb:Below w.heap.size w w'):zjf w' T cs:=by
 have hlt:=h.lt
 obtain⟨ty,h⟩:=h
 exact⟨ty,by rw[hb.block T hlt];exact h⟩
theorem zjf.grown {r:Option Nat} (h:zjf w T cs) (hg:w.grownBy w' r) (hr:r≠some T):zjf w' T cs:=by
 have hlt:=h.lt
 obtain⟨ty,h⟩:=h
 exact⟨ty,by rw[hg.block T hlt hr.symm];exact h⟩
end
def zib (m:Nat) (f:Nat→Rat):List Rat:=(List.range m).map f
theorem zea (m:Nat) (f:Nat→Rat):(zib m f).length=m:=by simp[zib]
theorem ztb (m:Nat) (f:Nat→Rat) (j:Nat) (h:j<(zib m f).length):(zib m f)[j]=f j:=by simp[zib]
theorem zdf {m:Nat} {f g:Nat→Rat} (h:∀j,j<m→f j=g j):zib m f=zib m g:=
 List.map_congr_left fun j hj=>h j (List.mem_range.1 hj)
theorem rowL_of (q:List Rat):zib q.length (fun j=>q.getD j 0)=q:=by
 refine List.ext_getElem (by rw[zea]) fun j h1 h2=> ?_
 rw[ztb,List.getD_eq_getElem?_getD,List.getElem?_eq_getElem h2];rfl
theorem rowL_set (m:Nat) (f:Nat→Rat) (i:Nat) (r:Rat):(zib m f).set i r=zib m (fun j=>if j=i then r else f j):=by
 refine List.ext_getElem (by rw[List.length_set,zea,zea]) fun j h1 h2=> ?_
 rw[ztb]
 by_cases h:j=i
 ·subst h;rw[List.getElem_set_self,if_pos rfl]
 ·rw[List.getElem_set_ne (fun e=>h e.symm),if_neg h,ztb]
def upd (A:Mx) (i j:Nat) (r:Rat):Mx:=fun a b=>if a=i∧b=j then r else A a b
structure znd (w:World) (T:Nat) (vR:Value) (rs:List Value) (n m:Nat) (A:Mx) (wd rk:Nat) (d:Rat):Prop where
 box:∃a b,zjf w T #[vR, .int .i64 wd, .int .i64 rk, .bool (decide (d<0)),a,b, .int .i64 0]∧zjb w a d.num.natAbs∧zjb w b d.den
 own:zlc w 23 (T+1) 1 vR rs.length rs
 rl:rs.length=n
 mp:0<m
 row:∀ (i:Nat) (h:i<rs.length),zya w 32 (T+1) rs[i] (zib m (A i))
 ap:∀ (i j:Nat) (hi:i<rs.length) (hj:j<rs.length),i≠j→rs[i].ownBlock≠rs[j].ownBlock
section
variable {w w':World} {T n m wd rk:Nat} {vR:Value} {rs:List Value} {A:Mx} {d:Rat}
theorem znd.lt (h:znd w T vR rs n m A wd rk d):T<w.heap.size:=by obtain⟨a,b,hb,_⟩:=h.box;exact hb.lt
theorem znd.below (h:znd w T vR rs n m A wd rk d) (hb:Below w.heap.size w w'):znd w' T vR rs n m A wd rk d:=by
 obtain⟨a,b,h1,h2,h3⟩:=h.box
 exact⟨⟨a,b,h1.below hb,h2.below hb,h3.below hb⟩,h.own.below hb,h.rl,h.mp,fun i hi=>(h.row i hi).moves (zhb.below (B:=T+1) hb) (Nat.le_refl _),h.ap⟩
theorem znd.congr {A':Mx} (h:znd w T vR rs n m A wd rk d) (hA:∀i j,i<n→j<m→A i j=A' i j):znd w T vR rs n m A' wd rk d:=
 ⟨h.box,h.own,h.rl,h.mp,fun i hi=>by rw[←zdf (fun j hj=>hA i j (by rw[←h.rl];exact hi) hj)];exact h.row i hi,h.ap⟩
theorem znd.elem (h:znd w T vR rs n m A wd rk d) {i j:Nat} (hi:i<rs.length) (hj:j<m):
 ∃a b,w.cell? (ptr rs[i] (j*3))=some (.bool (decide (A i j<0)))∧w.cell? (ptr rs[i] (j*3+1))=some a∧w.cell? (ptr rs[i] (j*3+2))=some b∧zjb w a (A i j).num.natAbs∧zjb w b (A i j).den:=by
 obtain⟨a,b,h1,h2,h3,h4,h5⟩:=(h.row i hi).fracs.at' j (by rw[zea];exact hj)
 rw[ztb]at h1 h4 h5
 exact⟨a,b,h1,h2,h3,h4,h5⟩
theorem znd.put (h:znd w T vR rs n m A wd rk d) {i j:Nat} (hi:i<rs.length) (hj:j<m) {x y z:Value} {r:Rat} (hf:zqa w (.agg #[x,y,z]) r):
 znd (((w.setCell (ptr rs[i] (j*3)) x).setCell (ptr rs[i] (j*3+1)) y).setCell (ptr rs[i] (j*3+2)) z) T vR rs n m (upd A i j r) wd rk d∧
  Below T w (((w.setCell (ptr rs[i] (j*3)) x).setCell (ptr rs[i] (j*3+1)) y).setCell (ptr rs[i] (j*3+2)) z):=by
 have hT:=h.lt
 obtain⟨⟨a,b,h1,h2,h3⟩,own,rl,mp,row,ap⟩:=h
 have hr:=row i hi
 obtain⟨hp,gg⟩:=hr.put (i:=j) (by rw[zea];exact hj) hf
 have hnl:=hr.noLimb
 obtain⟨g,hg,_,hgT,hgw,_⟩:=hr.blk (by rw[zea];exact mp)
 have hgT':rs[i].ownBlock≠some T:=by rw[hg];intro e;injection e with e;omega
 obtain⟨ys,y1,y2⟩:=id hr
 refine⟨⟨⟨a,b,h1.grown gg hgT',h2.grown gg hnl,h3.grown gg hnl⟩,own.grown gg (own.kinds y1 (by decide)),rl,mp,fun k hk=> ?_,ap⟩,zna gg (by omega) (fun k hk=>by rw[hg]at hk;injection hk with hk;omega)⟩
 by_cases hki:k=i
 ·subst hki
  rw[rowL_set]at hp
  have e:zib m (upd A k j r k)=zib m (fun b=>if b=j then r else A k b):=zdf fun b _=>by
   unfold upd
   by_cases hb:b=j
   ·rw[if_pos ⟨rfl,hb⟩,if_pos hb]
   ·rw[if_neg (fun h=>hb h.2),if_neg hb]
  rw[e];exact hp
 ·have e:zib m (upd A i j r k)=zib m (A k):=zdf fun b _=>by unfold upd;rw[if_neg (fun h=>hki h.1)]
  rw[e]
  exact(row k hk).grown gg hnl (Or.inr (ap k i hk hi hki))
theorem znd.setDet (h:znd w T vR rs n m A wd rk d) {x y z:Value} {r:Rat} (hf:zqa w (.agg #[x,y,z]) r):
 znd (((w.setCell ⟨T,3,none⟩ x).setCell ⟨T,4,none⟩ y).setCell ⟨T,5,none⟩ z) T vR rs n m A wd rk r∧Below T w (((w.setCell ⟨T,3,none⟩ x).setCell ⟨T,4,none⟩ y).setCell ⟨T,5,none⟩ z):=by
 obtain⟨⟨a,b,h1,h2,h3⟩,own,rl,mp,row,ap⟩:=h
 obtain⟨p,q,ha,h4,h5⟩:=id hf
 injection ha with ha
 injection ha with ha
 simp only[List.cons.injEq,and_true]at ha
 obtain⟨rfl,rfl,rfl⟩:=ha
 obtain⟨a1,a2,a3,rfl,_⟩:=h2.v.sl
 obtain⟨b1,b2,b3,rfl,_⟩:=h3.v.sl
 have s1:=h1.set 3 (.bool (decide (r<0)))
 have s2:=s1.set 4 y
 have s3:=s2.set 5 z
 have m1:=zhb.set (B:=T+1) (p:=⟨T,3,none⟩) (Nat.lt_succ_self T) (h1.cell 3 rfl) (fun z=>by simp) (.bool (decide (r<0)))
 have m2:=zhb.set (B:=T+1) (p:=⟨T,4,none⟩) (Nat.lt_succ_self T) (s1.cell 4 rfl) (fun z=>by simp) y
 have m3:=zhb.set (B:=T+1) (p:=⟨T,5,none⟩) (Nat.lt_succ_self T) (s2.cell 5 rfl) (fun z=>by simp) z
 have mm:=(m1.trans m2).trans m3
 exact⟨⟨⟨y,z,s3,h4.moves mm,h5.moves mm⟩,own.moves mm (Nat.le_refl _),rl,mp,fun i hi=>(row i hi).moves mm (Nat.le_refl _),ap⟩,
  (((Below.refl T w).setCell (p:=⟨T,3,none⟩) (Nat.le_refl _) _).setCell (p:=⟨T,4,none⟩) (Nat.le_refl _) _).setCell (p:=⟨T,5,none⟩) (Nat.le_refl _) _⟩
theorem znd.setRank (h:znd w T vR rs n m A wd rk d) (k:Nat):
 znd (w.setCell ⟨T,2,none⟩ (.int .i64 k)) T vR rs n m A wd k d∧Below T w (w.setCell ⟨T,2,none⟩ (.int .i64 k)):=by
 obtain⟨⟨a,b,h1,h2,h3⟩,own,rl,mp,row,ap⟩:=h
 have mm:=zhb.set (B:=T+1) (p:=⟨T,2,none⟩) (Nat.lt_succ_self T) (h1.cell 2 rfl) (fun z=>by simp) (.int .i64 k)
 exact⟨⟨⟨a,b,h1.set 2 (.int .i64 k),h2.moves mm,h3.moves mm⟩,own.moves mm (Nat.le_refl _),rl,mp,fun i hi=>(row i hi).moves mm (Nat.le_refl _),ap⟩,
  (Below.refl T w).setCell (p:=⟨T,2,none⟩) (Nat.le_refl _) _⟩
theorem znd.swap (h:znd w T vR rs n m A wd rk d) {i j:Nat} (hi:i<rs.length) (hj:j<rs.length) (hij:i≠j):
 znd ((w.setCell (ptr vR i) rs[j]).setCell (ptr vR j) rs[i]) T vR ((rs.set i rs[j]).set j rs[i]) n m (swp A i j) wd rk d∧Below T w ((w.setCell (ptr vR i) rs[j]).setCell (ptr vR j) rs[i]):=by
 have hT:=h.lt
 obtain⟨⟨a,b,h1,h2,h3⟩,own,rl,mp,row,ap⟩:=h
 have hn:∀k (hk:k<rs.length) z,rs[k]≠ .int .u32 z:=fun k hk z=>by
  obtain⟨a1,a2,a3,e1,_⟩:=(row k hk).sl
  rw[e1];simp
 obtain⟨s1,g1⟩:=own.set1 i hi rs[j] (hn j hj)
 obtain⟨s2,g2⟩:=s1.set1 j (by rw[List.length_set];exact hj) rs[i] (hn i hi)
 have gg:=zle g1 g2
 obtain⟨g,hg,_,hgT,hgw,_⟩:=own.blk (by omega)
 have hgT':vR.ownBlock≠some T:=by rw[hg];intro e;injection e with e;omega
 have ge:∀k (hk:k<((rs.set i rs[j]).set j rs[i]).length),∃k',∃hk':k'<rs.length,((rs.set i rs[j]).set j rs[i])[k]=rs[k']∧swp A i j k=A k'∧(k'=if k=j then i else if k=i then j else k):=fun k hk=>by
  have hk0:k<rs.length:=by simpa using hk
  unfold swp
  by_cases e1:k=j
  ·subst e1
   exact⟨i,hi,by rw[List.getElem_set_self],by rw[if_neg (fun e=>hij e.symm),if_pos rfl],by rw[if_pos rfl]⟩
  ·by_cases e2:k=i
   ·subst e2
    exact⟨j,hj,by rw[List.getElem_set_ne (fun e=>e1 e.symm),List.getElem_set_self],by rw[if_pos rfl],by rw[if_neg e1,if_pos rfl]⟩
   ·exact⟨k,hk0,by rw[List.getElem_set_ne (fun e=>e1 e.symm),List.getElem_set_ne (fun e=>e2 e.symm)],by rw[if_neg e2,if_neg e1],by rw[if_neg e1,if_neg e2]⟩
 refine⟨⟨⟨a,b,h1.grown gg hgT',h2.grown gg own.nl,h3.grown gg own.nl⟩,?_,by simp[rl],mp,fun k hk=> ?_,fun k l hk hl hkl=> ?_⟩,zna gg (by omega) (fun k hk=>by rw[hg]at hk;injection hk with hk;omega)⟩
 ·rw[List.length_set,List.length_set];exact s2
 ·obtain⟨k',hk',e1,e2,_⟩:=ge k hk
  obtain⟨ys,y1,y2⟩:=id (row k' hk')
  rw[e1,e2]
  exact(row k' hk').grown gg own.nl (y1.kinds own (by decide))
 ·obtain⟨k',hk',e1,_,f1⟩:=ge k hk
  obtain⟨l',hl',e2,_,f2⟩:=ge l hl
  rw[e1,e2]
  refine ap k' l' hk' hl' ?_
  rw[f1,f2]
  split<;>split<;>(try split)<;>(try split)<;>omega
end
theorem kp3a {w0 X:World} {a1 a2 a3:Addr} {x1 x2 x3:Value} (h:w0.cell? a1=some x1∧w0.cell? a2=some x2∧w0.cell? a3=some x3) (hb:Below w0.heap.size w0 X):X.cell? a1=some x1∧X.cell? a2=some x2∧X.cell? a3=some x3∧Below w0.heap.size w0 X:=by
 obtain⟨k1,k2,k3⟩:=h
 exact⟨zba hb k1,zba hb k2,zba hb k3,hb⟩
theorem kp8w {w0 X Y:World} {a1 a2 a3 a4 a5 a6 a7 a8:Addr} {x1 x2 x3 x4 x5 x6 x7 x8:Value} (h:X.cell? a1=some x1∧X.cell? a2=some x2∧X.cell? a3=some x3∧X.cell? a4=some x4∧X.cell? a5=some x5∧X.cell? a6=some x6∧X.cell? a7=some x7∧X.cell? a8=some x8∧Below w0.heap.size w0 X) (hb:Below X.heap.size X Y):Y.cell? a1=some x1∧Y.cell? a2=some x2∧Y.cell? a3=some x3∧Y.cell? a4=some x4∧Y.cell? a5=some x5∧Y.cell? a6=some x6∧Y.cell? a7=some x7∧Y.cell? a8=some x8∧Below w0.heap.size w0 Y:=by
 obtain⟨k1,k2,k3,k4,k5,k6,k7,k8,k0⟩:=h
 exact⟨zba hb k1,zba hb k2,zba hb k3,zba hb k4,zba hb k5,zba hb k6,zba hb k7,zba hb k8,zaa k0 hb⟩
theorem kp8a {w0 X:World} {a1 a2 a3 a4 a5 a6 a7 a8:Addr} {x1 x2 x3 x4 x5 x6 x7 x8:Value} (h:w0.cell? a1=some x1∧w0.cell? a2=some x2∧w0.cell? a3=some x3∧w0.cell? a4=some x4∧w0.cell? a5=some x5∧w0.cell? a6=some x6∧w0.cell? a7=some x7∧w0.cell? a8=some x8) (hb:Below w0.heap.size w0 X):X.cell? a1=some x1∧X.cell? a2=some x2∧X.cell? a3=some x3∧X.cell? a4=some x4∧X.cell? a5=some x5∧X.cell? a6=some x6∧X.cell? a7=some x7∧X.cell? a8=some x8∧Below w0.heap.size w0 X:=by
 obtain⟨k1,k2,k3,k4,k5,k6,k7,k8⟩:=h
 exact⟨zba hb k1,zba hb k2,zba hb k3,zba hb k4,zba hb k5,zba hb k6,zba hb k7,zba hb k8,hb⟩
theorem kp8c {w0 X:World} {a1 a2 a3 a4 a5 a6 a7 a8:Addr} {x1 x2 x3 x4 x5 x6 x7 x8:Value} (h:X.cell? a1=some x1∧X.cell? a2=some x2∧X.cell? a3=some x3∧X.cell? a4=some x4∧X.cell? a5=some x5∧X.cell? a6=some x6∧X.cell? a7=some x7∧X.cell? a8=some x8∧Below w0.heap.size w0 X):Below w0.heap.size w0 X:=by
 obtain⟨k1,k2,k3,k4,k5,k6,k7,k8,k0⟩:=h
 exact k0
theorem kp8s {w0 X:World} {a1 a2 a3 a4 a5 a6 a7 a8:Addr} {x1 x2 x3 x4 x5 x6 x7 x8:Value} (h:w0.cell? a1=some x1∧w0.cell? a2=some x2∧w0.cell? a3=some x3∧w0.cell? a4=some x4∧w0.cell? a5=some x5∧w0.cell? a6=some x6∧w0.cell? a7=some x7∧w0.cell? a8=some x8) (hb:Below w0.heap.size w0 X) {b:Nat} (hB:w0.heap.size≤b) (x y z:Value):(((X.setCell ⟨b,0,none⟩ x).setCell ⟨b,1,none⟩ y).setCell ⟨b,2,none⟩ z).cell? a1=some x1∧(((X.setCell ⟨b,0,none⟩ x).setCell ⟨b,1,none⟩ y).setCell ⟨b,2,none⟩ z).cell? a2=some x2∧(((X.setCell ⟨b,0,none⟩ x).setCell ⟨b,1,none⟩ y).setCell ⟨b,2,none⟩ z).cell? a3=some x3∧(((X.setCell ⟨b,0,none⟩ x).setCell ⟨b,1,none⟩ y).setCell ⟨b,2,none⟩ z).cell? a4=some x4∧(((X.setCell ⟨b,0,none⟩ x).setCell ⟨b,1,none⟩ y).setCell ⟨b,2,none⟩ z).cell? a5=some x5∧(((X.setCell ⟨b,0,none⟩ x).setCell ⟨b,1,none⟩ y).setCell ⟨b,2,none⟩ z).cell? a6=some x6∧(((X.setCell ⟨b,0,none⟩ x).setCell ⟨b,1,none⟩ y).setCell ⟨b,2,none⟩ z).cell? a7=some x7∧(((X.setCell ⟨b,0,none⟩ x).setCell ⟨b,1,none⟩ y).setCell ⟨b,2,none⟩ z).cell? a8=some x8∧Below w0.heap.size w0 (((X.setCell ⟨b,0,none⟩ x).setCell ⟨b,1,none⟩ y).setCell ⟨b,2,none⟩ z):=
 kp8a h (zga hb hB x y z)
structure zam (w:World) (v:Value) (n m:Nat) (A:Mx):Prop where
 sl:zgc v
 len:slen v=n
 row:∀i,i<n→∃r,w.cell? (ptr v i)=some r∧zbb w r (zib m (A i))
theorem zam.below {w w':World} {v:Value} {n m:Nat} {A:Mx} (h:zam w v n m A) (hb:Below w.heap.size w w'):zam w' v n m A:=
 ⟨h.sl,h.len,fun i hi=>by obtain⟨r,h1,h2⟩:=h.row i hi;exact⟨r,zba hb h1,h2.below hb⟩⟩
theorem zcg {P:Program} (t e:TypeId) (i:TypeInfo) (ht:P.underlying t=some (.slice e)) (hi:P.info? e=some i) (hz:i.zero=some (.agg #[.bool false, .slice none 0 0, .slice none 0 0])) (hsize:i.size=3) (hby:i.bytes=56)
 {ops:Array Oper} {o:Oper} {a:Act} {w:World} {K:Act→World→Prop} {Q:Exit→Act→World→Prop} {E:Prop} (hgd:o.guard=none) (s x:Operand)
 (ho:o.op= .call { callee:= .builtin .append,args:=#[s,x],argTypes:=#[t,t] }) (B:Nat) (v:Value) (q:List Rat) (hs:a.eval s=v) (hown:zya w e B v q) (c0 c1 c2:Value) (r:Rat) (hf:zqa w (.agg #[c0,c1,c2]) r) (g:Nat) (hxe:a.eval x= .slice (some ⟨g,0,none⟩) 1 1)
 (hc:zjf w g #[c0,c1,c2]) (hn:q.length≤1000) (hbase:B≤w.heap.size)
 (h:∀v' w',zya w' e B v' (q++ [r])→w.grownBy w' v.ownBlock→zlb w v→(v'.ownBlock=v.ownBlock∨v'.ownBlock=some w.heap.size)→K (a.put o.dst v') w'):
 if Region.wanted o (yielded ops a.tmps)=true then Oper.wp P o a w K Q else E:=by
 obtain⟨xs,h1,h2⟩:=hown
 have hl:xs.length=q.length*3:=h1.clen
 obtain⟨a1,b1,ha,h4,h5⟩:=id hf
 injection ha with ha
 injection ha with ha
 simp only[List.cons.injEq,and_true]at ha
 obtain⟨rfl,rfl,rfl⟩:=ha
 obtain⟨p1,p2,p3,rfl,_⟩:=h4.v.sl
 obtain⟨s1,s2,s3,rfl,_⟩:=h5.v.sl
 rw[if_pos (by simp[Region.wanted,hgd])]
 obtain⟨v',w',hr,k2,k3,k4,k5⟩:=zwd (P:=P) w B t o.type e i _ 3 56 ht hi hz hsize hby rfl (by decide) v q.length xs h1.own ⟨g,0,none⟩ 1 1 [.bool (decide (r<0)), .slice p1 p2 p3, .slice s1 s2 s3] rfl
  (fun j u hu=>by
   rw[Addr.add_lit,Nat.zero_add]
   exact hc.cell j (by simpa using hu)) (fun u hu=>by simp at hu;rcases hu with rfl | rfl | rfl<;>rfl) (by simp[maxLen];omega) (by omega) hbase h1.nl (fun u hu z=>by simp at hu;rcases hu with rfl | rfl | rfl<;>simp) (fun c hc z=>by
   have hc2:c∈ [Value.bool false, .slice none 0 0, .slice none 0 0]:=hc
   simp at hc2;rcases hc2 with rfl | rfl<;>simp)
 unfold Oper.wp execOp
 simp only[ho,resolve,invoke,builtin,Sem.run_bind,Sem.run_pure,Result.andThen_ok,List.map_toArray,List.map_cons,List.map_nil,hs,hxe,hr]
 refine h v' w' ⟨_,?_,(zwe.snoc (r:=r) h2 hl hf).grown k3 h1.nl⟩ k3 h1.nl k4
 rw[List.length_append]
 exact⟨k2,k5⟩
theorem zbi {P:Program} (t e:TypeId) (i:TypeInfo) (h1:P.underlying t=some (.slice e)) (h2:P.info? e=some i) (h3:i.zero=some (.slice none 0 0)) (h4:i.size=1) (h5:i.bytes=24)
 (w:World) {ops:Array Oper} {rest:List Oper} {o:Oper} {a:Act} {Q:Exit→Act→World→Prop} (hg:o.guard=none) (l c:Operand) (hop:o.op=Op.makeSlice t l c)
 (B:Nat) (u:Int) (n:Nat) (hu:u=n) (hl:a.eval l= .int .i64 u) (hc:a.eval c= .int .i64 u) (b2:n≤1000) (b4:B≤w.heap.size)
 (hK:∀v w',zlc w' e B 1 v n (List.replicate n (.slice none 0 0))→Below w.heap.size w w'→wpList P ops Q rest (a.put o.dst v) w'):
 wpList P ops Q (o::rest) a w:=by
 subst hu
 refine wpList_make_full w hg l c t hop B e i _ 1 h1 h2 h3 h4 .i64 .i64 n n n hl hc rfl rfl (by rw[h5];omega) (by unfold maxLen;omega) b4 ?_
 intro w' hown hgr
 have hcs:(madeCells (Value.slice none 0 0).cells (n*1)).toList=List.replicate n (.slice none 0 0):=by
  rw[show(Value.slice none 0 0).cells=#[.slice none 0 0]from rfl,Nat.mul_one,toList_madeCells_one]
 rw[hcs]at hown
 refine hK _ w' ⟨hown,?_⟩ (zna hgr (Nat.le_refl _) (fun k hk=>by cases hk))
 intro g' hg' cur e' fz hcc x hx z
 rcases hown.2 with⟨h',_⟩ | ⟨g2,cap,cur2,h',hb,hgg,_,_,hs,ht⟩
 ·cases h'
 ·injection h' with k4 k5 k6
  injection k4 with k4
  injection k4 with k4
  simp only[Value.ownBlock,Option.some.injEq]at hg'
  rw[←hg',k4,hgg]at hcc
  injection hcc with hcc
  injection hcc with hcc _ _
  subst hcc
  have e9:cur2.toList=List.replicate n (.slice none 0 0):=by
   rw[←ht]
   exact(List.take_of_length_le (by rw[Array.length_toList,hs,←k6];exact Nat.le_refl _)).symm
  rw[e9]at hx
  rw[List.eq_of_mem_replicate hx];simp
structure zrj (w:World) (B:Nat) (vO:Value) (rs:List Value) (n:Nat) (qs:Nat→List Rat):Prop where
 own:zlc w 23 B 1 vO n rs
 row:∀ (i:Nat) (h:i<rs.length),zya w 32 B rs[i] (qs i)
 ap:∀ (i j:Nat) (hi:i<rs.length) (hj:j<rs.length),i≠j→rs[i].ownBlock=none∨rs[i].ownBlock≠rs[j].ownBlock
section
variable {w w':World} {B n:Nat} {vO:Value} {rs:List Value} {qs:Nat→List Rat}
theorem zrj.rl (h:zrj w B vO rs n qs):rs.length=n:=by have:=h.own.clen;omega
theorem zrj.start (h:zlc w 23 B 1 vO n (List.replicate n (.slice none 0 0))):zrj w B vO (List.replicate n (.slice none 0 0)) n (fun _=> []):=
 ⟨h,fun i hi=>by rw[List.getElem_replicate];exact zya.nil _ _ _,fun i j hi hj _=>Or.inl (by rw[List.getElem_replicate];rfl)⟩
theorem zrj.below (h:zrj w B vO rs n qs) (hb:Below w.heap.size w w'):zrj w' B vO rs n qs:=
 ⟨h.own.below hb,fun i hi=>(h.row i hi).moves (zhb.below (B:=B) hb) (Nat.le_refl _),h.ap⟩
theorem zrj.set (h:zrj w B vO rs n qs) {i:Nat} (hi:i<rs.length) {v':Value} {q:List Rat} (hB:B≤w.heap.size) (hv:zya w' 32 B v' q) (hg:w.grownBy w' rs[i].ownBlock) (hn:zlb w rs[i]) (hob:v'.ownBlock=rs[i].ownBlock∨v'.ownBlock=some w.heap.size):
 zrj (w'.setCell (ptr vO i) v') B vO (rs.set i v') n (fun k=>if k=i then q else qs k)∧Below B w (w'.setCell (ptr vO i) v'):=by
 obtain⟨own,row,ap⟩:=h
 obtain⟨ys,y1,y2⟩:=id (row i hi)
 have own':=own.grown hg (own.kinds y1 (by decide))
 have hlen:rs.length=n:=by have:=own.clen;omega
 obtain⟨s1,s2⟩:=own'.set1 i hi v' (fun z e=>by obtain⟨a1,a2,a3,e1,_⟩:=hv.sl;rw[e1]at e;cases e)
 have hbr:=(row i hi).block
 have hbo:=own.block
 refine⟨⟨s1,fun k hk=> ?_,fun j k hj hk hjk=> ?_⟩,(zna hg hB (fun k hk=>(hbr k hk).1)).trans (zna s2 (Nat.le_trans hB hg.size) (fun k hk=>(hbo k hk).1))⟩
 ·have hk0:k<rs.length:=by simpa using hk
  by_cases hki:k=i
  ·subst hki
   rw[List.getElem_set_self,if_pos rfl]
   obtain⟨zs,z1,z2⟩:=id hv
   exact hv.grown s2 own'.nl (z1.kinds own' (by decide))
  ·rw[List.getElem_set_ne (fun e=>hki e.symm),if_neg hki]
   obtain⟨zs,z1,z2⟩:=id (row k hk0)
   have hk1:=(row k hk0).grown hg hn (ap k i hk0 hi hki)
   exact hk1.grown s2 own'.nl (z1.kinds own (by decide))
 ·have hj0:j<rs.length:=by simpa using hj
  have hk0:k<rs.length:=by simpa using hk
  by_cases h1:j=i
  ·subst h1
   rw[List.getElem_set_self,List.getElem_set_ne hjk]
   rcases hob with h | h
   ·rw[h];exact ap j k hj0 hk0 hjk
   ·rw[h];refine Or.inr (fun e=> ?_)
    have:=((row k hk0).block _ e.symm).2
    omega
  ·rw[List.getElem_set_ne (fun e=>h1 e.symm)]
   by_cases h2:k=i
   ·subst h2
    rw[List.getElem_set_self]
    rcases hob with h | h
    ·rw[h];exact ap j k hj0 hk0 hjk
    ·rw[h];refine Or.inr (fun e=> ?_)
     have:=((row j hj0).block _ e).2
     omega
   ·rw[List.getElem_set_ne (fun e=>h2 e.symm)];exact ap j k hj0 hk0 hjk
end
@[go_sem ↓] theorem zdm {P : Program} (w : World) {t : TypeId} {v : Value} {lo : Int} (h : zgc v) (ht : P.underlying t = some (.slice (P.elem t))) (h0 : 0 ≤ lo) (h1 : lo ≤ (slen v : Int)) :
 (Instr.slice t v (some (.int .i64 lo)) none none).run P w=((sizeOf (P.elem t)).run P w).andThen fun s w=> .ok (cut s v lo.toNat (slen v)) w:=by
  obtain⟨a,n,cap,rfl,hn,_,h3⟩:=h
  simp only[slen]at h1
  have h00:(n:Int)≤cap:=by omega
  simp[Instr.slice,run_underlying ht,Instr.sliceBounds,Instr.sliceBound,asIntOf,h0,h1,h00,cut,slen]
theorem zbb.drop {w:World} {v:Value} {q:List Rat} (h:zbb w v q) (lo:Nat) (hlo:lo<q.length):zbb w (cut 3 v lo (slen v)) (q.drop lo):=by
 have hl:=h.len
 have hle:=h.sl.le
 refine⟨h.sl.cut (by omega) hle.1,by rw[h.sl.slen_cut,List.length_drop,hl],fun j hj=> ?_⟩
 have hj2:lo+j<q.length:=by rw[List.length_drop]at hj;omega
 obtain⟨a,b,h1,h2,h3,h4,h5⟩:=h.at' (lo+j) hj2
 have e:(q.drop lo)[j]'hj=q[lo+j]'hj2:=by rw[List.getElem_drop]
 rw[e]
 rw[zwk h.sl (by omega),zwk h.sl (by omega),zwk h.sl (by omega)]
 exact⟨a,b,by rw[show lo*3+j*3=(lo+j)*3 by omega];exact h1,by rw[show lo*3+(j*3+1)=(lo+j)*3+1 by omega];exact h2,by rw[show lo*3+(j*3+2)=(lo+j)*3+2 by omega];exact h3,h4,h5⟩
theorem zrj.congr {w:World} {B n:Nat} {vO:Value} {rs:List Value} {p q:Nat→List Rat} (h:zrj w B vO rs n p) (hpq:∀i,i<n→p i=q i):zrj w B vO rs n q:=
 ⟨h.own,fun i hi=>by rw[←hpq i (by rw[←h.rl];exact hi)];exact h.row i hi,h.ap⟩
theorem zlk (k:Nat) (f:Nat→Rat):zib k f++ [f k]=zib (k+1) f:=by
 unfold zib;rw[List.range_succ,List.map_append];rfl
set_option maxHeartbeats 800000
def RNatO (w0:World) (n:Nat) (e:Ending) (w:World):Prop:=∃r,e= .returned r∧zcc w 94 w0.heap.size r (zla n)∧zda n≤4294967296∧Below w0.heap.size w0 w
theorem RNatO.nat {w0:World} {n:Nat} {e:Ending} {w:World} (h:RNatO w0 n e w):RNat w0 n e w:=by
 obtain⟨r,h1,h2,h3,h4⟩:=h;exact⟨r,h1,⟨h2.nat,h3⟩,h4⟩
theorem zaf (l:List Nat) (j:Nat) (hj:j<l.length):l.getD j 0=l[j]:=by simp[List.getD,hj]
theorem zjk (v:Value) (n:Nat) (w:World) (h:zob w v n):
 Calls Try.prog 66 #[v] w (RNatO w n):=by
 obtain⟨l,hl,HE,hll⟩:=h
 have hs:=hl.sl
 have hlen:=hl.len
 have hle:=hs.le
 have hcan:=hl.can hll
 rw[HE]at hcan
 have hce:clen l=zda n:=by rw[zhj hl.lm,HE]
 have hcl:=zsb hl.lm
 rw[HE]at hcl
 have HCE:=zH hce
 clear HE hce
 have HLL:=zH hll
 clear hll
 have hcs:zda n≤scap v:=by omega
 obtain⟨i0,hi,hz0,hz1,hz2⟩:=info_parts Try.info102
 have hroom:([]:List Nat).length+(zla n).length≤35184372088832:=by have:=hcan.2;unfold zda at this;simp;omega
 have hA:=zkj (P:=Try.prog) 30 94 i0 Try.underlying30 hi hz0 hz1 hz2
 have HR:=zH hroom
 have HN:=zH hcan
 clear hroom hcan hi hz0 hz1 hz2
 go_enter Try.func66,Try.ntmps66
 go_wp2
 go_loop [3] (fun i=>∃k:Nat,k≤l.length∧i= .int .i64 k∧clen (l.take k)=clen l) (fun i=>(intOf i).toNat)
 case atStart=>exact⟨l.length,Nat.le_refl _,by simp[hlen],by rw[List.take_length]⟩
 case round=>
  obtain⟨k,hk,rfl,hce⟩:=hrel
  have HC:=zH hce;clear hce
  by_cases h1:0<k∧l.getD (k-1) 0=0
  ·obtain⟨h0,hx⟩:=h1
   obtain⟨j,rfl⟩:∃j,k=j+1:=⟨k-1,by omega⟩
   have hj:j<l.length:=by omega
   rw[Nat.add_sub_cancel,zaf _ _ hj]at hx
   have hc:=hl.cell j hj
   have HZ:=zH (zbf l j hj hx)
   rw[hx]at hc
   clear hx
   go_wp2_with fail
   go_round
   case rel=>exact⟨j,by omega,rfl,by rw[←HC.out,HZ.out]⟩
   case measure=>simp[intOf]
  ·have e:zda n=k:=by
    rw[←HCE.out,←HC.out]
    by_cases h0:0<k
    ·obtain⟨j,rfl⟩:∃j,k=j+1:=⟨k-1,by omega⟩
     have hj:j<l.length:=by omega
     exact zki l j hj (fun hx=>h1 ⟨h0,by rw[Nat.add_sub_cancel,zaf _ _ hj,hx]⟩)
    ·obtain rfl:k=0:=by omega
     rfl
   rw[e]at HN hcs hcl
   have hc:0<k→∃x:Nat,w.cell? (ptr v (k-1))=some (.int .u32 x)∧(((x:Nat):Int)==0)=false:=fun h0=>by
    have hj:k-1<l.length:=by omega
    refine⟨_,hl.cell (k-1) hj,?_⟩
    have :l[k-1]≠0:=fun hx=>h1 ⟨h0,by rw[zaf _ _ hj,hx]⟩
    have :((l[k-1]:Nat):Int)≠0:=by omega
    simpa using this
   clear h1 e
   rcases Nat.eq_zero_or_pos k with h0 | h0
   ·clear hc
    subst h0
    go_wp2_with (at_builtin;refine hA w rfl _ _ rfl w.heap.size _ [] rfl (zcc.nil _ _ _) _ rfl (zla n) HN.out.1 HR.out (Nat.le_refl _) ?_;intro v' w1 hown _ hbel)
    go_ret
    exact⟨v',rfl,by simpa using hown,HN.out.2,hbel⟩
   ·obtain⟨x,hx,hx3⟩:=hc h0
    clear hc
    go_wp2_with (at_builtin;refine hA w rfl _ _ rfl w.heap.size _ [] rfl (zcc.nil _ _ _) _ rfl (zla n) HN.out.1 HR.out (Nat.le_refl _) ?_;intro v' w1 hown _ hbel)
    go_ret
    exact⟨v',rfl,by simpa using hown,HN.out.2,hbel⟩
theorem zra (v:Value) (n:Nat) (w:World) (h:zob w v n):
 Calls Try.prog 66 #[v] w (RNat w n):=(zjk v n w h).mono fun _ _ h=>h.nat
theorem zkd (n:Nat) (hn:n<18446744073709551616) (w:World):
 Calls Try.prog 37 #[.int .u64 n] w (RNat w n):=by
 have HN:=zal w 94 (n%4294967296) (n/4294967296) (by omega) (by omega)
 rw[show((n%4294967296:Nat):Int)=(n:Int)%4294967296 from by omega,show((n/4294967296:Nat):Int)=(n:Int)/4294967296 from by omega]at HN
 have hv:val [n%4294967296,n/4294967296]=n:=by simp[val];omega
 have HL:=HN.natN (by simp)
 rw[hv]at HL
 have HT:=zH (zra _ _ _ HL)
 have HB:=zH ((Below.refl w.heap.size w).alloc (Nat.le_refl _) (.cells #[.int .u32 ((n:Int)%4294967296), .int .u32 ((n:Int)/4294967296)] 94))
 clear HN hv HL
 go_enter Try.func37,Try.ntmps37
 go_wp2_with (go_at_call 66;refine HT.out.mono ?_;rintro e w1 ⟨r,rfl,hr,hb⟩)
 go_ret
 exact⟨_,rfl,hr,HB.out.trans (hb.mono HB.out.size)⟩
theorem zti (v:Value) (n:Nat) (w:World) (h:zob w v n):
 Calls Try.prog 103 #[v] w fun e w'=>e= .returned (.bool (decide (512<zda n)))∧Below w.heap.size w w':=by
 go_enter Try.func103,Try.ntmps103
 go_wp2_with (go_at_call 66;refine(zra v n _ h).mono ?_;rintro e w1 ⟨r,rfl,hr,hb⟩;have h1:=hr.1.sl;have h2:slen r=zda n:=hr.1.len)
 go_ret
 exact⟨by congr 2;simp;omega,hb⟩
theorem zyc (v:Value) (n:Nat) (w:World) (h:zob w v n) (hn:zda n≤512):
 Calls Try.prog 103 #[v] w fun e w'=>e= .returned (.bool false)∧Below w.heap.size w w':=
 (zti v n w h).mono fun e w' ⟨h1,h2⟩=>⟨by rw[h1,decide_eq_false (by omega)],h2⟩
theorem zee (va vb:Value) (m n:Nat) (w:World) (ha:zob w va m) (hb:zob w vb n):
 Calls Try.prog 71 #[va,vb] w fun e w'=>e= .returned (.int .i64 (zfj m n))∧Below w.heap.size w w':=by
 go_enter Try.func71,Try.ntmps71
 go_wp2_with (go_at_call 66;first
  |((with_reducible refine(zra va m _ ha).mono ?_);rintro e w1 ⟨ra,rfl,hra,hb1⟩)
  |((with_reducible refine(zra vb n _ (hb.below hb1)).mono ?_);rintro e w2 ⟨rb,rfl,hrb,hb2⟩
    have h1:=(hra.below hb2).1.sl
    have h2:slen ra=zda m:=(hra.below hb2).1.len
    have h3:=hrb.1.sl
    have h4:slen rb=zda n:=hrb.1.len
    have h5:zda m≤4294967296:=hra.2))
 ·go_ret
  exact⟨by rw[zkg (zug (by assumption))];rfl,hb1.trans (hb2.mono hb1.size)⟩
 ·have hne:((zda m:Nat):Int)≠zda n:=by simpa using ‹((zda m:Int) != (zda n:Int))=true›
  have hlt:¬zda m<zda n:=by assumption
  go_ret
  exact⟨by rw[zul (zug (by omega))];rfl,hb1.trans (hb2.mono hb1.size)⟩
 ·have he:zda m=zda n:=by
   have :((zda m:Nat):Int)=zda n:=by simpa using ‹((zda m:Int) != (zda n:Int))=false›
   omega
  have HB:=zH (hb1.trans (hb2.mono hb1.size))
  have ca:=(hra.below hb2).1.cell
  have cb:=hrb.1.cell
  have hln:=hrb.2
  clear ha hb hb1 hb2 hra hrb
  have HE:=zH he
  rw[←he]at hln
  clear he
  go_loopw [5] (fun i wr=>∃k q:Nat,k≤zda m∧i= .int .i64 ((k:Int)-1)∧(zla m).drop k=(zla n).drop k∧wr=w2.drewN q) (fun i _=>(intOf i+1).toNat)
  case atStart=>exact⟨zda m,0,Nat.le_refl _,by simp,by rw[List.drop_of_length_le (show zda m≤zda m from Nat.le_refl _),List.drop_of_length_le (show zda n≤zda m by have:=HE.out;omega)],rfl⟩
  case round=>
   obtain⟨k,q,hk,rfl,hd,rfl⟩:=hrel
   have HD:=zH hd
   clear hd
   by_cases hk0:0<k
   ·obtain⟨j,rfl⟩:∃j,k=j+1:=⟨k-1,by omega⟩
    have hj1:j<zda m:=by omega
    have hj2:j<zda n:=by have:=HE.out;omega
    have h7:=ca j hj1
    have h8:=cb j hj2
    have hlt:=zde (zrb m) j hj1 hj2 HD.out
    have hgt:=zde (zrb n) j hj2 hj1 HD.out.symm
    have heq:=zvm j hj1 hj2 HD.out
    rw[zha,zha]at hlt hgt
    clear ca cb HD
    generalize (zla m)[j]'hj1=x at *
    generalize (zla n)[j]'hj2=y at *
    have HL:=zH hlt
    have HG:=zH hgt
    have HQ:=zH heq
    clear hlt hgt heq
    by_cases hxy:x<y
    ·go_wp2
     go_quiet (fail)
     go_wp2
     go_ret
     exact⟨by rw[zkg (HL.out hxy)];rfl,by first | exact HB.out.trans ((zka _ _).mono HB.out.size) | (simp only[World.drewN_drewN];exact HB.out.trans ((zka _ _).mono HB.out.size))⟩
    ·by_cases hyx:y<x
     ·go_wp2
      go_quiet (fail)
      go_wp2
      go_quiet (fail)
      go_wp2
      go_ret
      exact⟨by rw[zul (HG.out hyx)];rfl,by first | exact HB.out.trans ((zka _ _).mono HB.out.size) | (simp only[World.drewN_drewN];exact HB.out.trans ((zka _ _).mono HB.out.size))⟩
     ·go_wp2
      go_quiet (fail)
      go_wp2
      go_quiet (fail)
      go_wp2
      go_roundw
      case rel=>exact⟨j,_,by omega,by go_num,HQ.out (by omega),by first | rfl | (simp only[World.drewN_drewN];rfl)⟩
      case measure=>simp[intOf]
   ·obtain rfl:k=0:=by omega
    have hmn:m=n:=zhg (by simpa using HD.out)
    have HM:=zH hmn
    clear hmn
    go_wp2
    go_ret
    exact⟨by rw[cmpN_eq HM.out];rfl,HB.out.trans ((zka _ _).mono HB.out.size)⟩
theorem zmf (l:List Nat) (k:Nat):val (l.take (k+1))=val (l.take k)+pw k*l.getD k 0:=by
 by_cases h:k<l.length
 ·rw[zia l k h,zaf l k h]
 ·rw[zza l (k+1) (by omega),zza l k (by omega)]
  have :l.getD k 0=0:=by simp[List.getD,List.getElem?_eq_none (Nat.le_of_not_lt h)]
  rw[this,Nat.mul_zero,Nat.add_zero]
theorem zmh (o:List Nat) (z:Nat):val (o++ [z])=val o+pw o.length*z:=by rw[zac];simp[val]
theorem ztg {o a b:List Nat} {k bo x y z bo':Nat} (ho:o.length=k) (ha:val (a.take (k+1))=val (a.take k)+pw k*x) (hb:val (b.take (k+1))=val (b.take k)+pw k*y)
 (hz:z+bo+y=x+4294967296*bo') (hv:val o+val (b.take k)=val (a.take k)+pw k*bo):
 val (o++ [z])+val (b.take (k+1))=val (a.take (k+1))+pw (k+1)*bo':=by
 rw[zmh,ha,hb,zmb,ho]
 grind
theorem minus_end {o a b:List Nat} {bo:Nat} (hb:val b≤val a) (ho:Lm o) (hol:o.length=a.length) (hbo:bo≤1) (hv:val o+val b=val a+pw a.length*bo):val o=val a-val b:=by
 have h1:=zoe ho
 rw[hol]at h1
 rcases Nat.eq_zero_or_pos bo with h | h
 ·subst h;omega
 ·obtain rfl:bo=1:=by omega
  omega
set_option maxHeartbeats 1000000 in
theorem zdl (va vb:Value) (a b:List Nat) (w:World) (ha:zfc w va a) (hb:zfc w vb b) (hla:a.length≤65536) (hlb:b.length≤a.length) (hba:val b≤val a):
 Calls Try.prog 122 #[va,vb] w (RNatO w (val a-val b)):=by
 obtain⟨i0,hi,hz0,hz1,hz2⟩:=info_parts Try.info102
 have hA1:=zuf (P:=Try.prog) 30 94 i0 Try.underlying30 hi hz0 hz1 hz2
 clear hi hz0 hz1 hz2
 have HBA:=zH hba
 clear hba
 have sa:=ha.sl
 have sb:=hb.sl
 have la:=ha.len
 have lb:=hb.len
 go_enter Try.func122,Try.ntmps122
 go_wp2_with fail
 go_loopw [5,6,7] (fun u5 u6 u7 wr=>∃ (k bo:Nat) (o:List Nat),k≤a.length∧u7= .int .i64 k∧u6= .int .u64 bo∧bo≤1∧zcc wr 94 w.heap.size u5 o∧o.length=k∧
  val o+val (b.take k)=val (a.take k)+pw k*bo∧Below w.heap.size w wr) (fun _ _ u7 _=>a.length- (intOf u7).toNat)
 case atStart=>exact⟨0,0,[],by omega,rfl,rfl,by omega,zcc.nil _ _ _,rfl,by simp[val],Below.refl _ _⟩
 case round=>
  obtain⟨k,bo,o,hk,rfl,rfl,hc,hownr,hol,hval,hbr⟩:=hrel
  have HOL:=zH hol
  have HV:=zH hval
  have HO:Hid (o.length+1≤4294967296):=zH (by omega)
  clear hol hval
  by_cases h1:k<a.length
  ·have hx:=(ha.below hbr).cell k h1
   have hx1:=ha.lt k h1
   have HX:=zH (zia a k h1)
   generalize a[k]=x at *
   by_cases h2:k<b.length
   ·have hy:=(hb.below hbr).cell k h2
    have hy1:=hb.lt k h2
    have HY:=zH (zia b k h2)
    generalize b[k]=y at *
    by_cases h3:x<bo+y
    ·have HS:=zH (ztg (z:=x+4294967296- (bo+y)) (bo':=1) HOL.out HX.out HY.out (by omega) HV.out)
     go_wp2_with (at_builtin;refine hA1 wr rfl _ _ rfl w.heap.size _ u5 o rfl (by exact hownr) _ (x+4294967296- (bo+y)) (by omega) (by omega) rfl (Nat.le_trans HO.out (by decide)) hbr.size ?_;intro v' w1 hown1 hbel1)
     go_roundw
     case rel=>exact⟨k+1,1,_,by omega,by go_num,by go_num,by omega,hown1,by simp[HOL.out],HS.out,hbr.trans (hbel1.mono (Nat.le_refl _))⟩
     case measure=>simp[intOf];omega
    ·have HS:=zH (ztg (z:=x- (bo+y)) (bo':=0) HOL.out HX.out HY.out (by omega) HV.out)
     go_wp2_with (at_builtin;refine hA1 wr rfl _ _ rfl w.heap.size _ u5 o rfl (by exact hownr) _ (x- (bo+y)) (by omega) (by omega) rfl (Nat.le_trans HO.out (by decide)) hbr.size ?_;intro v' w1 hown1 hbel1)
     go_roundw
     case rel=>exact⟨k+1,0,_,by omega,by go_num,by go_num,by omega,hown1,by simp[HOL.out],HS.out,hbr.trans (hbel1.mono (Nat.le_refl _))⟩
     case measure=>simp[intOf];omega
   ·have HY:Hid (val (b.take (k+1))=val (b.take k)+pw k*0):=zH (by rw[zza b (k+1) (by omega),zza b k (by omega)];simp)
    by_cases h3:x<bo+0
    ·have HS:=zH (ztg (z:=x+4294967296- (bo+0)) (bo':=1) HOL.out HX.out HY.out (by omega) HV.out)
     go_wp2_with (at_builtin;refine hA1 wr rfl _ _ rfl w.heap.size _ u5 o rfl (by exact hownr) _ (x+4294967296- (bo+0)) (by omega) (by omega) rfl (Nat.le_trans HO.out (by decide)) hbr.size ?_;intro v' w1 hown1 hbel1)
     go_roundw
     case rel=>exact⟨k+1,1,_,by omega,by go_num,by go_num,by omega,hown1,by simp[HOL.out],HS.out,hbr.trans (hbel1.mono (Nat.le_refl _))⟩
     case measure=>simp[intOf];omega
    ·have HS:=zH (ztg (z:=x- (bo+0)) (bo':=0) HOL.out HX.out HY.out (by omega) HV.out)
     go_wp2_with (at_builtin;refine hA1 wr rfl _ _ rfl w.heap.size _ u5 o rfl (by exact hownr) _ (x- (bo+0)) (by omega) (by omega) rfl (Nat.le_trans HO.out (by decide)) hbr.size ?_;intro v' w1 hown1 hbel1)
     go_roundw
     case rel=>exact⟨k+1,0,_,by omega,by go_num,by go_num,by omega,hown1,by simp[HOL.out],HS.out,hbr.trans (hbel1.mono (Nat.le_refl _))⟩
     case measure=>simp[intOf];omega
  ·obtain rfl:k=a.length:=by omega
   have hv:val o=val a-val b:=minus_end HBA.out hownr.lm HOL.out hc (by have:=HV.out;rw[zza a a.length (Nat.le_refl _),zza b a.length (by omega)]at this;exact this)
   have HT:=zjk _ _ wr (hownr.nat.natN (by have:=HO.out;omega))
   rw[hv]at HT
   have HT2:=zH HT
   clear HT hv
   go_wp2_with (go_at_call 66;refine HT2.out.mono ?_;rintro e w1 ⟨r,rfl,hr,hr2,hb⟩)
   go_ret
   exact⟨r,rfl,⟨hr.own.mono hbr.size,hr.lm⟩,hr2,hbr.trans (hb.mono hbr.size)⟩
set_option maxHeartbeats 1600000
theorem zcc.drawn {w:World} {e:TypeId} {B:Nat} {v:Value} {o:List Nat} (h:zcc w e B v o) (k:Nat):zcc (w.drewN k) e B v o:=h.below (zka w k)
theorem zim (c x y q:Nat):(x:Int)*y+q+c=((x*y+q+c:Nat):Int):=by
 rw[Int.natCast_add,Int.natCast_add,Int.natCast_mul]
theorem zod (va vb:Value) (a b:List Nat) (w:World) (ha:zfc w va a) (hb:zfc w vb b) (hla:a.length≤65536) (hlb:b.length≤65536):
 Calls Try.prog 105 #[va,vb] w (RNat w (val a*val b)):=by
 obtain⟨i0,hi,hz0,hz1,hz2⟩:=info_parts Try.info102
 have hM:=zmd (P:=Try.prog) 30 94 i0 Try.underlying30 hi hz0 hz1 hz2
 clear hi hz0 hz1 hz2
 have s1:=ha.sl
 have s2:=hb.sl
 have l1:=ha.len
 have l2:=hb.len
 have hroom:a.length+b.length≤35184372088832:=by omega
 go_enter Try.func105,Try.ntmps105
 go_wp2_with (refine hM _ rfl _ _ rfl w.heap.size _ (a.length+b.length) rfl rfl rfl hroom (Nat.le_refl _) ?_;intro v w1 hown hb1 hvb)
 clear hM hroom
 go_loopw [6] (fun u6 wr=>∃ (k:Nat) (o:List Nat),k≤a.length∧u6= .int .i64 k∧zcc wr 94 w.heap.size v o∧o.length=a.length+b.length∧
  val (o.take (k+b.length))=val (a.take k)*val b∧Below w.heap.size w wr) (fun u6 _=>a.length- (intOf u6).toNat)
 case atStart=>exact⟨0,_,Nat.zero_le _,rfl,hown,by simp,by simp[val,znf],hb1⟩
 case round=>
  obtain⟨k,o,hk,rfl,hownr,hol,hval,hbr⟩:=hrel
  obtain⟨wo,rfl⟩:∃wo:World,wo=wr:=⟨_,rfl⟩
  have HV:=zH hval
  have HOL:=zH hol
  clear hval hol
  by_cases hkp:k<a.length
  ·have HX:=zH (zia a k hkp)
   have hx1:=ha.lt k hkp
   have hca:=fun(wi:World) (h:Below w.heap.size w wi)=>zH ((ha.below h).cell k hkp)
   generalize a[k]=x at *
   go_wp2
   go_loopw [7,8] (fun u7 u8 wi=>∃ (j c:Nat) (o:List Nat),j≤b.length∧u8= .int .i64 j∧u7= .int .u64 c∧c<4294967296∧zcc wi 94 w.heap.size v o∧o.length=a.length+b.length∧
    val (o.take (k+b.length))+pw (k+j)*c=val (a.take k)*val b+pw k*x*val (b.take j)∧Below w.heap.size w wi) (fun _ u8 _=>b.length- (intOf u8).toNat)
   case atStart=>exact⟨0,0,o,Nat.zero_le _,rfl,rfl,by omega,hownr,HOL.out,by rw[HV.out];simp[val],hbr⟩
   case round=>
    obtain⟨j,c,p,hj,rfl,rfl,hc,hownp,hpl,hvp,hbi⟩:=hrel
    have HP:=zH hvp
    have HPL:=zH hpl
    clear hvp
    have sv:=hownp.nat.sl
    have lv:slen v=a.length+b.length:=by rw[hownp.nat.len,hpl]
    clear hpl
    by_cases hjn:j<b.length
    ·have hkj:k+j<p.length:=by rw[HPL.out];omega
     have hx:=(hca _ hbi).out
     have hy:=(hb.below hbi).cell j hjn
     have hy1:=hb.lt j hjn
     have HY:=zH (zia b j hjn)
     have hfz:=hownp.frozen (k+j) hkj
     have hco:=hownp.nat.cell (k+j) hkj
     have hq1:p[k+j]<4294967296:=hownp.lm _ (List.getElem_mem _)
     have HST:=fun(z c':Nat)=>zH (mul_step (o:=p) (b:=b) (k:=k) (j:=j) (N:=k+b.length) (R:=val (a.take k)*val b) (c:=c) (x:=x) (z:=z) (c':=c') (by omega) (by have:=HPL.out;omega) HY.out HP.out)
     generalize b[j]=y at *
     generalize hqe:p[k+j]=q at *
     obtain⟨h0',hxy'⟩:=zsg hx1 hy1
     have hT:=(zcl hx1 hy1 hq1 hc).1
     have hset:=hownp.set (k+j) hkj
     have HT:=zH hT
     have HKJ:=zH hkj
     clear hqe hT hkj
     have e1:IntKind.i64.wrap ((k:Int)+j)=(k:Int)+j:=IntWalk.i64_in _ (by omega)
     have e2:((k:Int)+j).toNat=k+j:=by omega
     have e2b:(0:Int)≤(k:Int)+j:=by omega
     have e3:IntKind.u64.wrap ((x:Int)*y)=(x:Int)*y:=by rw[zyb];omega
     have e4:IntKind.u64.wrap ((x:Int)*y+q)=(x:Int)*y+q:=by rw[zyb];omega
     have e5:IntKind.u64.wrap ((x:Int)*y+q+c)=(x:Int)*y+q+c:=by rw[zyb,zim];have:=HT.out;omega
     go_wp2
     go_quiet (fail)
     clear e1 e2 e2b e3 e4 e5 hset hfz hco hx hy h0' hxy'
     have hownd:=hownp.drawn nq
     have hbd:=hbi.trans ((zka wr nq).mono hbi.size)
     have hco:(wr.drewN nq).cell? (ptr v (k+j))=some (.int .u32 (p[k+j]'HKJ.out:Nat)):=hownd.nat.cell (k+j) HKJ.out
     have hfz:=hownd.frozen (k+j) HKJ.out
     have hset:=hownd.set (k+j) HKJ.out
     generalize wr.drewN nq=W at *
     rw[zim]
     have HT2:=HT.out
     generalize x*y+q+c=t at *
     generalize (p[k+j]'HKJ.out)=q0 at *
     have hset2:=hset (t%4294967296) (by omega)
     clear hset
     go_wp2
     go_roundw
     case rel=>
      have e2:((t:Nat):Int)/4294967296=((t/4294967296:Nat):Int):=rfl
      rw[e2]
      exact⟨j+1,t/4294967296,_,by omega,by go_num,rfl,div_lt_32 HT2,hset2.1,by simp[HPL.out],(HST (t%4294967296) (t/4294967296)).out (by omega),hbd.trans hset2.2⟩
     case measure=>simp[intOf];omega
    ·obtain rfl:j=b.length:=by omega
     have hkj:k+b.length<p.length:=by rw[HPL.out];omega
     have hfz:=hownp.frozen (k+b.length) hkj
     have hco:=hownp.nat.cell (k+b.length) hkj
     have hset:=hownp.set (k+b.length) hkj c hc
     have hv2:=mul_end (o:=p) (a:=a) (b:=b) (k:=k) (n:=val b) (N:=k+b.length) (c:=c) (x:=x) hkj HX.out rfl rfl HP.out
     have HV2:=zH hv2
     clear hv2
     generalize p[k+b.length]=q0 at *
     clear hkj
     go_wp2
     go_roundw
     case rel=>exact⟨k+1,_,by omega,by go_num,hset.1,by simp[HPL.out],by rw[show k+1+b.length=k+b.length+1 from by omega];exact HV2.out,hbi.trans hset.2⟩
     case measure=>simp[intOf];omega
  ·obtain rfl:k=a.length:=by omega
   have hv2:val o=val a*val b:=by
    have e:=HV.out
    rw[List.take_of_length_le (by have:=HOL.out;omega),List.take_of_length_le (show a.length≤a.length from Nat.le_refl _)]at e
    exact e
   have HT:=zra _ _ wo (hownr.nat.natN (by have:=HOL.out;omega))
   rw[hv2]at HT
   have HT2:=zH HT
   clear HT hv2
   go_wp2_with (go_at_call 66;refine HT2.out.mono ?_;rintro e w1 ⟨r,rfl,hr,hb⟩)
   go_ret
   exact⟨r,rfl,hr,hbr.trans (hb.mono hbr.size)⟩
theorem zob.of_eq {w:World} {v:Value} {m n:Nat} (h:zob w v m) (e:m=n):zob w v n:=e▸h
theorem rmul_any (va vb:Value) (m n:Nat) (w:World) (ha:zob w va m) (hb:zob w vb n) (hm:zda m≤512) (hn:zda n≤512):
 Calls Try.prog 70 #[va,vb] w (zxm w (m*n)):=by
 have HM:=zH hm
 have HN:=zH hn
 have HM2:Hid ((zla m).length≤65536):=zH (Nat.le_trans hm (by decide))
 have HN2:Hid ((zla n).length≤65536):=zH (Nat.le_trans hn (by decide))
 clear hm hn
 go_enter Try.func70,Try.ntmps70
 go_wp2_with (first
  |(go_at_call 103;first
    |((with_reducible refine(zyc va m _ ha HM.out).mono ?_);rintro e wa ⟨rfl,hba⟩)
    |((with_reducible refine(zyc vb n _ (hb.below hba) HN.out).mono ?_);rintro e wb ⟨rfl,hbb⟩;have hbw:=zaa hba hbb;have ha2:=ha.below hbw;have hb2:=hb.below hbw))
  |(go_at_call 66;first
     |((with_reducible refine(zra va m _ ha2).mono ?_);rintro e w1 ⟨ra,rfl,hra,hb1⟩;have hbw1:=zaa hbw hb1)
     |((with_reducible refine(zra vb n _ (hb2.below hb1)).mono ?_);rintro e w2 ⟨rb,rfl,hrb,hb2⟩;have hbw2:=zaa hbw1 hb2;have hra2:=hra.below hb2))
  |(go_at_call 105;(with_reducible refine(zod ra rb (zla m) (zla n) _ hra2.v hrb.v HM2.out HN2.out).mono ?_);rw[zha,zha];rintro e w3 ⟨r,rfl,hr,hb3⟩;have hbw3:=zaa hbw2 hb3)
  |(go_at_call 103;(with_reducible refine(zti r (m*n) _ hr.nat).mono ?_);rintro e w4 ⟨rfl,hb4⟩;have hbw4:=zaa hbw3 hb4;have hr4:=hr.below hb4))
 ·go_ret2
  have hbig:¬zda (m*n)≤512:=by have h5:512<zda (m*n):= ‹_›;omega
  exact⟨_,2,rfl,⟨fun h=>absurd h hbig,fun _=>⟨rfl,zjb.nil _⟩⟩,hbw4⟩
 ·go_ret2
  have hbig:¬512<zda (m*n):=by assumption
  exact⟨_,0,rfl,⟨fun _=>⟨rfl,hr4⟩,fun h=>absurd h hbig⟩,hbw4⟩
end Go.Proofs.Ytlpdkbmmbdfoiaa
