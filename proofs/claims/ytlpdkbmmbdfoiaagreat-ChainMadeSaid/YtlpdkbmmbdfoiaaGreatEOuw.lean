/- Lemmas. -/
import Derived.Test.YtlpdkbmmbdfoiaaGreatEGn
set_option linter.unusedVariables false
set_option linter.unusedSimpArgs false
namespace Go.Proofs.YtlpdkbmmbdfoiaaGreat
open Go.RowKit
section
variable {w:World} {e:TypeId} {B size n:Nat} {v:Value} {xs:List Value}
theorem zlc.set1 (h:zlc w e B size v n xs) (j:Nat) (hj:j<xs.length) (u:Value) (hu:∀z,u≠ .int .u32 z):
 zlc (w.setCell (ptr v j) u) e B size v n (xs.set j u)/\w.grownBy (w.setCell (ptr v j) u) v.ownBlock:=by
 have hl:=h.own.1
 rcases h.own.2 with⟨rfl,h0⟩ | ⟨g,cap,cur,rfl,hb,hg,hn,hm,hs,ht⟩
 ·rw[h0]at hl;omega
 ·have hp:ptr (.slice (some ⟨g,0,none⟩) n cap) j=⟨g,j,none⟩:=by simp only[ptr,base,Addr.add_lit,Nat.zero_add]
  have hst:=World.ownsRow.stored h.own j u
  rw[hp]
  refine⟨⟨hst.1,?_⟩,hst.2⟩
  intro g' hg' cur' e' fz hc c hcc
  simp only[Value.ownBlock,Option.some.injEq]at hg'
  subst hg'
  rw[heap_setCell_same w g j cur e u hg]at hc
  injection hc with hc
  injection hc with hc _ _
  subst hc
  rw[Array.toList_setIfInBounds]at hcc
  rcases List.mem_or_eq_of_mem_set hcc with h' | h'
  ·exact h.nl g rfl cur e _ hg c h'
  ·subst h';exact hu
theorem zlc.frozen (h:zlc w e B size v n xs) (j:Nat) (hj:j<xs.length):w.frozen? (ptr v j)=false:=by
 have hl:=h.own.1
 obtain⟨ho,_⟩:=h
 rcases ho.2 with⟨rfl,h0⟩ | ⟨g,cap,cur,rfl,hb,hg,hn,hm,hs,ht⟩
 ·rw[h0]at hl;omega
 ·have:=World.ownsRow.frozenAt ho j
  simpa only[ptr,base,Addr.add_lit,Nat.zero_add]using this
theorem zlc.blk (h:zlc w e B size v n xs) (hx:0<xs.length):∃g,v.ownBlock=some g/\(base v).block=g/\B<=g/\g<w.heap.size/\∀j,ptr v j=⟨g,j,none⟩:=by
 have hl:=h.own.1
 have hbl:=h.block
 rcases h.own.2 with⟨rfl,h0⟩ | ⟨g,cap,cur,rfl,hb,hg,hn,hm,hs,ht⟩
 ·rw[h0]at hl;omega
 ·exact⟨g,rfl,rfl,(hbl g rfl).1,(hbl g rfl).2,fun j=>by simp only[ptr,base,Addr.add_lit,Nat.zero_add]⟩
end
theorem zle {a b c:World} {r:Option Nat} (h:a.grownBy b r) (k:b.grownBy c r):a.grownBy c r:=zsc h k
section
variable {w:World} {e:TypeId} {B:Nat} {v:Value} {q:List Rat}
theorem zya.frozen (h:zya w e B v q) (k:Nat) (hk:k<q.length*3):w.frozen? (ptr v k)=false:=by
 obtain⟨xs,h1,_⟩:=h
 exact h1.frozen k (by rw[h1.clen];exact hk)
theorem zya.blk (h:zya w e B v q) (hq:0<q.length):∃g,v.ownBlock=some g/\(base v).block=g/\B<=g/\g<w.heap.size/\∀j,ptr v j=⟨g,j,none⟩:=by
 obtain⟨xs,h1,_⟩:=h
 exact h1.blk (by rw[h1.clen];omega)
theorem zya.inj (h:zya w e B v q) (hq:0<q.length) {i j:Nat} (hij:i≠j):ptr v i≠ptr v j:=by
 obtain⟨g,_,_,_,_,hp⟩:=h.blk hq
 rw[hp,hp]
 intro h;injection h with h1 h2;exact hij h2
theorem zya.noLimb (h:zya w e B v q):zlb w v:=by obtain⟨xs,h1,_⟩:=h;exact h1.nl
theorem zya.put (h:zya w e B v q) {i:Nat} (hi:i<q.length) {x y z:Value} {r:Rat} (hf:zqa w (.agg #[x,y,z]) r):
 zya (((w.setCell (ptr v (i*3)) x).setCell (ptr v (i*3+1)) y).setCell (ptr v (i*3+2)) z) e B v (q.set i r)/\
  w.grownBy (((w.setCell (ptr v (i*3)) x).setCell (ptr v (i*3+1)) y).setCell (ptr v (i*3+2)) z) v.ownBlock:=by
 obtain⟨xs,h1,h2⟩:=h
 obtain⟨a,b,ha,h4,h5⟩:=id hf
 injection ha with ha
 injection ha with ha
 simp only[List.cons.injEq,and_true]at ha
 obtain⟨rfl,rfl,rfl⟩:=ha
 have hl:=h1.clen
 have ny:∀k,y≠ .int .u32 k:=fun k=>by obtain⟨a1,n1,c1,e1,_⟩:=h4.v.sl;subst e1;simp
 have nz:∀k,z≠ .int .u32 k:=fun k=>by obtain⟨a1,n1,c1,e1,_⟩:=h5.v.sl;subst e1;simp
 obtain⟨s1,g1⟩:=h1.set1 (i*3) (by omega) (.bool (decide (r<0))) (fun k=>by simp)
 obtain⟨s2,g2⟩:=s1.set1 (i*3+1) (by rw[List.length_set];omega) y ny
 obtain⟨s3,g3⟩:=s2.set1 (i*3+2) (by rw[List.length_set,List.length_set];omega) z nz
 have gg:=zle (zle g1 g2) g3
 refine⟨⟨_,by rw[List.length_set];exact s3,fun j hj=> ?_⟩,gg⟩
 rw[List.length_set]at hj
 by_cases hij:i=j
 ·subst hij
  refine⟨y,z,?_,?_,?_,?_,?_⟩
  ·rw[List.getElem?_set_ne (by omega),List.getElem?_set_ne (by omega),List.getElem?_set_self (by omega),List.getElem_set_self]
  ·rw[List.getElem?_set_ne (by omega),List.getElem?_set_self (by rw[List.length_set];omega)]
  ·rw[List.getElem?_set_self (by rw[List.length_set,List.length_set];omega)]
  ·rw[List.getElem_set_self];exact h4.grown gg h1.nl
  ·rw[List.getElem_set_self];exact h5.grown gg h1.nl
 ·obtain⟨a,b,e1,e2,e3,e4,e5⟩:=h2 j hj
  rw[List.getElem_set_ne hij]
  refine⟨a,b,?_,?_,?_,e4.grown gg h1.nl,e5.grown gg h1.nl⟩
  ·rw[List.getElem?_set_ne (by omega),List.getElem?_set_ne (by omega),List.getElem?_set_ne (by omega)];exact e1
  ·rw[List.getElem?_set_ne (by omega),List.getElem?_set_ne (by omega),List.getElem?_set_ne (by omega)];exact e2
  ·rw[List.getElem?_set_ne (by omega),List.getElem?_set_ne (by omega),List.getElem?_set_ne (by omega)];exact e3
end
def zjf (w:World) (T:Nat) (cs:Array Value):Prop:=∃ty,w.heap[T]? =some (.cells cs ty (0,0))
section
variable {w w':World} {T:Nat} {cs:Array Value}
theorem zjf.new (w:World) (cs:Array Value) (ty:TypeId):zjf (w.alloc (.cells cs ty)) w.heap.size cs:=⟨ty,heap_alloc_new w _⟩
theorem zjf.lt (h:zjf w T cs):T<w.heap.size:=by obtain⟨ty,h⟩:=h;exact(Array.getElem?_eq_some_iff.1 h).1
theorem zjf.cell (h:zjf w T cs) (j:Nat) {u:Value} (hu:cs[j]? =some u):w.cell? ⟨T,j,none⟩=some u:=by
 obtain⟨ty,h⟩:=h
 simp[World.cell?,h,hu]
theorem zjf.frozen (h:zjf w T cs) (j:Nat):w.frozen? ⟨T,j,none⟩=false:=by
 obtain⟨ty,h⟩:=h
 simp[World.frozen?,h]
theorem zjf.set (h:zjf w T cs) (j:Nat) (u:Value):zjf (w.setCell ⟨T,j,none⟩ u) T (cs.setIfInBounds j u):=by
 obtain⟨ty,h⟩:=h
 exact⟨ty,heap_setCell_same w T j cs ty u h⟩
theorem zjf.below (h:zjf w T cs) (hb:Below w.heap.size w w'):zjf w' T cs:=by
 have hlt:=h.lt
 obtain⟨ty,h⟩:=h
 exact⟨ty,by rw[hb.block T hlt];exact h⟩
theorem zjf.grown {r:Option Nat} (h:zjf w T cs) (hg:w.grownBy w' r) (hr:r≠some T):zjf w' T cs:=by
 have hlt:=h.lt
 obtain⟨ty,h⟩:=h
 exact⟨ty,by rw[hg.block T hlt hr.symm];exact h⟩
end
def zib (m:Nat) (f:Nat->Rat):List Rat:=(List.range m).map f
theorem zea (m:Nat) (f:Nat->Rat):(zib m f).length=m:=by simp[zib]
theorem ztb (m:Nat) (f:Nat->Rat) (j:Nat) (h:j<(zib m f).length):(zib m f)[j]=f j:=by simp[zib]
theorem zdf {m:Nat} {f g:Nat->Rat} (h:∀j,j<m->f j=g j):zib m f=zib m g:=
 List.map_congr_left fun j hj=>h j (List.mem_range.1 hj)
theorem rowL_set (m:Nat) (f:Nat->Rat) (i:Nat) (r:Rat):(zib m f).set i r=zib m (fun j=>if j=i then r else f j):=by
 refine List.ext_getElem (by rw[List.length_set,zea,zea]) fun j h1 h2=> ?_
 rw[ztb]
 by_cases h:j=i
 ·subst h;rw[List.getElem_set_self,if_pos rfl]
 ·rw[List.getElem_set_ne (fun e=>h e.symm),if_neg h,ztb]
def upd (A:Mx) (i j:Nat) (r:Rat):Mx:=fun a b=>if a=i/\b=j then r else A a b
structure znd (w:World) (T:Nat) (vR:Value) (rs:List Value) (n m:Nat) (A:Mx) (wd rk:Nat) (d:Rat):Prop where
 box:∃a b,zjf w T #[vR, .int .i64 wd, .int .i64 rk, .bool (decide (d<0)),a,b, .int .i64 0]/\zjb w a d.num.natAbs/\zjb w b d.den
 own:zlc w 25 (T+1) 1 vR rs.length rs
 rl:rs.length=n
 mp:0<m
 row:∀ (i:Nat) (h:i<rs.length),zya w 38 (T+1) rs[i] (zib m (A i))
 ap:∀ (i j:Nat) (hi:i<rs.length) (hj:j<rs.length),i≠j->rs[i].ownBlock≠rs[j].ownBlock
section
variable {w w':World} {T n m wd rk:Nat} {vR:Value} {rs:List Value} {A:Mx} {d:Rat}
theorem znd.lt (h:znd w T vR rs n m A wd rk d):T<w.heap.size:=by obtain⟨a,b,hb,_⟩:=h.box;exact hb.lt
theorem znd.below (h:znd w T vR rs n m A wd rk d) (hb:Below w.heap.size w w'):znd w' T vR rs n m A wd rk d:=by
 obtain⟨a,b,h1,h2,h3⟩:=h.box
 exact⟨⟨a,b,h1.below hb,h2.below hb,h3.below hb⟩,h.own.below hb,h.rl,h.mp,fun i hi=>(h.row i hi).moves (zhb.below (B:=T+1) hb) (zLR _),h.ap⟩
theorem znd.congr {A':Mx} (h:znd w T vR rs n m A wd rk d) (hA:∀i j,i<n->j<m->A i j=A' i j):znd w T vR rs n m A' wd rk d:=
 ⟨h.box,h.own,h.rl,h.mp,fun i hi=>by rw[<-zdf (fun j hj=>hA i j (by rw[<-h.rl];exact hi) hj)];exact h.row i hi,h.ap⟩
theorem znd.elem (h:znd w T vR rs n m A wd rk d) {i j:Nat} (hi:i<rs.length) (hj:j<m):
 ∃a b,w.cell? (ptr rs[i] (j*3))=some (.bool (decide (A i j<0)))/\w.cell? (ptr rs[i] (j*3+1))=some a/\w.cell? (ptr rs[i] (j*3+2))=some b/\zjb w a (A i j).num.natAbs/\zjb w b (A i j).den:=by
 obtain⟨a,b,h1,h2,h3,h4,h5⟩:=(h.row i hi).fracs.at' j (by rw[zea];exact hj)
 rw[ztb]at h1 h4 h5
 exact⟨a,b,h1,h2,h3,h4,h5⟩
theorem znd.put (h:znd w T vR rs n m A wd rk d) {i j:Nat} (hi:i<rs.length) (hj:j<m) {x y z:Value} {r:Rat} (hf:zqa w (.agg #[x,y,z]) r):
 znd (((w.setCell (ptr rs[i] (j*3)) x).setCell (ptr rs[i] (j*3+1)) y).setCell (ptr rs[i] (j*3+2)) z) T vR rs n m (upd A i j r) wd rk d/\
  Below T w (((w.setCell (ptr rs[i] (j*3)) x).setCell (ptr rs[i] (j*3+1)) y).setCell (ptr rs[i] (j*3+2)) z):=by
 have hT:=h.lt
 obtain⟨⟨a,b,h1,h2,h3⟩,own,rl,mp,row,ap⟩:=h
 have hr:=row i hi
 obtain⟨hp,gg⟩:=hr.put (i:=j) (by rw[zea];exact hj) hf
 have hnl:=hr.noLimb
 obtain⟨g,hg,_,hgT,hgw,_⟩:=hr.blk (by rw[zea];exact mp)
 have hgT':rs[i].ownBlock≠some T:=by rw[hg];intro e;injection e with e;omega
 obtain⟨ys,y1,y2⟩:=id hr
 refine⟨⟨⟨a,b,h1.grown gg hgT',h2.grown gg hnl,h3.grown gg hnl⟩,own.grown gg (own.kinds y1 (by decide)),rl,mp,fun k hk=> ?_,ap⟩,zna gg (by omega) (fun k hk=>by rw[hg]at hk;injection hk with hk;omega)⟩
 by_cases hki:k=i
 ·subst hki
  rw[rowL_set]at hp
  have e:zib m (upd A k j r k)=zib m (fun b=>if b=j then r else A k b):=zdf fun b _=>by
   unfold upd
   by_cases hb:b=j
   ·rw[if_pos ⟨rfl,hb⟩,if_pos hb]
   ·rw[if_neg (fun h=>hb h.2),if_neg hb]
  rw[e];exact hp
 ·have e:zib m (upd A i j r k)=zib m (A k):=zdf fun b _=>by unfold upd;rw[if_neg (fun h=>hki h.1)]
  rw[e]
  exact(row k hk).grown gg hnl (Or.inr (ap k i hk hi hki))
theorem znd.setDet (h:znd w T vR rs n m A wd rk d) {x y z:Value} {r:Rat} (hf:zqa w (.agg #[x,y,z]) r):
 znd (((w.setCell ⟨T,3,none⟩ x).setCell ⟨T,4,none⟩ y).setCell ⟨T,5,none⟩ z) T vR rs n m A wd rk r/\Below T w (((w.setCell ⟨T,3,none⟩ x).setCell ⟨T,4,none⟩ y).setCell ⟨T,5,none⟩ z):=by
 obtain⟨⟨a,b,h1,h2,h3⟩,own,rl,mp,row,ap⟩:=h
 obtain⟨p,q,ha,h4,h5⟩:=id hf
 injection ha with ha
 injection ha with ha
 simp only[List.cons.injEq,and_true]at ha
 obtain⟨rfl,rfl,rfl⟩:=ha
 obtain⟨a1,a2,a3,rfl,_⟩:=h2.v.sl
 obtain⟨b1,b2,b3,rfl,_⟩:=h3.v.sl
 have s1:=h1.set 3 (.bool (decide (r<0)))
 have s2:=s1.set 4 y
 have s3:=s2.set 5 z
 have m1:=zhb.set (B:=T+1) (p:=⟨T,3,none⟩) (Nat.lt_succ_self T) (h1.cell 3 rfl) (fun z=>by simp) (.bool (decide (r<0)))
 have m2:=zhb.set (B:=T+1) (p:=⟨T,4,none⟩) (Nat.lt_succ_self T) (s1.cell 4 rfl) (fun z=>by simp) y
 have m3:=zhb.set (B:=T+1) (p:=⟨T,5,none⟩) (Nat.lt_succ_self T) (s2.cell 5 rfl) (fun z=>by simp) z
 have mm:=(m1.trans m2).trans m3
 exact⟨⟨⟨y,z,s3,h4.moves mm,h5.moves mm⟩,own.moves mm (zLR _),rl,mp,fun i hi=>(row i hi).moves mm (zLR _),ap⟩,
  (((Below.refl T w).setCell (p:=⟨T,3,none⟩) (zLR _) _).setCell (p:=⟨T,4,none⟩) (zLR _) _).setCell (p:=⟨T,5,none⟩) (zLR _) _⟩
theorem znd.setRank (h:znd w T vR rs n m A wd rk d) (k:Nat):
 znd (w.setCell ⟨T,2,none⟩ (.int .i64 k)) T vR rs n m A wd k d/\Below T w (w.setCell ⟨T,2,none⟩ (.int .i64 k)):=by
 obtain⟨⟨a,b,h1,h2,h3⟩,own,rl,mp,row,ap⟩:=h
 have mm:=zhb.set (B:=T+1) (p:=⟨T,2,none⟩) (Nat.lt_succ_self T) (h1.cell 2 rfl) (fun z=>by simp) (.int .i64 k)
 exact⟨⟨⟨a,b,h1.set 2 (.int .i64 k),h2.moves mm,h3.moves mm⟩,own.moves mm (zLR _),rl,mp,fun i hi=>(row i hi).moves mm (zLR _),ap⟩,
  (Below.refl T w).setCell (p:=⟨T,2,none⟩) (zLR _) _⟩
theorem znd.swap (h:znd w T vR rs n m A wd rk d) {i j:Nat} (hi:i<rs.length) (hj:j<rs.length) (hij:i≠j):
 znd ((w.setCell (ptr vR i) rs[j]).setCell (ptr vR j) rs[i]) T vR ((rs.set i rs[j]).set j rs[i]) n m (swp A i j) wd rk d/\Below T w ((w.setCell (ptr vR i) rs[j]).setCell (ptr vR j) rs[i]):=by
 have hT:=h.lt
 obtain⟨⟨a,b,h1,h2,h3⟩,own,rl,mp,row,ap⟩:=h
 have hn:∀k (hk:k<rs.length) z,rs[k]≠ .int .u32 z:=fun k hk z=>by
  obtain⟨a1,a2,a3,e1,_⟩:=(row k hk).sl
  rw[e1];simp
 obtain⟨s1,g1⟩:=own.set1 i hi rs[j] (hn j hj)
 obtain⟨s2,g2⟩:=s1.set1 j (by rw[List.length_set];exact hj) rs[i] (hn i hi)
 have gg:=zle g1 g2
 obtain⟨g,hg,_,hgT,hgw,_⟩:=own.blk (by omega)
 have hgT':vR.ownBlock≠some T:=by rw[hg];intro e;injection e with e;omega
 have ge:∀k (hk:k<((rs.set i rs[j]).set j rs[i]).length),∃k',∃hk':k'<rs.length,((rs.set i rs[j]).set j rs[i])[k]=rs[k']/\swp A i j k=A k'/\(k'=if k=j then i else if k=i then j else k):=fun k hk=>by
  have hk0:k<rs.length:=by simpa using hk
  unfold swp
  by_cases e1:k=j
  ·subst e1
   exact⟨i,hi,by rw[List.getElem_set_self],by rw[if_neg (fun e=>hij e.symm),if_pos rfl],by rw[if_pos rfl]⟩
  ·by_cases e2:k=i
   ·subst e2
    exact⟨j,hj,by rw[List.getElem_set_ne (fun e=>e1 e.symm),List.getElem_set_self],by rw[if_pos rfl],by rw[if_neg e1,if_pos rfl]⟩
   ·exact⟨k,hk0,by rw[List.getElem_set_ne (fun e=>e1 e.symm),List.getElem_set_ne (fun e=>e2 e.symm)],by rw[if_neg e2,if_neg e1],by rw[if_neg e1,if_neg e2]⟩
 refine⟨⟨⟨a,b,h1.grown gg hgT',h2.grown gg own.nl,h3.grown gg own.nl⟩,?_,by simp[rl],mp,fun k hk=> ?_,fun k l hk hl hkl=> ?_⟩,zna gg (by omega) (fun k hk=>by rw[hg]at hk;injection hk with hk;omega)⟩
 ·rw[List.length_set,List.length_set];exact s2
 ·obtain⟨k',hk',e1,e2,_⟩:=ge k hk
  obtain⟨ys,y1,y2⟩:=id (row k' hk')
  rw[e1,e2]
  exact(row k' hk').grown gg own.nl (y1.kinds own (by decide))
 ·obtain⟨k',hk',e1,_,f1⟩:=ge k hk
  obtain⟨l',hl',e2,_,f2⟩:=ge l hl
  rw[e1,e2]
  refine ap k' l' hk' hl' ?_
  rw[f1,f2]
  split<;>split<;>(try split)<;>(try split)<;>omega
end
end Go.Proofs.YtlpdkbmmbdfoiaaGreat
namespace Go.Proofs.YtlpdkbmmbdfoiaaGreat
def rT (n:Nat) (M:Mx) (k:Nat):Mx:=fun i j=>if i<k then(elim false n M k).A i j/(elim false n M k).A i i else(elim false n M k).A i j
def rP (n:Nat) (M:Mx) (k:Nat):Nat:=pvt n k (elim false n M k)
def zT (n:Nat) (M:Mx) (k:Nat):Mx:=swp (rT n M k) k (rP n M k)
def nTo (n:Nat) (M:Mx) (k e:Nat):Mx:=fun i j=>if i=k/\j<e then zT n M k k j/zT n M k k k else zT n M k i j
def nT (n:Nat) (M:Mx) (k:Nat):Mx:=fun i j=>if i=k then zT n M k k j/zT n M k k k else zT n M k i j
def qRow (n:Nat) (M:Mx) (k i e:Nat):Nat->Rat:=fun j=>if j<e then nT n M k i j+ -(nT n M k i k*nT n M k k j)else nT n M k i j
def qT (n:Nat) (M:Mx) (k a:Nat):Mx:=fun i j=>if i<a/\i≠k then nT n M k i j+ -(nT n M k i k*nT n M k k j)else nT n M k i j
theorem rT_zero (n:Nat) (M:Mx):rT n M 0=M:=by
 funext i j;unfold rT;rw[if_neg (by omega)];rfl
section
variable {n m k:Nat} {M:Mx}
theorem rP_lt (h:(elim false n M n).r=n) (hk:k<n):k<=rP n M k/\rP n M k<n:=by
 have hrk:=zol h (k:=k) (by omega)
 have hrk1:=zol h (k:=k+1) hk
 have hge:=zvk n k (elim false n M k)
 rw[hrk]at hge
 refine⟨hge,?_⟩
 rw[elim,zzf]at hrk1
 by_cases h5:pvt n k (elim false n M k)<n
 ·exact h5
 ·rw[if_neg h5,hrk]at hrk1;omega
theorem zdw {i j:Nat} (h:k<=i):rT n M k i j=(elim false n M k).A i j:=by unfold rT;rw[if_neg (by omega)]
theorem rP_first (h:(elim false n M n).r=n) (hk:k<n):rT n M k (rP n M k) k≠0/\∀i,k<=i->i<rP n M k->rT n M k i k=0:=by
 have hrk:=zol h (k:=k) (by omega)
 obtain⟨h1,h2⟩:=rP_lt h hk
 refine⟨?_,fun i h3 h4=> ?_⟩
 ·rw[zdw h1]
  exact zfw (zue false n M k).1 h2
 ·rw[zdw h3]
  have:=zxv (fun i=>decide ((elim false n M k).A i k≠0)) (n- (elim false n M k).r) (elim false n M k).r i (by rw[hrk];exact h3) h4
  simpa using this
theorem zT_eq (h:(elim false n M n).r=n) (hk:k<n) (i j:Nat):zT n M k i j=if i<k then(swp (elim false n M k).A k (rP n M k)) i j/(swp (elim false n M k).A k (rP n M k)) i i else(swp (elim false n M k).A k (rP n M k)) i j:=by
 obtain⟨h1,h2⟩:=rP_lt h hk
 unfold zT swp
 by_cases e1:i=k
 ·rw[if_pos e1,if_pos e1,if_neg (by omega),zdw h1]
 ·by_cases e2:i=rP n M k
  ·rw[if_neg e1,if_pos e2,if_neg e1,if_pos e2,if_neg (by omega),zdw (zLR k)]
  ·rw[if_neg e1,if_neg e2,if_neg e1,if_neg e2]
   unfold rT;split<;>rfl
theorem zT_piv (h:(elim false n M n).r=n) (hk:k<n):zT n M k k k≠0:=by
 unfold zT;rw[zek];exact(rP_first h hk).1
theorem zT_left (h:(elim false n M n).r=n) (hk:k<n) {j:Nat} (hj:j<k):zT n M k k j=0:=by
 obtain⟨h1,h2⟩:=rP_lt h hk
 unfold zT;rw[zek,zdw h1]
 exact zyd false n M k _ j (by rw[zol h (by omega)];exact h1) h2 hj
theorem qT_all (h:(elim false n M n).r=n) (hk:k<n) {i:Nat} (hi:i<n) (j:Nat):qT n M k n i j=rT n M (k+1) i j:=by
 have hrk:=zol h (k:=k) (by omega)
 obtain⟨h1,h2⟩:=rP_lt h hk
 have hz:=zT_eq h hk
 have hp:=zT_piv h hk
 have hl:∀ {j},j<k->zT n M k k j=0:=fun hj=>zT_left h hk hj
 have hE:(elim false n M (k+1)).A=znj false (swp (elim false n M k).A k (rP n M k)) k k:=by
  rw[elim,zzf,if_pos (show pvt n k (elim false n M k)<n from h2)]
  show znj false (swp (elim false n M k).A (elim false n M k).r _) (elim false n M k).r k=_
  rw[hrk];rfl
 unfold rT
 rw[hE]
 obtain⟨Z,hZ⟩:∃Z,swp (elim false n M k).A k (rP n M k)=Z:=⟨_,rfl⟩
 rw[hZ]at hz |-
 have hkk:∀j,zT n M k k j=Z k j:=fun j=>by rw[hz,if_neg (Nat.lt_irrefl k)]
 rw[hkk]at hp
 have hl2:∀ {j},j<k->Z k j=0:=fun hj=>by rw[<-hkk];exact hl hj
 have hdiag:∀i,i<k->znj false Z k k i i=Z i i:=fun i hi=>by unfold znj;rw[if_neg (fun h=>by omega)]
 have hrow:znj false Z k k k=Z k:=zpg (fun h=>h.1 rfl)
 have hred:∀i,i≠k->znj false Z k k i j=Z i j+ -(Z i k*(Z k j/Z k k)):=fun i hik=>by
  unfold znj
  by_cases ha:act false Z k k i
  ·by_cases hj:k<=j
   ·rw[if_pos ⟨ha,hj⟩,Rat.div_def,Rat.div_def];grind
   ·rw[if_neg (fun h=>hj h.2),hl2 (by omega),Rat.div_def];grind
  ·rw[if_neg (fun h=>ha h.1)]
   have h0:Z i k=0:=Classical.byContradiction fun h=>ha ⟨hik,fun hf=>Bool.false_ne_true hf.1,h⟩
   rw[h0];grind
 unfold qT nT
 by_cases e1:i=k
 ·subst e1
  rw[if_neg (fun h=>h.2 rfl),if_pos rfl,if_pos (Nat.lt_succ_self i),hkk,hkk,hrow]
 ·rw[if_pos ⟨hi,e1⟩,if_neg e1,if_neg e1,if_pos rfl,hkk,hkk,hz i j,hz i k]
  by_cases e2:i<k
  ·rw[if_pos e2,if_pos e2,if_pos (by omega),hdiag i e2,hred i e1]
   simp only[Rat.div_def];grind
  ·rw[if_neg e2,if_neg e2,if_neg (by omega),hred i e1]
theorem qT_zero :qT n M k 0=nT n M k:=by funext i j;unfold qT;rw[if_neg (by omega)]
theorem qT_at {a:Nat} (j:Nat):qT n M k a a j=nT n M k a j:=by unfold qT;rw[if_neg (by omega)]
theorem qT_piv {a:Nat} (j:Nat):qT n M k a k j=nT n M k k j:=by unfold qT;rw[if_neg (fun h=>h.2 rfl)]
theorem qT_skip {a:Nat} (h:a=k\/nT n M k a k=0):qT n M k (a+1)=qT n M k a:=by
 funext i j;unfold qT
 by_cases e1:i=a
 ·subst e1
  rcases h with h | h
  ·rw[if_neg (fun h2=>h2.2 h),if_neg (fun h2=>h2.2 h)]
  ·by_cases e2:i=k
   ·rw[if_neg (fun h2=>h2.2 e2),if_neg (fun h2=>h2.2 e2)]
   ·rw[if_pos ⟨Nat.lt_succ_self i,e2⟩,if_neg (fun h2=>absurd h2.1 (Nat.lt_irrefl i)),h];grind
 ·by_cases e2:i<a/\i≠k
  ·rw[if_pos ⟨by omega,e2.2⟩,if_pos e2]
  ·rw[if_neg e2,if_neg (fun h2=>e2 ⟨by omega,h2.2⟩)]
def qTo (n:Nat) (M:Mx) (k a e:Nat):Mx:=fun i j=>if i=a then qRow n M k a e j else qT n M k a i j
theorem qTo_zero {a:Nat}:qTo n M k a 0=qT n M k a:=by
 funext i j;unfold qTo
 by_cases h:i=a
 ·subst h;rw[if_pos rfl];unfold qRow;rw[if_neg (by omega),qT_at]
 ·rw[if_neg h]
theorem qTo_at {a e:Nat}:qTo n M k a e a e=nT n M k a e:=by unfold qTo;rw[if_pos rfl];unfold qRow;rw[if_neg (Nat.lt_irrefl e)]
theorem qTo_piv {a e:Nat} (h:a≠k) (j:Nat):qTo n M k a e k j=nT n M k k j:=by unfold qTo;rw[if_neg (fun e=>h e.symm),qT_piv]
theorem qTo_step {a e:Nat}:upd (qTo n M k a e) a e (nT n M k a e+ -(nT n M k a k*nT n M k k e))=qTo n M k a (e+1):=by
 funext i j;unfold upd qTo
 by_cases h1:i=a
 ·subst h1
  by_cases h2:j=e
  ·subst h2;rw[if_pos ⟨rfl,rfl⟩,if_pos rfl];unfold qRow;rw[if_pos (Nat.lt_succ_self j)]
  ·rw[if_neg (fun h=>h2 h.2),if_pos rfl,if_pos rfl]
   unfold qRow
   by_cases h3:j<e
   ·rw[if_pos h3,if_pos (by omega)]
   ·rw[if_neg h3,if_neg (by omega)]
 ·rw[if_neg (fun h=>h1 h.1),if_neg h1,if_neg h1]
theorem qTo_all {a:Nat} (h:a≠k) {i j:Nat} (hj:j<m):qTo n M k a m i j=qT n M k (a+1) i j:=by
 unfold qTo
 by_cases h1:i=a
 ·subst h1;rw[if_pos rfl];unfold qRow qT;rw[if_pos hj,if_pos ⟨Nat.lt_succ_self i,h⟩]
 ·rw[if_neg h1]
  unfold qT
  by_cases e2:i<a/\i≠k
  ·rw[if_pos e2,if_pos ⟨by omega,e2.2⟩]
  ·rw[if_neg e2,if_neg (fun h2=>e2 ⟨by omega,h2.2⟩)]
theorem nTo_zero :nTo n M k 0=zT n M k:=by funext i j;unfold nTo;rw[if_neg (by omega)]
theorem nTo_at {e:Nat}:nTo n M k e k e=zT n M k k e:=by unfold nTo;rw[if_neg (by omega)]
theorem nTo_step {e:Nat}:upd (nTo n M k e) k e (zT n M k k e/zT n M k k k)=nTo n M k (e+1):=by
 funext i j;unfold upd nTo
 by_cases h1:i=k
 ·by_cases h2:j=e
  ·subst h2;rw[if_pos ⟨h1,rfl⟩,if_pos ⟨h1,Nat.lt_succ_self j⟩]
  ·rw[if_neg (fun h=>h2 h.2)]
   by_cases h3:j<e
   ·rw[if_pos ⟨h1,h3⟩,if_pos ⟨h1,by omega⟩]
   ·rw[if_neg (fun h=>h3 h.2),if_neg (fun h=>by omega)]
 ·rw[if_neg (fun h=>h1 h.1),if_neg (fun h=>h1 h.1),if_neg (fun h=>h1 h.1)]
theorem nTo_all {i j:Nat} (hj:j<m):nTo n M k m i j=nT n M k i j:=by
 unfold nTo nT
 by_cases h:i=k
 ·rw[if_pos ⟨h,hj⟩,if_pos h]
 ·rw[if_neg (fun h2=>h h2.1),if_neg h]
end
structure slimR (n m:Nat) (M:Mx):Prop where
 el:∀k,k<=n->∀i j,i<n->j<m->fits (rT n M k i j)
 d:∀k,k<=n->fits (elim false n M k).d/\fits (-(elim false n M k).d)
 q:∀k,k<n->∀j,j<m->fits (zT n M k k j/zT n M k k k)
 p:∀k,k<n->∀i j,i<n->j<m->fits (nT n M k i k*nT n M k k j)/\fits (nT n M k i j+ -(nT n M k i k*nT n M k k j))
structure slimX (n D B β:Nat):Prop where
 b:dtB n B<=β
 d0:D≠0
 db:D<=B
 big:2*(bD D β*bN n D B β*(bD D β*bN n D B β*(bD D β*bN n D B β)))<2^4096
 pw1:(D*β*D)^n<2^4096
 pw2:(bW n D B β)^n<2^4096
theorem slimR_minor {n m D B β:Nat} {M:Mx} (hx:slimX n D B β) (hn:0<n) (hnm:n<=m) (hM:overT n m D B M) (h:(elim false n M n).r=n):slimR n m M:=by
 have hD:=hx.d0
 have hDB:=hx.db
 have hB:0<B:=by omega
 have hβ0:0<β:=zLM (dtB_pos hB n) hx.b
 have hD1:0<D:=by omega
 have hBD:D*β*D<=bD D β:=Nat.le_mul_of_pos_right _ (Nat.mul_pos hβ0 hD1)
 have hBD1:0<bD D β:=zLM (Nat.mul_pos (Nat.mul_pos hD1 hβ0) hD1) hBD
 have hW1:0<bW n D B β:=by unfold bW;exact zLM (Nat.mul_pos hB (Nat.mul_pos hβ0 hD1)) (Nat.le_add_right _ _)
 have hWN:bW n D B β<=bN n D B β:=Nat.le_add_right _ _
 have hN1:0<bN n D B β:=zLM hW1 hWN
 have el:∀k,k<=n->(∀i j,i<n->j<m->∃G,G≠0/\G<=bD D β/\over G (bN n D B β) ((elim false n M k).A i j)):=fun k hk i j hi hj=>by
  have hc:=zpl hD hDB hnm hx.b hM h k hk
  obtain⟨u1,u2,_⟩:=zad h k hk
  obtain⟨s1,s2⟩:=hc.sizes hD hDB hk hnm (zLT (zun hB hk) hx.b) hM u1 u2
  rcases Nat.lt_or_ge i k with h1 | h1
  ·obtain⟨G,g1,g2,g3⟩:=s2 i j h1 hj
   exact⟨G,g1,g2,g3.mono (Nat.le_add_left _ _)⟩
  ·obtain⟨G,g1,g2,g3⟩:=s1 i j h1 hi hj
   exact⟨G,g1,zLT g2 hBD,g3.mono hWN⟩
 obtain⟨P,hP⟩:∃P,bD D β*bN n D B β=P:=⟨_,rfl⟩
 have hbig:=hx.big
 rw[hP]at hbig
 have hP1:0<P:=by rw[<-hP];exact Nat.mul_pos hBD1 hN1
 have hGP:bD D β<=P:=by rw[<-hP];exact Nat.le_mul_of_pos_right _ hN1
 have hNP:bN n D B β<=P:=by rw[<-hP];exact Nat.le_mul_of_pos_left _ hBD1
 have p2:P<=P*P:=Nat.le_mul_of_pos_left _ hP1
 have p3:P*P<=P*(P*P):=Nat.le_mul_of_pos_left _ hP1
 -- the elements
 have er:∀k,k<=n->∀i j,i<n->j<m->∃G,G≠0/\G<=P/\over G P (rT n M k i j):=fun k hk i j hi hj=>by
  obtain⟨G1,a1,a2,a3⟩:=el k hk i j hi hj
  unfold rT
  split
  ·next hik=>
   obtain⟨G2,b1,b2,b3⟩:=el k hk i i hi (by omega)
   obtain⟨_,u2,_⟩:=zad h k hk
   obtain⟨H,c1,c2,c3⟩:=over.div2 a1 b1 a3 b3 (u2 i hik)
   refine⟨H,c1,zLT c2 (by rw[<-hP];exact zMR _ a2),c3.mono ?_⟩
   rw[<-hP,Nat.mul_comm (bD D β)];exact zML _ b2
  ·exact⟨G1,a1,by omega,a3.mono hNP⟩
 have ez:∀k,k<n->∀i j,i<n->j<m->∃G,G≠0/\G<=P/\over G P (zT n M k i j):=fun k hk i j hi hj=>by
  have hp:=(rP_lt h hk).2
  unfold zT swp
  split
  ·exact er k (by omega) _ j hp hj
  ·split
   ·exact er k (by omega) _ j hk hj
   ·exact er k (by omega) _ j hi hj
 have eq':∀k,k<n->∀j,j<m->∃G,G≠0/\G<=P/\over G P (zT n M k k j/zT n M k k k):=fun k hk j hj=>by
  obtain⟨h1,h2⟩:=rP_lt h hk
  have e1:∀j,zT n M k k j=(elim false n M k).A (rP n M k) j:=fun j=>by unfold zT;rw[zek,zdw h1]
  rw[e1,e1]
  obtain⟨G1,a1,a2,a3⟩:=el k (by omega) (rP n M k) j h2 hj
  obtain⟨G2,b1,b2,b3⟩:=el k (by omega) (rP n M k) k h2 (by omega)
  obtain⟨H,c1,c2,c3⟩:=over.div2 a1 b1 a3 b3 (by have:=zT_piv h hk;rwa[e1]at this)
  refine⟨H,c1,zLT c2 (by rw[<-hP];exact zMR _ a2),c3.mono ?_⟩
  rw[<-hP,Nat.mul_comm (bD D β)];exact zML _ b2
 have en:∀k,k<n->∀i j,i<n->j<m->∃G,G≠0/\G<=P/\over G P (nT n M k i j):=fun k hk i j hi hj=>by
  unfold nT;split
  ·exact eq' k hk j hj
  ·exact ez k hk i j hi hj
 have dd:∀k,k<=n->∃G,G≠0/\G<2^4096/\∃K,K<2^4096/\over G K (elim false n M k).d:=fun k hk=>by
  have hc:=zpl hD hDB hnm hx.b hM h k hk
  obtain⟨u1,u2,u3⟩:=zad h k hk
  obtain⟨G,g1,g2,g3⟩:=over_pr k hc.2
  have q1:(D*β*D)^k<=(D*β*D)^n:=Nat.pow_le_pow_right (Nat.mul_pos (Nat.mul_pos hD1 hβ0) hD1) hk
  have q2:(bW n D B β)^k<=(bW n D B β)^n:=Nat.pow_le_pow_right hW1 hk
  refine⟨G,g1,zLL (zLT g2 q1) hx.pw1,_,zLL q2 hx.pw2,?_⟩
  rw[u3]
  rcases sgs_pm n M k with e | e
  ·rw[e,Rat.one_mul];exact g3
  ·rw[e,show(-1:Rat)*pr k (fun i=>(elim false n M k).A i i)= -pr k (fun i=>(elim false n M k).A i i)by grind];exact over.neg g3
 refine⟨fun k hk i j hi hj=> ?_,fun k hk=> ?_,fun k hk j hj=> ?_,fun k hk i j hi hj=> ?_⟩
 ·obtain⟨G,g1,g2,g3⟩:=er k hk i j hi hj
  exact g3.fits g1 (by omega) (by omega)
 ·obtain⟨G,g1,g2,K,g3,g4⟩:=dd k hk
  exact⟨g4.fits g1 g3 g2,(over.neg g4).fits g1 g3 g2⟩
 ·obtain⟨G,g1,g2,g3⟩:=eq' k hk j hj
  exact g3.fits g1 (by omega) (by omega)
 ·obtain⟨G1,a1,a2,a3⟩:=en k hk i k hi (by omega)
  obtain⟨G2,b1,b2,b3⟩:=en k hk k j hk hj
  obtain⟨G3,d1,d2,d3⟩:=en k hk i j hi hj
  have m1:=over.mul a3 b3
  have hm1:G1*G2≠0:=Nat.mul_ne_zero a1 b1
  have hm2:G1*G2<=P*P:=Nat.mul_le_mul a2 b2
  refine⟨m1.fits hm1 (by omega) (by omega),?_⟩
  have m2:=over.sub2 d1 hm1 d3 m1
  rw[Rat.sub_eq_add_neg]at m2
  have hm4:G3*(G1*G2)<=P*(P*P):=Nat.mul_le_mul d2 hm2
  have hm5:P*(G1*G2)<=P*(P*P):=zML _ hm2
  have hm6:P*P*G3<=P*(P*P):=by rw[Nat.mul_comm];exact zMR _ d2
  exact m2.fits (Nat.mul_ne_zero d1 hm1) (by omega) (by omega)
end Go.Proofs.YtlpdkbmmbdfoiaaGreat
namespace Go.Proofs.YtlpdkbmmbdfoiaaGreat
open Go.RowKit
theorem kp2w {w0 X Y:World} {a1 a2:Addr} {x1 x2:Value} (h:X.cell? a1=some x1/\X.cell? a2=some x2/\Below w0.heap.size w0 X) (hb:Below X.heap.size X Y):Y.cell? a1=some x1/\Y.cell? a2=some x2/\Below w0.heap.size w0 Y:=by
 obtain⟨k1,k2,k0⟩:=h
 exact⟨zba hb k1,zba hb k2,zaa k0 hb⟩
theorem kp2a {w0 X:World} {a1 a2:Addr} {x1 x2:Value} (h:w0.cell? a1=some x1/\w0.cell? a2=some x2) (hb:Below w0.heap.size w0 X):X.cell? a1=some x1/\X.cell? a2=some x2/\Below w0.heap.size w0 X:=by
 obtain⟨k1,k2⟩:=h
 exact⟨zba hb k1,zba hb k2,hb⟩
theorem kp2c {w0 X:World} {a1 a2:Addr} {x1 x2:Value} (h:X.cell? a1=some x1/\X.cell? a2=some x2/\Below w0.heap.size w0 X):Below w0.heap.size w0 X:=by
 obtain⟨k1,k2,k0⟩:=h
 exact k0
theorem kp3w {w0 X Y:World} {a1 a2 a3:Addr} {x1 x2 x3:Value} (h:X.cell? a1=some x1/\X.cell? a2=some x2/\X.cell? a3=some x3/\Below w0.heap.size w0 X) (hb:Below X.heap.size X Y):Y.cell? a1=some x1/\Y.cell? a2=some x2/\Y.cell? a3=some x3/\Below w0.heap.size w0 Y:=by
 obtain⟨k1,k2,k3,k0⟩:=h
 exact⟨zba hb k1,zba hb k2,zba hb k3,zaa k0 hb⟩
theorem kp3a {w0 X:World} {a1 a2 a3:Addr} {x1 x2 x3:Value} (h:w0.cell? a1=some x1/\w0.cell? a2=some x2/\w0.cell? a3=some x3) (hb:Below w0.heap.size w0 X):X.cell? a1=some x1/\X.cell? a2=some x2/\X.cell? a3=some x3/\Below w0.heap.size w0 X:=by
 obtain⟨k1,k2,k3⟩:=h
 exact⟨zba hb k1,zba hb k2,zba hb k3,hb⟩
theorem kp3c {w0 X:World} {a1 a2 a3:Addr} {x1 x2 x3:Value} (h:X.cell? a1=some x1/\X.cell? a2=some x2/\X.cell? a3=some x3/\Below w0.heap.size w0 X):Below w0.heap.size w0 X:=by
 obtain⟨k1,k2,k3,k0⟩:=h
 exact k0
theorem kp8w {w0 X Y:World} {a1 a2 a3 a4 a5 a6 a7 a8:Addr} {x1 x2 x3 x4 x5 x6 x7 x8:Value} (h:X.cell? a1=some x1/\X.cell? a2=some x2/\X.cell? a3=some x3/\X.cell? a4=some x4/\X.cell? a5=some x5/\X.cell? a6=some x6/\X.cell? a7=some x7/\X.cell? a8=some x8/\Below w0.heap.size w0 X) (hb:Below X.heap.size X Y):Y.cell? a1=some x1/\Y.cell? a2=some x2/\Y.cell? a3=some x3/\Y.cell? a4=some x4/\Y.cell? a5=some x5/\Y.cell? a6=some x6/\Y.cell? a7=some x7/\Y.cell? a8=some x8/\Below w0.heap.size w0 Y:=by
 obtain⟨k1,k2,k3,k4,k5,k6,k7,k8,k0⟩:=h
 exact⟨zba hb k1,zba hb k2,zba hb k3,zba hb k4,zba hb k5,zba hb k6,zba hb k7,zba hb k8,zaa k0 hb⟩
theorem kp8a {w0 X:World} {a1 a2 a3 a4 a5 a6 a7 a8:Addr} {x1 x2 x3 x4 x5 x6 x7 x8:Value} (h:w0.cell? a1=some x1/\w0.cell? a2=some x2/\w0.cell? a3=some x3/\w0.cell? a4=some x4/\w0.cell? a5=some x5/\w0.cell? a6=some x6/\w0.cell? a7=some x7/\w0.cell? a8=some x8) (hb:Below w0.heap.size w0 X):X.cell? a1=some x1/\X.cell? a2=some x2/\X.cell? a3=some x3/\X.cell? a4=some x4/\X.cell? a5=some x5/\X.cell? a6=some x6/\X.cell? a7=some x7/\X.cell? a8=some x8/\Below w0.heap.size w0 X:=by
 obtain⟨k1,k2,k3,k4,k5,k6,k7,k8⟩:=h
 exact⟨zba hb k1,zba hb k2,zba hb k3,zba hb k4,zba hb k5,zba hb k6,zba hb k7,zba hb k8,hb⟩
theorem zhw {w0 X:World} {a1 a2 a3 a4 a5 a6 a7 a8:Addr} {x1 x2 x3 x4 x5 x6 x7 x8:Value} (h:X.cell? a1=some x1/\X.cell? a2=some x2/\X.cell? a3=some x3/\X.cell? a4=some x4/\X.cell? a5=some x5/\X.cell? a6=some x6/\X.cell? a7=some x7/\X.cell? a8=some x8/\Below w0.heap.size w0 X):Below w0.heap.size w0 X:=by
 obtain⟨k1,k2,k3,k4,k5,k6,k7,k8,k0⟩:=h
 exact k0
theorem kp8s {w0 X:World} {a1 a2 a3 a4 a5 a6 a7 a8:Addr} {x1 x2 x3 x4 x5 x6 x7 x8:Value} (h:w0.cell? a1=some x1/\w0.cell? a2=some x2/\w0.cell? a3=some x3/\w0.cell? a4=some x4/\w0.cell? a5=some x5/\w0.cell? a6=some x6/\w0.cell? a7=some x7/\w0.cell? a8=some x8) (hb:Below w0.heap.size w0 X) {b:Nat} (hB:w0.heap.size<=b) (x y z:Value):(((X.setCell ⟨b,0,none⟩ x).setCell ⟨b,1,none⟩ y).setCell ⟨b,2,none⟩ z).cell? a1=some x1/\(((X.setCell ⟨b,0,none⟩ x).setCell ⟨b,1,none⟩ y).setCell ⟨b,2,none⟩ z).cell? a2=some x2/\(((X.setCell ⟨b,0,none⟩ x).setCell ⟨b,1,none⟩ y).setCell ⟨b,2,none⟩ z).cell? a3=some x3/\(((X.setCell ⟨b,0,none⟩ x).setCell ⟨b,1,none⟩ y).setCell ⟨b,2,none⟩ z).cell? a4=some x4/\(((X.setCell ⟨b,0,none⟩ x).setCell ⟨b,1,none⟩ y).setCell ⟨b,2,none⟩ z).cell? a5=some x5/\(((X.setCell ⟨b,0,none⟩ x).setCell ⟨b,1,none⟩ y).setCell ⟨b,2,none⟩ z).cell? a6=some x6/\(((X.setCell ⟨b,0,none⟩ x).setCell ⟨b,1,none⟩ y).setCell ⟨b,2,none⟩ z).cell? a7=some x7/\(((X.setCell ⟨b,0,none⟩ x).setCell ⟨b,1,none⟩ y).setCell ⟨b,2,none⟩ z).cell? a8=some x8/\Below w0.heap.size w0 (((X.setCell ⟨b,0,none⟩ x).setCell ⟨b,1,none⟩ y).setCell ⟨b,2,none⟩ z):=
 kp8a h (zga hb hB x y z)
structure zam (w:World) (v:Value) (n m:Nat) (A:Mx):Prop where
 sl:zgc v
 len:slen v=n
 row:∀i,i<n->∃r,w.cell? (ptr v i)=some r/\zbb w r (zib m (A i))
theorem zam.below {w w':World} {v:Value} {n m:Nat} {A:Mx} (h:zam w v n m A) (hb:Below w.heap.size w w'):zam w' v n m A:=
 ⟨h.sl,h.len,fun i hi=>by obtain⟨r,h1,h2⟩:=h.row i hi;exact⟨r,zba hb h1,h2.below hb⟩⟩
theorem zcg {P:Program} (t e:TypeId) (i:TypeInfo) (ht:P.underlying t=some (.slice e)) (hi:P.info? e=some i) (hz:i.zero=some (.agg #[.bool false, .slice none 0 0, .slice none 0 0])) (hsize:i.size=3) (hby:i.bytes=56)
 {ops:Array Oper} {o:Oper} {a:Act} {w:World} {K:Act->World->Prop} {Q:Exit->Act->World->Prop} {E:Prop} (hgd:o.guard=none) (s x:Operand)
 (ho:o.op= .call { callee:= .builtin .append,args:=#[s,x],argTypes:=#[t,t] }) (B:Nat) (v:Value) (q:List Rat) (hs:a.eval s=v) (hown:zya w e B v q) (c0 c1 c2:Value) (r:Rat) (hf:zqa w (.agg #[c0,c1,c2]) r) (g:Nat) (hxe:a.eval x= .slice (some ⟨g,0,none⟩) 1 1)
 (hc:zjf w g #[c0,c1,c2]) (hn:q.length<=1000) (hbase:B<=w.heap.size)
 (h:∀v' w',zya w' e B v' (q++ [r])->w.grownBy w' v.ownBlock->zlb w v->(v'.ownBlock=v.ownBlock\/v'.ownBlock=some w.heap.size)->K (a.put o.dst v') w'):
 if Region.wanted o (yielded ops a.tmps)=true then Oper.wp P o a w K Q else E:=by
 obtain⟨xs,h1,h2⟩:=hown
 have hl:xs.length=q.length*3:=h1.clen
 obtain⟨a1,b1,ha,h4,h5⟩:=id hf
 injection ha with ha
 injection ha with ha
 simp only[List.cons.injEq,and_true]at ha
 obtain⟨rfl,rfl,rfl⟩:=ha
 obtain⟨p1,p2,p3,rfl,_⟩:=h4.v.sl
 obtain⟨s1,s2,s3,rfl,_⟩:=h5.v.sl
 rw[if_pos (by simp[Region.wanted,hgd])]
 obtain⟨v',w',hr,k2,k3,k4,k5⟩:=zwd (P:=P) w B t o.type e i _ 3 56 ht hi hz hsize hby rfl (by decide) v q.length xs h1.own ⟨g,0,none⟩ 1 1 [.bool (decide (r<0)), .slice p1 p2 p3, .slice s1 s2 s3] rfl
  (fun j u hu=>by
   rw[Addr.add_lit,Nat.zero_add]
   exact hc.cell j (by simpa using hu)) (fun u hu=>by simp at hu;rcases hu with rfl | rfl | rfl<;>rfl) (by simp[maxLen];omega) (by omega) hbase h1.nl (fun u hu z=>by simp at hu;rcases hu with rfl | rfl | rfl<;>simp) (fun c hc z=>by
   have hc2:c∈ [Value.bool false, .slice none 0 0, .slice none 0 0]:=hc
   simp at hc2;rcases hc2 with rfl | rfl<;>simp)
 unfold Oper.wp execOp
 simp only[ho,resolve,invoke,builtin,Sem.run_bind,Sem.run_pure,Result.andThen_ok,List.map_toArray,List.map_cons,List.map_nil,hs,hxe,hr]
 refine h v' w' ⟨_,?_,(zwe.snoc (r:=r) h2 hl hf).grown k3 h1.nl⟩ k3 h1.nl k4
 rw[List.length_append]
 exact⟨k2,k5⟩
theorem zbi {P:Program} (t e:TypeId) (i:TypeInfo) (h1:P.underlying t=some (.slice e)) (h2:P.info? e=some i) (h3:i.zero=some (.slice none 0 0)) (h4:i.size=1) (h5:i.bytes=24)
 (w:World) {ops:Array Oper} {rest:List Oper} {o:Oper} {a:Act} {Q:Exit->Act->World->Prop} (hg:o.guard=none) (l c:Operand) (hop:o.op=Op.makeSlice t l c)
 (B:Nat) (u:Int) (n:Nat) (hu:u=n) (hl:a.eval l= .int .i64 u) (hc:a.eval c= .int .i64 u) (b2:n<=1000) (b4:B<=w.heap.size)
 (hK:∀v w',zlc w' e B 1 v n (List.replicate n (.slice none 0 0))->Below w.heap.size w w'->wpList P ops Q rest (a.put o.dst v) w'):
 wpList P ops Q (o::rest) a w:=by
 subst hu
 refine wpList_make_full w hg l c t hop B e i _ 1 h1 h2 h3 h4 .i64 .i64 n n n hl hc rfl rfl (by rw[h5];omega) (by unfold maxLen;omega) b4 ?_
 intro w' hown hgr
 have hcs:(madeCells (Value.slice none 0 0).cells (n*1)).toList=List.replicate n (.slice none 0 0):=by
  rw[show(Value.slice none 0 0).cells=#[.slice none 0 0]from rfl,Nat.mul_one,toList_madeCells_one]
 rw[hcs]at hown
 refine hK _ w' ⟨hown,?_⟩ (zna hgr (zLR _) (fun k hk=>by cases hk))
 intro g' hg' cur e' fz hcc x hx z
 rcases hown.2 with⟨h',_⟩ | ⟨g2,cap,cur2,h',hb,hgg,_,_,hs,ht⟩
 ·cases h'
 ·injection h' with k4 k5 k6
  injection k4 with k4
  injection k4 with k4
  simp only[Value.ownBlock,Option.some.injEq]at hg'
  rw[<-hg',k4,hgg]at hcc
  injection hcc with hcc
  injection hcc with hcc _ _
  subst hcc
  have e9:cur2.toList=List.replicate n (.slice none 0 0):=by
   rw[<-ht]
   exact(List.take_of_length_le (by rw[Array.length_toList,hs,<-k6];exact zLR _)).symm
  rw[e9]at hx
  rw[List.eq_of_mem_replicate hx];simp
structure zrj (w:World) (B:Nat) (vO:Value) (rs:List Value) (n:Nat) (qs:Nat->List Rat):Prop where
 own:zlc w 25 B 1 vO n rs
 row:∀ (i:Nat) (h:i<rs.length),zya w 38 B rs[i] (qs i)
 ap:∀ (i j:Nat) (hi:i<rs.length) (hj:j<rs.length),i≠j->rs[i].ownBlock=none\/rs[i].ownBlock≠rs[j].ownBlock
section
variable {w w':World} {B n:Nat} {vO:Value} {rs:List Value} {qs:Nat->List Rat}
theorem zrj.rl (h:zrj w B vO rs n qs):rs.length=n:=by have:=h.own.clen;omega
theorem zrj.start (h:zlc w 25 B 1 vO n (List.replicate n (.slice none 0 0))):zrj w B vO (List.replicate n (.slice none 0 0)) n (fun _=> []):=
 ⟨h,fun i hi=>by rw[List.getElem_replicate];exact zya.nil _ _ _,fun i j hi hj _=>Or.inl (by rw[List.getElem_replicate];rfl)⟩
theorem zrj.below (h:zrj w B vO rs n qs) (hb:Below w.heap.size w w'):zrj w' B vO rs n qs:=
 ⟨h.own.below hb,fun i hi=>(h.row i hi).moves (zhb.below (B:=B) hb) (zLR _),h.ap⟩
theorem zrj.set (h:zrj w B vO rs n qs) {i:Nat} (hi:i<rs.length) {v':Value} {q:List Rat} (hB:B<=w.heap.size) (hv:zya w' 38 B v' q) (hg:w.grownBy w' rs[i].ownBlock) (hn:zlb w rs[i]) (hob:v'.ownBlock=rs[i].ownBlock\/v'.ownBlock=some w.heap.size):
 zrj (w'.setCell (ptr vO i) v') B vO (rs.set i v') n (fun k=>if k=i then q else qs k)/\Below B w (w'.setCell (ptr vO i) v'):=by
 obtain⟨own,row,ap⟩:=h
 obtain⟨ys,y1,y2⟩:=id (row i hi)
 have own':=own.grown hg (own.kinds y1 (by decide))
 have hlen:rs.length=n:=by have:=own.clen;omega
 obtain⟨s1,s2⟩:=own'.set1 i hi v' (fun z e=>by obtain⟨a1,a2,a3,e1,_⟩:=hv.sl;rw[e1]at e;cases e)
 have hbr:=(row i hi).block
 have hbo:=own.block
 refine⟨⟨s1,fun k hk=> ?_,fun j k hj hk hjk=> ?_⟩,(zna hg hB (fun k hk=>(hbr k hk).1)).trans (zna s2 (zLT hB hg.size) (fun k hk=>(hbo k hk).1))⟩
 ·have hk0:k<rs.length:=by simpa using hk
  by_cases hki:k=i
  ·subst hki
   rw[List.getElem_set_self,if_pos rfl]
   obtain⟨zs,z1,z2⟩:=id hv
   exact hv.grown s2 own'.nl (z1.kinds own' (by decide))
  ·rw[List.getElem_set_ne (fun e=>hki e.symm),if_neg hki]
   obtain⟨zs,z1,z2⟩:=id (row k hk0)
   have hk1:=(row k hk0).grown hg hn (ap k i hk0 hi hki)
   exact hk1.grown s2 own'.nl (z1.kinds own (by decide))
 ·have hj0:j<rs.length:=by simpa using hj
  have hk0:k<rs.length:=by simpa using hk
  by_cases h1:j=i
  ·subst h1
   rw[List.getElem_set_self,List.getElem_set_ne hjk]
   rcases hob with h | h
   ·rw[h];exact ap j k hj0 hk0 hjk
   ·rw[h];refine Or.inr (fun e=> ?_)
    have:=((row k hk0).block _ e.symm).2
    omega
  ·rw[List.getElem_set_ne (fun e=>h1 e.symm)]
   by_cases h2:k=i
   ·subst h2
    rw[List.getElem_set_self]
    rcases hob with h | h
    ·rw[h];exact ap j k hj0 hk0 hjk
    ·rw[h];refine Or.inr (fun e=> ?_)
     have:=((row j hj0).block _ e).2
     omega
   ·rw[List.getElem_set_ne (fun e=>h2 e.symm)];exact ap j k hj0 hk0 hjk
end
@[go_sem ↓] theorem zdm {P : Program} (w : World) {t : TypeId} {v : Value} {lo : Int} (h : zgc v) (ht : P.underlying t = some (.slice (P.elem t))) (h0 : 0 <= lo) (h1 : lo <= (slen v : Int)) :
 (Instr.slice t v (some (.int .i64 lo)) none none).run P w=((sizeOf (P.elem t)).run P w).andThen fun s w=> .ok (cut s v lo.toNat (slen v)) w:=by
  obtain⟨a,n,cap,rfl,hn,_,h3⟩:=h
  simp only[slen]at h1
  have h00:(n:Int)<=cap:=by omega
  simp[Instr.slice,run_underlying ht,Instr.sliceBounds,Instr.sliceBound,asIntOf,h0,h1,h00,cut,slen]
theorem zbb.drop {w:World} {v:Value} {q:List Rat} (h:zbb w v q) (lo:Nat) (hlo:lo<q.length):zbb w (cut 3 v lo (slen v)) (q.drop lo):=by
 have hl:=h.len
 have hle:=h.sl.le
 refine⟨h.sl.cut (by omega) hle.1,by rw[h.sl.slen_cut,List.length_drop,hl],fun j hj=> ?_⟩
 have hj2:lo+j<q.length:=by rw[List.length_drop]at hj;omega
 obtain⟨a,b,h1,h2,h3,h4,h5⟩:=h.at' (lo+j) hj2
 have e:(q.drop lo)[j]'hj=q[lo+j]'hj2:=by rw[List.getElem_drop]
 rw[e]
 rw[zwk h.sl (by omega),zwk h.sl (by omega),zwk h.sl (by omega)]
 exact⟨a,b,by rw[show lo*3+j*3=(lo+j)*3 by omega];exact h1,by rw[show lo*3+(j*3+1)=(lo+j)*3+1 by omega];exact h2,by rw[show lo*3+(j*3+2)=(lo+j)*3+2 by omega];exact h3,h4,h5⟩
theorem zrj.congr {w:World} {B n:Nat} {vO:Value} {rs:List Value} {p q:Nat->List Rat} (h:zrj w B vO rs n p) (hpq:∀i,i<n->p i=q i):zrj w B vO rs n q:=
 ⟨h.own,fun i hi=>by rw[<-hpq i (by rw[<-h.rl];exact hi)];exact h.row i hi,h.ap⟩
theorem zlk (k:Nat) (f:Nat->Rat):zib k f++ [f k]=zib (k+1) f:=by
 unfold zib;rw[List.range_succ,List.map_append];rfl
end Go.Proofs.YtlpdkbmmbdfoiaaGreat
