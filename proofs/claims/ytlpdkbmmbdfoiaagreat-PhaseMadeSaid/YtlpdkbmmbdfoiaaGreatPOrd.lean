/- Lemmas. -/
import Derived.Test.YtlpdkbmmbdfoiaaGreatPPh7
import Derived.ProofKit
set_option linter.unusedVariables false
set_option linter.unusedSimpArgs false
namespace Go.Proofs.YtlpdkbmmbdfoiaaGreat
open Go.RowKit
def CellsP (w:World) (xs:List Value) (n:Nat) (f:Nat->Rat) (S:Nat->Prop):Prop:=
 ∀j,j<n->S j->∃a b,xs[j*3]? =some (.bool (decide (f j<0)))/\xs[j*3+1]? =some a/\xs[j*3+2]? =some b/\zub w a (f j).num.natAbs/\zub w b (f j).den
def zad (w:World) (e:TypeId) (B:Nat) (v:Value) (n:Nat) (f:Nat->Rat) (S:Nat->Prop):Prop:=∃xs,zkc w e B 3 v n xs/\CellsP w xs n f S
section
variable {w w':World} {e:TypeId} {B n:Nat} {v u:Value} {f:Nat->Rat} {S:Nat->Prop}
theorem zec.ownR (h:zec w e B v n):∃xs,zkc w e B 3 v n xs:=by
 obtain⟨g,cs,rfl,h1,h2⟩:=id h;have hcl:cs.length=n*3:=h1.1;refine⟨cs,h1,?_⟩;intro g' hg' cur e' fz hc c hcc z;rcases h1.2 with⟨h',_⟩ | ⟨g2,cap,cur2,h',hb,hg,_,_,hs,ht⟩
 ·cases h'
 ·injection h' with h4 h5 h6
  injection h4 with h4
  injection h4 with h4
  subst h4;simp only[Value.ownBlock,Option.some.injEq]at hg';subst hg';rw[hc]at hg;injection hg with hg
  injection hg with hg
  subst hg;subst h6
  have hcur:cur.toList=cs:=by
   rw[<-ht];refine(zTL ?_).symm;simp only[Array.length_toList];omega
  rw[hcur]at hcc;exact h2 c hcc z
theorem zad.start (h:zec w e B v n) (f:Nat->Rat):zad w e B v n f (λ j=>j<0):=by
 obtain⟨xs,h1⟩:=h.ownR;exact⟨xs,h1,λ j _ h=>absurd h (zNZ _)⟩
theorem zad.noLimb (h:zad w e B v n f S):zrb w v:=by obtain⟨xs,h1,_⟩:=h;exact h1.nl
theorem zad.block (h:zad w e B v n f S):∀k,v.ownBlock=some k->B<=k/\k<w.heap.size:=by obtain⟨xs,h1,_⟩:=h;exact h1.block
theorem zad.blk (h:zad w e B v n f S) (hn:0<n):∃g,v.ownBlock=some g/\(base v).block=g/\B<=g/\g<w.heap.size/\∀j,ptr v j=⟨g,j,none⟩:=by
 obtain⟨xs,h1,_⟩:=h;exact h1.blk (by rw[h1.clen];omega)
theorem CellsP.grown {xs:List Value} (h2:CellsP w xs n f S) (hg:w.grownBy w' u.ownBlock) (hn:zrb w u):CellsP w' xs n f S:=λ j hj hs=>by
 obtain⟨a,b,e1,e2,e3,e4,e5⟩:=h2 j hj hs;exact⟨a,b,e1,e2,e3,e4.grown hg hn,e5.grown hg hn⟩
theorem zad.grown (h:zad w e B v n f S) (hg:w.grownBy w' u.ownBlock) (hn:zrb w u) (hne:v.ownBlock=none\/v.ownBlock≠u.ownBlock):zad w' e B v n f S:=by
 obtain⟨xs,h1,h2⟩:=h;exact⟨xs,h1.grown hg hne,h2.grown hg hn⟩
theorem zad.bw (h:zad w e B v n f S) (hb:Below w.heap.size w w'):zad w' e B v n f S:=by
 obtain⟨xs,h1,h2⟩:=h;refine⟨xs,h1.bw hb,λ j hj hs=> ?_⟩;obtain⟨a,b,e1,e2,e3,e4,e5⟩:=h2 j hj hs;exact⟨a,b,e1,e2,e3,e4.bw hb,e5.bw hb⟩
theorem zad.slots (h:zad w e B v n f S) {i:Nat} (hi:i<n):∃c0 c1 c2,w.cell? (ptr v (i*3))=some c0/\w.cell? (ptr v (i*3+1))=some c1/\w.cell? (ptr v (i*3+2))=some c2/\
 w.frozen? (ptr v (i*3))=false/\w.frozen? (ptr v (i*3+1))=false/\w.frozen? (ptr v (i*3+2))=false/\
 ptr v (i*3)≠ptr v (i*3+1)/\ptr v (i*3)≠ptr v (i*3+2)/\ptr v (i*3+1)≠ptr v (i*3+2):=by
 obtain⟨g,_,_,_,_,hp⟩:=h.blk zO;obtain⟨xs,h1,_⟩:=h;have hl:=h1.clen;refine⟨_,_,_,h1.cell (i*3) zO,h1.cell (i*3+1) zO,h1.cell (i*3+2) zO,h1.frozen _ zO,h1.frozen _ zO,h1.frozen _ zO,?_,?_,?_⟩<;>(rw[hp,hp];intro h;injection h with h1 h2;omega)
theorem zad.put (h:zad w e B v n f S) {i:Nat} (hi:i<n) {x y z:Value} (hf:zia w (.agg #[x,y,z]) (f i)):
 zad (((w.setCell (ptr v (i*3)) x).setCell (ptr v (i*3+1)) y).setCell (ptr v (i*3+2)) z) e B v n f (λ j=>S j\/j=i)/\
  w.grownBy (((w.setCell (ptr v (i*3)) x).setCell (ptr v (i*3+1)) y).setCell (ptr v (i*3+2)) z) v.ownBlock:=by
 obtain⟨xs,h1,h2⟩:=h;obtain⟨a,b,ha,h4,h5⟩:=id hf;injection ha with ha
 injection ha with ha
 simp only[List.cons.injEq,and_true]at ha;obtain⟨rfl,rfl,rfl⟩:=ha;have hl:=h1.clen;have ny:∀k,y≠ .int .u32 k:=λ k=>by obtain⟨a1,n1,c1,e1,_⟩:=h4.v.sl;subst e1;simp
 have nz:∀k,z≠ .int .u32 k:=λ k=>by obtain⟨a1,n1,c1,e1,_⟩:=h5.v.sl;subst e1;simp
 obtain⟨s1,g1⟩:=h1.set1 (i*3) zO (.bool (decide (f i<0))) (λ k=>by simp);obtain⟨s2,g2⟩:=s1.set1 (i*3+1) (by rw[zGS];omega) y ny;obtain⟨s3,g3⟩:=s2.set1 (i*3+2) (by rw[zGS,zGS];omega) z nz;have gg:=zte (zte g1 g2) g3;refine⟨⟨_,s3,λ j hj hs=> ?_⟩,gg⟩;by_cases hij:i=j
 ·subst hij;refine⟨y,z,?_,?_,?_,?_,?_⟩
  ·rw[zSN zO,zSN zO,List.getElem?_set_self zO]
  ·rw[zSN zO,List.getElem?_set_self (by rw[zGS];omega)]
  ·rw[List.getElem?_set_self (by rw[zGS,zGS];omega)]
  ·exact h4.grown gg h1.nl
  ·exact h5.grown gg h1.nl
 ·obtain⟨a,b,e1,e2,e3,e4,e5⟩:=h2 j hj (by
   rcases hs with hs | hs
   ·exact hs
   ·exact absurd hs.symm hij)
  refine⟨a,b,?_,?_,?_,e4.grown gg h1.nl,e5.grown gg h1.nl⟩
  ·rw[zSN zO,zSN zO,zSN zO];exact e1
  ·rw[zSN zO,zSN zO,zSN zO];exact e2
  ·rw[zSN zO,zSN zO,zSN zO];exact e3
theorem zad.imp {T:Nat->Prop} (h:zad w e B v n f S) (hs:∀j,j<n->T j->S j):zad w e B v n f T:=by
 obtain⟨xs,h1,h2⟩:=h;exact⟨xs,h1,λ j hj ht=>h2 j hj (hs j hj ht)⟩
theorem zad.succ {i:Nat} (h:zad w e B v n f (λ j=>j<i\/j=i)):zad w e B v n f (λ j=>j<i+1):=h.imp λ j _ h=>zO
theorem zad.frRow (h:zad w e B v n f S) (hs:∀j,j<n->S j):zua w e B v (zxa n f):=by
 obtain⟨xs,h1,h2⟩:=h;refine⟨xs,by rw[zda];exact h1,λ j hj=> ?_⟩;rw[zqb];rw[zda]at hj;exact h2 j hj (hs j hj)
end
section
variable {w w':World} {B n:Nat} {vO vX:Value} {rs:List Value} {qs:Nat->List Rat} {f:Nat->Rat} {S:Nat->Prop}
theorem zwj.putG (h:zwj w B vO rs n qs) {i j:Nat} (hi:i<rs.length) (hj:j<(qs i).length) {x y z:Value} {r:Rat} (hf:zia w (.agg #[x,y,z]) r):
 zwj (((w.setCell (ptr rs[i] (j*3)) x).setCell (ptr rs[i] (j*3+1)) y).setCell (ptr rs[i] (j*3+2)) z) B vO rs n (λ k=>if k=i then(qs i).set j r else qs k)/\
  w.grownBy (((w.setCell (ptr rs[i] (j*3)) x).setCell (ptr rs[i] (j*3+1)) y).setCell (ptr rs[i] (j*3+2)) z) rs[i].ownBlock/\zrb w rs[i]:=by
 obtain⟨own,row,ap⟩:=h;obtain⟨p1,p2⟩:=(row i hi).put (i:=j) hj hf;have hnl:=(row i hi).noLimb;obtain⟨ys,y1,y2⟩:=id (row i hi);refine⟨⟨own.grown p2 (own.kinds y1 zD),λ k hk=> ?_,ap⟩,p2,hnl⟩;by_cases hki:k=i
 ·subst hki;rw[zIP rfl];exact p1
 ·rw[zIN hki];exact(row k hk).grown p2 hnl (ap k i hk hi hki)
theorem zuf {n i:Nat} {f g:Nat->Rat} (h:∀k,k<n->k≠i->f k=g k):(zxa n f).set i (g i)=zxa n g:=by
 refine List.ext_getElem (by rw[zGS,zda,zda]) λ k h1 h2=> ?_
 rw[zqb];by_cases e:i=k
 ·subst e;rw[zSF]
 ·rw[zTN e,zqb];exact h k (by rw[zda]at h2;exact h2) (λ e2=>e e2.symm)
structure MX (w:World) (B:Nat) (vO:Value) (rs:List Value) (n:Nat) (qs:Nat->List Rat) (vX:Value) (f:Nat->Rat) (S:Nat->Prop):Prop where
 t:zwj w B vO rs n qs
 x:zad w 38 B vX n f S
 ne:∀ (i:Nat) (hi:i<rs.length),rs[i].ownBlock=none\/rs[i].ownBlock≠vX.ownBlock
 sz:B<=w.heap.size
theorem MX.bw (h:MX w B vO rs n qs vX f S) (hb:Below w.heap.size w w'):MX w' B vO rs n qs vX f S:=⟨h.t.bw hb,h.x.bw hb,h.ne,zLT h.sz hb.size⟩
theorem MX.congr {p:Nat->List Rat} (h:MX w B vO rs n qs vX f S) (hpq:∀i,i<n->qs i=p i):MX w B vO rs n p vX f S:=⟨h.t.congr hpq,h.x,h.ne,h.sz⟩
theorem MX.putX (h:MX w B vO rs n qs vX f S) {i:Nat} (hi:i<n) {x y z:Value} (hf:zia w (.agg #[x,y,z]) (f i)):
 MX (((w.setCell (ptr vX (i*3)) x).setCell (ptr vX (i*3+1)) y).setCell (ptr vX (i*3+2)) z) B vO rs n qs vX f (λ j=>S j\/j=i)/\
  Below B w (((w.setCell (ptr vX (i*3)) x).setCell (ptr vX (i*3+1)) y).setCell (ptr vX (i*3+2)) z):=by
 obtain⟨t,x',ne,sz⟩:=h;obtain⟨p1,p2⟩:=x'.put hi hf;have hnl:=x'.noLimb;obtain⟨ys,y1,y2⟩:=id x';have hb:=zja p2 sz (λ k hk=>(x'.block k hk).1);refine⟨⟨⟨t.own.grown p2 (t.own.kinds y1 zD),λ k hk=>(t.row k hk).grown p2 hnl (ne k hk),t.ap⟩,p1,ne,zLT sz hb.size⟩,hb⟩
theorem MX.set (h:MX w B vO rs n qs vX f S) {i:Nat} (hi:i<rs.length) {v':Value} {q:List Rat} (hv:zua w' 38 B v' q) (hg:w.grownBy w' rs[i].ownBlock) (hn:zrb w rs[i]) (hob:v'.ownBlock=rs[i].ownBlock\/v'.ownBlock=some w.heap.size):
 MX (w'.setCell (ptr vO i) v') B vO (rs.set i v') n (λ k=>if k=i then q else qs k) vX f S/\Below B w (w'.setCell (ptr vO i) v'):=by
 have hX:vX.ownBlock=none\/vX.ownBlock≠rs[i].ownBlock:=by
  rcases h.ne i hi with h1 | h1
  ·cases hx:vX.ownBlock with
   | none=>exact Or.inl rfl
   | some g=>exact Or.inr (by rw[h1];intro e;cases e)
  ·exact Or.inr (λ e=>h1 e.symm)
 obtain⟨s1,s2⟩:=h.t.set hi h.sz hv hg hn hob;obtain⟨ys,y1,y2⟩:=id (h.t.row i hi);have own':=h.t.own.grown hg (h.t.own.kinds y1 zD);obtain⟨_,c2⟩:=own'.set1 i hi v' (λ z e=>by obtain⟨a1,a2,a3,e1,_⟩:=hv.sl;rw[e1]at e;cases e);have hx1:=h.x.grown hg hn hX;obtain⟨zs,z1,z2⟩:=id hx1;have hx2:=hx1.grown c2 own'.nl (z1.kinds own' zD);refine⟨⟨s1,hx2,λ k hk=> ?_,zLT h.sz s2.size⟩,s2⟩;have hk0:k<rs.length:=by simpa using hk
 by_cases hki:k=i
 ·subst hki;rw[zSF];rcases hob with h1 | h1
  ·rw[h1];exact h.ne k hi
  ·rw[h1];(refine Or.inr λ e=> ?_);have:=(h.x.block _ e.symm).2;omega
 ·rw[zTN (λ e=>hki e.symm)];exact h.ne k hk0
theorem MX.put (h:MX w B vO rs n qs vX f S) {i j:Nat} (hi:i<rs.length) (hj:j<(qs i).length) {x y z:Value} {r:Rat} (hf:zia w (.agg #[x,y,z]) r):
 MX (((w.setCell (ptr rs[i] (j*3)) x).setCell (ptr rs[i] (j*3+1)) y).setCell (ptr rs[i] (j*3+2)) z) B vO rs n (λ k=>if k=i then(qs i).set j r else qs k) vX f S/\
  Below B w (((w.setCell (ptr rs[i] (j*3)) x).setCell (ptr rs[i] (j*3+1)) y).setCell (ptr rs[i] (j*3+2)) z):=by
 obtain⟨p1,p2,p3⟩:=h.t.putG hi hj hf
 have hX:vX.ownBlock=none\/vX.ownBlock≠rs[i].ownBlock:=by
  rcases h.ne i hi with h1 | h1
  ·cases hx:vX.ownBlock with
   | none=>exact Or.inl rfl
   | some g=>exact Or.inr (by rw[h1];intro e;cases e)
  ·exact Or.inr (λ e=>h1 e.symm)
 have hb:=zja p2 h.sz (λ k hk=>((h.t.row i hi).block k hk).1);exact⟨⟨p1,h.x.grown p2 p3 hX,h.ne,zLT h.sz hb.size⟩,hb⟩
theorem MX.matF (h:MX w B vO rs n qs vX f S) {A:Mx} (hq:∀i,i<n->qs i=zxa n (A i)):zij w vO n n A:=⟨h.t.own.sl,h.t.own.len,λ k hk=>by
 have hk2:k<rs.length:=by rw[h.t.rl];exact hk
 refine⟨rs[k],h.t.own.cell k hk2,?_⟩;have h1:=(h.t.row k hk2).fracs;rwa[hq k hk]at h1⟩
end
def mkF (w:World) (e:TypeId) (n:Nat):World:=w.alloc (.cells (madeCells #[Value.bool false, .slice none 0 0, .slice none 0 0] (n*3)) e)
theorem mkF_size (w:World) (e:TypeId) (n:Nat):(mkF w e n).heap.size=w.heap.size+1:=by simp[mkF]
theorem zeh (w:World) (e:TypeId) (n:Nat):Below w.heap.size w (mkF w e n):=zca w _
theorem zec.mkF (w:World) (e:TypeId) (n:Nat) (hn:n<=128):zec (mkF w e n) e w.heap.size (.slice (some ⟨w.heap.size,0,none⟩) n n) n:=by
 have:=World.ownsRow_lit (size:=3) (base:=w.heap.size) w (madeCells #[Value.bool false, .slice none 0 0, .slice none 0 0] (n*3)) (e:=e) n (zLR _) (by simp[maxLen];omega) (size_madeCells _ _);refine⟨w.heap.size,_,rfl,this,λ x hx z=> ?_⟩;have hx2:x∈(madeCells #[Value.bool false, .slice none 0 0, .slice none 0 0] (n*3)).toList:=hx;unfold madeCells at hx2;simp only[Array.toList_map,List.mem_map,Array.mem_toList_iff]at hx2;obtain⟨k,hk,rfl⟩:=hx2;have h7:k%3<3:=zML2 _ zD;have h8:(#[Value.bool false, .slice none 0 0, .slice none 0 0]:Array Value).size=3:=rfl;rw[h8];rcases(show k%3=0\/k%3=1\/k%3=2 by omega)with h9 | h9 | h9<;>rw[h9]<;>simp
theorem zec.mkFB (w:World) (e:TypeId) (n a:Nat) (ha:w.heap.size=a) (hn:n<=128):zec (Go.Proofs.YtlpdkbmmbdfoiaaGreat.mkF w e n) e a (.slice (some ⟨a,0,none⟩) n n) n:=by
 subst ha;exact zec.mkF w e n hn
theorem run_mkF {P:Program} (t e:TypeId) (i:TypeInfo) (h1:P.underlying t=some (.slice e)) (h2:P.info? e=some i) (h3:i.zero=some (.agg #[.bool false, .slice none 0 0, .slice none 0 0])) (h4:i.size=3) (h5:i.bytes=56)
 (n:Nat) (hn:n<=128) (w:World):(Instr.makeSlice t (.int .i64 (n:Int)) (.int .i64 (n:Int))).run P w= .ok (.slice (some ⟨w.heap.size,0,none⟩) n n) (mkF w e n):=by
 have hb2:(i.bytes:Int)*(n:Int)<=281474976710656:=by rw[h5];omega
 have hr:=run_make (P:=P) w t e i _ h1 h2 h3 .i64 .i64 n n zO (Int.le_refl _) hb2 zO;simp only[Int.toNat_natCast]at hr;rw[hr,h4];rfl
@[go_sem] theorem cell_mkF (w : World) (e : TypeId) (n : Nat) (p : Addr) (hp : p.block < w.heap.size) : (mkF w e n).cell? p = w.cell? p := (zeh w e n).cell hp
@[go_sem] theorem frozen_mkF (w : World) (e : TypeId) (n : Nat) (p : Addr) (hp : p.block < w.heap.size) : (mkF w e n).frozen? p = w.frozen? p := (zeh w e n).frozen hp
@[go_sem] theorem size_mkF (w : World) (e : TypeId) (n : Nat) : (mkF w e n).heap.size = w.heap.size + 1 := mkF_size w e n
structure BX (w:World) (B:Nat) (vM:Value) (rs:List Value) (n:Nat) (qs:Nat->List Rat) (vR:Value) (f:Nat->Rat) (vS:Value) (g:Nat->Rat) (k:Nat):Prop where
 t:zwj w B vM rs n qs
 r:zad w 38 B vR n f (λ j=>j<k)
 s:zad w 38 B vS n g (λ j=>j<k)
 nr:∀ (i:Nat) (hi:i<rs.length),rs[i].ownBlock=none\/rs[i].ownBlock≠vR.ownBlock
 ns:∀ (i:Nat) (hi:i<rs.length),rs[i].ownBlock=none\/rs[i].ownBlock≠vS.ownBlock
 rs:vR.ownBlock=none\/vR.ownBlock≠vS.ownBlock
 sz:B<=w.heap.size
section
variable {w w':World} {B n k:Nat} {vM vR vS:Value} {rs:List Value} {qs:Nat->List Rat} {f g:Nat->Rat}
theorem zqh {a b:Value} (h:a.ownBlock=none\/a.ownBlock≠b.ownBlock):b.ownBlock=none\/b.ownBlock≠a.ownBlock:=by
 cases hb:b.ownBlock with
 | none=>exact Or.inl rfl
 | some x=>
   (refine Or.inr λ e=> ?_);rcases h with h | h
   ·rw[h]at e;cases e
   ·exact h (by rw[hb];exact e.symm)
theorem BX.bw (h:BX w B vM rs n qs vR f vS g k) (hb:Below w.heap.size w w'):BX w' B vM rs n qs vR f vS g k:=
 ⟨h.t.bw hb,h.r.bw hb,h.s.bw hb,h.nr,h.ns,h.rs,zLT h.sz hb.size⟩
theorem BX.put (h:BX w B vM rs n qs vR f vS g k) (hk:k<n) {r:Value} {q:List Rat} (hr:zua w 38 B r q) (h1:∀ (i:Nat) (hi:i<rs.length),rs[i].ownBlock=none\/rs[i].ownBlock≠r.ownBlock) (h2:r.ownBlock=none\/r.ownBlock≠vR.ownBlock) (h3:r.ownBlock=none\/r.ownBlock≠vS.ownBlock)
 {x y z x' y' z':Value} (hf:zia w (.agg #[x,y,z]) (f k)) (hg:zia w (.agg #[x',y',z']) (g k)):
 let w1:=w.setCell (ptr vM k) r
 let w2:=((w1.setCell (ptr vR (k*3)) x).setCell (ptr vR (k*3+1)) y).setCell (ptr vR (k*3+2)) z
 let w3:=((w2.setCell (ptr vS (k*3)) x').setCell (ptr vS (k*3+1)) y').setCell (ptr vS (k*3+2)) z'
 BX w3 B vM (rs.set k r) n (λ i=>if i=k then q else qs i) vR f vS g (k+1)/\Below B w w3/\zad w1 38 B vR n f (λ j=>j<k)/\zad w2 38 B vS n g (λ j=>j<k):=by
 intro w1 w2 w3;obtain⟨t,r',s',nr,ns,ers,sz⟩:=h;have hkr:k<rs.length:=by rw[t.rl];exact hk
 obtain⟨p1,g1⟩:=t.own.set1 k hkr r (λ z e=>by obtain⟨a1,a2,a3,e1,_⟩:=hr.sl;rw[e1]at e;cases e);have hnM:=t.own.nl
 have kM:∀ {v:Value} {m:Nat} {f':Nat->Rat} {S:Nat->Prop},zad w 38 B v m f' S->v.ownBlock=none\/v.ownBlock≠vM.ownBlock:=λ h=>by
  obtain⟨ys,y1,y2⟩:=id h;exact y1.kinds t.own zD
 have kF:∀ {v:Value} {q':List Rat},zua w 38 B v q'->v.ownBlock=none\/v.ownBlock≠vM.ownBlock:=λ h=>by
  obtain⟨ys,y1,y2⟩:=id h;exact y1.kinds t.own zD
 have r1:=r'.grown g1 hnM (kM r');have s1:=s'.grown g1 hnM (kM s')
 have t1:zwj w1 B vM (rs.set k r) n (λ i=>if i=k then q else qs i):=⟨p1,λ i hi=>by
  have hi0:i<rs.length:=by simpa using hi
  by_cases e:i=k
  ·subst e;rw[zSF,zIP rfl];exact hr.grown g1 hnM (kF hr)
  ·rw[zTN (λ e'=>e e'.symm),zIN e];exact(t.row i hi0).grown g1 hnM (kF (t.row i hi0)),λ i j hi hj hij=>by
  have hi0:i<rs.length:=by simpa using hi
  have hj0:j<rs.length:=by simpa using hj
  by_cases e:i=k
  ·subst e;rw[zSF,zTN hij];exact zqh (h1 j hj0)
  ·rw[zTN (λ e'=>e e'.symm)];by_cases e2:j=k
   ·subst e2;rw[zSF];exact h1 i hi0
   ·rw[zTN (λ e'=>e2 e'.symm)];exact t.ap i j hi0 hj0 hij⟩
 have nr1:∀ (i:Nat) (hi:i<(rs.set k r).length),(rs.set k r)[i].ownBlock=none\/(rs.set k r)[i].ownBlock≠vR.ownBlock:=λ i hi=>by
  have hi0:i<rs.length:=by simpa using hi
  by_cases e:i=k
  ·subst e;rw[zSF];exact h2
  ·rw[zTN (λ e'=>e e'.symm)];exact nr i hi0
 have ns1:∀ (i:Nat) (hi:i<(rs.set k r).length),(rs.set k r)[i].ownBlock=none\/(rs.set k r)[i].ownBlock≠vS.ownBlock:=λ i hi=>by
  have hi0:i<rs.length:=by simpa using hi
  by_cases e:i=k
  ·subst e;rw[zSF];exact h3
  ·rw[zTN (λ e'=>e e'.symm)];exact ns i hi0
 have hf1:=hf.grown g1 hnM;have hg1:=hg.grown g1 hnM;obtain⟨r2,g2⟩:=r1.put hk hf1;have hnR:=r1.noLimb;have kR:vM.ownBlock=none\/vM.ownBlock≠vR.ownBlock:=zqh (kM r');have t2:zwj w2 B vM (rs.set k r) n (λ i=>if i=k then q else qs i):=⟨t1.own.grown g2 kR,λ i hi=>(t1.row i hi).grown g2 hnR (nr1 i hi),t1.ap⟩;have s2:=s1.grown g2 hnR (zqh ers);have hg2:=hg1.grown g2 hnR;obtain⟨s3,g3⟩:=s2.put hk hg2;have hnS:=s2.noLimb;have kS:vM.ownBlock=none\/vM.ownBlock≠vS.ownBlock:=zqh (kM s');have t3:zwj w3 B vM (rs.set k r) n (λ i=>if i=k then q else qs i):=⟨t2.own.grown g3 kS,λ i hi=>(t2.row i hi).grown g3 hnS (ns1 i hi),t2.ap⟩;have r3:=r2.grown g3 hnS ers;have b1:=zja g1 sz (λ k hk=>(t.own.block k hk).1);have b2:=zja g2 (zLT sz b1.size) (λ k hk=>(r1.block k hk).1);have b3:=zja g3 (zLT sz (zLT b1.size b2.size)) (λ k hk=>(s2.block k hk).1);have hb:=(b1.trans b2).trans b3;exact⟨⟨t3,r3.succ,s3.succ,nr1,ns1,ers,zLT sz hb.size⟩,hb,r1,s2⟩
theorem BX.matF (h:BX w B vM rs n qs vR f vS g k) {A:Mx} (hq:∀i,i<n->qs i=zxa n (A i)):zij w vM n n A:=⟨h.t.own.sl,h.t.own.len,λ k hk=>by
 have hk2:k<rs.length:=by rw[h.t.rl];exact hk
 refine⟨rs[k],h.t.own.cell k hk2,?_⟩;have h1:=(h.t.row k hk2).fracs;rwa[hq k hk]at h1⟩
end
structure TMv (bt:Nat) (w w':World):Prop where
 size:w.heap.size<=w'.heap.size
 row:∀g,g≠bt->g<w.heap.size->w'.heap[g]? =w.heap[g]?
 cell:∀p x,w.cell? p=some x->(∀z,x≠ .int .i64 z)->w'.cell? p=some x
 frozen:∀p,p.block<w.heap.size->w'.frozen? p=w.frozen? p
 bw:∀B,B<=bt->B<=w.heap.size->Below B w w'
theorem TMv.trans {bt:Nat} {a b c:World} (h:TMv bt a b) (k:TMv bt b c):TMv bt a c:=
 ⟨zLT h.size k.size,λ g h1 h2=>(k.row g h1 (zLM h2 h.size)).trans (h.row g h1 h2),λ p x hp hx=>k.cell p x (h.cell p x hp hx) hx,
  λ p hp=>(k.frozen p (zLM hp h.size)).trans (h.frozen p hp),λ B h1 h2=>(h.bw B h1 h2).trans (k.bw B h1 (zLT h2 h.size))⟩
theorem TMv.of_below {bt:Nat} {w w':World} (h:Below w.heap.size w w'):TMv bt w w':=
 ⟨h.size,λ g _ h2=>h.block g h2,λ p x hp _=>zba h hp,λ p hp=>h.frozen hp,λ B _ h2=>h.mono h2⟩
theorem TMv.of_ticks {bt a:Nat} {l:List Nat} {w w':World} (ht:zbc w bt l a) (h:zmp bt w w'):TMv bt w w':=by
 refine⟨h.size,λ g h1 h2=> ?_,λ p x hp hx=>h.cell ht.c1 hp hx,λ p hp=>h.frozen hp,λ B h1 h2=>h.bw h1 h2⟩;rcases h with⟨k,rfl⟩ | ⟨k,k',a',rfl⟩
 ·exact(zna (B:=w.heap.size) w k).block g h2
 ·have h3:=(zna (B:=w.heap.size) w k);rw[(zna (B:=((w.drewN k).setCell ⟨bt,1,none⟩ (.int .i64 a')).heap.size) _ k').block g (by simp[World.setCell];have:=h3.size;omega)];rw[Below.heap_setCell _ _ _ _ (by simp;omega)];exact h3.block g h2
theorem TMv.moves {bt B:Nat} {w w':World} (h:TMv bt w w') (hB:bt<B):zkb B w w':=
 ⟨h.size,λ g h1 h2=>h.row g zO h2,λ p z hp=>h.cell p _ hp zZ⟩
theorem zia.tmv {bt:Nat} {w w':World} {v:Value} {q:Rat} (h:zia w v q) (hm:TMv bt w w'):zia w' v q:=h.moves (hm.moves (zSS bt))
theorem C3.tmv {bt b:Nat} {w w':World} {v0 v1 v2:Value} (h:C3 w b v0 v1 v2) (hm:TMv bt w w') (n0:∀z,v0≠ .int .i64 z) (n1:∀z,v1≠ .int .i64 z) (n2:∀z,v2≠ .int .i64 z):C3 w' b v0 v1 v2:=
 ⟨zLM h.lt hm.size,hm.cell _ _ h.c0 n0,hm.cell _ _ h.c1 n1,hm.cell _ _ h.c2 n2,by rw[hm.frozen _ h.lt];exact h.f0,by rw[hm.frozen _ h.lt];exact h.f1,by rw[hm.frozen _ h.lt];exact h.f2⟩
theorem C4.tmv {bt b:Nat} {w w':World} {v0 v1 v2 v3:Value} (h:C4 w b v0 v1 v2 v3) (hm:TMv bt w w') (n0:∀z,v0≠ .int .i64 z) (n1:∀z,v1≠ .int .i64 z) (n2:∀z,v2≠ .int .i64 z) (n3:∀z,v3≠ .int .i64 z):C4 w' b v0 v1 v2 v3:=
 ⟨zLM h.lt hm.size,hm.cell _ _ h.c0 n0,hm.cell _ _ h.c1 n1,hm.cell _ _ h.c2 n2,hm.cell _ _ h.c3 n3,by rw[hm.frozen _ h.lt];exact h.f0,by rw[hm.frozen _ h.lt];exact h.f1,by rw[hm.frozen _ h.lt];exact h.f2,by rw[hm.frozen _ h.lt];exact h.f3⟩
theorem zyh.tmv {bt a a' B:Nat} {l:List Nat} {w w':World} (h:zyh w bt l B a) (hm:TMv bt w w') (ht:zbc w' bt l a'):zyh w' bt l B a':=by
 refine⟨ht,λ v hv j hj=> ?_⟩
 obtain⟨v0,hv0⟩:∃v0,w.cell? ⟨bt,0,none⟩=some v0/\∀z,v0≠ .int .i64 z:=by
  obtain⟨v,hv,hc⟩:=h.1.ex;exact⟨v,hv,(zhd.sl hc).noInt⟩
 have h1:=hm.cell _ _ hv0.1 hv0.2;rw[hv]at h1;injection h1 with h1
 subst h1;exact h.2 _ hv0.1 j hj
theorem C4.set1 {w:World} {b:Nat} {v0 v1 v2 v3:Value} (h:C4 w b v0 v1 v2 v3) (u:Value):C4 (w.setCell ⟨b,1,none⟩ u) b v0 u v2 v3:=by
 obtain⟨lt,c0,c1,c2,c3,f0,f1,f2,f3⟩:=h;refine⟨by simpa [World.setCell]using lt,?_,World.cell?_setCell_same _ _ _ c1,?_,?_,?_,?_,?_,?_⟩
 ·rw[zCO _ _ _ _ (by simp)];exact c0
 ·rw[zCO _ _ _ _ (by simp)];exact c2
 ·rw[zCO _ _ _ _ (by simp)];exact c3
 ·rw[World.frozen?_setCell];exact f0
 ·rw[World.frozen?_setCell];exact f1
 ·rw[World.frozen?_setCell];exact f2
 ·rw[World.frozen?_setCell];exact f3
theorem C4.set3 {w:World} {b:Nat} {v0 v1 v2 v3:Value} (h:C4 w b v0 v1 v2 v3) (u:Value):C4 (w.setCell ⟨b,3,none⟩ u) b v0 v1 v2 u:=by
 obtain⟨lt,c0,c1,c2,c3,f0,f1,f2,f3⟩:=h;refine⟨by simpa [World.setCell]using lt,?_,?_,?_,World.cell?_setCell_same _ _ _ c3,?_,?_,?_,?_⟩
 ·rw[zCO _ _ _ _ (by simp)];exact c0
 ·rw[zCO _ _ _ _ (by simp)];exact c1
 ·rw[zCO _ _ _ _ (by simp)];exact c2
 ·rw[World.frozen?_setCell];exact f0
 ·rw[World.frozen?_setCell];exact f1
 ·rw[World.frozen?_setCell];exact f2
 ·rw[World.frozen?_setCell];exact f3
structure LwT (w:World) (bt:Nat) (l:List Nat) (B b5:Nat) (vs ve vr:Value) (rs:List Value) (S E:List Rat) (R:List (List Rat)):Prop where
 tape:∃a,zyh w bt l B a
 box:C4 w b5 (.string { data:=#[] }) vs vr ve
 st:zua w 38 B vs S
 ex:zua w 38 B ve E
 ra:zkc w 25 B 1 vr rs.length rs
 rl:rs.length=R.length
 rows:∀ (j:Nat) (h:j<rs.length) (h':j<R.length),zua w 38 B rs[j] R[j]/\(rs[j].ownBlock=none\/rs[j].ownBlock≠vs.ownBlock)/\(rs[j].ownBlock=none\/rs[j].ownBlock≠ve.ownBlock)
 se:vs.ownBlock=none\/vs.ownBlock≠ve.ownBlock
 sz:B<=w.heap.size
 bt5:bt<B/\b5<B/\b5≠bt
section
variable {w w':World} {bt:Nat} {l:List Nat} {B b5:Nat} {vs ve vr:Value} {rs:List Value} {S E:List Rat} {R:List (List Rat)}
theorem LwT.of (h:LwT w bt l B b5 vs ve vr rs S E R) (hm:zkb B w w') (ht:∃a,zyh w' bt l B a) (hb:C4 w' b5 (.string { data:=#[] }) vs vr ve):LwT w' bt l B b5 vs ve vr rs S E R:=
 ⟨ht,hb,h.st.moves hm (zLR _),h.ex.moves hm (zLR _),h.ra.moves hm (zLR _),h.rl,λ j h1 h2=>⟨(h.rows j h1 h2).1.moves hm (zLR _),(h.rows j h1 h2).2⟩,h.se,zLT h.sz hm.size,h.bt5⟩
theorem LwT.tmv (h:LwT w bt l B b5 vs ve vr rs S E R) {a':Nat} (hm:TMv bt w w') (ht:zbc w' bt l a'):LwT w' bt l B b5 vs ve vr rs S E R:=by
 obtain⟨a,h0⟩:=h.tape;exact h.of (hm.moves h.bt5.1) ⟨a',h0.tmv hm ht⟩ (h.box.tmv hm zZ h.st.sl.noInt h.ra.sl.noInt h.ex.sl.noInt)
theorem LwT.bw (h:LwT w bt l B b5 vs ve vr rs S E R) (hb:Below w.heap.size w w'):LwT w' bt l B b5 vs ve vr rs S E R:=by
 obtain⟨a,ht⟩:=h.tape;exact h.of (zkb.bw hb) ⟨a,ht.bw hb⟩ (h.box.bS hb)
theorem zgn {u v v':Value} {k:Nat} (h:u.ownBlock=none\/u.ownBlock≠v.ownBlock) (hb:∀g,u.ownBlock=some g->g<k) {k':Nat} (hk:k<=k') (hv:v'.ownBlock=v.ownBlock\/v'.ownBlock=some k'):u.ownBlock=none\/u.ownBlock≠v'.ownBlock:=by
 rcases h with h | h
 ·exact Or.inl h
 ·cases hu:u.ownBlock with
  | none=>exact Or.inl rfl
  | some g=>
    refine Or.inr ?_;rcases hv with e | e
    ·rw[e,<-hu];exact h
    ·rw[e];intro e2;(injection e2 with e2);have:=hb g hu;omega
theorem LwT.startG (h:LwT w bt l B b5 vs ve vr rs S E R) {q:Rat} {v':Value} {k:Nat} (hv:zua w' 38 B v' (S++ [q])) (hg:w.grownBy w' vs.ownBlock) (hn:zrb w vs) (hvb:v'.ownBlock=vs.ownBlock\/v'.ownBlock=some k) (hk:w.heap.size<=k):
 LwT (w'.setCell ⟨b5,1,none⟩ v') bt l B b5 v' ve vr rs (S++ [q]) E R/\Below B w w':=by
 obtain⟨⟨a,ht⟩,box,st,ex,ra,rl,rows,se,sz,b1,b2,b3⟩:=h;have hb:=zqd (B:=B) hg sz st.block;have box':=box.bw hb b2;have hm:zkb B w' (w'.setCell ⟨b5,1,none⟩ v'):=zkb.set b2 box'.c1 st.sl.noLimb _;obtain⟨xs,s1,s2⟩:=id st;have hes:ve.ownBlock=none\/ve.ownBlock≠v'.ownBlock:=zgn (zqh se) (λ g hg=>(ex.block g hg).2) hk hvb;refine⟨⟨⟨a,(ht.low hb b1).set (by exact b3) box'.c1 st.sl.noByte _⟩,box'.set1 _,hv.moves hm (zLR _),(ex.grown hg hn (zqh se)).moves hm (zLR _),(ra.grown hg (ra.kinds s1 zD)).moves hm (zLR _),rl,λ j h1 h2=> ?_,zqh hes,zLT sz (zLT hb.size hm.size),b1,b2,b3⟩,hb⟩;obtain⟨k1,k2,k3⟩:=rows j h1 h2;exact⟨(k1.grown hg hn k2).moves hm (zLR _),zgn k2 (λ g hg=>(k1.block g hg).2) hk hvb,k3⟩
theorem LwT.exitG (h:LwT w bt l B b5 vs ve vr rs S E R) {q:Rat} {v':Value} {k:Nat} (hv:zua w' 38 B v' (E++ [q])) (hg:w.grownBy w' ve.ownBlock) (hn:zrb w ve) (hvb:v'.ownBlock=ve.ownBlock\/v'.ownBlock=some k) (hk:w.heap.size<=k):
 LwT (w'.setCell ⟨b5,3,none⟩ v') bt l B b5 vs v' vr rs S (E++ [q]) R/\Below B w w':=by
 obtain⟨⟨a,ht⟩,box,st,ex,ra,rl,rows,se,sz,b1,b2,b3⟩:=h;have hb:=zqd (B:=B) hg sz ex.block;have box':=box.bw hb b2;have hm:zkb B w' (w'.setCell ⟨b5,3,none⟩ v'):=zkb.set b2 box'.c3 ex.sl.noLimb _;obtain⟨xs,s1,s2⟩:=id ex;refine⟨⟨⟨a,(ht.low hb b1).set (by exact b3) box'.c3 ex.sl.noByte _⟩,box'.set3 _,(st.grown hg hn se).moves hm (zLR _),hv.moves hm (zLR _),(ra.grown hg (ra.kinds s1 zD)).moves hm (zLR _),rl,λ j h1 h2=> ?_,zgn se (λ g hg=>(st.block g hg).2) hk hvb,zLT sz (zLT hb.size hm.size),b1,b2,b3⟩,hb⟩;obtain⟨k1,k2,k3⟩:=rows j h1 h2;exact⟨(k1.grown hg hn k3).moves hm (zLR _),k2,zgn k3 (λ g hg=>(k1.block g hg).2) hk hvb⟩
theorem LwT.ratesG (h:LwT w bt l B b5 vs ve vr rs S E R) {q:List Rat} {r v':Value} (hr:zua w 38 B r q) (hrs:r.ownBlock=none\/r.ownBlock≠vs.ownBlock) (hre:r.ownBlock=none\/r.ownBlock≠ve.ownBlock) (hv:zkc w' 25 B 1 v' (rs++ [r]).length (rs++ [r])) (hg:w.grownBy w' vr.ownBlock) (hn:zrb w vr):
 LwT (w'.setCell ⟨b5,2,none⟩ v') bt l B b5 vs ve v' (rs++ [r]) S E (R++ [q])/\Below B w w':=by
 obtain⟨⟨a,ht⟩,box,st,ex,ra,rl,rows,se,sz,b1,b2,b3⟩:=h;have hb:=zqd (B:=B) hg sz ra.block;have box':=box.bw hb b2;have hm:zkb B w' (w'.setCell ⟨b5,2,none⟩ v'):=zkb.set b2 box'.c2 ra.sl.noLimb _
 have kF:∀ {v:Value} {p:List Rat},zua w 38 B v p->v.ownBlock=none\/v.ownBlock≠vr.ownBlock:=λ h=>by
  obtain⟨ys,y1,y2⟩:=id h;exact y1.kinds ra zD
 refine⟨⟨⟨a,(ht.low hb b1).set (by exact b3) box'.c2 ra.sl.noByte _⟩,box'.set2 _,(st.grown hg hn (kF st)).moves hm (zLR _),(ex.grown hg hn (kF ex)).moves hm (zLR _),hv.moves hm (zLR _),by simp[rl],λ j h1 h2=> ?_,se,zLT sz (zLT hb.size hm.size),b1,b2,b3⟩,hb⟩;rcases zOG j rs.length with hj | hj
 ·have hj2:j<R.length:=zO;rw[zAL hj,zAL hj2];obtain⟨k1,k2⟩:=rows j hj hj2;exact⟨(k1.grown hg hn (kF k1)).moves hm (zLR _),k2⟩
 ·obtain rfl:j=rs.length:=by simp at h1;omega
  have e1:(rs++ [r])[rs.length]'h1=r:=by simp
  have e2:(R++ [q])[rs.length]'h2=q:=by simp[rl]
  rw[e1,e2];exact⟨(hr.grown hg hn (kF hr)).moves hm (zLR _),hrs,hre⟩
end
theorem cell_lt {w:World} {p:Addr} {x:Value} (h:w.cell? p=some x):p.block<w.heap.size:=by
 unfold World.cell? at h;split at h
 ·rename_i cur e fz hh
  exact(Array.getElem?_eq_some_iff.1 hh).1
 ·cases h
theorem TMv.set {bt:Nat} {w0 w:World} (h:TMv bt w0 w) {p:Addr} (hp:w0.heap.size<=p.block) (u:Value):TMv bt w0 (w.setCell p u):=by
 refine⟨by simpa [World.setCell]using h.size,λ g h1 h2=> ?_,λ q x hq hx=> ?_,λ q hq=> ?_,λ B h1 h2=>(h.bw B h1 h2).setCell zO u⟩
 ·rw[Below.heap_setCell _ _ _ _ zO];exact h.row g h1 h2
 ·have hl:=cell_lt hq;rw[zCO _ _ _ _ (by intro e;rw[e]at hp;omega)];exact h.cell q x hq hx
 ·rw[World.frozen?_setCell];exact h.frozen q hq
theorem zbc.set {w:World} {b a:Nat} {l:List Nat} (h:zbc w b l a) {p:Addr} {x:Value} (hp:p.block≠b) (hc:w.cell? p=some x) (hx:∀z,x≠ .int .u8 z) (u:Value):zbc (w.setCell p u) b l a:=(h.b.set hp hc hx u).1
theorem zbc.set3 {w:World} {b a c:Nat} {l:List Nat} {t:Bool} {a1 a2:Option Addr} {l1 k1 l2 k2:Nat} (h:zbc w b l a) (hC:C3 w c (.bool t) (.slice a1 l1 k1) (.slice a2 l2 k2)) (hp:c≠b) (u0 u1 u2:Value):
 zbc (((w.setCell ⟨c,0,none⟩ u0).setCell ⟨c,1,none⟩ u1).setCell ⟨c,2,none⟩ u2) b l a:=by
 obtain⟨_,c0,c1,c2,_,_,_⟩:=hC;have h1:=h.set (p:=⟨c,0,none⟩) hp c0 zZ u0;have h2:=h1.set (p:=⟨c,1,none⟩) hp (by rw[zCO _ _ _ _ (by simp)];exact c1) zZ u1;exact h2.set (p:=⟨c,2,none⟩) hp (by rw[zCO _ _ _ _ (by simp),zCO _ _ _ _ (by simp)];exact c2) zZ u2
def tfQ (q:Rat):Prop:=∃x y:Nat,x<6/\y<8/\q=fq false (x+1) (y+1)
theorem t2make_zz (a b:Nat) (y z:Int) (w:World) (hy:y=(a:Int)) (hz:z=(b:Int)) (ha:a<4294967296) (hb:b<4294967296) (hb0:b≠0):
 Calls Tryz.prog 18 #[.int .i64 y, .int .i64 z] w (RF0 w (fq false a b)):=by subst hy;subst hz;exact zah a b w ha hb hb0
theorem zjl (b:Nat) (l:List Nat) (a:Nat) (z:Int) (n:Nat) (w:World) (hz:z=(n:Int)) (h:zbc w b l a) (hn:1<=n) (hn2:n<=65536):
 Calls Tryz.prog 107 #[.pointer (some ⟨b,0,none⟩), .int .i64 z] w (λ e w'=>∃x a':Nat,e= .returned (.int .i64 (x:Nat))/\x<n/\zbc w' b l a'/\TMv b w w'):=by
 subst hz;refine(next_any b l a n w h hn hn2).mono ?_;rintro e w' ⟨x,a',rfl,h1,h2,h3⟩;exact⟨x,a',rfl,h1,h2,TMv.of_ticks h h3⟩
set_option maxRecDepth 100000 in
set_option maxHeartbeats 1600000 in
theorem tfrac_any (bt a:Nat) (l:List Nat) (w:World) (hT:zbc w bt l a):
 Calls Tryz.prog 123 #[.pointer (some ⟨bt,0,none⟩)] w (λ e w'=>∃ (v:Value) (q:Rat) (a':Nat),e= .returned v/\zia w' v q/\tfQ q/\zbc w' bt l a'/\TMv bt w w'):=by
 have hba:=zca w (.cells #[.bool false, .slice none 0 0, .slice none 0 0] 38);have HT:=zH (C3.new w 38 (.bool false) (.slice none 0 0) (.slice none 0 0));have hT0:=hT.bw hba;have HM:=zH (TMv.of_below (bt:=bt) hba);have HLT:=zH hT.lt;clear hba hT;go_enter Tryz.func123,Tryz.ntmps123;go_upto_region 1 with fail;obtain⟨b2,hb2⟩:∃b,w.heap.size=b:=⟨_,rfl⟩;have HB2:=zH hb2;rw[hb2]at HT |-
 clear hb2;generalize w.alloc (.cells #[.bool false, .slice none 0 0, .slice none 0 0] 38)=W1 at *
 go_wp2_with (first
  |(go_at_call 107;(with_reducible refine(zjl bt l _ 6 6 _ rfl hT0 zD zD).mono ?_);rintro e3 w3 ⟨x,a3,rfl,hx,hT3,hm3⟩)
  |(go_at_call 107;(with_reducible refine(zjl bt l _ 8 8 _ rfl hT3 zD zD).mono ?_);rintro e4 w4 ⟨y,a4,rfl,hy,hT4,hm4⟩)
  |(go_at_call 18;(with_reducible refine(t2make_zz (x+1) (y+1) _ _ _ zO zO zO zO zO).mono ?_);rintro e5 w5 ⟨v5,rfl,hv5,hb5⟩;obtain⟨t5,a51,l51,k51,a52,l52,k52,rfl⟩:=hv5.iF;have hba:=zca w5 (.cells #[.bool t5, .slice a51 l51 k51, .slice a52 l52 k52] 38);have hbb:=zaa hb5 hba;have hT5:=hT4.bw hbb;have HM5:=zH (((HM.o.trans hm3).trans hm4).trans (TMv.of_below hbb));have HC5:=zH ((((HT.o.tmv hm3 zZ zZ zZ).tmv hm4 zZ zZ zZ)).bS hbb);have HV5:=zH (hv5.bw hba);obtain⟨-,d0,d1,d2,f0,f1,f2⟩:=HC5.o;clear hv5 hb5 hba hbb))
 refine zab rfl rfl Tryz.aggF Tryz.sizeF (HC5.o.set _ _ _) rfl ?_;have hne:b2≠bt:=by have h1:=HLT.o;have h2:=HB2.o;omega
 have hle:w.heap.size<=b2:=by have h2:=HB2.o;omega
 exact⟨_,_,a4,rfl,HV5.o.set3 HC5.o zZ zZ _ _ _,⟨x,y,hx,hy,rfl⟩,hT5.set3 HC5.o hne _ _ _,((HM5.o.set hle _).set hle _).set hle _⟩
section
variable {P:Program} {md:Region.Mode} {ops:Array Oper} {Q:Exit->Act->World->Prop} {S:World->Prop} {need:List Nat}
def wpN (P:Program) (md:Region.Mode) (ops:Array Oper) (Q:Exit->Act->World->Prop) (S:World->Prop) (need:List Nat):Nat->Array Bool->Act->World->Prop
 | 0,l,a,w=>Region.ready md ops l= []/\Q .normal a w
 | k+1,l,a,w=>(Region.ready md ops l= []->Q .normal a w)/\∀i∈Region.ready md ops l,wpOp P ops Q i (λ b v=>(need.contains i=false->S v)/\wpN P md ops Q S need k (l.setIfInBounds i true) b v) a w
theorem wpN.any :∀ (k:Nat) (l:Array Bool) (a:Act) (w:World),wpN P md ops Q S need k l a w->wpAny P md ops Q k l a w
 | 0,_,_,_,h=>h
 | k+1,_,_,_,h=>⟨h.1,λ i hi=>wpOp_mono (λ b v g=>wpN.any k _ b v g.2) (h.2 i hi)⟩
def waitT (md:Region.Mode) (ops:Array Oper) (i:Nat):Nat->Nat->Bool
 | 0,_=>false
 | k+1,j=>match ops[j]? with
   | none=>false
   | some o=>o.after.any λ e=>Region.binds md e&&(e.on==i || waitT md ops i k e.on)
def waitB (md:Region.Mode) (ops:Array Oper) (need:List Nat) (i:Nat):Bool:=need.all λ j=>waitT md ops i 14 j
def shutB (md:Region.Mode) (ops:Array Oper) (l:Array Bool):Bool:=
 (List.range ops.size).all λ j=> !l.getD j false || match ops[j]? with
  | none=>true
  | some o=>o.after.all λ e=> !Region.binds md e || l.getD e.on false
def Shut (md:Region.Mode) (ops:Array Oper) (l:Array Bool):Prop:=∀ (j:Nat) (o:Oper),ops[j]? =some o->l.getD j false=true->∀e∈o.after,Region.binds md e=true->l.getD e.on false=true
theorem zlf {l:Array Bool} (h:shutB md ops l=true):Shut md ops l:=by
 intro j o ho hl e he hb;have hj:j<ops.size:=(Array.getElem?_eq_some_iff.1 ho).1;have h1:=List.all_eq_true.1 h j (List.mem_range.2 hj);rw[ho,hl]at h1;simp only[Bool.not_true,Bool.false_or]at h1;have h2:=Array.all_eq_true_iff_forall_mem.1 h1 e he;rw[hb]at h2;simpa using h2
theorem Shut.set {l:Array Bool} (h:Shut md ops l) {i:Nat} (hi:i∈Region.ready md ops l):Shut md ops (l.setIfInBounds i true):=by
 intro j o ho hl e he hb;by_cases hij:i=j
 ·subst hij;obtain⟨_,p,hp,hall⟩:=mem_ready.1 hi;rw[ho]at hp;injection hp with hp
  subst hp;exact getD_set_true (hall e he hb)
 ·rw[getD_set_ne false hij]at hl;exact getD_set_true (h j o ho hl e he hb)
theorem zui {i:Nat} {l:Array Bool} (hs:Shut md ops l):∀ (k j:Nat) (o:Oper),waitT md ops i k j=true->ops[j]? =some o->(∀e∈o.after,Region.binds md e=true->l.getD e.on false=true)->l.getD i false=true
 | 0,_,_,h,_,_=>by cases h
 | k+1,j,o,h,ho,hall=>by
   rw[waitT,ho]at h;obtain⟨e,he,h2⟩:=Array.any_eq_true'.1 h;simp only[Bool.and_eq_true,Bool.or_eq_true,beq_iff_eq]at h2;obtain⟨hb,h3⟩:=h2;have hl:=hall e he hb;rcases h3 with h3 | h3
   ·rw[<-h3];exact hl
   ·cases hp:ops[e.on]? with
    | none=>
      cases k with
      | zero=>cases h3
      | succ k=>rw[waitT,hp]at h3;cases h3
    | some p=>exact zui hs k e.on p h3 hp (hs e.on p hp hl)
theorem zaj {i:Nat} {l:Array Bool} (h1:l.getD i false=true) (h0:l.getD i true=false):False:=by
 rcases zOG i l.size with h' | h'
 ·simp[h']at h0 h1;rw[h0]at h1;cases h1
 ·simp[Array.getElem?_eq_none h']at h1
theorem znj {i j:Nat} {o:Oper} {l:Array Bool} (hj:j∈Region.ready md ops l) (hi:i∈Region.ready md ops l) (ho:ops[j]? =some o):∀e∈o.after,Region.binds md e=true->e.on≠i:=by
 intro e he hb heq;obtain⟨_,o',ho',hall⟩:=mem_ready.1 hj;rw[ho]at ho';injection ho' with ho'
 subst ho';have h1:=hall e he hb;rw[heq]at h1;exact zaj h1 (mem_ready.1 hi).1
theorem wpN.first {i:Nat} {o:Oper} {v:Value} (hi:ops[i]? =some o) (hs:Region.noSelect ops=true) (hw:waitB md ops need i=true) (hQ:∀c a w,Q (.panic c) (a.put o.dst v) w->Q (.panic c) a w):
 ∀ (k:Nat) (l:Array Bool) (a:Act) (w:World),Shut md ops l->(∀j p,ops[j]? =some p->j≠i->l.getD j true=false->(∀e∈p.after,Region.binds md e=true->e.on≠i)->o.apart ops p=true)->
  i∈Region.ready md ops l->YieldsIf P ops S o v a->S w->wpN P md ops Q S need k (l.setIfInBounds i true) (a.put o.dst v) w->wpN P md ops Q S need (k+1) l a w
 | 0,l,a,w,_,_,hr,hy,hS,H=>by
   refine⟨(λ h=>by rw[h]at hr;cases hr),λ j hj=> ?_⟩;by_cases e:j=i
   ·subst e;exact hy.wpOp hi hS ⟨λ _=>hS,H⟩
   ·have h1:=ready_mono hj e;rw[H.1]at h1;cases h1
 | k+1,l,a,w,hsh,hfr,hr,hy,hS,H=>by
   refine⟨(λ h=>by rw[h]at hr;cases hr),λ j hj=> ?_⟩;by_cases e:j=i
   ·subst e;exact hy.wpOp hi hS ⟨λ _=>hS,H⟩
   ·obtain⟨hun,p,hp,_⟩:=mem_ready.1 hj;have hno:=znj hj hr hp
    have hnd:need.contains j=false:=by
     cases hc:need.contains j with
     | false=>rfl
     | true=>
       obtain⟨_,p',hp',hall⟩:=mem_ready.1 hj;exact(zaj (zui hsh 14 j p' (List.all_eq_true.1 hw j (by simpa using hc)) hp' hall) (mem_ready.1 hr).1).elim
    (have hsel:=fun(j:Nat) (o:Oper) cs b (h:ops[j]? =some o)=>Region.noSelect_spec hs j o cs b h);have h2:=wpOp_putIf hp (hfr j p hp e hun hno) (λ cs b=>hsel i o cs b hi) (λ cs b=>hsel j p cs b hp) hQ hy (H.2 j (ready_mono hj e));refine wpOp_mono (λ b u g=>⟨λ _=>g.2.1 hnd,wpN.first hi hs hw hQ k (l.setIfInBounds j true) b u (hsh.set hj) ?_ (ready_mono hr (Ne.symm e)) g.1 (g.2.1 hnd) ?_⟩) h2
    ·intro x q hq hxi hxl hxw;refine hfr x q hq hxi ?_ hxw;by_cases hjx:j=x
     ·subst hjx;exact hun
     ·rwa[getD_set_ne true hjx]at hxl
    ·rw[Array.setIfInBounds_comm _ _ e];exact g.2.2
theorem wpN.take (i:Nat) {fuel:Nat} {l:Array Bool} {a:Act} {w:World} (hs:Region.noSelect ops=true) (hw:waitB md ops need i=true) (hc:shutB md ops l=true) (hf:Region.free md ops l i=true) (hr:(Region.ready md ops l).contains i=true) (hS:S w) (hi:(ops[i]?).isSome=true)
 (h:∀o,ops[i]? =some o->∃v,(∀c a w,Q (.panic c) (a.put o.dst v) w->Q (.panic c) a w)/\YieldsIf P ops S o v a/\wpN P md ops Q S need fuel (l.setIfInBounds i true) (a.put o.dst v) w):wpN P md ops Q S need (fuel+1) l a w:=by
 obtain⟨o,ho⟩:=Option.isSome_iff_exists.1 hi;obtain⟨v,h1,h2,h3⟩:=h o ho;exact wpN.first ho hs hw h1 fuel l a w (zlf hc) (Region.free_spec ho hf) (by simpa using hr) h2 hS h3
theorem wpN.one (k:Nat) {fuel:Nat} {l:Array Bool} {a:Act} {w:World} (hr:Region.ready md ops l= [k]) (hi:(ops[k]?).isSome=true)
 (h:∀o,ops[k]? =some o->∀K:Act->World->Prop,zI (∀b v,(need.contains k=false->S v)->wpN P md ops Q S need fuel (l.setIfInBounds k true) b v->K b v)->if Region.wanted o (yielded ops a.tmps)=true then o.wp P a w K Q else K (a.put o.dst undef) w):wpN P md ops Q S need (fuel+1) l a w:=by
 obtain⟨o,ho⟩:=Option.isSome_iff_exists.1 hi;refine⟨(λ h0=>by rw[hr]at h0;cases h0),λ j hj=> ?_⟩;rw[hr]at hj;obtain rfl:j=k:=by simpa using hj
 have h1:=h o ho _ (zH λ b v h2 h3=>(⟨h2,h3⟩:(need.contains j=false->S v)/\_));unfold wpOp;simp only[ho];by_cases hw:Region.wanted o (yielded ops a.tmps)=true
 ·rw[zIP hw]at h1 |-
  exact Or.inl h1
 ·rw[zIN hw]at h1 |-
  exact h1
theorem wpN.done {l:Array Bool} {a:Act} {w:World} (hr:Region.ready md ops l= []) (h:Q .normal a w):∀fuel,wpN P md ops Q S need fuel l a w
 | 0=>⟨hr,h⟩
 | _+1=>⟨λ _=>h,by rw[hr];simp⟩
theorem wpN.start {id:Nat} {a:Act} {w:World} (need:List Nat) (S:World->Prop) (hm:P.follows .mixedOrders=true) (hS:S w.drew) (h:S w.drew->wpN P .any ops Q S need ops.size (Array.replicate ops.size false) a w.drew):(Code.region id ops true).wp P Q a w:=
 wp_region_any hm (wpN.any _ _ _ _ (h hS))
end
section
variable {P:Program} {md:Region.Mode} {ops:Array Oper} {Q:Exit->Act->World->Prop} {S:World->Prop} {need:List Nat} {fuel:Nat} {l l':Array Bool} {a a':Act} {w:World} {o:Oper} {v:Value}
theorem wpN.t (i:Nat) (h:wpN P md ops Q S need fuel l' a' w) (ho:ops[i]? =some o:=by(simp only[List.getElem?_toArray,List.getElem?_cons_succ,List.getElem?_cons_zero];rfl)) (hs:Region.noSelect ops=true:=by kernel_rfl) (hw:waitB md ops need i=true:=by kernel_rfl) (hc:shutB md ops l=true:=by kernel_rfl) (hf:Region.free md ops l i=true:=by kernel_rfl) (hr:(Region.ready md ops l).contains i=true:=by kernel_rfl) (hS:S w:=by assumption)
 (hQ:∀c a w,Q (.panic c) (a.put o.dst v) w->Q (.panic c) a w:=by exact λ _ _ _ h=>h) (hy:YieldsIf P ops S o v a:=by first | exact Or.inr ⟨by rfl,rfl⟩ | (refine Or.inl ⟨by rfl,?_⟩;intro w hSw;(try dsimp only at hSw);go_simp;try with_reducible rfl))
 (hl:l.setIfInBounds i true=l':=by((try simp only[List.setIfInBounds_toArray,List.set_cons_zero,List.set_cons_succ]);rfl)) (ha:a.put o.dst v=a':=by(simp only[Act.put,List.setIfInBounds_toArray,List.set_cons_zero,List.set_cons_succ];rfl)):wpN P md ops Q S need (fuel+1) l a w:=by
 subst hl ha;exact wpN.first ho hs hw hQ fuel l a w (zlf hc) (Region.free_spec ho hf) (by simpa using hr) hy hS h
theorem wpN.oo (k:Nat) (h:∀K:Act->World->Prop,zI (∀b v,(need.contains k=false->S v)->wpN P md ops Q S need fuel (l.setIfInBounds k true) b v->K b v)->if Region.wanted o (yielded ops a.tmps)=true then o.wp P a w K Q else K (a.put o.dst undef) w)
 (ho:ops[k]? =some o:=by(simp only[List.getElem?_toArray,List.getElem?_cons_succ,List.getElem?_cons_zero];rfl)) (hr:Region.ready md ops l= [k]:=by kernel_rfl):wpN P md ops Q S need (fuel+1) l a w:=
 wpN.one k hr (by rw[ho];rfl) λ o' h'=>by rw[ho]at h';injection h' with h';subst h';exact h
end
end Go.Proofs.YtlpdkbmmbdfoiaaGreat
