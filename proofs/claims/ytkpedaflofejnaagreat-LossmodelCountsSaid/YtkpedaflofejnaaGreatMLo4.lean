/- Lemmas. -/
import Derived.Test.YtkpedaflofejnaaGreatMFr3a
set_option linter.unusedVariables false
set_option linter.unusedSimpArgs false
namespace Go.Proofs.YtkpedaflofejnaaGreat
open Go.RowKit
theorem fits_zero :fits 0:=zD
theorem zer :fits 1:=zD
def RF0 (w0:World) (q:Rat) (e:Ending) (w:World):Prop:=∃v,e= .returned (.tuple #[v, .int .i64 0])/\zna w v q/\Below w0.heap.size w0 w
def RF1 (w0:World) (q:Rat) (e:Ending) (w:World):Prop:=∃v,e= .returned v/\zna w v q/\Below w0.heap.size w0 w
theorem zcm.ok {w0:World} {q q':Rat} {e:Ending} {w:World} (h:zcm w0 q e w) (hq:q=q') (hf:fits q'):RF0 w0 q' e w:=by
 subst hq;obtain⟨v,er,rfl,h1,h2,_⟩:=h;obtain⟨rfl,h3⟩:=h2 hf;exact⟨v,rfl,h3,h1⟩
theorem make_01 (w:World):Calls Tryz.prog 100 #[.int .i64 0, .int .i64 1] w (RF0 w 0):=
 (zjk 0 1 w zD zD zD zD zD).mono λ _ _ h=>h.ok zD fits_zero
theorem make_11 (w:World):Calls Tryz.prog 100 #[.int .i64 1, .int .i64 1] w (RF0 w 1):=
 (zjk 1 1 w zD zD zD zD zD).mono λ _ _ h=>h.ok zD zer
theorem ztl {fn:Func} {p:Tmp} {ty:TypeId} (h:fn.results=#[.cell p ty]) (tmps:Array Value) (P:Program) (w:World):
 (results fn tmps).run P w=((asAddr (tmps.getD p undef)).run P w).andThen λ a w=>(loadVar ty a).run P w:=by
 simp[results,h]
theorem zab {P:Program} {fn:Func} {R:Ending->World->Prop} {a:Act} {w:World} {p:Tmp} {ty:TypeId} {b:Nat} {v0 v1 v2:Value} (h:fn.results=#[.cell p ty])
 (hp:a.tmps.getD p undef= .pointer (some ⟨b,0,none⟩)) (hagg:∀w,(isAgg ty).run P w= .ok true w) (hs:∀w,(sizeOf ty).run P w= .ok 3 w) (hc:C3 w b v0 v1 v2) (hd:a.defers= [])
 (hR:R (.returned (.agg #[v0,v1,v2])) w):bodyPost P fn R .ret a w:=by
 refine bodyPost_ret ?_ hd hR;rw[ztl h,hp];simp only[asAddr,Sem.run_pure,Result.andThen_ok,load_c3 hagg hs hc]
theorem Tryz.infoF :(Tryz.prog.info? 53).map (λ i=>(i.zero,i.size,i.bytes))=some (some (.agg #[.bool false, .slice none 0 0, .slice none 0 0]),3,56):=by kernel_rfl
theorem zsb {w w1 w2:World} {B:Nat} (h:Below B w w1) (h':Below w1.heap.size w1 w2) (hB:B<=w1.heap.size:=by exact h.size):Below B w w2:=h.trans (h'.mono hB)
theorem Tryz.infoRow :(Tryz.prog.info? 23).map (λ i=>(i.zero,i.size,i.bytes))=some (some (.slice none 0 0),1,24):=by kernel_rfl
theorem Tryz.infoBool :(Tryz.prog.info? 4).map (λ i=>(i.zero,i.size,i.bytes))=some (some (.bool false),1,1):=by kernel_rfl
theorem Tryz.infoInt :(Tryz.prog.info? 3).map (λ i=>(i.zero,i.size,i.bytes))=some (some (.int .i64 0),1,8):=by kernel_rfl
theorem C3.set0 {w:World} {b:Nat} {v0 v1 v2:Value} (h:C3 w b v0 v1 v2) (u:Value):C3 (w.setCell ⟨b,0,none⟩ u) b u v1 v2:=by
 obtain⟨lt,c0,c1,c2,f0,f1,f2⟩:=h;refine⟨by simpa [World.setCell]using lt,?_,?_,?_,?_,?_,?_⟩<;>go_simp
theorem C3.set1 {w:World} {b:Nat} {v0 v1 v2:Value} (h:C3 w b v0 v1 v2) (u:Value):C3 (w.setCell ⟨b,1,none⟩ u) b v0 u v2:=by
 obtain⟨lt,c0,c1,c2,f0,f1,f2⟩:=h;refine⟨by simpa [World.setCell]using lt,?_,?_,?_,?_,?_,?_⟩<;>go_simp
theorem sizeD (w:World):w.drew.heap.size=w.heap.size:=rfl
theorem sizeA (w:World) (o:Obj):(w.alloc o).heap.size=w.heap.size+1:=by simp
theorem C3.newB {b:Nat} (w:World) (t:TypeId) (v0 v1 v2:Value) (hb:w.heap.size=b):C3 (w.alloc (.cells #[v0,v1,v2] t)) b v0 v1 v2:=by subst hb;exact C3.new w t v0 v1 v2
end Go.Proofs.YtkpedaflofejnaaGreat
namespace Go.Proofs.YtkpedaflofejnaaGreat
def sg :Nat->(Nat->Rat)->Rat
 | 0,_=>0
 | n+1,f=>sg n f+f n
def over (D B:Nat) (q:Rat):Prop:=∃z:Int,q=mkRat z D/\z.natAbs<=B
theorem over.zero (D B:Nat):over D B 0:=⟨0,by simp,by simp⟩
theorem over.mono {D A B:Nat} {q:Rat} (h:over D A q) (hB:A<=B):over D B q:=by
 obtain⟨z,h1,h2⟩:=h;exact⟨z,h1,zO⟩
theorem over.add {D A B:Nat} {p q:Rat} (hD:D≠0) (hp:over D A p) (hq:over D B q):over D (A+B) (p+q):=by
 obtain⟨y,rfl,h1⟩:=hp;obtain⟨z,rfl,h2⟩:=hq;refine⟨y+z,?_,?_⟩
 ·rw[Rat.mkRat_add_mkRat _ _ hD hD,<-Int.add_mul];exact Rat.mkRat_mul_right hD
 ·have:=Int.natAbs_add_le y z;omega
theorem over.mul {D E A B:Nat} {p q:Rat} (hp:over D A p) (hq:over E B q):over (D*E) (A*B) (p*q):=by
 obtain⟨y,rfl,h1⟩:=hp;obtain⟨z,rfl,h2⟩:=hq;exact⟨y*z,Rat.mkRat_mul_mkRat _ _ _ _,by rw[Int.natAbs_mul];exact zMM h1 h2⟩
theorem over.scale {D A m:Nat} {p:Rat} (hm:m≠0) (hp:over D A p):over (D*m) (A*m) p:=by
 obtain⟨y,rfl,h1⟩:=hp;exact⟨y*m,(Rat.mkRat_mul_right hm).symm,by rw[Int.natAbs_mul,Int.natAbs_natCast];exact zMR _ h1⟩
theorem over.fq {D B:Nat} {q:Rat} (h:over D B q):∃ (s:Bool) (n:Nat),q=fq s n D/\n<=B:=by
 obtain⟨z,rfl,h2⟩:=h;refine⟨decide (z<0),z.natAbs,?_,h2⟩;unfold Go.Proofs.YtkpedaflofejnaaGreat.fq sgn;by_cases hz:z<0
 ·rw[zDT hz,zIP rfl];congr 1;omega
 ·rw[zDF hz,zIN zD];congr 1;omega
theorem over.fits {D B:Nat} {q:Rat} (hD:D≠0) (h:over D B q) (ha:B<2^4096) (hb:D<2^4096):fits q:=by
 obtain⟨s,n,rfl,h1⟩:=h.fq;refine⟨?_,?_⟩
 ·rw[zzh _ _ _ hD];exact zjm (zLL (Nat.div_le_self _ _) (zLL h1 ha))
 ·rw[fq_den _ _ _ hD];exact zjm (zLL (Nat.div_le_self _ _) hb)
abbrev Mx :=Nat->Nat->Rat
def act (below:Bool) (A:Mx) (r k i:Nat):Prop:=i≠r/\¬ (below=true/\i<r)/\A i k≠0
instance (below :Bool) (A:Mx) (r k i:Nat):Decidable (act below A r k i):=inferInstanceAs (Decidable (_/\_/\_))
def grow :Nat->Nat×Nat×Nat×Nat->Nat×Nat×Nat×Nat
 | 0,x=>x
 | k+1,x=>let (b,d,e,f):=grow k x;(2*(b*b),d*b,e*b,f*d)
def slim4 (x:Nat×Nat×Nat×Nat):Prop:=x.1<2^4096/\x.2.1<2^4096/\x.2.2.1<2^4096/\x.2.2.2<2^4096
instance (x :Nat×Nat×Nat×Nat):Decidable (slim4 x):=inferInstanceAs (Decidable (_/\_/\_/\_))
end Go.Proofs.YtkpedaflofejnaaGreat
namespace Go.Proofs.YtkpedaflofejnaaGreat
open Go.RowKit
section
variable {w:World} {e:TypeId} {B size n:Nat} {v:Value} {xs:List Value}
theorem zbc.set1 (h:zbc w e B size v n xs) (j:Nat) (hj:j<xs.length) (u:Value) (hu:∀z,u≠ .int .u32 z):
 zbc (w.setCell (ptr v j) u) e B size v n (xs.set j u)/\w.grownBy (w.setCell (ptr v j) u) v.ownBlock:=by
 have hl:=h.own.1;rcases h.own.2 with⟨rfl,h0⟩ | ⟨g,cap,cur,rfl,hb,hg,hn,hm,hs,ht⟩
 ·rw[h0]at hl;omega
 ·have hp:ptr (.slice (some ⟨g,0,none⟩) n cap) j=⟨g,j,none⟩:=by simp only[ptr,base,Addr.add_lit,Nat.zero_add]
  have hst:=World.ownsRow.stored h.own j u;rw[hp];refine⟨⟨hst.1,?_⟩,hst.2⟩;intro g' hg' cur' e' fz hc c hcc;simp only[Value.ownBlock,Option.some.injEq]at hg';subst hg';rw[heap_setCell_same w g j cur e u hg]at hc;injection hc with hc
  injection hc with hc _ _
  subst hc;rw[Array.toList_setIfInBounds]at hcc;rcases List.mem_or_eq_of_mem_set hcc with h' | h'
  ·exact h.nl g rfl cur e _ hg c h'
  ·subst h';exact hu
theorem zbc.frozen (h:zbc w e B size v n xs) (j:Nat) (hj:j<xs.length):w.frozen? (ptr v j)=false:=by
 have hl:=h.own.1;obtain⟨ho,_⟩:=h;rcases ho.2 with⟨rfl,h0⟩ | ⟨g,cap,cur,rfl,hb,hg,hn,hm,hs,ht⟩
 ·rw[h0]at hl;omega
 ·have:=World.ownsRow.frozenAt ho j;simpa only[ptr,base,Addr.add_lit,Nat.zero_add]using this
theorem zbc.blk (h:zbc w e B size v n xs) (hx:0<xs.length):∃g,v.ownBlock=some g/\(base v).block=g/\B<=g/\g<w.heap.size/\∀j,ptr v j=⟨g,j,none⟩:=by
 have hl:=h.own.1;have hbl:=h.block;rcases h.own.2 with⟨rfl,h0⟩ | ⟨g,cap,cur,rfl,hb,hg,hn,hm,hs,ht⟩
 ·rw[h0]at hl;omega
 ·exact⟨g,rfl,rfl,(hbl g rfl).1,(hbl g rfl).2,λ j=>by simp only[ptr,base,Addr.add_lit,Nat.zero_add]⟩
end
theorem zeo {a b c:World} {r:Option Nat} (h:a.grownBy b r) (k:b.grownBy c r):a.grownBy c r:=zgd h k
section
variable {w:World} {e:TypeId} {B:Nat} {v:Value} {q:List Rat}
theorem zra.frozen (h:zra w e B v q) (k:Nat) (hk:k<q.length*3):w.frozen? (ptr v k)=false:=by
 obtain⟨xs,h1,_⟩:=h;exact h1.frozen k (by rw[h1.clen];exact hk)
theorem zra.blk (h:zra w e B v q) (hq:0<q.length):∃g,v.ownBlock=some g/\(base v).block=g/\B<=g/\g<w.heap.size/\∀j,ptr v j=⟨g,j,none⟩:=by
 obtain⟨xs,h1,_⟩:=h;exact h1.blk (by rw[h1.clen];omega)
theorem zra.inj (h:zra w e B v q) (hq:0<q.length) {i j:Nat} (hij:i≠j):ptr v i≠ptr v j:=by
 obtain⟨g,_,_,_,_,hp⟩:=h.blk hq;rw[hp,hp];intro h;injection h with h1 h2;exact hij h2
theorem zra.noLimb (h:zra w e B v q):zdc w v:=by obtain⟨xs,h1,_⟩:=h;exact h1.nl
theorem zra.put (h:zra w e B v q) {i:Nat} (hi:i<q.length) {x y z:Value} {r:Rat} (hf:zna w (.agg #[x,y,z]) r):
 zra (((w.setCell (ptr v (i*3)) x).setCell (ptr v (i*3+1)) y).setCell (ptr v (i*3+2)) z) e B v (q.set i r)/\
  w.grownBy (((w.setCell (ptr v (i*3)) x).setCell (ptr v (i*3+1)) y).setCell (ptr v (i*3+2)) z) v.ownBlock:=by
 obtain⟨xs,h1,h2⟩:=h;obtain⟨a,b,ha,h4,h5⟩:=id hf;injection ha with ha
 injection ha with ha
 simp only[List.cons.injEq,and_true]at ha;obtain⟨rfl,rfl,rfl⟩:=ha;have hl:=h1.clen;have ny:∀k,y≠ .int .u32 k:=λ k=>by obtain⟨a1,n1,c1,e1,_⟩:=h4.v.sl;subst e1;simp
 have nz:∀k,z≠ .int .u32 k:=λ k=>by obtain⟨a1,n1,c1,e1,_⟩:=h5.v.sl;subst e1;simp
 obtain⟨s1,g1⟩:=h1.set1 (i*3) zO (.bool (decide (r<0))) (λ k=>by simp);obtain⟨s2,g2⟩:=s1.set1 (i*3+1) (by rw[zGS];omega) y ny;obtain⟨s3,g3⟩:=s2.set1 (i*3+2) (by rw[zGS,zGS];omega) z nz;have gg:=zeo (zeo g1 g2) g3;refine⟨⟨_,by rw[zGS];exact s3,λ j hj=> ?_⟩,gg⟩;rw[zGS]at hj;by_cases hij:i=j
 ·subst hij;refine⟨y,z,?_,?_,?_,?_,?_⟩
  ·rw[zSN zO,zSN zO,List.getElem?_set_self zO,zSF]
  ·rw[zSN zO,List.getElem?_set_self (by rw[zGS];omega)]
  ·rw[List.getElem?_set_self (by rw[zGS,zGS];omega)]
  ·rw[zSF];exact h4.grown gg h1.nl
  ·rw[zSF];exact h5.grown gg h1.nl
 ·obtain⟨a,b,e1,e2,e3,e4,e5⟩:=h2 j hj;rw[zTN hij];refine⟨a,b,?_,?_,?_,e4.grown gg h1.nl,e5.grown gg h1.nl⟩
  ·rw[zSN zO,zSN zO,zSN zO];exact e1
  ·rw[zSN zO,zSN zO,zSN zO];exact e2
  ·rw[zSN zO,zSN zO,zSN zO];exact e3
end
def zwc (w:World) (T:Nat) (cs:Array Value):Prop:=∃ty,w.heap[T]? =some (.cells cs ty (0,0))
section
variable {w w':World} {T:Nat} {cs:Array Value}
theorem zwc.new (w:World) (cs:Array Value) (ty:TypeId):zwc (w.alloc (.cells cs ty)) w.heap.size cs:=⟨ty,heap_alloc_new w _⟩
theorem zwc.lt (h:zwc w T cs):T<w.heap.size:=by obtain⟨ty,h⟩:=h;exact(Array.getElem?_eq_some_iff.1 h).1
theorem zwc.cell (h:zwc w T cs) (j:Nat) {u:Value} (hu:cs[j]? =some u):w.cell? ⟨T,j,none⟩=some u:=by
 obtain⟨ty,h⟩:=h;simp[World.cell?,h,hu]
theorem zwc.bw (h:zwc w T cs) (hb:Below w.heap.size w w'):zwc w' T cs:=by
 have hlt:=h.lt;obtain⟨ty,h⟩:=h;exact⟨ty,by rw[hb.block T hlt];exact h⟩
end
def zch (m:Nat) (f:Nat->Rat):List Rat:=(List.range m).map f
theorem zwa (m:Nat) (f:Nat->Rat):(zch m f).length=m:=by simp[zch]
theorem zak (m:Nat) (f:Nat->Rat) (j:Nat) (h:j<(zch m f).length):(zch m f)[j]=f j:=by simp[zch]
theorem zeg {m:Nat} {f g:Nat->Rat} (h:∀j,j<m->f j=g j):zch m f=zch m g:=
 List.map_congr_left λ j hj=>h j (List.mem_range.1 hj)
section
variable {w w':World} {T n m wd rk:Nat} {vR:Value} {rs:List Value} {A:Mx} {d:Rat}
end
end Go.Proofs.YtkpedaflofejnaaGreat
namespace Go.Proofs.YtkpedaflofejnaaGreat
open Go.RowKit Go.Maps
structure zse (S:List Nat) (B:Nat) (w w':World):Prop where
 os:w'.os=w.os
 tape:w'.tape=w.tape
 output:w'.output=w.output
 size:w.heap.size<=w'.heap.size
 block:∀k,k<B->k∉S->w'.heap[k]? =w.heap[k]?
section
variable {S S':List Nat} {B B':Nat} {w w' w'':World}
theorem zse.refl (S:List Nat) (B:Nat) (w:World):zse S B w w:=⟨rfl,rfl,rfl,zLR _,λ _ _ _=>rfl⟩
theorem zse.trans (h:zse S B w w') (k:zse S B w' w''):zse S B w w'':=
 ⟨k.os.trans h.os,k.tape.trans h.tape,k.output.trans h.output,zLT h.size k.size,λ i hi hs=>(k.block i hi hs).trans (h.block i hi hs)⟩
theorem zse.mono (h:zse S B w w') (hS:∀k∈S,k∈S') (hB:B'<=B):zse S' B' w w':=⟨h.os,h.tape,h.output,h.size,λ k hk hs=>h.block k zO (λ e=>hs (hS k e))⟩
theorem zse.bw (h:Below w.heap.size w w') (hB:B<=w.heap.size):zse S B w w':=⟨h.os,h.tape,h.output,h.size,λ k hk _=>h.block k zO⟩
theorem zse.grown {row:Option Nat} (h:w.grownBy w' row) (hB:B<=w.heap.size) (hr:∀k,row=some k->B<=k\/k∈S):zse S B w w':=
 ⟨h.os,h.tape,h.output,h.size,λ k hk hs=>h.block k zO (λ e=>(hr k e.symm).elim (λ h1=>zO) (λ h1=>hs h1))⟩
theorem zse.setCell (w:World) {p:Addr} (hp:B<=p.block\/p.block∈S) (u:Value):zse S B w (w.setCell p u):=
 ⟨rfl,rfl,rfl,by simp[World.setCell],λ k hk hs=>Below.heap_setCell _ _ _ _ (λ e=>hp.elim (λ h1=>zO) (λ h1=>hs (e▸h1)))⟩
theorem zse.cell (h:zse S B w w') {p:Addr} (hp:p.block<B) (hs:p.block∉S):w'.cell? p=w.cell? p:=World.cell?_of_block (w:=w) (h.block p.block hp hs)
theorem zse.toBelow {B0:Nat} (h:zse S B w w') (hB:B0<=B) (hs:∀k∈S,B0<=k):Below B0 w w':=⟨h.os,h.tape,h.output,h.size,λ k hk=>h.block k zO (λ e=>by have:=hs k e;omega)⟩
end
def zod (x:Nat):Value:= .int .i64 (x:Nat)
theorem natI_nl (l:List Nat):∀c∈l.map zod,∀z,c≠ .int .u32 z:=λ c hc z e=>by
 obtain⟨x,_,rfl⟩:=List.mem_map.1 hc;unfold zod at e;cases e
def zjb (w:World) (v:Value) (l:List Nat):Prop:=zta w v (l.map zod)
theorem zjb.bw {w w':World} {v:Value} {l:List Nat} (h:zjb w v l) (hb:Below w.heap.size w w'):zjb w' v l:=zta.bw h hb
theorem zjb.sl {w:World} {v:Value} {l:List Nat} (h:zjb w v l):zlb v:=zta.sl h
theorem zjb.len {w:World} {v:Value} {l:List Nat} (h:zjb w v l):slen v=l.length:=by have:=zta.len h;simpa using this
theorem zjb.at' {w:World} {v:Value} {l:List Nat} (h:zjb w v l) (j:Nat) (hj:j<l.length):w.cell? (ptr v j)=some (.int .i64 (l[j]:Nat)):=by
 have:=zta.cell h j (by simpa using hj);rw[this,List.getElem_map];rfl
theorem zbc.natsV {w:World} {B:Nat} {v:Value} {l:List Nat} (h:zbc w 3 B 1 v l.length (l.map zod)):zjb w v l:=
 ⟨h.sl,by rw[h.len];simp,λ j hj=>h.cell j hj⟩
structure zsk (w:World) (B vb mb:Nat) (lv:Value) (rs:List Value) (L:List (List Nat)):Prop where
 hv:vb<B
 hm:mb<B
 vm:vb≠mb
 sz:B<=w.heap.size
 c0:w.cell? ⟨vb,0,none⟩=some lv
 c1:w.cell? ⟨vb,1,none⟩=some (.map (some mb))
 f0:w.frozen? ⟨vb,0,none⟩=false
 own:zbc w 31 B 1 lv rs.length rs
 rl:rs.length=L.length
 rows:∀ (j:Nat) (h:j<rs.length) (h':j<L.length),zbc w 3 B 1 rs[j] L[j].length (L[j].map zod)
 sm:∀v∈L,zhb v
 map:∃D:DataW Unit,w.ownsMap Tryz.prog 9 (plainElem Tryz.prog 3) mb L.length D/\Idx D L
section
variable {w w':World} {B vb mb:Nat} {lv:Value} {rs:List Value} {L:List (List Nat)}
theorem zsk.bw (h:zsk w B vb mb lv rs L) (hb:Below w.heap.size w w'):zsk w' B vb mb lv rs L:=by
 obtain⟨D,d1,d2⟩:=h.map;have h1:=h.hv;have h2:=h.hm;have h3:=h.sz;exact⟨h.hv,h.hm,h.vm,zLT h.sz hb.size,zca hb h.c0,zca hb h.c1,by rw[hb.frozen (show vb<w.heap.size by omega)];exact h.f0,h.own.bw hb,h.rl,λ j h1 h2=>(h.rows j h1 h2).bw hb,h.sm,D,d1.kept (zeb hb) (by simp),d2⟩
theorem zsk.over (h:zsk w B vb mb lv rs L) {p:Addr} (hp:p.block<B) (h1:p.block≠vb) (h2:p.block≠mb) (u:Value):zsk (w.setCell p u) B vb mb lv rs L:=by
 obtain⟨D,d1,d2⟩:=h.map;have key:∀k,B<=k->some k≠some p.block:=λ k hk e=>by injection e with e;omega
 have hg:w.grownBy (w.setCell p u) (some p.block):=⟨rfl,rfl,rfl,by simp[World.setCell],λ k hk hs=>Below.heap_setCell _ _ _ _ (λ e=>hs (by rw[e]))⟩
 have kr:∀ {v:Value} {e:TypeId} {n:Nat} {xs:List Value},zbc w e B 1 v n xs->zbc (w.setCell p u) e B 1 v n xs:=fun{v e n xs} ho=>ho.grown hg (by
  cases hv:v.ownBlock with
  | none=>exact Or.inl rfl
  | some k=>exact Or.inr (key k (ho.block k hv).1))
 have ne:∀i,(⟨vb,i,none⟩:Addr)≠p:=λ i e=>h1 (by rw[<-e])
 exact⟨h.hv,h.hm,h.vm,by have:=h.sz;simpa [World.setCell]using this,by rw[zCO _ _ _ _ (λ e=>ne _ e.symm)];exact h.c0,by rw[zCO _ _ _ _ (λ e=>ne _ e.symm)];exact h.c1,by rw[World.frozen?_setCell];exact h.f0,kr h.own,h.rl,λ j a b=>kr (h.rows j a b),h.sm,D,d1.kept hg (by simpa using λ e=>h2 e.symm),d2⟩
theorem zsk.sl (h:zsk w B vb mb lv rs L):zlb lv:=h.own.sl
theorem zsk.len (h:zsk w B vb mb lv rs L):slen lv=L.length:=by rw[h.own.len];exact h.rl
theorem zsk.row (h:zsk w B vb mb lv rs L) (j:Nat) (hj:j<L.length):∃r,w.cell? (ptr lv j)=some r/\zjb w r L[j]:=by
 have hj2:j<rs.length:=by rw[h.rl];exact hj
 exact⟨rs[j],h.own.cell j hj2,(h.rows j hj2 hj).natsV⟩
theorem zsk.nil {w:World} {B vb mb:Nat} (hv:vb<B) (hm:mb<B) (vm:vb≠mb) (sz:B<=w.heap.size) (c0:w.cell? ⟨vb,0,none⟩=some (.slice none 0 0)) (c1:w.cell? ⟨vb,1,none⟩=some (.map (some mb))) (f0:w.frozen? ⟨vb,0,none⟩=false)
 (hmap:w.ownsMap (H:=Unit) Tryz.prog 9 (plainElem Tryz.prog 3) mb 0 (.map [])):zsk w B vb mb (.slice none 0 0) [] []:=
 ⟨hv,hm,vm,sz,c0,c1,f0,zbc.nil _ _ _ _,rfl,λ j h=>by simp at h,λ v h=>by simp at h, .map [],hmap,Idx.nil⟩
structure VecM (w:World) (B vb mb:Nat) (lv:Value) (rs:List Value) (L:List (List Nat)) (u:List Nat):Prop where
 hv:vb<B
 hm:mb<B
 vm:vb≠mb
 sz:B<=w.heap.size
 c0:w.cell? ⟨vb,0,none⟩=some lv
 c1:w.cell? ⟨vb,1,none⟩=some (.map (some mb))
 f0:w.frozen? ⟨vb,0,none⟩=false
 own:zbc w 31 B 1 lv rs.length rs
 rl:rs.length=L.length
 rows:∀ (j:Nat) (h:j<rs.length) (h':j<L.length),zbc w 3 B 1 rs[j] L[j].length (L[j].map zod)
 sm:∀v∈L++ [u],zhb v
 map:∃D:DataW Unit,w.ownsMap Tryz.prog 9 (plainElem Tryz.prog 3) mb (L.length+1) D/\Idx D (L++ [u])
theorem zsk.put (h:zsk w B vb mb lv rs L) {u:List Nat} (hu:zhb u) (hn:u∉L) {D:DataW Unit} (hD:Idx D L) (hown:w'.ownsMap (H:=Unit) Tryz.prog 9 (plainElem Tryz.prog 3) mb (L.length+1) (D.put (.string (zij u)) (.lit (.int .i64 (L.length:Nat))))) (hg:w.grownBy w' (some mb)):
 VecM w' B vb mb lv rs L u:=by
 have key:∀k,B<=k->some k≠some mb:=λ k hk e=>by injection e with e;have:=h.hm;omega
 have kr:∀ {v:Value} {e:TypeId} {n:Nat} {xs:List Value},zbc w e B 1 v n xs->zbc w' e B 1 v n xs:=fun{v e n xs} ho=>ho.grown hg (by
  cases hv:v.ownBlock with
  | none=>exact Or.inl rfl
  | some k=>exact Or.inr (key k (ho.block k hv).1))
 have hb:w'.heap[vb]? =w.heap[vb]? :=hg.block vb (by have:=h.hv;have:=h.sz;omega) (λ e=>h.vm (by injection e))
 exact⟨h.hv,h.hm,h.vm,zLT h.sz hg.size,by rw[World.cell?_of_block (w:=w) (a:=⟨vb,0,none⟩) hb];exact h.c0,by rw[World.cell?_of_block (w:=w) (a:=⟨vb,1,none⟩) hb];exact h.c1,by rw[World.frozen?_of_block (w:=w) (a:=⟨vb,0,none⟩) hb];exact h.f0,kr h.own,h.rl,λ j a b=>kr (h.rows j a b),λ v hv=>by
  rcases List.mem_append.1 hv with h1 | h1
  ·exact h.sm v h1
  ·(obtain rfl:v=u:=by simpa using h1);exact hu,_,hown,hD.snoc hu hn⟩
theorem VecM.bw {u:List Nat} (h:VecM w B vb mb lv rs L u) (hb:Below w.heap.size w w'):VecM w' B vb mb lv rs L u:=by
 obtain⟨D,d1,d2⟩:=h.map;have h1:=h.hv;have h2:=h.hm;have h3:=h.sz;exact⟨h.hv,h.hm,h.vm,zLT h.sz hb.size,zca hb h.c0,zca hb h.c1,by rw[hb.frozen (show vb<w.heap.size by omega)];exact h.f0,h.own.bw hb,h.rl,λ j h1 h2=>(h.rows j h1 h2).bw hb,h.sm,D,d1.kept (zeb hb) (by simp),d2⟩
theorem VecM.push {u:List Nat} (h:VecM w B vb mb lv rs L u) {r lv':Value} (hr:zbc w 3 B 1 r u.length (u.map zod)) (hg:w.grownBy w' lv.ownBlock) (ho:zbc w' 31 B 1 lv' (rs++ [r]).length (rs++ [r])):
 zsk (w'.setCell ⟨vb,0,none⟩ lv') B vb mb lv' (rs++ [r]) (L++ [u]):=by
 obtain⟨D,d1,d2⟩:=h.map;have h1:=h.hv;have h2:=h.hm;have h3:=h.sz;have hlv:∀k,lv.ownBlock=some k->B<=k:=λ k hk=>(h.own.block k hk).1
 have hs:(w'.setCell ⟨vb,0,none⟩ lv').heap.size=w'.heap.size:=by simp[World.setCell]
 have hg2:w'.grownBy (w'.setCell ⟨vb,0,none⟩ lv') (some vb):=⟨rfl,rfl,rfl,by rw[hs];exact zLR _,λ k hk hs=>Below.heap_setCell _ _ _ _ (λ e=>hs (by rw[e]))⟩
 have kr:∀ {v:Value} {n:Nat} {xs:List Value},zbc w 3 B 1 v n xs->zbc (w'.setCell ⟨vb,0,none⟩ lv') 3 B 1 v n xs:=fun{v n xs} hv=>
  (hv.grown hg (by
   rcases hv.kinds h.own zD with e | e
   ·exact Or.inl e
   ·exact Or.inr e)).grown hg2 (by
  cases hk:v.ownBlock with
  | none=>exact Or.inl rfl
  | some k=>exact Or.inr (λ e=>by injection e with e;have:=(hv.block k hk).1;omega))
 have hbk:∀k,k<B->w'.heap[k]? =w.heap[k]? :=λ k hk=>hg.block k zO (λ e=>by have:=hlv k e.symm;omega)
 have hcell:w'.cell? ⟨vb,0,none⟩=some lv:=by rw[World.cell?_of_block (w:=w) (a:=⟨vb,0,none⟩) (hbk vb h1)];exact h.c0
 have hcell1:w'.cell? ⟨vb,1,none⟩=some (.map (some mb)):=by rw[World.cell?_of_block (w:=w) (a:=⟨vb,1,none⟩) (hbk vb h1)];exact h.c1
 refine⟨h1,h2,h.vm,by rw[hs];exact zLT h3 hg.size,World.cell?_setCell_same _ _ _ hcell,by rw[zCO _ _ _ _ (by simp)];exact hcell1,by rw[World.frozen?_setCell,World.frozen?_of_block (w:=w) (a:=⟨vb,0,none⟩) (hbk vb h1)];exact h.f0,ho.grown hg2 ?_,by simp[h.rl],λ j a b=> ?_,h.sm,D,?_,d2⟩
 ·cases hk:lv'.ownBlock with
  | none=>exact Or.inl rfl
  | some k=>exact Or.inr (λ e=>by injection e with e;have:=(ho.block k hk).1;omega)
 ·rcases zOG j rs.length with hj | hj
  ·(have hj2:j<L.length:=by rw[<-h.rl];exact hj);simp only[zAL hj,zAL hj2];exact kr (h.rows j hj hj2)
  ·(obtain rfl:j=rs.length:=by simp at a;omega);(have e1:(rs++ [r])[rs.length]'a=r:=by simp);(have e2:(L++ [u])[rs.length]'b=u:=by simp[h.rl]);rw[e1,e2];exact kr hr
 ·have e:L.length+1=(L++ [u]).length:=by simp
  rw[<-e];exact(d1.kept hg (by intro e;have:=hlv mb e.symm;omega)).kept hg2 (by intro e;injection e with e;exact h.vm e.symm)
end
def byteI (x:Nat):Value:= .int .u8 (x:Nat)
theorem Tryz.infoU8 :(Tryz.prog.info? 5).map (λ i=>(i.zero,i.size,i.bytes))=some (some (.int .u8 0),1,1):=by kernel_rfl
def keyE (l:List Nat) (k:Nat):List Value:=(l.take k).map byteI++List.replicate (l.length-k) (.int .u8 0)
theorem zhj (l:List Nat) (k:Nat) (hk:k<=l.length):(keyE l k).length=l.length:=by unfold keyE;simp;omega
theorem keyE_zero (l:List Nat):keyE l 0=List.replicate l.length (.int .u8 0):=by unfold keyE;simp
theorem keyE_set (l:List Nat) (k:Nat) (hk:k<l.length):(keyE l k).set k (byteI l[k])=keyE l (k+1):=by
 unfold keyE;have e:l.length-k=(l.length- (k+1))+1:=zO;rw[e,List.replicate_succ,List.set_append_right _ _ (by simp;omega)];have e2:k- ((l.take k).map byteI).length=0:=by simp;omega
 rw[e2,List.set_cons_zero,List.take_succ_eq_append_getElem hk,List.map_append,List.append_assoc];rfl
theorem keyE_all (l:List Nat):keyE l l.length=l.map byteI:=by unfold keyE;simp
theorem byteI_toNat {x:Nat} (h:x<256):(((UInt8.ofNat x).toNat:Nat):Int)=(x:Int):=by
 rw[UInt8.toNat_ofNat',Nat.mod_eq_of_lt h]
theorem zbo {P:Program} (t e:TypeId) (i:TypeInfo) (z:Value) (h1:P.underlying t=some (.slice e)) (h2:P.info? e=some i) (h3:i.zero=some z) (h4:i.size=1) (h5:i.bytes<=100) (hz:z.cells=#[z])
 (w:World) {ops:Array Oper} {rest:List Oper} {o:Oper} {a:Act} {Q:Exit->Act->World->Prop} (hg:o.guard=none) (l c:Operand) (hop:o.op=Op.makeSlice t l c)
 (B:Nat) (u:Int) (n:Nat) (hu:u=n) (hl:a.eval l= .int .i64 u) (hc:a.eval c= .int .i64 u) (b2:n<=1000) (b4:B<=w.heap.size)
 (hK:∀v w',zib w' e B v (List.replicate n z)->Below w.heap.size w w'->w.heap.size<=(base v).block->wpList P ops Q rest (a.put o.dst v) w'):
 wpList P ops Q (o::rest) a w:=by
 subst hu;exact zkg w hg l c t hop B e i z h1 h2 h3 h4 hz n hl hc (by have:=zMM h5 b2;omega) (by simp[maxLen];omega) b4 hK
set_option maxRecDepth 100000 in
set_option maxHeartbeats 1600000 in
theorem key_any (v:Value) (l:List Nat) (w:World) (hv:zjb w v l) (hl:zhb l) (h1:1<=l.length) (hn:l.length<=100):
 Calls Tryz.prog 72 #[v] w λ e w'=>e= .returned (.string ⟨(zij l).toArray⟩)/\Below w.heap.size w w':=by
 obtain⟨i0,hi,hz0,hz1,hz2⟩:=info_parts Tryz.infoU8;have hM:=zbo (P:=Tryz.prog) 43 5 i0 (.int .u8 0) Tryz.underlying43 hi hz0 hz1 (by rw[hz2];decide) rfl;have sv:=hv.sl;have HL:=zH hl;have HV:=zH hv;obtain⟨n,hnn⟩:∃n,l.length=n:=⟨_,rfl⟩;have HN:=zH hnn;have hlen:slen v=n:=by rw[hv.len,hnn]
 rw[hnn]at h1 hn;clear hl hv hi hz0 hz1 hz2 hnn;go_enter Tryz.func72,Tryz.ntmps72;go_wp2_with (refine hM _ rfl _ _ rfl w.heap.size _ n rfl rfl rfl zO (zLR _) ?_;intro v8 w8 hv8 hb8 hg8);have HB8:=zH hb8;have HO8:zI (zib w8 5 w.heap.size v8 (keyE l 0)):=zH (by rw[keyE_zero,HN.o];exact hv8);have s8:=hv8.sl;have l8:slen v8=n:=by rw[hv8.len];simp
 clear hv8 hb8 hg8 hM;go_loopw [11] (λ u11 wr=>∃ (k:Nat),k<=n/\u11= .int .i64 k/\zib wr 5 w.heap.size v8 (keyE l k)/\Below w.heap.size w wr) (λ u11 _=>n- (intOf u11).toNat);case atStart=>exact⟨0,zZL _,rfl,HO8.o,HB8.o⟩
 case round=>
  obtain⟨k,hk,rfl,ho,hbr⟩:=hrel;have HO:=zH ho;have HBR:=zH hbr;by_cases hkl:k<n
  ·(have hkl2:k<l.length:=by rw[HN.o];exact hkl);have c1:=(HV.o.bw hbr).at' k hkl2;have hx:=HL.o _ (zGM hkl2);have hset:=ho.set k (by rw[zhj _ _ (zLO hkl2)];exact hkl2) (byteI (l[k]'hkl2));rw[keyE_set l k hkl2]at hset;have HSET:=zH hset;have cz:=ho.cell k (by rw[zhj _ _ (zLO hkl2)];exact hkl2);have fz:=ho.frozen k (by rw[zhj _ _ (zLO hkl2)];exact hkl2);have i1:(0:Int)<=(k:Int):=zO;have i2:(k:Int)<(n:Nat):=zO;generalize hy:l[k]'hkl2=y at *
   clear ho hbr hset;go_wp2_with fail;go_roundw;(case rel=>exact⟨k+1,zO,by go_num,HSET.o.1,HBR.o.trans HSET.o.2⟩);case measure=>simp[intOf];omega
  ·obtain rfl:k=n:=zO;have hok:zib wr 5 w.heap.size v8 (l.map byteI):=by rw[<-keyE_all,HN.o];exact ho
   have hco:(convert 43 9 v8).run Tryz.prog wr= .ok (.string ⟨(zij l).toArray⟩) wr:=by
    have hc8:∀j (hj:j<(zij l).length),wr.cell? (ptr v8 j)=some (.int .u8 ((zij l)[j].toNat:Int)):=λ j hj=>by
     (have hj2:j<l.length:=by simpa [zij]using hj);have h3:=hok.cell j (by simpa using hj2);rw[h3,List.getElem_map];simp only[zij,List.getElem_map,byteI];rw[byteI_toNat (HL.o _ (zGM hj2))]
    rcases hok.2 with⟨_,h0⟩ | ⟨g,cap,cur,e8,_⟩
    ·rw[zMP,HN.o]at h0;omega
    ·have h4:=run_convert_bytes_back (P:=Tryz.prog) wr 43 9 5 ⟨g,0,none⟩ cap (zij l) Tryz.underlying43 Tryz.underlying5 Tryz.underlying9 (λ j hj=>by
      have h5:=hc8 j hj;rw[e8]at h5;exact h5)
     (have h6:(zij l).length=(l.map byteI).length:=by simp[zij]);rw[h6]at h4;rw[e8];exact h4
   go_wp2_with fail;go_ret;exact⟨rfl,HBR.o⟩
end Go.Proofs.YtkpedaflofejnaaGreat
