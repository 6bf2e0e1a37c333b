/- Lemmas. -/
import Derived.Test.YtlpdkbmmbdfoiaaGreatESeq
import Derived.Lib.OwnKind
set_option linter.unusedVariables false
set_option linter.unusedSimpArgs false
namespace Go.Proofs.YtlpdkbmmbdfoiaaGreat
open Go.RowKit
def zqb (w:World) (e:TypeId) (B:Nat) (v:Value) (n:Nat):Prop:=
 ∃g cs,v= .slice (some ⟨g,0,none⟩) n n/\w.ownsRow B e 3 v n cs/\∀c∈cs,∀z,c≠ .int .u32 z
section
variable {w:World} {e:TypeId} {B n:Nat} {v:Value}
theorem zqb.ptr (h:zqb w e B v n):∃g,∀k,Go.Proofs.YtlpdkbmmbdfoiaaGreat.ptr v k=⟨g,k,none⟩:=by
 obtain⟨g,cs,rfl,_⟩:=h
 exact⟨g,fun k=>by simp only[Go.Proofs.YtlpdkbmmbdfoiaaGreat.ptr,base,Addr.add_lit,Nat.zero_add]⟩
theorem zqb.inj (h:zqb w e B v n) {i j:Nat} (hij:i≠j):Go.Proofs.YtlpdkbmmbdfoiaaGreat.ptr v i≠Go.Proofs.YtlpdkbmmbdfoiaaGreat.ptr v j:=by
 obtain⟨g,hg⟩:=h.ptr
 rw[hg,hg]
 intro h;injection h with h1 h2;exact hij h2
theorem zqb.sl (h:zqb w e B v n):zgc v:=by
 obtain⟨g,cs,rfl,h1,_⟩:=h
 rcases h1.2 with⟨h',_⟩ | ⟨g',cap,cur,h',_,_,h2,h3,_⟩
 ·cases h'
 ·injection h' with h4 h5 h6
  subst h6
  exact⟨_,_,_,rfl,h2,h3,fun e=>by cases e⟩
theorem zqb.len (h:zqb w e B v n):slen v=n:=by obtain⟨g,cs,rfl,_⟩:=h;rfl
theorem zqb.cell (h:zqb w e B v n) (j:Nat) (hj:j<n*3):∃x,w.cell? (Go.Proofs.YtlpdkbmmbdfoiaaGreat.ptr v j)=some x/\∀z,x≠ .int .u32 z:=by
 obtain⟨g,cs,rfl,h1,h2⟩:=h
 have hl:cs.length=n*3:=h1.1
 have:=World.ownsRow.cellAt h1 j hj
 rw[zGE (by omega)]at this
 refine⟨cs[j]'(by omega),?_,h2 _ (zGM _)⟩
 simpa only[Go.Proofs.YtlpdkbmmbdfoiaaGreat.ptr,base,Addr.add_lit,Nat.zero_add]using this
theorem zqb.frozen (h:zqb w e B v n) (j:Nat):w.frozen? (Go.Proofs.YtlpdkbmmbdfoiaaGreat.ptr v j)=false:=by
 obtain⟨g,cs,rfl,h1,h2⟩:=h
 have:=World.ownsRow.frozenAt h1 j
 simpa only[Go.Proofs.YtlpdkbmmbdfoiaaGreat.ptr,base,Addr.add_lit,Nat.zero_add]using this
theorem zqb.block (h:zqb w e B v n):B<=(base v).block/\(base v).block<w.heap.size:=by
 obtain⟨g,cs,rfl,h1,h2⟩:=h
 rcases h1.2 with⟨h',_⟩ | ⟨g',cap,cur,h',hb,hg,_⟩
 ·cases h'
 ·injection h' with h4
  injection h4 with h4
  injection h4 with h4
  subst h4
  exact⟨hb,(Array.getElem?_eq_some_iff.1 hg).1⟩
theorem zqb.below {w':World} (h:zqb w e B v n) (hb:Below w.heap.size w w'):zqb w' e B v n:=by
 obtain⟨g,cs,rfl,h1,h2⟩:=h
 exact⟨g,cs,rfl,World.ownsRow.kept h1 (zze hb) (Or.inr (by simp[Value.ownBlock])),h2⟩
theorem zqb.set (h:zqb w e B v n) (j:Nat) (u:Value) (hu:∀z,u≠ .int .u32 z):zqb (w.setCell (Go.Proofs.YtlpdkbmmbdfoiaaGreat.ptr v j) u) e B v n/\Below B w (w.setCell (Go.Proofs.YtlpdkbmmbdfoiaaGreat.ptr v j) u):=by
 have hbl:=h.block
 obtain⟨g,cs,rfl,h1,h2⟩:=h
 have hs:=World.ownsRow.stored h1 j u
 have hp:Go.Proofs.YtlpdkbmmbdfoiaaGreat.ptr (.slice (some ⟨g,0,none⟩) n n) j=⟨g,j,none⟩:=by simp only[Go.Proofs.YtlpdkbmmbdfoiaaGreat.ptr,base,Addr.add_lit,Nat.zero_add]
 rw[hp]
 refine⟨⟨g,_,rfl,hs.1,fun c hc=> ?_⟩,zna hs.2 (by simp only[base]at hbl;omega) (fun k hk=>by simp[base]at hbl hk;omega)⟩
 rcases List.mem_or_eq_of_mem_set hc with h' | h'
 ·exact h2 c h'
 ·subst h';exact hu
def zlg (w:World) (v:Value) (j:Nat) (q:Rat):Prop:=
 ∃a b,w.cell? (Go.Proofs.YtlpdkbmmbdfoiaaGreat.ptr v (j*3))=some (.bool (decide (q<0)))/\w.cell? (Go.Proofs.YtlpdkbmmbdfoiaaGreat.ptr v (j*3+1))=some a/\w.cell? (Go.Proofs.YtlpdkbmmbdfoiaaGreat.ptr v (j*3+2))=some b/\zjb w a q.num.natAbs/\zjb w b q.den
theorem zlg.below {w':World} {j:Nat} {q:Rat} (h:zlg w v j q) (hb:Below w.heap.size w w'):zlg w' v j q:=by
 obtain⟨a,b,h1,h2,h3,h4,h5⟩:=h
 exact⟨a,b,zba hb h1,zba hb h2,zba hb h3,h4.below hb,h5.below hb⟩
theorem zqb.set3 (h:zqb w e B v n) (i:Nat) (x y z:Value) (hx:∀k,x≠ .int .u32 k) (hy:∀k,y≠ .int .u32 k) (hz:∀k,z≠ .int .u32 k):
 zqb (((w.setCell (Go.Proofs.YtlpdkbmmbdfoiaaGreat.ptr v (i*3)) x).setCell (Go.Proofs.YtlpdkbmmbdfoiaaGreat.ptr v (i*3+1)) y).setCell (Go.Proofs.YtlpdkbmmbdfoiaaGreat.ptr v (i*3+2)) z) e B v n/\
  Below B w (((w.setCell (Go.Proofs.YtlpdkbmmbdfoiaaGreat.ptr v (i*3)) x).setCell (Go.Proofs.YtlpdkbmmbdfoiaaGreat.ptr v (i*3+1)) y).setCell (Go.Proofs.YtlpdkbmmbdfoiaaGreat.ptr v (i*3+2)) z):=by
 have h1:=h.set (i*3) x hx
 have h2:=h1.1.set (i*3+1) y hy
 have h3:=h2.1.set (i*3+2) z hz
 exact⟨h3.1,(h1.2.trans h2.2).trans h3.2⟩
theorem zjb.over1 (h:zqb w e B v n) {x:Value} {m:Nat} (hx:zjb w x m) (j:Nat) (hj:j<n*3) (u:Value):zjb (w.setCell (Go.Proofs.YtlpdkbmmbdfoiaaGreat.ptr v j) u) x m:=by
 obtain⟨c,h1,h2⟩:=h.cell j hj
 exact⟨hx.v.over h1 h2 u,hx.2⟩
theorem zjb.over3 (h:zqb w e B v n) {c:Value} {m:Nat} (hc:zjb w c m) (i:Nat) (hi:i<n) (x y z:Value) (hx:∀k,x≠ .int .u32 k) (hy:∀k,y≠ .int .u32 k):
 zjb (((w.setCell (Go.Proofs.YtlpdkbmmbdfoiaaGreat.ptr v (i*3)) x).setCell (Go.Proofs.YtlpdkbmmbdfoiaaGreat.ptr v (i*3+1)) y).setCell (Go.Proofs.YtlpdkbmmbdfoiaaGreat.ptr v (i*3+2)) z) c m:=by
 have h1:=h.set (i*3) x hx
 have h2:=h1.1.set (i*3+1) y hy
 exact zjb.over1 h2.1 (zjb.over1 h1.1 (zjb.over1 h hc _ (by omega) _) _ (by omega) _) _ (by omega) _
theorem zne (h:zqb w e B v n) (i k:Nat) (hk:k≠i*3) (hk1:k≠i*3+1) (hk2:k≠i*3+2) (x y z:Value):
 (((w.setCell (Go.Proofs.YtlpdkbmmbdfoiaaGreat.ptr v (i*3)) x).setCell (Go.Proofs.YtlpdkbmmbdfoiaaGreat.ptr v (i*3+1)) y).setCell (Go.Proofs.YtlpdkbmmbdfoiaaGreat.ptr v (i*3+2)) z).cell? (Go.Proofs.YtlpdkbmmbdfoiaaGreat.ptr v k)=w.cell? (Go.Proofs.YtlpdkbmmbdfoiaaGreat.ptr v k):=by
 rw[World.cell?_setCell_other _ _ _ _ (h.inj (Ne.symm hk2)),World.cell?_setCell_other _ _ _ _ (h.inj (Ne.symm hk1)),World.cell?_setCell_other _ _ _ _ (h.inj (Ne.symm hk))]
theorem zlg.set3_other (h:zqb w e B v n) {i j:Nat} (hi:i<n) (hij:i≠j) {q:Rat} (hj:zlg w v j q) (x y z:Value) (hx:∀k,x≠ .int .u32 k) (hy:∀k,y≠ .int .u32 k):
 zlg (((w.setCell (Go.Proofs.YtlpdkbmmbdfoiaaGreat.ptr v (i*3)) x).setCell (Go.Proofs.YtlpdkbmmbdfoiaaGreat.ptr v (i*3+1)) y).setCell (Go.Proofs.YtlpdkbmmbdfoiaaGreat.ptr v (i*3+2)) z) v j q:=by
 obtain⟨a,b,h1,h2,h3,h4,h5⟩:=hj
 refine⟨a,b,?_,?_,?_,zjb.over3 h h4 i hi x y z hx hy,zjb.over3 h h5 i hi x y z hx hy⟩
 ·rw[zne h i _ (by omega) (by omega) (by omega)];exact h1
 ·rw[zne h i _ (by omega) (by omega) (by omega)];exact h2
 ·rw[zne h i _ (by omega) (by omega) (by omega)];exact h3
theorem zlg.set3 (h:zqb w e B v n) {i:Nat} (hi:i<n) {q:Rat} {x y z:Value} (hf:zqa w (.agg #[x,y,z]) q):
 zlg (((w.setCell (Go.Proofs.YtlpdkbmmbdfoiaaGreat.ptr v (i*3)) x).setCell (Go.Proofs.YtlpdkbmmbdfoiaaGreat.ptr v (i*3+1)) y).setCell (Go.Proofs.YtlpdkbmmbdfoiaaGreat.ptr v (i*3+2)) z) v i q:=by
 obtain⟨a,b,ha,h4,h5⟩:=hf
 injection ha with ha
 injection ha with ha
 simp only[List.cons.injEq,and_true]at ha
 obtain⟨rfl,rfl,rfl⟩:=ha
 have nx:∀k,Value.bool (decide (q<0))≠ .int .u32 k:=fun k=>by simp
 have ny:∀k,y≠ .int .u32 k:=fun k=>by obtain⟨a1,n1,c1,e1,_⟩:=h4.v.sl;subst e1;simp
 obtain⟨c0,d0,_⟩:=h.cell (i*3) (by omega)
 obtain⟨c1,d1,_⟩:=h.cell (i*3+1) (by omega)
 obtain⟨c2,d2,_⟩:=h.cell (i*3+2) (by omega)
 have n01:=h.inj (show i*3≠i*3+1 by omega)
 have n02:=h.inj (show i*3≠i*3+2 by omega)
 have n12:=h.inj (show i*3+1≠i*3+2 by omega)
 refine⟨y,z,?_,?_,?_,zjb.over3 h h4 i hi _ _ _ nx ny,zjb.over3 h h5 i hi _ _ _ nx ny⟩
 ·rw[World.cell?_setCell_other _ _ _ _ n02.symm,World.cell?_setCell_other _ _ _ _ n01.symm]
  exact World.cell?_setCell_same _ _ _ d0
 ·rw[World.cell?_setCell_other _ _ _ _ n12.symm]
  exact World.cell?_setCell_same _ _ _ (u:=c1) (by rw[World.cell?_setCell_other _ _ _ _ n01];exact d1)
 ·exact World.cell?_setCell_same _ _ _ (u:=c2) (by rw[World.cell?_setCell_other _ _ _ _ n12,World.cell?_setCell_other _ _ _ _ n02];exact d2)
end
theorem zon {P:Program} (t e:TypeId) (i:TypeInfo) (h1:P.underlying t=some (.slice e)) (h2:P.info? e=some i) (h3:i.zero=some (.agg #[.bool false, .slice none 0 0, .slice none 0 0])) (h4:i.size=3) (h5:i.bytes<=64)
 (w:World) {ops:Array Oper} {rest:List Oper} {o:Oper} {a:Act} {Q:Exit->Act->World->Prop} (hg:o.guard=none) (l c:Operand) (hop:o.op=Op.makeSlice t l c)
 (B:Nat) (u:Int) (n:Nat) (hu:u=n) (hl:a.eval l= .int .i64 u) (hc:a.eval c= .int .i64 u) (b2:n<=4398046511104) (b4:B<=w.heap.size)
 (hK:∀v w',zqb w' e B v n->Below w.heap.size w w'->w.heap.size<=(base v).block->wpList P ops Q rest (a.put o.dst v) w'):
 wpList P ops Q (o::rest) a w:=by
 subst hu
 refine wpList_make_full w hg l c t hop B e i _ 3 h1 h2 h3 h4 .i64 .i64 n n n hl hc rfl rfl (zLT (zMR _ h5) (by omega)) (by unfold maxLen;omega) b4 ?_
 intro w' hown hgr
 refine hK _ w' ⟨_,_,rfl,hown,fun x hx z=> ?_⟩ (zna hgr (zLR _) (fun k hk=>by cases hk)) (by simp[base])
 have hx2:x∈(madeCells #[Value.bool false, .slice none 0 0, .slice none 0 0] (n*3)).toList:=hx
 unfold madeCells at hx2
 simp only[Array.toList_map,List.mem_map,Array.mem_toList_iff]at hx2
 obtain⟨k,hk,rfl⟩:=hx2
 have h7:k%3<3:=Nat.mod_lt _ (by decide)
 have h8:(#[Value.bool false, .slice none 0 0, .slice none 0 0]:Array Value).size=3:=rfl
 rw[h8]
 rcases(show k%3=0\/k%3=1\/k%3=2 by omega)with h9 | h9 | h9<;>rw[h9]<;>simp
def zlb (w:World) (v:Value):Prop:=∀g,v.ownBlock=some g->∀cur e fz,w.heap[g]? =some (.cells cur e fz)->∀c∈cur.toList,∀z,c≠ .int .u32 z
theorem zlb.nil (w:World):zlb w (.slice none 0 0):=fun g h=>by cases h
theorem zai {z:Array Value} {n:Nat} {c:Value} (h:c∈(Builtin.zeroCells z n).toList):c∈z.toList:=by
 unfold Builtin.zeroCells at h
 simp at h
 obtain⟨a,h1,h2⟩:=h
 have hz:0<z.size:=Nat.pos_of_ne_zero (fun h=>by rw[h]at h1;omega)
 rw[getElem!_pos z (a%z.size) (Nat.mod_lt _ hz)]at h2
 rw[<-h2]
 simp
theorem zwd {P:Program} (w:World) (B:Nat) (t ty e:TypeId) (i:TypeInfo) (z:Value) (size bytes:Nat) (ht:P.underlying t=some (.slice e)) (hi:P.info? e=some i) (hz:i.zero=some z)
 (hsize:i.size=size) (hby:i.bytes=bytes) (hzs:z.cells.size=size) (hsz:0<size)
 (v:Value) (n:Nat) (xs:List Value) (hown:w.ownsRow B e size v n xs) (a:Addr) (m c:Nat) (news:List Value) (hl:news.length=m*size)
 (hnews:∀j u,news[j]? =some u->w.cell? (a.add j)=some u) (h1:∀u∈news,u.oneCell'=true)
 (h63:n+m<=maxLen) (hbytes:(n+m)*bytes<=140737488355328) (hbase:B<=w.heap.size)
 (hnl:zlb w v) (hnn:∀c∈news,∀z,c≠ .int .u32 z) (hnz:∀c∈z.cells.toList,∀z,c≠ .int .u32 z):
 ∃v' w',(Builtin.append_ #[t,t] ty #[v, .slice (some a) m c]).run P w= .ok v' w'/\w'.ownsRow B e size v' (n+m) (xs++news)/\w.grownBy w' v.ownBlock/\
  (v'.ownBlock=v.ownBlock\/v'.ownBlock=some w.heap.size)/\zlb w' v':=by
 obtain⟨v',w',h2,h3,h4,_⟩:=run_append_own (P:=P) w B t ty e i z size bytes ht hi hz hsize hby hzs hsz v n xs hown a m c news hl hnews h1 h63 hbytes hbase
 refine⟨v',w',h2,h3,h4,?_⟩
 have fresh:∀ (cs:Array Value) (k kc:Nat),(∀c∈cs.toList,∀z,c≠ .int .u32 z)->zlb (w.drew.alloc (.cells cs e)) (.slice (some ⟨w.heap.size,0,none⟩) k kc):=by
  intro cs k kc h g' hg' cur' e' fz' hc' c hc
  simp only[Value.ownBlock,Option.some.injEq]at hg'
  subst hg'
  rw[show(w.drew.alloc (.cells cs e)).heap[w.heap.size]? =some (.cells cs e (0,0))from heap_alloc_new w.drew _]at hc'
  injection hc' with hc'
  injection hc' with hc' _
  subst hc'
  exact h c hc
 have hsmall:n+m<=9223372036854775807:=by simp only[maxLen]at h63;omega
 rcases hown.2 with⟨rfl,rfl⟩ | ⟨g,cap,cur,rfl,hbg,hg,hnc,hcm,hcs,htake⟩
 ·have hx:xs= []:=List.eq_nil_of_length_eq_zero (by simpa using hown.1)
  subst hx
  by_cases hm:m=0
  ·subst hm
   refine(fun h=>⟨Or.inl (by rw[h]),by rw[h];exact zlb.nil _⟩:v'= .slice none 0 0->_) ?_
   rcases h3.2 with⟨rfl,_⟩ | ⟨g,cap,cur,rfl,_,_,h5,_⟩
   ·rfl
   ·exfalso
    have hn:news= []:=List.eq_nil_of_length_eq_zero (by simpa using hl)
    subst hn
    have hr:(Builtin.append_ #[t,t] ty #[.slice none 0 0, .slice (some a) 0 c]).run P w= .ok (.slice none 0 0) w:=by
     simp[Builtin.append_,run_underlying ht,sizeOf,typeInfo,hi,Builtin.lenOf,Builtin.firstCells,loadCells,loadCellsFrom]
    rw[hr]at h2
    injection h2 with h2 _
    cases h2
  ·have hr:=run_append_nil (P:=P) w t ty e i z ht hi hz a m c news (by rw[hl,hsize]) hnews (by omega) (by omega) (by rw[hby];have hb:=hbytes;simp only[Nat.zero_add]at hb;omega)
   rw[hr]at h2
   injection h2 with h2 h2w
   refine⟨Or.inr (by rw[<-h2];rfl),?_⟩
   rw[<-h2,<-h2w]
   exact fresh _ _ _ (fun c hc=>by
    simp only[Array.toList_append,List.mem_append]at hc
    rcases hc with h | h
    ·exact hnn c h
    ·exact hnz c (zai h))
 ·by_cases hroom:n+m<=cap
  ·have hfit:n*i.size+news.length<=cur.size:=by rw[hl,hcs,hsize,<-Nat.add_mul];exact zMR _ hroom
   have hr:=run_append_room (P:=P) w t ty e i ht hi g n cap cur hg a m c news (by rw[hl,hsize]) hnews h1 hroom hfit
   rw[hr]at h2
   injection h2 with h2 h2w
   refine⟨Or.inl (by rw[<-h2];rfl),?_⟩
   rw[<-h2,<-h2w]
   intro g' hg' cur' e' fz' hc' c hc
   simp only[Value.ownBlock,Option.some.injEq]at hg'
   subst hg'
   rw[setRow_heap w g cur _ e _ hg]at hc'
   injection hc' with hc'
   injection hc' with hc' _
   subst hc'
   have hcc:=hnl g rfl cur e _ hg
   simp only[List.mem_append]at hc
   rcases hc with(h | h) | h
   ·exact hcc c (List.mem_of_mem_take h)
   ·exact hnn c h
   ·exact hcc c (List.mem_of_mem_drop h)
  ·have holds:∀j u,xs[j]? =some u->w.cell? ((⟨g,0,none⟩:Addr).add j)=some u:=hown.cells (g:=g) rfl
   have hr:=run_append_grow (P:=P) w t ty e i z ht hi hz ⟨g,0,none⟩ n cap xs (by rw[hown.1,hsize]) holds a m c news (by rw[hl,hsize]) hnews (by omega) (by omega) (growslice_fits (by omega) (by rw[hby];exact hbytes))
   rw[hr]at h2
   injection h2 with h2 h2w
   refine⟨Or.inr (by rw[<-h2];rfl),?_⟩
   rw[<-h2,<-h2w]
   have hcc:=hnl g rfl cur e _ hg
   rw[<-htake]
   exact fresh _ _ _ (fun c hc=>by
    simp only[Array.toList_append,List.mem_append]at hc
    rcases hc with(h | h) | h
    ·exact hcc c (List.mem_of_mem_take h)
    ·exact hnn c h
    ·exact hnz c (zai h))
structure zlc (w:World) (e:TypeId) (B size:Nat) (v:Value) (n:Nat) (xs:List Value):Prop where
 own:w.ownsRow B e size v n xs
 nl:zlb w v
section
variable {w:World} {e:TypeId} {B size n:Nat} {v:Value} {xs:List Value}
theorem zlc.nil (w:World) (e:TypeId) (B size:Nat):zlc w e B size (.slice none 0 0) 0 []:=⟨World.ownsRow_nil w B e size,zlb.nil _⟩
theorem zlc.sl (h:zlc w e B size v n xs):zgc v:=by
 rcases h.own.2 with⟨rfl,h0⟩ | ⟨g,cap,cur,rfl,hb,hg,hn,hm,hs,ht⟩
 ·exact zgc.nil
 ·exact⟨_,_,_,rfl,hn,hm,fun e=>by cases e⟩
theorem zlc.len (h:zlc w e B size v n xs):slen v=n:=by
 rcases h.own.2 with⟨rfl,h0⟩ | ⟨g,cap,cur,rfl,hb,hg,hn,hm,hs,ht⟩
 ·rw[h0];rfl
 ·rfl
theorem zlc.clen (h:zlc w e B size v n xs):xs.length=n*size:=h.own.1
theorem zlc.cell (h:zlc w e B size v n xs) (j:Nat) (hj:j<xs.length):w.cell? (ptr v j)=some xs[j]:=by
 have hl:=h.own.1
 obtain⟨ho,_⟩:=h
 rcases ho.2 with⟨rfl,h0⟩ | ⟨g,cap,cur,rfl,hb,hg,hn,hm,hs,ht⟩
 ·rw[h0]at hl;omega
 ·have:=World.ownsRow.cellAt ho j (by omega)
  simp only[ptr,base,Addr.add_lit,Nat.zero_add]
  rw[this,zGE hj]
theorem zlc.grown {w':World} {row:Option Nat} (h:zlc w e B size v n xs) (hg:w.grownBy w' row) (hne:v.ownBlock=none\/v.ownBlock≠row):zlc w' e B size v n xs:=by
 refine⟨World.ownsRow.kept h.own hg hne,fun g hgv cur e' fz hc c hcc=> ?_⟩
 have hlt:=(World.ownsRow.lt h.own g hgv).2
 rw[hg.block g hlt (by rw[<-hgv];rcases hne with h1 | h1;· rw[h1]at hgv;cases hgv
                       ·exact h1)]at hc
 exact h.nl g hgv cur e' fz hc c hcc
theorem zlc.below {w':World} (h:zlc w e B size v n xs) (hb:Below w.heap.size w w'):zlc w' e B size v n xs:=
 h.grown (zze hb) (by cases hv:v.ownBlock<;>simp)
theorem zlc.block (h:zlc w e B size v n xs):∀k,v.ownBlock=some k->B<=k/\k<w.heap.size:=World.ownsRow.lt h.own
theorem zfc.grownR {w':World} {row:Option Nat} {x:Value} {l:List Nat} (h:zfc w x l) (hg:w.grownBy w' row) (hn:∀v,v.ownBlock=row->zlb w v):zfc w' x l:=by
 refine⟨h.sl,h.len,fun j hj=> ?_,h.lm⟩
 have hc:=h.cell j hj
 refine hg.cell hc (fun e=> ?_)
 have h2:=hn (.slice (some ⟨(ptr x j).block,0,none⟩) 0 0) (by rw[<-e];rfl) (ptr x j).block rfl
 unfold World.cell? at hc
 split at hc
 ·rename_i cur e' fz hh
  split at hc
  ·cases hc
  ·exact h2 cur e' fz hh _ (by have:=Array.mem_of_getElem? hc;simpa using this) _ rfl
 ·cases hc
theorem zlb.any {v u:Value} (h:zlb w v) (he:u.ownBlock=v.ownBlock):zlb w u:=fun g hg=>h g (by rw[<-he];exact hg)
theorem zjb.grown {w':World} {x:Value} {m:Nat} (h:zjb w x m) (hg:w.grownBy w' v.ownBlock) (hn:zlb w v):zjb w' x m:=⟨h.1.grownR hg (fun u hu=>hn.any hu),h.2⟩
theorem zqa.grown {w':World} {x:Value} {q:Rat} (h:zqa w x q) (hg:w.grownBy w' v.ownBlock) (hn:zlb w v):zqa w' x q:=by
 obtain⟨a,b,rfl,h1,h2⟩:=h;exact⟨a,b,rfl,h1.grown hg hn,h2.grown hg hn⟩
end
theorem zwf {P:Program} (w0:World) {ops:Array Oper} {rest:List Oper} {o:Oper} {a:Act} {Q:Exit->Act->World->Prop} (hgd:o.guard=none) (s x:Operand) (t:TypeId)
 (ho:o.op= .call { callee:= .builtin .append,args:=#[s,x],argTypes:=#[t,t] })
 (B:Nat) (e e':TypeId) (i:TypeInfo) (z:Value) (size bytes:Nat) (ht:P.underlying t=some (.slice e)) (hi:P.info? e=some i) (hz:i.zero=some z)
 (hsize:i.size=size) (hby:i.bytes=bytes) (hzs:z.cells.size=size) (hsz:0<size) (hnz:∀c∈z.cells.toList,∀z,c≠ .int .u32 z)
 (v:Value) (n:Nat) (xs:List Value) (hs:a.eval s=v) (hown:zlc w0 e B size v n xs) (news:Array Value) (hns:news.size=size) (hxe:a.eval x= .slice (some ⟨w0.heap.size,0,none⟩) 1 1)
 (h1:∀u∈news.toList,u.oneCell'=true) (hnn:∀c∈news.toList,∀z,c≠ .int .u32 z)
 (h63:n+1<=maxLen) (hbytes:(n+1)*bytes<=140737488355328) (hbase:B<=w0.heap.size)
 (h:∀v' w',zlc w' e B size v' (n+1) (xs++news.toList)->w0.grownBy w' v.ownBlock->(v'.ownBlock=v.ownBlock\/v'.ownBlock=some (w0.heap.size+1))->wpList P ops Q rest (a.put o.dst v') w'):
 wpList P ops Q (o::rest) a (w0.alloc (.cells news e')):=by
 refine wpList_plain hgd fun K hK=> ?_
 have hg0:=World.grownBy_alloc w0 (.cells news e') (v.ownBlock)
 have hown1:=hown.below (zca w0 (.cells news e'))
 obtain⟨v',w',hr,h2,h3,h4,h5⟩:=zwd (P:=P) (w0.alloc (.cells news e')) B t o.type e i z size bytes ht hi hz hsize hby hzs hsz v n xs hown1.own ⟨w0.heap.size,0,none⟩ 1 1 news.toList (by simp[hns])
  (fun j u hu=>by
   have hc:=cell_of_row (w0.alloc (.cells news e')) w0.heap.size j news e' (0,0) (heap_alloc_new w0 _)
   rw[Addr.add_lit,Nat.zero_add,hc];simpa using hu) h1 h63 hbytes (by simp;omega) hown1.nl hnn hnz
 unfold Oper.wp execOp
 simp only[ho,resolve,invoke,builtin,Sem.run_bind,Sem.run_pure,Result.andThen_ok,List.map_toArray,List.map_cons,List.map_nil,hs,hxe,hr]
 exact hK _ _ (h v' w' ⟨h2,h5⟩ (zsc hg0 h3) (by simpa using h4))
structure zhb (B:Nat) (w w':World):Prop where
 size:w.heap.size<=w'.heap.size
 row:∀g,B<=g->g<w.heap.size->w'.heap[g]? =w.heap[g]?
 limb:∀p z,w.cell? p=some (.int .u32 z)->w'.cell? p=some (.int .u32 z)
theorem zhb.refl (B:Nat) (w:World):zhb B w w:=⟨zLR _,fun _ _ _=>rfl,fun _ _ h=>h⟩
theorem zhb.trans {B:Nat} {a b c:World} (h:zhb B a b) (k:zhb B b c):zhb B a c:=
 ⟨zLT h.size k.size,fun g h1 h2=>(k.row g h1 (zLM h2 h.size)).trans (h.row g h1 h2),fun p z hp=>k.limb p z (h.limb p z hp)⟩
theorem zhb.below {B:Nat} {w w':World} (h:Below w.heap.size w w'):zhb B w w':=⟨h.size,fun g _ h2=>h.block g h2,fun p z hp=>zba h hp⟩
theorem zhb.set {B:Nat} {w:World} {p:Addr} {x:Value} (hp:p.block<B) (hc:w.cell? p=some x) (hx:∀z,x≠ .int .u32 z) (u:Value):zhb B w (w.setCell p u):=by
 refine⟨by simp[World.setCell],fun g h1 h2=>Below.heap_setCell _ _ _ _ (by omega),fun q z hq=> ?_⟩
 rw[World.cell?_setCell_other]
 ·exact hq
 ·intro e
  rw[<-e,hc]at hq
  injection hq with hq
  exact hx _ hq
theorem zfc.moves {B:Nat} {w w':World} {v:Value} {l:List Nat} (h:zfc w v l) (hm:zhb B w w'):zfc w' v l:=⟨h.sl,h.len,fun j hj=>hm.limb _ _ (h.cell j hj),h.lm⟩
theorem zjb.moves {B:Nat} {w w':World} {v:Value} {n:Nat} (h:zjb w v n) (hm:zhb B w w'):zjb w' v n:=⟨h.v.moves hm,h.2⟩
theorem zlc.moves {B B':Nat} {w w':World} {e:TypeId} {size n:Nat} {v:Value} {xs:List Value} (h:zlc w e B' size v n xs) (hm:zhb B w w') (hB:B<=B'):zlc w' e B' size v n xs:=by
 have hlt:=h.block
 refine⟨⟨h.own.1,?_⟩,fun g hg cur e' fz hc=> ?_⟩
 ·rcases h.own.2 with⟨rfl,h0⟩ | ⟨g,cap,cur,rfl,hb,hg,rest⟩
  ·exact .inl ⟨rfl,h0⟩
  ·refine .inr ⟨g,cap,cur,rfl,hb,?_,rest⟩
   rw[hm.row g (zLT hB hb) (hlt g rfl).2];exact hg
 ·obtain⟨h1,h2⟩:=hlt g hg
  rw[hm.row g (zLT hB h1) h2]at hc
  exact h.nl g hg cur e' fz hc
theorem zlc.kinds {w:World} {e e':TypeId} {B B' size size' n n':Nat} {v v':Value} {xs xs':List Value} (h:zlc w e B size v n xs) (h':zlc w e' B' size' v' n' xs') (hne:e≠e'):v.ownBlock=none\/v.ownBlock≠v'.ownBlock:=by
 cases hv:v.ownBlock with
 | none=>exact Or.inl rfl
 | some g=>
   refine Or.inr (fun he=> ?_)
   obtain⟨c,fz,h1⟩:=Lib.ownsRow_kind h.own g hv
   obtain⟨c',fz',h2⟩:=Lib.ownsRow_kind h'.own g he.symm
   rw[h1]at h2
   injection h2 with h2
   injection h2 with _ h2
   exact hne h2
def zwe (w:World) (xs:List Value) (q:List Rat):Prop:=
 ∀ (j:Nat) (h:j<q.length),∃a b,xs[j*3]? =some (.bool (decide (q[j]<0)))/\xs[j*3+1]? =some a/\xs[j*3+2]? =some b/\zjb w a q[j].num.natAbs/\zjb w b q[j].den
def zya (w:World) (e:TypeId) (B:Nat) (v:Value) (q:List Rat):Prop:=∃xs,zlc w e B 3 v q.length xs/\zwe w xs q
section
variable {w:World} {e:TypeId} {B:Nat} {v:Value} {q:List Rat}
theorem zya.nil (w:World) (e:TypeId) (B:Nat):zya w e B (.slice none 0 0) []:=⟨[],zlc.nil _ _ _ _,fun j h=>by simp at h⟩
theorem zya.fracs (h:zya w e B v q):zbb w v q:=by
 obtain⟨xs,h1,h2⟩:=h
 refine⟨h1.sl,h1.len,fun j hj=> ?_⟩
 obtain⟨a,b,e1,e2,e3,e4,e5⟩:=h2 j hj
 have hc:∀i u,xs[i]? =some u->w.cell? (ptr v i)=some u:=fun i u hi=>by
  obtain⟨h6,h7⟩:=List.getElem?_eq_some_iff.1 hi
  rw[h1.cell i h6,h7]
 exact⟨a,b,hc _ _ e1,hc _ _ e2,hc _ _ e3,e4,e5⟩
theorem zya.sl (h:zya w e B v q):zgc v:=h.fracs.sl
theorem zya.block (h:zya w e B v q):∀k,v.ownBlock=some k->B<=k/\k<w.heap.size:=by obtain⟨xs,h1,_⟩:=h;exact h1.block
theorem zya.moves {B':Nat} {w':World} (h:zya w e B v q) (hm:zhb B' w w') (hB:B'<=B):zya w' e B v q:=by
 obtain⟨xs,h1,h2⟩:=h
 refine⟨xs,h1.moves hm hB,fun j hj=> ?_⟩
 obtain⟨a,b,e1,e2,e3,e4,e5⟩:=h2 j hj
 exact⟨a,b,e1,e2,e3,e4.moves hm,e5.moves hm⟩
theorem zwe.grown {w':World} {u:Value} {xs:List Value} (h2:zwe w xs q) (hg:w.grownBy w' u.ownBlock) (hn:zlb w u):zwe w' xs q:=fun j hj=>by
 obtain⟨a,b,e1,e2,e3,e4,e5⟩:=h2 j hj
 exact⟨a,b,e1,e2,e3,e4.grown hg hn,e5.grown hg hn⟩
theorem zya.grown {w':World} {u:Value} (h:zya w e B v q) (hg:w.grownBy w' u.ownBlock) (hn:zlb w u) (hne:v.ownBlock=none\/v.ownBlock≠u.ownBlock):zya w' e B v q:=by
 obtain⟨xs,h1,h2⟩:=h
 exact⟨xs,h1.grown hg hne,h2.grown hg hn⟩
theorem zya.mono {B':Nat} (h:zya w e B v q) (hB:B'<=B):zya w e B' v q:=by
 obtain⟨xs,h1,h2⟩:=h
 refine⟨xs,⟨⟨h1.own.1,?_⟩,h1.nl⟩,h2⟩
 rcases h1.own.2 with h | ⟨g,cap,cur,rfl,hb,rest⟩
 ·exact .inl h
 ·exact .inr ⟨g,cap,cur,rfl,by omega,rest⟩
theorem zwe.snoc {xs:List Value} (h2:zwe w xs q) (hl:xs.length=q.length*3) {x y z:Value} {r:Rat} (hf:zqa w (.agg #[x,y,z]) r):zwe w (xs++ [x,y,z]) (q++ [r]):=by
 intro j hj
 obtain⟨a,b,ha,h4,h5⟩:=hf
 injection ha with ha
 injection ha with ha
 simp only[List.cons.injEq,and_true]at ha
 obtain⟨rfl,rfl,rfl⟩:=ha
 rcases Nat.lt_or_ge j q.length with h | h
 ·obtain⟨a,b,e1,e2,e3,e4,e5⟩:=h2 j h
  rw[List.getElem_append_left h]
  exact⟨a,b,by rw[List.getElem?_append_left (by omega)];exact e1,by rw[List.getElem?_append_left (by omega)];exact e2,by rw[List.getElem?_append_left (by omega)];exact e3,e4,e5⟩
 ·obtain rfl:j=q.length:=by simp at hj;omega
  have e0:(q++ [r])[q.length]'hj=r:=by simp
  rw[e0,<-hl]
  refine⟨y,z,?_,?_,?_,h4,h5⟩
  ·rw[List.getElem?_append_right (zLR _)];simp
  ·rw[List.getElem?_append_right (by omega)];simp
  ·rw[List.getElem?_append_right (by omega)];simp
end
theorem zpp {P:Program} (t e:TypeId) (i:TypeInfo) (ht:P.underlying t=some (.slice e)) (hi:P.info? e=some i) (hz:i.zero=some (.agg #[.bool false, .slice none 0 0, .slice none 0 0])) (hsize:i.size=3) (hby:i.bytes=56)
 (w0:World) {ops:Array Oper} {rest:List Oper} {o:Oper} {a:Act} {Q:Exit->Act->World->Prop} (hgd:o.guard=none) (s x:Operand)
 (ho:o.op= .call { callee:= .builtin .append,args:=#[s,x],argTypes:=#[t,t] }) (B:Nat) (e':TypeId)
 (v:Value) (q:List Rat) (hs:a.eval s=v) (hown:zya w0 e B v q) (c0 c1 c2:Value) (r:Rat) (hf:zqa w0 (.agg #[c0,c1,c2]) r) (hxe:a.eval x= .slice (some ⟨w0.heap.size,0,none⟩) 1 1) (hn:q.length<=1000) (hbase:B<=w0.heap.size)
 (h:∀v' w',zya w' e B v' (q++ [r])->w0.grownBy w' v.ownBlock->zlb w0 v->(v'.ownBlock=v.ownBlock\/v'.ownBlock=some (w0.heap.size+1))->zgc v'->wpList P ops Q rest (a.put o.dst v') w'):
 wpList P ops Q (o::rest) a (w0.alloc (.cells #[c0,c1,c2] e')):=by
 obtain⟨xs,h1,h2⟩:=hown
 have hl:xs.length=q.length*3:=h1.clen
 have hf2:=hf
 obtain⟨a1,b1,ha,h4,h5⟩:=hf2
 injection ha with ha
 injection ha with ha
 simp only[List.cons.injEq,and_true]at ha
 obtain⟨rfl,rfl,rfl⟩:=ha
 obtain⟨p1,p2,p3,rfl,_⟩:=h4.v.sl
 obtain⟨s1,s2,s3,rfl,_⟩:=h5.v.sl
 refine zwf w0 hgd s x t ho B e e' i _ 3 56 ht hi hz hsize hby rfl (by decide) (fun c hc z=>by
  have hc2:c∈ [Value.bool false, .slice none 0 0, .slice none 0 0]:=hc
  simp at hc2;rcases hc2 with rfl | rfl<;>simp) v q.length xs hs h1 #[.bool (decide (r<0)), .slice p1 p2 p3, .slice s1 s2 s3] rfl hxe
  (fun u hu=>by simp at hu;rcases hu with rfl | rfl | rfl<;>rfl) (fun u hu z=>by simp at hu;rcases hu with rfl | rfl | rfl<;>simp) (by simp[maxLen];omega) (by omega) hbase ?_
 intro v' w' k1 k2 k3
 refine h v' w' ⟨_,?_,(zwe.snoc (r:=r) h2 hl hf).grown k2 h1.nl⟩ k2 h1.nl k3 k1.sl
 rw[List.length_append]
 exact k1
theorem zxl {P:Program} (t e:TypeId) (i:TypeInfo) (z:Value) (bytes:Nat) (ht:P.underlying t=some (.slice e)) (hi:P.info? e=some i) (hz:i.zero=some z) (hsize:i.size=1) (hby:i.bytes=bytes) (hby2:bytes<=64) (hzc:z.cells=#[z]) (hzn:∀k,z≠ .int .u32 k)
 (w0:World) {ops:Array Oper} {rest:List Oper} {o:Oper} {a:Act} {Q:Exit->Act->World->Prop} (hgd:o.guard=none) (s x:Operand)
 (ho:o.op= .call { callee:= .builtin .append,args:=#[s,x],argTypes:=#[t,t] }) (B:Nat) (e':TypeId)
 (v:Value) (xs:List Value) (hs:a.eval s=v) (hown:zlc w0 e B 1 v xs.length xs) (c:Value) (hc1:c.oneCell'=true) (hcn:∀k,c≠ .int .u32 k) (hxe:a.eval x= .slice (some ⟨w0.heap.size,0,none⟩) 1 1) (hn:xs.length<=1000) (hbase:B<=w0.heap.size)
 (h:∀v' w',zlc w' e B 1 v' (xs++ [c]).length (xs++ [c])->w0.grownBy w' v.ownBlock->zlb w0 v->(v'.ownBlock=v.ownBlock\/v'.ownBlock=some (w0.heap.size+1))->zgc v'->wpList P ops Q rest (a.put o.dst v') w'):
 wpList P ops Q (o::rest) a (w0.alloc (.cells #[c] e')):=by
 refine zwf w0 hgd s x t ho B e e' i _ 1 bytes ht hi hz hsize hby (by rw[hzc];rfl) (by decide) (fun d hd=>by rw[hzc]at hd;simp at hd;subst hd;exact hzn) v xs.length xs hs hown #[c] rfl hxe
  (fun u hu=>by simp at hu;subst hu;exact hc1) (fun u hu z=>by simp at hu;subst hu;exact hcn z) (by simp[maxLen];omega) (by have :(xs.length+1)*bytes<=1001*64:=Nat.mul_le_mul (by omega) hby2;omega) hbase ?_
 intro v' w' k1 k2 k3
 refine h v' w' ?_ k2 hown.nl k3 k1.sl
 rw[List.length_append]
 exact k1
theorem make_one (w:World):Calls Tryz.prog 187 #[.int .u64 1] w (RNat w 1):=zxj 1 (by decide) w
theorem C3.frac {w:World} {v0 v1 v2:Value} {q:Rat} (h:zqa w (.agg #[v0,v1,v2]) q):∃s a1 l1 k1 a2 l2 k2,v0= .bool s/\v1= .slice a1 l1 k1/\v2= .slice a2 l2 k2:=by
 obtain⟨s,x,y,e,⟨a1,l1,k1,rfl,_⟩,⟨a2,l2,k2,rfl,_⟩⟩:=h.isF
 injection e with e
 injection e with e
 simp at e
 exact⟨s,a1,l1,k1,a2,l2,k2,e.1,e.2.1,e.2.2⟩
theorem C3.set_other {w:World} {b b':Nat} {v0 v1 v2:Value} (h:C3 w b v0 v1 v2) (hb:b≠b') (u0 u1 u2:Value):C3 (((w.setCell ⟨b',0,none⟩ u0).setCell ⟨b',1,none⟩ u1).setCell ⟨b',2,none⟩ u2) b v0 v1 v2:=by
 obtain⟨lt,c0,c1,c2,f0,f1,f2⟩:=h
 refine⟨by simpa [World.setCell]using lt,?_,?_,?_,?_,?_,?_⟩<;>go_simp
theorem zuc {q:Rat} (h:fits q):okN q.num.natAbs q.den:=⟨q.den_nz,h.2,h.1⟩
set_option maxHeartbeats 1600000 in
theorem sum_frac (va:Value) (l:List RF) (w:World) (ha:zni w va l) (hok:∀x∈l,x.ok) (hfit:∀k,k<=l.length->fits (zgg (qs (l.take k)))):
 Calls Tryz.prog 137 #[va] w fun e w'=>∃v,e= .returned (.tuple #[v, .int .i64 0])/\zqa w' v (zgg (qs l))/\Below w.heap.size w w':=by
 have sa:=ha.sl
 have la:=ha.len
 have hle:=sa.le
 rw[la]at hle
 have hlb:l.length<=9223372036854775807:=by omega
 have HOK:=zH hok
 have HFIT:=zH hfit
 clear hok hfit hle
 go_enter Tryz.func137,Tryz.ntmps137
 go_wp2_with (go_at_call 187;(with_reducible refine(make_one _).mono ?_);rintro e w1 ⟨r1,rfl,hr1,hb1⟩;obtain⟨a1,l1,k1,rfl,_⟩:=hr1.v.sl)
 have hb0:=(zca w (.cells #[.bool false, .slice none 0 0, .slice none 0 0] 38))
 have hbw:=zaa hb0 hb1
 have hr:=(C3.new w 38 _ _ _).belowS hb1
 have hlt:w.heap.size<w1.heap.size:=hr.lt
 have hr2:=hr.allocS (.cells #[.bool false, .slice none 0 0, .slice a1 l1 k1] 38)
 have hs2:=C3.new w1 38 (.bool false) (.slice none 0 0) (.slice a1 l1 k1)
 have hb2:=zaa hbw (zca w1 (.cells #[.bool false, .slice none 0 0, .slice a1 l1 k1] 38))
 have hf2:zqa (w1.alloc (.cells #[.bool false, .slice none 0 0, .slice a1 l1 k1] 38)) (.agg #[.bool false, .slice none 0 0, .slice a1 l1 k1]) 0:=⟨_,_,rfl,zjb.nil _,hr1.below (zca _ _)⟩
 generalize w1.alloc (.cells #[.bool false, .slice none 0 0, .slice a1 l1 k1] 38)=W1 at *
 generalize w1.heap.size=S at *
 clear hb0 hb1 hbw hr hr1
 go_loopw [13] (fun u13 wr=>∃ (k:Nat) (v0 v1 v2:Value),k<=l.length/\u13= .int .i64 k/\C3 wr S v0 v1 v2/\zqa wr (.agg #[v0,v1,v2]) (zgg (qs (l.take k)))/\C3 wr w.heap.size (.bool false) (.slice none 0 0) (.slice none 0 0)/\Below w.heap.size w wr) (fun u13 _=>l.length- (intOf u13).toNat)
 case atStart=>exact⟨0,_,_,_,zZL _,rfl,hs2,hf2,hr2,hb2⟩
 case round=>
  obtain⟨k,v0,v1,v2,hk,rfl,hs,hf,hr,hb⟩:=hrel
  clear hs2 hf2 hr2 hb2
  obtain⟨s0,b1,m1,j1,b2,m2,j2,rfl,rfl,rfl⟩:=C3.frac hf
  have HS:=zH hs
  have HR:=zH hr
  have HF:=zH hf
  obtain⟨_,s1,s2,s3,s4,s5,s6⟩:=hs
  obtain⟨_,q1,q2,q3,q4,q5,q6⟩:=hr
  clear hf
  by_cases hkl:k<l.length
  ·obtain⟨xa,xb,c1,c2,c3,hxa,hxb⟩:=(ha.below hb).at' k hkl
   obtain⟨c1a,c1l,c1k,rfl,_⟩:=hxa.slen.1
   obtain⟨c2a,c2l,c2k,rfl,_⟩:=hxb.slen.1
   have hA:zdc (wr.alloc (.cells #[.bool l[k].neg, .slice c1a c1l c1k, .slice c2a c2l c2k] 38)) (.agg #[.bool l[k].neg, .slice c1a c1l c1k, .slice c2a c2l c2k]) l[k].neg l[k].n l[k].d:=⟨_,_,rfl,hxa.below (zca _ _),hxb.below (zca _ _)⟩
   have hB:=(HF.out.raw).below (zca wr (.cells #[.bool l[k].neg, .slice c1a c1l c1k, .slice c2a c2l c2k] 38))
   have hs1:=HS.out.allocS (.cells #[.bool l[k].neg, .slice c1a c1l c1k, .slice c2a c2l c2k] 38)
   have hr1:=HR.out.allocS (.cells #[.bool l[k].neg, .slice c1a c1l c1k, .slice c2a c2l c2k] 38)
   have hb1:=zaa hb (zca wr (.cells #[.bool l[k].neg, .slice c1a c1l c1k, .slice c2a c2l c2k] 38))
   have HO:Hid (okN l[k].n l[k].d):=zH (HOK.out l[k] (zGM hkl))
   have HQ:=zH (zuc (HFIT.out k hk))
   have HE:Hid (fq (decide (zgg (qs (l.take k))<0)) (zgg (qs (l.take k))).num.natAbs (zgg (qs (l.take k))).den+fq l[k].neg l[k].n l[k].d=zgg (qs (l.take (k+1)))):=zH (by rw[zvb,lsum_qs l k hkl];rfl)
   have HF1:=zH (HFIT.out (k+1) hkl)
   clear hb hxa hxb
   go_wp2_with (go_at_call 80;(with_reducible refine(zco _ _ _ _ _ _ _ _ _ hB hA HQ.out HO.out).mono ?_);rw[HE.out];rintro e w7 ⟨v,er,rfl,hb7,hv7,_⟩
                obtain⟨rfl,hv8⟩:=hv7 HF1.out
                obtain⟨t9,x9,y9,rfl,⟨a1,l91,k1,rfl,_⟩,⟨a2,l92,k2,rfl,_⟩⟩:=hv8.isF
                have hs8:=(hs1.belowS hb7).allocS (.cells #[.bool t9, .slice a1 l91 k1, .slice a2 l92 k2] 38)
                have hr8:=(hr1.belowS hb7).allocS (.cells #[.bool t9, .slice a1 l91 k1, .slice a2 l92 k2] 38)
                have hb8:=zaa (zaa hb1 hb7) (zca w7 (.cells #[.bool t9, .slice a1 l91 k1, .slice a2 l92 k2] 38))
                have hv9:=hv8.below (zca w7 (.cells #[.bool t9, .slice a1 l91 k1, .slice a2 l92 k2] 38))
                have HS8:=zH hs8
                obtain⟨_,d1,d2,d3,d4,d5,d6⟩:=hs8)
   go_roundw
   case rel=>exact⟨k+1,_,_,_,hkl,by go_num,HS8.out.set _ _ _,hv9.set3 HS8.out (fun z=>by simp) (fun z=>by simp) _ _ _,hr8.set_other (by omega) _ _ _,zga hb8 (by omega) _ _ _⟩
   case measure=>simp[intOf];omega
  ·obtain rfl:k=l.length:=by omega
   have HF2:Hid (zqa wr (.agg #[.bool s0, .slice b1 m1 j1, .slice b2 m2 j2]) (zgg (qs l))):=zH (by have h5:=HF.out;rw[List.take_length]at h5;exact h5)
   clear HF
   go_wp2
   refine zoa rfl rfl Tryz.aggF Tryz.sizeF (HR.out.set _ _ _) rfl ?_
   exact⟨_,rfl,HF2.out.set3 HR.out (fun z=>by simp) (fun z=>by simp) _ _ _,zga hb (zLR _) _ _ _⟩
end Go.Proofs.YtlpdkbmmbdfoiaaGreat
namespace Go.Proofs.YtlpdkbmmbdfoiaaGreat
theorem znn (a:Int) (b:Nat) (hb:b≠0):mkRat a b<0↔a<0:=by
 have e:mkRat a b=fq (decide (a<0)) a.natAbs b:=by
  unfold fq sgn
  congr 1
  by_cases h:a<0
  ·rw[if_pos (decide_eq_true h)];omega
  ·rw[decide_eq_false h];simp;omega
 have h:=zqu (decide (a<0)) a.natAbs b hb
 rw[e]
 by_cases h0:a<0
 ·rw[decide_eq_true h0]at h |-
  have hg:0<a.natAbs/Nat.gcd a.natAbs b:=Nat.div_pos (Nat.le_of_dvd (by omega) (Nat.gcd_dvd_left _ _)) (Nat.gcd_pos_of_pos_left _ (by omega))
  rw[decide_eq_true hg]at h
  simp only[Bool.and_self,decide_eq_true_eq]at h
  exact⟨fun _=>h0,fun _=>h⟩
 ·rw[decide_eq_false h0]at h |-
  simp only[Bool.false_and,decide_eq_false_iff_not]at h
  exact⟨fun h'=>absurd h' h,fun h'=>absurd h' h0⟩
theorem fq_lt (s t:Bool) (n d m e:Nat) (hd:d≠0) (he:e≠0):fq s n d<fq t m e↔sgn s (n*e)<sgn t (m*d):=by
 have h1:fq s n d<fq t m e↔fq s n d-fq t m e<0:=by
  rw[Rat.lt_iff_sub_pos,Rat.lt_iff_sub_pos (fq s n d-fq t m e)]
  have :(0:Rat)- (fq s n d-fq t m e)=fq t m e-fq s n d:=by grind
  rw[this]
 have h2: -fq t m e=fq (!t) m e:=by
  unfold fq
  rw[Rat.neg_mkRat]
  congr 1
  unfold sgn;cases t<;>simp
 rw[h1,Rat.sub_eq_add_neg,h2,fq_add _ _ _ _ _ _ hd he,znn _ _ (Nat.mul_ne_zero hd he)]
 have h3:sgn (!t) (m*d)= -sgn t (m*d):=by unfold sgn;cases t<;>simp
 rw[h3]
 omega
def zsr (p q:Rat):Int:=if p<q then -1 else if q<p then 1 else 0
theorem cmpR_eq (s t:Bool) (n d m e:Nat) (hd:d≠0) (he:e≠0):
 zsr (fq s n d) (fq t m e)=if s&& !decide (n=0)&&(t&& !decide (m=0))then -zfj (n*e) (m*d)else if s&& !decide (n=0)then -1 else if t&& !decide (m=0)then 1 else zfj (n*e) (m*d):=by
 have hA:n*e=0↔n=0:=by rw[Nat.mul_eq_zero];exact⟨fun h=>h.resolve_right he,Or.inl⟩
 have hB:m*d=0↔m=0:=by rw[Nat.mul_eq_zero];exact⟨fun h=>h.resolve_right hd,Or.inl⟩
 have h1:=fq_lt s t n d m e hd he
 have h2:=fq_lt t s m e n d he hd
 have e1:zsr (fq s n d) (fq t m e)=if sgn s (n*e)<sgn t (m*d)then -1 else if sgn t (m*d)<sgn s (n*e)then 1 else 0:=by
  unfold zsr
  simp only[h1,h2]
 rw[e1]
 clear e1 h1 h2
 generalize n*e=A at *
 generalize m*d=B at *
 unfold zfj sgn
 have c1:decide (n=0)=decide (A=0):=by simp only[hA]
 have c2:decide (m=0)=decide (B=0):=by simp only[hB]
 rw[c1,c2]
 clear c1 c2 hA hB
 by_cases hA:A=0<;>by_cases hB:B=0<;>cases s<;>cases t<;>simp[hA,hB]<;>(repeat' split)<;>omega
end Go.Proofs.YtlpdkbmmbdfoiaaGreat
namespace Go.Proofs.YtlpdkbmmbdfoiaaGreat
open Go.RowKit
theorem fits_ok (s:Bool) {n d:Nat} (h:okN n d):fits (fq s n d):=by
 rw[zll s n d h.1]
 exact⟨zLT (znm (Nat.div_le_self _ _)) h.2.2,zLT (znm (Nat.div_le_self _ _)) h.2.1⟩
def RRed (w0:World) (s:Bool) (n d:Nat) (e:Ending) (w:World):Prop:=
 ∃v er,e= .returned (.tuple #[v, .int .i64 er])/\Below w0.heap.size w0 w/\(okN n d->er=0/\zqa w v (fq s n d))/\(¬okN n d->er=1/\v=zeroF)
theorem zys (v:Value) (s:Bool) (n d:Nat) (w:World) (h:zdc w v s n d) (hk:¬okN n d):
 Calls Tryz.prog 79 #[v] w fun e w'=>e= .returned (.bool false)/\Below w.heap.size w w':=
 (valid_any v s n d w h).mono fun e w' ⟨h1,h2⟩=>⟨by rw[h1,decide_eq_false hk],h2⟩
theorem zcf (w:World) (t:TypeId) (x0 x1 x2 y0 y1 y2:Value) (W:World)
 (hW:W=(w.alloc (.cells #[x0,x1,x2] t)).alloc (.cells #[y0,y1,y2] t)):
 C3 W w.heap.size x0 x1 x2/\C3 W (w.heap.size+1) y0 y1 y2/\Below w.heap.size w W:=by
 subst hW
 have e1:(w.alloc (.cells #[x0,x1,x2] t)).heap.size=w.heap.size+1:=by show(w.heap.push _).size=_;simp
 refine⟨(C3.new w t x0 x1 x2).allocS _,?_,?_⟩
 ·rw[<-e1];exact C3.new _ t y0 y1 y2
 ·exact(zca w _).trans ((zca _ _).mono (zca w _).size)
set_option maxHeartbeats 1600000 in
theorem zef (va:Value) (s:Bool) (n d:Nat) (w:World) (ha:zdc w va s n d):
 Calls Tryz.prog 89 #[va] w (RRed w s n d):=by
 have hA:=ha
 obtain⟨xn,xd,rfl,hxn,hxd⟩:=ha
 obtain⟨an,ln,kn,rfl,_⟩:=hxn.slen.1
 obtain⟨ad,ld,kd,rfl,_⟩:=hxd.slen.1
 go_enter Tryz.func89,Tryz.ntmps89
 go_wp2_with fail
 obtain⟨W,hW⟩:∃W,W=((w.alloc (.cells #[.bool s, .slice an ln kn, .slice ad ld kd] 38)).alloc (.cells #[.bool false, .slice none 0 0, .slice none 0 0] 38)):=⟨_,rfl⟩
 obtain⟨bx,bz,hbw⟩:=zcf w 38 _ _ _ _ _ _ W hW
 rw[<-hW]
 clear hW
 have HBX:=zH bx
 have HBZ:=zH bz
 obtain⟨_,q1,q2,q3,q4,q5,q6⟩:=bx
 clear bz
 by_cases hk:okN n d
 ·have K:=zH hk
  have NN:=zH (zLT (zgd (n:=n) (k:=128) hk.2.2) (show 128<=512 by decide))
  have ND:=zH (zLT (zgd (n:=d) (k:=128) hk.2.1) (show 128<=512 by decide))
  have FT:=zH (fits_ok s hk)
  have D0:=zH hk.1
  clear hk
  go_wp2_with (first
   |(go_at_call 79;(with_reducible refine(zrd _ s n d _ (hA.below hbw) K.out).mono ?_);rintro e9 w1 ⟨rfl,hv1⟩
     obtain⟨_,f1,f2,f3,f4,f5,f6⟩:=HBX.out.belowS hv1
     have hbw1:=zaa hbw hv1)
   |(go_at_call 142;(with_reducible refine(zub s _ _ n d _ (hxn.below hbw1) (hxd.below hbw1) D0.out NN.out ND.out).mono ?_);rintro e9 w7 ⟨v,er7,rfl,hv5,hv2,hv3⟩
     have hv4:=hv2 FT.out
     obtain⟨t9,x9,y9,rfl,⟨a1,l91,k1,rfl,_⟩,⟨a2,l92,k2,rfl,_⟩⟩:=zpb (w0:=w) hv2 hv3
     have hC:=(HBZ.out.belowS hv1).belowS hv5
     have HC:=zH hC
     have hbz:=zaa hbw1 hv5
     obtain⟨_,d0,d1,d2,e0,e1,e2⟩:=hC))
  refine zoa rfl rfl Tryz.aggF Tryz.sizeF (HC.out.set _ _ _) rfl ?_
  exact⟨_,_,rfl,zga hbz (by omega) _ _ _,fun h=>⟨rfl,hv4.2.set3 HC.out (fun z=>by simp) (fun z=>by simp) _ _ _⟩,fun h=>absurd K.out h⟩
 ·have K:=zH hk
  clear hk
  go_wp2_with (first
   |(go_at_call 79;(with_reducible refine(zys _ s n d _ (hA.below hbw) K.out).mono ?_);rintro e9 w1 ⟨rfl,hv1⟩
     have hC:=HBZ.out.belowS hv1
     have HC:=zH hC
     have hbz:=zaa hbw hv1
     obtain⟨_,d0,d1,d2,e0,e1,e2⟩:=hC))
  refine zoa rfl rfl Tryz.aggF Tryz.sizeF (HC.out.set _ _ _) rfl ?_
  exact⟨_,_,rfl,zga hbz (by omega) _ _ _,fun h=>absurd h K.out,fun _=>⟨rfl,rfl⟩⟩
theorem zxa {P:Program} {ops:Array Oper} {o:Oper} {a:Act} {w:World} {K:Act->World->Prop} {Q:Exit->Act->World->Prop} {E:Prop} (f:FuncId) (argv:Array Value) (hg:Region.wanted o (yielded ops a.tmps)=true)
 (hrun:(execOp a.eval o).run P w= .ok (.enter f argv) w) {R:Ending->World->Prop} (hc:Calls P f argv w R) (h:∀e w',R e w'->∃v,e= .returned v/\K (a.put o.dst v) w'):
 if Region.wanted o (yielded ops a.tmps)=true then Oper.wp P o a w K Q else E:=by
 rw[if_pos hg]
 unfold Oper.wp
 rw[hrun,Oper.upon_enter]
 refine hc.mono fun e w' hr=> ?_
 obtain⟨v,rfl,hk⟩:=h e w' hr
 exact hk
theorem zkl :fits 0:=by decide
theorem zdt :fits 1:=by decide
def RF0 (w0:World) (q:Rat) (e:Ending) (w:World):Prop:=∃v,e= .returned (.tuple #[v, .int .i64 0])/\zqa w v q/\Below w0.heap.size w0 w
def RF1 (w0:World) (q:Rat) (e:Ending) (w:World):Prop:=∃v,e= .returned v/\zqa w v q/\Below w0.heap.size w0 w
theorem zmi.ok {w0:World} {q q':Rat} {e:Ending} {w:World} (h:zmi w0 q e w) (hq:q=q') (hf:fits q'):RF0 w0 q' e w:=by
 subst hq
 obtain⟨v,er,rfl,h1,h2,_⟩:=h
 obtain⟨rfl,h3⟩:=h2 hf
 exact⟨v,rfl,h3,h1⟩
theorem zwy (w:World):Calls Tryz.prog 67 #[.int .i64 0, .int .i64 1] w (RF0 w 0):=
 (zel 0 1 w (by decide) (by decide) (by decide) (by decide) (by decide)).mono fun _ _ h=>h.ok (by decide) zkl
theorem make_11 (w:World):Calls Tryz.prog 67 #[.int .i64 1, .int .i64 1] w (RF0 w 1):=
 (zel 1 1 w (by decide) (by decide) (by decide) (by decide) (by decide)).mono fun _ _ h=>h.ok (by decide) zdt
theorem zmj {fn:Func} {p:Tmp} {ty:TypeId} (h:fn.results=#[.cell p ty]) (tmps:Array Value) (P:Program) (w:World):
 (results fn tmps).run P w=((asAddr (tmps.getD p undef)).run P w).andThen fun a w=>(loadVar ty a).run P w:=by
 simp[results,h]
theorem zab {P:Program} {fn:Func} {R:Ending->World->Prop} {a:Act} {w:World} {p:Tmp} {ty:TypeId} {b:Nat} {v0 v1 v2:Value} (h:fn.results=#[.cell p ty])
 (hp:a.tmps.getD p undef= .pointer (some ⟨b,0,none⟩)) (hagg:∀w,(isAgg ty).run P w= .ok true w) (hs:∀w,(sizeOf ty).run P w= .ok 3 w) (hc:C3 w b v0 v1 v2) (hd:a.defers= [])
 (hR:R (.returned (.agg #[v0,v1,v2])) w):bodyPost P fn R .ret a w:=by
 refine bodyPost_ret ?_ hd hR
 rw[zmj h,hp]
 simp only[asAddr,Sem.run_pure,Result.andThen_ok,load_c3 hagg hs hc]
theorem Tryz.infoF :(Tryz.prog.info? 38).map (fun i=>(i.zero,i.size,i.bytes))=some (some (.agg #[.bool false, .slice none 0 0, .slice none 0 0]),3,56):=by kernel_rfl
theorem zfa {w w1 w2:World} {B:Nat} (h:Below B w w1) (h':Below w1.heap.size w1 w2) (hB:B<=w1.heap.size:=by exact h.size):Below B w w2:=h.trans (h'.mono hB)
theorem zqb.fracs {w:World} {e:TypeId} {B n:Nat} {v:Value} (h:zqb w e B v n) {l:List Rat} (hl:l.length=n) (he:∀j (hj:j<l.length),zlg w v j l[j]):zbb w v l:=
 ⟨h.sl,by rw[h.len,hl],he⟩
theorem Tryz.infoRow :(Tryz.prog.info? 25).map (fun i=>(i.zero,i.size,i.bytes))=some (some (.slice none 0 0),1,24):=by kernel_rfl
theorem Tryz.infoBool :(Tryz.prog.info? 4).map (fun i=>(i.zero,i.size,i.bytes))=some (some (.bool false),1,1):=by kernel_rfl
theorem Tryz.infoInt :(Tryz.prog.info? 3).map (fun i=>(i.zero,i.size,i.bytes))=some (some (.int .i64 0),1,8):=by kernel_rfl
theorem C3.other {w:World} {b:Nat} {v0 v1 v2:Value} (h:C3 w b v0 v1 v2) (p:Addr) (u:Value) (hp:p.block≠b):C3 (w.setCell p u) b v0 v1 v2:=by
 obtain⟨lt,c0,c1,c2,f0,f1,f2⟩:=h
 have hne:∀k,p≠⟨b,k,none⟩:=fun k e=>hp (by rw[e])
 have hf:∀q,(w.setCell p u).frozen? q=w.frozen? q:=fun q=>by simp
 exact⟨by simpa [World.setCell]using lt,by rw[World.cell?_setCell_other _ _ _ _ (hne _)];exact c0,by rw[World.cell?_setCell_other _ _ _ _ (hne _)];exact c1,by rw[World.cell?_setCell_other _ _ _ _ (hne _)];exact c2,
  by rw[hf];exact f0,by rw[hf];exact f1,by rw[hf];exact f2⟩
theorem C3.set0 {w:World} {b:Nat} {v0 v1 v2:Value} (h:C3 w b v0 v1 v2) (u:Value):C3 (w.setCell ⟨b,0,none⟩ u) b u v1 v2:=by
 obtain⟨lt,c0,c1,c2,f0,f1,f2⟩:=h
 refine⟨by simpa [World.setCell]using lt,?_,?_,?_,?_,?_,?_⟩<;>go_simp
theorem C3.set1 {w:World} {b:Nat} {v0 v1 v2:Value} (h:C3 w b v0 v1 v2) (u:Value):C3 (w.setCell ⟨b,1,none⟩ u) b v0 u v2:=by
 obtain⟨lt,c0,c1,c2,f0,f1,f2⟩:=h
 refine⟨by simpa [World.setCell]using lt,?_,?_,?_,?_,?_,?_⟩<;>go_simp
theorem C3.set2 {w:World} {b:Nat} {v0 v1 v2:Value} (h:C3 w b v0 v1 v2) (u:Value):C3 (w.setCell ⟨b,2,none⟩ u) b v0 v1 u:=by
 obtain⟨lt,c0,c1,c2,f0,f1,f2⟩:=h
 refine⟨by simpa [World.setCell]using lt,?_,?_,?_,?_,?_,?_⟩<;>go_simp
theorem zvo (w:World):w.drew.heap.size=w.heap.size:=rfl
theorem zfk (w:World) (o:Obj):(w.alloc o).heap.size=w.heap.size+1:=by simp
theorem C3.newB {b:Nat} (w:World) (t:TypeId) (v0 v1 v2:Value) (hb:w.heap.size=b):C3 (w.alloc (.cells #[v0,v1,v2] t)) b v0 v1 v2:=by subst hb;exact C3.new w t v0 v1 v2
theorem C3.grownB {w w':World} {b:Nat} {v0 v1 v2:Value} {r:Option Nat} (h:C3 w b v0 v1 v2) (hg:w.grownBy w' r) (hr:r≠some b):C3 w' b v0 v1 v2:=by
 have e:=hg.block b h.lt (fun h=>hr h.symm)
 obtain⟨lt,c0,c1,c2,f0,f1,f2⟩:=h
 have hc:∀k,w'.cell? ⟨b,k,none⟩=w.cell? ⟨b,k,none⟩:=fun k=>by simp[World.cell?,e]
 have hf:∀k,w'.frozen? ⟨b,k,none⟩=w.frozen? ⟨b,k,none⟩:=fun k=>by simp[World.frozen?,e]
 exact⟨zLM lt hg.size,by rw[hc];exact c0,by rw[hc];exact c1,by rw[hc];exact c2,by rw[hf];exact f0,by rw[hf];exact f1,by rw[hf];exact f2⟩
end Go.Proofs.YtlpdkbmmbdfoiaaGreat
