/- Lemmas. -/
import Derived.Test.YtkpedaflofejnaaGreatMOwF
import Derived.Lib.OwnKind
set_option linter.unusedVariables false
set_option linter.unusedSimpArgs false
namespace Go.Proofs.YtkpedaflofejnaaGreat
open Go.RowKit
def zdc (w:World) (v:Value):Prop:=∀g,v.ownBlock=some g->∀cur e fz,w.heap[g]? =some (.cells cur e fz)->∀c∈cur.toList,∀z,c≠ .int .u32 z
theorem zdc.nil (w:World):zdc w (.slice none 0 0):=λ g h=>by cases h
theorem zhk {z:Array Value} {n:Nat} {c:Value} (h:c∈(Builtin.zeroCells z n).toList):c∈z.toList:=by
 unfold Builtin.zeroCells at h;simp at h;obtain⟨a,h1,h2⟩:=h;have hz:0<z.size:=zPZ (λ h=>by rw[h]at h1;omega);rw[getElem!_pos z (a%z.size) (zML2 _ hz)]at h2;rw[<-h2];simp
theorem zqe {P:Program} (w:World) (B:Nat) (t ty e:TypeId) (i:TypeInfo) (z:Value) (size bytes:Nat) (ht:P.underlying t=some (.slice e)) (hi:P.info? e=some i) (hz:i.zero=some z)
 (hsize:i.size=size) (hby:i.bytes=bytes) (hzs:z.cells.size=size) (hsz:0<size)
 (v:Value) (n:Nat) (xs:List Value) (hown:w.ownsRow B e size v n xs) (a:Addr) (m c:Nat) (news:List Value) (hl:news.length=m*size)
 (hnews:∀j u,news[j]? =some u->w.cell? (a.add j)=some u) (h1:∀u∈news,u.oneCell'=true)
 (h63:n+m<=maxLen) (hbytes:(n+m)*bytes<=140737488355328) (hbase:B<=w.heap.size)
 (hnl:zdc w v) (hnn:∀c∈news,∀z,c≠ .int .u32 z) (hnz:∀c∈z.cells.toList,∀z,c≠ .int .u32 z):
 ∃v' w',(Builtin.append_ #[t,t] ty #[v, .slice (some a) m c]).run P w= .ok v' w'/\w'.ownsRow B e size v' (n+m) (xs++news)/\w.grownBy w' v.ownBlock/\
  (v'.ownBlock=v.ownBlock\/v'.ownBlock=some w.heap.size)/\zdc w' v':=by
 obtain⟨v',w',h2,h3,h4,_⟩:=run_append_own (P:=P) w B t ty e i z size bytes ht hi hz hsize hby hzs hsz v n xs hown a m c news hl hnews h1 h63 hbytes hbase;refine⟨v',w',h2,h3,h4,?_⟩
 have fresh:∀ (cs:Array Value) (k kc:Nat),(∀c∈cs.toList,∀z,c≠ .int .u32 z)->zdc (w.drew.alloc (.cells cs e)) (.slice (some ⟨w.heap.size,0,none⟩) k kc):=by
  intro cs k kc h g' hg' cur' e' fz' hc' c hc;simp only[Value.ownBlock,Option.some.injEq]at hg';subst hg';rw[show(w.drew.alloc (.cells cs e)).heap[w.heap.size]? =some (.cells cs e (0,0))from heap_alloc_new w.drew _]at hc';injection hc' with hc'
  injection hc' with hc' _
  subst hc';exact h c hc
 have hsmall:n+m<=9223372036854775807:=by simp only[maxLen]at h63;omega
 rcases hown.2 with⟨rfl,rfl⟩ | ⟨g,cap,cur,rfl,hbg,hg,hnc,hcm,hcs,htake⟩
 ·have hx:xs= []:=List.eq_nil_of_length_eq_zero (by simpa using hown.1);subst hx;by_cases hm:m=0
  ·subst hm;refine(λ h=>⟨Or.inl (by rw[h]),by rw[h];exact zdc.nil _⟩:v'= .slice none 0 0->_) ?_;rcases h3.2 with⟨rfl,_⟩ | ⟨g,cap,cur,rfl,_,_,h5,_⟩
   ·rfl
   ·exfalso;have hn:news= []:=List.eq_nil_of_length_eq_zero (by simpa using hl);subst hn
    have hr:(Builtin.append_ #[t,t] ty #[.slice none 0 0, .slice (some a) 0 c]).run P w= .ok (.slice none 0 0) w:=by
     simp[Builtin.append_,run_underlying ht,sizeOf,typeInfo,hi,Builtin.lenOf,Builtin.firstCells,loadCells,loadCellsFrom]
    rw[hr]at h2;(injection h2 with h2 _);cases h2
  ·have hr:=run_append_nil (P:=P) w t ty e i z ht hi hz a m c news (by rw[hl,hsize]) hnews zO zO (by rw[hby];have hb:=hbytes;simp only[Nat.zero_add]at hb;omega);rw[hr]at h2;(injection h2 with h2 h2w);refine⟨Or.inr (by rw[<-h2];rfl),?_⟩;rw[<-h2,<-h2w]
   exact fresh _ _ _ (λ c hc=>by
    simp only[Array.toList_append,List.mem_append]at hc;rcases hc with h | h
    ·exact hnn c h
    ·exact hnz c (zhk h))
 ·by_cases hroom:n+m<=cap
  ·(have hfit:n*i.size+news.length<=cur.size:=by rw[hl,hcs,hsize,<-Nat.add_mul];exact zMR _ hroom);have hr:=run_append_room (P:=P) w t ty e i ht hi g n cap cur hg a m c news (by rw[hl,hsize]) hnews h1 hroom hfit;rw[hr]at h2;(injection h2 with h2 h2w);refine⟨Or.inl (by rw[<-h2];rfl),?_⟩;rw[<-h2,<-h2w];intro g' hg' cur' e' fz' hc' c hc;simp only[Value.ownBlock,Option.some.injEq]at hg';subst hg';rw[setRow_heap w g cur _ e _ hg]at hc';(injection hc' with hc');(injection hc' with hc' _);subst hc';have hcc:=hnl g rfl cur e _ hg;simp only[List.mem_append]at hc;rcases hc with(h | h) | h
   ·exact hcc c (List.mem_of_mem_take h)
   ·exact hnn c h
   ·exact hcc c (List.mem_of_mem_drop h)
  ·have holds:∀j u,xs[j]? =some u->w.cell? ((⟨g,0,none⟩:Addr).add j)=some u:=hown.cells (g:=g) rfl;have hr:=run_append_grow (P:=P) w t ty e i z ht hi hz ⟨g,0,none⟩ n cap xs (by rw[hown.1,hsize]) holds a m c news (by rw[hl,hsize]) hnews zO zO (growslice_fits zO (by rw[hby];exact hbytes));rw[hr]at h2;(injection h2 with h2 h2w);refine⟨Or.inr (by rw[<-h2];rfl),?_⟩;rw[<-h2,<-h2w];have hcc:=hnl g rfl cur e _ hg;rw[<-htake]
   exact fresh _ _ _ (λ c hc=>by
    simp only[Array.toList_append,List.mem_append]at hc;rcases hc with(h | h) | h
    ·exact hcc c (List.mem_of_mem_take h)
    ·exact hnn c h
    ·exact hnz c (zhk h))
structure zbc (w:World) (e:TypeId) (B size:Nat) (v:Value) (n:Nat) (xs:List Value):Prop where
 own:w.ownsRow B e size v n xs
 nl:zdc w v
section
variable {w:World} {e:TypeId} {B size n:Nat} {v:Value} {xs:List Value}
theorem zbc.nil (w:World) (e:TypeId) (B size:Nat):zbc w e B size (.slice none 0 0) 0 []:=⟨World.ownsRow_nil w B e size,zdc.nil _⟩
theorem zbc.sl (h:zbc w e B size v n xs):zlb v:=by
 rcases h.own.2 with⟨rfl,h0⟩ | ⟨g,cap,cur,rfl,hb,hg,hn,hm,hs,ht⟩
 ·exact zlb.nil
 ·exact⟨_,_,_,rfl,hn,hm,λ e=>by cases e⟩
theorem zbc.len (h:zbc w e B size v n xs):slen v=n:=by
 rcases h.own.2 with⟨rfl,h0⟩ | ⟨g,cap,cur,rfl,hb,hg,hn,hm,hs,ht⟩
 ·rw[h0];rfl
 ·rfl
theorem zbc.clen (h:zbc w e B size v n xs):xs.length=n*size:=h.own.1
theorem zbc.cell (h:zbc w e B size v n xs) (j:Nat) (hj:j<xs.length):w.cell? (ptr v j)=some xs[j]:=by
 have hl:=h.own.1;obtain⟨ho,_⟩:=h;rcases ho.2 with⟨rfl,h0⟩ | ⟨g,cap,cur,rfl,hb,hg,hn,hm,hs,ht⟩
 ·rw[h0]at hl;omega
 ·have:=World.ownsRow.cellAt ho j zO;simp only[ptr,base,Addr.add_lit,Nat.zero_add];rw[this,zGE hj]
theorem zbc.grown {w':World} {row:Option Nat} (h:zbc w e B size v n xs) (hg:w.grownBy w' row) (hne:v.ownBlock=none\/v.ownBlock≠row):zbc w' e B size v n xs:=by
 refine⟨World.ownsRow.kept h.own hg hne,λ g hgv cur e' fz hc c hcc=> ?_⟩;have hlt:=(World.ownsRow.lt h.own g hgv).2
 rw[hg.block g hlt (by rw[<-hgv];rcases hne with h1 | h1;· rw[h1]at hgv;cases hgv
                       ·exact h1)]at hc
 exact h.nl g hgv cur e' fz hc c hcc
theorem zbc.bw {w':World} (h:zbc w e B size v n xs) (hb:Below w.heap.size w w'):zbc w' e B size v n xs:=
 h.grown (zeb hb) (by cases hv:v.ownBlock<;>simp)
theorem zbc.block (h:zbc w e B size v n xs):∀k,v.ownBlock=some k->B<=k/\k<w.heap.size:=World.ownsRow.lt h.own
theorem ztc.grownR {w':World} {row:Option Nat} {x:Value} {l:List Nat} (h:ztc w x l) (hg:w.grownBy w' row) (hn:∀v,v.ownBlock=row->zdc w v):ztc w' x l:=by
 refine⟨h.sl,h.len,λ j hj=> ?_,h.lm⟩;have hc:=h.cell j hj;refine hg.cell hc (λ e=> ?_);have h2:=hn (.slice (some ⟨(ptr x j).block,0,none⟩) 0 0) (by rw[<-e];rfl) (ptr x j).block rfl;unfold World.cell? at hc;split at hc
 ·rename_i cur e' fz hh
  split at hc
  ·cases hc
  ·exact h2 cur e' fz hh _ (by have:=Array.mem_of_getElem? hc;simpa using this) _ rfl
 ·cases hc
theorem zdc.any {v u:Value} (h:zdc w v) (he:u.ownBlock=v.ownBlock):zdc w u:=λ g hg=>h g (by rw[<-he];exact hg)
theorem zpb.grown {w':World} {x:Value} {m:Nat} (h:zpb w x m) (hg:w.grownBy w' v.ownBlock) (hn:zdc w v):zpb w' x m:=⟨h.1.grownR hg (λ u hu=>hn.any hu),h.2⟩
end
theorem znd {P:Program} (w0:World) {ops:Array Oper} {rest:List Oper} {o:Oper} {a:Act} {Q:Exit->Act->World->Prop} (hgd:o.guard=none) (s x:Operand) (t:TypeId)
 (ho:o.op= .call { callee:= .builtin .append,args:=#[s,x],argTypes:=#[t,t] })
 (B:Nat) (e e':TypeId) (i:TypeInfo) (z:Value) (size bytes:Nat) (ht:P.underlying t=some (.slice e)) (hi:P.info? e=some i) (hz:i.zero=some z)
 (hsize:i.size=size) (hby:i.bytes=bytes) (hzs:z.cells.size=size) (hsz:0<size) (hnz:∀c∈z.cells.toList,∀z,c≠ .int .u32 z)
 (v:Value) (n:Nat) (xs:List Value) (hs:a.eval s=v) (hown:zbc w0 e B size v n xs) (news:Array Value) (hns:news.size=size) (hxe:a.eval x= .slice (some ⟨w0.heap.size,0,none⟩) 1 1)
 (h1:∀u∈news.toList,u.oneCell'=true) (hnn:∀c∈news.toList,∀z,c≠ .int .u32 z)
 (h63:n+1<=maxLen) (hbytes:(n+1)*bytes<=140737488355328) (hbase:B<=w0.heap.size)
 (h:∀v' w',zbc w' e B size v' (n+1) (xs++news.toList)->w0.grownBy w' v.ownBlock->(v'.ownBlock=v.ownBlock\/v'.ownBlock=some (w0.heap.size+1))->wpList P ops Q rest (a.put o.dst v') w'):
 wpList P ops Q (o::rest) a (w0.alloc (.cells news e')):=by
 refine wpList_plain hgd λ K hK=> ?_
 have hg0:=World.grownBy_alloc w0 (.cells news e') (v.ownBlock);have hown1:=hown.bw (zba w0 (.cells news e'))
 obtain⟨v',w',hr,h2,h3,h4,h5⟩:=zqe (P:=P) (w0.alloc (.cells news e')) B t o.type e i z size bytes ht hi hz hsize hby hzs hsz v n xs hown1.own ⟨w0.heap.size,0,none⟩ 1 1 news.toList (by simp[hns])
  (λ j u hu=>by
   have hc:=cell_of_row (w0.alloc (.cells news e')) w0.heap.size j news e' (0,0) (heap_alloc_new w0 _);rw[Addr.add_lit,Nat.zero_add,hc];simpa using hu) h1 h63 hbytes (by simp;omega) hown1.nl hnn hnz
 unfold Oper.wp execOp;simp only[ho,resolve,invoke,builtin,Sem.run_bind,Sem.run_pure,Result.andThen_ok,List.map_toArray,List.map_cons,List.map_nil,hs,hxe,hr];exact hK _ _ (h v' w' ⟨h2,h5⟩ (zgd hg0 h3) (by simpa using h4))
structure zya (B:Nat) (w w':World):Prop where
 size:w.heap.size<=w'.heap.size
 row:∀g,B<=g->g<w.heap.size->w'.heap[g]? =w.heap[g]?
 limb:∀p z,w.cell? p=some (.int .u32 z)->w'.cell? p=some (.int .u32 z)
theorem zya.refl (B:Nat) (w:World):zya B w w:=⟨zLR _,λ _ _ _=>rfl,λ _ _ h=>h⟩
theorem zya.trans {B:Nat} {a b c:World} (h:zya B a b) (k:zya B b c):zya B a c:=
 ⟨zLT h.size k.size,λ g h1 h2=>(k.row g h1 (zLM h2 h.size)).trans (h.row g h1 h2),λ p z hp=>k.limb p z (h.limb p z hp)⟩
theorem zya.bw {B:Nat} {w w':World} (h:Below w.heap.size w w'):zya B w w':=⟨h.size,λ g _ h2=>h.block g h2,λ p z hp=>zca h hp⟩
theorem zya.set {B:Nat} {w:World} {p:Addr} {x:Value} (hp:p.block<B) (hc:w.cell? p=some x) (hx:∀z,x≠ .int .u32 z) (u:Value):zya B w (w.setCell p u):=by
 refine⟨by simp[World.setCell],λ g h1 h2=>Below.heap_setCell _ _ _ _ zO,λ q z hq=> ?_⟩;rw[zCO]
 ·exact hq
 ·intro e;rw[<-e,hc]at hq;injection hq with hq
  exact hx _ hq
theorem ztc.moves {B:Nat} {w w':World} {v:Value} {l:List Nat} (h:ztc w v l) (hm:zya B w w'):ztc w' v l:=⟨h.sl,h.len,λ j hj=>hm.limb _ _ (h.cell j hj),h.lm⟩
theorem zpb.moves {B:Nat} {w w':World} {v:Value} {n:Nat} (h:zpb w v n) (hm:zya B w w'):zpb w' v n:=⟨h.v.moves hm,h.2⟩
theorem zna.moves {B:Nat} {w w':World} {v:Value} {q:Rat} (h:zna w v q) (hm:zya B w w'):zna w' v q:=by
 obtain⟨a,b,rfl,h1,h2⟩:=h;exact⟨a,b,rfl,h1.moves hm,h2.moves hm⟩
theorem zbc.moves {B B':Nat} {w w':World} {e:TypeId} {size n:Nat} {v:Value} {xs:List Value} (h:zbc w e B' size v n xs) (hm:zya B w w') (hB:B<=B'):zbc w' e B' size v n xs:=by
 have hlt:=h.block;refine⟨⟨h.own.1,?_⟩,λ g hg cur e' fz hc=> ?_⟩
 ·rcases h.own.2 with⟨rfl,h0⟩ | ⟨g,cap,cur,rfl,hb,hg,rest⟩
  ·exact .inl ⟨rfl,h0⟩
  ·refine .inr ⟨g,cap,cur,rfl,hb,?_,rest⟩;rw[hm.row g (zLT hB hb) (hlt g rfl).2];exact hg
 ·obtain⟨h1,h2⟩:=hlt g hg;rw[hm.row g (zLT hB h1) h2]at hc;exact h.nl g hg cur e' fz hc
theorem zbc.kinds {w:World} {e e':TypeId} {B B' size size' n n':Nat} {v v':Value} {xs xs':List Value} (h:zbc w e B size v n xs) (h':zbc w e' B' size' v' n' xs') (hne:e≠e'):v.ownBlock=none\/v.ownBlock≠v'.ownBlock:=by
 cases hv:v.ownBlock with
 | none=>exact Or.inl rfl
 | some g=>
   refine Or.inr (λ he=> ?_);obtain⟨c,fz,h1⟩:=Lib.ownsRow_kind h.own g hv;obtain⟨c',fz',h2⟩:=Lib.ownsRow_kind h'.own g he.symm;rw[h1]at h2;(injection h2 with h2);(injection h2 with _ h2);exact hne h2
def zrk (w:World) (xs:List Value) (q:List Rat):Prop:=
 ∀ (j:Nat) (h:j<q.length),∃a b,xs[j*3]? =some (.bool (decide (q[j]<0)))/\xs[j*3+1]? =some a/\xs[j*3+2]? =some b/\zpb w a q[j].num.natAbs/\zpb w b q[j].den
def zra (w:World) (e:TypeId) (B:Nat) (v:Value) (q:List Rat):Prop:=∃xs,zbc w e B 3 v q.length xs/\zrk w xs q
section
variable {w:World} {e:TypeId} {B:Nat} {v:Value} {q:List Rat}
theorem zra.nil (w:World) (e:TypeId) (B:Nat):zra w e B (.slice none 0 0) []:=⟨[],zbc.nil _ _ _ _,λ j h=>by simp at h⟩
theorem zra.fracs (h:zra w e B v q):zpa w v q:=by
 obtain⟨xs,h1,h2⟩:=h;refine⟨h1.sl,h1.len,λ j hj=> ?_⟩;obtain⟨a,b,e1,e2,e3,e4,e5⟩:=h2 j hj
 have hc:∀i u,xs[i]? =some u->w.cell? (ptr v i)=some u:=λ i u hi=>by
  obtain⟨h6,h7⟩:=List.getElem?_eq_some_iff.1 hi;rw[h1.cell i h6,h7]
 exact⟨a,b,hc _ _ e1,hc _ _ e2,hc _ _ e3,e4,e5⟩
theorem zra.sl (h:zra w e B v q):zlb v:=h.fracs.sl
theorem zra.block (h:zra w e B v q):∀k,v.ownBlock=some k->B<=k/\k<w.heap.size:=by obtain⟨xs,h1,_⟩:=h;exact h1.block
theorem zra.moves {B':Nat} {w':World} (h:zra w e B v q) (hm:zya B' w w') (hB:B'<=B):zra w' e B v q:=by
 obtain⟨xs,h1,h2⟩:=h;refine⟨xs,h1.moves hm hB,λ j hj=> ?_⟩;obtain⟨a,b,e1,e2,e3,e4,e5⟩:=h2 j hj;exact⟨a,b,e1,e2,e3,e4.moves hm,e5.moves hm⟩
theorem zrk.grown {w':World} {u:Value} {xs:List Value} (h2:zrk w xs q) (hg:w.grownBy w' u.ownBlock) (hn:zdc w u):zrk w' xs q:=λ j hj=>by
 obtain⟨a,b,e1,e2,e3,e4,e5⟩:=h2 j hj;exact⟨a,b,e1,e2,e3,e4.grown hg hn,e5.grown hg hn⟩
theorem zra.grown {w':World} {u:Value} (h:zra w e B v q) (hg:w.grownBy w' u.ownBlock) (hn:zdc w u) (hne:v.ownBlock=none\/v.ownBlock≠u.ownBlock):zra w' e B v q:=by
 obtain⟨xs,h1,h2⟩:=h;exact⟨xs,h1.grown hg hne,h2.grown hg hn⟩
theorem zra.mono {B':Nat} (h:zra w e B v q) (hB:B'<=B):zra w e B' v q:=by
 obtain⟨xs,h1,h2⟩:=h;refine⟨xs,⟨⟨h1.own.1,?_⟩,h1.nl⟩,h2⟩;rcases h1.own.2 with h | ⟨g,cap,cur,rfl,hb,rest⟩
 ·exact .inl h
 ·exact .inr ⟨g,cap,cur,rfl,zO,rest⟩
theorem zrk.snoc {xs:List Value} (h2:zrk w xs q) (hl:xs.length=q.length*3) {x y z:Value} {r:Rat} (hf:zna w (.agg #[x,y,z]) r):zrk w (xs++ [x,y,z]) (q++ [r]):=by
 intro j hj;obtain⟨a,b,ha,h4,h5⟩:=hf;injection ha with ha
 injection ha with ha
 simp only[List.cons.injEq,and_true]at ha;obtain⟨rfl,rfl,rfl⟩:=ha;rcases zOG j q.length with h | h
 ·obtain⟨a,b,e1,e2,e3,e4,e5⟩:=h2 j h;rw[zAL h];exact⟨a,b,by rw[List.getElem?_append_left zO];exact e1,by rw[List.getElem?_append_left zO];exact e2,by rw[List.getElem?_append_left zO];exact e3,e4,e5⟩
 ·obtain rfl:j=q.length:=by simp at hj;omega
  have e0:(q++ [r])[q.length]'hj=r:=by simp
  rw[e0,<-hl];refine⟨y,z,?_,?_,?_,h4,h5⟩
  ·rw[List.getElem?_append_right (zLR _)];simp
  ·rw[List.getElem?_append_right zO];simp
  ·rw[List.getElem?_append_right zO];simp
end
theorem zui {P:Program} (t e:TypeId) (i:TypeInfo) (ht:P.underlying t=some (.slice e)) (hi:P.info? e=some i) (hz:i.zero=some (.agg #[.bool false, .slice none 0 0, .slice none 0 0])) (hsize:i.size=3) (hby:i.bytes=56)
 (w0:World) {ops:Array Oper} {rest:List Oper} {o:Oper} {a:Act} {Q:Exit->Act->World->Prop} (hgd:o.guard=none) (s x:Operand)
 (ho:o.op= .call { callee:= .builtin .append,args:=#[s,x],argTypes:=#[t,t] }) (B:Nat) (e':TypeId)
 (v:Value) (q:List Rat) (hs:a.eval s=v) (hown:zra w0 e B v q) (c0 c1 c2:Value) (r:Rat) (hf:zna w0 (.agg #[c0,c1,c2]) r) (hxe:a.eval x= .slice (some ⟨w0.heap.size,0,none⟩) 1 1) (hn:q.length<=1000) (hbase:B<=w0.heap.size)
 (h:∀v' w',zra w' e B v' (q++ [r])->w0.grownBy w' v.ownBlock->zdc w0 v->(v'.ownBlock=v.ownBlock\/v'.ownBlock=some (w0.heap.size+1))->zlb v'->wpList P ops Q rest (a.put o.dst v') w'):
 wpList P ops Q (o::rest) a (w0.alloc (.cells #[c0,c1,c2] e')):=by
 obtain⟨xs,h1,h2⟩:=hown;have hl:xs.length=q.length*3:=h1.clen;have hf2:=hf;obtain⟨a1,b1,ha,h4,h5⟩:=hf2;injection ha with ha
 injection ha with ha
 simp only[List.cons.injEq,and_true]at ha;obtain⟨rfl,rfl,rfl⟩:=ha;obtain⟨p1,p2,p3,rfl,_⟩:=h4.v.sl;obtain⟨s1,s2,s3,rfl,_⟩:=h5.v.sl
 refine znd w0 hgd s x t ho B e e' i _ 3 56 ht hi hz hsize hby rfl zD (λ c hc z=>by
  have hc2:c∈ [Value.bool false, .slice none 0 0, .slice none 0 0]:=hc;simp at hc2;rcases hc2 with rfl | rfl<;>simp) v q.length xs hs h1 #[.bool (decide (r<0)), .slice p1 p2 p3, .slice s1 s2 s3] rfl hxe
  (λ u hu=>by simp at hu;rcases hu with rfl | rfl | rfl<;>rfl) (λ u hu z=>by simp at hu;rcases hu with rfl | rfl | rfl<;>simp) (by simp[maxLen];omega) zO hbase ?_
 intro v' w' k1 k2 k3;refine h v' w' ⟨_,?_,(zrk.snoc (r:=r) h2 hl hf).grown k2 h1.nl⟩ k2 h1.nl k3 k1.sl;rw[zLA];exact k1
theorem zzg {P:Program} (t e:TypeId) (i:TypeInfo) (z:Value) (bytes:Nat) (ht:P.underlying t=some (.slice e)) (hi:P.info? e=some i) (hz:i.zero=some z) (hsize:i.size=1) (hby:i.bytes=bytes) (hby2:bytes<=64) (hzc:z.cells=#[z]) (hzn:∀k,z≠ .int .u32 k)
 (w0:World) {ops:Array Oper} {rest:List Oper} {o:Oper} {a:Act} {Q:Exit->Act->World->Prop} (hgd:o.guard=none) (s x:Operand)
 (ho:o.op= .call { callee:= .builtin .append,args:=#[s,x],argTypes:=#[t,t] }) (B:Nat) (e':TypeId)
 (v:Value) (xs:List Value) (hs:a.eval s=v) (hown:zbc w0 e B 1 v xs.length xs) (c:Value) (hc1:c.oneCell'=true) (hcn:∀k,c≠ .int .u32 k) (hxe:a.eval x= .slice (some ⟨w0.heap.size,0,none⟩) 1 1) (hn:xs.length<=1000) (hbase:B<=w0.heap.size)
 (h:∀v' w',zbc w' e B 1 v' (xs++ [c]).length (xs++ [c])->w0.grownBy w' v.ownBlock->zdc w0 v->(v'.ownBlock=v.ownBlock\/v'.ownBlock=some (w0.heap.size+1))->zlb v'->wpList P ops Q rest (a.put o.dst v') w'):
 wpList P ops Q (o::rest) a (w0.alloc (.cells #[c] e')):=by
 refine znd w0 hgd s x t ho B e e' i _ 1 bytes ht hi hz hsize hby (by rw[hzc];rfl) zD (λ d hd=>by rw[hzc]at hd;simp at hd;subst hd;exact hzn) v xs.length xs hs hown #[c] rfl hxe
  (λ u hu=>by simp at hu;subst hu;exact hc1) (λ u hu z=>by simp at hu;subst hu;exact hcn z) (by simp[maxLen];omega) (by have :(xs.length+1)*bytes<=1001*64:=zMM zO hby2;omega) hbase ?_
 intro v' w' k1 k2 k3;refine h v' w' ?_ k2 hown.nl k3 k1.sl;rw[zLA];exact k1
theorem zid.frRow {w:World} {e:TypeId} {B n:Nat} {v:Value} {q:List Rat} (h:zid w e B v n) (hl:q.length=n) (he:∀j (hj:j<q.length),zol w v j q[j]):zra w e B v q:=by
 obtain⟨g,cs,rfl,h1,h2⟩:=id h;have hcl:cs.length=n*3:=h1.1;refine⟨cs,⟨by rw[hl];exact h1,?_⟩,λ j hj=> ?_⟩
 ·intro g' hg' cur e' fz hc c hcc z;rcases h1.2 with⟨h',_⟩ | ⟨g2,cap,cur2,h',hb,hg,_,_,hs,ht⟩
  ·cases h'
  ·(injection h' with h4 h5 h6);(injection h4 with h4);(injection h4 with h4);subst h4;simp only[Value.ownBlock,Option.some.injEq]at hg';subst hg';rw[hc]at hg;(injection hg with hg);(injection hg with hg _ _);subst hg
   have e9:cur.toList=cs:=by
    rw[<-ht];exact(zTL (by rw[Array.length_toList,hs,<-h6];exact zLR _)).symm
   exact h2 c (by rw[<-e9];exact hcc) z
 ·obtain⟨a,b,e1,e2,e3,e4,e5⟩:=he j hj
  have hc:∀i u,i<cs.length->w.cell? (ptr (.slice (some ⟨g,0,none⟩) n n) i)=some u->cs[i]? =some u:=λ i u hi hu=>by
   have:=World.ownsRow.cellAt h1 i zO;simp only[ptr,base,Addr.add_lit,Nat.zero_add]at hu;rw[hu]at this;exact this.symm
  exact⟨a,b,hc _ _ zO e1,hc _ _ zO e2,hc _ _ zO e3,e4,e5⟩
theorem make_one (w:World):Calls Tryz.prog 117 #[.int .u64 1] w (RNat w 1):=zmm 1 zD w
theorem C3.frac {w:World} {v0 v1 v2:Value} {q:Rat} (h:zna w (.agg #[v0,v1,v2]) q):∃s a1 l1 k1 a2 l2 k2,v0= .bool s/\v1= .slice a1 l1 k1/\v2= .slice a2 l2 k2:=by
 obtain⟨s,x,y,e,⟨a1,l1,k1,rfl,_⟩,⟨a2,l2,k2,rfl,_⟩⟩:=h.isF;injection e with e
 injection e with e
 simp at e;exact⟨s,a1,l1,k1,a2,l2,k2,e.1,e.2.1,e.2.2⟩
theorem C3.set_other {w:World} {b b':Nat} {v0 v1 v2:Value} (h:C3 w b v0 v1 v2) (hb:b≠b') (u0 u1 u2:Value):C3 (((w.setCell ⟨b',0,none⟩ u0).setCell ⟨b',1,none⟩ u1).setCell ⟨b',2,none⟩ u2) b v0 v1 v2:=by
 obtain⟨lt,c0,c1,c2,f0,f1,f2⟩:=h;refine⟨by simpa [World.setCell]using lt,?_,?_,?_,?_,?_,?_⟩<;>go_simp
theorem zpd {q:Rat} (h:fits q):okN q.num.natAbs q.den:=⟨q.den_nz,h.2,h.1⟩
set_option maxHeartbeats 1600000 in
theorem sum_frac (va:Value) (l:List RF) (w:World) (ha:zte w va l) (hok:∀x∈l,x.ok) (hfit:∀k,k<=l.length->fits (zof (qs (l.take k)))):
 Calls Tryz.prog 77 #[va] w λ e w'=>∃v,e= .returned (.tuple #[v, .int .i64 0])/\zna w' v (zof (qs l))/\Below w.heap.size w w':=by
 have sa:=ha.sl;have la:=ha.len;have hle:=sa.le;rw[la]at hle;have hlb:l.length<=9223372036854775807:=zO;have HOK:=zH hok;have HFIT:=zH hfit;clear hok hfit hle;go_enter Tryz.func77,Tryz.ntmps77;go_wp2_with (go_at_call 117;(with_reducible refine(make_one _).mono ?_);rintro e w1 ⟨r1,rfl,hr1,hb1⟩;obtain⟨a1,l1,k1,rfl,_⟩:=hr1.v.sl);have hb0:=(zba w (.cells #[.bool false, .slice none 0 0, .slice none 0 0] 53));have hbw:=zaa hb0 hb1;have hr:=(C3.new w 53 _ _ _).bS hb1;have hlt:w.heap.size<w1.heap.size:=hr.lt;have hr2:=hr.allocS (.cells #[.bool false, .slice none 0 0, .slice a1 l1 k1] 53);have hs2:=C3.new w1 53 (.bool false) (.slice none 0 0) (.slice a1 l1 k1);have hb2:=zaa hbw (zba w1 (.cells #[.bool false, .slice none 0 0, .slice a1 l1 k1] 53));have hf2:zna (w1.alloc (.cells #[.bool false, .slice none 0 0, .slice a1 l1 k1] 53)) (.agg #[.bool false, .slice none 0 0, .slice a1 l1 k1]) 0:=⟨_,_,rfl,zpb.nil _,hr1.bw (zba _ _)⟩;generalize w1.alloc (.cells #[.bool false, .slice none 0 0, .slice a1 l1 k1] 53)=W1 at *
 generalize w1.heap.size=S at *
 clear hb0 hb1 hbw hr hr1;go_loopw [13] (λ u13 wr=>∃ (k:Nat) (v0 v1 v2:Value),k<=l.length/\u13= .int .i64 k/\C3 wr S v0 v1 v2/\zna wr (.agg #[v0,v1,v2]) (zof (qs (l.take k)))/\C3 wr w.heap.size (.bool false) (.slice none 0 0) (.slice none 0 0)/\Below w.heap.size w wr) (λ u13 _=>l.length- (intOf u13).toNat);case atStart=>exact⟨0,_,_,_,zZL _,rfl,hs2,hf2,hr2,hb2⟩
 case round=>
  obtain⟨k,v0,v1,v2,hk,rfl,hs,hf,hr,hb⟩:=hrel;clear hs2 hf2 hr2 hb2;obtain⟨s0,b1,m1,j1,b2,m2,j2,rfl,rfl,rfl⟩:=C3.frac hf;have HS:=zH hs;have HR:=zH hr;have HF:=zH hf;obtain⟨_,s1,s2,s3,s4,s5,s6⟩:=hs;obtain⟨_,q1,q2,q3,q4,q5,q6⟩:=hr;clear hf;by_cases hkl:k<l.length
  ·obtain⟨xa,xb,c1,c2,c3,hxa,hxb⟩:=(ha.bw hb).at' k hkl;obtain⟨c1a,c1l,c1k,rfl,_⟩:=hxa.slen.1;obtain⟨c2a,c2l,c2k,rfl,_⟩:=hxb.slen.1;have hA:zjc (wr.alloc (.cells #[.bool l[k].neg, .slice c1a c1l c1k, .slice c2a c2l c2k] 53)) (.agg #[.bool l[k].neg, .slice c1a c1l c1k, .slice c2a c2l c2k]) l[k].neg l[k].n l[k].d:=⟨_,_,rfl,hxa.bw (zba _ _),hxb.bw (zba _ _)⟩;have hB:=(HF.o.raw).bw (zba wr (.cells #[.bool l[k].neg, .slice c1a c1l c1k, .slice c2a c2l c2k] 53));have hs1:=HS.o.allocS (.cells #[.bool l[k].neg, .slice c1a c1l c1k, .slice c2a c2l c2k] 53);have hr1:=HR.o.allocS (.cells #[.bool l[k].neg, .slice c1a c1l c1k, .slice c2a c2l c2k] 53);have hb1:=zaa hb (zba wr (.cells #[.bool l[k].neg, .slice c1a c1l c1k, .slice c2a c2l c2k] 53));have HO:zI (okN l[k].n l[k].d):=zH (HOK.o l[k] (zGM hkl));have HQ:=zH (zpd (HFIT.o k hk));have HE:zI (fq (decide (zof (qs (l.take k))<0)) (zof (qs (l.take k))).num.natAbs (zof (qs (l.take k))).den+fq l[k].neg l[k].n l[k].d=zof (qs (l.take (k+1)))):=zH (by rw[zrc,lsum_qs l k hkl];rfl);have HF1:=zH (HFIT.o (k+1) hkl);clear hb hxa hxb;go_wp2_with (go_at_call 107;(with_reducible refine(add_frac _ _ _ _ _ _ _ _ _ hB hA HQ.o HO.o).mono ?_);rw[HE.o];rintro e w7 ⟨v,er,rfl,hb7,hv7,_⟩;obtain⟨rfl,hv8⟩:=hv7 HF1.o;obtain⟨t9,a1,l91,k1,a2,l92,k2,rfl⟩:=hv8.iF;have hs8:=(hs1.bS hb7).allocS (.cells #[.bool t9, .slice a1 l91 k1, .slice a2 l92 k2] 53);have hr8:=(hr1.bS hb7).allocS (.cells #[.bool t9, .slice a1 l91 k1, .slice a2 l92 k2] 53);have hb8:=zaa (zaa hb1 hb7) (zba w7 (.cells #[.bool t9, .slice a1 l91 k1, .slice a2 l92 k2] 53));have hv9:=hv8.bw (zba w7 (.cells #[.bool t9, .slice a1 l91 k1, .slice a2 l92 k2] 53));have HS8:=zH hs8;obtain⟨_,d1,d2,d3,d4,d5,d6⟩:=hs8);go_roundw;(case rel=>exact⟨k+1,_,_,_,hkl,by go_num,HS8.o.set _ _ _,hv9.set3 HS8.o zZ zZ _ _ _,hr8.set_other zO _ _ _,zea hb8 zO _ _ _⟩);case measure=>simp[intOf];omega
  ·obtain rfl:k=l.length:=zO;have HF2:zI (zna wr (.agg #[.bool s0, .slice b1 m1 j1, .slice b2 m2 j2]) (zof (qs l))):=zH (by have h5:=HF.o;rw[List.take_length]at h5;exact h5);clear HF;go_wp2;refine zka rfl rfl Tryz.aggF Tryz.sizeF (HR.o.set _ _ _) rfl ?_;exact⟨_,rfl,HF2.o.set3 HR.o zZ zZ _ _ _,zea hb (zLR _) _ _ _⟩
end Go.Proofs.YtkpedaflofejnaaGreat
namespace Go.Proofs.YtkpedaflofejnaaGreat
theorem zuq (a:Int) (b:Nat) (hb:b≠0):mkRat a b<0↔a<0:=by
 have e:mkRat a b=fq (decide (a<0)) a.natAbs b:=by
  unfold fq sgn
  congr 1
  by_cases h:a<0
  ·rw[zIP (zDT h)];omega
  ·rw[zDF h];simp;omega
 have h:=fq_neg (decide (a<0)) a.natAbs b hb;rw[e];by_cases h0:a<0
 ·rw[zDT h0]at h |-
  have hg:0<a.natAbs/Nat.gcd a.natAbs b:=Nat.div_pos (Nat.le_of_dvd zO (Nat.gcd_dvd_left _ _)) (Nat.gcd_pos_of_pos_left _ zO);rw[zDT hg]at h;simp only[Bool.and_self,decide_eq_true_eq]at h;exact⟨λ _=>h0,λ _=>h⟩
 ·rw[zDF h0]at h |-
  simp only[Bool.false_and,decide_eq_false_iff_not]at h;exact⟨λ h'=>absurd h' h,λ h'=>absurd h' h0⟩
theorem fq_lt (s t:Bool) (n d m e:Nat) (hd:d≠0) (he:e≠0):fq s n d<fq t m e↔sgn s (n*e)<sgn t (m*d):=by
 have h1:fq s n d<fq t m e↔fq s n d-fq t m e<0:=by
  rw[Rat.lt_iff_sub_pos,Rat.lt_iff_sub_pos (fq s n d-fq t m e)];have :(0:Rat)- (fq s n d-fq t m e)=fq t m e-fq s n d:=by grind
  rw[this]
 have h2: -fq t m e=fq (!t) m e:=by
  unfold fq;rw[Rat.neg_mkRat]
  congr 1
  unfold sgn;cases t<;>simp
 rw[h1,Rat.sub_eq_add_neg,h2,fq_add _ _ _ _ _ _ hd he,zuq _ _ (zMZ hd he)];have h3:sgn (!t) (m*d)= -sgn t (m*d):=by unfold sgn;cases t<;>simp
 rw[h3];omega
def zto (p q:Rat):Int:=if p<q then -1 else if q<p then 1 else 0
theorem cmpR_eq (s t:Bool) (n d m e:Nat) (hd:d≠0) (he:e≠0):
 zto (fq s n d) (fq t m e)=if s&& !decide (n=0)&&(t&& !decide (m=0))then -zjl (n*e) (m*d)else if s&& !decide (n=0)then -1 else if t&& !decide (m=0)then 1 else zjl (n*e) (m*d):=by
 have hA:n*e=0↔n=0:=by rw[Nat.mul_eq_zero];exact⟨λ h=>h.resolve_right he,Or.inl⟩
 have hB:m*d=0↔m=0:=by rw[Nat.mul_eq_zero];exact⟨λ h=>h.resolve_right hd,Or.inl⟩
 have h1:=fq_lt s t n d m e hd he;have h2:=fq_lt t s m e n d he hd
 have e1:zto (fq s n d) (fq t m e)=if sgn s (n*e)<sgn t (m*d)then -1 else if sgn t (m*d)<sgn s (n*e)then 1 else 0:=by
  unfold zto;simp only[h1,h2]
 rw[e1];clear e1 h1 h2;generalize n*e=A at *
 generalize m*d=B at *
 unfold zjl sgn;have c1:decide (n=0)=decide (A=0):=by simp only[hA]
 have c2:decide (m=0)=decide (B=0):=by simp only[hB]
 rw[c1,c2];clear c1 c2 hA hB;by_cases hA:A=0<;>by_cases hB:B=0<;>cases s<;>cases t<;>simp[hA,hB]<;>(repeat' split)<;>omega
end Go.Proofs.YtkpedaflofejnaaGreat
namespace Go.Proofs.YtkpedaflofejnaaGreat
open Go.RowKit
theorem fits_ok (s:Bool) {n d:Nat} (h:okN n d):fits (fq s n d):=by
 rw[zho s n d h.1];exact⟨zLT (zlp (Nat.div_le_self _ _)) h.2.2,zLT (zlp (Nat.div_le_self _ _)) h.2.1⟩
def RRed (w0:World) (s:Bool) (n d:Nat) (e:Ending) (w:World):Prop:=
 ∃v er,e= .returned (.tuple #[v, .int .i64 er])/\Below w0.heap.size w0 w/\(okN n d->er=0/\zna w v (fq s n d))/\(¬okN n d->er=1/\v=zeroF)
theorem valid_no (v:Value) (s:Bool) (n d:Nat) (w:World) (h:zjc w v s n d) (hk:¬okN n d):
 Calls Tryz.prog 118 #[v] w λ e w'=>e= .returned (.bool false)/\Below w.heap.size w w':=
 (valid_any v s n d w h).mono λ e w' ⟨h1,h2⟩=>⟨by rw[h1,zDF hk],h2⟩
theorem zkh (w:World) (t:TypeId) (x0 x1 x2 y0 y1 y2:Value) (W:World)
 (hW:W=(w.alloc (.cells #[x0,x1,x2] t)).alloc (.cells #[y0,y1,y2] t)):
 C3 W w.heap.size x0 x1 x2/\C3 W (w.heap.size+1) y0 y1 y2/\Below w.heap.size w W:=by
 subst hW;have e1:(w.alloc (.cells #[x0,x1,x2] t)).heap.size=w.heap.size+1:=by show(w.heap.push _).size=_;simp
 refine⟨(C3.new w t x0 x1 x2).allocS _,?_,?_⟩
 ·rw[<-e1];exact C3.new _ t y0 y1 y2
 ·exact(zba w _).trans ((zba _ _).mono (zba w _).size)
set_option maxHeartbeats 1600000 in
theorem zli (va:Value) (s:Bool) (n d:Nat) (w:World) (ha:zjc w va s n d):
 Calls Tryz.prog 116 #[va] w (RRed w s n d):=by
 have hA:=ha;obtain⟨xn,xd,rfl,hxn,hxd⟩:=ha;obtain⟨an,ln,kn,rfl,_⟩:=hxn.slen.1;obtain⟨ad,ld,kd,rfl,_⟩:=hxd.slen.1;go_enter Tryz.func116,Tryz.ntmps116;go_wp2_with fail;obtain⟨W,hW⟩:∃W,W=((w.alloc (.cells #[.bool s, .slice an ln kn, .slice ad ld kd] 53)).alloc (.cells #[.bool false, .slice none 0 0, .slice none 0 0] 53)):=⟨_,rfl⟩;obtain⟨bx,bz,hbw⟩:=zkh w 53 _ _ _ _ _ _ W hW;rw[<-hW];clear hW;have HBX:=zH bx;have HBZ:=zH bz;obtain⟨_,q1,q2,q3,q4,q5,q6⟩:=bx;clear bz;by_cases hk:okN n d
 ·have K:=zH hk;have NN:=zH (zLT (zqc (n:=n) (k:=128) hk.2.2) (show 128<=512 by decide));have ND:=zH (zLT (zqc (n:=d) (k:=128) hk.2.1) (show 128<=512 by decide));have FT:=zH (fits_ok s hk);have D0:=zH hk.1;clear hk
  go_wp2_with (first
   |(go_at_call 118;(with_reducible refine(zlg _ s n d _ (hA.bw hbw) K.o).mono ?_);rintro e9 w1 ⟨rfl,hv1⟩;obtain⟨_,f1,f2,f3,f4,f5,f6⟩:=HBX.o.bS hv1;have hbw1:=zaa hbw hv1)
   |(go_at_call 135;(with_reducible refine(zfd s _ _ n d _ (hxn.bw hbw1) (hxd.bw hbw1) D0.o NN.o ND.o).mono ?_);rintro e9 w7 ⟨v,er7,rfl,hv5,hv2,hv3⟩;have hv4:=hv2 FT.o;obtain⟨t9,x9,y9,rfl,⟨a1,l91,k1,rfl,_⟩,⟨a2,l92,k2,rfl,_⟩⟩:=zyc (w0:=w) hv2 hv3;have hC:=(HBZ.o.bS hv1).bS hv5;have HC:=zH hC;have hbz:=zaa hbw1 hv5;obtain⟨_,d0,d1,d2,e0,e1,e2⟩:=hC))
  refine zka rfl rfl Tryz.aggF Tryz.sizeF (HC.o.set _ _ _) rfl ?_;exact⟨_,_,rfl,zea hbz zO _ _ _,λ h=>⟨rfl,hv4.2.set3 HC.o zZ zZ _ _ _⟩,λ h=>absurd K.o h⟩
 ·have K:=zH hk;clear hk
  go_wp2_with (first
   |(go_at_call 118;(with_reducible refine(valid_no _ s n d _ (hA.bw hbw) K.o).mono ?_);rintro e9 w1 ⟨rfl,hv1⟩;have hC:=HBZ.o.bS hv1;have HC:=zH hC;have hbz:=zaa hbw hv1;obtain⟨_,d0,d1,d2,e0,e1,e2⟩:=hC))
  refine zka rfl rfl Tryz.aggF Tryz.sizeF (HC.o.set _ _ _) rfl ?_;exact⟨_,_,rfl,zea hbz zO _ _ _,λ h=>absurd h K.o,λ _=>⟨rfl,rfl⟩⟩
theorem zla {P:Program} {ops:Array Oper} {o:Oper} {a:Act} {w:World} {K:Act->World->Prop} {Q:Exit->Act->World->Prop} {E:Prop} (f:FuncId) (argv:Array Value) (hg:Region.wanted o (yielded ops a.tmps)=true)
 (hrun:(execOp a.eval o).run P w= .ok (.enter f argv) w) {R:Ending->World->Prop} (hc:Calls P f argv w R) (h:∀e w',R e w'->∃v,e= .returned v/\K (a.put o.dst v) w'):
 if Region.wanted o (yielded ops a.tmps)=true then Oper.wp P o a w K Q else E:=by
 rw[zIP hg];unfold Oper.wp;rw[hrun,Oper.upon_enter];refine hc.mono λ e w' hr=> ?_
 obtain⟨v,rfl,hk⟩:=h e w' hr;exact hk
end Go.Proofs.YtkpedaflofejnaaGreat
