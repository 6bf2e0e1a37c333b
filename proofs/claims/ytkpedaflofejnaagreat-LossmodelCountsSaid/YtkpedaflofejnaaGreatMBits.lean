/- Lemmas. -/
import Derived.Test.YtkpedaflofejnaaGreatMRep
import Derived.Laws.AppendOwnNone
set_option linter.unusedVariables false
set_option linter.unusedSimpArgs false
namespace Go.Proofs.YtkpedaflofejnaaGreat
open Go.RowKit
def zib (w:World) (e:TypeId) (B:Nat) (v:Value) (es:List Value):Prop:=w.ownsRow B e 1 v es.length es
section
variable {w:World} {e:TypeId} {B:Nat} {v:Value} {es:List Value}
theorem zib.nil (w:World) (e:TypeId) (B:Nat):zib w e B (.slice none 0 0) []:=World.ownsRow_nil w B e 1
theorem zib.sl (h:zib w e B v es):zlb v:=by
 rcases h.2 with⟨rfl,h0⟩ | ⟨g,cap,cur,rfl,hb,hg,hn,hm,hs,ht⟩
 ·exact zlb.nil
 ·exact⟨_,_,_,rfl,hn,hm,λ e=>by cases e⟩
theorem zib.len (h:zib w e B v es):slen v=es.length:=by
 rcases h.2 with⟨rfl,h0⟩ | ⟨g,cap,cur,rfl,hb,hg,hn,hm,hs,ht⟩
 ·rw[h0];rfl
 ·rfl
theorem zib.cell (h:zib w e B v es) (j:Nat) (hj:j<es.length):w.cell? (ptr v j)=some es[j]:=by
 rcases h.2 with⟨rfl,h0⟩ | ⟨g,cap,cur,rfl,hb,hg,hn,hm,hs,ht⟩
 ·omega
 ·have:=World.ownsRow.cellAt h j zO;simp only[ptr,base,Addr.add_lit,Nat.zero_add];rw[this,zGE hj]
theorem zib.frozen (h:zib w e B v es) (j:Nat) (hj:j<es.length):w.frozen? (ptr v j)=false:=by
 rcases h.2 with⟨rfl,h0⟩ | ⟨g,cap,cur,rfl,hb,hg,hn,hm,hs,ht⟩
 ·omega
 ·have:=World.ownsRow.frozenAt h j;simpa only[ptr,base,Addr.add_lit,Nat.zero_add]using this
theorem zib.block (h:zib w e B v es) (hj:0<es.length):B<=(base v).block/\(base v).block<w.heap.size:=by
 rcases h.2 with⟨rfl,h0⟩ | ⟨g,cap,cur,rfl,hb,hg,hn,hm,hs,ht⟩
 ·omega
 ·exact⟨hb,(Array.getElem?_eq_some_iff.1 hg).1⟩
theorem zmc {w w':World} {row:Option Nat} {B:Nat} (hg:w.grownBy w' row) (hB:B<=w.heap.size) (hr:∀k,row=some k->B<=k):Below B w w':=
 (zBR B w).grown hg hB hr
theorem zeb {w w':World} (h:Below w.heap.size w w'):w.grownBy w' none:=
 ⟨h.os,h.tape,h.output,h.size,λ k hk _=>h.block k hk⟩
theorem zib.bw {w':World} (h:zib w e B v es) (hb:Below w.heap.size w w'):zib w' e B v es:=
 World.ownsRow.kept h (zeb hb) (by cases hv:v.ownBlock<;>simp)
theorem zib.alloc (h:zib w e B v es) (o:Obj):zib (w.alloc o) e B v es:=World.ownsRow.alloc h o
theorem zib.set (h:zib w e B v es) (j:Nat) (hj:j<es.length) (u:Value):zib (w.setCell (ptr v j) u) e B v (es.set j u)/\Below B w (w.setCell (ptr v j) u):=by
 have hbl:=h.block zO;rcases h.2 with⟨rfl,h0⟩ | ⟨g,cap,cur,rfl,hb,hg,hn,hm,hs,ht⟩
 ·omega
 ·have hs:=World.ownsRow.stored h j u;simp only[ptr,base,Addr.add_lit,Nat.zero_add];refine⟨?_,zmc hs.2 (by simp only[base]at hbl;omega) (λ k hk=>by simp at hk;omega)⟩;have:=hs.1;unfold zib;rw[zGS];exact this
theorem zib.other (h:zib w e B v es) (p:Addr) (u:Value) (hp:p.block≠(base v).block):zib (w.setCell p u) e B v es:=by
 refine⟨h.1,?_⟩;rcases h.2 with⟨rfl,h0⟩ | ⟨g,cap,cur,rfl,hb,hg,hn,hm,hs,ht⟩
 ·exact .inl ⟨rfl,h0⟩
 ·refine .inr ⟨g,cap,cur,rfl,hb,?_,hn,hm,hs,ht⟩;simp only[base]at hp;rw[Below.heap_setCell _ _ _ _ (λ e=>hp e.symm)];exact hg
theorem zib.mono {B':Nat} (h:zib w e B v es) (hB:B'<=B):zib w e B' v es:=by
 refine⟨h.1,?_⟩;rcases h.2 with⟨rfl,h0⟩ | ⟨g,cap,cur,rfl,hb,rest⟩
 ·exact .inl ⟨rfl,h0⟩
 ·exact .inr ⟨g,cap,cur,rfl,zO,rest⟩
end
theorem zkg {P:Program} (w:World) {ops:Array Oper} {rest:List Oper} {o:Oper} {a:Act} {Q:Exit->Act->World->Prop}
 (hg:o.guard=none) (l c:Operand) (t:TypeId) (hop:o.op=Op.makeSlice t l c)
 (B:Nat) (e:TypeId) (i:TypeInfo) (z:Value) (h1:P.underlying t=some (.slice e)) (h2:P.info? e=some i) (h3:i.zero=some z) (h4:i.size=1) (hz1:z.cells=#[z])
 (n:Nat) (hl:a.eval l= .int .i64 n) (hc:a.eval c= .int .i64 n) (b2:i.bytes*n<=281474976710656) (b3:n<=maxLen) (b4:B<=w.heap.size)
 (hK:∀v w',zib w' e B v (List.replicate n z)->Below w.heap.size w w'->w.heap.size<=(base v).block->wpList P ops Q rest (a.put o.dst v) w'):
 wpList P ops Q (o::rest) a w:=by
 refine wpList_make_full w hg l c t hop B e i z 1 h1 h2 h3 h4 .i64 .i64 n n n hl hc rfl rfl b2 b3 b4 ?_;intro w' hown hgr;refine hK _ w' ?_ (zmc hgr (zLR _) (λ k hk=>by cases hk)) (by simp[base]);have :(madeCells z.cells (n*1)).toList=List.replicate n z:=by rw[hz1,Nat.mul_one,toList_madeCells_one]
 rw[this]at hown;unfold zib;rw[zRP];exact hown
theorem zsl {P:Program} (w:World) (B:Nat) (t ty e:TypeId) (i:TypeInfo) (z:Value) (bytes:Nat) (ht:P.underlying t=some (.slice e)) (hi:P.info? e=some i) (hz:i.zero=some z)
 (hsize:i.size=1) (hby:i.bytes=bytes) (hzs:z.cells.size=1)
 (v:Value) (es:List Value) (hown:zib w e B v es) (x:Value) (hx:zlb x) (news:List Value) (hlen:slen x=news.length)
 (hnews:∀j (hj:j<news.length),w.cell? (ptr x j)=some news[j]) (h1:∀u∈news,u.oneCell'=true)
 (h63:es.length+news.length<=maxLen) (hbytes:(es.length+news.length)*bytes<=140737488355328) (hbase:B<=w.heap.size):
 ∃v' w',(Builtin.append_ #[t,t] ty #[v,x]).run P w= .ok v' w'/\zib w' e B v' (es++news)/\w.grownBy w' v.ownBlock:=by
 obtain⟨a,n,cap,rfl,hnc,hcm,hnil⟩:=hx;simp only[slen]at hlen;subst hlen
 cases a with
 | none=>
   have:=hnil rfl;obtain rfl:cap=0:=this;have hn:news= []:=List.eq_nil_of_length_eq_zero zO;subst hn;refine⟨v,w,run_append_owned_none w B t ty e i 1 ht hi v es.length es hown,?_,⟨rfl,rfl,rfl,zLR _,λ _ _ _=>rfl⟩⟩;rw[List.append_nil];exact hown
 | some a=>
   obtain⟨v',w',h2,h3,h4,_⟩:=run_append_own (P:=P) w B t ty e i z 1 bytes ht hi hz hsize hby hzs zO v es.length es hown a news.length cap news zO
    (λ j u hu=>by
     have hj:j<news.length:=(List.getElem?_eq_some_iff.1 hu).1;have:=hnews j hj;simp only[ptr,base]at this;rw[this];rw[zGE hj]at hu;exact hu) h1 h63 hbytes hbase
   refine⟨v',w',h2,?_,h4⟩;unfold zib;rw[zLA];exact h3
theorem zib.ownBlock {w:World} {e:TypeId} {B:Nat} {v:Value} {es:List Value} (h:zib w e B v es):∀k,v.ownBlock=some k->B<=k:=λ k hk=>(World.ownsRow.lt h k hk).1
theorem zmb {P:Program} (w:World) {ops:Array Oper} {rest:List Oper} {o:Oper} {a:Act} {Q:Exit->Act->World->Prop} (hgd:o.guard=none) (s x:Operand) (t:TypeId)
 (ho:o.op= .call { callee:= .builtin .append,args:=#[s,x],argTypes:=#[t,t] })
 (B:Nat) (e:TypeId) (i:TypeInfo) (z:Value) (bytes:Nat) (ht:P.underlying t=some (.slice e)) (hi:P.info? e=some i) (hz:i.zero=some z)
 (hsize:i.size=1) (hby:i.bytes=bytes) (hzs:z.cells.size=1)
 (v:Value) (es:List Value) (hs:a.eval s=v) (hown:zib w e B v es) (xv:Value) (hxe:a.eval x=xv) (hx:zlb xv) (news:List Value) (hlen:slen xv=news.length)
 (hnews:∀j (hj:j<news.length),w.cell? (ptr xv j)=some news[j]) (h1:∀u∈news,u.oneCell'=true)
 (h63:es.length+news.length<=maxLen) (hbytes:(es.length+news.length)*bytes<=140737488355328) (hbase:B<=w.heap.size)
 (h:∀v' w',zib w' e B v' (es++news)->w.grownBy w' v.ownBlock->Below B w w'->wpList P ops Q rest (a.put o.dst v') w'):wpList P ops Q (o::rest) a w:=by
 refine wpList_plain hgd λ K hK=> ?_
 obtain⟨v',w',hr,h2,h3⟩:=zsl (P:=P) w B t o.type e i z bytes ht hi hz hsize hby hzs v es hown xv hx news hlen hnews h1 h63 hbytes hbase;unfold Oper.wp execOp;simp only[ho,resolve,invoke,builtin,Sem.run_bind,Sem.run_pure,Result.andThen_ok,List.map_toArray,List.map_cons,List.map_nil,hs,hxe,hr];exact hK _ _ (h v' w' h2 h3 (zmc h3 hbase hown.ownBlock))
theorem zbh {P:Program} (w0:World) {ops:Array Oper} {rest:List Oper} {o:Oper} {a:Act} {Q:Exit->Act->World->Prop} (hgd:o.guard=none) (s x:Operand) (t:TypeId)
 (ho:o.op= .call { callee:= .builtin .append,args:=#[s,x],argTypes:=#[t,t] })
 (B:Nat) (e e':TypeId) (i:TypeInfo) (z:Value) (bytes:Nat) (ht:P.underlying t=some (.slice e)) (hi:P.info? e=some i) (hz:i.zero=some z)
 (hsize:i.size=1) (hby:i.bytes=bytes) (hzs:z.cells.size=1)
 (v:Value) (es:List Value) (hs:a.eval s=v) (hown:zib w0 e B v es) (u:Value) (hxe:a.eval x= .slice (some ⟨w0.heap.size,0,none⟩) 1 1) (h1:u.oneCell'=true)
 (h63:es.length+1<=maxLen) (hbytes:(es.length+1)*bytes<=140737488355328) (hbase:B<=w0.heap.size)
 (h:∀v' w',zib w' e B v' (es++ [u])->Below B w0 w'->wpList P ops Q rest (a.put o.dst v') w'):wpList P ops Q (o::rest) a (w0.alloc (.cells #[u] e')):=by
 refine zmb (w0.alloc (.cells #[u] e')) hgd s x t ho B e i z bytes ht hi hz hsize hby hzs v es hs (hown.alloc _) _ hxe ⟨_,1,1,rfl,zLR _,by simp[maxLen],λ e=>by cases e⟩ [u] rfl
  (λ j hj=> ?_) (λ u' hu'=>by simp at hu';subst hu';exact h1) h63 hbytes (by simp;omega) (λ v' w' h2 _ h3=>h v' w' h2 (((zBR B w0).alloc hbase _).trans h3))
 have hj0:j=0:=by simp at hj;omega
 subst hj0;simp[ptr,base,Addr.add]
def u32V (x:Nat):Value:= .int .u32 (x:Nat)
structure zsc (w:World) (e:TypeId) (B:Nat) (v:Value) (o:List Nat):Prop where
 own:zib w e B v (o.map u32V)
 lm:Lm o
section
variable {w:World} {e:TypeId} {B:Nat} {v:Value} {o:List Nat}
theorem zsc.nil (w:World) (e:TypeId) (B:Nat):zsc w e B (.slice none 0 0) []:=⟨zib.nil w e B,λ x h=>by simp at h⟩
theorem zsc.nat (h:zsc w e B v o):ztc w v o:=
 ⟨h.own.sl,by rw[h.own.len,zMP],λ j hj=>by rw[h.own.cell j (by simpa using hj)];simp[u32V],h.lm⟩
theorem zsc.bw {w':World} (h:zsc w e B v o) (hb:Below w.heap.size w w'):zsc w' e B v o:=⟨h.own.bw hb,h.lm⟩
theorem zsc.frozen (h:zsc w e B v o) (j:Nat) (hj:j<o.length):w.frozen? (ptr v j)=false:=h.own.frozen j (by simpa using hj)
theorem zsc.block (h:zsc w e B v o) (hj:0<o.length):B<=(base v).block/\(base v).block<w.heap.size:=h.own.block (by simpa using hj)
theorem Lm.set {o:List Nat} (h:Lm o) (j x:Nat) (hx:x<4294967296):Lm (o.set j x):=λ y hy=>by
 rcases List.mem_or_eq_of_mem_set hy with h' | h'
 ·exact h y h'
 ·omega
theorem Lm.append {o p:List Nat} (h:Lm o) (h':Lm p):Lm (o++p):=λ y hy=>(List.mem_append.1 hy).elim (h y) (h' y)
theorem Lm.one {x:Nat} (h:x<4294967296):Lm [x]:=λ y hy=>by simp at hy;omega
theorem Lm.take {o:List Nat} (h:Lm o) (k:Nat):Lm (o.take k):=λ y hy=>h y (List.mem_of_mem_take hy)
theorem Lm.drop {o:List Nat} (h:Lm o) (k:Nat):Lm (o.drop k):=λ y hy=>h y (List.mem_of_mem_drop hy)
theorem Lm.replicate (n:Nat):Lm (List.replicate n 0):=λ y hy=>by have:=List.eq_of_mem_replicate hy;omega
theorem zsc.set (h:zsc w e B v o) (j:Nat) (hj:j<o.length) (x:Nat) (hx:x<4294967296):
 zsc (w.setCell (ptr v j) (.int .u32 (x:Nat))) e B v (o.set j x)/\Below B w (w.setCell (ptr v j) (.int .u32 (x:Nat))):=by
 have:=h.own.set j (by simpa using hj) (u32V x);refine⟨⟨?_,h.lm.set j x hx⟩,this.2⟩;rw[List.map_set];exact this.1
end
theorem zml {P:Program} (t e:TypeId) (i:TypeInfo) (ht:P.underlying t=some (.slice e)) (hi:P.info? e=some i) (hz:i.zero=some (.int .u32 0))
 (hsize:i.size=1) (hby:i.bytes=4) (w:World) {ops:Array Oper} {rest:List Oper} {o:Oper} {a:Act} {Q:Exit->Act->World->Prop} (hgd:o.guard=none) (s x:Operand)
 (ho:o.op= .call { callee:= .builtin .append,args:=#[s,x],argTypes:=#[t,t] }) (B:Nat)
 (v:Value) (es:List Nat) (hs:a.eval s=v) (hown:zsc w e B v es) (xv:Value) (hxe:a.eval x=xv) (l:List Nat) (hx:ztc w xv l) (hb:es.length+l.length<=35184372088832) (hbase:B<=w.heap.size)
 (h:∀v' w',zsc w' e B v' (es++l)->w.grownBy w' v.ownBlock->Below B w w'->wpList P ops Q rest (a.put o.dst v') w'):wpList P ops Q (o::rest) a w:=by
 refine zmb w hgd s x t ho B e i (.int .u32 0) 4 ht hi hz hsize hby rfl v (es.map u32V) hs hown.own xv hxe hx.sl (l.map u32V) (by rw[hx.len,zMP])
  (λ j hj=>by rw[hx.cell j (by simpa using hj)];simp[u32V]) (λ u hu=>by obtain⟨x,_,rfl⟩:=List.mem_map.1 hu;rfl)
  (by simp[maxLen];omega) (by simp;omega) hbase ?_
 intro v' w' h2 h3 h4;exact h v' w' ⟨by rw[List.map_append];exact h2,hown.lm.append hx.lm⟩ h3 h4
theorem zah {P:Program} (t e:TypeId) (i:TypeInfo) (ht:P.underlying t=some (.slice e)) (hi:P.info? e=some i) (hz:i.zero=some (.int .u32 0))
 (hsize:i.size=1) (hby:i.bytes=4) (w0:World) {ops:Array Oper} {rest:List Oper} {o:Oper} {a:Act} {Q:Exit->Act->World->Prop} (hgd:o.guard=none) (s x:Operand)
 (ho:o.op= .call { callee:= .builtin .append,args:=#[s,x],argTypes:=#[t,t] }) (B:Nat) (e':TypeId)
 (v:Value) (es:List Nat) (hs:a.eval s=v) (hown:zsc w0 e B v es) (u:Int) (y:Nat) (hu:u=y) (hy:y<4294967296) (hxe:a.eval x= .slice (some ⟨w0.heap.size,0,none⟩) 1 1) (hb:es.length+1<=35184372088832) (hbase:B<=w0.heap.size)
 (h:∀v' w',zsc w' e B v' (es++ [y])->Below B w0 w'->wpList P ops Q rest (a.put o.dst v') w'):wpList P ops Q (o::rest) a (w0.alloc (.cells #[.int .u32 u] e')):=by
 subst hu;refine zbh w0 hgd s x t ho B e e' i (.int .u32 0) 4 ht hi hz hsize hby rfl v (es.map u32V) hs hown.own (u32V y) hxe rfl (by simp[maxLen];omega) (by simp;omega) hbase ?_;intro v' w' h2 h4;exact h v' w' ⟨by rw[List.map_append];exact h2,hown.lm.append (Lm.one hy)⟩ h4
theorem zfe {P:Program} (t e:TypeId) (i:TypeInfo) (h1:P.underlying t=some (.slice e)) (h2:P.info? e=some i) (h3:i.zero=some (.int .u32 0)) (h4:i.size=1) (h5:i.bytes=4)
 (w:World) {ops:Array Oper} {rest:List Oper} {o:Oper} {a:Act} {Q:Exit->Act->World->Prop} (hg:o.guard=none) (l c:Operand) (hop:o.op=Op.makeSlice t l c)
 (B:Nat) (u:Int) (n:Nat) (hu:u=n) (hl:a.eval l= .int .i64 u) (hc:a.eval c= .int .i64 u) (b2:n<=35184372088832) (b4:B<=w.heap.size)
 (hK:∀v w',zsc w' e B v (List.replicate n 0)->Below w.heap.size w w'->w.heap.size<=(base v).block->wpList P ops Q rest (a.put o.dst v) w'):
 wpList P ops Q (o::rest) a w:=by
 subst hu;refine zkg w hg l c t hop B e i (.int .u32 0) h1 h2 h3 h4 rfl n hl hc (by rw[h5];omega) (by simp[maxLen];omega) b4 ?_;intro v w' a1 a2 a3;exact hK v w' ⟨by rw[List.map_replicate];exact a1,Lm.replicate n⟩ a2 a3
set_option maxHeartbeats 400000
def zwb (w:World) (v:Value) (n:Nat):Prop:=∃l,ztc w v l/\val l=n/\l.length<=4294967296
def zpb (w:World) (v:Value) (n:Nat):Prop:=ztc w v (zja n)/\zda n<=4294967296
theorem zpb.nat {w:World} {v:Value} {n:Nat} (h:zpb w v n):zwb w v n:=⟨_,h.1,zfa n,h.2⟩
theorem zpb.bw {w w':World} {v:Value} {n:Nat} (h:zpb w v n) (hb:Below w.heap.size w w'):zpb w' v n:=⟨h.1.bw hb,h.2⟩
theorem zwb.bw {w w':World} {v:Value} {n:Nat} (h:zwb w v n) (hb:Below w.heap.size w w'):zwb w' v n:=by
 obtain⟨l,h,e⟩:=h;exact⟨l,h.bw hb,e⟩
theorem zpb.nil (w:World):zpb w (.slice none 0 0) 0:=by unfold zpb;rw[zgc,zkd];exact⟨ztc.nil w,zO⟩
theorem zwb.drawn {w:World} {v:Value} {n:Nat} (h:zwb w v n) (k:Nat):zwb (w.drewN k) v n:=h.bw (zia w k)
theorem zpb.drawn {w:World} {v:Value} {n:Nat} (h:zpb w v n) (k:Nat):zpb (w.drewN k) v n:=h.bw (zia w k)
theorem ztc.natN {w:World} {v:Value} {l:List Nat} (h:ztc w v l) (hl:l.length<=4294967296):zwb w v (val l):=⟨l,h,rfl,hl⟩
theorem zxb {l:List Nat} (h:Lm l):zda (val l)<=l.length:=by rw[<-zll h];exact zkl l
theorem ztc.can {w:World} {v:Value} {l:List Nat} (h:ztc w v l) (hl:l.length<=4294967296):zpb w (Go.Proofs.YtkpedaflofejnaaGreat.tk v (zda (val l))) (val l):=by
 refine⟨?_,zLT (zxb h.lm) hl⟩;rw[zco h.lm,<-zll h.lm];exact h.tk _ (zkl l)
theorem ztc.can3 {w:World} {v:Value} {l:List Nat} (h:ztc w v l) (hl:l.length<=4294967296):zpb w (Go.Proofs.YtkpedaflofejnaaGreat.tk3 v (zda (val l))) (val l):=by
 refine⟨?_,zLT (zxb h.lm) hl⟩;rw[zco h.lm,<-zll h.lm];exact h.tk3 _ (zkl l)
theorem length_v (v:Value) (l:List Nat) (w:World) (h:ztc w v l):
 Calls Tryz.prog 139 #[v] w λ e w'=>e= .returned (.int .i64 (clen l))/\w=w':=by
 have hs:=h.sl;have hlen:=h.len;have hle:=hs.le;go_enter Tryz.func139,Tryz.ntmps139;go_wp2;go_loop [3] (λ i=>∃k:Nat,k<=l.length/\i= .int .i64 k/\clen (l.take k)=clen l) (λ i=>(intOf i).toNat);case atStart=>exact⟨l.length,zLR _,rfl,by rw[List.take_length]⟩
 case round=>
  obtain⟨k,hk,rfl,hce⟩:=hrel;have HC:=zH hce;clear hce;by_cases h0:0<k
  ·obtain⟨j,rfl⟩:∃j,k=j+1:=⟨k-1,zO⟩;have hj:j<l.length:=zO;have hc:=h.cell j hj;go_wp2
   ·go_round;(case rel=>exact⟨j,zO,rfl,by rw[<-HC.o,zbg l j hj (by simp_all)]⟩);case measure=>simp[intOf]
   ·go_ret;exact⟨by rw[<-HC.o,znk l j hj (by simp_all)];simp,rfl⟩
  ·have hk0:k=0:=zO;subst hk0;go_wp2;go_ret;exact⟨by rw[<-HC.o];simp[clen],rfl⟩
theorem zcb (v:Value) (n:Nat) (w:World) (h:zwb w v n):
 Calls Tryz.prog 139 #[v] w λ e w'=>e= .returned (.int .i64 (zda n))/\w=w':=by
 obtain⟨l,h,rfl,_⟩:=h;rw[<-zll h.lm];exact length_v v l w h
theorem large_any (v:Value) (n:Nat) (w:World) (h:zwb w v n):
 Calls Tryz.prog 156 #[v] w λ e w'=>e= .returned (.bool (decide (512<zda n)))/\w=w':=by
 go_enter Tryz.func156,Tryz.ntmps156;go_wp2_with (go_at_call 139;refine(zcb v n _ h).mono ?_;rintro e w' ⟨rfl,rfl⟩);go_ret;exact⟨by congr 2;simp;omega,rfl⟩
def SizedP (w:World) (r:Value) (er:Int) (n:Nat):Prop:=(zda n<=512->er=0/\zpb w r n)/\(512<zda n->er=2/\zpb w r 0)
def zxp (w0:World) (n:Nat) (e:Ending) (w:World):Prop:=
 ∃r er,e= .returned (.tuple #[r, .int .i64 er])/\SizedP w r er n/\Below w0.heap.size w0 w
theorem zxj (v:Value) (l:List Nat) (w:World) (h:ztc w v l) (hll:l.length<=4294967296):
 Calls Tryz.prog 157 #[v] w (zxp w (val l)):=by
 have hs:=h.sl;have hlen:=h.len;have hle:=hs.le;have hcl:=zkl l;rw[zll h.lm]at hcl;have hcs:zda (val l)<=scap v:=zO;go_enter Tryz.func157,Tryz.ntmps157;go_wp2_with (go_at_call 139;refine(zcb v (val l) _ (h.natN hll)).mono ?_;rintro e w' ⟨rfl,rfl⟩)
 ·go_ret2;have hbig:¬zda (val l)<=512:=zO;exact⟨_,2,rfl,⟨λ h=>zO,λ _=>⟨rfl,zpb.nil w⟩⟩,zBR _ _⟩
 ·go_ret2;have hbig:zda (val l)<=512:=zO;exact⟨_,0,rfl,⟨λ _=>⟨rfl,h.can3 hll⟩,λ h=>zO⟩,zBR _ _⟩
theorem Tryz.info102 :(Tryz.prog.info? 134).map (λ i=>(i.zero,i.size,i.bytes))=some (some (.int .u32 0),1,4):=by kernel_rfl
def RNat (w0:World) (n:Nat) (e:Ending) (w:World):Prop:=∃r,e= .returned r/\zpb w r n/\Below w0.heap.size w0 w
theorem zbe (v:Value) (n:Nat) (w:World) (h:zwb w v n):
 Calls Tryz.prog 155 #[v] w (RNat w n):=by
 have hN:=h;obtain⟨l,hl,HE,hll⟩:=h;have hs:=hl.sl;have hlen:=hl.len;have hle:=hs.le;have hcan:=hl.can hll;rw[HE]at hcan;have hcl:=zxb hl.lm;rw[HE]at hcl;clear HE;have hcs:zda n<=scap v:=zO;obtain⟨i0,hi,hz0,hz1,hz2⟩:=info_parts Tryz.info102;have hroom:([]:List Nat).length+(zja n).length<=35184372088832:=by have:=hcan.2;unfold zda at this;simp;omega
 have hA:=zml (P:=Tryz.prog) 51 134 i0 Tryz.underlying51 hi hz0 hz1 hz2;go_enter Tryz.func155,Tryz.ntmps155
 go_wp2_with (first
  |(go_at_call 139;refine(zcb v n _ hN).mono ?_;rintro e w' ⟨rfl,rfl⟩)
  |(at_builtin;refine hA w rfl _ _ rfl w.heap.size _ [] rfl (zsc.nil _ _ _) _ rfl (zja n) hcan.1 hroom (zLR _) ?_;intro v' w1 hown _ hbel))
 go_ret;exact⟨v',rfl,⟨by simpa using hown.nat,hcan.2⟩,hbel⟩
theorem zpe (v:Value) (n:Nat) (w:World) (h:zwb w v n) (hn:zda n<=512):
 Calls Tryz.prog 156 #[v] w λ e w'=>e= .returned (.bool false)/\w=w':=
 (large_any v n w h).mono λ e w' ⟨h1,h2⟩=>⟨by rw[h1,zDF zO],h2⟩
theorem zwb.scap {w:World} {v:Value} {n:Nat} (h:zwb w v n):zlb v/\zda n<=scap v/\zpb w (Go.Proofs.YtkpedaflofejnaaGreat.tk v (zda n)) n:=by
 obtain⟨l,hl,rfl,hll⟩:=h;have:=hl.len;have:=hl.sl.le;have:=zxb hl.lm;exact⟨hl.sl,zO,hl.can hll⟩
set_option maxHeartbeats 800000 in
theorem add_any (va vb:Value) (m n:Nat) (w:World) (ha:zwb w va m) (hb:zwb w vb n) (hm:zda m<=512) (hn:zda n<=512):
 Calls Tryz.prog 140 #[va,vb] w (zxp w (m+n)):=by
 obtain⟨sa,ca,ka⟩:=ha.scap;obtain⟨sb,cb,kb⟩:=hb.scap;obtain⟨i0,hi,hz0,hz1,hz2⟩:=info_parts Tryz.info102;have hM:=zfe (P:=Tryz.prog) 51 134 i0 Tryz.underlying51 hi hz0 hz1 hz2;go_enter Tryz.func140,Tryz.ntmps140;go_wp2_with (go_at_call 156;first | ((with_reducible refine(zpe va m _ ha hm).mono ?_);rintro e w' ⟨rfl,rfl⟩) | ((with_reducible refine(zpe vb n _ hb hn).mono ?_);rintro e w' ⟨rfl,rfl⟩));go_quiet ((go_at_call 139;first | with_reducible exact Calls.quiet_of_same ((zcb va m _ (ha.drawn _)).mono λ e w' ⟨h1,h2⟩=>⟨h1,h2.symm⟩) | with_reducible exact Calls.quiet_of_same ((zcb vb n _ (hb.drawn _)).mono λ e w' ⟨h1,h2⟩=>⟨h1,h2.symm⟩)));have l1:slen (tk va (zda m))=zda m:=ka.1.len;have l2:slen (tk vb (zda n))=zda n:=kb.1.len;have s1:=ka.1.sl;have s2:=kb.1.sl;clear ha hb sa sb ca cb;generalize tk va (zda m)=xa at *
 generalize tk vb (zda n)=xb at *
 have kb':=kb.drawn nq;have ka':=ka.drawn nq;have hbel:=zia (B:=w.heap.size) w nq;generalize w.drewN nq=W at *
 by_cases hlt:zda m<zda n
 ·skip
  go_wp2_with (refine hM _ rfl _ _ rfl W.heap.size _ (zda n+1) rfl rfl rfl zO (zLR _) ?_;intro v w1 hown hb1 hvb);have hbw:Below w.heap.size w w1:=hbel.trans (hb1.mono hbel.size);clear hM
  go_loopw [7,36] (λ u7 u36 wr=>∃ (k c:Nat) (o:List Nat),k<=zda n/\u36= .int .i64 k/\u7= .int .u64 c/\c<=1/\zsc wr 134 W.heap.size v o/\o.length=zda n+1/\
   val (o.take k)+pw k*c=val ((zja n).take k)+val ((zja m).take k)/\Below W.heap.size W wr) (λ _ u36 _=>zda n- (intOf u36).toNat)
  case atStart=>exact⟨0,0,_,zZL _,rfl,rfl,zO,hown,by simp,by simp[val],hb1⟩
  case round=>
   obtain⟨k,c,o,hk,rfl,rfl,hc,hownr,hol,hval,hbr⟩:=hrel;have hcx:=((kb'.bw hbr).1).cell;have hcy:=((ka'.bw hbr).1).cell;have sv:=hownr.nat.sl;(have lv:slen v=zda n+1:=by rw[hownr.nat.len,hol]);have HV:=zH hval;clear hval;by_cases hkp:k<zda n
   ·have hx:=hcx k hkp;have hx1:(zja n)[k]'hkp<4294967296:=zvb n _ (zGM _);have hfz:=hownr.frozen k zO;have hco:=hownr.nat.cell k zO;clear hcx;by_cases hkq:k<zda m
    ·have hy:=hcy k hkq;have hy1:(zja m)[k]'hkq<4294967296:=zvb m _ (zGM _);clear hcy;have HX:=zH (zga (zja n) k hkp);have HY:=zH (zga (zja m) k hkq);generalize (zja n)[k]'hkp=x at *
     generalize (zja m)[k]'hkq=y at *
     go_wp2;have hset:=hownr.set k zO ((c+x+y)%4294967296) zO;rw[show(((c+x+y)%4294967296:Nat):Int)=((c:Int)+x+y)%4294967296 from zO]at hset;go_roundw;(case rel=>exact⟨k+1,(c+x+y)/4294967296,_,zO,by go_num,by go_num,zO,hset.1,by simp[hol],zpk zO HX.o HY.o HV.o,hbr.trans hset.2⟩);case measure=>simp[intOf];omega
    ·have HX:=zH (zga (zja n) k hkp);have HY:=zH (zef (zja m) k (by unfold zda at hkq;omega));clear hcy;generalize (zja n)[k]'hkp=x at *
     go_wp2;have hset:=hownr.set k zO ((c+x+0)%4294967296) zO;rw[show(((c+x+0)%4294967296:Nat):Int)=((c:Int)+x)%4294967296 from zO]at hset;go_roundw;(case rel=>exact⟨k+1,(c+x+0)/4294967296,_,zO,by go_num,by go_num,zO,hset.1,by simp[hol],zpk zO HX.o (by rw[HY.o];rfl) HV.o,hbr.trans hset.2⟩);case measure=>simp[intOf];omega
   ·have hkk:k=zda n:=zO;subst hkk;clear hcx hcy;have hfz:=hownr.frozen (zda n) zO;have hco:=hownr.nat.cell (zda n) zO;have hset:=hownr.set (zda n) zO c zO
    have hv2:val (o.set (zda n) c)=m+n:=by
     have e:=zqb o (zda n) c zO;rw[zTL (by simp;omega)]at e;rw[e,HV.o,zTL (show zda n<=zda n from zLR _),zTL (show zda m<=zda n by omega),zfa,zfa,Nat.add_comm]
    have HS:=zH (zxj v _ _ hset.1.nat (by simp;omega));have HV2:=zH hv2;have HB:=zH (hbr.trans hset.2);clear hset hv2 hbr HV;go_wp2_with (go_at_call 157;refine HS.o.mono ?_;rintro e w' ⟨r,er,rfl,hr,hbl⟩);go_ret2;rw[HV2.o]at hr;exact⟨r,er,rfl,hr,hbel.trans ((HB.o.trans (hbl.mono HB.o.size)).mono hbel.size)⟩
 ·skip
  go_wp2_with (refine hM _ rfl _ _ rfl W.heap.size _ (zda m+1) rfl rfl rfl zO (zLR _) ?_;intro v w1 hown hb1 hvb);have hbw:Below w.heap.size w w1:=hbel.trans (hb1.mono hbel.size);clear hM
  go_loopw [7,36] (λ u7 u36 wr=>∃ (k c:Nat) (o:List Nat),k<=zda m/\u36= .int .i64 k/\u7= .int .u64 c/\c<=1/\zsc wr 134 W.heap.size v o/\o.length=zda m+1/\
   val (o.take k)+pw k*c=val ((zja m).take k)+val ((zja n).take k)/\Below W.heap.size W wr) (λ _ u36 _=>zda m- (intOf u36).toNat)
  case atStart=>exact⟨0,0,_,zZL _,rfl,rfl,zO,hown,by simp,by simp[val],hb1⟩
  case round=>
   obtain⟨k,c,o,hk,rfl,rfl,hc,hownr,hol,hval,hbr⟩:=hrel;have hcx:=((ka'.bw hbr).1).cell;have hcy:=((kb'.bw hbr).1).cell;have sv:=hownr.nat.sl;(have lv:slen v=zda m+1:=by rw[hownr.nat.len,hol]);have HV:=zH hval;clear hval;by_cases hkp:k<zda m
   ·have hx:=hcx k hkp;have hx1:(zja m)[k]'hkp<4294967296:=zvb m _ (zGM _);have hfz:=hownr.frozen k zO;have hco:=hownr.nat.cell k zO;clear hcx;by_cases hkq:k<zda n
    ·have hy:=hcy k hkq;have hy1:(zja n)[k]'hkq<4294967296:=zvb n _ (zGM _);clear hcy;have HX:=zH (zga (zja m) k hkp);have HY:=zH (zga (zja n) k hkq);generalize (zja m)[k]'hkp=x at *
     generalize (zja n)[k]'hkq=y at *
     go_wp2;have hset:=hownr.set k zO ((c+x+y)%4294967296) zO;rw[show(((c+x+y)%4294967296:Nat):Int)=((c:Int)+x+y)%4294967296 from zO]at hset;go_roundw;(case rel=>exact⟨k+1,(c+x+y)/4294967296,_,zO,by go_num,by go_num,zO,hset.1,by simp[hol],zpk zO HX.o HY.o HV.o,hbr.trans hset.2⟩);case measure=>simp[intOf];omega
    ·have HX:=zH (zga (zja m) k hkp);have HY:=zH (zef (zja n) k (by unfold zda at hkq;omega));clear hcy;generalize (zja m)[k]'hkp=x at *
     go_wp2;have hset:=hownr.set k zO ((c+x+0)%4294967296) zO;rw[show(((c+x+0)%4294967296:Nat):Int)=((c:Int)+x)%4294967296 from zO]at hset;go_roundw;(case rel=>exact⟨k+1,(c+x+0)/4294967296,_,zO,by go_num,by go_num,zO,hset.1,by simp[hol],zpk zO HX.o (by rw[HY.o];rfl) HV.o,hbr.trans hset.2⟩);case measure=>simp[intOf];omega
   ·have hkk:k=zda m:=zO;subst hkk;clear hcx hcy;have hfz:=hownr.frozen (zda m) zO;have hco:=hownr.nat.cell (zda m) zO;have hset:=hownr.set (zda m) zO c zO
    have hv2:val (o.set (zda m) c)=m+n:=by
     have e:=zqb o (zda m) c zO;rw[zTL (by simp;omega)]at e;rw[e,HV.o,zTL (show zda m<=zda m from zLR _),zTL (show zda n<=zda m by omega),zfa,zfa,Nat.add_comm]
    have HS:=zH (zxj v _ _ hset.1.nat (by simp;omega));have HV2:=zH hv2;have HB:=zH (hbr.trans hset.2);clear hset hv2 hbr HV;go_wp2_with (go_at_call 157;refine HS.o.mono ?_;rintro e w' ⟨r,er,rfl,hr,hbl⟩);go_ret2;rw[HV2.o]at hr;exact⟨r,er,rfl,hr,hbel.trans ((HB.o.trans (hbl.mono HB.o.size)).mono hbel.size)⟩
set_option maxHeartbeats 800000
theorem ztn (w:World) (e:TypeId) (x y:Nat) (hx:x<4294967296) (hy:y<4294967296):
 ztc (w.alloc (.cells #[.int .u32 (x:Nat), .int .u32 (y:Nat)] e)) (.slice (some ⟨w.heap.size,0,none⟩) 2 2) [x,y]:=by
 refine⟨⟨_,2,2,rfl,zLR _,by simp[maxLen],λ e=>by cases e⟩,rfl,λ j hj=> ?_,λ z hz=> ?_⟩
 ·have :j=0\/j=1:=by simp at hj;omega
  rcases this with rfl | rfl<;>simp[ptr,base,Addr.add]
 ·simp at hz;omega
theorem zmm (n:Nat) (hn:n<18446744073709551616) (w:World):
 Calls Tryz.prog 117 #[.int .u64 n] w (RNat w n):=by
 have HN:=ztn w 134 (n%4294967296) (n/4294967296) zO zO;rw[show((n%4294967296:Nat):Int)=(n:Int)%4294967296 from zO,show((n/4294967296:Nat):Int)=(n:Int)/4294967296 from zO]at HN;have hv:val [n%4294967296,n/4294967296]=n:=by simp[val];omega
 have HL:=zH (zcb _ _ _ (HN.natN (by simp)));have HC:=zH (HN.can (by simp));have HV:=zH hv;have hle:zda n<=2:=zcc.2 (by simp[pw];omega);have HB:=zH ((zBR w.heap.size w).alloc (zLR _) (.cells #[.int .u32 ((n:Int)%4294967296), .int .u32 ((n:Int)/4294967296)] 134));clear HN hv;go_enter Tryz.func117,Tryz.ntmps117;go_wp2_with (go_at_call 139;refine HL.o.mono ?_;rw[HV.o];rintro e w' ⟨rfl,rfl⟩);go_ret;refine⟨_,rfl,?_,HB.o⟩;have:=HC.o;rw[HV.o]at this;exact this
theorem zwb.len_le {w:World} {v:Value} {n:Nat} (h:zwb w v n):zda n<=4294967296:=by
 obtain⟨l,hl,rfl,hll⟩:=h;exact zLT (zxb hl.lm) hll
theorem zwb.cells {w:World} {v:Value} {n:Nat} (h:zwb w v n):∀ (j:Nat) (hj:j<zda n),w.cell? (ptr v j)=some (.int .u32 ((zja n)[j]'hj:Nat)):=by
 obtain⟨l,hl,rfl,hll⟩:=h;intro j hj;have:=(hl.can hll).1.cell j hj;rwa[ptr_tk]at this
theorem zwb.slen {w:World} {v:Value} {n:Nat} (h:zwb w v n):zlb v/\zda n<=Go.Proofs.YtkpedaflofejnaaGreat.slen v/\Go.Proofs.YtkpedaflofejnaaGreat.slen v<=4294967296:=by
 obtain⟨l,hl,rfl,hll⟩:=h;exact⟨hl.sl,by rw[hl.len];exact zxb hl.lm,by rw[hl.len];exact hll⟩
theorem zlo (va vb:Value) (m n:Nat) (w:World) (ha:zwb w va m) (hb:zwb w vb n):
 Calls Tryz.prog 119 #[va,vb] w λ e w'=>e= .returned (.int .i64 (zjl m n))/\∃k,w'=w.drewN k:=by
 obtain⟨sa,la,ua⟩:=ha.slen;obtain⟨sb,lb,ub⟩:=hb.slen;have ca:=ha.cells;have cb:=hb.cells;go_enter Tryz.func119,Tryz.ntmps119;go_wp2_with (go_at_call 139;first | ((with_reducible refine(zcb va m _ ha).mono ?_);rintro e w' ⟨rfl,rfl⟩) | ((with_reducible refine(zcb vb n _ hb).mono ?_);rintro e w' ⟨rfl,rfl⟩))
 ·go_ret;exact⟨by rw[zdi (zqi (by assumption))];rfl,0,rfl⟩
 ·go_ret;exact⟨by rw[zmo (zqi (by assumption))];rfl,0,rfl⟩
 ·have he:zda m=zda n:=zO;go_loopw [7] (λ i wr=>∃k q:Nat,k<=zda m/\i= .int .i64 ((k:Int)-1)/\(zja m).drop k=(zja n).drop k/\wr=w.drewN q) (λ i _=>(intOf i+1).toNat);case atStart=>exact⟨zda m,0,zLR _,by simp,by rw[List.drop_of_length_le (show zda m<=zda m from zLR _),List.drop_of_length_le (show zda n<=zda m by omega)],rfl⟩
  case round=>
   obtain⟨k,q,hk,rfl,hd,rfl⟩:=hrel;have HD:=zH hd;have HE:=zH he;clear hd he;by_cases hk0:0<k
   ·obtain⟨j,rfl⟩:∃j,k=j+1:=⟨k-1,zO⟩;have hj1:j<zda m:=zO;(have hj2:j<zda n:=by have:=HE.o;omega);have h1:=ca j hj1;have h2:=cb j hj2;have hlt:=zwe (zvb m) j hj1 hj2 HD.o;have hgt:=zwe (zvb n) j hj2 hj1 HD.o.symm;have heq:=ztp j hj1 hj2 HD.o;rw[zfa,zfa]at hlt hgt;clear ca cb HD;generalize (zja m)[j]'hj1=x at *
    generalize (zja n)[j]'hj2=y at *
    have HL:=zH hlt;have HG:=zH hgt;have HQ:=zH heq;clear hlt hgt heq;by_cases hxy:x<y
    ·go_wp2;go_quiet (fail);go_wp2;go_ret;exact⟨by rw[zdi (HL.o hxy)];rfl,_,by first | rfl | (simp only[World.drewN_drewN];rfl)⟩
    ·by_cases hyx:y<x
     ·go_wp2;go_quiet (fail);go_wp2;go_quiet (fail);go_wp2;go_ret;exact⟨by rw[zmo (HG.o hyx)];rfl,_,by first | rfl | (simp only[World.drewN_drewN];rfl)⟩
     ·go_wp2;go_quiet (fail);go_wp2;go_quiet (fail);go_wp2;go_roundw;(case rel=>exact⟨j,_,zO,by go_num,HQ.o zO,by first | rfl | (simp only[World.drewN_drewN];rfl)⟩);case measure=>simp[intOf]
   ·obtain rfl:k=0:=zO;have hmn:m=n:=zxh (by simpa using HD.o);have HM:=zH hmn;clear hmn;go_wp2;go_ret;exact⟨by rw[cmpN_eq HM.o];rfl,_,rfl⟩
end Go.Proofs.YtkpedaflofejnaaGreat
namespace Go.Proofs.YtkpedaflofejnaaGreat
theorem zrn (a b s:Nat) (h:b<2^s):(2^s*a) ||| b=2^s*a+b:=(Nat.two_pow_add_eq_or_of_lt h a).symm
theorem or_lo (r x:Nat) (hr:r<4294967296) (hx:x<4294967296):bits .or .u64 ((r:Int)*4294967296) (x:Int)=((r*4294967296+x:Nat):Int):=by
 have h:=u64_or_nat (4294967296*r) x zO zO;rw[show((4294967296*r:Nat):Int)=(r:Int)*4294967296 from zO]at h;rw[h];have:=zrn r x 32 zO;rw[show(2:Nat)^32=4294967296 from zD]at this;rw[this]
 congr 1
 omega
theorem or_hi (c x P s:Nat) (hP:P=2^s) (hc:c<P) (hx:P*x<18446744073709551616) (hPl:P<18446744073709551616):bits .or .u64 (c:Int) ((P*x:Nat):Int)=((P*x+c:Nat):Int):=by
 subst hP;rw[u64_or_nat c (2^s*x) zO hx,Nat.or_comm,zrn x c s hc]
theorem zhc (n:Int):IntKind.u64.wrap n=n%18446744073709551616:=by
 simp[IntKind.wrap,IntKind.bits,IntKind.signed]
theorem div_limb (t d:Nat) (h:t/d<4294967296):IntKind.u64.wrap ((t:Int)/d)%4294967296=((t/d:Nat):Int):=by
 rw[zhc,<-Int.natCast_ediv];generalize t/d=q at *;omega
theorem or_up (c x s:Nat) (hs:s<32) (hc:c<2^s) (hx:x<4294967296):bits .or .u64 (c:Int) (IntKind.u64.wrap ((x:Int)*2^s))=((2^s*x+c:Nat):Int):=by
 have hP:2^s<=2^31:=Nat.pow_le_pow_right zD zO;have h1:2^s*x<=2^31*4294967295:=zMM hP zO;have h2:((x:Int)*2^s)=((2^s*x:Nat):Int):=by rw[Int.natCast_mul,Int.natCast_pow];exact Int.mul_comm _ _
 rw[h2,zhc];have h3:((2^s*x:Nat):Int)%18446744073709551616=((2^s*x:Nat):Int):=zO;rw[h3];exact or_hi c x (2^s) s rfl hc zO zO
theorem up_bound (c x s:Nat) (hs:s<32) (hc:c<2^s) (hx:x<4294967296):2^s*x+c<18446744073709551616/\(2^s*x+c)/4294967296<2^s:=by
 have hP:2^s<=2^31:=Nat.pow_le_pow_right zD zO;have h1:2^s*x<=2^31*4294967295:=zMM hP zO;have h2:2^s*(x+1)<=2^s*4294967296:=zML _ zO;rw[Nat.mul_add,Nat.mul_one]at h2;refine⟨zO,?_⟩;rw[Nat.div_lt_iff_lt_mul zD];omega
end Go.Proofs.YtkpedaflofejnaaGreat
