/- Lemmas. -/
import Derived.Test.YtlpdkbmmbdfoiaaGreatPOwR
set_option linter.unusedVariables false
set_option linter.unusedSimpArgs false
namespace Go.Proofs.YtlpdkbmmbdfoiaaGreat
open Go.RowKit
structure zkb (B:Nat) (w w':World):Prop where
 size:w.heap.size<=w'.heap.size
 row:∀g,B<=g->g<w.heap.size->w'.heap[g]? =w.heap[g]?
 limb:∀p z,w.cell? p=some (.int .u32 z)->w'.cell? p=some (.int .u32 z)
theorem zkb.refl (B:Nat) (w:World):zkb B w w:=⟨zLR _,λ _ _ _=>rfl,λ _ _ h=>h⟩
theorem zkb.trans {B:Nat} {a b c:World} (h:zkb B a b) (k:zkb B b c):zkb B a c:=
 ⟨zLT h.size k.size,λ g h1 h2=>(k.row g h1 (zLM h2 h.size)).trans (h.row g h1 h2),λ p z hp=>k.limb p z (h.limb p z hp)⟩
theorem zkb.bw {B:Nat} {w w':World} (h:Below w.heap.size w w'):zkb B w w':=⟨h.size,λ g _ h2=>h.block g h2,λ p z hp=>zba h hp⟩
theorem zkb.set {B:Nat} {w:World} {p:Addr} {x:Value} (hp:p.block<B) (hc:w.cell? p=some x) (hx:∀z,x≠ .int .u32 z) (u:Value):zkb B w (w.setCell p u):=by
 refine⟨by simp[World.setCell],λ g h1 h2=>Below.heap_setCell _ _ _ _ zO,λ q z hq=> ?_⟩;rw[zCO]
 ·exact hq
 ·intro e;rw[<-e,hc]at hq;injection hq with hq
  exact hx _ hq
theorem ztc.moves {B:Nat} {w w':World} {v:Value} {l:List Nat} (h:ztc w v l) (hm:zkb B w w'):ztc w' v l:=⟨h.sl,h.len,λ j hj=>hm.limb _ _ (h.cell j hj),h.lm⟩
theorem zub.moves {B:Nat} {w w':World} {v:Value} {n:Nat} (h:zub w v n) (hm:zkb B w w'):zub w' v n:=⟨h.v.moves hm,h.2⟩
theorem zia.moves {B:Nat} {w w':World} {v:Value} {q:Rat} (h:zia w v q) (hm:zkb B w w'):zia w' v q:=by
 obtain⟨a,b,rfl,h1,h2⟩:=h;exact⟨a,b,rfl,h1.moves hm,h2.moves hm⟩
theorem zkc.moves {B B':Nat} {w w':World} {e:TypeId} {size n:Nat} {v:Value} {xs:List Value} (h:zkc w e B' size v n xs) (hm:zkb B w w') (hB:B<=B'):zkc w' e B' size v n xs:=by
 have hlt:=h.block;refine⟨⟨h.own.1,?_⟩,λ g hg cur e' fz hc=> ?_⟩
 ·rcases h.own.2 with⟨rfl,h0⟩ | ⟨g,cap,cur,rfl,hb,hg,rest⟩
  ·exact .inl ⟨rfl,h0⟩
  ·refine .inr ⟨g,cap,cur,rfl,hb,?_,rest⟩;rw[hm.row g (zLT hB hb) (hlt g rfl).2];exact hg
 ·obtain⟨h1,h2⟩:=hlt g hg;rw[hm.row g (zLT hB h1) h2]at hc;exact h.nl g hg cur e' fz hc
theorem zkc.kinds {w:World} {e e':TypeId} {B B' size size' n n':Nat} {v v':Value} {xs xs':List Value} (h:zkc w e B size v n xs) (h':zkc w e' B' size' v' n' xs') (hne:e≠e'):v.ownBlock=none\/v.ownBlock≠v'.ownBlock:=by
 cases hv:v.ownBlock with
 | none=>exact Or.inl rfl
 | some g=>
   refine Or.inr (λ he=> ?_);obtain⟨c,fz,h1⟩:=Lib.ownsRow_kind h.own g hv;obtain⟨c',fz',h2⟩:=Lib.ownsRow_kind h'.own g he.symm;rw[h1]at h2;(injection h2 with h2);(injection h2 with _ h2);exact hne h2
def zmg (w:World) (xs:List Value) (q:List Rat):Prop:=
 ∀ (j:Nat) (h:j<q.length),∃a b,xs[j*3]? =some (.bool (decide (q[j]<0)))/\xs[j*3+1]? =some a/\xs[j*3+2]? =some b/\zub w a q[j].num.natAbs/\zub w b q[j].den
def zua (w:World) (e:TypeId) (B:Nat) (v:Value) (q:List Rat):Prop:=∃xs,zkc w e B 3 v q.length xs/\zmg w xs q
section
variable {w:World} {e:TypeId} {B:Nat} {v:Value} {q:List Rat}
theorem zua.nil (w:World) (e:TypeId) (B:Nat):zua w e B (.slice none 0 0) []:=⟨[],zkc.nil _ _ _ _,λ j h=>by simp at h⟩
theorem zua.fracs (h:zua w e B v q):zwa w v q:=by
 obtain⟨xs,h1,h2⟩:=h;refine⟨h1.sl,h1.len,λ j hj=> ?_⟩;obtain⟨a,b,e1,e2,e3,e4,e5⟩:=h2 j hj
 have hc:∀i u,xs[i]? =some u->w.cell? (ptr v i)=some u:=λ i u hi=>by
  obtain⟨h6,h7⟩:=List.getElem?_eq_some_iff.1 hi;rw[h1.cell i h6,h7]
 exact⟨a,b,hc _ _ e1,hc _ _ e2,hc _ _ e3,e4,e5⟩
theorem zua.sl (h:zua w e B v q):zvc v:=h.fracs.sl
theorem zua.block (h:zua w e B v q):∀k,v.ownBlock=some k->B<=k/\k<w.heap.size:=by obtain⟨xs,h1,_⟩:=h;exact h1.block
theorem zua.moves {B':Nat} {w':World} (h:zua w e B v q) (hm:zkb B' w w') (hB:B'<=B):zua w' e B v q:=by
 obtain⟨xs,h1,h2⟩:=h;refine⟨xs,h1.moves hm hB,λ j hj=> ?_⟩;obtain⟨a,b,e1,e2,e3,e4,e5⟩:=h2 j hj;exact⟨a,b,e1,e2,e3,e4.moves hm,e5.moves hm⟩
theorem zmg.grown {w':World} {u:Value} {xs:List Value} (h2:zmg w xs q) (hg:w.grownBy w' u.ownBlock) (hn:zrb w u):zmg w' xs q:=λ j hj=>by
 obtain⟨a,b,e1,e2,e3,e4,e5⟩:=h2 j hj;exact⟨a,b,e1,e2,e3,e4.grown hg hn,e5.grown hg hn⟩
theorem zua.grown {w':World} {u:Value} (h:zua w e B v q) (hg:w.grownBy w' u.ownBlock) (hn:zrb w u) (hne:v.ownBlock=none\/v.ownBlock≠u.ownBlock):zua w' e B v q:=by
 obtain⟨xs,h1,h2⟩:=h;exact⟨xs,h1.grown hg hne,h2.grown hg hn⟩
theorem zua.mono {B':Nat} (h:zua w e B v q) (hB:B'<=B):zua w e B' v q:=by
 obtain⟨xs,h1,h2⟩:=h;refine⟨xs,⟨⟨h1.own.1,?_⟩,h1.nl⟩,h2⟩;rcases h1.own.2 with h | ⟨g,cap,cur,rfl,hb,rest⟩
 ·exact .inl h
 ·exact .inr ⟨g,cap,cur,rfl,zO,rest⟩
theorem zmg.snoc {xs:List Value} (h2:zmg w xs q) (hl:xs.length=q.length*3) {x y z:Value} {r:Rat} (hf:zia w (.agg #[x,y,z]) r):zmg w (xs++ [x,y,z]) (q++ [r]):=by
 intro j hj;obtain⟨a,b,ha,h4,h5⟩:=hf;injection ha with ha
 injection ha with ha
 simp only[List.cons.injEq,and_true]at ha;obtain⟨rfl,rfl,rfl⟩:=ha;rcases zOG j q.length with h | h
 ·obtain⟨a,b,e1,e2,e3,e4,e5⟩:=h2 j h;rw[zAL h];exact⟨a,b,by rw[List.getElem?_append_left zO];exact e1,by rw[List.getElem?_append_left zO];exact e2,by rw[List.getElem?_append_left zO];exact e3,e4,e5⟩
 ·obtain rfl:j=q.length:=by simp at hj;omega
  have e0:(q++ [r])[q.length]'hj=r:=by simp
  rw[e0,<-hl];refine⟨y,z,?_,?_,?_,h4,h5⟩
  ·rw[List.getElem?_append_right (zLR _)];simp
  ·rw[List.getElem?_append_right zO];simp
  ·rw[List.getElem?_append_right zO];simp
end
theorem zgh {P:Program} (t e:TypeId) (i:TypeInfo) (ht:P.underlying t=some (.slice e)) (hi:P.info? e=some i) (hz:i.zero=some (.agg #[.bool false, .slice none 0 0, .slice none 0 0])) (hsize:i.size=3) (hby:i.bytes=56)
 (w0:World) {ops:Array Oper} {rest:List Oper} {o:Oper} {a:Act} {Q:Exit->Act->World->Prop} (hgd:o.guard=none) (s x:Operand)
 (ho:o.op= .call { callee:= .builtin .append,args:=#[s,x],argTypes:=#[t,t] }) (B:Nat) (e':TypeId)
 (v:Value) (q:List Rat) (hs:a.eval s=v) (hown:zua w0 e B v q) (c0 c1 c2:Value) (r:Rat) (hf:zia w0 (.agg #[c0,c1,c2]) r) (hxe:a.eval x= .slice (some ⟨w0.heap.size,0,none⟩) 1 1) (hn:q.length<=1000) (hbase:B<=w0.heap.size)
 (h:∀v' w',zua w' e B v' (q++ [r])->w0.grownBy w' v.ownBlock->zrb w0 v->(v'.ownBlock=v.ownBlock\/v'.ownBlock=some (w0.heap.size+1))->zvc v'->wpList P ops Q rest (a.put o.dst v') w'):
 wpList P ops Q (o::rest) a (w0.alloc (.cells #[c0,c1,c2] e')):=by
 obtain⟨xs,h1,h2⟩:=hown;have hl:xs.length=q.length*3:=h1.clen;have hf2:=hf;obtain⟨a1,b1,ha,h4,h5⟩:=hf2;injection ha with ha
 injection ha with ha
 simp only[List.cons.injEq,and_true]at ha;obtain⟨rfl,rfl,rfl⟩:=ha;obtain⟨p1,p2,p3,rfl,_⟩:=h4.v.sl;obtain⟨s1,s2,s3,rfl,_⟩:=h5.v.sl
 refine zzh w0 hgd s x t ho B e e' i _ 3 56 ht hi hz hsize hby rfl zD (λ c hc z=>by
  have hc2:c∈ [Value.bool false, .slice none 0 0, .slice none 0 0]:=hc;simp at hc2;rcases hc2 with rfl | rfl<;>simp) v q.length xs hs h1 #[.bool (decide (r<0)), .slice p1 p2 p3, .slice s1 s2 s3] rfl hxe
  (λ u hu=>by simp at hu;rcases hu with rfl | rfl | rfl<;>rfl) (λ u hu z=>by simp at hu;rcases hu with rfl | rfl | rfl<;>simp) (by simp[maxLen];omega) zO hbase ?_
 intro v' w' k1 k2 k3;refine h v' w' ⟨_,?_,(zmg.snoc (r:=r) h2 hl hf).grown k2 h1.nl⟩ k2 h1.nl k3 k1.sl;rw[zLA];exact k1
theorem zwh {P:Program} (t e:TypeId) (i:TypeInfo) (z:Value) (bytes:Nat) (ht:P.underlying t=some (.slice e)) (hi:P.info? e=some i) (hz:i.zero=some z) (hsize:i.size=1) (hby:i.bytes=bytes) (hby2:bytes<=64) (hzc:z.cells=#[z]) (hzn:∀k,z≠ .int .u32 k)
 (w0:World) {ops:Array Oper} {rest:List Oper} {o:Oper} {a:Act} {Q:Exit->Act->World->Prop} (hgd:o.guard=none) (s x:Operand)
 (ho:o.op= .call { callee:= .builtin .append,args:=#[s,x],argTypes:=#[t,t] }) (B:Nat) (e':TypeId)
 (v:Value) (xs:List Value) (hs:a.eval s=v) (hown:zkc w0 e B 1 v xs.length xs) (c:Value) (hc1:c.oneCell'=true) (hcn:∀k,c≠ .int .u32 k) (hxe:a.eval x= .slice (some ⟨w0.heap.size,0,none⟩) 1 1) (hn:xs.length<=1000) (hbase:B<=w0.heap.size)
 (h:∀v' w',zkc w' e B 1 v' (xs++ [c]).length (xs++ [c])->w0.grownBy w' v.ownBlock->zrb w0 v->(v'.ownBlock=v.ownBlock\/v'.ownBlock=some (w0.heap.size+1))->zvc v'->wpList P ops Q rest (a.put o.dst v') w'):
 wpList P ops Q (o::rest) a (w0.alloc (.cells #[c] e')):=by
 refine zzh w0 hgd s x t ho B e e' i _ 1 bytes ht hi hz hsize hby (by rw[hzc];rfl) zD (λ d hd=>by rw[hzc]at hd;simp at hd;subst hd;exact hzn) v xs.length xs hs hown #[c] rfl hxe
  (λ u hu=>by simp at hu;subst hu;exact hc1) (λ u hu z=>by simp at hu;subst hu;exact hcn z) (by simp[maxLen];omega) (by have :(xs.length+1)*bytes<=1001*64:=zMM zO hby2;omega) hbase ?_
 intro v' w' k1 k2 k3;refine h v' w' ?_ k2 hown.nl k3 k1.sl;rw[zLA];exact k1
theorem zec.frRow {w:World} {e:TypeId} {B n:Nat} {v:Value} {q:List Rat} (h:zec w e B v n) (hl:q.length=n) (he:∀j (hj:j<q.length),zri w v j q[j]):zua w e B v q:=by
 obtain⟨g,cs,rfl,h1,h2⟩:=id h;have hcl:cs.length=n*3:=h1.1;refine⟨cs,⟨by rw[hl];exact h1,?_⟩,λ j hj=> ?_⟩
 ·intro g' hg' cur e' fz hc c hcc z;rcases h1.2 with⟨h',_⟩ | ⟨g2,cap,cur2,h',hb,hg,_,_,hs,ht⟩
  ·cases h'
  ·(injection h' with h4 h5 h6);(injection h4 with h4);(injection h4 with h4);subst h4;simp only[Value.ownBlock,Option.some.injEq]at hg';subst hg';rw[hc]at hg;(injection hg with hg);(injection hg with hg _ _);subst hg
   have e9:cur.toList=cs:=by
    rw[<-ht];exact(zTL (by rw[Array.length_toList,hs,<-h6];exact zLR _)).symm
   exact h2 c (by rw[<-e9];exact hcc) z
 ·obtain⟨a,b,e1,e2,e3,e4,e5⟩:=he j hj
  have hc:∀i u,i<cs.length->w.cell? (ptr (.slice (some ⟨g,0,none⟩) n n) i)=some u->cs[i]? =some u:=λ i u hi hu=>by
   have:=World.ownsRow.cellAt h1 i zO;simp only[ptr,base,Addr.add_lit,Nat.zero_add]at hu;rw[hu]at this;exact this.symm
  exact⟨a,b,hc _ _ zO e1,hc _ _ zO e2,hc _ _ zO e3,e4,e5⟩
set_option maxHeartbeats 800000
def RNatO (w0:World) (n:Nat) (e:Ending) (w:World):Prop:=∃r,e= .returned r/\zzc w 142 w0.heap.size r (zoa n)/\zha n<=4294967296/\Below w0.heap.size w0 w
theorem RNatO.nat {w0:World} {n:Nat} {e:Ending} {w:World} (h:RNatO w0 n e w):RNat w0 n e w:=by
 obtain⟨r,h1,h2,h3,h4⟩:=h;exact⟨r,h1,⟨h2.nat,h3⟩,h4⟩
theorem zqg (l:List Nat) (j:Nat) (hj:j<l.length):l.getD j 0=l[j]:=by simp[List.getD,hj]
theorem zxn (v:Value) (n:Nat) (w:World) (h:zcc w v n):
 Calls Tryz.prog 106 #[v] w (RNatO w n):=by
 obtain⟨l,hl,HE,hll⟩:=h;have hs:=hl.sl;have hlen:=hl.len;have hle:=hs.le;have hcan:=hl.can hll;rw[HE]at hcan;have hce:clen l=zha n:=by rw[zdm hl.lm,HE]
 have hcl:=zic hl.lm;rw[HE]at hcl;have HCE:=zH hce;clear HE hce;have HLL:=zH hll;clear hll;have hcs:zha n<=scap v:=zO;obtain⟨i0,hi,hz0,hz1,hz2⟩:=info_parts Tryz.info102;have hroom:([]:List Nat).length+(zoa n).length<=35184372088832:=by have:=hcan.2;unfold zha at this;simp;omega
 have hA:=zhm (P:=Tryz.prog) 36 142 i0 Tryz.underlying36 hi hz0 hz1 hz2;have HR:=zH hroom;have HN:=zH hcan;clear hroom hcan hi hz0 hz1 hz2;go_enter Tryz.func106,Tryz.ntmps106;go_wp2;go_loop [3] (λ i=>∃k:Nat,k<=l.length/\i= .int .i64 k/\clen (l.take k)=clen l) (λ i=>(intOf i).toNat);case atStart=>exact⟨l.length,zLR _,by simp[hlen],by rw[List.take_length]⟩
 case round=>
  obtain⟨k,hk,rfl,hce⟩:=hrel;have HC:=zH hce;clear hce;by_cases h1:0<k/\l.getD (k-1) 0=0
  ·obtain⟨h0,hx⟩:=h1;obtain⟨j,rfl⟩:∃j,k=j+1:=⟨k-1,zO⟩;have hj:j<l.length:=zO;rw[Nat.add_sub_cancel,zqg _ _ hj]at hx;have hc:=hl.cell j hj;have HZ:=zH (zsg l j hj hx);rw[hx]at hc;clear hx;go_wp2_with fail;go_round;(case rel=>exact⟨j,zO,rfl,by rw[<-HC.o,HZ.o]⟩);case measure=>simp[intOf]
  ·have e:zha n=k:=by
    rw[<-HCE.o,<-HC.o];by_cases h0:0<k
    ·obtain⟨j,rfl⟩:∃j,k=j+1:=⟨k-1,zO⟩;have hj:j<l.length:=zO;exact zel l j hj (λ hx=>h1 ⟨h0,by rw[Nat.add_sub_cancel,zqg _ _ hj,hx]⟩)
    ·obtain rfl:k=0:=zO;rfl
   rw[e]at HN hcs hcl
   have hc:0<k->∃x:Nat,w.cell? (ptr v (k-1))=some (.int .u32 x)/\(((x:Nat):Int)==0)=false:=λ h0=>by
    have hj:k-1<l.length:=zO;refine⟨_,hl.cell (k-1) hj,?_⟩;(have :l[k-1]≠0:=λ hx=>h1 ⟨h0,by rw[zqg _ _ hj,hx]⟩);have :((l[k-1]:Nat):Int)≠0:=zO;simpa using this
   clear h1 e;rcases Nat.eq_zero_or_pos k with h0 | h0
   ·clear hc;subst h0;go_wp2_with (at_builtin;refine hA w rfl _ _ rfl w.heap.size _ [] rfl (zzc.nil _ _ _) _ rfl (zoa n) HN.o.1 HR.o (zLR _) ?_;intro v' w1 hown _ hbel);go_ret;exact⟨v',rfl,by simpa using hown,HN.o.2,hbel⟩
   ·obtain⟨x,hx,hx3⟩:=hc h0;clear hc;go_wp2_with (at_builtin;refine hA w rfl _ _ rfl w.heap.size _ [] rfl (zzc.nil _ _ _) _ rfl (zoa n) HN.o.1 HR.o (zLR _) ?_;intro v' w1 hown _ hbel);go_ret;exact⟨v',rfl,by simpa using hown,HN.o.2,hbel⟩
theorem zta (v:Value) (n:Nat) (w:World) (h:zcc w v n):
 Calls Tryz.prog 106 #[v] w (RNat w n):=(zxn v n w h).mono λ _ _ h=>h.nat
theorem zke (n:Nat) (hn:n<18446744073709551616) (w:World):
 Calls Tryz.prog 72 #[.int .u64 n] w (RNat w n):=by
 have HN:=zno w 142 (n%4294967296) (n/4294967296) zO zO;rw[show((n%4294967296:Nat):Int)=(n:Int)%4294967296 from zO,show((n/4294967296:Nat):Int)=(n:Int)/4294967296 from zO]at HN;have hv:val [n%4294967296,n/4294967296]=n:=by simp[val];omega
 have HL:=HN.natN (by simp);rw[hv]at HL;have HT:=zH (zta _ _ _ HL);have HB:=zH ((zBR w.heap.size w).alloc (zLR _) (.cells #[.int .u32 ((n:Int)%4294967296), .int .u32 ((n:Int)/4294967296)] 142));clear HN hv HL;go_enter Tryz.func72,Tryz.ntmps72;go_wp2_with (go_at_call 106;refine HT.o.mono ?_;rintro e w1 ⟨r,rfl,hr,hb⟩);go_ret;exact⟨_,rfl,hr,HB.o.trans (hb.mono HB.o.size)⟩
theorem znl (v:Value) (n:Nat) (w:World) (h:zcc w v n):
 Calls Tryz.prog 152 #[v] w λ e w'=>e= .returned (.bool (decide (512<zha n)))/\Below w.heap.size w w':=by
 go_enter Tryz.func152,Tryz.ntmps152;go_wp2_with (go_at_call 106;refine(zta v n _ h).mono ?_;rintro e w1 ⟨r,rfl,hr,hb⟩;have h1:=hr.1.sl;have h2:slen r=zha n:=hr.1.len);go_ret;exact⟨by congr 2;simp;omega,hb⟩
theorem zud (v:Value) (n:Nat) (w:World) (h:zcc w v n) (hn:zha n<=512):
 Calls Tryz.prog 152 #[v] w λ e w'=>e= .returned (.bool false)/\Below w.heap.size w w':=
 (znl v n w h).mono λ e w' ⟨h1,h2⟩=>⟨by rw[h1,zDF zO],h2⟩
theorem zjf (va vb:Value) (m n:Nat) (w:World) (ha:zcc w va m) (hb:zcc w vb n):
 Calls Tryz.prog 77 #[va,vb] w λ e w'=>e= .returned (.int .i64 (zbm m n))/\Below w.heap.size w w':=by
 go_enter Tryz.func77,Tryz.ntmps77
 go_wp2_with (go_at_call 106;first
  |((with_reducible refine(zta va m _ ha).mono ?_);rintro e w1 ⟨ra,rfl,hra,hb1⟩)
  |((with_reducible refine(zta vb n _ (hb.bw hb1)).mono ?_);rintro e w2 ⟨rb,rfl,hrb,hb2⟩
    have h1:=(hra.bw hb2).1.sl;have h2:slen ra=zha m:=(hra.bw hb2).1.len;have h3:=hrb.1.sl;have h4:slen rb=zha n:=hrb.1.len;have h5:zha m<=4294967296:=hra.2))
 ·go_ret;exact⟨by rw[zqi (zdj (by assumption))];rfl,hb1.trans (hb2.mono hb1.size)⟩
 ·have hne:((zha m:Nat):Int)≠zha n:=by simpa using ‹((zha m:Int) != (zha n:Int))=true›
  have hlt:¬zha m<zha n:=by assumption
  go_ret;exact⟨by rw[zlp (zdj zO)];rfl,hb1.trans (hb2.mono hb1.size)⟩
 ·have he:zha m=zha n:=by
   (have :((zha m:Nat):Int)=zha n:=by simpa using ‹((zha m:Int) != (zha n:Int))=false›);omega
  have HB:=zH (hb1.trans (hb2.mono hb1.size));have ca:=(hra.bw hb2).1.cell;have cb:=hrb.1.cell;have hln:=hrb.2;clear ha hb hb1 hb2 hra hrb;have HE:=zH he;rw[<-he]at hln;clear he;go_loopw [5] (λ i wr=>∃k q:Nat,k<=zha m/\i= .int .i64 ((k:Int)-1)/\(zoa m).drop k=(zoa n).drop k/\wr=w2.drewN q) (λ i _=>(intOf i+1).toNat);case atStart=>exact⟨zha m,0,zLR _,by simp,by rw[List.drop_of_length_le (show zha m<=zha m from zLR _),List.drop_of_length_le (show zha n<=zha m by have:=HE.o;omega)],rfl⟩
  case round=>
   obtain⟨k,q,hk,rfl,hd,rfl⟩:=hrel;have HD:=zH hd;clear hd;by_cases hk0:0<k
   ·obtain⟨j,rfl⟩:∃j,k=j+1:=⟨k-1,zO⟩;have hj1:j<zha m:=zO;(have hj2:j<zha n:=by have:=HE.o;omega);have h7:=ca j hj1;have h8:=cb j hj2;have hlt:=zif (zgc m) j hj1 hj2 HD.o;have hgt:=zif (zgc n) j hj2 hj1 HD.o.symm;have heq:=zkq j hj1 hj2 HD.o;rw[zka,zka]at hlt hgt;clear ca cb HD;generalize (zoa m)[j]'hj1=x at *
    generalize (zoa n)[j]'hj2=y at *
    have HL:=zH hlt;have HG:=zH hgt;have HQ:=zH heq;clear hlt hgt heq;by_cases hxy:x<y
    ·go_wp2;go_quiet (fail);go_wp2;go_ret;exact⟨by rw[zqi (HL.o hxy)];rfl,by first | exact HB.o.trans ((zna _ _).mono HB.o.size) | (simp only[World.drewN_drewN];exact HB.o.trans ((zna _ _).mono HB.o.size))⟩
    ·by_cases hyx:y<x
     ·go_wp2;go_quiet (fail);go_wp2;go_quiet (fail);go_wp2;go_ret;exact⟨by rw[zlp (HG.o hyx)];rfl,by first | exact HB.o.trans ((zna _ _).mono HB.o.size) | (simp only[World.drewN_drewN];exact HB.o.trans ((zna _ _).mono HB.o.size))⟩
     ·go_wp2;go_quiet (fail);go_wp2;go_quiet (fail);go_wp2;go_roundw;(case rel=>exact⟨j,_,zO,by go_num,HQ.o zO,by first | rfl | (simp only[World.drewN_drewN];rfl)⟩);case measure=>simp[intOf]
   ·obtain rfl:k=0:=zO;have hmn:m=n:=zmi (by simpa using HD.o);have HM:=zH hmn;clear hmn;go_wp2;go_ret;exact⟨by rw[cmpN_eq HM.o];rfl,HB.o.trans ((zna _ _).mono HB.o.size)⟩
set_option maxHeartbeats 1000000
theorem zjh (l:List Nat) (k:Nat):val (l.take (k+1))=val (l.take k)+pw k*l.getD k 0:=by
 by_cases h:k<l.length
 ·rw[zma l k h,zqg l k h]
 ·rw[zfb l (k+1) zO,zfb l k zO];have :l.getD k 0=0:=by simp[List.getD,List.getElem?_eq_none (Nat.le_of_not_lt h)]
  rw[this,Nat.mul_zero,Nat.add_zero]
theorem zfk (o:List Nat) (z:Nat):val (o++ [z])=val o+pw o.length*z:=by rw[zwc];simp[val]
theorem zok {o a b:List Nat} {k c x y:Nat} (ho:o.length=k) (ha:val (a.take (k+1))=val (a.take k)+pw k*x) (hb:val (b.take (k+1))=val (b.take k)+pw k*y)
 (hv:val o+pw k*c=val (a.take k)+val (b.take k)):
 val (o++ [(c+x+y)%4294967296])+pw (k+1)*((c+x+y)/4294967296)=val (a.take (k+1))+val (b.take (k+1)):=by
 rw[zfk,ha,hb,zyb,ho];have h:(c+x+y)%4294967296+4294967296*((c+x+y)/4294967296)=c+x+y:=zO;generalize (c+x+y)%4294967296=z at *
 generalize (c+x+y)/4294967296=d at *
 grind
theorem plus_any (va vb:Value) (a b:List Nat) (w:World) (ha:ztc w va a) (hb:ztc w vb b) (hla:a.length<=65536) (hlb:b.length<=65536):
 Calls Tryz.prog 153 #[va,vb] w (RNat w (val a+val b)):=by
 obtain⟨i0,hi,hz0,hz1,hz2⟩:=info_parts Tryz.info102;have hA1:=zxh (P:=Tryz.prog) 36 142 i0 Tryz.underlying36 hi hz0 hz1 hz2;clear hi hz0 hz1 hz2;have sa:=ha.sl;have sb:=hb.sl;have la:=ha.len;have lb:=hb.len;go_enter Tryz.func153,Tryz.ntmps153;go_wp2_with fail
 go_loopw [5,6,7] (λ u5 u6 u7 wr=>∃ (k c:Nat) (o:List Nat),k<=65537/\(c=0\/k<=a.length\/k<=b.length)/\u7= .int .i64 k/\u6= .int .u64 c/\c<=1/\zzc wr 142 w.heap.size u5 o/\o.length=k/\
  val o+pw k*c=val (a.take k)+val (b.take k)/\Below w.heap.size w wr) (λ _ u6 u7 _=>2*(a.length+b.length+1- (intOf u7).toNat)+(intOf u6).toNat)
 case atStart=>exact⟨0,0,[],zO,Or.inl rfl,rfl,rfl,zO,zzc.nil _ _ _,rfl,by simp[val],zBR _ _⟩
 case round=>
  obtain⟨k,c,o,hkb,hk,rfl,rfl,hc,hownr,hol,hval,hbr⟩:=hrel;have HOL:=zH hol;have HV:=zH hval;have HK:=zH hk;have HO:zI (o.length+1<=4294967296):=zH zO;clear hol hval hk;by_cases h1:k<a.length
  ·have hx:=(ha.bw hbr).cell k h1;have hx1:=ha.lt k h1;have HX:=zH (zma a k h1);generalize a[k]=x at *
   have HK1:zI ((c+x+0)/4294967296=0\/k+1<=a.length\/k+1<=b.length):=zH zO;by_cases h2:k<b.length
   ·have hy:=(hb.bw hbr).cell k h2;have hy1:=hb.lt k h2;have HY:=zH (zma b k h2);generalize b[k]=y at *
    have HS:=zH (zok HOL.o HX.o HY.o HV.o);have HK1:zI ((c+x+y)/4294967296=0\/k+1<=a.length\/k+1<=b.length):=zH zO;go_wp2_with (at_builtin;refine hA1 wr rfl _ _ rfl w.heap.size _ u5 o rfl (by exact hownr) _ ((c+x+y)%4294967296) zO zO rfl (zLT HO.o zD) hbr.size ?_;intro v' w1 hown1 hbel1);go_roundw;(case rel=>exact⟨k+1,(c+x+y)/4294967296,_,by have:=HK.o;omega,HK1.o,by go_num,by go_num,zO,hown1,by simp[HOL.o],HS.o,hbr.trans (hbel1.mono (zLR _))⟩);case measure=>simp[intOf];omega
   ·have HS:=zH (zok (y:=0) HOL.o HX.o (by rw[zfb b (k+1) zO,zfb b k zO];simp) HV.o);go_wp2_with (at_builtin;refine hA1 wr rfl _ _ rfl w.heap.size _ u5 o rfl (by exact hownr) _ ((c+x+0)%4294967296) zO zO rfl (zLT HO.o zD) hbr.size ?_;intro v' w1 hown1 hbel1);go_roundw;(case rel=>exact⟨k+1,(c+x+0)/4294967296,_,by have:=HK.o;omega,HK1.o,by go_num,by go_num,zO,hown1,by simp[HOL.o],HS.o,hbr.trans (hbel1.mono (zLR _))⟩);case measure=>simp[intOf];omega
  ·by_cases h2:k<b.length
   ·have hy:=(hb.bw hbr).cell k h2;have hy1:=hb.lt k h2;have HY:=zH (zma b k h2);generalize b[k]=y at *
    have HS:=zH (zok (x:=0) HOL.o (by rw[zfb a (k+1) zO,zfb a k zO];simp) HY.o HV.o);have HK1:zI ((c+0+y)/4294967296=0\/k+1<=a.length\/k+1<=b.length):=zH zO;go_wp2_with (at_builtin;refine hA1 wr rfl _ _ rfl w.heap.size _ u5 o rfl (by exact hownr) _ ((c+0+y)%4294967296) zO zO rfl (zLT HO.o zD) hbr.size ?_;intro v' w1 hown1 hbel1);go_roundw;(case rel=>exact⟨k+1,(c+0+y)/4294967296,_,by have:=HK.o;omega,HK1.o,by go_num,by go_num,zO,hown1,by simp[HOL.o],HS.o,hbr.trans (hbel1.mono (zLR _))⟩);case measure=>simp[intOf];omega
   ·have e1:=zfb a k zO;have e2:=zfb b k zO;have f1:=zfb a (k+1) zO;have f2:=zfb b (k+1) zO;by_cases hc0:0<c
    ·obtain rfl:c=1:=zO;have HS:=zH (zok (x:=0) (y:=0) HOL.o (by rw[e1,f1];simp) (by rw[e2,f2];simp) HV.o);have HK1:zI ((1+0+0)/4294967296=0\/k+1<=a.length\/k+1<=b.length):=zH (Or.inl rfl);clear e1 e2 f1 f2;go_wp2_with (at_builtin;refine hA1 wr rfl _ _ rfl w.heap.size _ u5 o rfl (by exact hownr) _ ((1+0+0)%4294967296) zO zO rfl (zLT HO.o zD) hbr.size ?_;intro v' w1 hown1 hbel1);go_roundw;(case rel=>exact⟨k+1,(1+0+0)/4294967296,_,by have:=HK.o;omega,HK1.o,by go_num,by go_num,zO,hown1,by simp[HOL.o],HS.o,hbr.trans (hbel1.mono (zLR _))⟩);case measure=>simp[intOf];omega
    ·obtain rfl:c=0:=zO;(have hv:val o=val a+val b:=by have:=HV.o;rw[e1,e2]at this;omega);have HT:=zta _ _ wr (hownr.nat.natN (by have:=HO.o;omega));rw[hv]at HT;have HT2:=zH HT;clear HT hv e1 e2 f1 f2;go_wp2_with (go_at_call 106;refine HT2.o.mono ?_;rintro e w1 ⟨r,rfl,hr,hb⟩);go_ret;exact⟨r,rfl,hr,hbr.trans (hb.mono hbr.size)⟩
theorem zcj {o a b:List Nat} {k bo x y z bo':Nat} (ho:o.length=k) (ha:val (a.take (k+1))=val (a.take k)+pw k*x) (hb:val (b.take (k+1))=val (b.take k)+pw k*y)
 (hz:z+bo+y=x+4294967296*bo') (hv:val o+val (b.take k)=val (a.take k)+pw k*bo):
 val (o++ [z])+val (b.take (k+1))=val (a.take (k+1))+pw (k+1)*bo':=by
 rw[zfk,ha,hb,zyb,ho];grind
theorem minus_end {o a b:List Nat} {bo:Nat} (hb:val b<=val a) (ho:Lm o) (hol:o.length=a.length) (hbo:bo<=1) (hv:val o+val b=val a+pw a.length*bo):val o=val a-val b:=by
 have h1:=zgg ho;rw[hol]at h1;rcases Nat.eq_zero_or_pos bo with h | h
 ·subst h;omega
 ·obtain rfl:bo=1:=zO;omega
theorem zpo (va vb:Value) (a b:List Nat) (w:World) (ha:ztc w va a) (hb:ztc w vb b) (hla:a.length<=65536) (hlb:b.length<=a.length) (hba:val b<=val a):
 Calls Tryz.prog 155 #[va,vb] w (RNatO w (val a-val b)):=by
 obtain⟨i0,hi,hz0,hz1,hz2⟩:=info_parts Tryz.info102;have hA1:=zxh (P:=Tryz.prog) 36 142 i0 Tryz.underlying36 hi hz0 hz1 hz2;clear hi hz0 hz1 hz2;have HBA:=zH hba;clear hba;have sa:=ha.sl;have sb:=hb.sl;have la:=ha.len;have lb:=hb.len;go_enter Tryz.func155,Tryz.ntmps155;go_wp2_with fail
 go_loopw [5,6,7] (λ u5 u6 u7 wr=>∃ (k bo:Nat) (o:List Nat),k<=a.length/\u7= .int .i64 k/\u6= .int .u64 bo/\bo<=1/\zzc wr 142 w.heap.size u5 o/\o.length=k/\
  val o+val (b.take k)=val (a.take k)+pw k*bo/\Below w.heap.size w wr) (λ _ _ u7 _=>a.length- (intOf u7).toNat)
 case atStart=>exact⟨0,0,[],zO,rfl,rfl,zO,zzc.nil _ _ _,rfl,by simp[val],zBR _ _⟩
 case round=>
  obtain⟨k,bo,o,hk,rfl,rfl,hc,hownr,hol,hval,hbr⟩:=hrel;have HOL:=zH hol;have HV:=zH hval;have HO:zI (o.length+1<=4294967296):=zH zO;clear hol hval;by_cases h1:k<a.length
  ·have hx:=(ha.bw hbr).cell k h1;have hx1:=ha.lt k h1;have HX:=zH (zma a k h1);generalize a[k]=x at *
   by_cases h2:k<b.length
   ·have hy:=(hb.bw hbr).cell k h2;have hy1:=hb.lt k h2;have HY:=zH (zma b k h2);generalize b[k]=y at *
    by_cases h3:x<bo+y
    ·have HS:=zH (zcj (z:=x+4294967296- (bo+y)) (bo':=1) HOL.o HX.o HY.o zO HV.o);go_wp2_with (at_builtin;refine hA1 wr rfl _ _ rfl w.heap.size _ u5 o rfl (by exact hownr) _ (x+4294967296- (bo+y)) zO zO rfl (zLT HO.o zD) hbr.size ?_;intro v' w1 hown1 hbel1);go_roundw;(case rel=>exact⟨k+1,1,_,zO,by go_num,by go_num,zO,hown1,by simp[HOL.o],HS.o,hbr.trans (hbel1.mono (zLR _))⟩);case measure=>simp[intOf];omega
    ·have HS:=zH (zcj (z:=x- (bo+y)) (bo':=0) HOL.o HX.o HY.o zO HV.o);go_wp2_with (at_builtin;refine hA1 wr rfl _ _ rfl w.heap.size _ u5 o rfl (by exact hownr) _ (x- (bo+y)) zO zO rfl (zLT HO.o zD) hbr.size ?_;intro v' w1 hown1 hbel1);go_roundw;(case rel=>exact⟨k+1,0,_,zO,by go_num,by go_num,zO,hown1,by simp[HOL.o],HS.o,hbr.trans (hbel1.mono (zLR _))⟩);case measure=>simp[intOf];omega
   ·have HY:zI (val (b.take (k+1))=val (b.take k)+pw k*0):=zH (by rw[zfb b (k+1) zO,zfb b k zO];simp);by_cases h3:x<bo+0
    ·have HS:=zH (zcj (z:=x+4294967296- (bo+0)) (bo':=1) HOL.o HX.o HY.o zO HV.o);go_wp2_with (at_builtin;refine hA1 wr rfl _ _ rfl w.heap.size _ u5 o rfl (by exact hownr) _ (x+4294967296- (bo+0)) zO zO rfl (zLT HO.o zD) hbr.size ?_;intro v' w1 hown1 hbel1);go_roundw;(case rel=>exact⟨k+1,1,_,zO,by go_num,by go_num,zO,hown1,by simp[HOL.o],HS.o,hbr.trans (hbel1.mono (zLR _))⟩);case measure=>simp[intOf];omega
    ·have HS:=zH (zcj (z:=x- (bo+0)) (bo':=0) HOL.o HX.o HY.o zO HV.o);go_wp2_with (at_builtin;refine hA1 wr rfl _ _ rfl w.heap.size _ u5 o rfl (by exact hownr) _ (x- (bo+0)) zO zO rfl (zLT HO.o zD) hbr.size ?_;intro v' w1 hown1 hbel1);go_roundw;(case rel=>exact⟨k+1,0,_,zO,by go_num,by go_num,zO,hown1,by simp[HOL.o],HS.o,hbr.trans (hbel1.mono (zLR _))⟩);case measure=>simp[intOf];omega
  ·obtain rfl:k=a.length:=zO;have hv:val o=val a-val b:=minus_end HBA.o hownr.lm HOL.o hc (by have:=HV.o;rw[zfb a a.length (zLR _),zfb b a.length zO]at this;exact this);have HT:=zxn _ _ wr (hownr.nat.natN (by have:=HO.o;omega));rw[hv]at HT;have HT2:=zH HT;clear HT hv;go_wp2_with (go_at_call 106;refine HT2.o.mono ?_;rintro e w1 ⟨r,rfl,hr,hr2,hb⟩);go_ret;exact⟨r,rfl,⟨hr.own.mono hbr.size,hr.lm⟩,hr2,hbr.trans (hb.mono hbr.size)⟩
theorem minus_any (va vb:Value) (a b:List Nat) (w:World) (ha:ztc w va a) (hb:ztc w vb b) (hla:a.length<=65536) (hlb:b.length<=a.length) (hba:val b<=val a):
 Calls Tryz.prog 155 #[va,vb] w (RNat w (val a-val b)):=(zpo va vb a b w ha hb hla hlb hba).mono λ _ _ h=>h.nat
set_option maxHeartbeats 1600000
theorem zzc.drawn {w:World} {e:TypeId} {B:Nat} {v:Value} {o:List Nat} (h:zzc w e B v o) (k:Nat):zzc (w.drewN k) e B v o:=h.bw (zna w k)
theorem ztp (c x y q:Nat):(x:Int)*y+q+c=((x*y+q+c:Nat):Int):=by
 rw[Int.natCast_add,Int.natCast_add,Int.natCast_mul]
theorem zre (va vb:Value) (a b:List Nat) (w:World) (ha:ztc w va a) (hb:ztc w vb b) (hla:a.length<=65536) (hlb:b.length<=65536):
 Calls Tryz.prog 197 #[va,vb] w (RNat w (val a*val b)):=by
 obtain⟨i0,hi,hz0,hz1,hz2⟩:=info_parts Tryz.info102;have hM:=zme (P:=Tryz.prog) 36 142 i0 Tryz.underlying36 hi hz0 hz1 hz2;clear hi hz0 hz1 hz2;have s1:=ha.sl;have s2:=hb.sl;have l1:=ha.len;have l2:=hb.len;have hroom:a.length+b.length<=35184372088832:=zO;go_enter Tryz.func197,Tryz.ntmps197;go_wp2_with (refine hM _ rfl _ _ rfl w.heap.size _ (a.length+b.length) rfl rfl rfl hroom (zLR _) ?_;intro v w1 hown hb1 hvb);clear hM hroom
 go_loopw [6] (λ u6 wr=>∃ (k:Nat) (o:List Nat),k<=a.length/\u6= .int .i64 k/\zzc wr 142 w.heap.size v o/\o.length=a.length+b.length/\
  val (o.take (k+b.length))=val (a.take k)*val b/\Below w.heap.size w wr) (λ u6 _=>a.length- (intOf u6).toNat)
 case atStart=>exact⟨0,_,zZL _,rfl,hown,by simp,by simp[val,zkh],hb1⟩
 case round=>
  obtain⟨k,o,hk,rfl,hownr,hol,hval,hbr⟩:=hrel;obtain⟨wo,rfl⟩:∃wo:World,wo=wr:=⟨_,rfl⟩;have HV:=zH hval;have HOL:=zH hol;clear hval hol;by_cases hkp:k<a.length
  ·have HX:=zH (zma a k hkp);have hx1:=ha.lt k hkp;(have hca:=fun(wi:World) (h:Below w.heap.size w wi)=>zH ((ha.bw h).cell k hkp));generalize a[k]=x at *
   go_wp2
   go_loopw [7,8] (λ u7 u8 wi=>∃ (j c:Nat) (o:List Nat),j<=b.length/\u8= .int .i64 j/\u7= .int .u64 c/\c<4294967296/\zzc wi 142 w.heap.size v o/\o.length=a.length+b.length/\
    val (o.take (k+b.length))+pw (k+j)*c=val (a.take k)*val b+pw k*x*val (b.take j)/\Below w.heap.size w wi) (λ _ u8 _=>b.length- (intOf u8).toNat)
   case atStart=>exact⟨0,0,o,zZL _,rfl,rfl,zO,hownr,HOL.o,by rw[HV.o];simp[val],hbr⟩
   case round=>
    obtain⟨j,c,p,hj,rfl,rfl,hc,hownp,hpl,hvp,hbi⟩:=hrel;have HP:=zH hvp;have HPL:=zH hpl;clear hvp;have sv:=hownp.nat.sl;(have lv:slen v=a.length+b.length:=by rw[hownp.nat.len,hpl]);clear hpl;by_cases hjn:j<b.length
    ·(have hkj:k+j<p.length:=by rw[HPL.o];omega);have hx:=(hca _ hbi).o;have hy:=(hb.bw hbi).cell j hjn;have hy1:=hb.lt j hjn;have HY:=zH (zma b j hjn);have hfz:=hownp.frozen (k+j) hkj;have hco:=hownp.nat.cell (k+j) hkj;have hq1:p[k+j]<4294967296:=hownp.lm _ (zGM _);(have HST:=fun(z c':Nat)=>zH (mul_step (o:=p) (b:=b) (k:=k) (j:=j) (N:=k+b.length) (R:=val (a.take k)*val b) (c:=c) (x:=x) (z:=z) (c':=c') zO (by have:=HPL.o;omega) HY.o HP.o));generalize b[j]=y at *
     generalize hqe:p[k+j]=q at *
     obtain⟨h0',hxy'⟩:=zbj hx1 hy1;have hT:=(zoo hx1 hy1 hq1 hc).1;have hset:=hownp.set (k+j) hkj;have HT:=zH hT;have HKJ:=zH hkj;clear hqe hT hkj;have e1:IntKind.i64.wrap ((k:Int)+j)=(k:Int)+j:=IntWalk.i64_in _ zO;have e2:((k:Int)+j).toNat=k+j:=zO;have e2b:(0:Int)<=(k:Int)+j:=zO;(have e3:IntKind.u64.wrap ((x:Int)*y)=(x:Int)*y:=by rw[zqc];omega);(have e4:IntKind.u64.wrap ((x:Int)*y+q)=(x:Int)*y+q:=by rw[zqc];omega);(have e5:IntKind.u64.wrap ((x:Int)*y+q+c)=(x:Int)*y+q+c:=by rw[zqc,ztp];have:=HT.o;omega);go_wp2;go_quiet (fail);clear e1 e2 e2b e3 e4 e5 hset hfz hco hx hy h0' hxy';have hownd:=hownp.drawn nq;have hbd:=hbi.trans ((zna wr nq).mono hbi.size);have hco:(wr.drewN nq).cell? (ptr v (k+j))=some (.int .u32 (p[k+j]'HKJ.o:Nat)):=hownd.nat.cell (k+j) HKJ.o;have hfz:=hownd.frozen (k+j) HKJ.o;have hset:=hownd.set (k+j) HKJ.o;generalize wr.drewN nq=W at *
     rw[ztp];have HT2:=HT.o;generalize x*y+q+c=t at *
     generalize (p[k+j]'HKJ.o)=q0 at *
     have hset2:=hset (t%4294967296) zO;clear hset;go_wp2;go_roundw
     case rel=>
      have e2:((t:Nat):Int)/4294967296=((t/4294967296:Nat):Int):=rfl;rw[e2];exact⟨j+1,t/4294967296,_,zO,by go_num,rfl,div_lt_32 HT2,hset2.1,by simp[HPL.o],(HST (t%4294967296) (t/4294967296)).o zO,hbd.trans hset2.2⟩
     case measure=>simp[intOf];omega
    ·obtain rfl:j=b.length:=zO;(have hkj:k+b.length<p.length:=by rw[HPL.o];omega);have hfz:=hownp.frozen (k+b.length) hkj;have hco:=hownp.nat.cell (k+b.length) hkj;have hset:=hownp.set (k+b.length) hkj c hc;have hv2:=mul_end (o:=p) (a:=a) (b:=b) (k:=k) (n:=val b) (N:=k+b.length) (c:=c) (x:=x) hkj HX.o rfl rfl HP.o;have HV2:=zH hv2;clear hv2;generalize p[k+b.length]=q0 at *
     clear hkj;go_wp2;go_roundw;(case rel=>exact⟨k+1,_,zO,by go_num,hset.1,by simp[HPL.o],by rw[show k+1+b.length=k+b.length+1 from zO];exact HV2.o,hbi.trans hset.2⟩);case measure=>simp[intOf];omega
  ·obtain rfl:k=a.length:=zO
   have hv2:val o=val a*val b:=by
    have e:=HV.o;rw[zTL (by have:=HOL.o;omega),zTL (show a.length<=a.length from zLR _)]at e;exact e
   have HT:=zta _ _ wo (hownr.nat.natN (by have:=HOL.o;omega));rw[hv2]at HT;have HT2:=zH HT;clear HT hv2;go_wp2_with (go_at_call 106;refine HT2.o.mono ?_;rintro e w1 ⟨r,rfl,hr,hb⟩);go_ret;exact⟨r,rfl,hr,hbr.trans (hb.mono hbr.size)⟩
theorem zcc.of_eq {w:World} {v:Value} {m n:Nat} (h:zcc w v m) (e:m=n):zcc w v n:=e▸h
theorem radd_any (va vb:Value) (m n:Nat) (w:World) (ha:zcc w va m) (hb:zcc w vb n) (hm:zha m<=512) (hn:zha n<=512):
 Calls Tryz.prog 75 #[va,vb] w (zmq w (m+n)):=by
 have HM:=zH hm;have HN:=zH hn;have HM2:zI ((zoa m).length<=65536):=zH (zLT hm zD);have HN2:zI ((zoa n).length<=65536):=zH (zLT hn zD);clear hm hn;go_enter Tryz.func75,Tryz.ntmps75
 go_wp2_with (first
  |(go_at_call 152;first
    |((with_reducible refine(zud va m _ ha HM.o).mono ?_);rintro e wa ⟨rfl,hba⟩)
    |((with_reducible refine(zud vb n _ (hb.bw hba) HN.o).mono ?_);rintro e wb ⟨rfl,hbb⟩;have hbw:=zaa hba hbb;have ha2:=ha.bw hbw;have hb2:=hb.bw hbw))
  |(go_at_call 106;first
     |((with_reducible refine(zta va m _ ha2).mono ?_);rintro e w1 ⟨ra,rfl,hra,hb1⟩;have hbw1:=zaa hbw hb1)
     |((with_reducible refine(zta vb n _ (hb2.bw hb1)).mono ?_);rintro e w2 ⟨rb,rfl,hrb,hb2⟩;have hbw2:=zaa hbw1 hb2;have hra2:=hra.bw hb2))
  |(go_at_call 153;(with_reducible refine(plus_any ra rb (zoa m) (zoa n) _ hra2.v hrb.v HM2.o HN2.o).mono ?_);rw[zka,zka];rintro e w3 ⟨r,rfl,hr,hb3⟩;have hbw3:=zaa hbw2 hb3)
  |(go_at_call 152;(with_reducible refine(znl r (m+n) _ hr.nat).mono ?_);rintro e w4 ⟨rfl,hb4⟩;have hbw4:=zaa hbw3 hb4;have hr4:=hr.bw hb4))
 ·go_ret2;have hbig:¬zha (m+n)<=512:=by have h5:512<zha (m+n):= ‹_›;omega
  exact⟨_,2,rfl,⟨λ h=>absurd h hbig,λ _=>⟨rfl,zub.nil _⟩⟩,hbw4⟩
 ·go_ret2;have hbig:¬512<zha (m+n):=by assumption
  exact⟨_,0,rfl,⟨λ _=>⟨rfl,hr4⟩,λ h=>absurd h hbig⟩,hbw4⟩
theorem rmul_any (va vb:Value) (m n:Nat) (w:World) (ha:zcc w va m) (hb:zcc w vb n) (hm:zha m<=512) (hn:zha n<=512):
 Calls Tryz.prog 151 #[va,vb] w (zmq w (m*n)):=by
 have HM:=zH hm;have HN:=zH hn;have HM2:zI ((zoa m).length<=65536):=zH (zLT hm zD);have HN2:zI ((zoa n).length<=65536):=zH (zLT hn zD);clear hm hn;go_enter Tryz.func151,Tryz.ntmps151
 go_wp2_with (first
  |(go_at_call 152;first
    |((with_reducible refine(zud va m _ ha HM.o).mono ?_);rintro e wa ⟨rfl,hba⟩)
    |((with_reducible refine(zud vb n _ (hb.bw hba) HN.o).mono ?_);rintro e wb ⟨rfl,hbb⟩;have hbw:=zaa hba hbb;have ha2:=ha.bw hbw;have hb2:=hb.bw hbw))
  |(go_at_call 106;first
     |((with_reducible refine(zta va m _ ha2).mono ?_);rintro e w1 ⟨ra,rfl,hra,hb1⟩;have hbw1:=zaa hbw hb1)
     |((with_reducible refine(zta vb n _ (hb2.bw hb1)).mono ?_);rintro e w2 ⟨rb,rfl,hrb,hb2⟩;have hbw2:=zaa hbw1 hb2;have hra2:=hra.bw hb2))
  |(go_at_call 197;(with_reducible refine(zre ra rb (zoa m) (zoa n) _ hra2.v hrb.v HM2.o HN2.o).mono ?_);rw[zka,zka];rintro e w3 ⟨r,rfl,hr,hb3⟩;have hbw3:=zaa hbw2 hb3)
  |(go_at_call 152;(with_reducible refine(znl r (m*n) _ hr.nat).mono ?_);rintro e w4 ⟨rfl,hb4⟩;have hbw4:=zaa hbw3 hb4;have hr4:=hr.bw hb4))
 ·go_ret2;have hbig:¬zha (m*n)<=512:=by have h5:512<zha (m*n):= ‹_›;omega
  exact⟨_,2,rfl,⟨λ h=>absurd h hbig,λ _=>⟨rfl,zub.nil _⟩⟩,hbw4⟩
 ·go_ret2;have hbig:¬512<zha (m*n):=by assumption
  exact⟨_,0,rfl,⟨λ _=>⟨rfl,hr4⟩,λ h=>absurd h hbig⟩,hbw4⟩
/-- b is at most a. -/
theorem rsub_le (va vb:Value) (m n:Nat) (w:World) (ha:zcc w va m) (hb:zcc w vb n) (hm:zha m<=512) (hn:n<=m):
 Calls Tryz.prog 78 #[va,vb] w (RNat0 w (m-n)):=by
 have HM:=zH hm;have HN:=zH (zLT (zob hn) hm);have HL:=zH hn;have HM2:zI ((zoa m).length<=65536):=zH (zLT hm zD);have HN2:zI ((zoa n).length<=(zoa m).length):=zH (zob hn);have HL2:zI (val (zoa n)<=val (zoa m)):=zH (by rw[zka,zka];exact hn);have hc:(zbm m n<0)=False:=by unfold zbm;rw[zIN zO];split<;>simp
 have hc2:¬zbm m n<0:=by rw[hc];simp
 clear hm hn hc;generalize hg:zbm m n=g at *
 have HG:=zH hg;clear hg;go_enter Tryz.func78,Tryz.ntmps78
 go_wp2_with (first
  |(go_at_call 152;first
    |((with_reducible refine(zud va m _ ha HM.o).mono ?_);rintro e wa ⟨rfl,hba⟩)
    |((with_reducible refine(zud vb n _ (hb.bw hba) HN.o).mono ?_);rintro e wb ⟨rfl,hbb⟩;have hbw0:=zaa hba hbb;have ha0:=ha.bw hbw0;have hb0:=hb.bw hbw0))
  |(go_at_call 77;(with_reducible refine(zjf va vb m n _ ha0 hb0).mono ?_);rintro e wc ⟨rfl,hbc⟩;rw[HG.o];have hbw:=zaa hbw0 hbc;have ha2:=ha.bw hbw;have hb2:=hb.bw hbw)
  |(go_at_call 106;first
     |((with_reducible refine(zta va m _ ha2).mono ?_);rintro e w1 ⟨ra,rfl,hra,hb1⟩;have hbw1:=zaa hbw hb1)
     |((with_reducible refine(zta vb n _ (hb2.bw hb1)).mono ?_);rintro e w2 ⟨rb,rfl,hrb,hb2⟩;have hbw2:=zaa hbw1 hb2;have hra2:=hra.bw hb2))
  |(go_at_call 155;(with_reducible refine(minus_any ra rb (zoa m) (zoa n) _ hra2.v hrb.v HM2.o HN2.o HL2.o).mono ?_);rw[zka,zka];rintro e w3 ⟨r,rfl,hr,hb3⟩;have hbw3:=zaa hbw2 hb3))
 go_ret2;exact⟨_,rfl,hr,hbw3⟩
set_option maxHeartbeats 1600000
theorem zle (v:Value) (n:Nat) (w:World) (h:zcc w v n):
 Calls Tryz.prog 207 #[v] w λ e w'=>e= .returned (.int .i64 (zza n))/\Below w.heap.size w w':=by
 have HT:=zH (zta v n w h);have hln:=h.len_le;by_cases hn:n=0
 ·have hz:zha n=0:=zva.2 hn;have hb:zza n=0:=zrk.2 hn;have HB:=zH hb;clear hln hn hb;go_enter Tryz.func207,Tryz.ntmps207;go_wp2_with (go_at_call 106;refine HT.o.mono ?_;rintro e w1 ⟨r,rfl,hr,hb⟩;have s1:=hr.v.sl;have s2:slen r=zha n:=hr.v.len);go_ret;exact⟨by rw[HB.o];rfl,hb⟩
 ·obtain⟨t,ht1,ht2,ht3,ht4⟩:=zwk hn;have hnl:0<zha n:=by have :zha n≠0:=λ h'=>hn (zva.1 h');omega
  obtain⟨htl,hte⟩:=List.getElem?_eq_some_iff.1 ht1;have HC:=fun(w1:World) (r:Value) (hr:zub w1 r n)=>zH ((hr.v.cell (zha n-1) (by show zha n-1<zha n;omega)).trans (congrArg (λ x:Nat=>some (Value.int .u32 (x:Nat))) hte))
  have HT4:=zH ht4;have htb:zza t<=32:=zoc.2 ht3;have HB:=zH htb;clear hn ht1 ht2 ht4 htl hte htb;obtain⟨g,hg⟩:∃g,zha n=g+1:=⟨zha n-1,zO⟩;have hg1:zha n-1=g:=zO;rw[hg1]at HC HT4;rw[hg]at hln;have HG:=zH hg;clear hg hg1 hnl;go_enter Tryz.func207,Tryz.ntmps207;go_wp2_with (go_at_call 106;refine HT.o.mono ?_;rintro e w1 ⟨r,rfl,hr,hb⟩;have s1:=hr.v.sl;have s2:slen r=g+1:=hr.v.len.trans HG.o;have s3:=(HC _ _ hr).o;clear HC;have s4:(((g:Int)+1)==0)=false:=by simp;omega);go_loopw [3,4] (λ u3 u4 wr=>∃ (k y:Nat),u3= .int .i64 k/\u4= .int .u32 y/\y<4294967296/\k+zza y=32*g+zza t/\wr=w1) (λ _ u4 _=>(intOf u4).toNat);case atStart=>exact⟨32*g,t,by go_num,rfl,ht3,rfl,rfl⟩
  case round=>
   obtain⟨k,y,rfl,rfl,hy,hky,rfl⟩:=hrel;(have hk:k<=137438953504:=by have:=HB.o;omega);by_cases hy0:0<y
   ·have HK:=zH hky;clear hky;have hy2:y/2<y:=zO;go_wp2;go_roundw;(case rel=>exact⟨k+1,y/2,by go_num,by go_num,zO,by have:=HK.o;have:=zeq (n:=y) zO;omega,trivial⟩);case measure=>simp[intOf];omega
   ·obtain rfl:y=0:=zO;(have hfin:zza n=k:=by rw[HT4.o,<-hky,zxl,Nat.add_zero]);have HF:=zH hfin;clear hfin hky hy0;go_wp2;go_ret;exact⟨by rw[HF.o];rfl,hb⟩
theorem rup_step {o a:List Nat} {q k c x P t:Nat} (ho:o.length=q+k) (ha:val (a.take (k+1))=val (a.take k)+pw k*x) (ht:P*x+c=t)
 (hv:val o+pw (q+k)*c=pw q*(P*val (a.take k))):
 val (o++ [t%4294967296])+pw (q+(k+1))*(t/4294967296)=pw q*(P*val (a.take (k+1))):=by
 rw[zfk,ha,ho,show q+(k+1)=(q+k)+1 from rfl,zyb];have h:t%4294967296+4294967296*(t/4294967296)=t:=zO;generalize t%4294967296=z at *
 generalize t/4294967296=d at *
 have e:=pw_add q k;generalize pw (q+k)=p at *
 subst e;subst ht;grind
theorem or_up2 (c x s:Nat) (hs:s<32) (hc:c<2^s) (hx:x<4294967296):bits .or .u64 (IntKind.u64.wrap ((x:Int)*2^s)) (c:Int)=((2^s*x+c:Nat):Int):=by
 have hP:2^s<=2^31:=Nat.pow_le_pow_right zD zO;have h1:2^s*x<=2^31*4294967295:=zMM hP zO;have h2:((x:Int)*2^s)=((2^s*x:Nat):Int):=by rw[Int.natCast_mul,Int.natCast_pow];exact Int.mul_comm _ _
 rw[h2,zqc];have h3:((2^s*x:Nat):Int)%18446744073709551616=((2^s*x:Nat):Int):=zO;rw[h3,u64_or_nat (2^s*x) c zO zO,zmo x c s hc]
theorem rup_own (va:Value) (a:List Nat) (n:Nat) (w:World) (ha:ztc w va a) (hl:a.length<=65536) (hn:n<=65536):
 Calls Tryz.prog 216 #[va, .int .i64 n] w (RNatO w (2^n*val a)):=by
 obtain⟨i0,hi,hz0,hz1,hz2⟩:=info_parts Tryz.info102;have hM:=zme (P:=Tryz.prog) 36 142 i0 Tryz.underlying36 hi hz0 hz1 hz2;have hA1:=zxh (P:=Tryz.prog) 36 142 i0 Tryz.underlying36 hi hz0 hz1 hz2;clear hi hz0 hz1 hz2;have sa:=ha.sl;have la:=ha.len;obtain⟨q,s,hs,rfl⟩:∃q s,s<32/\n=32*q+s:=⟨n/32,n%32,zML2 _ zD,zO⟩;by_cases h0:a.length=0
 ·have e:a= []:=List.eq_nil_of_length_eq_zero h0;subst e;clear hM hA1;go_enter Tryz.func216,Tryz.ntmps216;go_wp2_with fail;go_ret;refine⟨_,rfl,?_,?_,zBR _ _⟩
  ·simp only[val,Nat.mul_zero,zpc];exact zzc.nil _ _ _
  ·simp only[val,Nat.mul_zero,zvd];omega
 ·have h0b:(((a.length:Nat):Int)==0)=false:=by simpa using h0
  have hv:2^(32*q+s)*val a=pw q*(2^s*val a):=by rw[Nat.pow_add,zho,Nat.mul_assoc]
  have HV0:=zH hv;have hqb:q<=2048:=zO;generalize hne:32*q+s=n at *
  have e1:(n:Int)/32=(q:Int):=zO;have e2:(n:Int)%32=(s:Int):=zO;clear hv hne h0;go_enter Tryz.func216,Tryz.ntmps216;go_wp2_with (refine hM _ rfl _ _ rfl w.heap.size _ q rfl rfl rfl zO (zLR _) ?_;intro v w1 hown hb1 hvb);clear hM e1
  go_loopw [5,6,7] (λ u5 u6 u7 wr=>∃ (k c:Nat) (o:List Nat),k<=a.length/\u7= .int .i64 k/\u6= .int .u64 c/\c<2^s/\zzc wr 142 w.heap.size u5 o/\o.length=q+k/\
   val o+pw (q+k)*c=pw q*(2^s*val (a.take k))/\Below w.heap.size w wr) (λ _ _ u7 _=>a.length- (intOf u7).toNat)
  case atStart=>exact⟨0,0,_,zZL _,rfl,rfl,Nat.pow_pos zD,hown,by simp,by simp[val,zkh],hb1⟩
  case round=>
   obtain⟨k,c,o,hk,rfl,rfl,hc,hownr,hol,hval,hbr⟩:=hrel;have HV:=zH hval;have HOL:=zH hol;have HO:zI (o.length+1<=4294967296):=zH zO;clear hval hol hown hb1;by_cases hkp:k<a.length
   ·have hx:=(ha.bw hbr).cell k hkp;have hx1:=ha.lt k hkp;have HX:=zH (zma a k hkp);generalize a[k]=x at *
    have hor:=or_up2 c x s hs hc hx1;obtain⟨b1,b2⟩:=up_bound c x s hs hc hx1;(have HT:=λ t=>zH (rup_step (o:=o) (a:=a) (q:=q) (k:=k) (c:=c) (x:=x) (P:=2^s) (t:=t) HOL.o HX.o));generalize hte:2^s*x+c=t at *
    have HTE:=zH hte;clear hte;go_wp2_with (at_builtin;refine hA1 wr rfl _ _ rfl w.heap.size _ u5 o rfl (by exact hownr) _ (t%4294967296) zO zO rfl (zLT HO.o zD) hbr.size ?_;intro v' w1 hown1 hbel1);go_roundw;(case rel=>exact⟨k+1,t/4294967296,_,zO,by go_num,by go_num,b2,hown1,by simp[HOL.o,Nat.add_assoc],(HT t).o rfl HV.o,hbr.trans (hbel1.mono (zLR _))⟩);case measure=>simp[intOf];omega
   ·obtain rfl:k=a.length:=zO;have hP:2^s<=2^31:=Nat.pow_le_pow_right zD zO;have hc1:c<4294967296:=zO
    have hv2:val (o++ [c])=2^n*val a:=by
     rw[zfk,HOL.o,HV.o,List.take_length,HV0.o]
    have HV2:=zH hv2;have HC1:=zH hc1;clear hv2 hP hc1 hc
    go_wp2_with (first
     |(at_builtin;refine hA1 wr rfl _ _ rfl w.heap.size _ u5 o rfl (by exact hownr) _ c (by have:=HC1.o;omega) HC1.o rfl (zLT HO.o zD) hbr.size ?_;intro v' w1 hown1 hbel1;have hbw:=hbr.trans hbel1;have HT:=zH (zxn v' _ w1 (zcc.of_eq (hown1.nat.natN (by have:=HO.o;simp;omega)) HV2.o)))
     |(go_at_call 106;refine HT.o.mono ?_;rintro e w2 ⟨r,rfl,hr,hr2,hb⟩))
    go_ret;exact⟨r,rfl,hr.mono hbw.size,hr2,hbw.trans (hb.mono hbw.size)⟩
theorem rup_any (va:Value) (a:List Nat) (n:Nat) (w:World) (ha:ztc w va a) (hl:a.length<=65536) (hn:n<=65536):
 Calls Tryz.prog 216 #[va, .int .i64 n] w (RNat w (2^n*val a)):=(rup_own va a n w ha hl hn).mono λ _ _ h=>h.nat
end Go.Proofs.YtlpdkbmmbdfoiaaGreat
