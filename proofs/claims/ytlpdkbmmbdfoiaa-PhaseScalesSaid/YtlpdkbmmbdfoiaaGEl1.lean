/-
  Elimination on matrices of rational numbers, as functions of two indices, and the sizes of what it meets. No program is named here.
-/
import Derived.Test.YtlpdkbmmbdfoiaaGOwR
set_option linter.unusedVariables false
set_option linter.unusedSimpArgs false
namespace Go.Proofs.Ytlpdkbmmbdfoiaa
open Go.RowKit
structure zhb (B:Nat) (w w':World):Prop where
 size:w.heap.size≤w'.heap.size
 row:∀g,B≤g→g<w.heap.size→w'.heap[g]? =w.heap[g]?
 limb:∀p z,w.cell? p=some (.int .u32 z)→w'.cell? p=some (.int .u32 z)
theorem zhb.refl (B:Nat) (w:World):zhb B w w:=⟨Nat.le_refl _,fun _ _ _=>rfl,fun _ _ h=>h⟩
theorem zhb.trans {B:Nat} {a b c:World} (h:zhb B a b) (k:zhb B b c):zhb B a c:=
 ⟨Nat.le_trans h.size k.size,fun g h1 h2=>(k.row g h1 (Nat.lt_of_lt_of_le h2 h.size)).trans (h.row g h1 h2),fun p z hp=>k.limb p z (h.limb p z hp)⟩
theorem zhb.below {B:Nat} {w w':World} (h:Below w.heap.size w w'):zhb B w w':=⟨h.size,fun g _ h2=>h.block g h2,fun p z hp=>zba h hp⟩
theorem zhb.set {B:Nat} {w:World} {p:Addr} {x:Value} (hp:p.block<B) (hc:w.cell? p=some x) (hx:∀z,x≠ .int .u32 z) (u:Value):zhb B w (w.setCell p u):=by
 refine⟨by simp[World.setCell],fun g h1 h2=>Below.heap_setCell _ _ _ _ (by omega),fun q z hq=> ?_⟩
 rw[World.cell?_setCell_other]
 ·exact hq
 ·intro e
  rw[←e,hc]at hq
  injection hq with hq
  exact hx _ hq
theorem zfc.moves {B:Nat} {w w':World} {v:Value} {l:List Nat} (h:zfc w v l) (hm:zhb B w w'):zfc w' v l:=⟨h.sl,h.len,fun j hj=>hm.limb _ _ (h.cell j hj),h.lm⟩
theorem zjb.moves {B:Nat} {w w':World} {v:Value} {n:Nat} (h:zjb w v n) (hm:zhb B w w'):zjb w' v n:=⟨h.v.moves hm,h.2⟩
theorem zqa.moves {B:Nat} {w w':World} {v:Value} {q:Rat} (h:zqa w v q) (hm:zhb B w w'):zqa w' v q:=by
 obtain⟨a,b,rfl,h1,h2⟩:=h;exact⟨a,b,rfl,h1.moves hm,h2.moves hm⟩
theorem zlc.moves {B B':Nat} {w w':World} {e:TypeId} {size n:Nat} {v:Value} {xs:List Value} (h:zlc w e B' size v n xs) (hm:zhb B w w') (hB:B≤B'):zlc w' e B' size v n xs:=by
 have hlt:=h.block
 refine⟨⟨h.own.1,?_⟩,fun g hg cur e' fz hc=> ?_⟩
 ·rcases h.own.2 with⟨rfl,h0⟩ | ⟨g,cap,cur,rfl,hb,hg,rest⟩
  ·exact .inl ⟨rfl,h0⟩
  ·refine .inr ⟨g,cap,cur,rfl,hb,?_,rest⟩
   rw[hm.row g (Nat.le_trans hB hb) (hlt g rfl).2];exact hg
 ·obtain⟨h1,h2⟩:=hlt g hg
  rw[hm.row g (Nat.le_trans hB h1) h2]at hc
  exact h.nl g hg cur e' fz hc
theorem zlc.kinds {w:World} {e e':TypeId} {B B' size size' n n':Nat} {v v':Value} {xs xs':List Value} (h:zlc w e B size v n xs) (h':zlc w e' B' size' v' n' xs') (hne:e≠e'):v.ownBlock=none∨v.ownBlock≠v'.ownBlock:=by
 cases hv:v.ownBlock with
 | none=>exact Or.inl rfl
 | some g=>
   refine Or.inr (fun he=> ?_)
   obtain⟨c,fz,h1⟩:=Lib.ownsRow_kind h.own g hv
   obtain⟨c',fz',h2⟩:=Lib.ownsRow_kind h'.own g he.symm
   rw[h1]at h2
   injection h2 with h2
   injection h2 with _ h2
   exact hne h2
def zwe (w:World) (xs:List Value) (q:List Rat):Prop:=
 ∀ (j:Nat) (h:j<q.length),∃a b,xs[j*3]? =some (.bool (decide (q[j]<0)))∧xs[j*3+1]? =some a∧xs[j*3+2]? =some b∧zjb w a q[j].num.natAbs∧zjb w b q[j].den
def zya (w:World) (e:TypeId) (B:Nat) (v:Value) (q:List Rat):Prop:=∃xs,zlc w e B 3 v q.length xs∧zwe w xs q
section
variable {w:World} {e:TypeId} {B:Nat} {v:Value} {q:List Rat}
theorem zya.nil (w:World) (e:TypeId) (B:Nat):zya w e B (.slice none 0 0) []:=⟨[],zlc.nil _ _ _ _,fun j h=>by simp at h⟩
theorem zya.fracs (h:zya w e B v q):zbb w v q:=by
 obtain⟨xs,h1,h2⟩:=h
 refine⟨h1.sl,h1.len,fun j hj=> ?_⟩
 obtain⟨a,b,e1,e2,e3,e4,e5⟩:=h2 j hj
 have hc:∀i u,xs[i]? =some u→w.cell? (ptr v i)=some u:=fun i u hi=>by
  obtain⟨h6,h7⟩:=List.getElem?_eq_some_iff.1 hi
  rw[h1.cell i h6,h7]
 exact⟨a,b,hc _ _ e1,hc _ _ e2,hc _ _ e3,e4,e5⟩
theorem zya.sl (h:zya w e B v q):zgc v:=h.fracs.sl
theorem zya.block (h:zya w e B v q):∀k,v.ownBlock=some k→B≤k∧k<w.heap.size:=by obtain⟨xs,h1,_⟩:=h;exact h1.block
theorem zya.moves {B':Nat} {w':World} (h:zya w e B v q) (hm:zhb B' w w') (hB:B'≤B):zya w' e B v q:=by
 obtain⟨xs,h1,h2⟩:=h
 refine⟨xs,h1.moves hm hB,fun j hj=> ?_⟩
 obtain⟨a,b,e1,e2,e3,e4,e5⟩:=h2 j hj
 exact⟨a,b,e1,e2,e3,e4.moves hm,e5.moves hm⟩
theorem zwe.grown {w':World} {u:Value} {xs:List Value} (h2:zwe w xs q) (hg:w.grownBy w' u.ownBlock) (hn:zlb w u):zwe w' xs q:=fun j hj=>by
 obtain⟨a,b,e1,e2,e3,e4,e5⟩:=h2 j hj
 exact⟨a,b,e1,e2,e3,e4.grown hg hn,e5.grown hg hn⟩
theorem zya.grown {w':World} {u:Value} (h:zya w e B v q) (hg:w.grownBy w' u.ownBlock) (hn:zlb w u) (hne:v.ownBlock=none∨v.ownBlock≠u.ownBlock):zya w' e B v q:=by
 obtain⟨xs,h1,h2⟩:=h
 exact⟨xs,h1.grown hg hne,h2.grown hg hn⟩
theorem zya.mono {B':Nat} (h:zya w e B v q) (hB:B'≤B):zya w e B' v q:=by
 obtain⟨xs,h1,h2⟩:=h
 refine⟨xs,⟨⟨h1.own.1,?_⟩,h1.nl⟩,h2⟩
 rcases h1.own.2 with h | ⟨g,cap,cur,rfl,hb,rest⟩
 ·exact .inl h
 ·exact .inr ⟨g,cap,cur,rfl,by omega,rest⟩
theorem zwe.snoc {xs:List Value} (h2:zwe w xs q) (hl:xs.length=q.length*3) {x y z:Value} {r:Rat} (hf:zqa w (.agg #[x,y,z]) r):zwe w (xs++ [x,y,z]) (q++ [r]):=by
 intro j hj
 obtain⟨a,b,ha,h4,h5⟩:=hf
 injection ha with ha
 injection ha with ha
 simp only[List.cons.injEq,and_true]at ha
 obtain⟨rfl,rfl,rfl⟩:=ha
 rcases Nat.lt_or_ge j q.length with h | h
 ·obtain⟨a,b,e1,e2,e3,e4,e5⟩:=h2 j h
  rw[List.getElem_append_left h]
  exact⟨a,b,by rw[List.getElem?_append_left (by omega)];exact e1,by rw[List.getElem?_append_left (by omega)];exact e2,by rw[List.getElem?_append_left (by omega)];exact e3,e4,e5⟩
 ·obtain rfl:j=q.length:=by simp at hj;omega
  have e0:(q++ [r])[q.length]'hj=r:=by simp
  rw[e0,←hl]
  refine⟨y,z,?_,?_,?_,h4,h5⟩
  ·rw[List.getElem?_append_right (Nat.le_refl _)];simp
  ·rw[List.getElem?_append_right (by omega)];simp
  ·rw[List.getElem?_append_right (by omega)];simp
end
theorem zpp {P:Program} (t e:TypeId) (i:TypeInfo) (ht:P.underlying t=some (.slice e)) (hi:P.info? e=some i) (hz:i.zero=some (.agg #[.bool false, .slice none 0 0, .slice none 0 0])) (hsize:i.size=3) (hby:i.bytes=56)
 (w0:World) {ops:Array Oper} {rest:List Oper} {o:Oper} {a:Act} {Q:Exit→Act→World→Prop} (hgd:o.guard=none) (s x:Operand)
 (ho:o.op= .call { callee:= .builtin .append,args:=#[s,x],argTypes:=#[t,t] }) (B:Nat) (e':TypeId)
 (v:Value) (q:List Rat) (hs:a.eval s=v) (hown:zya w0 e B v q) (c0 c1 c2:Value) (r:Rat) (hf:zqa w0 (.agg #[c0,c1,c2]) r) (hxe:a.eval x= .slice (some ⟨w0.heap.size,0,none⟩) 1 1) (hn:q.length≤1000) (hbase:B≤w0.heap.size)
 (h:∀v' w',zya w' e B v' (q++ [r])→w0.grownBy w' v.ownBlock→zlb w0 v→(v'.ownBlock=v.ownBlock∨v'.ownBlock=some (w0.heap.size+1))→zgc v'→wpList P ops Q rest (a.put o.dst v') w'):
 wpList P ops Q (o::rest) a (w0.alloc (.cells #[c0,c1,c2] e')):=by
 obtain⟨xs,h1,h2⟩:=hown
 have hl:xs.length=q.length*3:=h1.clen
 have hf2:=hf
 obtain⟨a1,b1,ha,h4,h5⟩:=hf2
 injection ha with ha
 injection ha with ha
 simp only[List.cons.injEq,and_true]at ha
 obtain⟨rfl,rfl,rfl⟩:=ha
 obtain⟨p1,p2,p3,rfl,_⟩:=h4.v.sl
 obtain⟨s1,s2,s3,rfl,_⟩:=h5.v.sl
 refine zwf w0 hgd s x t ho B e e' i _ 3 56 ht hi hz hsize hby rfl (by decide) (fun c hc z=>by
  have hc2:c∈ [Value.bool false, .slice none 0 0, .slice none 0 0]:=hc
  simp at hc2;rcases hc2 with rfl | rfl<;>simp) v q.length xs hs h1 #[.bool (decide (r<0)), .slice p1 p2 p3, .slice s1 s2 s3] rfl hxe
  (fun u hu=>by simp at hu;rcases hu with rfl | rfl | rfl<;>rfl) (fun u hu z=>by simp at hu;rcases hu with rfl | rfl | rfl<;>simp) (by simp[maxLen];omega) (by omega) hbase ?_
 intro v' w' k1 k2 k3
 refine h v' w' ⟨_,?_,(zwe.snoc (r:=r) h2 hl hf).grown k2 h1.nl⟩ k2 h1.nl k3 k1.sl
 rw[List.length_append]
 exact k1
theorem zxl {P:Program} (t e:TypeId) (i:TypeInfo) (z:Value) (bytes:Nat) (ht:P.underlying t=some (.slice e)) (hi:P.info? e=some i) (hz:i.zero=some z) (hsize:i.size=1) (hby:i.bytes=bytes) (hby2:bytes≤64) (hzc:z.cells=#[z]) (hzn:∀k,z≠ .int .u32 k)
 (w0:World) {ops:Array Oper} {rest:List Oper} {o:Oper} {a:Act} {Q:Exit→Act→World→Prop} (hgd:o.guard=none) (s x:Operand)
 (ho:o.op= .call { callee:= .builtin .append,args:=#[s,x],argTypes:=#[t,t] }) (B:Nat) (e':TypeId)
 (v:Value) (xs:List Value) (hs:a.eval s=v) (hown:zlc w0 e B 1 v xs.length xs) (c:Value) (hc1:c.oneCell'=true) (hcn:∀k,c≠ .int .u32 k) (hxe:a.eval x= .slice (some ⟨w0.heap.size,0,none⟩) 1 1) (hn:xs.length≤1000) (hbase:B≤w0.heap.size)
 (h:∀v' w',zlc w' e B 1 v' (xs++ [c]).length (xs++ [c])→w0.grownBy w' v.ownBlock→zlb w0 v→(v'.ownBlock=v.ownBlock∨v'.ownBlock=some (w0.heap.size+1))→zgc v'→wpList P ops Q rest (a.put o.dst v') w'):
 wpList P ops Q (o::rest) a (w0.alloc (.cells #[c] e')):=by
 refine zwf w0 hgd s x t ho B e e' i _ 1 bytes ht hi hz hsize hby (by rw[hzc];rfl) (by decide) (fun d hd=>by rw[hzc]at hd;simp at hd;subst hd;exact hzn) v xs.length xs hs hown #[c] rfl hxe
  (fun u hu=>by simp at hu;subst hu;exact hc1) (fun u hu z=>by simp at hu;subst hu;exact hcn z) (by simp[maxLen];omega) (by have :(xs.length+1)*bytes≤1001*64:=Nat.mul_le_mul (by omega) hby2;omega) hbase ?_
 intro v' w' k1 k2 k3
 refine h v' w' ?_ k2 hown.nl k3 k1.sl
 rw[List.length_append]
 exact k1
theorem zqb.frRow {w:World} {e:TypeId} {B n:Nat} {v:Value} {q:List Rat} (h:zqb w e B v n) (hl:q.length=n) (he:∀j (hj:j<q.length),zlg w v j q[j]):zya w e B v q:=by
 obtain⟨g,cs,rfl,h1,h2⟩:=id h
 have hcl:cs.length=n*3:=h1.1
 refine⟨cs,⟨by rw[hl];exact h1,?_⟩,fun j hj=> ?_⟩
 ·intro g' hg' cur e' fz hc c hcc z
  rcases h1.2 with⟨h',_⟩ | ⟨g2,cap,cur2,h',hb,hg,_,_,hs,ht⟩
  ·cases h'
  ·injection h' with h4 h5 h6
   injection h4 with h4
   injection h4 with h4
   subst h4
   simp only[Value.ownBlock,Option.some.injEq]at hg'
   subst hg'
   rw[hc]at hg
   injection hg with hg
   injection hg with hg _ _
   subst hg
   have e9:cur.toList=cs:=by
    rw[←ht]
    exact(List.take_of_length_le (by rw[Array.length_toList,hs,←h6];exact Nat.le_refl _)).symm
   exact h2 c (by rw[←e9];exact hcc) z
 ·obtain⟨a,b,e1,e2,e3,e4,e5⟩:=he j hj
  have hc:∀i u,i<cs.length→w.cell? (Go.Proofs.Ytlpdkbmmbdfoiaa.ptr (.slice (some ⟨g,0,none⟩) n n) i)=some u→cs[i]? =some u:=fun i u hi hu=>by
   have:=World.ownsRow.cellAt h1 i (by omega)
   simp only[Go.Proofs.Ytlpdkbmmbdfoiaa.ptr,base,Addr.add_lit,Nat.zero_add]at hu
   rw[hu]at this
   exact this.symm
  exact⟨a,b,hc _ _ (by omega) e1,hc _ _ (by omega) e2,hc _ _ (by omega) e3,e4,e5⟩
theorem make_one (w:World):Calls Try.prog 92 #[.int .u64 1] w (RNat w 1):=zxj 1 (by decide) w
theorem C3.frac {w:World} {v0 v1 v2:Value} {q:Rat} (h:zqa w (.agg #[v0,v1,v2]) q):∃s a1 l1 k1 a2 l2 k2,v0= .bool s∧v1= .slice a1 l1 k1∧v2= .slice a2 l2 k2:=by
 obtain⟨s,x,y,e,⟨a1,l1,k1,rfl,_⟩,⟨a2,l2,k2,rfl,_⟩⟩:=h.isF
 injection e with e
 injection e with e
 simp at e
 exact⟨s,a1,l1,k1,a2,l2,k2,e.1,e.2.1,e.2.2⟩
theorem C3.set_other {w:World} {b b':Nat} {v0 v1 v2:Value} (h:C3 w b v0 v1 v2) (hb:b≠b') (u0 u1 u2:Value):C3 (((w.setCell ⟨b',0,none⟩ u0).setCell ⟨b',1,none⟩ u1).setCell ⟨b',2,none⟩ u2) b v0 v1 v2:=by
 obtain⟨lt,c0,c1,c2,f0,f1,f2⟩:=h
 refine⟨by simpa [World.setCell]using lt,?_,?_,?_,?_,?_,?_⟩<;>go_simp
theorem zuc {q:Rat} (h:fits q):okN q.num.natAbs q.den:=⟨q.den_nz,h.2,h.1⟩
set_option maxHeartbeats 1600000 in
theorem sum_frac (va:Value) (l:List RF) (w:World) (ha:zni w va l) (hok:∀x∈l,x.ok) (hfit:∀k,k≤l.length→fits (zgg (qs (l.take k)))):
 Calls Try.prog 55 #[va] w fun e w'=>∃v,e= .returned (.tuple #[v, .int .i64 0])∧zqa w' v (zgg (qs l))∧Below w.heap.size w w':=by
 have sa:=ha.sl
 have la:=ha.len
 have hle:=sa.le
 rw[la]at hle
 have hlb:l.length≤9223372036854775807:=by omega
 have HOK:=zH hok
 have HFIT:=zH hfit
 clear hok hfit hle
 go_enter Try.func55,Try.ntmps55
 go_wp2_with (go_at_call 92;(with_reducible refine(make_one _).mono ?_);rintro e w1 ⟨r1,rfl,hr1,hb1⟩;obtain⟨a1,l1,k1,rfl,_⟩:=hr1.v.sl)
 have hb0:=(zca w (.cells #[.bool false, .slice none 0 0, .slice none 0 0] 32))
 have hbw:=zaa hb0 hb1
 have hr:=(C3.new w 32 _ _ _).belowS hb1
 have hlt:w.heap.size<w1.heap.size:=hr.lt
 have hr2:=hr.allocS (.cells #[.bool false, .slice none 0 0, .slice a1 l1 k1] 32)
 have hs2:=C3.new w1 32 (.bool false) (.slice none 0 0) (.slice a1 l1 k1)
 have hb2:=zaa hbw (zca w1 (.cells #[.bool false, .slice none 0 0, .slice a1 l1 k1] 32))
 have hf2:zqa (w1.alloc (.cells #[.bool false, .slice none 0 0, .slice a1 l1 k1] 32)) (.agg #[.bool false, .slice none 0 0, .slice a1 l1 k1]) 0:=⟨_,_,rfl,zjb.nil _,hr1.below (zca _ _)⟩
 generalize w1.alloc (.cells #[.bool false, .slice none 0 0, .slice a1 l1 k1] 32)=W1 at *
 generalize w1.heap.size=S at *
 clear hb0 hb1 hbw hr hr1
 go_loopw [13] (fun u13 wr=>∃ (k:Nat) (v0 v1 v2:Value),k≤l.length∧u13= .int .i64 k∧C3 wr S v0 v1 v2∧zqa wr (.agg #[v0,v1,v2]) (zgg (qs (l.take k)))∧C3 wr w.heap.size (.bool false) (.slice none 0 0) (.slice none 0 0)∧Below w.heap.size w wr) (fun u13 _=>l.length- (intOf u13).toNat)
 case atStart=>exact⟨0,_,_,_,Nat.zero_le _,rfl,hs2,hf2,hr2,hb2⟩
 case round=>
  obtain⟨k,v0,v1,v2,hk,rfl,hs,hf,hr,hb⟩:=hrel
  clear hs2 hf2 hr2 hb2
  obtain⟨s0,b1,m1,j1,b2,m2,j2,rfl,rfl,rfl⟩:=C3.frac hf
  have HS:=zH hs
  have HR:=zH hr
  have HF:=zH hf
  obtain⟨_,s1,s2,s3,s4,s5,s6⟩:=hs
  obtain⟨_,q1,q2,q3,q4,q5,q6⟩:=hr
  clear hf
  by_cases hkl:k<l.length
  ·obtain⟨xa,xb,c1,c2,c3,hxa,hxb⟩:=(ha.below hb).at' k hkl
   obtain⟨c1a,c1l,c1k,rfl,_⟩:=hxa.slen.1
   obtain⟨c2a,c2l,c2k,rfl,_⟩:=hxb.slen.1
   have hA:zdc (wr.alloc (.cells #[.bool l[k].neg, .slice c1a c1l c1k, .slice c2a c2l c2k] 32)) (.agg #[.bool l[k].neg, .slice c1a c1l c1k, .slice c2a c2l c2k]) l[k].neg l[k].n l[k].d:=⟨_,_,rfl,hxa.below (zca _ _),hxb.below (zca _ _)⟩
   have hB:=(HF.out.raw).below (zca wr (.cells #[.bool l[k].neg, .slice c1a c1l c1k, .slice c2a c2l c2k] 32))
   have hs1:=HS.out.allocS (.cells #[.bool l[k].neg, .slice c1a c1l c1k, .slice c2a c2l c2k] 32)
   have hr1:=HR.out.allocS (.cells #[.bool l[k].neg, .slice c1a c1l c1k, .slice c2a c2l c2k] 32)
   have hb1:=zaa hb (zca wr (.cells #[.bool l[k].neg, .slice c1a c1l c1k, .slice c2a c2l c2k] 32))
   have HO:Hid (okN l[k].n l[k].d):=zH (HOK.out l[k] (List.getElem_mem hkl))
   have HQ:=zH (zuc (HFIT.out k hk))
   have HE:Hid (fq (decide (zgg (qs (l.take k))<0)) (zgg (qs (l.take k))).num.natAbs (zgg (qs (l.take k))).den+fq l[k].neg l[k].n l[k].d=zgg (qs (l.take (k+1)))):=zH (by rw[zvb,lsum_qs l k hkl];rfl)
   have HF1:=zH (HFIT.out (k+1) hkl)
   clear hb hxa hxb
   go_wp2_with (go_at_call 42;(with_reducible refine(zco _ _ _ _ _ _ _ _ _ hB hA HQ.out HO.out).mono ?_);rw[HE.out];rintro e w7 ⟨v,er,rfl,hb7,hv7,_⟩
                obtain⟨rfl,hv8⟩:=hv7 HF1.out
                obtain⟨t9,x9,y9,rfl,⟨a1,l91,k1,rfl,_⟩,⟨a2,l92,k2,rfl,_⟩⟩:=hv8.isF
                have hs8:=(hs1.belowS hb7).allocS (.cells #[.bool t9, .slice a1 l91 k1, .slice a2 l92 k2] 32)
                have hr8:=(hr1.belowS hb7).allocS (.cells #[.bool t9, .slice a1 l91 k1, .slice a2 l92 k2] 32)
                have hb8:=zaa (zaa hb1 hb7) (zca w7 (.cells #[.bool t9, .slice a1 l91 k1, .slice a2 l92 k2] 32))
                have hv9:=hv8.below (zca w7 (.cells #[.bool t9, .slice a1 l91 k1, .slice a2 l92 k2] 32))
                have HS8:=zH hs8
                obtain⟨_,d1,d2,d3,d4,d5,d6⟩:=hs8)
   go_roundw
   case rel=>exact⟨k+1,_,_,_,hkl,by go_num,HS8.out.set _ _ _,hv9.set3 HS8.out (fun z=>by simp) (fun z=>by simp) _ _ _,hr8.set_other (by omega) _ _ _,zga hb8 (by omega) _ _ _⟩
   case measure=>simp[intOf];omega
  ·obtain rfl:k=l.length:=by omega
   have HF2:Hid (zqa wr (.agg #[.bool s0, .slice b1 m1 j1, .slice b2 m2 j2]) (zgg (qs l))):=zH (by have h5:=HF.out;rw[List.take_length]at h5;exact h5)
   clear HF
   go_wp2
   refine zoa rfl rfl Try.aggF Try.sizeF (HR.out.set _ _ _) rfl ?_
   exact⟨_,rfl,HF2.out.set3 HR.out (fun z=>by simp) (fun z=>by simp) _ _ _,zga hb (Nat.le_refl _) _ _ _⟩
end Go.Proofs.Ytlpdkbmmbdfoiaa
namespace Go.Proofs.Ytlpdkbmmbdfoiaa
theorem znn (a:Int) (b:Nat) (hb:b≠0):mkRat a b<0↔a<0:=by
 have e:mkRat a b=fq (decide (a<0)) a.natAbs b:=by
  unfold fq sgn
  congr 1
  by_cases h:a<0
  ·rw[if_pos (decide_eq_true h)];omega
  ·rw[decide_eq_false h];simp;omega
 have h:=fq_neg (decide (a<0)) a.natAbs b hb
 rw[e]
 by_cases h0:a<0
 ·rw[decide_eq_true h0]at h ⊢
  have hg:0<a.natAbs/Nat.gcd a.natAbs b:=Nat.div_pos (Nat.le_of_dvd (by omega) (Nat.gcd_dvd_left _ _)) (Nat.gcd_pos_of_pos_left _ (by omega))
  rw[decide_eq_true hg]at h
  simp only[Bool.and_self,decide_eq_true_eq]at h
  exact⟨fun _=>h0,fun _=>h⟩
 ·rw[decide_eq_false h0]at h ⊢
  simp only[Bool.false_and,decide_eq_false_iff_not]at h
  exact⟨fun h'=>absurd h' h,fun h'=>absurd h' h0⟩
theorem fq_lt (s t:Bool) (n d m e:Nat) (hd:d≠0) (he:e≠0):fq s n d<fq t m e↔sgn s (n*e)<sgn t (m*d):=by
 have h1:fq s n d<fq t m e↔fq s n d-fq t m e<0:=by
  rw[Rat.lt_iff_sub_pos,Rat.lt_iff_sub_pos (fq s n d-fq t m e)]
  have :(0:Rat)- (fq s n d-fq t m e)=fq t m e-fq s n d:=by grind
  rw[this]
 have h2: -fq t m e=fq (!t) m e:=by
  unfold fq
  rw[Rat.neg_mkRat]
  congr 1
  unfold sgn;cases t<;>simp
 rw[h1,Rat.sub_eq_add_neg,h2,fq_add _ _ _ _ _ _ hd he,znn _ _ (Nat.mul_ne_zero hd he)]
 have h3:sgn (!t) (m*d)= -sgn t (m*d):=by unfold sgn;cases t<;>simp
 rw[h3]
 omega
def cmpR (p q:Rat):Int:=if p<q then -1 else if q<p then 1 else 0
theorem cmpR_eq (s t:Bool) (n d m e:Nat) (hd:d≠0) (he:e≠0):
 cmpR (fq s n d) (fq t m e)=if s&& !decide (n=0)&&(t&& !decide (m=0))then -zfj (n*e) (m*d)else if s&& !decide (n=0)then -1 else if t&& !decide (m=0)then 1 else zfj (n*e) (m*d):=by
 have hA:n*e=0↔n=0:=by rw[Nat.mul_eq_zero];exact⟨fun h=>h.resolve_right he,Or.inl⟩
 have hB:m*d=0↔m=0:=by rw[Nat.mul_eq_zero];exact⟨fun h=>h.resolve_right hd,Or.inl⟩
 have h1:=fq_lt s t n d m e hd he
 have h2:=fq_lt t s m e n d he hd
 have e1:cmpR (fq s n d) (fq t m e)=if sgn s (n*e)<sgn t (m*d)then -1 else if sgn t (m*d)<sgn s (n*e)then 1 else 0:=by
  unfold cmpR
  simp only[h1,h2]
 rw[e1]
 clear e1 h1 h2
 generalize n*e=A at *
 generalize m*d=B at *
 unfold zfj sgn
 have c1:decide (n=0)=decide (A=0):=by simp only[hA]
 have c2:decide (m=0)=decide (B=0):=by simp only[hB]
 rw[c1,c2]
 clear c1 c2 hA hB
 by_cases hA:A=0<;>by_cases hB:B=0<;>cases s<;>cases t<;>simp[hA,hB]<;>(repeat' split)<;>omega
end Go.Proofs.Ytlpdkbmmbdfoiaa
namespace Go.Proofs.Ytlpdkbmmbdfoiaa
open Go.RowKit
theorem fits_ok (s:Bool) {n d:Nat} (h:okN n d):fits (fq s n d):=by
 rw[zll s n d h.1]
 exact⟨Nat.le_trans (znm (Nat.div_le_self _ _)) h.2.2,Nat.le_trans (znm (Nat.div_le_self _ _)) h.2.1⟩
def RRed (w0:World) (s:Bool) (n d:Nat) (e:Ending) (w:World):Prop:=
 ∃v er,e= .returned (.tuple #[v, .int .i64 er])∧Below w0.heap.size w0 w∧(okN n d→er=0∧zqa w v (fq s n d))∧(¬okN n d→er=1∧v=zeroF)
theorem valid_no (v:Value) (s:Bool) (n d:Nat) (w:World) (h:zdc w v s n d) (hk:¬okN n d):
 Calls Try.prog 76 #[v] w fun e w'=>e= .returned (.bool false)∧Below w.heap.size w w':=
 (valid_any v s n d w h).mono fun e w' ⟨h1,h2⟩=>⟨by rw[h1,decide_eq_false hk],h2⟩
theorem zcf (w:World) (t:TypeId) (x0 x1 x2 y0 y1 y2:Value) (W:World)
 (hW:W=(w.alloc (.cells #[x0,x1,x2] t)).alloc (.cells #[y0,y1,y2] t)):
 C3 W w.heap.size x0 x1 x2∧C3 W (w.heap.size+1) y0 y1 y2∧Below w.heap.size w W:=by
 subst hW
 have e1:(w.alloc (.cells #[x0,x1,x2] t)).heap.size=w.heap.size+1:=by show(w.heap.push _).size=_;simp
 refine⟨(C3.new w t x0 x1 x2).allocS _,?_,?_⟩
 ·rw[←e1];exact C3.new _ t y0 y1 y2
 ·exact(zca w _).trans ((zca _ _).mono (zca w _).size)
set_option maxHeartbeats 1600000 in
theorem zef (va:Value) (s:Bool) (n d:Nat) (w:World) (ha:zdc w va s n d):
 Calls Try.prog 88 #[va] w (RRed w s n d):=by
 have hA:=ha
 obtain⟨xn,xd,rfl,hxn,hxd⟩:=ha
 obtain⟨an,ln,kn,rfl,_⟩:=hxn.slen.1
 obtain⟨ad,ld,kd,rfl,_⟩:=hxd.slen.1
 go_enter Try.func88,Try.ntmps88
 go_wp2_with fail
 obtain⟨W,hW⟩:∃W,W=((w.alloc (.cells #[.bool s, .slice an ln kn, .slice ad ld kd] 32)).alloc (.cells #[.bool false, .slice none 0 0, .slice none 0 0] 32)):=⟨_,rfl⟩
 obtain⟨bx,bz,hbw⟩:=zcf w 32 _ _ _ _ _ _ W hW
 rw[←hW]
 clear hW
 have HBX:=zH bx
 have HBZ:=zH bz
 obtain⟨_,q1,q2,q3,q4,q5,q6⟩:=bx
 clear bz
 by_cases hk:okN n d
 ·have K:=zH hk
  have NN:=zH (Nat.le_trans (zgd (n:=n) (k:=128) hk.2.2) (show 128≤512 by decide))
  have ND:=zH (Nat.le_trans (zgd (n:=d) (k:=128) hk.2.1) (show 128≤512 by decide))
  have FT:=zH (fits_ok s hk)
  have D0:=zH hk.1
  clear hk
  go_wp2_with (first
   |(go_at_call 76;(with_reducible refine(zrd _ s n d _ (hA.below hbw) K.out).mono ?_);rintro e9 w1 ⟨rfl,hv1⟩
     obtain⟨_,f1,f2,f3,f4,f5,f6⟩:=HBX.out.belowS hv1
     have hbw1:=zaa hbw hv1)
   |(go_at_call 79;(with_reducible refine(zub s _ _ n d _ (hxn.below hbw1) (hxd.below hbw1) D0.out NN.out ND.out).mono ?_);rintro e9 w7 ⟨v,er7,rfl,hv5,hv2,hv3⟩
     have hv4:=hv2 FT.out
     obtain⟨t9,x9,y9,rfl,⟨a1,l91,k1,rfl,_⟩,⟨a2,l92,k2,rfl,_⟩⟩:=zpb (w0:=w) hv2 hv3
     have hC:=(HBZ.out.belowS hv1).belowS hv5
     have HC:=zH hC
     have hbz:=zaa hbw1 hv5
     obtain⟨_,d0,d1,d2,e0,e1,e2⟩:=hC))
  refine zoa rfl rfl Try.aggF Try.sizeF (HC.out.set _ _ _) rfl ?_
  exact⟨_,_,rfl,zga hbz (by omega) _ _ _,fun h=>⟨rfl,hv4.2.set3 HC.out (fun z=>by simp) (fun z=>by simp) _ _ _⟩,fun h=>absurd K.out h⟩
 ·have K:=zH hk
  clear hk
  go_wp2_with (first
   |(go_at_call 76;(with_reducible refine(valid_no _ s n d _ (hA.below hbw) K.out).mono ?_);rintro e9 w1 ⟨rfl,hv1⟩
     have hC:=HBZ.out.belowS hv1
     have HC:=zH hC
     have hbz:=zaa hbw hv1
     obtain⟨_,d0,d1,d2,e0,e1,e2⟩:=hC))
  refine zoa rfl rfl Try.aggF Try.sizeF (HC.out.set _ _ _) rfl ?_
  exact⟨_,_,rfl,zga hbz (by omega) _ _ _,fun h=>absurd h K.out,fun _=>⟨rfl,rfl⟩⟩
theorem zxa {P:Program} {ops:Array Oper} {o:Oper} {a:Act} {w:World} {K:Act→World→Prop} {Q:Exit→Act→World→Prop} {E:Prop} (f:FuncId) (argv:Array Value) (hg:Region.wanted o (yielded ops a.tmps)=true)
 (hrun:(execOp a.eval o).run P w= .ok (.enter f argv) w) {R:Ending→World→Prop} (hc:Calls P f argv w R) (h:∀e w',R e w'→∃v,e= .returned v∧K (a.put o.dst v) w'):
 if Region.wanted o (yielded ops a.tmps)=true then Oper.wp P o a w K Q else E:=by
 rw[if_pos hg]
 unfold Oper.wp
 rw[hrun,Oper.upon_enter]
 refine hc.mono fun e w' hr=> ?_
 obtain⟨v,rfl,hk⟩:=h e w' hr
 exact hk
theorem zkl :fits 0:=by decide
theorem fits_one :fits 1:=by decide
def RF0 (w0:World) (q:Rat) (e:Ending) (w:World):Prop:=∃v,e= .returned (.tuple #[v, .int .i64 0])∧zqa w v q∧Below w0.heap.size w0 w
def RF1 (w0:World) (q:Rat) (e:Ending) (w:World):Prop:=∃v,e= .returned v∧zqa w v q∧Below w0.heap.size w0 w
theorem zmi.ok {w0:World} {q q':Rat} {e:Ending} {w:World} (h:zmi w0 q e w) (hq:q=q') (hf:fits q'):RF0 w0 q' e w:=by
 subst hq
 obtain⟨v,er,rfl,h1,h2,_⟩:=h
 obtain⟨rfl,h3⟩:=h2 hf
 exact⟨v,rfl,h3,h1⟩
theorem make_01 (w:World):Calls Try.prog 56 #[.int .i64 0, .int .i64 1] w (RF0 w 0):=
 (zel 0 1 w (by decide) (by decide) (by decide) (by decide) (by decide)).mono fun _ _ h=>h.ok (by decide) zkl
theorem make_11 (w:World):Calls Try.prog 56 #[.int .i64 1, .int .i64 1] w (RF0 w 1):=
 (zel 1 1 w (by decide) (by decide) (by decide) (by decide) (by decide)).mono fun _ _ h=>h.ok (by decide) fits_one
theorem zmj {fn:Func} {p:Tmp} {ty:TypeId} (h:fn.results=#[.cell p ty]) (tmps:Array Value) (P:Program) (w:World):
 (results fn tmps).run P w=((asAddr (tmps.getD p undef)).run P w).andThen fun a w=>(loadVar ty a).run P w:=by
 simp[results,h]
theorem zab {P:Program} {fn:Func} {R:Ending→World→Prop} {a:Act} {w:World} {p:Tmp} {ty:TypeId} {b:Nat} {v0 v1 v2:Value} (h:fn.results=#[.cell p ty])
 (hp:a.tmps.getD p undef= .pointer (some ⟨b,0,none⟩)) (hagg:∀w,(isAgg ty).run P w= .ok true w) (hs:∀w,(sizeOf ty).run P w= .ok 3 w) (hc:C3 w b v0 v1 v2) (hd:a.defers= [])
 (hR:R (.returned (.agg #[v0,v1,v2])) w):bodyPost P fn R .ret a w:=by
 refine bodyPost_ret ?_ hd hR
 rw[zmj h,hp]
 simp only[asAddr,Sem.run_pure,Result.andThen_ok,load_c3 hagg hs hc]
theorem Try.infoF :(Try.prog.info? 32).map (fun i=>(i.zero,i.size,i.bytes))=some (some (.agg #[.bool false, .slice none 0 0, .slice none 0 0]),3,56):=by kernel_rfl
theorem zfa {w w1 w2:World} {B:Nat} (h:Below B w w1) (h':Below w1.heap.size w1 w2) (hB:B≤w1.heap.size:=by exact h.size):Below B w w2:=h.trans (h'.mono hB)
theorem zqb.fracs {w:World} {e:TypeId} {B n:Nat} {v:Value} (h:zqb w e B v n) {l:List Rat} (hl:l.length=n) (he:∀j (hj:j<l.length),zlg w v j l[j]):zbb w v l:=
 ⟨h.sl,by rw[h.len,hl],he⟩
theorem Try.infoRow :(Try.prog.info? 23).map (fun i=>(i.zero,i.size,i.bytes))=some (some (.slice none 0 0),1,24):=by kernel_rfl
theorem Try.infoBool :(Try.prog.info? 4).map (fun i=>(i.zero,i.size,i.bytes))=some (some (.bool false),1,1):=by kernel_rfl
theorem C3.other {w:World} {b:Nat} {v0 v1 v2:Value} (h:C3 w b v0 v1 v2) (p:Addr) (u:Value) (hp:p.block≠b):C3 (w.setCell p u) b v0 v1 v2:=by
 obtain⟨lt,c0,c1,c2,f0,f1,f2⟩:=h
 have hne:∀k,p≠⟨b,k,none⟩:=fun k e=>hp (by rw[e])
 have hf:∀q,(w.setCell p u).frozen? q=w.frozen? q:=fun q=>by simp
 exact⟨by simpa [World.setCell]using lt,by rw[World.cell?_setCell_other _ _ _ _ (hne _)];exact c0,by rw[World.cell?_setCell_other _ _ _ _ (hne _)];exact c1,by rw[World.cell?_setCell_other _ _ _ _ (hne _)];exact c2,
  by rw[hf];exact f0,by rw[hf];exact f1,by rw[hf];exact f2⟩
theorem zvo (w:World):w.drew.heap.size=w.heap.size:=rfl
theorem zfk (w:World) (o:Obj):(w.alloc o).heap.size=w.heap.size+1:=by simp
theorem C3.newB {b:Nat} (w:World) (t:TypeId) (v0 v1 v2:Value) (hb:w.heap.size=b):C3 (w.alloc (.cells #[v0,v1,v2] t)) b v0 v1 v2:=by subst hb;exact C3.new w t v0 v1 v2
theorem C3.grownB {w w':World} {b:Nat} {v0 v1 v2:Value} {r:Option Nat} (h:C3 w b v0 v1 v2) (hg:w.grownBy w' r) (hr:r≠some b):C3 w' b v0 v1 v2:=by
 have e:=hg.block b h.lt (fun h=>hr h.symm)
 obtain⟨lt,c0,c1,c2,f0,f1,f2⟩:=h
 have hc:∀k,w'.cell? ⟨b,k,none⟩=w.cell? ⟨b,k,none⟩:=fun k=>by simp[World.cell?,e]
 have hf:∀k,w'.frozen? ⟨b,k,none⟩=w.frozen? ⟨b,k,none⟩:=fun k=>by simp[World.frozen?,e]
 exact⟨Nat.lt_of_lt_of_le lt hg.size,by rw[hc];exact c0,by rw[hc];exact c1,by rw[hc];exact c2,by rw[hf];exact f0,by rw[hf];exact f1,by rw[hf];exact f2⟩
end Go.Proofs.Ytlpdkbmmbdfoiaa
namespace Go.Proofs.Ytlpdkbmmbdfoiaa
def cnt (l:List Int):Nat:=l.foldl (fun n b=>if b=(n:Int)then n+1 else n) 0
theorem cnt_nil :cnt []=0:=rfl
theorem cnt_snoc (l:List Int) (b:Int):cnt (l++ [b])=if b=(cnt l:Int)then cnt l+1 else cnt l:=by unfold cnt;rw[List.foldl_append];rfl
theorem zeq (l:List Int) (k:Nat) (h:k<l.length):cnt (l.take (k+1))=if l[k]=(cnt (l.take k):Int)then cnt (l.take k)+1 else cnt (l.take k):=by rw[zxc l k h,cnt_snoc]
theorem zlq (l:List Int) (k:Nat):cnt (l.take k)≤cnt (l.take (k+1)):=by
 by_cases h:k<l.length
 ·rw[zeq l k h];split<;>omega
 ·rw[List.take_of_length_le (by omega),List.take_of_length_le (by omega)];exact Nat.le_refl _
theorem zgq (l:List Int) {j k:Nat} (h:j≤k):cnt (l.take j)≤cnt (l.take k):=by
 induction k with
 | zero=>obtain rfl:j=0:=by omega
         exact Nat.le_refl _
 | succ k ih=>
   rcases Nat.lt_or_ge j (k+1)with h1 | h1
   ·exact Nat.le_trans (ih (by omega)) (zlq l k)
   ·obtain rfl:j=k+1:=by omega
    exact Nat.le_refl _
def okB (l:List Int):Prop:=∀k b,l[k]? =some b→0≤b∧b≤(cnt (l.take k):Int)
theorem okB.lt {l:List Int} (h:okB l) {b:Int} {k:Nat} (hk:l[k]? =some b):0≤b∧b<(cnt l:Int):=by
 obtain⟨h1,h2⟩:=h k b hk
 obtain⟨h3,h4⟩:=List.getElem?_eq_some_iff.1 hk
 have h5:=zeq l k h3
 have h6:=zgq l (show k+1≤l.length by omega)
 rw[List.take_length]at h6
 refine⟨h1,?_⟩
 rw[h4]at h5
 split at h5<;>omega
def bsel (bl:List Int) (row:List Rat) (b:Int):List Rat:=((bl.zip row).filter (fun p=>decide (p.1=b))).map (·.2)
def bsum (bl:List Int) (row:List Rat) (b:Int):Rat:=zgg (bsel bl row b)
def sg :Nat→(Nat→Rat)→Rat
 | 0,_=>0
 | n+1,f=>sg n f+f n
theorem zma {n:Nat} {f g:Nat→Rat} (h:∀i,i<n→f i=g i):sg n f=sg n g:=by
 induction n with
 | zero=>rfl
 | succ n ih=>rw[sg,sg,ih (fun i hi=>h i (by omega)),h n (by omega)]
theorem zsi (n:Nat):sg n (fun _=>0)=0:=by
 induction n with
 | zero=>rfl
 | succ n ih=>rw[sg,ih];grind
theorem zvd (n:Nat) (f g:Nat→Rat):sg n (fun i=>f i+g i)=sg n f+sg n g:=by
 induction n with
 | zero=>simp[sg];grind
 | succ n ih=>simp only[sg,ih];grind
theorem zcb (n:Nat) (c:Rat) (f:Nat→Rat):sg n (fun i=>c*f i)=c*sg n f:=by
 induction n with
 | zero=>simp[sg]
 | succ n ih=>simp only[sg,ih];grind
theorem znc (n:Nat) (c:Rat) (f:Nat→Rat):sg n (fun i=>f i*c)=sg n f*c:=by
 induction n with
 | zero=>simp[sg]
 | succ n ih=>simp only[sg,ih];grind
theorem zdn (n m:Nat) (f:Nat→Nat→Rat):sg n (fun i=>sg m (fun j=>f i j))=sg m (fun j=>sg n (fun i=>f i j)):=by
 induction n with
 | zero=>simp only[sg];rw[zsi]
 | succ n ih=>simp only[sg];rw[ih,←zvd]
theorem zfd {m k:Nat} (h:k<m) (f:Nat→Rat):sg m (fun a=>if k=a then f a else 0)=f k:=by
 induction m with
 | zero=>omega
 | succ m ih=>
   rw[sg]
   by_cases hk:k=m
   ·subst hk
    rw[zma (g:=fun _=>0) (fun i hi=>if_neg (by omega)),zsi,if_pos rfl]
    grind
   ·rw[ih (by omega),if_neg hk]
    grind
def slimS (q:Rat) (k:Nat):Prop:=∃ (z:Int) (D:Nat),D≠0∧q=mkRat z D∧z.natAbs+D≤2^k
theorem slimS_mul {p q:Rat} {j k:Nat} (hp:slimS p j) (hq:slimS q k):slimS (p*q) (j+k):=by
 obtain⟨z,D,h1,rfl,h2⟩:=hp
 obtain⟨n,d,h3,rfl,h4⟩:=hq
 refine⟨z*n,D*d,Nat.mul_ne_zero h1 h3,Rat.mkRat_mul_mkRat _ _ _ _,?_⟩
 rw[Nat.pow_add]
 have h5:=Nat.mul_le_mul h2 h4
 rw[Int.natAbs_mul]
 rw[Nat.add_mul,Nat.mul_add,Nat.mul_add]at h5
 have:=Nat.zero_le (z.natAbs*d)
 have:=Nat.zero_le (D*n.natAbs)
 omega
theorem slimS_wt (q:Rat):slimS q (wt q):=by
 refine⟨q.num,q.den,q.den_nz,(Rat.mkRat_self q).symm,?_⟩
 unfold wt
 have h0:zua q.num.natAbs≤zua q.num.natAbs:=Nat.le_refl _
 have h1:zua q.den≤zua q.den:=Nat.le_refl _
 rw[zwb]at h0 h1
 split
 ·next hz=>
  have e:q=0:=Rat.num_eq_zero.1 hz
  subst e
  decide
 ·split
  ·next hz hd=>simp only[hd,Nat.add_zero];omega
  ·next hz hd=>
   have hn:q.num.natAbs≠0:=by omega
   have hd0:=q.den_nz
   have h2:1<zua q.den:=zse.2 (by omega)
   have h3:0<zua q.num.natAbs:=zld.2 hn
   rw[Nat.pow_add]
   have e1:2^1≤2^zua q.num.natAbs:=Nat.pow_le_pow_right (by decide) h3
   have e2:2^1≤2^zua q.den:=Nat.pow_le_pow_right (by decide) (by omega)
   generalize 2^zua q.num.natAbs=A at *
   generalize 2^zua q.den=B at *
   obtain⟨a,rfl⟩:∃a,A=a+2:=⟨A-2,by omega⟩
   obtain⟨b,rfl⟩:∃b,B=b+2:=⟨B-2,by omega⟩
   have e3:(a+2)*(b+2)=a*b+2*a+2*b+4:=by grind
   rw[e3]
   have:=Nat.zero_le (a*b)
   omega
theorem slimS_fits {q:Rat} {k:Nat} (h:slimS q k) (hk:k≤4095):fits q:=by
 obtain⟨z,D,h1,rfl,h3⟩:=h
 have e:mkRat z D=fq (decide (z<0)) z.natAbs D:=by
  unfold fq sgn
  by_cases hz:z<0
  ·rw[decide_eq_true hz,if_pos rfl];congr 1;omega
  ·rw[decide_eq_false hz,if_neg (by decide)];congr 1;omega
 rw[e]
 have h5:2^k<2^(k+1):=Nat.pow_lt_pow_right (by decide) (Nat.lt_succ_self k)
 have h6:k+1≤4096:=by omega
 refine⟨?_,?_⟩
 ·rw[zif _ _ _ h1]
  exact Nat.le_trans (zre (Nat.lt_of_le_of_lt (Nat.div_le_self _ _) (Nat.lt_of_le_of_lt (Nat.le_trans (Nat.le_add_right z.natAbs D) h3) h5))) h6
 ·rw[zsm _ _ _ h1]
  exact Nat.le_trans (zre (Nat.lt_of_le_of_lt (Nat.div_le_self _ _) (Nat.lt_of_le_of_lt (Nat.le_trans (Nat.le_add_left D z.natAbs) h3) h5))) h6
theorem mul_fits26 {x y:Rat} (hw:wt x+wt y≤3800):fits (x*y):=slimS_fits (slimS_mul (slimS_wt _) (slimS_wt _)) (by omega)
def over (D B:Nat) (q:Rat):Prop:=∃z:Int,q=mkRat z D∧z.natAbs≤B
theorem over.zero (D B:Nat):over D B 0:=⟨0,by simp,by simp⟩
theorem over.mono {D A B:Nat} {q:Rat} (h:over D A q) (hB:A≤B):over D B q:=by
 obtain⟨z,h1,h2⟩:=h
 exact⟨z,h1,by omega⟩
theorem over.add {D A B:Nat} {p q:Rat} (hD:D≠0) (hp:over D A p) (hq:over D B q):over D (A+B) (p+q):=by
 obtain⟨y,rfl,h1⟩:=hp
 obtain⟨z,rfl,h2⟩:=hq
 refine⟨y+z,?_,?_⟩
 ·rw[Rat.mkRat_add_mkRat _ _ hD hD,←Int.add_mul]
  exact Rat.mkRat_mul_right hD
 ·have:=Int.natAbs_add_le y z
  omega
theorem over.neg {D A:Nat} {p:Rat} (hp:over D A p):over D A (-p):=by
 obtain⟨y,rfl,h1⟩:=hp
 exact⟨-y,by rw[Rat.neg_mkRat],by omega⟩
theorem over.mul {D E A B:Nat} {p q:Rat} (hp:over D A p) (hq:over E B q):over (D*E) (A*B) (p*q):=by
 obtain⟨y,rfl,h1⟩:=hp
 obtain⟨z,rfl,h2⟩:=hq
 exact⟨y*z,Rat.mkRat_mul_mkRat _ _ _ _,by rw[Int.natAbs_mul];exact Nat.mul_le_mul h1 h2⟩
theorem over.scale {D A m:Nat} {p:Rat} (hm:m≠0) (hp:over D A p):over (D*m) (A*m) p:=by
 obtain⟨y,rfl,h1⟩:=hp
 exact⟨y*m,(Rat.mkRat_mul_right hm).symm,by rw[Int.natAbs_mul,Int.natAbs_natCast];exact Nat.mul_le_mul_right _ h1⟩
theorem over.sg {D B n:Nat} {f:Nat→Rat} (hD:D≠0) (h:∀i,i<n→over D B (f i)):over D (n*B) (sg n f):=by
 induction n with
 | zero=>exact over.zero _ _
 | succ n ih=>rw[Nat.succ_mul];exact over.add hD (ih fun i hi=>h i (by omega)) (h n (by omega))
theorem over.fq {D B:Nat} {q:Rat} (h:over D B q):∃ (s:Bool) (n:Nat),q=fq s n D∧n≤B:=by
 obtain⟨z,rfl,h2⟩:=h
 refine⟨decide (z<0),z.natAbs,?_,h2⟩
 unfold Go.Proofs.Ytlpdkbmmbdfoiaa.fq sgn
 by_cases hz:z<0
 ·rw[decide_eq_true hz,if_pos rfl];congr 1;omega
 ·rw[decide_eq_false hz,if_neg (by decide)];congr 1;omega
theorem over.wt {D B a b:Nat} {q:Rat} (hD:D≠0) (h:over D B q) (ha:B<2^a) (hb:D<2^b):wt q≤a+b:=by
 obtain⟨s,n,rfl,h1⟩:=h.fq
 have h2:zua (Go.Proofs.Ytlpdkbmmbdfoiaa.fq s n D).num.natAbs≤a:=by
  rw[zif _ _ _ hD]
  exact zre (Nat.lt_of_le_of_lt (Nat.div_le_self _ _) (Nat.lt_of_le_of_lt h1 ha))
 have h3:zua (Go.Proofs.Ytlpdkbmmbdfoiaa.fq s n D).den≤b:=by
  rw[zsm _ _ _ hD]
  exact zre (Nat.lt_of_le_of_lt (Nat.div_le_self _ _) hb)
 unfold Go.Proofs.Ytlpdkbmmbdfoiaa.wt
 split
 ·omega
 ·split<;>omega
theorem over.fits {D B:Nat} {q:Rat} (hD:D≠0) (h:over D B q) (ha:B<2^4096) (hb:D<2^4096):fits q:=by
 obtain⟨s,n,rfl,h1⟩:=h.fq
 refine⟨?_,?_⟩
 ·rw[zif _ _ _ hD]
  exact zre (Nat.lt_of_le_of_lt (Nat.div_le_self _ _) (Nat.lt_of_le_of_lt h1 ha))
 ·rw[zsm _ _ _ hD]
  exact zre (Nat.lt_of_le_of_lt (Nat.div_le_self _ _) hb)
theorem over.one {D:Nat} (hD:D≠0):over D D 1:=⟨D,by
 have:=Rat.mkRat_self 1
 have h:=Rat.mkRat_mul_right (n:=1) (d:=1) hD
 rw[Int.one_mul,Nat.one_mul]at h
 rw[h];exact this.symm,by simp⟩
theorem zup (l:List Rat):zgg l=sg l.length (fun j=>l.getD j 0):=by
 have key:∀k,k≤l.length→zgg (l.take k)=sg k (fun j=>l.getD j 0):=by
  intro k
  induction k with
  | zero=>intro _;simp[sg,zgg]
  | succ k ih=>
    intro h
    rw[lsum_take l k (by omega),sg,ih (by omega)]
    simp[List.getD,List.getElem?_eq_getElem (show k<l.length by omega)]
 have:=key l.length (Nat.le_refl _)
 rwa[List.take_length]at this
def fp (z:Nat→Bool):Nat→Nat→Nat
 | 0,r=>r
 | f+1,r=>if z r=true then r else fp z f (r+1)
theorem fp_ge (z:Nat→Bool) (f r:Nat):r≤fp z f r∧fp z f r≤r+f:=by
 induction f generalizing r with
 | zero=>exact⟨Nat.le_refl _,Nat.le_refl _⟩
 | succ f ih=>rw[fp];have:=ih (r+1);split<;>omega
theorem fp_before (z:Nat→Bool) (f r:Nat):∀i,r≤i→i<fp z f r→z i=false:=by
 induction f generalizing r with
 | zero=>intro i h1 h2;rw[fp]at h2;omega
 | succ f ih=>
   intro i h1 h2
   rw[fp]at h2
   split at h2
   ·omega
   ·next h=>
    rcases Nat.eq_or_lt_of_le h1 with h3 | h3
    ·subst h3;simpa using h
    ·exact ih (r+1) i h3 h2
theorem fp_at (z:Nat→Bool) (f r:Nat) (h:fp z f r<r+f):z (fp z f r)=true:=by
 induction f generalizing r with
 | zero=>rw[fp]at h;omega
 | succ f ih=>
   rw[fp]at h ⊢
   split
   ·next h1=>exact h1
   ·next h1=>rw[if_neg h1]at h;exact ih (r+1) (by omega)
theorem fp_eq {z:Nat→Bool} {f r k:Nat} (h1:r≤k) (h2:k≤r+f) (h3:∀i,r≤i→i<k→z i=false) (h4:k<r+f→z k=true):fp z f r=k:=by
 have g1:=fp_ge z f r
 rcases Nat.lt_trichotomy (fp z f r) k with h | h | h
 ·have:=fp_at z f r (by omega)
  rw[h3 _ g1.1 h]at this;cases this
 ·exact h
 ·have:=fp_before z f r k h1 h
  rw[h4 (by omega)]at this;cases this
abbrev Mx :=Nat→Nat→Rat
def swp (A:Mx) (a b:Nat):Mx:=fun i=>if i=a then A b else if i=b then A a else A i
structure St where
 A:Mx
 r:Nat
 d:Rat
def act (below:Bool) (A:Mx) (r k i:Nat):Prop:=i≠r∧¬ (below=true∧i<r)∧A i k≠0
instance (below :Bool) (A:Mx) (r k i:Nat):Decidable (act below A r k i):=inferInstanceAs (Decidable (_∧_∧_))
def znj (below:Bool) (A:Mx) (r k:Nat):Mx:=fun i j=>if act below A r k i∧k≤j then A i j-A i k/A r k*A r j else A i j
def pvt (n k:Nat) (S:St):Nat:=fp (fun i=>decide (S.A i k≠0)) (n-S.r) S.r
def zzf (below:Bool) (n k:Nat) (S:St):St:=
 if pvt n k S<n then⟨znj below (swp S.A S.r (pvt n k S)) S.r k,S.r+1,(if pvt n k S=S.r then S.d else -S.d)*swp S.A S.r (pvt n k S) S.r k⟩else S
def elim (below:Bool) (n:Nat) (A:Mx):Nat→St
 | 0=>⟨A,0,1⟩
 | k+1=>zzf below n k (elim below n A k)
theorem zue (below:Bool) (n:Nat) (A:Mx) (k:Nat):(elim below n A k).r≤n∧(elim below n A k).r≤k:=by
 induction k with
 | zero=>exact⟨Nat.zero_le _,Nat.le_refl _⟩
 | succ k ih=>
   rw[elim,zzf]
   have:=fp_ge (fun i=>decide ((elim below n A k).A i k≠0)) (n- (elim below n A k).r) (elim below n A k).r
   split
   ·next h=>unfold pvt at h;show(elim below n A k).r+1≤n∧(elim below n A k).r+1≤k+1;omega
   ·omega
theorem estep_stop {below:Bool} {n k:Nat} {S:St} (h:n≤S.r):zzf below n k S=S:=by
 have:=fp_ge (fun i=>decide (S.A i k≠0)) (n-S.r) S.r
 rw[zzf,if_neg (by unfold pvt;omega)]
theorem elim_stop {below:Bool} {n:Nat} {A:Mx} {k:Nat} (h:(elim below n A k).r=n):∀j,k≤j→elim below n A j=elim below n A k
 | 0,hj=>by obtain rfl:k=0:=by omega
            rfl
 | j+1,hj=>by
   rcases Nat.eq_or_lt_of_le hj with h1 | h1
   ·rw[h1]
   ·have ih:=elim_stop h j (by omega)
    rw[elim,ih,estep_stop (by omega)]
def fitE (below:Bool) (n m k:Nat) (S:St):Prop:=
 pvt n k S<n→fits (-S.d)∧fits ((if pvt n k S=S.r then S.d else -S.d)*swp S.A S.r (pvt n k S) S.r k)∧
  ∀i,i<n→act below (swp S.A S.r (pvt n k S)) S.r k i→fits (swp S.A S.r (pvt n k S) i k/swp S.A S.r (pvt n k S) S.r k)∧
   ∀j,j<m→k≤j→fits (swp S.A S.r (pvt n k S) i k/swp S.A S.r (pvt n k S) S.r k*swp S.A S.r (pvt n k S) S.r j)∧
    fits (swp S.A S.r (pvt n k S) i j-swp S.A S.r (pvt n k S) i k/swp S.A S.r (pvt n k S) S.r k*swp S.A S.r (pvt n k S) S.r j)
theorem over.zero' {D B:Nat} {z:Int} (hD:D≠0) (h:mkRat z D≠0):z≠0:=fun e=>h (by rw[e];simp)
theorem div_mk {y z:Int} {D:Nat} (hD:D≠0) (hz:z≠0):mkRat y D/mkRat z D=mkRat (y*z.sign) z.natAbs:=by
 have hn:z.natAbs≠0:=by omega
 have hq:mkRat z D≠0:=fun e=>hz ((Rat.mkRat_eq_zero hD).1 e)
 have e:mkRat y D=mkRat (y*z.sign) z.natAbs*mkRat z D:=by
  rw[Rat.mkRat_mul_mkRat,Int.mul_assoc,Int.sign_mul_self,Int.mul_comm y]
  exact(Rat.mkRat_mul_left hn).symm
 rw[e,Rat.mul_div_cancel hq]
theorem over.quo {D B:Nat} {p:Rat} {z:Int} (hD:D≠0) (hp:over D B p) (hz:z≠0):over z.natAbs B (p/mkRat z D):=by
 obtain⟨y,rfl,h1⟩:=hp
 refine⟨y*z.sign,div_mk hD hz,?_⟩
 rw[Int.natAbs_mul,Int.natAbs_sign_of_ne_zero hz,Nat.mul_one]
 exact h1
theorem over.sub {D A B:Nat} {p q:Rat} (hD:D≠0) (hp:over D A p) (hq:over D B q):over D (A+B) (p-q):=by
 rw[Rat.sub_eq_add_neg];exact over.add hD hp (over.neg hq)
def overT (n m D B:Nat) (A:Mx):Prop:=∀i j,i<n→j<m→over D B (A i j)
def grow :Nat→Nat×Nat×Nat×Nat→Nat×Nat×Nat×Nat
 | 0,x=>x
 | k+1,x=>let (b,d,e,f):=grow k x;(2*(b*b),d*b,e*b,f*d)
def slim4 (x:Nat×Nat×Nat×Nat):Prop:=x.1<2^4096∧x.2.1<2^4096∧x.2.2.1<2^4096∧x.2.2.2<2^4096
instance (x :Nat×Nat×Nat×Nat):Decidable (slim4 x):=inferInstanceAs (Decidable (_∧_∧_∧_))
theorem zek {A:Mx} {a b:Nat}:swp A a b a=A b:=by unfold swp;rw[if_pos rfl]
theorem pvt_ne {n k:Nat} {S:St} (hn:S.r≤n) (h:pvt n k S<n):S.A (pvt n k S) k≠0:=by
 have:=fp_at (fun i=>decide (S.A i k≠0)) (n-S.r) S.r (by unfold pvt at h;omega)
 unfold pvt
 simpa using this
theorem zvk (n k:Nat) (S:St):S.r≤pvt n k S:=(fp_ge _ _ _).1
end Go.Proofs.Ytlpdkbmmbdfoiaa
