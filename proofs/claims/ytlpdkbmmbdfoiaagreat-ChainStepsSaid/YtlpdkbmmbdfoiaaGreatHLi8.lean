/-
  package linear: begin with a second matrix.
-/
import Derived.Test.YtlpdkbmmbdfoiaaGreatHSa2
import Derived.Test.YtlpdkbmmbdfoiaaGreatHLi4
import Derived.Test.YtlpdkbmmbdfoiaaGreatHEl2
set_option linter.unusedVariables false
set_option linter.unusedSimpArgs false
namespace Go.Proofs.YtlpdkbmmbdfoiaaGreat
open Go.RowKit
theorem zbb.cells {w:World} {x:Value} {q:List Rat} (h:zbb w x q):∃xs:List Value,xs.length=q.length*3∧(∀j u,xs[j]? =some u→w.cell? (ptr x j)=some u)∧zwe w xs q∧(∀u∈xs,u.oneCell'=true)∧∀u∈xs,∀z,u≠ .int .u32 z:=by
 have hex:∀j,j<q.length*3→∃u,w.cell? (ptr x j)=some u∧u.oneCell'=true∧∀z,u≠ .int .u32 z:=fun j hj=>by
  obtain⟨a,b,h1,h2,h3,h4,h5⟩:=h.at' (j/3) (by omega)
  obtain⟨a1,a2,a3,rfl,_⟩:=h4.v.sl
  obtain⟨b1,b2,b3,rfl,_⟩:=h5.v.sl
  rcases(show j=j/3*3∨j=j/3*3+1∨j=j/3*3+2 by omega)with e | e | e
  ·rw[e];exact⟨_,h1,rfl,fun z=>by simp⟩
  ·rw[e];exact⟨_,h2,rfl,fun z=>by simp⟩
  ·rw[e];exact⟨_,h3,rfl,fun z=>by simp⟩
 refine⟨(List.range (q.length*3)).map (fun j=>(w.cell? (ptr x j)).getD undef),by simp,fun j u hu=> ?_,fun j hj=> ?_,fun u hu=> ?_,fun u hu=> ?_⟩
 ·rw[List.getElem?_map]at hu
  by_cases hj:j<q.length*3
  ·rw[List.getElem?_range hj]at hu
   obtain⟨u',h1,_⟩:=hex j hj
   simp[h1]at hu
   rw[h1,hu]
  ·rw[List.getElem?_eq_none (by simp;omega)]at hu;simp at hu
 ·obtain⟨a,b,h1,h2,h3,h4,h5⟩:=h.at' j hj
  refine⟨a,b,?_,?_,?_,h4,h5⟩
  ·rw[List.getElem?_map,List.getElem?_range (by omega)];simp[h1]
  ·rw[List.getElem?_map,List.getElem?_range (by omega)];simp[h2]
  ·rw[List.getElem?_map,List.getElem?_range (by omega)];simp[h3]
 ·obtain⟨j,hj,rfl⟩:=List.mem_map.1 hu
  obtain⟨u',h1,h2,h3⟩:=hex j (List.mem_range.1 hj)
  rw[h1];exact h2
 ·obtain⟨j,hj,rfl⟩:=List.mem_map.1 hu
  obtain⟨u',h1,h2,h3⟩:=hex j (List.mem_range.1 hj)
  rw[h1];exact h3
theorem zwe.app {w:World} {xs ys:List Value} {p q:List Rat} (h:zwe w xs p) (hl:xs.length=p.length*3) (h2:zwe w ys q):zwe w (xs++ys) (p++q):=by
 intro j hj
 rcases Nat.lt_or_ge j p.length with h3 | h3
 ·obtain⟨a,b,e1,e2,e3,e4,e5⟩:=h j h3
  rw[List.getElem_append_left h3]
  exact⟨a,b,by rw[List.getElem?_append_left (by omega)];exact e1,by rw[List.getElem?_append_left (by omega)];exact e2,by rw[List.getElem?_append_left (by omega)];exact e3,e4,e5⟩
 ·have hj2:j-p.length<q.length:=by rw[List.length_append]at hj;omega
  obtain⟨a,b,e1,e2,e3,e4,e5⟩:=h2 (j-p.length) hj2
  rw[List.getElem_append_right h3]
  refine⟨a,b,?_,?_,?_,e4,e5⟩
  ·rw[List.getElem?_append_right (by omega),show j*3-xs.length=(j-p.length)*3 by omega];exact e1
  ·rw[List.getElem?_append_right (by omega),show j*3+1-xs.length=(j-p.length)*3+1 by omega];exact e2
  ·rw[List.getElem?_append_right (by omega),show j*3+2-xs.length=(j-p.length)*3+2 by omega];exact e3
theorem append_fr {P:Program} (t e:TypeId) (i:TypeInfo) (ht:P.underlying t=some (.slice e)) (hi:P.info? e=some i) (hz:i.zero=some (.agg #[.bool false, .slice none 0 0, .slice none 0 0])) (hsize:i.size=3) (hby:i.bytes=56)
 (w:World) {ops:Array Oper} {rest:List Oper} {o:Oper} {a:Act} {Q:Exit→Act→World→Prop} (hgd:o.guard=none) (s x:Operand)
 (ho:o.op= .call { callee:= .builtin .append,args:=#[s,x],argTypes:=#[t,t] }) (B:Nat)
 (v:Value) (q:List Rat) (hs:a.eval s=v) (hown:zya w e B v q) (ad:Addr) (m c:Nat) (p:List Rat) (hxe:a.eval x= .slice (some ad) m c) (hf:zbb w (.slice (some ad) m c) p) (hn:q.length+p.length≤1000) (hbase:B≤w.heap.size)
 (h:∀v' w',zya w' e B v' (q++p)→w.grownBy w' v.ownBlock→zlb w v→(v'.ownBlock=v.ownBlock∨v'.ownBlock=some w.heap.size)→zgc v'→wpList P ops Q rest (a.put o.dst v') w'):
 wpList P ops Q (o::rest) a w:=by
 obtain⟨xs,h1,h2⟩:=hown
 obtain⟨news,n1,n2,n3,n4,n5⟩:=hf.cells
 have hm:m=p.length:=hf.len
 refine wpList_plain hgd fun K hK=> ?_
 obtain⟨v',w',hr,k1,k2,k3,k4⟩:=zwd (P:=P) w B t o.type e i _ 3 56 ht hi hz hsize hby rfl (by decide) v q.length xs h1.own ad m c news (by rw[n1,hm])
  (fun j u hu=>by have:=n2 j u hu;simpa only[ptr,base]using this) n4 (by simp[maxLen];omega) (by omega) hbase h1.nl n5 (fun c hc z=>by
   have hc2:c∈ [Value.bool false, .slice none 0 0, .slice none 0 0]:=hc
   simp at hc2;rcases hc2 with rfl | rfl<;>simp)
 unfold Oper.wp execOp
 simp only[ho,resolve,invoke,builtin,Sem.run_bind,Sem.run_pure,Result.andThen_ok,List.map_toArray,List.map_cons,List.map_nil,hs,hxe,hr]
 have hR:zlc w' e B 3 v' (q.length+m) (xs++news):=⟨k1,k4⟩
 refine hK _ _ (h v' w' ⟨xs++news,by rw[List.length_append,←hm];exact hR,?_⟩ k2 h1.nl k3 hR.sl)
 exact(h2.app h1.clen n3).grown k2 h1.nl
theorem znd.push {w w':World} {T n m wd rk:Nat} {vR v' r:Value} {rs:List Value} {A:Mx} {d:Rat} (h:znd w T vR rs n m A wd rk d) (hr:zya w 38 (T+1) r (zib m (A n)))
 (hap:∀i (hi:i<rs.length),rs[i].ownBlock≠r.ownBlock) (hv:zlc w' 25 (T+1) 1 v' (rs++ [r]).length (rs++ [r])) (hg:w.grownBy w' vR.ownBlock):
 znd (w'.setCell ⟨T,0,none⟩ v') T v' (rs++ [r]) (n+1) m A wd rk d∧Below T w (w'.setCell ⟨T,0,none⟩ v'):=by
 have hT:=h.lt
 obtain⟨⟨a,b,h1,h2,h3⟩,own,rl,mp,row,ap⟩:=h
 have hnT:vR.ownBlock≠some T:=fun e=>by have:=(own.block T e).1;omega
 have b1:=h1.grown hg hnT
 have mm:=zhb.set (B:=T+1) (p:=⟨T,0,none⟩) (Nat.lt_succ_self T) (b1.cell 0 rfl) (fun z e=>by obtain⟨a1,a2,a3,e1,_⟩:=own.sl;rw[e1]at e;cases e) v'
 have hbel:Below T w w':=zna hg (by omega) (fun k hk=>by have:=(own.block k hk).1;omega)
 refine⟨⟨⟨a,b,b1.set 0 v',(h2.grown hg own.nl).moves mm,(h3.grown hg own.nl).moves mm⟩,hv.moves mm (Nat.le_refl _),by simp[rl],mp,fun i hi=> ?_,fun i j hi hj hij=> ?_⟩,hbel.setCell (p:=⟨T,0,none⟩) (Nat.le_refl _) _⟩
 ·rcases Nat.lt_or_ge i rs.length with hk | hk
  ·rw[List.getElem_append_left hk]
   obtain⟨ys,y1,y2⟩:=id (row i hk)
   exact((row i hk).grown hg own.nl (y1.kinds own (by decide))).moves mm (Nat.le_refl _)
  ·obtain rfl:i=rs.length:=by simp at hi;omega
   have e1:(rs++ [r])[rs.length]'hi=r:=by simp
   rw[e1,rl]
   obtain⟨ys,y1,y2⟩:=id hr
   exact(hr.grown hg own.nl (y1.kinds own (by decide))).moves mm (Nat.le_refl _)
 ·rcases Nat.lt_or_ge i rs.length with hk | hk<;>rcases Nat.lt_or_ge j rs.length with hl | hl
  ·rw[List.getElem_append_left hk,List.getElem_append_left hl];exact ap i j hk hl hij
  ·obtain rfl:j=rs.length:=by simp at hj;omega
   have e1:(rs++ [r])[rs.length]'hj=r:=by simp
   rw[List.getElem_append_left hk,e1];exact hap i hk
  ·obtain rfl:i=rs.length:=by simp at hi;omega
   have e1:(rs++ [r])[rs.length]'hi=r:=by simp
   rw[List.getElem_append_left hl,e1];exact fun e=>hap j hl e.symm
  ·simp at hi hj;omega
end Go.Proofs.YtlpdkbmmbdfoiaaGreat
namespace Go.Proofs.YtlpdkbmmbdfoiaaGreat
def alt (i:Nat):Rat:=if i%2=0 then 1 else -1
theorem alt_succ (i:Nat):alt (i+1)= -alt i:=by
 unfold alt
 by_cases h:i%2=0
 ·rw[if_pos h,if_neg (by omega)]
 ·rw[if_neg h,if_pos (by omega)];decide+kernel
def mnr (A:Mx) (i:Nat):Mx:=fun a b=>A (if a<i then a else a+1) (b+1)
def dt :Nat→Mx→Rat
 | 0,_=>1
 | n+1,A=>sg (n+1) fun i=>alt i*A i 0*dt n (mnr A i)
theorem zcd {n:Nat} {A B:Mx} (h:∀a b,a<n→b<n→A a b=B a b):dt n A=dt n B:=by
 induction n generalizing A B with
 | zero=>rfl
 | succ n ih=>
   refine zma fun i hi=> ?_
   rw[h i 0 hi (by omega),ih (A:=mnr A i) (B:=mnr B i) (fun a b ha hb=>by unfold mnr;exact h _ _ (by split<;>omega) (by omega))]
def zoc (A:Mx) (r:Nat) (x:Nat→Rat):Mx:=fun a=>if a=r then x else A a
theorem zdg (A:Mx) (r:Nat):zoc A r (A r)=A:=by
 funext a;unfold zoc;split
 ·next h=>rw[h]
 ·rfl
theorem zed (A:Mx) (r:Nat) (x:Nat→Rat):zoc A r x r=x:=by unfold zoc;rw[if_pos rfl]
theorem zvc {A:Mx} {r a:Nat} {x:Nat→Rat} (h:a≠r):zoc A r x a=A a:=by unfold zoc;rw[if_neg h]
theorem zkk {A:Mx} {r s:Nat} {x y:Nat→Rat} (h:r≠s):zoc (zoc A r x) s y=zoc (zoc A s y) r x:=by
 funext a;unfold zoc
 by_cases h1:a=s
 ·subst h1;rw[if_pos rfl,if_neg (fun e=>h e.symm),if_pos rfl]
 ·rw[if_neg h1];split
  ·rfl
  ·rfl
theorem zsf (A:Mx) (r:Nat) (x:Nat→Rat):mnr (zoc A r x) r=mnr A r:=by
 funext a b;unfold mnr zoc
 rw[if_neg (by split<;>omega)]
theorem zmn {A:Mx} {r i:Nat} {x:Nat→Rat} (h:i≠r):mnr (zoc A r x) i=zoc (mnr A i) (if r<i then r else r-1) (fun b=>x (b+1)):=by
 funext a b;unfold mnr zoc
 by_cases h1:a=if r<i then r else r-1
 ·rw[if_pos h1,if_pos (by split at h1<;>split<;>omega)]
 ·rw[if_neg h1,if_neg (by split at h1<;>split<;>omega)]
theorem zum {n:Nat} (A:Mx) {r:Nat} (hr:r<n) (x y:Nat→Rat) (c:Rat):dt n (zoc A r fun b=>x b+c*y b)=dt n (zoc A r x)+c*dt n (zoc A r y):=by
 induction n generalizing A r x y with
 | zero=>omega
 | succ n ih=>
   rw[dt,dt,dt,←zcb,←zvd]
   refine zma fun i hi=> ?_
   by_cases h:i=r
   ·subst h
    rw[zed,zed,zed,zsf,zsf,zsf]
    grind
   ·rw[zvc h,zvc h,zvc h,zmn h,zmn h,zmn h]
    have h1:(if r<i then r else r-1)<n:=by split<;>omega
    have:=ih (mnr A i) h1 (fun b=>x (b+1)) (fun b=>y (b+1))
    rw[this]
    grind
theorem sg_pair {n r:Nat} {f:Nat→Rat} (hr:r+1<n) (h:∀i,i<n→i≠r→i≠r+1→f i=0):sg n f=f r+f (r+1):=by
 have e:sg n f=sg n (fun i=>(if r=i then f i else 0)+(if r+1=i then f i else 0)):=zma fun i hi=>by
  by_cases h1:r=i
  ·subst h1;rw[if_pos rfl,if_neg (by omega)];grind
  ·by_cases h2:r+1=i
   ·subst h2;rw[if_neg h1,if_pos rfl];grind
   ·rw[if_neg h1,if_neg h2,h i hi (fun e=>h1 e.symm) (fun e=>h2 e.symm)];grind
 rw[e,zvd,zfd (by omega),zfd hr]
theorem dt_adj {n:Nat} {A:Mx} {r:Nat} (hr:r+1<n) (h:A r=A (r+1)):dt n A=0:=by
 induction n generalizing A r with
 | zero=>omega
 | succ n ih=>
   rw[dt,sg_pair hr]
   ·have hm:mnr A r=mnr A (r+1):=by
     funext a b;unfold mnr
     by_cases h1:a<r
     ·rw[if_pos h1,if_pos (by omega)]
     ·by_cases h2:a=r
      ·subst h2;rw[if_neg h1,if_pos (by omega),h]
      ·rw[if_neg h1,if_neg (by omega)]
    rw[alt_succ,←h,←hm]
    grind
   ·intro i hi h1 h2
    have hz:dt n (mnr A i)=0:=by
     by_cases h3:i<r
     ·refine ih (r:=r-1) (by omega) ?_
      funext b;unfold mnr
      rw[if_neg (by omega),if_neg (by omega),show r-1+1=r by omega,h]
     ·refine ih (r:=r) (by omega) ?_
      funext b;unfold mnr
      rw[if_pos (by omega),if_pos (by omega),h]
    rw[hz,Rat.mul_zero]
theorem dt_zero {n:Nat} {A:Mx} {r:Nat} (hr:r<n):dt n (zoc A r fun _=>0)=0:=by
 have h:=zum A hr (fun _=>0) (fun _=>0) 1
 have e:(fun b:Nat=>(0:Rat)+1*0)=fun _=>0:=by funext b;grind
 rw[e]at h
 grind
theorem dt_scale {n:Nat} (A:Mx) {r:Nat} (hr:r<n) (x:Nat→Rat) (c:Rat):dt n (zoc A r fun b=>c*x b)=c*dt n (zoc A r x):=by
 have h:=zum A hr (fun _=>0) x c
 have e:(fun b:Nat=>(0:Rat)+c*x b)=fun b=>c*x b:=by funext b;grind
 rw[e,dt_zero hr]at h
 grind
theorem dt_exch {n a b:Nat} (ha:a<n) (hb:b<n) (hab:a≠b) (h0:∀ (A:Mx),A a=A b→dt n A=0) (A:Mx):dt n (swp A a b)= -dt n A:=by
 have D:∀x y,∃z,dt n (zoc (zoc A a x) b y)=z:=fun x y=>⟨_,rfl⟩
 have e1:swp A a b=zoc (zoc A a (A b)) b (A a):=by
  funext i;unfold swp zoc
  by_cases h1:i=a
  ·subst h1;rw[if_pos rfl,if_neg hab,if_pos rfl]
  ·rw[if_neg h1];split
   ·rfl
   ·rfl
 have e2:A=zoc (zoc A a (A a)) b (A b):=by rw[zdg,zdg]
 have key:∀x,dt n (zoc (zoc A a x) b x)=0:=fun x=>h0 _ (by rw[zed,zvc hab,zed])
 have s1:∀x y z,dt n (zoc (zoc A a (fun j=>x j+1*y j)) b z)=dt n (zoc (zoc A a x) b z)+1*dt n (zoc (zoc A a y) b z):=fun x y z=>by
  rw[zkk hab,zkk hab,zkk hab];exact zum _ ha x y 1
 have s2:∀x y z,dt n (zoc (zoc A a z) b (fun j=>x j+1*y j))=dt n (zoc (zoc A a z) b x)+1*dt n (zoc (zoc A a z) b y):=fun x y z=>zum _ hb x y 1
 have h:=key (fun j=>A a j+1*A b j)
 rw[s1,s2,s2,key,key]at h
 rw[e1]
 have e3:dt n A=dt n (zoc (zoc A a (A a)) b (A b)):=congrArg (dt n) e2
 rw[e3]
 grind
theorem dt_same {n:Nat}:∀ (k i:Nat) (A:Mx),i+1+k<n→A i=A (i+1+k)→dt n A=0
 | 0,i,A,hk,h=>dt_adj hk h
 | k+1,i,A,hk,h=>by
   have hs:=dt_exch (n:=n) (a:=i+1+k) (b:=i+1+k+1) (by omega) (by omega) (by omega) (fun B hB=>dt_adj (by omega) hB) A
   have hz:dt n (swp A (i+1+k) (i+1+k+1))=0:=dt_same k i _ (by omega) (by
    unfold swp
    rw[if_neg (by omega),if_neg (by omega),if_pos rfl]
    exact h)
   grind
theorem zej {n:Nat} {A:Mx} {i j:Nat} (hi:i<n) (hj:j<n) (hij:i≠j) (h:A i=A j):dt n A=0:=by
 rcases Nat.lt_or_gt_of_ne hij with h1 | h1
 ·exact dt_same (j-i-1) i A (by omega) (by rw[show i+1+(j-i-1)=j by omega];exact h)
 ·exact dt_same (i-j-1) j A (by omega) (by rw[show j+1+(i-j-1)=i by omega];exact h.symm)
theorem dt_swp {n a b:Nat} (ha:a<n) (hb:b<n) (hab:a≠b) (A:Mx):dt n (swp A a b)= -dt n A:=dt_exch ha hb hab (fun B h=>zej ha hb hab h) A
theorem dt_add {n i r:Nat} (hi:i<n) (hr:r<n) (hir:i≠r) (A:Mx) (c:Rat):dt n (zoc A i fun b=>A i b+c*A r b)=dt n A:=by
 have h:=zum A hi (A i) (A r) c
 have hz:dt n (zoc A i (A r))=0:=zej hi hr hir (by rw[zed,zvc (fun e=>hir e.symm)])
 rw[zdg,hz]at h
 rw[h];grind
theorem dt_sum {n:Nat} (A:Mx) {r:Nat} (hr:r<n) (f:Nat→Nat→Rat) (c:Nat→Rat):∀m,dt n (zoc A r fun b=>sg m fun l=>c l*f l b)=sg m fun l=>c l*dt n (zoc A r (f l))
 | 0=>by
   have e:(fun b=>sg 0 fun l=>c l*f l b)=fun _=>0:=by funext b;rfl
   rw[e,dt_zero hr];rfl
 | m+1=>by
   have e:(fun b=>sg (m+1) fun l=>c l*f l b)=fun b=>(sg m fun l=>c l*f l b)+c m*f m b:=by funext b;rfl
   rw[e,zum A hr,dt_sum A hr f c m];rfl
def pr :Nat→(Nat→Rat)→Rat
 | 0,_=>1
 | n+1,f=>pr n f*f n
theorem pr_congr {n:Nat} {f g:Nat→Rat} (h:∀i,i<n→f i=g i):pr n f=pr n g:=by
 induction n with
 | zero=>rfl
 | succ n ih=>rw[pr,pr,ih (fun i hi=>h i (by omega)),h n (by omega)]
theorem pr_first (n:Nat) (f:Nat→Rat):pr (n+1) f=f 0*pr n fun i=>f (i+1):=by
 induction n with
 | zero=>simp[pr]
 | succ n ih=>rw[pr,ih,pr];grind
theorem zql {n:Nat} {A:Mx} (h:∀i j,i<n→j<n→i≠j→A i j=0):dt n A=pr n fun i=>A i i:=by
 induction n generalizing A with
 | zero=>rfl
 | succ n ih=>
   have e:dt (n+1) A=sg (n+1) fun i=>if 0=i then alt i*A i 0*dt n (mnr A i)else 0:=zma fun i hi=>by
    by_cases h0:0=i
    ·rw[if_pos h0]
    ·rw[if_neg h0,h i 0 hi (by omega) (fun e=>h0 e.symm)];grind
   rw[e,zfd (show 0<n+1 by omega),pr_first,ih (A:=mnr A 0) (fun i j hi hj hij=>by
    unfold mnr;rw[if_neg (by omega)];exact h _ _ (by omega) (by omega) (by omega))]
   have e2:(pr n fun i=>mnr A 0 i i)=pr n fun i=>A (i+1) (i+1):=pr_congr fun i hi=>by unfold mnr;rw[if_neg (by omega)]
   rw[e2]
   have :alt 0=1:=by decide+kernel
   rw[this];grind
def dtB :Nat→Nat→Nat
 | 0,_=>1
 | n+1,m=>(n+1)*(m*dtB n m)
theorem over_alt {D B:Nat} {q:Rat} (i:Nat) (h:over D B q):over D B (alt i*q):=by
 unfold alt;split
 ·rw[Rat.one_mul];exact h
 ·have e:(-1:Rat)*q= -q:=by grind
  rw[e];exact over.neg h
theorem dt_over {n D m:Nat} {A:Mx} (hD:D≠0) (h:∀i j,i<n→j<n→over D m (A i j)):over (D^n) (dtB n m) (dt n A):=by
 induction n generalizing A with
 | zero=>exact⟨1,by simp[dt];decide+kernel,Nat.le_refl _⟩
 | succ n ih=>
   rw[dt,dtB]
   refine over.sg (Nat.ne_of_gt (Nat.pow_pos (Nat.pos_of_ne_zero hD))) fun i hi=> ?_
   have h1:=ih (A:=mnr A i) (fun a b ha hb=>by unfold mnr;exact h _ _ (by split<;>omega) (by omega))
   have h2:=over.mul (over_alt i (h i 0 hi (by omega))) h1
   rw[Nat.pow_succ,Nat.mul_comm (D^n) D]
   exact h2
theorem fp_congr {y z:Nat→Bool} (f r:Nat) (h:∀i,r≤i→i<r+f→y i=z i):fp y f r=fp z f r:=by
 induction f generalizing r with
 | zero=>rfl
 | succ f ih=>rw[fp,fp,h r (Nat.le_refl _) (by omega),ih (r+1) (fun i h1 h2=>h i (by omega) (by omega))]
theorem ztm {n m:Nat} {A M:Mx} (b c:Bool) (h:∀i j,i<n→j<m→A i j=M i j):∀k,k≤m→
 (elim b n A k).r=(elim c n M k).r∧(elim b n A k).d=(elim c n M k).d∧∀i j,(elim b n A k).r≤i→i<n→j<m→(elim b n A k).A i j=(elim c n M k).A i j
 | 0,_=>⟨rfl,rfl,fun i j _ hi hj=>h i j hi hj⟩
 | k+1,hk=>by
   obtain⟨h1,h2,h3⟩:=ztm b c h k (by omega)
   have hr:=(zue b n A k).1
   rw[elim,elim]
   obtain⟨⟨X,r,d⟩,hX⟩:∃S,elim b n A k=S:=⟨_,rfl⟩
   obtain⟨⟨Y,s,e⟩,hY⟩:∃S,elim c n M k=S:=⟨_,rfl⟩
   rw[hX,hY]at h1 h2 h3
   rw[hX]at hr
   rw[hX,hY]
   dsimp only at h1 h2 h3 hr
   subst h1 h2
   have hp:pvt n k ⟨X,r,d⟩=pvt n k ⟨Y,r,d⟩:=fp_congr _ _ fun i hi1 hi2=>by
    have hi2:i<r+(n-r):=hi2
    have hi1:r≤i:=hi1
    show decide (X i k≠0)=decide (Y i k≠0)
    rw[h3 i k hi1 (by omega) (by omega)]
   unfold zzf
   rw[hp]
   have hge:r≤pvt n k ⟨Y,r,d⟩:=zvk n k ⟨Y,r,d⟩
   by_cases hlt:pvt n k ⟨Y,r,d⟩<n
   ·rw[if_pos hlt,if_pos hlt]
    dsimp only
    generalize pvt n k ⟨Y,r,d⟩=a at *
    have hsw:∀i j,r≤i→i<n→j<m→swp X r a i j=swp Y r a i j:=fun i j hi hin hj=>by
     unfold swp
     split
     ·exact h3 a j hge hlt hj
     ·split
      ·exact h3 r j (Nat.le_refl _) (by omega) hj
      ·exact h3 i j hi hin hj
    refine⟨rfl,?_,fun i j hi hin hj=> ?_⟩
    ·rw[hsw r k (Nat.le_refl _) (by omega) (by omega)]
    ·have hi':r<i:=hi
     unfold znj
     rw[hsw i j (by omega) hin hj,hsw i k (by omega) hin (by omega),hsw r k (Nat.le_refl _) (by omega) (by omega),hsw r j (Nat.le_refl _) (by omega) hj]
     have he:act b (swp X r a) r k i↔act c (swp Y r a) r k i:=by
      unfold act
      rw[hsw i k (by omega) hin (by omega)]
      exact⟨fun⟨p,q,s⟩=>⟨p,fun z=>by omega,s⟩,fun⟨p,q,s⟩=>⟨p,fun z=>by omega,s⟩⟩
     by_cases hact:act c (swp Y r a) r k i∧k≤j
     ·rw[if_pos hact,if_pos ⟨he.2 hact.1,hact.2⟩]
     ·rw[if_neg hact,if_neg (fun hh=>hact ⟨he.1 hh.1,hh.2⟩)]
   ·rw[if_neg hlt,if_neg hlt]
    exact⟨rfl,rfl,h3⟩
theorem hA_self {A:Mx} {a r:Nat} (h:a=r):swp A r a=A:=by
 subst h;funext i;unfold swp;split
 ·next h=>rw[h]
 ·rfl
structure RowC (n:Nat) (P:Mx→Rat→Prop):Prop where
 congr:∀A B s,(∀i,i<n→A i=B i)→P A s→P B s
 swap:∀A s a b,a<n→b<n→a≠b→P A s→P (swp A a b) (-s)
 add:∀A s i r c,i<n→r<n→i≠r→P A s→P (zoc A i fun b=>A i b+c*A r b) s
def sgs (b:Bool) (n:Nat) (A:Mx):Nat→Rat
 | 0=>1
 | k+1=>if pvt n k (elim b n A k)<n then(if pvt n k (elim b n A k)=(elim b n A k).r then sgs b n A k else -sgs b n A k)else sgs b n A k
theorem zyd (b:Bool) (n:Nat) (A:Mx):∀k i j,(elim b n A k).r≤i→i<n→j<k→(elim b n A k).A i j=0
 | 0,i,j,_,_,hj=>by omega
 | k+1,i,j,hi,hin,hj=>by
   have ih:=zyd b n A k
   rw[elim,zzf]at hi ⊢
   by_cases hlt:pvt n k (elim b n A k)<n
   ·rw[if_pos hlt]at hi ⊢
    dsimp only at hi ⊢
    have hge:=zvk n k (elim b n A k)
    have hpn:=pvt_ne (zue b n A k).1 hlt
    generalize pvt n k (elim b n A k)=a at *
    have hs:∀i j,(elim b n A k).r≤i→i<n→j<k→swp (elim b n A k).A (elim b n A k).r a i j=0:=fun i j h1 h2 h3=>by
     unfold swp;split
     ·exact ih a j hge hlt h3
     ·split
      ·exact ih _ j (Nat.le_refl _) (by omega) h3
      ·exact ih i j h1 h2 h3
    unfold znj
    by_cases hjk:j<k
    ·rw[if_neg (by omega)];exact hs i j (by omega) hin hjk
    ·obtain rfl:j=k:=by omega
     by_cases hz:swp (elim b n A j).A (elim b n A j).r a i j=0
     ·rw[if_neg (fun h=>h.1.2.2 hz)];exact hz
     ·have hact:act b (swp (elim b n A j).A (elim b n A j).r a) (elim b n A j).r j i:=⟨by omega,fun z=>by omega,hz⟩
      rw[if_pos ⟨hact,Nat.le_refl _⟩]
      by_cases hp:swp (elim b n A j).A (elim b n A j).r a (elim b n A j).r j=0
      ·exfalso
       rw[zek]at hp
       exact hpn hp
      ·rw[Rat.div_mul_cancel hp];grind
   ·rw[if_neg hlt]at hi ⊢
    rcases Nat.lt_or_ge j k with h | h
    ·exact ih i j hi hin h
    ·obtain rfl:j=k:=by omega
     have hall:=fp_before (fun i=>decide ((elim b n A j).A i j≠0)) (n- (elim b n A j).r) (elim b n A j).r i hi (by unfold pvt at hlt;omega)
     simpa using hall
theorem redP_succ {b:Bool} {A:Mx} {r k e:Nat} (h0:∀j,j<k→A r j=0) (he:e≠r):
 ∃c,zzg b A r k (e+1)=zoc (zzg b A r k e) e (fun j=>zzg b A r k e e j+c*zzg b A r k e r j):=by
 by_cases hact:act b A r k e
 ·refine⟨-(A e k/A r k),?_⟩
  rw[zpk,zuj]
  funext a j
  unfold zzg zoc
  by_cases h1:a=e
  ·subst h1
   rw[if_pos (by omega),if_pos rfl]
   unfold znj
   by_cases h2:k≤j
   ·rw[if_pos ⟨hact,h2⟩];grind
   ·rw[if_neg (fun h=>h2 h.2),h0 j (by omega)];grind
  ·rw[if_neg h1]
   show _=if a<e then znj b A r k a j else A a j
   by_cases h2:a<e
   ·rw[if_pos h2,if_pos (show a<e+1 by omega)]
   ·rw[if_neg h2,if_neg (show ¬a<e+1 by omega)]
 ·refine⟨0,?_⟩
  rw[zsh hact]
  have e1:(fun j=>zzg b A r k e e j+0*zzg b A r k e r j)=zzg b A r k e e:=by funext j;grind
  rw[e1,zdg]
theorem redu_kept {n:Nat} {P:Mx→Rat→Prop} (hP:RowC n P) {b:Bool} {A:Mx} {r k:Nat} {s:Rat} (hr:r<n) (h0:∀j,j<k→A r j=0) (h:P A s):P (znj b A r k) s:=by
 have key:∀e,e≤n→P (zzg b A r k e) s:=by
  intro e
  induction e with
  | zero=>intro _;rw[redP_zero];exact h
  | succ e ih=>
    intro he
    by_cases her:e=r
    ·rw[zsh (fun ha=>ha.1 her)];exact ih (by omega)
    ·obtain⟨c,hc⟩:=redP_succ (b:=b) h0 her
     rw[hc]
     exact hP.add _ s e r c (by omega) hr her (ih (by omega))
 refine hP.congr _ _ s (fun i hi=> ?_) (key n (Nat.le_refl _))
 funext j
 exact redP_all i j hi
theorem zbd {n:Nat} {P:Mx→Rat→Prop} (hP:RowC n P) (b:Bool) {A:Mx} (h:P A 1):∀k,P (elim b n A k).A (sgs b n A k)
 | 0=>h
 | k+1=>by
   have ih:=zbd hP b h k
   have hl:=zyd b n A k
   have hrn:=(zue b n A k).1
   rw[elim,zzf,sgs]
   by_cases hlt:pvt n k (elim b n A k)<n
   ·rw[if_pos hlt,if_pos hlt]
    dsimp only
    have hge:=zvk n k (elim b n A k)
    generalize pvt n k (elim b n A k)=a at *
    have hr:(elim b n A k).r<n:=by omega
    have hsw:P (swp (elim b n A k).A (elim b n A k).r a) (if a=(elim b n A k).r then sgs b n A k else -sgs b n A k):=by
     by_cases ha:a=(elim b n A k).r
     ·rw[if_pos ha,hA_self ha];exact ih
     ·rw[if_neg ha];exact hP.swap _ _ _ _ hr hlt (fun e=>ha e.symm) ih
    refine redu_kept hP hr (fun j hj=> ?_) hsw
    rw[zek]
    exact hl a j hge hlt hj
   ·rw[if_neg hlt,if_neg hlt];exact ih
theorem elim_full {b:Bool} {n:Nat} {M:Mx} (h:(elim b n M n).r=n):∀j,j≤n→(elim b n M (n-j)).r=n-j
 | 0,_=>by rw[Nat.sub_zero];exact h
 | j+1,hj=>by
   have ih:=elim_full h j (by omega)
   have h1:=(zue b n M (n- (j+1))).2
   rw[show n-j=(n- (j+1))+1 by omega,elim,zzf]at ih
   split at ih
   ·have :(elim b n M (n- (j+1))).r+1=n- (j+1)+1:=ih
    omega
   ·have :(elim b n M (n- (j+1))).r=n- (j+1)+1:=ih
    omega
theorem zol {b:Bool} {n:Nat} {M:Mx} (h:(elim b n M n).r=n) {k:Nat} (hk:k≤n):(elim b n M k).r=k:=by
 have:=elim_full h (n-k) (by omega)
 rwa[show n- (n-k)=k by omega]at this
theorem zad {n:Nat} {M:Mx} (h:(elim false n M n).r=n):∀k,k≤n→
 (∀i j,i<n→j<k→i≠j→(elim false n M k).A i j=0)∧(∀j,j<k→(elim false n M k).A j j≠0)∧(elim false n M k).d=sgs false n M k*pr k fun i=>(elim false n M k).A i i
 | 0,_=>⟨fun i j _ hj=>by omega,fun j hj=>by omega,by simp[elim,sgs,pr]⟩
 | k+1,hk=>by
   obtain⟨h1,h2,h3⟩:=zad h k (by omega)
   have hrk:=zol h (k:=k) (by omega)
   have hrk1:=zol h hk
   have hl:=zyd false n M k
   rw[elim,zzf]at hrk1
   rw[elim,zzf,sgs]
   have hlt:pvt n k (elim false n M k)<n:=by
    by_cases h5:pvt n k (elim false n M k)<n
    ·exact h5
    ·rw[if_neg h5,hrk]at hrk1;omega
   rw[if_pos hlt,if_pos hlt]
   dsimp only
   have hge:=zvk n k (elim false n M k)
   have hpn:=pvt_ne (zue false n M k).1 hlt
   generalize pvt n k (elim false n M k)=a at *
   rw[hrk]at hge hl ⊢
   obtain⟨S,hS⟩:∃S,(elim false n M k).A=S:=⟨_,rfl⟩
   rw[hS]at h1 h2 h3 hl hpn ⊢
   have hkk:swp S k a k k≠0:=by rw[zek];exact hpn
   have hsl:∀i j,i<n→j<k→i≠j→swp S k a i j=0:=fun i j hi hj hij=>by
    unfold swp;split
    ·exact hl a j hge hlt hj
    ·split
     ·exact hl k j (Nat.le_refl _) (by omega) hj
     ·exact h1 i j hi hj hij
   have hsd:∀j,j<k→swp S k a j j=S j j:=fun j hj=>by
    unfold swp;rw[if_neg (by omega),if_neg (by omega)]
   have hdg:∀j,j<k→znj false (swp S k a) k k j j=S j j:=fun j hj=>by
    unfold znj;rw[if_neg (fun h=>by omega),hsd j hj]
   have hdk:znj false (swp S k a) k k k k=swp S k a k k:=by rw[zpg (fun h=>h.1 rfl)]
   refine⟨fun i j hi hj hij=> ?_,fun j hj=> ?_,?_⟩
   ·unfold znj
    by_cases hjk:j<k
    ·rw[if_neg (fun h=>by omega)];exact hsl i j hi hjk hij
    ·obtain rfl:j=k:=by omega
     by_cases hz:swp S j a i j=0
     ·rw[if_neg (fun h=>h.1.2.2 hz)];exact hz
     ·rw[if_pos ⟨⟨hij,(fun z=>by cases z.1),hz⟩,Nat.le_refl _⟩,Rat.div_mul_cancel hkk];grind
   ·by_cases hjk:j<k
    ·rw[hdg j hjk];exact h2 j hjk
    ·obtain rfl:j=k:=by omega
     rw[hdk];exact hkk
   ·rw[pr,hdk]
    have e:(pr k fun i=>znj false (swp S k a) k k i i)=pr k fun i=>S i i:=pr_congr fun i hi=>hdg i hi
    rw[e,h3]
    split
    ·exact Rat.mul_assoc _ _ _
    ·grind
theorem detC (n:Nat) (A:Mx):RowC n fun B s=>dt n A=s*dt n B where
 congr:=fun X Y s h hX=>by rw[hX,zcd (fun a b ha _=>by rw[h a ha])]
 swap:=fun X s a b ha hb hab hX=>by rw[hX,dt_swp ha hb hab];grind
 add:=fun X s i r c hi hr hir hX=>by rw[hX,dt_add hi hr hir]
theorem sgs_sq (b:Bool) (n:Nat) (M:Mx):∀k,sgs b n M k*sgs b n M k=1
 | 0=>by simp[sgs]
 | k+1=>by
   have:=sgs_sq b n M k
   rw[sgs]
   split
   ·split
    ·exact this
    ·grind
   ·exact this
theorem zme {n:Nat} {A:Mx} {r:Nat} (hr:r<n) (h:∀j,j<n→A r j=0):dt n A=0:=by
 rw[←dt_zero (A:=A) hr]
 refine zcd fun a b ha hb=> ?_
 unfold zoc;split
 ·next e=>subst e;exact h b hb
 ·rfl
theorem pr_ne {n:Nat} {f:Nat→Rat} (h:∀i,i<n→f i≠0):pr n f≠0:=by
 induction n with
 | zero=>exact(by decide+kernel:(1:Rat)≠0)
 | succ n ih=>rw[pr];exact fun e=>by rcases Rat.mul_eq_zero.1 e with e | e;exact ih (fun i hi=>h i (by omega)) e;exact h n (by omega) e
theorem elim_dt {n:Nat} {M:Mx}:((elim false n M n).r=n→dt n M=(elim false n M n).d∧dt n M≠0)∧((elim false n M n).r<n→dt n M=0):=by
 have hk:=zbd (detC n M) false (A:=M) (by rw[Rat.one_mul]) n
 refine⟨fun h=> ?_,fun h=> ?_⟩
 ·obtain⟨h1,h2,h3⟩:=zad h n (Nat.le_refl _)
  rw[zql (fun i j hi hj hij=>h1 i j hi hj hij)]at hk
  refine⟨by rw[hk,h3],?_⟩
  rw[hk]
  intro e
  rcases Rat.mul_eq_zero.1 e with e | e
  ·have:=sgs_sq false n M n;rw[e]at this;simp at this
  ·exact pr_ne h2 e
 ·have hz:=zme (n:=n) (A:=(elim false n M n).A) (r:=n-1) (by omega) (fun j hj=>zyd false n M n (n-1) j (by omega) (by omega) hj)
  rw[hk,hz];grind
def zpa (m:Nat) (A B:Mx):Mx:=fun i j=>if j<m then A i j else B i (j-m)
theorem zae {m:Nat} {A B:Mx} {i j:Nat} (h:j<m):zpa m A B i j=A i j:=by unfold zpa;rw[if_pos h]
theorem zfe {m:Nat} {A B:Mx} {i j:Nat}:zpa m A B i (m+j)=B i j:=by unfold zpa;rw[if_neg (by omega),show m+j-m=j by omega]
theorem dt_beside {n:Nat} (A B:Mx):dt n (zpa n A B)=dt n A:=zcd fun a b _ hb=>zae hb
theorem zff {n:Nat} {A B:Mx} (h:dt n A≠0):(elim false n (zpa n A B) n).r=n:=by
 have h1:=(elim_dt (M:=zpa n A B) (n:=n)).2
 rw[dt_beside]at h1
 rcases Nat.lt_or_ge (elim false n (zpa n A B) n).r n with h2 | h2
 ·exact absurd (h1 h2) h
 ·have:=(zue false n (zpa n A B) n).1;omega
theorem rank_less {n:Nat} {A B:Mx} (h:dt n A=0):(elim false n (zpa n A B) n).r<n:=by
 have h1:=(elim_dt (M:=zpa n A B) (n:=n)).1
 rw[dt_beside]at h1
 have:=(zue false n (zpa n A B) n).1
 rcases Nat.lt_or_ge (elim false n (zpa n A B) n).r n with h2 | h2
 ·exact h2
 ·exact absurd h (h1 (by omega)).2
theorem zbn (n c:Nat) (f:Nat→Rat):sg (n+c) f=sg n f+sg c fun j=>f (n+j):=by
 induction c with
 | zero=>rw[Nat.add_zero];simp[sg];grind
 | succ c ih=>rw[←Nat.add_assoc,sg,ih,sg];grind
theorem kerC (n m:Nat) (M:Mx) (y:Nat→Rat):RowC n fun X _=>(∀i,i<n→sg m (fun j=>X i j*y j)=0)→∀i,i<n→sg m (fun j=>M i j*y j)=0 where
 congr:=fun X Y s h hX hY=>hX fun i hi=>by rw[h i hi];exact hY i hi
 swap:=fun X s a b ha hb hab hX hY=>hX fun i hi=>by
  by_cases h1:i=a
  ·subst h1
   have:=hY b hb
   unfold swp at this
   rw[if_neg (fun e=>hab e.symm),if_pos rfl]at this
   exact this
  ·by_cases h2:i=b
   ·subst h2
    have:=hY a ha
    unfold swp at this
    rw[if_pos rfl]at this
    exact this
   ·have:=hY i hi
    unfold swp at this
    rw[if_neg h1,if_neg h2]at this
    exact this
 add:=fun X s i r c hi hr hir hX hY=>hX fun k hk=>by
  have hrr:=hY r hr
  rw[zvc (fun e=>hir e.symm)]at hrr
  by_cases h1:k=i
  ·subst h1
   have h2:=hY k hk
   rw[zed]at h2
   have e:sg m (fun j=>(X k j+c*X r j)*y j)=sg m (fun j=>X k j*y j)+c*sg m (fun j=>X r j*y j):=by
    rw[←zcb,←zvd]
    exact zma fun j _=>by grind
   rw[e,hrr]at h2
   grind
  ·have h2:=hY k hk
   rw[zvc h1]at h2
   exact h2
theorem znl {n c:Nat} {A B:Mx} (h:(elim false n (zpa n A B) n).r=n) {q:Nat} (hq:q<c):∀i,i<n→
 sg n (fun j=>A i j*((elim false n (zpa n A B) n).A j (n+q)/(elim false n (zpa n A B) n).A j j))=B i q:=by
 obtain⟨h1,h2,_⟩:=zad h n (Nat.le_refl _)
 obtain⟨T,hT⟩:∃T,(elim false n (zpa n A B) n).A=T:=⟨_,rfl⟩
 let y:Nat→Rat:=fun j=>if j<n then T j (n+q)/T j j else if j=n+q then -1 else 0
 have hk:=zbd (kerC n (n+c) (zpa n A B) y) false (A:=zpa n A B) (fun h=>h) n
 rw[hT]at hk h1 h2 ⊢
 have hy:∀Z:Mx,∀i,sg (n+c) (fun j=>Z i j*y j)=sg n (fun j=>Z i j*(T j (n+q)/T j j))-Z i (n+q):=fun Z i=>by
  rw[zbn]
  have e1:sg n (fun j=>Z i j*y j)=sg n (fun j=>Z i j*(T j (n+q)/T j j)):=zma fun j hj=>by
   show Z i j*(if j<n then _ else _)=_;rw[if_pos hj]
  have e2:sg c (fun j=>Z i (n+j)*y (n+j))=sg c (fun j=>if q=j then Z i (n+j)*(-1)else 0):=zma fun j hj=>by
   show Z i (n+j)*(if n+j<n then _ else if n+j=n+q then -1 else 0)=_
   rw[if_neg (by omega)]
   by_cases h5:q=j
   ·subst h5;rw[if_pos rfl,if_pos rfl]
   ·rw[if_neg (by omega),if_neg h5];grind
  rw[e1,e2,zfd hq]
  grind
 have hz:=hk fun i hi=>by
  rw[hy]
  have e:sg n (fun j=>T i j*(T j (n+q)/T j j))=sg n (fun j=>if i=j then T j (n+q)else 0):=zma fun j hj=>by
   by_cases h5:i=j
   ·subst h5;rw[if_pos rfl,Rat.mul_comm,Rat.div_mul_cancel (h2 i hi)]
   ·rw[if_neg h5,h1 i j hi hj h5];grind
  rw[e,zfd hi];grind
 intro i hi
 have:=hz i hi
 rw[hy,zfe]at this
 have e:sg n (fun j=>zpa n A B i j*(T j (n+q)/T j j))=sg n (fun j=>A i j*(T j (n+q)/T j j)):=zma fun j hj=>by rw[zae hj]
 rw[e]at this
 grind
def zkf :Mx:=fun i j=>if i=j then 1 else 0
theorem invC (n:Nat) (A:Mx):RowC n fun X _=>∀i j,i<n→j<n→sg n (fun l=>X i (n+l)*A l j)=X i j where
 congr:=fun X Y s h hX i j hi hj=>by rw[←h i hi];exact hX i j hi hj
 swap:=fun X s a b ha hb hab hX i j hi hj=>by
  unfold swp
  split
  ·exact hX b j hb hj
  ·split
   ·exact hX a j ha hj
   ·exact hX i j hi hj
 add:=fun X s i r c hi hr hir hX k j hk hj=>by
  by_cases h1:k=i
  ·subst h1
   rw[zed]
   have e:sg n (fun l=>(X k (n+l)+c*X r (n+l))*A l j)=sg n (fun l=>X k (n+l)*A l j)+c*sg n (fun l=>X r (n+l)*A l j):=by
    rw[←zcb,←zvd]
    exact zma fun l _=>by grind
   rw[e,hX k j hk hj,hX r j hr hj]
  ·rw[zvc h1];exact hX k j hk hj
def zoj (n:Nat) (A:Mx):Mx:=fun i j=>(elim false n (zpa n A zkf) n).A i (n+j)/(elim false n (zpa n A zkf) n).A i i
theorem inv_left {n:Nat} {A:Mx} (h:dt n A≠0) {i j:Nat} (hi:i<n) (hj:j<n):sg n (fun l=>zoj n A i l*A l j)=zkf i j:=by
 have hr:=zff (B:=zkf) h
 obtain⟨h1,h2,_⟩:=zad hr n (Nat.le_refl _)
 have hk:=zbd (invC n A) false (A:=zpa n A zkf) (fun i j hi hj=>by
  rw[zae hj]
  have e:sg n (fun l=>zpa n A zkf i (n+l)*A l j)=sg n (fun l=>if i=l then A l j else 0):=zma fun l hl=>by
   rw[zfe];unfold zkf
   by_cases h5:i=l
   ·rw[if_pos h5,if_pos h5];grind
   ·rw[if_neg h5,if_neg h5];grind
  rw[e,zfd hi]) n i j hi hj
 unfold zoj
 obtain⟨T,hT⟩:∃T,(elim false n (zpa n A zkf) n).A=T:=⟨_,rfl⟩
 rw[hT]at h1 h2 hk ⊢
 have e:sg n (fun l=>T i (n+l)/T i i*A l j)=(1/T i i)*sg n (fun l=>T i (n+l)*A l j):=by
  rw[←zcb]
  exact zma fun l _=>by rw[Rat.div_def,Rat.div_def];grind
 rw[e,hk]
 unfold zkf
 by_cases h5:i=j
 ·subst h5;rw[if_pos rfl,Rat.div_mul_cancel (h2 i hi)]
 ·rw[if_neg h5,h1 i j hi hj h5];grind
theorem inv_right {n:Nat} {A:Mx} (h:dt n A≠0) {i j:Nat} (hi:i<n) (hj:j<n):sg n (fun l=>A i l*zoj n A l j)=zkf i j:=
 znl (zff (B:=zkf) h) hj i hi
theorem zqi {n:Nat} {A:Mx} (h:dt n A≠0) {x b:Nat→Rat} (hx:∀i,i<n→sg n (fun j=>A i j*x j)=b i) {i:Nat} (hi:i<n):x i=sg n (fun l=>zoj n A i l*b l):=by
 have e1:sg n (fun l=>zoj n A i l*b l)=sg n (fun l=>sg n (fun j=>zoj n A i l*(A l j*x j))):=zma fun l hl=>by rw[←hx l hl,zcb]
 rw[e1,zdn]
 have e2:sg n (fun j=>sg n (fun l=>zoj n A i l*(A l j*x j)))=sg n (fun j=>if i=j then x j else 0):=zma fun j hj=>by
  have e3:sg n (fun l=>zoj n A i l*(A l j*x j))=sg n (fun l=>zoj n A i l*A l j)*x j:=by
   rw[←znc];exact zma fun l _=>by grind
  rw[e3,inv_left h hi hj];unfold zkf
  by_cases h5:i=j
  ·rw[if_pos h5,if_pos h5];grind
  ·rw[if_neg h5,if_neg h5];grind
 rw[e2,zfd hi]
theorem inv_cramer {n:Nat} {A:Mx} (h:dt n A≠0) {i j:Nat} (hi:i<n) (hj:j<n):zoj n A i j=dt n (zoc A j (zkf i))/dt n A:=by
 have e:dt n (zoc A j (zkf i))=dt n (zoc A j fun b=>sg n fun l=>zoj n A i l*A l b):=zcd fun a b ha hb=>by
  unfold zoc;split
  ·exact(inv_left h hi hb).symm
  ·rfl
 have e2:sg n (fun l=>zoj n A i l*dt n (zoc A j (A l)))=sg n (fun l=>if j=l then zoj n A i l*dt n A else 0):=zma fun l hl=>by
  by_cases h5:j=l
  ·subst h5;rw[if_pos rfl,zdg]
  ·rw[if_neg h5,zej hj hl h5 (by rw[zed,zvc (fun e=>h5 e.symm)])];grind
 rw[e,dt_sum A hj,e2,zfd hj,Rat.mul_div_cancel h]
end Go.Proofs.YtlpdkbmmbdfoiaaGreat
namespace Go.Proofs.YtlpdkbmmbdfoiaaGreat
open Go.RowKit
theorem kp1w {w0 X Y:World} {a1:Addr} {x1:Value} (h:X.cell? a1=some x1∧Below w0.heap.size w0 X) (hb:Below X.heap.size X Y):Y.cell? a1=some x1∧Below w0.heap.size w0 Y:=
 ⟨zba hb h.1,zaa h.2 hb⟩
theorem kp1a {w0 X:World} {a1:Addr} {x1:Value} (h:w0.cell? a1=some x1) (hb:Below w0.heap.size w0 X):X.cell? a1=some x1∧Below w0.heap.size w0 X:=⟨zba hb h,hb⟩
theorem kp1c {w0 X:World} {a1:Addr} {x1:Value} (h:X.cell? a1=some x1∧Below w0.heap.size w0 X):Below w0.heap.size w0 X:=h.2
theorem rowL_app (m m2:Nat) (A B:Mx) (i:Nat):zib m (A i)++zib m2 (B i)=zib (m+m2) (zpa m A B i):=by
 refine List.ext_getElem (by simp[zib]) fun j h1 h2=> ?_
 rw[ztb]
 have hj:j<m+m2:=by rw[zea]at h2;exact h2
 unfold zpa
 by_cases h:j<m
 ·rw[List.getElem_append_left (by rw[zea];exact h),ztb,if_pos h]
 ·rw[List.getElem_append_right (by rw[zea];omega),ztb,if_neg h,zea]
theorem znd.init {w:World} {T m wd:Nat} {x y z:Value} {d:Rat} (A:Mx) (hm:0<m) (hb:zjf w T #[.slice none 0 0, .int .i64 wd, .int .i64 (0:Nat),x,y,z, .int .i64 0]) (hf:zqa w (.agg #[x,y,z]) d):znd w T (.slice none 0 0) [] 0 m A wd 0 d:=by
 obtain⟨a,b,ha,h4,h5⟩:=hf
 injection ha with ha
 injection ha with ha
 simp only[List.cons.injEq,and_true]at ha
 obtain⟨rfl,rfl,rfl⟩:=ha
 exact⟨⟨y,z,hb,h4,h5⟩,zlc.nil _ _ _ _,rfl,hm,fun i h=>by simp at h,fun i j h=>by simp at h⟩
theorem znd.grownR {w w':World} {T n m wd rk:Nat} {vR u:Value} {rs:List Value} {A:Mx} {d:Rat} (h:znd w T vR rs n m A wd rk d) (hg:w.grownBy w' u.ownBlock) (hn:zlb w u) (hT:u.ownBlock≠some T)
 (hR:vR.ownBlock=none∨vR.ownBlock≠u.ownBlock) (hr:∀i (hi:i<rs.length),rs[i].ownBlock≠u.ownBlock):znd w' T vR rs n m A wd rk d:=by
 obtain⟨⟨a,b,h1,h2,h3⟩,own,rl,mp,row,ap⟩:=h
 exact⟨⟨a,b,h1.grown hg hT,h2.grown hg hn,h3.grown hg hn⟩,own.grown hg hR,rl,mp,fun i hi=>(row i hi).grown hg hn (Or.inr (hr i hi)),ap⟩
theorem znd.old {w:World} {T n m wd rk:Nat} {vR:Value} {rs:List Value} {A:Mx} {d:Rat} (h:znd w T vR rs n m A wd rk d) {i:Nat} (hi:i<rs.length):∃g,rs[i].ownBlock=some g∧g<w.heap.size:=by
 obtain⟨g,h1,_,_,h2,_⟩:=(h.row i hi).blk (by rw[zea];exact h.mp)
 exact⟨g,h1,h2⟩
def RBeg (w0:World) (n m:Nat) (A:Mx) (wd:Nat) (e:Ending) (w:World):Prop:=
 ∃T vR rs,e= .returned (.pointer (some ⟨T,0,none⟩))∧Below w0.heap.size w0 w∧znd w T vR rs n m A wd 0 1∧w0.heap.size≤T
set_option maxRecDepth 100000 in
set_option maxHeartbeats 3200000 in
theorem begin_two (va:Value) (bd:Addr) (bn bc:Nat) (n m m2:Nat) (A A2:Mx) (w:World) (ha:zam w va n m A) (hb:zam w (.slice (some bd) bn bc) n m2 A2) (hn1:1≤n) (hn:n≤100) (hm1:1≤m) (hm:m≤100) (hm21:1≤m2) (hm2:m2≤100):
 Calls Tryz.prog 204 #[va, .slice (some bd) bn bc] w (RBeg w n (m+m2) (zpa m A A2) m):=by
 obtain⟨i3,hi3,hz3,hs3,hy3⟩:=info_parts Tryz.infoF
 have hAP:=append_fr (P:=Tryz.prog) 25 38 i3 Tryz.underlying25 hi3 hz3 hs3 hy3
 obtain⟨i4,hi4,hz4,hs4,hy4⟩:=info_parts Tryz.infoRow
 have hAR:=zxl (P:=Tryz.prog) 24 25 i4 _ 24 Tryz.underlying24 hi4 hz4 hs4 hy4 (by decide) rfl (fun z=>by simp)
 clear hi3 hz3 hs3 hy3 hi4 hz4 hs4 hy4
 have sa:=ha.sl
 have la:=ha.len
 obtain⟨r0,hc0,hr0⟩:=ha.row 0 (by omega)
 have sl0:=hr0.sl
 have ln0:slen r0=m:=by rw[hr0.len,zea]
 have HA:=zH ha
 have S0:=zH hc0
 have sb:=hb.sl
 have lb:=hb.len
 have HB0:=zH hb
 clear hb
 have i0:(0:Int)<(n:Nat):=by omega
 have i00:0<n:=by omega
 clear ha hr0
 go_enter Tryz.func204,Tryz.ntmps204
 go_wp2_with fail
 go_region_held3 (fun w'=>w'.cell? (ptr va 0)=some r0∧Below w.heap.size w w') (first
  | with_reducible exact kp1a S0.out (zja _)
  | with_reducible exact kp1w (by assumption) (zca _ _)
  | with_reducible exact kp1w (by assumption) (by assumption)) (first
  |(go_at_call 218;(with_reducible refine(lnumber_one _).mono ?_);rintro e1 w1 ⟨v1,rfl,hv1,hb1⟩
    obtain⟨t9,x9,y9,rfl,⟨a1,l91,k91,rfl,_⟩,⟨a2,l92,k92,rfl,_⟩⟩:=hv1.isF
    have hB1:=zaa (kp1c (by assumption)) hb1))
 all_goals
  have hBZ:=kp1c (by assumption)
  have hI:=znd.init (w:=w1.alloc (.cells #[.slice none 0 0, .int .i64 m, .int .i64 (0:Nat), .bool t9, .slice a1 l91 k91, .slice a2 l92 k92, .int .i64 0] 177)) (m:=(m+m2)) (zpa m A A2) (by omega) (zjf.new w1 _ _) (hv1.below (zca _ _))
  have HI:=zH hI
  have HBZ:=zH hBZ
  have hTw:w.heap.size≤w1.heap.size:=hB1.size
  clear hI hBZ hv1 hb1 hB1 hc0
  go_wp2_with fail
  obtain⟨T,hT⟩:∃T,w1.heap.size=T:=⟨_,rfl⟩
  rw[hT]at HI hTw
  rw[hT]
  have HT:=zH hT
  clear hT
  go_loopg [18] (n) (fun g u18 wr=>∃ (k:Nat) (vR:Value) (rs:List Value),k≤n∧g=n-k∧u18= .int .i64 k∧znd wr T vR rs k (m+m2) (zpa m A A2) m 0 1∧Below w.heap.size w wr)
  case atStart=>exact⟨0,_,[],Nat.zero_le _,rfl,rfl,HI.out,HBZ.out⟩
  case round=>
   obtain⟨k,vR,rs,hk,hg,rfl,hTab,hbr⟩:=hrel
   obtain⟨w2,hw2⟩:∃w2,w2=wr:=⟨_,rfl⟩
   subst hw2
   have HTAB:=zH hTab
   have HBR:=zH hbr
   have HG:=zH hg
   clear HI HBZ
   by_cases hkn:k<n
   ·obtain⟨rv,hrc,hrv⟩:=(HA.out.below hbr).row k hkn
    have hrlen:=hrv.len
    rw[zea]at hrlen
    obtain⟨ra,rn,rc,rfl,hs1,hs2,hs3⟩:=id hrv.sl
    obtain⟨ad,rfl⟩:∃ad,ra=some ad:=by
     cases ra with
     | none=>exfalso;have h5:=hs3 rfl;have h6:rn=m:=hrlen;omega
     | some ad=>exact⟨ad,rfl⟩
    have hle1:([]:List Rat).length+(zib m (A k)).length≤1000:=by rw[zea];simp;omega
    have hTle:T+1≤w2.heap.size:=hTab.lt
    have hnil:=zya.nil w2 38 (T+1)
    have HRV:=zH hrv
    obtain⟨rv2,hrc2,hrv2⟩:=(HB0.out.below hbr).row k hkn
    have hrlen2:=hrv2.len
    rw[zea]at hrlen2
    obtain⟨ra2,rn2,rc2,rfl,ht1,ht2,ht3⟩:=id hrv2.sl
    obtain⟨ad2,rfl⟩:∃ad2,ra2=some ad2:=by
     cases ra2 with
     | none=>exfalso;have h5:=ht3 rfl;have h6:rn2=m2:=hrlen2;omega
     | some ad2=>exact⟨ad2,rfl⟩
    have hle2:([]++zib m (A k)).length+(zib m2 (A2 k)).length≤1000:=by rw[List.nil_append,zea,zea];omega
    have HRV2:=zH hrv2
    clear hrv2 hrlen2 ht1 ht2 ht3
    clear hTab hbr hg hs1 hs2 hs3 hrlen
    go_wp2_with (first
     |(at_builtin;refine hAP w2 rfl _ _ rfl (T+1) _ [] rfl hnil ad rn rc (zib m (A k)) rfl HRV.out hle1 hTle ?_;intro v5 w5 hf5 hg5 hn5 ho5 sv5
       obtain⟨u1,u2,u3,rfl,_⟩:=id sv5
       have hb5:Below w2.heap.size w2 w5:=zna hg5 (Nat.le_refl _) (fun k hk=>by cases hk)
       have hT5:=HTAB.out.below hb5
       have hfl5:([]++zib m (A k)).length=m:=by rw[List.nil_append,zea]
       have HT5:=zH hT5
       have HF5:=zH hf5
       have HO5:=zH ho5
       have HB5:=zH (zaa HBR.out hb5)
       have hle5:T+1≤w5.heap.size:=hT5.lt
       have HRV5:=zH (HRV2.out.below hb5)
       have hrc5:=zba hb5 hrc2
       have hsf5:=hf5
       clear hT5 hf5 hg5 hn5 ho5)
     |(at_builtin;refine hAP w5 rfl _ _ rfl (T+1) (.slice u1 u2 u3) ([]++zib m (A k)) rfl hsf5 ad2 rn2 rc2 (zib m2 (A2 k)) rfl HRV5.out hle2 hle5 ?_;intro v6 w6 hf6 hg6 hn6 ho6 sv6
       obtain⟨z1,z2,z3,rfl,_⟩:=id sv6
       have hgb:=HF5.out.blk (by rw[List.nil_append,zea];omega)
       have hT6:=HT5.out.grownR hg6 hn6 (by obtain⟨g,e1,_,e2,_⟩:=hgb;rw[e1];intro e;injection e with e;omega) (by
        obtain⟨ys,y1,y2⟩:=HF5.out
        exact HT5.out.own.kinds y1 (by decide)) (fun i hi=>by
        obtain⟨g,e1,e2⟩:=HTAB.out.old hi
        rw[e1];rcases HO5.out with h | h<;>rw[h]
        ·exact fun e=>by cases e
        ·intro e;injection e with e;omega)
       have hap6:∀i (hi:i<rs.length),rs[i].ownBlock≠(Value.slice z1 z2 z3).ownBlock:=fun i hi=>by
        obtain⟨g,e1,e2⟩:=HTAB.out.old hi
        have h52:w2.heap.size≤w5.heap.size:=hb5.size
        rw[e1];rcases ho6 with h | h<;>rw[h]
        ·rcases HO5.out with h | h<;>rw[h]
         ·exact fun e=>by cases e
         ·intro e;injection e with e;omega
        ·intro e;injection e with e;omega
       have HT6:=zH hT6
       have HF6:=zH hf6
       have HAP6:=zH hap6
       have HB6:=zH (HB5.out.trans (zna hg6 (by have:=HT5.out.lt;omega) (fun k hk=>by obtain⟨g,e1,_,e2,_⟩:=hgb;rw[e1]at hk;injection hk with hk;omega)))
       obtain⟨_,_,_,_,_,_,t5,_⟩:=hT6.cells
       have hown6:=hT6.own
       have hlen5:rs.length≤1000:=by rw[hT6.rl];omega
       have hle6:T+1≤w6.heap.size:=hT6.lt
       clear hT6 hf6 hg6 hn6 ho6 hap6 hgb hsf5)
     |(at_builtin;refine hAR w6 rfl _ _ rfl (T+1) _ vR rs rfl hown6 (.slice z1 z2 z3) rfl (fun z=>by simp) rfl hlen5 hle6 ?_;intro v7 w7 ho7 hg7 hn7 hq7 sv7
       obtain⟨y1,y2,y3,rfl,_⟩:=id sv7
       have hpush:=HT6.out.push (r:= .slice z1 z2 z3) (by have h:=HF6.out;rw[List.nil_append,rowL_app]at h;exact h) HAP6.out ho7 hg7
       have HP:=zH hpush
       have HB7:=zH (HB6.out.trans (hpush.2.mono hTw))
       obtain⟨_,_,_,_,_,_,t0,_,_,_,_,_,_,_,tf⟩:=HT6.out.cells
       have t7:=(zjf.cell (show zjf w7 T _ from(HT6.out.box.choose_spec.choose_spec.1).grown hg7 (fun e=>by have:=(HT6.out.own.block T e).1;omega)) 0 rfl)
       have f7:=(zjf.frozen (show zjf w7 T _ from(HT6.out.box.choose_spec.choose_spec.1).grown hg7 (fun e=>by have:=(HT6.out.own.block T e).1;omega)) 0)
       clear ho7 hg7 hn7 hq7 hpush t0 tf))
    go_roundg (n- (k+1))
    case measure=>(have:=HG.out;omega)
    case rel=>exact⟨k+1,_,_,by omega,rfl,by go_num,HP.out.1,HB7.out⟩
   ·obtain rfl:k=n:=by omega
    clear hTab hbr hg
    go_wp2_with fail
    go_ret
    exact⟨T,vR,rs,rfl,HBR.out,HTAB.out,hTw⟩
end Go.Proofs.YtlpdkbmmbdfoiaaGreat
