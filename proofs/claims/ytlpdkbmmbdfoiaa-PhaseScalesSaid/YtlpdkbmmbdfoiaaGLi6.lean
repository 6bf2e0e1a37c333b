/-
  A table in the making: rows appended to it. No code is walked here.
-/
import Derived.Test.YtlpdkbmmbdfoiaaGRa3
import Derived.Test.YtlpdkbmmbdfoiaaGLi4
set_option linter.unusedVariables false
set_option linter.unusedSimpArgs false
namespace Go.Proofs.Ytlpdkbmmbdfoiaa
open Go.RowKit
theorem zbb.cells {w:World} {x:Value} {q:List Rat} (h:zbb w x q):∃xs:List Value,xs.length=q.length*3∧(∀j u,xs[j]? =some u→w.cell? (ptr x j)=some u)∧zwe w xs q∧(∀u∈xs,u.oneCell'=true)∧∀u∈xs,∀z,u≠ .int .u32 z:=by
 have hex:∀j,j<q.length*3→∃u,w.cell? (ptr x j)=some u∧u.oneCell'=true∧∀z,u≠ .int .u32 z:=fun j hj=>by
  obtain⟨a,b,h1,h2,h3,h4,h5⟩:=h.at' (j/3) (by omega)
  obtain⟨a1,a2,a3,rfl,_⟩:=h4.v.sl
  obtain⟨b1,b2,b3,rfl,_⟩:=h5.v.sl
  rcases(show j=j/3*3∨j=j/3*3+1∨j=j/3*3+2 by omega)with e | e | e
  ·rw[e];exact⟨_,h1,rfl,fun z=>by simp⟩
  ·rw[e];exact⟨_,h2,rfl,fun z=>by simp⟩
  ·rw[e];exact⟨_,h3,rfl,fun z=>by simp⟩
 refine⟨(List.range (q.length*3)).map (fun j=>(w.cell? (ptr x j)).getD undef),by simp,fun j u hu=> ?_,fun j hj=> ?_,fun u hu=> ?_,fun u hu=> ?_⟩
 ·rw[List.getElem?_map]at hu
  by_cases hj:j<q.length*3
  ·rw[List.getElem?_range hj]at hu
   obtain⟨u',h1,_⟩:=hex j hj
   simp[h1]at hu
   rw[h1,hu]
  ·rw[List.getElem?_eq_none (by simp;omega)]at hu;simp at hu
 ·obtain⟨a,b,h1,h2,h3,h4,h5⟩:=h.at' j hj
  refine⟨a,b,?_,?_,?_,h4,h5⟩
  ·rw[List.getElem?_map,List.getElem?_range (by omega)];simp[h1]
  ·rw[List.getElem?_map,List.getElem?_range (by omega)];simp[h2]
  ·rw[List.getElem?_map,List.getElem?_range (by omega)];simp[h3]
 ·obtain⟨j,hj,rfl⟩:=List.mem_map.1 hu
  obtain⟨u',h1,h2,h3⟩:=hex j (List.mem_range.1 hj)
  rw[h1];exact h2
 ·obtain⟨j,hj,rfl⟩:=List.mem_map.1 hu
  obtain⟨u',h1,h2,h3⟩:=hex j (List.mem_range.1 hj)
  rw[h1];exact h3
theorem zwe.app {w:World} {xs ys:List Value} {p q:List Rat} (h:zwe w xs p) (hl:xs.length=p.length*3) (h2:zwe w ys q):zwe w (xs++ys) (p++q):=by
 intro j hj
 rcases Nat.lt_or_ge j p.length with h3 | h3
 ·obtain⟨a,b,e1,e2,e3,e4,e5⟩:=h j h3
  rw[List.getElem_append_left h3]
  exact⟨a,b,by rw[List.getElem?_append_left (by omega)];exact e1,by rw[List.getElem?_append_left (by omega)];exact e2,by rw[List.getElem?_append_left (by omega)];exact e3,e4,e5⟩
 ·have hj2:j-p.length<q.length:=by rw[List.length_append]at hj;omega
  obtain⟨a,b,e1,e2,e3,e4,e5⟩:=h2 (j-p.length) hj2
  rw[List.getElem_append_right h3]
  refine⟨a,b,?_,?_,?_,e4,e5⟩
  ·rw[List.getElem?_append_right (by omega),show j*3-xs.length=(j-p.length)*3 by omega];exact e1
  ·rw[List.getElem?_append_right (by omega),show j*3+1-xs.length=(j-p.length)*3+1 by omega];exact e2
  ·rw[List.getElem?_append_right (by omega),show j*3+2-xs.length=(j-p.length)*3+2 by omega];exact e3
theorem append_fr {P:Program} (t e:TypeId) (i:TypeInfo) (ht:P.underlying t=some (.slice e)) (hi:P.info? e=some i) (hz:i.zero=some (.agg #[.bool false, .slice none 0 0, .slice none 0 0])) (hsize:i.size=3) (hby:i.bytes=56)
 (w:World) {ops:Array Oper} {rest:List Oper} {o:Oper} {a:Act} {Q:Exit→Act→World→Prop} (hgd:o.guard=none) (s x:Operand)
 (ho:o.op= .call { callee:= .builtin .append,args:=#[s,x],argTypes:=#[t,t] }) (B:Nat)
 (v:Value) (q:List Rat) (hs:a.eval s=v) (hown:zya w e B v q) (ad:Addr) (m c:Nat) (p:List Rat) (hxe:a.eval x= .slice (some ad) m c) (hf:zbb w (.slice (some ad) m c) p) (hn:q.length+p.length≤1000) (hbase:B≤w.heap.size)
 (h:∀v' w',zya w' e B v' (q++p)→w.grownBy w' v.ownBlock→zlb w v→(v'.ownBlock=v.ownBlock∨v'.ownBlock=some w.heap.size)→zgc v'→wpList P ops Q rest (a.put o.dst v') w'):
 wpList P ops Q (o::rest) a w:=by
 obtain⟨xs,h1,h2⟩:=hown
 obtain⟨news,n1,n2,n3,n4,n5⟩:=hf.cells
 have hm:m=p.length:=hf.len
 refine wpList_plain hgd fun K hK=> ?_
 obtain⟨v',w',hr,k1,k2,k3,k4⟩:=zwd (P:=P) w B t o.type e i _ 3 56 ht hi hz hsize hby rfl (by decide) v q.length xs h1.own ad m c news (by rw[n1,hm])
  (fun j u hu=>by have:=n2 j u hu;simpa only[ptr,base]using this) n4 (by simp[maxLen];omega) (by omega) hbase h1.nl n5 (fun c hc z=>by
   have hc2:c∈ [Value.bool false, .slice none 0 0, .slice none 0 0]:=hc
   simp at hc2;rcases hc2 with rfl | rfl<;>simp)
 unfold Oper.wp execOp
 simp only[ho,resolve,invoke,builtin,Sem.run_bind,Sem.run_pure,Result.andThen_ok,List.map_toArray,List.map_cons,List.map_nil,hs,hxe,hr]
 have hR:zlc w' e B 3 v' (q.length+m) (xs++news):=⟨k1,k4⟩
 refine hK _ _ (h v' w' ⟨xs++news,by rw[List.length_append,←hm];exact hR,?_⟩ k2 h1.nl k3 hR.sl)
 exact(h2.app h1.clen n3).grown k2 h1.nl
theorem znd.push {w w':World} {T n m wd rk:Nat} {vR v' r:Value} {rs:List Value} {A:Mx} {d:Rat} (h:znd w T vR rs n m A wd rk d) (hr:zya w 32 (T+1) r (zib m (A n)))
 (hap:∀i (hi:i<rs.length),rs[i].ownBlock≠r.ownBlock) (hv:zlc w' 23 (T+1) 1 v' (rs++ [r]).length (rs++ [r])) (hg:w.grownBy w' vR.ownBlock):
 znd (w'.setCell ⟨T,0,none⟩ v') T v' (rs++ [r]) (n+1) m A wd rk d∧Below T w (w'.setCell ⟨T,0,none⟩ v'):=by
 have hT:=h.lt
 obtain⟨⟨a,b,h1,h2,h3⟩,own,rl,mp,row,ap⟩:=h
 have hnT:vR.ownBlock≠some T:=fun e=>by have:=(own.block T e).1;omega
 have b1:=h1.grown hg hnT
 have mm:=zhb.set (B:=T+1) (p:=⟨T,0,none⟩) (Nat.lt_succ_self T) (b1.cell 0 rfl) (fun z e=>by obtain⟨a1,a2,a3,e1,_⟩:=own.sl;rw[e1]at e;cases e) v'
 have hbel:Below T w w':=zna hg (by omega) (fun k hk=>by have:=(own.block k hk).1;omega)
 refine⟨⟨⟨a,b,b1.set 0 v',(h2.grown hg own.nl).moves mm,(h3.grown hg own.nl).moves mm⟩,hv.moves mm (Nat.le_refl _),by simp[rl],mp,fun i hi=> ?_,fun i j hi hj hij=> ?_⟩,hbel.setCell (p:=⟨T,0,none⟩) (Nat.le_refl _) _⟩
 ·rcases Nat.lt_or_ge i rs.length with hk | hk
  ·rw[List.getElem_append_left hk]
   obtain⟨ys,y1,y2⟩:=id (row i hk)
   exact((row i hk).grown hg own.nl (y1.kinds own (by decide))).moves mm (Nat.le_refl _)
  ·obtain rfl:i=rs.length:=by simp at hi;omega
   have e1:(rs++ [r])[rs.length]'hi=r:=by simp
   rw[e1,rl]
   obtain⟨ys,y1,y2⟩:=id hr
   exact(hr.grown hg own.nl (y1.kinds own (by decide))).moves mm (Nat.le_refl _)
 ·rcases Nat.lt_or_ge i rs.length with hk | hk<;>rcases Nat.lt_or_ge j rs.length with hl | hl
  ·rw[List.getElem_append_left hk,List.getElem_append_left hl];exact ap i j hk hl hij
  ·obtain rfl:j=rs.length:=by simp at hj;omega
   have e1:(rs++ [r])[rs.length]'hj=r:=by simp
   rw[List.getElem_append_left hk,e1];exact hap i hk
  ·obtain rfl:i=rs.length:=by simp at hi;omega
   have e1:(rs++ [r])[rs.length]'hi=r:=by simp
   rw[List.getElem_append_left hl,e1];exact fun e=>hap j hl e.symm
  ·simp at hi hj;omega
end Go.Proofs.Ytlpdkbmmbdfoiaa
