/- Lemmas. -/
import Derived.Test.YtlpdkbmmbdfoiaaGreatPLi4
set_option linter.unusedVariables false
set_option linter.unusedSimpArgs false
namespace Go.Proofs.YtlpdkbmmbdfoiaaGreat
open Go.RowKit
theorem zwa.cells {w:World} {x:Value} {q:List Rat} (h:zwa w x q):∃xs:List Value,xs.length=q.length*3/\(∀j u,xs[j]? =some u->w.cell? (ptr x j)=some u)/\zmg w xs q/\(∀u∈xs,u.oneCell'=true)/\∀u∈xs,∀z,u≠ .int .u32 z:=by
 have hex:∀j,j<q.length*3->∃u,w.cell? (ptr x j)=some u/\u.oneCell'=true/\∀z,u≠ .int .u32 z:=λ j hj=>by
  obtain⟨a,b,h1,h2,h3,h4,h5⟩:=h.at' (j/3) zO;obtain⟨a1,a2,a3,rfl,_⟩:=h4.v.sl;obtain⟨b1,b2,b3,rfl,_⟩:=h5.v.sl;rcases(show j=j/3*3\/j=j/3*3+1\/j=j/3*3+2 by omega)with e | e | e
  ·rw[e];exact⟨_,h1,rfl,λ z=>by simp⟩
  ·rw[e];exact⟨_,h2,rfl,λ z=>by simp⟩
  ·rw[e];exact⟨_,h3,rfl,λ z=>by simp⟩
 refine⟨(List.range (q.length*3)).map (λ j=>(w.cell? (ptr x j)).getD undef),by simp,λ j u hu=> ?_,λ j hj=> ?_,λ u hu=> ?_,λ u hu=> ?_⟩
 ·rw[List.getElem?_map]at hu;by_cases hj:j<q.length*3
  ·rw[List.getElem?_range hj]at hu;obtain⟨u',h1,_⟩:=hex j hj;simp[h1]at hu;rw[h1,hu]
  ·rw[List.getElem?_eq_none (by simp;omega)]at hu;simp at hu
 ·obtain⟨a,b,h1,h2,h3,h4,h5⟩:=h.at' j hj;refine⟨a,b,?_,?_,?_,h4,h5⟩
  ·rw[List.getElem?_map,List.getElem?_range zO];simp[h1]
  ·rw[List.getElem?_map,List.getElem?_range zO];simp[h2]
  ·rw[List.getElem?_map,List.getElem?_range zO];simp[h3]
 ·obtain⟨j,hj,rfl⟩:=List.mem_map.1 hu;obtain⟨u',h1,h2,h3⟩:=hex j (List.mem_range.1 hj);rw[h1];exact h2
 ·obtain⟨j,hj,rfl⟩:=List.mem_map.1 hu;obtain⟨u',h1,h2,h3⟩:=hex j (List.mem_range.1 hj);rw[h1];exact h3
theorem zmg.app {w:World} {xs ys:List Value} {p q:List Rat} (h:zmg w xs p) (hl:xs.length=p.length*3) (h2:zmg w ys q):zmg w (xs++ys) (p++q):=by
 intro j hj;rcases zOG j p.length with h3 | h3
 ·obtain⟨a,b,e1,e2,e3,e4,e5⟩:=h j h3;rw[zAL h3];exact⟨a,b,by rw[List.getElem?_append_left zO];exact e1,by rw[List.getElem?_append_left zO];exact e2,by rw[List.getElem?_append_left zO];exact e3,e4,e5⟩
 ·have hj2:j-p.length<q.length:=by rw[zLA]at hj;omega
  obtain⟨a,b,e1,e2,e3,e4,e5⟩:=h2 (j-p.length) hj2;rw[List.getElem_append_right h3];refine⟨a,b,?_,?_,?_,e4,e5⟩
  ·rw[List.getElem?_append_right zO,show j*3-xs.length=(j-p.length)*3 by omega];exact e1
  ·rw[List.getElem?_append_right zO,show j*3+1-xs.length=(j-p.length)*3+1 by omega];exact e2
  ·rw[List.getElem?_append_right zO,show j*3+2-xs.length=(j-p.length)*3+2 by omega];exact e3
theorem append_fr {P:Program} (t e:TypeId) (i:TypeInfo) (ht:P.underlying t=some (.slice e)) (hi:P.info? e=some i) (hz:i.zero=some (.agg #[.bool false, .slice none 0 0, .slice none 0 0])) (hsize:i.size=3) (hby:i.bytes=56)
 (w:World) {ops:Array Oper} {rest:List Oper} {o:Oper} {a:Act} {Q:Exit->Act->World->Prop} (hgd:o.guard=none) (s x:Operand)
 (ho:o.op= .call { callee:= .builtin .append,args:=#[s,x],argTypes:=#[t,t] }) (B:Nat)
 (v:Value) (q:List Rat) (hs:a.eval s=v) (hown:zua w e B v q) (ad:Addr) (m c:Nat) (p:List Rat) (hxe:a.eval x= .slice (some ad) m c) (hf:zwa w (.slice (some ad) m c) p) (hn:q.length+p.length<=1000) (hbase:B<=w.heap.size)
 (h:∀v' w',zua w' e B v' (q++p)->w.grownBy w' v.ownBlock->zrb w v->(v'.ownBlock=v.ownBlock\/v'.ownBlock=some w.heap.size)->zvc v'->wpList P ops Q rest (a.put o.dst v') w'):
 wpList P ops Q (o::rest) a w:=by
 obtain⟨xs,h1,h2⟩:=hown;obtain⟨news,n1,n2,n3,n4,n5⟩:=hf.cells;have hm:m=p.length:=hf.len;refine wpList_plain hgd λ K hK=> ?_
 obtain⟨v',w',hr,k1,k2,k3,k4⟩:=zid (P:=P) w B t o.type e i _ 3 56 ht hi hz hsize hby rfl zD v q.length xs h1.own ad m c news (by rw[n1,hm])
  (λ j u hu=>by have:=n2 j u hu;simpa only[ptr,base]using this) n4 (by simp[maxLen];omega) zO hbase h1.nl n5 (λ c hc z=>by
   have hc2:c∈ [Value.bool false, .slice none 0 0, .slice none 0 0]:=hc;simp at hc2;rcases hc2 with rfl | rfl<;>simp)
 unfold Oper.wp execOp;simp only[ho,resolve,invoke,builtin,Sem.run_bind,Sem.run_pure,Result.andThen_ok,List.map_toArray,List.map_cons,List.map_nil,hs,hxe,hr];have hR:zkc w' e B 3 v' (q.length+m) (xs++news):=⟨k1,k4⟩;refine hK _ _ (h v' w' ⟨xs++news,by rw[zLA,<-hm];exact hR,?_⟩ k2 h1.nl k3 hR.sl);exact(h2.app h1.clen n3).grown k2 h1.nl
theorem zqe.push {w w':World} {T n m wd rk:Nat} {vR v' r:Value} {rs:List Value} {A:Mx} {d:Rat} (h:zqe w T vR rs n m A wd rk d) (hr:zua w 38 (T+1) r (zxa m (A n)))
 (hap:∀i (hi:i<rs.length),rs[i].ownBlock≠r.ownBlock) (hv:zkc w' 25 (T+1) 1 v' (rs++ [r]).length (rs++ [r])) (hg:w.grownBy w' vR.ownBlock):
 zqe (w'.setCell ⟨T,0,none⟩ v') T v' (rs++ [r]) (n+1) m A wd rk d/\Below T w (w'.setCell ⟨T,0,none⟩ v'):=by
 have hT:=h.lt;obtain⟨⟨a,b,h1,h2,h3⟩,own,rl,mp,row,ap⟩:=h;have hnT:vR.ownBlock≠some T:=λ e=>by have:=(own.block T e).1;omega
 have b1:=h1.grown hg hnT;have mm:=zkb.set (B:=T+1) (p:=⟨T,0,none⟩) (zSS T) (b1.cell 0 rfl) (λ z e=>by obtain⟨a1,a2,a3,e1,_⟩:=own.sl;rw[e1]at e;cases e) v';have hbel:Below T w w':=zja hg zO (λ k hk=>by have:=(own.block k hk).1;omega);refine⟨⟨⟨a,b,b1.set 0 v',(h2.grown hg own.nl).moves mm,(h3.grown hg own.nl).moves mm⟩,hv.moves mm (zLR _),by simp[rl],mp,λ i hi=> ?_,λ i j hi hj hij=> ?_⟩,hbel.setCell (p:=⟨T,0,none⟩) (zLR _) _⟩
 ·rcases zOG i rs.length with hk | hk
  ·rw[zAL hk];obtain⟨ys,y1,y2⟩:=id (row i hk);exact((row i hk).grown hg own.nl (y1.kinds own zD)).moves mm (zLR _)
  ·(obtain rfl:i=rs.length:=by simp at hi;omega);(have e1:(rs++ [r])[rs.length]'hi=r:=by simp);rw[e1,rl];obtain⟨ys,y1,y2⟩:=id hr;exact(hr.grown hg own.nl (y1.kinds own zD)).moves mm (zLR _)
 ·rcases zOG i rs.length with hk | hk<;>rcases zOG j rs.length with hl | hl
  ·rw[zAL hk,zAL hl];exact ap i j hk hl hij
  ·(obtain rfl:j=rs.length:=by simp at hj;omega);(have e1:(rs++ [r])[rs.length]'hj=r:=by simp);rw[zAL hk,e1];exact hap i hk
  ·(obtain rfl:i=rs.length:=by simp at hi;omega);(have e1:(rs++ [r])[rs.length]'hi=r:=by simp);rw[zAL hl,e1];exact λ e=>hap j hl e.symm
  ·simp at hi hj;omega
theorem step_app_spr {P:Program} (t e:TypeId) (i:TypeInfo) (ht:P.underlying t=some (.slice e)) (hi:P.info? e=some i) (hz:i.zero=some (.agg #[.bool false, .slice none 0 0, .slice none 0 0])) (hsize:i.size=3) (hby:i.bytes=56)
 {ops:Array Oper} {o:Oper} {a:Act} {w:World} {K:Act->World->Prop} {Q:Exit->Act->World->Prop} {E:Prop} (hgd:o.guard=none) (s x:Operand)
 (ho:o.op= .call { callee:= .builtin .append,args:=#[s,x],argTypes:=#[t,t] }) (hs:a.eval s= .slice none 0 0) (ad:Addr) (m c:Nat) (p:List Rat) (hxe:a.eval x= .slice (some ad) m c) (hf:zwa w (.slice (some ad) m c) p)
 (hn:p.length<=1000)
 (h:∀v' w',zua w' e w.heap.size v' p->Below w.heap.size w w'->zvc v'->K (a.put o.dst v') w'):
 if Region.wanted o (yielded ops a.tmps)=true then Oper.wp P o a w K Q else E:=by
 obtain⟨news,n1,n2,n3,n4,n5⟩:=hf.cells;have hm:m=p.length:=hf.len;rw[zIP (by simp[Region.wanted,hgd])]
 obtain⟨v',w',hr,k1,k2,k3,k4⟩:=zid (P:=P) w w.heap.size t o.type e i _ 3 56 ht hi hz hsize hby rfl zD (.slice none 0 0) 0 [] (World.ownsRow_nil w _ e 3) ad m c news (by rw[n1,hm])
  (λ j u hu=>by have:=n2 j u hu;simpa only[ptr,base]using this) n4 (by simp[maxLen];omega) zO (zLR _) (zrb.nil _) n5 (λ c hc z=>by
   have hc2:c∈ [Value.bool false, .slice none 0 0, .slice none 0 0]:=hc;simp at hc2;rcases hc2 with rfl | rfl<;>simp)
 unfold Oper.wp execOp;simp only[ho,resolve,invoke,builtin,Sem.run_bind,Sem.run_pure,Result.andThen_ok,List.map_toArray,List.map_cons,List.map_nil,hs,hxe,hr];have hR:zkc w' e w.heap.size 3 v' (0+m) ([]++news):=⟨k1,k4⟩;rw[Nat.zero_add,List.nil_append,hm]at hR;have hb:Below w.heap.size w w':=zja k2 (zLR _) (λ k hk=>by cases hk);exact h v' w' ⟨news,hR,n3.grown (u:= .slice none 0 0) k2 (zrb.nil _)⟩ hb hR.sl
theorem zkg.newB {b:Nat} (w:World) (cs:Array Value) (ty:TypeId) (hb:w.heap.size=b):zkg (w.alloc (.cells cs ty)) b cs:=by subst hb;exact zkg.new w cs ty
theorem zua.bS {w w':World} {e:TypeId} {B:Nat} {v:Value} {q:List Rat} (h:zua w e B v q) (hb:Below w.heap.size w w'):zua w' e B v q:=h.moves (zkb.bw (B:=B) hb) (zLR _)
theorem znb.rlen {l:LQ} (h:znb l) {i:Nat} (hi:i<l.start.length):i<l.rates.length:=by rw[h.rl];exact hi
def zff (l:LQ) (i:Nat):Rat:=zef (l.rates.getD i []++ [l.exit.getD i 0])
theorem znb.outL {l:LQ} (h:znb l) {i:Nat} (hi:i<l.start.length):∀q∈l.rates.getD i []++ [l.exit.getD i 0],zqf q:=by
 have h1:=h.rlen hi;have h2:i<l.exit.length:=by rw[h.el];exact hi
 intro q hq;rcases List.mem_append.1 hq with h3 | h3
 ·rw[zGD,zGE h1]at h3;exact(h.row i h1).2.1 q h3
 ·rw[zGD,zGE h2]at h3;simp at h3;subst h3;exact h.ex _ (zGM h2)
set_option maxRecDepth 100000 in
set_option maxHeartbeats 6400000 in
theorem zdr (va:Value) (l:LQ) (i:Nat) (w:World) (ha:zxj w va l) (hl:znb l) (hi:i<l.start.length):Calls Tryz.prog 95 #[va, .int .i64 (i:Nat)] w (RF1 w (zff l i)):=by
 obtain⟨i3,hi3,hz3,hs3,hy3⟩:=info_parts Tryz.infoF;have hAP:=fun{ops:Array Oper} {o:Oper} {a:Act} {w:World} {K:Act->World->Prop} {Q:Exit->Act->World->Prop} {E:Prop}=>zaf (P:=Tryz.prog) 25 38 i3 Tryz.underlying25 hi3 hz3 hs3 hy3 (ops:=ops) (o:=o) (a:=a) (w:=w) (K:=K) (Q:=Q) (E:=E)
 have hAV:=fun{ops:Array Oper} {o:Oper} {a:Act} {w:World} {K:Act->World->Prop} {Q:Exit->Act->World->Prop} {E:Prop}=>step_app_spr (P:=Tryz.prog) 25 38 i3 Tryz.underlying25 hi3 hz3 hs3 hy3 (ops:=ops) (o:=o) (a:=a) (w:=w) (K:=K) (Q:=Q) (E:=E)
 clear hi3 hz3 hs3 hy3;obtain⟨nm,sv,rv,ev,rfl,hs,hr,he⟩:=id ha;obtain⟨ra,rn,rk,rfl,_⟩:=id hr.sl;obtain⟨sa,sn,sk,rfl,_⟩:=id hs.sl;obtain⟨ea,en,ek,rfl,_⟩:=id he.sl;have hba:=zca w (.cells #[nm, .slice sa sn sk, .slice ra rn rk, .slice ea en ek] 52);have hbb:=zca (w.alloc (.cells #[nm, .slice sa sn sk, .slice ra rn rk, .slice ea en ek] 52)) (.cells #[.bool false, .slice none 0 0, .slice none 0 0] 38);have HC:=zH ((C4.new w 52 nm (.slice sa sn sk) (.slice ra rn rk) (.slice ea en ek)).bS hbb);have HT:=zH (C3.newB (b:=w.heap.size+1) (w.alloc (.cells #[nm, .slice sa sn sk, .slice ra rn rk, .slice ea en ek] 52)) 38 (.bool false) (.slice none 0 0) (.slice none 0 0) (by show(w.heap.push _).size=_;rw[Array.size_push]));have HBW:=zH (zaa hba hbb);have HR:=zH (hr.bw HBW.o);have HE:=zH (he.bw HBW.o);have hi1:=hl.rlen hi;have hi2:i<l.exit.length:=by rw[hl.el];exact hi
 have hen:en=l.start.length:=he.len.trans hl.el;have hrn:rn=l.start.length:=hr.len.trans hl.rl;obtain⟨n,hnn⟩:∃n,l.start.length=n:=⟨_,rfl⟩;have HN:=zH hnn;rw[hnn]at hen hrn hi;have n4:n<=4:=by rw[<-hnn];exact hl.n4
 obtain rfl:en=n:=hen;obtain rfl:rn=en:=hrn;have HL:=zH hl;have HLL:=zH (hl.outL (by rw[HN.o];exact hi));have hlr:(l.rates[i]'hi1).length=rn:=by rw[(hl.row i hi1).1,HN.o]
 have hgr:l.rates.getD i []=l.rates[i]'hi1:=by rw[zGD,zGE hi1];rfl
 have hge:l.exit.getD i 0=l.exit[i]'hi2:=by rw[zGD,zGE hi2];rfl
 obtain⟨Q,hQ⟩:∃Q,l.rates[i]'hi1=Q:=⟨_,rfl⟩;obtain⟨x,hx⟩:∃x,l.exit[i]'hi2=x:=⟨_,rfl⟩;have hOQ:zff l i=zef (Q++ [x]):=by unfold zff;rw[hgr,hge,hQ,hx]
 rw[hgr,hge,hQ,hx]at HLL;rw[hQ]at hlr;rw[hOQ];have srt:=hr.sl;have sxt:=he.sl;clear hs hr he ha hl hba hbb hnn hgr hge hOQ;go_enter Tryz.func95,Tryz.ntmps95;go_upto_region 1 with fail;generalize (w.alloc (.cells #[nm, .slice sa sn sk, .slice ra rn rk, .slice ea rn ek] 52)).alloc (.cells #[.bool false, .slice none 0 0, .slice none 0 0] 38)=W2 at *
 obtain⟨row,hc0,hrow⟩:=HR.o.at' i hi1;obtain⟨a0,b0,g1,g2,g3,g4,g5⟩:=HE.o.at' i hi2;rw[hx]at g1 g4 g5;rw[hQ]at hrow;obtain⟨a1,a2,a3,rfl,_⟩:=id g4.v.sl;obtain⟨b1,b2,b3,rfl,_⟩:=id g5.v.sl;have HX:zI (zia W2 (.agg #[.bool (decide (x<0)), .slice a1 a2 a3, .slice b1 b2 b3]) x):=zH ⟨_,_,rfl,g4,g5⟩;obtain⟨o1,o2,o3,rfl,_,_,ho⟩:=id hrow.sl;have ho2:rn=o2:=by have h:=hrow.len;rw[hlr]at h;exact h.symm
 subst ho2
 obtain⟨ad,rfl⟩:∃ad,o1=some ad:=by
  cases o1 with
  | none=>have:=ho rfl;omega
  | some ad=>exact⟨ad,rfl⟩
 have HROW:=zH hrow;obtain⟨_,c0,c1,c2,c3,_⟩:=HC.o;have S0:=zH (zAI c2 (zAI hc0 (zAI c3 (zAI g1 (zAI g2 g3)))));have j1:(0:Int)<=(i:Int):=zO;have j2:(i:Int)<(rn:Nat):=zO;clear hrow g4 g5 ho c0 c1 c2 c3 g1 g2 g3 hc0 hQ hx;go_cut [5,6] (λ u5 u6 wy=>∃ (b5:Nat) (t':Bool) (x' y':Value),u5= .pointer (some ⟨b5,0,none⟩)/\C3 wy b5 (.bool t') x' y'/\zia wy (.agg #[.bool t',x',y']) (zef (Q++ [x]))/\Below W2.heap.size W2 wy/\W2.heap.size<=b5)
 case first =>
  go_region_held3 (λ w'=>w'.cell? ⟨w.heap.size,2,none⟩=some (.slice ra rn rk)/\w'.cell? (ptr (.slice ra rn rk) i)=some (.slice (some ad) rn o3)/\w'.cell? ⟨w.heap.size,3,none⟩=some (.slice ea rn ek)/\w'.cell? (ptr (.slice ea rn ek) (i*3))=some (.bool (decide (x<0)))/\w'.cell? (ptr (.slice ea rn ek) (i*3+1))=some (.slice a1 a2 a3)/\w'.cell? (ptr (.slice ea rn ek) (i*3+2))=some (.slice b1 b2 b3)/\Below W2.heap.size W2 w') (first
   | with_reducible exact zfq S0.o (zfa _)
   | with_reducible exact zfq S0.o hB12
   | with_reducible exact zfq S0.o (zaa hB13 (zca _ _))
   | with_reducible exact keep6w (by assumption) (zca _ _)
   | with_reducible exact keep6w (by assumption) (by assumption)
   |(with_reducible refine keep6s S0.o hB13 ?_ _ _ _;omega)) (first
   |(refine hAV rfl _ _ rfl rfl ad rn o3 Q rfl (HROW.o.bw (zfh (by assumption))) zO ?_;intro v5 w5 hf5 hb5 hs5;have hk5:=hf5.block;(try simp only[zgj,zsm]at hk5);have hf5:=hf5.mono (zfh (by assumption)).size;obtain⟨p1,p2,p3,rfl,_⟩:=id hs5;have hB5:=zaa (zfh (by assumption)) hb5;have z5:=hB5.size;have zq:=hb5.size;(try simp only[zgj,zsm]at zq))
   |(refine hAP rfl _ _ rfl W2.heap.size (.slice p1 p2 p3) Q rfl ?_ (.bool (decide (x<0))) (.slice a1 a2 a3) (.slice b1 b2 b3) x ?_ _ rfl ?_ zO (zfh (by assumption)).size ?_
     ·first
       | exact hf5
       | exact hf5.bS (zca _ _)
       | exact(hf5.bS (zca _ _)).bS (zca _ _)
     ·exact HX.o.bw (zfh (by assumption))
     ·first
       | exact zkg.new _ _ _
       | exact zkg.newB _ _ _ (zgj _ _)
       | exact((zkg.new _ _ _).bw (zfa _)).bw hb5
       | exact((zkg.newB _ _ _ (zgj _ _)).bw (zfa _)).bw hb5
       | exact(zkg.new _ _ _).bw (zca _ _)
       | exact(((zkg.new _ _ _).bw (zfa _)).bw hb5).bw (zca _ _)
       | exact(((zkg.new _ _ _).bw (zca _ _)).bw (zfa _)).bw hb5
     intro v12 w12 hf12 hg12 hn12 ho12;have hB12:=(zfh (by assumption)).trans (zja hg12 (zfh (by assumption)).size (λ k hk=>(hf5.block k hk).1));have z12:=hB12.size;have zg:=hg12.size;(try simp only[zgj,zsm]at zg)
     (first
      | have hC17:=(C3.new w5 38 (.bool false) (.slice none 0 0) (.slice none 0 0)).grownB hg12 (λ e=>(by have:=hk5 _ e;omega))
      | have hC17:=((C3.new w5 38 (.bool false) (.slice none 0 0) (.slice none 0 0)).bS (zca _ (.cells #[.bool (decide (x<0)), .slice a1 a2 a3, .slice b1 b2 b3] 38))).grownB hg12 (λ e=>(by have:=hk5 _ e;omega))
      | have hC17:=(C3.newB (b:=w5.heap.size+1) (w5.alloc (.cells #[.bool (decide (x<0)), .slice a1 a2 a3, .slice b1 b2 b3] 38)) 38 (.bool false) (.slice none 0 0) (.slice none 0 0) (zgj _ _)).grownB hg12 (λ e=>(by have:=hk5 _ e;omega))
      | have hC17:=((((C3.new W2 38 (.bool false) (.slice none 0 0) (.slice none 0 0)).bS (zfa _)).bS hb5).bS (zca _ (.cells #[.bool (decide (x<0)), .slice a1 a2 a3, .slice b1 b2 b3] 38))).grownB hg12 (λ e=>(by have:=hk5 _ e;omega))
      | have hC17:=(((C3.new W2 38 (.bool false) (.slice none 0 0) (.slice none 0 0)).bS (zfa _)).bS hb5).grownB hg12 (λ e=>(by have:=hk5 _ e;omega))
      | have hC17:=((((C3.new W2 38 (.bool false) (.slice none 0 0) (.slice none 0 0)).bS (zca _ (.cells #[.bool (decide (x<0)), .slice a1 a2 a3, .slice b1 b2 b3] 38))).bS (zfa _)).bS hb5).grownB hg12 (λ e=>(by have:=hk5 _ e;omega))
      | have hC17:=(((C3.newB (b:=W2.heap.size+1) (W2.alloc (.cells #[.bool (decide (x<0)), .slice a1 a2 a3, .slice b1 b2 b3] 38)) 38 (.bool false) (.slice none 0 0) (.slice none 0 0) (zgj _ _)).bS (zfa _)).bS hb5).grownB hg12 (λ e=>(by have:=hk5 _ e;omega))
      | skip)
     (try obtain⟨_,d0,d1,d2,f0,f1,f2⟩:=id hC17);obtain⟨y1,y2,y3,rfl,_⟩:=id hf12.sl)
   |(go_at_call 137;first
      |((with_reducible refine(znr _ (Q++ [x]) _ hf12.fracs HLL.o ?_).mono ?_);focus (rw[zLA];simp;omega)
        rintro e13 w13 ⟨v13,rfl,hv13,hb13⟩;(try have hC13:=hC17.bS hb13))
      |((with_reducible refine(znr _ (Q++ [x]) _ (hf12.fracs.bw (zca _ _)) HLL.o ?_).mono ?_);focus (rw[zLA];simp;omega)
        rintro e13 w13 ⟨v13,rfl,hv13,hb13⟩;have hC13:=(C3.new w12 38 (.bool false) (.slice none 0 0) (.slice none 0 0)).bS hb13)
     have hB13:=zaa (zfh (by assumption)) hb13;have z13:=hB13.size;(try clear d0 d1 d2 f0 f1 f2);(try obtain⟨_,d0,d1,d2,f0,f1,f2⟩:=id hC13);obtain⟨t13,a81,l81,k81,a82,l82,k82,rfl⟩:=hv13.iF))
  all_goals
   have hE:=zfh (by assumption);go_wp2_with fail;go_meet
   case rel=>
    first
     | exact⟨_,_,_,_,rfl,C3.new w13 _ _ _ _,hv13.bw (zca _ _),hE,hB13.size⟩
     | exact⟨_,_,_,_,rfl,hC13.set _ _ _,hv13.set3 hC13 zZ zZ _ _ _,hE,zO⟩
 case rest=>
  obtain⟨b5,t8,x8,y8,rfl,hC6,hv6,hb6,hbb⟩:=hcut;obtain⟨w3,hw3⟩:∃w3,w3=wc:=⟨_,rfl⟩;subst hw3;obtain⟨_,_,_,hF6,⟨a81,l81,k81,rfl,_⟩,⟨a82,l82,k82,rfl,_⟩⟩:=hv6.isF;injection hF6 with hF6
  injection hF6 with hF6
  simp only[List.cons.injEq,and_true,Value.bool.injEq]at hF6;obtain⟨rfl,rfl,rfl⟩:=hF6;have HT3:=zH (HT.o.bw hb6 HT.o.lt);have HV6:=zH hv6;have HB6:=zH (zaa HBW.o hb6);obtain⟨_,d0,d1,d2,_⟩:=hC6;obtain⟨_,e0,e1,e2,f0,f1,f2⟩:=HT3.o;clear hv6 hb6 S0;go_wp2_with fail;refine zab rfl rfl Tryz.aggF Tryz.sizeF (HT3.o.set _ _ _) rfl ?_;exact⟨_,rfl,HV6.o.set3 HT3.o zZ zZ _ _ _,zga HB6.o (zLS _) _ _ _⟩
set_option maxHeartbeats 6400000
theorem zyl :∀n:Fin 100,fits (fq false n.val 1):=by decide+kernel
theorem make_n1 (n:Nat) (hn:n<100) (w:World):Calls Tryz.prog 67 #[.int .i64 (n:Nat), .int .i64 1] w (RF0 w (fq false n 1)):=
 (zqo (n:Nat) 1 w zO zO zD zD zD).mono λ _ _ h=>h.ok (by
  rw[zDF (show ¬ ((n:Nat):Int)<0 by omega),zDF (show ¬ (1:Int)<0 by decide)];rfl) (zyl ⟨n,hn⟩)
theorem pnumber_nat (n:Nat) (hn:n<100) (w:World):Calls Tryz.prog 88 #[.int .i64 (n:Nat)] w (RF1 w (fq false n 1)):=by
 have HN:=zH hn;clear hn;go_enter Tryz.func88,Tryz.ntmps88;go_wp2_with (go_at_call 67;(with_reducible refine(make_n1 n HN.o _).mono ?_);rintro e w1 ⟨v,rfl,hv,hb1⟩;obtain⟨t9,a1,l91,k1,a2,l92,k2,rfl⟩:=hv.iF;have hr:=((C3.new w 38 (.bool false) (.slice none 0 0) (.slice none 0 0)).bS hb1).allocS (.cells #[.bool t9, .slice a1 l91 k1, .slice a2 l92 k2] 38);have hv2:=hv.bw (zca w1 (.cells #[.bool t9, .slice a1 l91 k1, .slice a2 l92 k2] 38));have hb2:=zaa (zaa (zca w (.cells #[.bool false, .slice none 0 0, .slice none 0 0] 38)) hb1) (zca w1 (.cells #[.bool t9, .slice a1 l91 k1, .slice a2 l92 k2] 38));have HR:=zH hr;obtain⟨_,d1,d2,d3,d4,d5,d6⟩:=hr);refine zab rfl rfl Tryz.aggF Tryz.sizeF (HR.o.set _ _ _) rfl ?_;exact⟨_,rfl,hv2.set3 HR.o zZ zZ _ _ _,zga hb2 (zLR _) _ _ _⟩
def zhp (a b:List Rat) (k:Nat):Rat:=0+sg k λ t=>a.getD t 0*b.getD t 0
theorem dotL_succ (a b:List Rat) (k:Nat):zhp a b k+a.getD k 0*b.getD k 0=zhp a b (k+1):=by
 show _=0+(_+a.getD k 0*b.getD k 0)
 unfold zhp;rw[Rat.add_assoc]
structure ScaP (a b:List Rat) (f:Nat):Prop where
 len:b.length=a.length
 n:a.length<=1000
 f100:f<100
 fa:∀t,t<a.length->fits (a.getD t 0)/\fits (b.getD t 0)/\fits (a.getD t 0*b.getD t 0)
 fs:∀k,k<=a.length->fits (zhp a b k)
 fr:fits (zhp a b a.length*fq false f 1)
set_option maxRecDepth 100000 in
theorem zwp (va vb:Value) (a b:List Rat) (f:Nat) (w:World) (ha:zwa w va a) (hb:zwa w vb b) (hp:ScaP a b f):
 Calls Tryz.prog 99 #[va,vb, .int .i64 (f:Nat)] w (RF0 w (zhp a b a.length*fq false f 1)):=by
 obtain⟨xa,xn,xk,rfl,_⟩:=id ha.sl;obtain⟨ya,yn,yk,rfl,_⟩:=id hb.sl;have sx:=ha.sl;have sy:=hb.sl;have hxn:xn=a.length:=ha.len;have hyn:yn=a.length:=hb.len.trans hp.len;obtain⟨n,hnn⟩:∃n,a.length=n:=⟨_,rfl⟩;rw[hnn]at hxn hyn;obtain rfl:xn=n:=hxn;obtain rfl:yn=xn:=hyn;have HN:=zH hnn;have h1000:yn<=1000:=by rw[<-hnn];exact hp.n
 have HP:=zH hp;have hba:=zca w (.cells #[.bool false, .slice none 0 0, .slice none 0 0] 38);have HR:=zH (C3.new w 38 (.bool false) (.slice none 0 0) (.slice none 0 0));have HA:=zH (ha.bw hba);have HB:=zH (hb.bw hba);have HBW:=zH hba;clear ha hb hp hba hnn;go_enter Tryz.func99,Tryz.ntmps99;go_upto_region 1 with fail;obtain⟨b6,hb6⟩:∃b,w.heap.size=b:=⟨_,rfl⟩;have HE6:=zH hb6;rw[hb6]at HR |-
 clear hb6;generalize w.alloc (.cells #[.bool false, .slice none 0 0, .slice none 0 0] 38)=W1 at *
 go_upto_region 2 with(first
  |(go_at_call 88;(with_reducible refine(zdf _).mono ?_);rintro e8 w8 ⟨v8,rfl,hv8,hb8⟩;obtain⟨t8,a81,l81,k81,a82,l82,k82,rfl⟩:=hv8.iF;have hba:=zca w8 (.cells #[.bool t8, .slice a81 l81 k81, .slice a82 l82 k82] 38);have HC8:=zH (C3.new w8 38 (.bool t8) (.slice a81 l81 k81) (.slice a82 l82 k82));have HF8:=zH (hv8.bw hba);have HBR:=zH (zaa hb8 hba);have HL8:zI (W1.heap.size<=w8.heap.size):=zH hb8.size;clear hv8 hb8 hba))
 obtain⟨b8,hb8⟩:∃b,w8.heap.size=b:=⟨_,rfl⟩;rw[hb8]at HC8 HL8 |-
 clear hb8;generalize w8.alloc (.cells #[.bool t8, .slice a81 l81 k81, .slice a82 l82 k82] 38)=W8 at *
 go_wp2_with fail;go_loopg [15] (yn) (λ g u15 wr=>∃ (k:Nat) (t8:Bool) (a81:Option Addr) (l81 k81:Nat) (a82:Option Addr) (l82 k82:Nat),k<=yn/\g=yn-k/\u15= .int .i64 k/\C3 wr b8 (.bool t8) (.slice a81 l81 k81) (.slice a82 l82 k82)/\zia wr (.agg #[.bool t8, .slice a81 l81 k81, .slice a82 l82 k82]) (zhp a b k)/\Below W1.heap.size W1 wr);case atStart=>exact⟨0,_,_,_,_,_,_,_,zZL _,rfl,rfl,HC8.o,by show zia _ _ (0+0);rw[Rat.add_zero];exact HF8.o,HBR.o⟩
 case round=>
  obtain⟨k,t8,a81,l81,k81,a82,l82,k82,hkn,hg,rfl,hc8,hf8,hbr⟩:=hrel;obtain⟨W9,hw9⟩:∃w6,w6=wr:=⟨_,rfl⟩;subst hw9;have HG:=zH hg;have HC8:=zH hc8;have HF8:=zH hf8;have HBR:=zH hbr;clear hg hc8 hf8 hbr;by_cases hkl:k<yn
  ·(have hka:k<a.length:=by rw[HN.o];exact hkl);(have hkb:k<b.length:=by rw[HP.o.len,HN.o];exact hkl);obtain⟨ts,as1,ls1,ks1,as2,ls2,ks2,g1,g2,g3,hfs⟩:=(HA.o.bw HBR.o).cellsAt (k:=k) hka;obtain⟨tr,ar1,lr1,kr1,ar2,lr2,kr2,p1,p2,p3,hfr⟩:=(HB.o.bw HBR.o).cellsAt (k:=k) hkb;have HFP:=zH (HP.o.fa k hka);have HES:=zH (dotL_succ a b k);have HSS:zI (fits (zhp a b k)/\fits (zhp a b (k+1))):=zH ⟨HP.o.fs k zO,HP.o.fs (k+1) zO⟩;obtain⟨s,hs⟩:∃s,a.getD k 0=s:=⟨_,rfl⟩;obtain⟨r,hr⟩:∃r,b.getD k 0=r:=⟨_,rfl⟩;rw[hs,hr]at HFP HES;rw[hs]at hfs;rw[hr]at hfr;have HFS:=zH hfs;have HFR:=zH hfr;have S0:=zH (zAI g1 (zAI g2 (zAI g3 (zAI p1 (zAI p2 (zAI p3 (zAI p3 p3)))))));have i1:(0:Int)<=(k:Int):=zO;have i2:(k:Int)<(yn:Nat):=zO;clear g1 g2 g3 p1 p2 p3 hfs hfr hs hr hka hkb;go_upto_region 5 with fail;go_cut [10,11] (λ u10 u11 wy=>∃ (b10:Nat) (t':Bool) (a1:Option Addr) (l1 k1:Nat) (a2:Option Addr) (l2 k2:Nat),u10= .pointer (some ⟨b10,0,none⟩)/\u11= .int .i64 0/\C3 wy b10 (.bool t') (.slice a1 l1 k1) (.slice a2 l2 k2)/\zia wy (.agg #[.bool t', .slice a1 l1 k1, .slice a2 l2 k2]) (s*r)/\Below W9.heap.size W9 wy/\W9.heap.size<=b10)
   case first =>
    go_region_held3 (λ w'=>w'.cell? (ptr (.slice xa yn xk) (k*3))=some (.bool ts)/\w'.cell? (ptr (.slice xa yn xk) (k*3+1))=some (.slice as1 ls1 ks1)/\w'.cell? (ptr (.slice xa yn xk) (k*3+2))=some (.slice as2 ls2 ks2)/\w'.cell? (ptr (.slice ya yn yk) (k*3))=some (.bool tr)/\w'.cell? (ptr (.slice ya yn yk) (k*3+1))=some (.slice ar1 lr1 kr1)/\w'.cell? (ptr (.slice ya yn yk) (k*3+2))=some (.slice ar2 lr2 kr2)/\w'.cell? (ptr (.slice ya yn yk) (k*3+2))=some (.slice ar2 lr2 kr2)/\w'.cell? (ptr (.slice ya yn yk) (k*3+2))=some (.slice ar2 lr2 kr2)/\Below W9.heap.size W9 w') (first
     | with_reducible exact kp8a S0.o (zfa _)
     | with_reducible exact kp8w (by assumption) (zca _ _)
     | with_reducible exact kp8w (by assumption) (by assumption)
     | with_reducible exact kp8a S0.o (zaa hB32 (zca _ _))
     | with_reducible exact kp8s S0.o hB32 (zLR _) _ _ _
     | with_reducible exact kp8s S0.o hB32 hB31.size _ _ _
     | with_reducible exact kp8s S0.o (zaa hB32 (zca _ _)) hB32.size _ _ _) (first
     |(go_at_call 131;(with_reducible refine(zqj _ _ s r _ (HFS.o.bw (kp8c (by assumption))) (HFR.o.bw (kp8c (by assumption))) HFP.o.1 HFP.o.2.1 HFP.o.2.2).mono ?_);rintro e32 w32 ⟨v32,rfl,hv32,hb32⟩;obtain⟨t32,a321,l321,k321,a322,l322,k322,rfl⟩:=hv32.iF;have hB32:=zaa (kp8c (by assumption)) hb32;have hc6:=(fun(p:Addr) hp=>hb32.cell (p:=p) hp);have hf6:=(fun(p:Addr) hp=>hb32.frozen (p:=p) hp);have zq2:=hb32.size;(try simp only[zgj,zsm]at zq2);(try have z2:W9.heap.size<w32.heap.size:=zO)))
    all_goals
     have hE:=kp8c (by assumption);go_wp2_with fail;go_meet
     case rel=>
      first
       | exact⟨_,_,_,_,_,_,_,_,rfl,rfl,C3.new w32 _ _ _ _,hv32.bw (zca _ _),hE,hB32.size⟩
       | exact⟨_,_,_,_,_,_,_,_,rfl,rfl,((C3.newB (b:=W9.heap.size) W9.drew 38 (.bool false) (.slice none 0 0) (.slice none 0 0) rfl).bS hb32).set _ _ _,hv32.set3 ((C3.newB (b:=W9.heap.size) W9.drew 38 (.bool false) (.slice none 0 0) (.slice none 0 0) rfl).bS hb32) zZ zZ _ _ _,hE,zLR _⟩
   case rest=>
    obtain⟨b10,t10,a101,l101,k101,a102,l102,k102,rfl,rfl,hc,hf,hb6',hle⟩:=hcut;obtain⟨W10,hw3⟩:∃w3,w3=wc:=⟨_,rfl⟩;subst hw3;have HC10:=zH hc;have HF10:=zH hf;have HL10:zI (W1.heap.size<=b10/\b8<b10):=zH ⟨zLT HBR.o.size hle,zLM HC8.o.lt hle⟩;replace HC8:=zH (HC8.o.bS hb6');replace HF8:=zH (HF8.o.bw hb6');replace HBR:=zH (zaa HBR.o hb6');clear hc hf hb6' hle S0 HFS HFR;obtain⟨_,d0,d1,d2,_,_,_⟩:=HC8.o;obtain⟨_,p0,p1,p2,f0,f1,f2⟩:=HC10.o
    go_upto_region 8 with(first
     |(go_at_call 80;(with_reducible refine(add_can _ _ (zhp a b k) (s*r) _ HF8.o HF10.o HSS.o.1 HFP.o.2.2 (by rw[HES.o];exact HSS.o.2)).mono ?_);rw[HES.o];rintro e12 w12 ⟨v12,rfl,hv12,hb12⟩;obtain⟨t12,a121,l121,k121,a122,l122,k122,rfl⟩:=hv12.iF;have HV12:=zH hv12;clear d0 d1 d2 p0 p1 p2 f0 f1 f2;replace HC8:=zH (HC8.o.bS hb12);replace HF8:=zH (HF8.o.bw hb12);replace HC10:=zH (HC10.o.bS hb12);replace HBR:=zH (zaa HBR.o hb12);obtain⟨_,p0,p1,p2,f0,f1,f2⟩:=HC10.o;clear hv12 hb12))
    have HF12:=zH (HV12.o.set3 HC10.o zZ zZ (.bool t12) (.slice a121 l121 k121) (.slice a122 l122 k122));have HC8:=zH (HC8.o.set_other (show b8≠b10 by have:=HL10.o.2;omega) (.bool t12) (.slice a121 l121 k121) (.slice a122 l122 k122));have HBR:=zH (zga HBR.o HL10.o.1 (.bool t12) (.slice a121 l121 k121) (.slice a122 l122 k122));have HC10:=zH (HC10.o.set (.bool t12) (.slice a121 l121 k121) (.slice a122 l122 k122));clear p0 p1 p2 f0 f1 f2;generalize (((w12.setCell ⟨b10,0,none⟩ (.bool t12)).setCell ⟨b10,1,none⟩ (.slice a121 l121 k121)).setCell ⟨b10,2,none⟩ (.slice a122 l122 k122))=X12 at *
    obtain⟨_,d0,d1,d2,f0,f1,f2⟩:=HC8.o;obtain⟨_,p0,p1,p2,_,_,_⟩:=HC10.o;go_wp2_with fail;go_roundg (yn- (k+1));(case measure=>(have:=HG.o;omega));case rel=>exact⟨k+1,_,_,_,_,_,_,_,zO,rfl,by go_num,HC8.o.set _ _ _,HF12.o.set3 HC8.o zZ zZ _ _ _,zga HBR.o HL8.o _ _ _⟩
  ·have HKE:zI (a.length=k):=zH (by rw[HN.o];omega);have HFE:zI (fits (zhp a b k)/\fits (fq false f 1)/\fits (zhp a b k*fq false f 1)):=zH ⟨HP.o.fs k (by rw[HKE.o];exact zLR _),zyl ⟨f,HP.o.f100⟩,by have h:=HP.o.fr;rw[HKE.o]at h;exact h⟩;obtain rfl:k=yn:=zO;have HR9:=zH (HR.o.bS HBR.o);have HBT:=zH (zaa HBW.o HBR.o);have hD:=zfa (B:=W9.heap.size) W9;have HF8D:=zH (HF8.o.bw hD);have HRD:=zH (HR9.o.bS hD);have HBD:=zH (zaa HBT.o hD);(have kA:b6≠b8:=by have h1:=HR.o.lt;have h2:=HL8.o;omega);have HF100:=zH HP.o.f100;obtain⟨_,q1,q2,q3,_,_,_⟩:=HC8.o.bS hD;go_upto_region 12 with fail
   go_region_held3 (λ w'=>w'.cell? ⟨b8,0,none⟩=some (.bool t8)/\w'.cell? ⟨b8,1,none⟩=some (.slice a81 l81 k81)/\w'.cell? ⟨b8,2,none⟩=some (.slice a82 l82 k82)/\w'.cell? ⟨b8,0,none⟩=some (.bool t8)/\w'.cell? ⟨b8,1,none⟩=some (.slice a81 l81 k81)/\w'.cell? ⟨b8,2,none⟩=some (.slice a82 l82 k82)) (first
    | with_reducible exact⟨q1,q2,q3,q1,q2,q3⟩
    | with_reducible exact keep6b (by assumption) (by assumption)
    | with_reducible exact zwm (zwm (zwm (by assumption) kA kA kA kA kA kA _) kA kA kA kA kA kA _) kA kA kA kA kA kA _) (first
    |(go_at_call 88;(with_reducible refine(pnumber_nat f HF100.o _).mono ?_);rintro e3 w3 ⟨v3,rfl,hv3,hb3⟩;obtain⟨t3,a31,l31,k31,a32,l32,k32,rfl⟩:=hv3.iF)
    |(go_at_call 131;(with_reducible refine(zqj _ _ (zhp a b k) (fq false f 1) _ (HF8D.o.bw hb3) hv3 HFE.o.1 HFE.o.2.1 HFE.o.2.2).mono ?_);rintro e4 w4 ⟨v4,rfl,hv4,hb4⟩;obtain⟨t4,a41,l41,k41,a42,l42,k42,rfl⟩:=hv4.iF;have HR4:=zH ((HRD.o.bS hb3).bS hb4);obtain⟨_,g0,g1,g2,g3,g4,g5⟩:=HR4.o))
   all_goals
    have hbE:=zaa (zaa HBD.o hb3) hb4;go_wp2_with fail;refine zla rfl rfl Tryz.aggF Tryz.sizeF (HR4.o.set _ _ _) rfl ?_;rw[HKE.o];exact⟨_,rfl,hv4.set3 HR4.o zZ zZ _ _ _,zga hbE (by rw[HE6.o];exact zLR _) _ _ _⟩
end Go.Proofs.YtlpdkbmmbdfoiaaGreat
namespace Go.Proofs.YtlpdkbmmbdfoiaaGreat
def alt (i:Nat):Rat:=if i%2=0 then 1 else -1
theorem alt_succ (i:Nat):alt (i+1)= -alt i:=by
 unfold alt;by_cases h:i%2=0
 ·rw[zIP h,zIN zO]
 ·rw[zIN h,zIP zO];decide+kernel
def mnr (A:Mx) (i:Nat):Mx:=λ a b=>A (if a<i then a else a+1) (b+1)
def dt :Nat->Mx->Rat
 | 0,_=>1
 | n+1,A=>sg (n+1) λ i=>alt i*A i 0*dt n (mnr A i)
theorem zyd {n:Nat} {A B:Mx} (h:∀a b,a<n->b<n->A a b=B a b):dt n A=dt n B:=by
 induction n generalizing A B with
 | zero=>rfl
 | succ n ih=>
   (refine zqa λ i hi=> ?_);rw[h i 0 hi zO,ih (A:=mnr A i) (B:=mnr B i) (λ a b ha hb=>by unfold mnr;exact h _ _ (by split<;>omega) zO)]
def zjd (A:Mx) (r:Nat) (x:Nat->Rat):Mx:=λ a=>if a=r then x else A a
theorem zhi (A:Mx) (r:Nat):zjd A r (A r)=A:=by
 funext a;unfold zjd;split
 ·next h=>rw[h]
 ·rfl
theorem zbe (A:Mx) (r:Nat) (x:Nat->Rat):zjd A r x r=x:=by unfold zjd;rw[zIP rfl]
theorem zrd {A:Mx} {r a:Nat} {x:Nat->Rat} (h:a≠r):zjd A r x a=A a:=by unfold zjd;rw[zIN h]
theorem zyn {A:Mx} {r s:Nat} {x y:Nat->Rat} (h:r≠s):zjd (zjd A r x) s y=zjd (zjd A s y) r x:=by
 funext a;unfold zjd
 by_cases h1:a=s
 ·subst h1;rw[zIP rfl,zIN (λ e=>h e.symm),zIP rfl]
 ·rw[zIN h1];split
  ·rfl
  ·rfl
theorem zth (A:Mx) (r:Nat) (x:Nat->Rat):mnr (zjd A r x) r=mnr A r:=by
 funext a b;unfold mnr zjd
 rw[zIN (by split<;>omega)]
theorem zgr {A:Mx} {r i:Nat} {x:Nat->Rat} (h:i≠r):mnr (zjd A r x) i=zjd (mnr A i) (if r<i then r else r-1) (λ b=>x (b+1)):=by
 funext a b;unfold mnr zjd
 by_cases h1:a=if r<i then r else r-1
 ·rw[zIP h1,zIP (by split at h1<;>split<;>omega)]
 ·rw[zIN h1,zIN (by split at h1<;>split<;>omega)]
theorem zjq {n:Nat} (A:Mx) {r:Nat} (hr:r<n) (x y:Nat->Rat) (c:Rat):dt n (zjd A r λ b=>x b+c*y b)=dt n (zjd A r x)+c*dt n (zjd A r y):=by
 induction n generalizing A r x y with
 | zero=>omega
 | succ n ih=>
   rw[dt,dt,dt,<-zhb,<-zxg];(refine zqa λ i hi=> ?_);by_cases h:i=r
   ·subst h;rw[zbe,zbe,zbe,zth,zth,zth];grind
   ·rw[zrd h,zrd h,zrd h,zgr h,zgr h,zgr h];(have h1:(if r<i then r else r-1)<n:=by split<;>omega);have:=ih (mnr A i) h1 (λ b=>x (b+1)) (λ b=>y (b+1));rw[this];grind
theorem sg_pair {n r:Nat} {f:Nat->Rat} (hr:r+1<n) (h:∀i,i<n->i≠r->i≠r+1->f i=0):sg n f=f r+f (r+1):=by
 have e:sg n f=sg n (λ i=>(if r=i then f i else 0)+(if r+1=i then f i else 0)):=zqa λ i hi=>by
  by_cases h1:r=i
  ·subst h1;rw[zIP rfl,zIN zO];grind
  ·by_cases h2:r+1=i
   ·subst h2;rw[zIN h1,zIP rfl];grind
   ·rw[zIN h1,zIN h2,h i hi (λ e=>h1 e.symm) (λ e=>h2 e.symm)];grind
 rw[e,zxg,zee zO,zee hr]
theorem dt_adj {n:Nat} {A:Mx} {r:Nat} (hr:r+1<n) (h:A r=A (r+1)):dt n A=0:=by
 induction n generalizing A r with
 | zero=>omega
 | succ n ih=>
   rw[dt,sg_pair hr]
   ·have hm:mnr A r=mnr A (r+1):=by
     funext a b;unfold mnr
     by_cases h1:a<r
     ·rw[zIP h1,zIP zO]
     ·by_cases h2:a=r
      ·subst h2;rw[zIN h1,zIP zO,h]
      ·rw[zIN h1,zIN zO]
    rw[alt_succ,<-h,<-hm];grind
   ·intro i hi h1 h2
    have hz:dt n (mnr A i)=0:=by
     by_cases h3:i<r
     ·refine ih (r:=r-1) zO ?_
      funext b;unfold mnr
      rw[zIN zO,zIN zO,show r-1+1=r by omega,h]
     ·refine ih (r:=r) zO ?_
      funext b;unfold mnr
      rw[zIP zO,zIP zO,h]
    rw[hz,Rat.mul_zero]
theorem dt_zero {n:Nat} {A:Mx} {r:Nat} (hr:r<n):dt n (zjd A r λ _=>0)=0:=by
 have h:=zjq A hr (λ _=>0) (λ _=>0) 1;have e:(λ b:Nat=>(0:Rat)+1*0)=λ _=>0:=by funext b;grind
 rw[e]at h;grind
theorem dt_scale {n:Nat} (A:Mx) {r:Nat} (hr:r<n) (x:Nat->Rat) (c:Rat):dt n (zjd A r λ b=>c*x b)=c*dt n (zjd A r x):=by
 have h:=zjq A hr (λ _=>0) x c;have e:(λ b:Nat=>(0:Rat)+c*x b)=λ b=>c*x b:=by funext b;grind
 rw[e,dt_zero hr]at h;grind
theorem dt_exch {n a b:Nat} (ha:a<n) (hb:b<n) (hab:a≠b) (h0:∀ (A:Mx),A a=A b->dt n A=0) (A:Mx):dt n (swp A a b)= -dt n A:=by
 have D:∀x y,∃z,dt n (zjd (zjd A a x) b y)=z:=λ x y=>⟨_,rfl⟩
 have e1:swp A a b=zjd (zjd A a (A b)) b (A a):=by
  funext i;unfold swp zjd
  by_cases h1:i=a
  ·subst h1;rw[zIP rfl,zIN hab,zIP rfl]
  ·rw[zIN h1];split
   ·rfl
   ·rfl
 have e2:A=zjd (zjd A a (A a)) b (A b):=by rw[zhi,zhi]
 have key:∀x,dt n (zjd (zjd A a x) b x)=0:=λ x=>h0 _ (by rw[zbe,zrd hab,zbe])
 have s1:∀x y z,dt n (zjd (zjd A a (λ j=>x j+1*y j)) b z)=dt n (zjd (zjd A a x) b z)+1*dt n (zjd (zjd A a y) b z):=λ x y z=>by
  rw[zyn hab,zyn hab,zyn hab];exact zjq _ ha x y 1
 have s2:∀x y z,dt n (zjd (zjd A a z) b (λ j=>x j+1*y j))=dt n (zjd (zjd A a z) b x)+1*dt n (zjd (zjd A a z) b y):=λ x y z=>zjq _ hb x y 1
 have h:=key (λ j=>A a j+1*A b j);rw[s1,s2,s2,key,key]at h;rw[e1];have e3:dt n A=dt n (zjd (zjd A a (A a)) b (A b)):=congrArg (dt n) e2;rw[e3];grind
theorem dt_same {n:Nat}:∀ (k i:Nat) (A:Mx),i+1+k<n->A i=A (i+1+k)->dt n A=0
 | 0,i,A,hk,h=>dt_adj hk h
 | k+1,i,A,hk,h=>by
   have hs:=dt_exch (n:=n) (a:=i+1+k) (b:=i+1+k+1) zO zO zO (λ B hB=>dt_adj zO hB) A
   have hz:dt n (swp A (i+1+k) (i+1+k+1))=0:=dt_same k i _ zO (by
    unfold swp;rw[zIN zO,zIN zO,zIP rfl];exact h)
   grind
theorem zam {n:Nat} {A:Mx} {i j:Nat} (hi:i<n) (hj:j<n) (hij:i≠j) (h:A i=A j):dt n A=0:=by
 rcases Nat.lt_or_gt_of_ne hij with h1 | h1
 ·exact dt_same (j-i-1) i A zO (by rw[show i+1+(j-i-1)=j by omega];exact h)
 ·exact dt_same (i-j-1) j A zO (by rw[show j+1+(i-j-1)=i by omega];exact h.symm)
theorem dt_swp {n a b:Nat} (ha:a<n) (hb:b<n) (hab:a≠b) (A:Mx):dt n (swp A a b)= -dt n A:=dt_exch ha hb hab (λ B h=>zam ha hb hab h) A
theorem dt_add {n i r:Nat} (hi:i<n) (hr:r<n) (hir:i≠r) (A:Mx) (c:Rat):dt n (zjd A i λ b=>A i b+c*A r b)=dt n A:=by
 have h:=zjq A hi (A i) (A r) c;have hz:dt n (zjd A i (A r))=0:=zam hi hr hir (by rw[zbe,zrd (λ e=>hir e.symm)]);rw[zhi,hz]at h;rw[h];grind
theorem dt_sum {n:Nat} (A:Mx) {r:Nat} (hr:r<n) (f:Nat->Nat->Rat) (c:Nat->Rat):∀m,dt n (zjd A r λ b=>sg m λ l=>c l*f l b)=sg m λ l=>c l*dt n (zjd A r (f l))
 | 0=>by
   (have e:(λ b=>sg 0 λ l=>c l*f l b)=λ _=>0:=by funext b;rfl);rw[e,dt_zero hr];rfl
 | m+1=>by
   (have e:(λ b=>sg (m+1) λ l=>c l*f l b)=λ b=>(sg m λ l=>c l*f l b)+c m*f m b:=by funext b;rfl);rw[e,zjq A hr,dt_sum A hr f c m];rfl
def pr :Nat->(Nat->Rat)->Rat
 | 0,_=>1
 | n+1,f=>pr n f*f n
theorem pr_congr {n:Nat} {f g:Nat->Rat} (h:∀i,i<n->f i=g i):pr n f=pr n g:=by
 induction n with
 | zero=>rfl
 | succ n ih=>rw[pr,pr,ih (λ i hi=>h i zO),h n zO]
theorem pr_first (n:Nat) (f:Nat->Rat):pr (n+1) f=f 0*pr n λ i=>f (i+1):=by
 induction n with
 | zero=>simp[pr]
 | succ n ih=>rw[pr,ih,pr];grind
theorem zfp {n:Nat} {A:Mx} (h:∀i j,i<n->j<n->i≠j->A i j=0):dt n A=pr n λ i=>A i i:=by
 induction n generalizing A with
 | zero=>rfl
 | succ n ih=>
   have e:dt (n+1) A=sg (n+1) λ i=>if 0=i then alt i*A i 0*dt n (mnr A i)else 0:=zqa λ i hi=>by
    by_cases h0:0=i
    ·rw[zIP h0]
    ·rw[zIN h0,h i 0 hi zO (λ e=>h0 e.symm)];grind
   rw[e,zee (show 0<n+1 by omega),pr_first,ih (A:=mnr A 0) (λ i j hi hj hij=>by
    unfold mnr;rw[zIN zO];exact h _ _ zO zO zO)]
   (have e2:(pr n λ i=>mnr A 0 i i)=pr n λ i=>A (i+1) (i+1):=pr_congr λ i hi=>by unfold mnr;rw[zIN zO]);rw[e2];(have :alt 0=1:=by decide+kernel);rw[this];grind
def dtB :Nat->Nat->Nat
 | 0,_=>1
 | n+1,m=>(n+1)*(m*dtB n m)
theorem over_alt {D B:Nat} {q:Rat} (i:Nat) (h:over D B q):over D B (alt i*q):=by
 unfold alt;split
 ·rw[Rat.one_mul];exact h
 ·have e:(-1:Rat)*q= -q:=by grind
  rw[e];exact over.neg h
theorem dt_over {n D m:Nat} {A:Mx} (hD:D≠0) (h:∀i j,i<n->j<n->over D m (A i j)):over (D^n) (dtB n m) (dt n A):=by
 induction n generalizing A with
 | zero=>exact⟨1,by simp[dt];decide+kernel,zLR _⟩
 | succ n ih=>
   rw[dt,dtB];(refine over.sg (Nat.ne_of_gt (Nat.pow_pos (zPZ hD))) λ i hi=> ?_);have h1:=ih (A:=mnr A i) (λ a b ha hb=>by unfold mnr;exact h _ _ (by split<;>omega) zO);have h2:=over.mul (over_alt i (h i 0 hi zO)) h1;rw[Nat.pow_succ,Nat.mul_comm (D^n) D];exact h2
theorem fp_congr {y z:Nat->Bool} (f r:Nat) (h:∀i,r<=i->i<r+f->y i=z i):fp y f r=fp z f r:=by
 induction f generalizing r with
 | zero=>rfl
 | succ f ih=>rw[fp,fp,h r (zLR _) zO,ih (r+1) (λ i h1 h2=>h i zO zO)]
theorem ziq {n m:Nat} {A M:Mx} (b c:Bool) (h:∀i j,i<n->j<m->A i j=M i j):∀k,k<=m->
 (elim b n A k).r=(elim c n M k).r/\(elim b n A k).d=(elim c n M k).d/\∀i j,(elim b n A k).r<=i->i<n->j<m->(elim b n A k).A i j=(elim c n M k).A i j
 | 0,_=>⟨rfl,rfl,λ i j _ hi hj=>h i j hi hj⟩
 | k+1,hk=>by
   obtain⟨h1,h2,h3⟩:=ziq b c h k zO;have hr:=(zcg b n A k).1;rw[elim,elim];obtain⟨⟨X,r,d⟩,hX⟩:∃S,elim b n A k=S:=⟨_,rfl⟩;obtain⟨⟨Y,s,e⟩,hY⟩:∃S,elim c n M k=S:=⟨_,rfl⟩;rw[hX,hY]at h1 h2 h3;rw[hX]at hr;rw[hX,hY];dsimp only at h1 h2 h3 hr;subst h1 h2
   have hp:pvt n k ⟨X,r,d⟩=pvt n k ⟨Y,r,d⟩:=fp_congr _ _ λ i hi1 hi2=>by
    have hi2:i<r+(n-r):=hi2;have hi1:r<=i:=hi1;(show decide (X i k≠0)=decide (Y i k≠0));rw[h3 i k hi1 zO zO]
   unfold zrg;rw[hp];have hge:r<=pvt n k ⟨Y,r,d⟩:=zmm n k ⟨Y,r,d⟩;by_cases hlt:pvt n k ⟨Y,r,d⟩<n
   ·rw[zIP hlt,zIP hlt];dsimp only;generalize pvt n k ⟨Y,r,d⟩=a at *
    have hsw:∀i j,r<=i->i<n->j<m->swp X r a i j=swp Y r a i j:=λ i j hi hin hj=>by
     unfold swp;split
     ·exact h3 a j hge hlt hj
     ·split
      ·exact h3 r j (zLR _) zO hj
      ·exact h3 i j hi hin hj
    refine⟨rfl,?_,λ i j hi hin hj=> ?_⟩
    ·rw[hsw r k (zLR _) zO zO]
    ·have hi':r<i:=hi;unfold zhj;rw[hsw i j zO hin hj,hsw i k zO hin zO,hsw r k (zLR _) zO zO,hsw r j (zLR _) zO hj]
     have he:act b (swp X r a) r k i↔act c (swp Y r a) r k i:=by
      unfold act;rw[hsw i k zO hin zO];exact⟨fun⟨p,q,s⟩=>⟨p,λ z=>zO,s⟩,fun⟨p,q,s⟩=>⟨p,λ z=>zO,s⟩⟩
     by_cases hact:act c (swp Y r a) r k i/\k<=j
     ·rw[zIP hact,zIP ⟨he.2 hact.1,hact.2⟩]
     ·rw[zIN hact,zIN (λ hh=>hact ⟨he.1 hh.1,hh.2⟩)]
   ·rw[zIN hlt,zIN hlt];exact⟨rfl,rfl,h3⟩
theorem hA_self {A:Mx} {a r:Nat} (h:a=r):swp A r a=A:=by
 subst h;funext i;unfold swp;split
 ·next h=>rw[h]
 ·rfl
structure RowC (n:Nat) (P:Mx->Rat->Prop):Prop where
 congr:∀A B s,(∀i,i<n->A i=B i)->P A s->P B s
 swap:∀A s a b,a<n->b<n->a≠b->P A s->P (swp A a b) (-s)
 add:∀A s i r c,i<n->r<n->i≠r->P A s->P (zjd A i λ b=>A i b+c*A r b) s
def sgs (b:Bool) (n:Nat) (A:Mx):Nat->Rat
 | 0=>1
 | k+1=>if pvt n k (elim b n A k)<n then(if pvt n k (elim b n A k)=(elim b n A k).r then sgs b n A k else -sgs b n A k)else sgs b n A k
theorem zoe (b:Bool) (n:Nat) (A:Mx):∀k i j,(elim b n A k).r<=i->i<n->j<k->(elim b n A k).A i j=0
 | 0,i,j,_,_,hj=>zO
 | k+1,i,j,hi,hin,hj=>by
   have ih:=zoe b n A k;(rw[elim,zrg]at hi |-);by_cases hlt:pvt n k (elim b n A k)<n
   ·(rw[zIP hlt]at hi |-);(dsimp only at hi |-);have hge:=zmm n k (elim b n A k);have hpn:=zaq (zcg b n A k).1 hlt;generalize pvt n k (elim b n A k)=a at *
    have hs:∀i j,(elim b n A k).r<=i->i<n->j<k->swp (elim b n A k).A (elim b n A k).r a i j=0:=λ i j h1 h2 h3=>by
     unfold swp;split
     ·exact ih a j hge hlt h3
     ·split
      ·exact ih _ j (zLR _) zO h3
      ·exact ih i j h1 h2 h3
    unfold zhj;by_cases hjk:j<k
    ·rw[zIN zO];exact hs i j zO hin hjk
    ·obtain rfl:j=k:=zO;by_cases hz:swp (elim b n A j).A (elim b n A j).r a i j=0
     ·rw[zIN (λ h=>h.1.2.2 hz)];exact hz
     ·have hact:act b (swp (elim b n A j).A (elim b n A j).r a) (elim b n A j).r j i:=⟨zO,λ z=>zO,hz⟩;rw[zIP ⟨hact,zLR _⟩];by_cases hp:swp (elim b n A j).A (elim b n A j).r a (elim b n A j).r j=0
      ·exfalso;rw[zjj]at hp;exact hpn hp
      ·rw[Rat.div_mul_cancel hp];grind
   ·(rw[zIN hlt]at hi |-);rcases zOG j k with h | h
    ·exact ih i j hi hin h
    ·obtain rfl:j=k:=zO;have hall:=zyo (λ i=>decide ((elim b n A j).A i j≠0)) (n- (elim b n A j).r) (elim b n A j).r i hi (by unfold pvt at hlt;omega);simpa using hall
theorem redP_succ {b:Bool} {A:Mx} {r k e:Nat} (h0:∀j,j<k->A r j=0) (he:e≠r):
 ∃c,zkj b A r k (e+1)=zjd (zkj b A r k e) e (λ j=>zkj b A r k e e j+c*zkj b A r k e r j):=by
 by_cases hact:act b A r k e
 ·refine⟨-(A e k/A r k),?_⟩;rw[zco,zzm]
  funext a j
  unfold zkj zjd;by_cases h1:a=e
  ·subst h1;rw[zIP zO,zIP rfl];unfold zhj;by_cases h2:k<=j
   ·rw[zIP ⟨hact,h2⟩];grind
   ·rw[zIN (λ h=>h2 h.2),h0 j zO];grind
  ·rw[zIN h1];(show _=if a<e then zhj b A r k a j else A a j);by_cases h2:a<e
   ·rw[zIP h2,zIP (show a<e+1 by omega)]
   ·rw[zIN h2,zIN (show ¬a<e+1 by omega)]
 ·refine⟨0,?_⟩;rw[zkk hact];have e1:(λ j=>zkj b A r k e e j+0*zkj b A r k e r j)=zkj b A r k e e:=by funext j;grind
  rw[e1,zhi]
theorem redu_kept {n:Nat} {P:Mx->Rat->Prop} (hP:RowC n P) {b:Bool} {A:Mx} {r k:Nat} {s:Rat} (hr:r<n) (h0:∀j,j<k->A r j=0) (h:P A s):P (zhj b A r k) s:=by
 have key:∀e,e<=n->P (zkj b A r k e) s:=by
  intro e
  induction e with
  | zero=>intro _;rw[redP_zero];exact h
  | succ e ih=>
    intro he;by_cases her:e=r
    ·rw[zkk (λ ha=>ha.1 her)];exact ih zO
    ·obtain⟨c,hc⟩:=redP_succ (b:=b) h0 her;rw[hc];exact hP.add _ s e r c zO hr her (ih zO)
 refine hP.congr _ _ s (λ i hi=> ?_) (key n (zLR _))
 funext j
 exact redP_all i j hi
theorem zxd {n:Nat} {P:Mx->Rat->Prop} (hP:RowC n P) (b:Bool) {A:Mx} (h:P A 1):∀k,P (elim b n A k).A (sgs b n A k)
 | 0=>h
 | k+1=>by
   have ih:=zxd hP b h k;have hl:=zoe b n A k;have hrn:=(zcg b n A k).1;rw[elim,zrg,sgs];by_cases hlt:pvt n k (elim b n A k)<n
   ·rw[zIP hlt,zIP hlt];dsimp only;have hge:=zmm n k (elim b n A k);generalize pvt n k (elim b n A k)=a at *
    have hr:(elim b n A k).r<n:=zO
    have hsw:P (swp (elim b n A k).A (elim b n A k).r a) (if a=(elim b n A k).r then sgs b n A k else -sgs b n A k):=by
     by_cases ha:a=(elim b n A k).r
     ·rw[zIP ha,hA_self ha];exact ih
     ·rw[zIN ha];exact hP.swap _ _ _ _ hr hlt (λ e=>ha e.symm) ih
    refine redu_kept hP hr (λ j hj=> ?_) hsw;rw[zjj];exact hl a j hge hlt hj
   ·rw[zIN hlt,zIN hlt];exact ih
end Go.Proofs.YtlpdkbmmbdfoiaaGreat
