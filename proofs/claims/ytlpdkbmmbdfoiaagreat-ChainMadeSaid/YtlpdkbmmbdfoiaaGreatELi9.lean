/- Lemmas. -/
import Derived.Test.YtlpdkbmmbdfoiaaGreatELi4
set_option linter.unusedVariables false
set_option linter.unusedSimpArgs false
namespace Go.Proofs.YtlpdkbmmbdfoiaaGreat
set_option maxRecDepth 100000
open Go.RowKit
theorem zbb.cells {w:World} {x:Value} {q:List Rat} (h:zbb w x q):∃xs:List Value,xs.length=q.length*3/\(∀j u,xs[j]? =some u->w.cell? (ptr x j)=some u)/\zwe w xs q/\(∀u∈xs,u.oneCell'=true)/\∀u∈xs,∀z,u≠ .int .u32 z:=by
 have hex:∀j,j<q.length*3->∃u,w.cell? (ptr x j)=some u/\u.oneCell'=true/\∀z,u≠ .int .u32 z:=fun j hj=>by
  obtain⟨a,b,h1,h2,h3,h4,h5⟩:=h.at' (j/3) (by omega)
  obtain⟨a1,a2,a3,rfl,_⟩:=h4.v.sl
  obtain⟨b1,b2,b3,rfl,_⟩:=h5.v.sl
  rcases(show j=j/3*3\/j=j/3*3+1\/j=j/3*3+2 by omega)with e | e | e
  ·rw[e];exact⟨_,h1,rfl,fun z=>by simp⟩
  ·rw[e];exact⟨_,h2,rfl,fun z=>by simp⟩
  ·rw[e];exact⟨_,h3,rfl,fun z=>by simp⟩
 refine⟨(List.range (q.length*3)).map (fun j=>(w.cell? (ptr x j)).getD undef),by simp,fun j u hu=> ?_,fun j hj=> ?_,fun u hu=> ?_,fun u hu=> ?_⟩
 ·rw[List.getElem?_map]at hu
  by_cases hj:j<q.length*3
  ·rw[List.getElem?_range hj]at hu
   obtain⟨u',h1,_⟩:=hex j hj
   simp[h1]at hu
   rw[h1,hu]
  ·rw[List.getElem?_eq_none (by simp;omega)]at hu;simp at hu
 ·obtain⟨a,b,h1,h2,h3,h4,h5⟩:=h.at' j hj
  refine⟨a,b,?_,?_,?_,h4,h5⟩
  ·rw[List.getElem?_map,List.getElem?_range (by omega)];simp[h1]
  ·rw[List.getElem?_map,List.getElem?_range (by omega)];simp[h2]
  ·rw[List.getElem?_map,List.getElem?_range (by omega)];simp[h3]
 ·obtain⟨j,hj,rfl⟩:=List.mem_map.1 hu
  obtain⟨u',h1,h2,h3⟩:=hex j (List.mem_range.1 hj)
  rw[h1];exact h2
 ·obtain⟨j,hj,rfl⟩:=List.mem_map.1 hu
  obtain⟨u',h1,h2,h3⟩:=hex j (List.mem_range.1 hj)
  rw[h1];exact h3
theorem zwe.app {w:World} {xs ys:List Value} {p q:List Rat} (h:zwe w xs p) (hl:xs.length=p.length*3) (h2:zwe w ys q):zwe w (xs++ys) (p++q):=by
 intro j hj
 rcases Nat.lt_or_ge j p.length with h3 | h3
 ·obtain⟨a,b,e1,e2,e3,e4,e5⟩:=h j h3
  rw[List.getElem_append_left h3]
  exact⟨a,b,by rw[List.getElem?_append_left (by omega)];exact e1,by rw[List.getElem?_append_left (by omega)];exact e2,by rw[List.getElem?_append_left (by omega)];exact e3,e4,e5⟩
 ·have hj2:j-p.length<q.length:=by rw[List.length_append]at hj;omega
  obtain⟨a,b,e1,e2,e3,e4,e5⟩:=h2 (j-p.length) hj2
  rw[List.getElem_append_right h3]
  refine⟨a,b,?_,?_,?_,e4,e5⟩
  ·rw[List.getElem?_append_right (by omega),show j*3-xs.length=(j-p.length)*3 by omega];exact e1
  ·rw[List.getElem?_append_right (by omega),show j*3+1-xs.length=(j-p.length)*3+1 by omega];exact e2
  ·rw[List.getElem?_append_right (by omega),show j*3+2-xs.length=(j-p.length)*3+2 by omega];exact e3
theorem append_fr {P:Program} (t e:TypeId) (i:TypeInfo) (ht:P.underlying t=some (.slice e)) (hi:P.info? e=some i) (hz:i.zero=some (.agg #[.bool false, .slice none 0 0, .slice none 0 0])) (hsize:i.size=3) (hby:i.bytes=56)
 (w:World) {ops:Array Oper} {rest:List Oper} {o:Oper} {a:Act} {Q:Exit->Act->World->Prop} (hgd:o.guard=none) (s x:Operand)
 (ho:o.op= .call { callee:= .builtin .append,args:=#[s,x],argTypes:=#[t,t] }) (B:Nat)
 (v:Value) (q:List Rat) (hs:a.eval s=v) (hown:zya w e B v q) (ad:Addr) (m c:Nat) (p:List Rat) (hxe:a.eval x= .slice (some ad) m c) (hf:zbb w (.slice (some ad) m c) p) (hn:q.length+p.length<=1000) (hbase:B<=w.heap.size)
 (h:∀v' w',zya w' e B v' (q++p)->w.grownBy w' v.ownBlock->zlb w v->(v'.ownBlock=v.ownBlock\/v'.ownBlock=some w.heap.size)->zgc v'->wpList P ops Q rest (a.put o.dst v') w'):
 wpList P ops Q (o::rest) a w:=by
 obtain⟨xs,h1,h2⟩:=hown
 obtain⟨news,n1,n2,n3,n4,n5⟩:=hf.cells
 have hm:m=p.length:=hf.len
 refine wpList_plain hgd fun K hK=> ?_
 obtain⟨v',w',hr,k1,k2,k3,k4⟩:=zwd (P:=P) w B t o.type e i _ 3 56 ht hi hz hsize hby rfl (by decide) v q.length xs h1.own ad m c news (by rw[n1,hm])
  (fun j u hu=>by have:=n2 j u hu;simpa only[ptr,base]using this) n4 (by simp[maxLen];omega) (by omega) hbase h1.nl n5 (fun c hc z=>by
   have hc2:c∈ [Value.bool false, .slice none 0 0, .slice none 0 0]:=hc
   simp at hc2;rcases hc2 with rfl | rfl<;>simp)
 unfold Oper.wp execOp
 simp only[ho,resolve,invoke,builtin,Sem.run_bind,Sem.run_pure,Result.andThen_ok,List.map_toArray,List.map_cons,List.map_nil,hs,hxe,hr]
 have hR:zlc w' e B 3 v' (q.length+m) (xs++news):=⟨k1,k4⟩
 refine hK _ _ (h v' w' ⟨xs++news,by rw[List.length_append,<-hm];exact hR,?_⟩ k2 h1.nl k3 hR.sl)
 exact(h2.app h1.clen n3).grown k2 h1.nl
theorem znd.push {w w':World} {T n m wd rk:Nat} {vR v' r:Value} {rs:List Value} {A:Mx} {d:Rat} (h:znd w T vR rs n m A wd rk d) (hr:zya w 38 (T+1) r (zib m (A n)))
 (hap:∀i (hi:i<rs.length),rs[i].ownBlock≠r.ownBlock) (hv:zlc w' 25 (T+1) 1 v' (rs++ [r]).length (rs++ [r])) (hg:w.grownBy w' vR.ownBlock):
 znd (w'.setCell ⟨T,0,none⟩ v') T v' (rs++ [r]) (n+1) m A wd rk d/\Below T w (w'.setCell ⟨T,0,none⟩ v'):=by
 have hT:=h.lt
 obtain⟨⟨a,b,h1,h2,h3⟩,own,rl,mp,row,ap⟩:=h
 have hnT:vR.ownBlock≠some T:=fun e=>by have:=(own.block T e).1;omega
 have b1:=h1.grown hg hnT
 have mm:=zhb.set (B:=T+1) (p:=⟨T,0,none⟩) (Nat.lt_succ_self T) (b1.cell 0 rfl) (fun z e=>by obtain⟨a1,a2,a3,e1,_⟩:=own.sl;rw[e1]at e;cases e) v'
 have hbel:Below T w w':=zna hg (by omega) (fun k hk=>by have:=(own.block k hk).1;omega)
 refine⟨⟨⟨a,b,b1.set 0 v',(h2.grown hg own.nl).moves mm,(h3.grown hg own.nl).moves mm⟩,hv.moves mm (zLR _),by simp[rl],mp,fun i hi=> ?_,fun i j hi hj hij=> ?_⟩,hbel.setCell (p:=⟨T,0,none⟩) (zLR _) _⟩
 ·rcases Nat.lt_or_ge i rs.length with hk | hk
  ·rw[List.getElem_append_left hk]
   obtain⟨ys,y1,y2⟩:=id (row i hk)
   exact((row i hk).grown hg own.nl (y1.kinds own (by decide))).moves mm (zLR _)
  ·obtain rfl:i=rs.length:=by simp at hi;omega
   have e1:(rs++ [r])[rs.length]'hi=r:=by simp
   rw[e1,rl]
   obtain⟨ys,y1,y2⟩:=id hr
   exact(hr.grown hg own.nl (y1.kinds own (by decide))).moves mm (zLR _)
 ·rcases Nat.lt_or_ge i rs.length with hk | hk<;>rcases Nat.lt_or_ge j rs.length with hl | hl
  ·rw[List.getElem_append_left hk,List.getElem_append_left hl];exact ap i j hk hl hij
  ·obtain rfl:j=rs.length:=by simp at hj;omega
   have e1:(rs++ [r])[rs.length]'hj=r:=by simp
   rw[List.getElem_append_left hk,e1];exact hap i hk
  ·obtain rfl:i=rs.length:=by simp at hi;omega
   have e1:(rs++ [r])[rs.length]'hi=r:=by simp
   rw[List.getElem_append_left hl,e1];exact fun e=>hap j hl e.symm
  ·simp at hi hj;omega
theorem kp1w {w0 X Y:World} {a1:Addr} {x1:Value} (h:X.cell? a1=some x1/\Below w0.heap.size w0 X) (hb:Below X.heap.size X Y):Y.cell? a1=some x1/\Below w0.heap.size w0 Y:=
 ⟨zba hb h.1,zaa h.2 hb⟩
theorem kp1a {w0 X:World} {a1:Addr} {x1:Value} (h:w0.cell? a1=some x1) (hb:Below w0.heap.size w0 X):X.cell? a1=some x1/\Below w0.heap.size w0 X:=⟨zba hb h,hb⟩
theorem kp1c {w0 X:World} {a1:Addr} {x1:Value} (h:X.cell? a1=some x1/\Below w0.heap.size w0 X):Below w0.heap.size w0 X:=h.2
theorem rowL_app (m m2:Nat) (A B:Mx) (i:Nat):zib m (A i)++zib m2 (B i)=zib (m+m2) (zpa m A B i):=by
 refine List.ext_getElem (by simp[zib]) fun j h1 h2=> ?_
 rw[ztb]
 have hj:j<m+m2:=by rw[zea]at h2;exact h2
 unfold zpa
 by_cases h:j<m
 ·rw[List.getElem_append_left (by rw[zea];exact h),ztb,if_pos h]
 ·rw[List.getElem_append_right (by rw[zea];omega),ztb,if_neg h,zea]
theorem znd.init {w:World} {T m wd:Nat} {x y z:Value} {d:Rat} (A:Mx) (hm:0<m) (hb:zjf w T #[.slice none 0 0, .int .i64 wd, .int .i64 (0:Nat),x,y,z, .int .i64 0]) (hf:zqa w (.agg #[x,y,z]) d):znd w T (.slice none 0 0) [] 0 m A wd 0 d:=by
 obtain⟨a,b,ha,h4,h5⟩:=hf
 injection ha with ha
 injection ha with ha
 simp only[List.cons.injEq,and_true]at ha
 obtain⟨rfl,rfl,rfl⟩:=ha
 exact⟨⟨y,z,hb,h4,h5⟩,zlc.nil _ _ _ _,rfl,hm,fun i h=>by simp at h,fun i j h=>by simp at h⟩
theorem znd.grownR {w w':World} {T n m wd rk:Nat} {vR u:Value} {rs:List Value} {A:Mx} {d:Rat} (h:znd w T vR rs n m A wd rk d) (hg:w.grownBy w' u.ownBlock) (hn:zlb w u) (hT:u.ownBlock≠some T)
 (hR:vR.ownBlock=none\/vR.ownBlock≠u.ownBlock) (hr:∀i (hi:i<rs.length),rs[i].ownBlock≠u.ownBlock):znd w' T vR rs n m A wd rk d:=by
 obtain⟨⟨a,b,h1,h2,h3⟩,own,rl,mp,row,ap⟩:=h
 exact⟨⟨a,b,h1.grown hg hT,h2.grown hg hn,h3.grown hg hn⟩,own.grown hg hR,rl,mp,fun i hi=>(row i hi).grown hg hn (Or.inr (hr i hi)),ap⟩
theorem znd.old {w:World} {T n m wd rk:Nat} {vR:Value} {rs:List Value} {A:Mx} {d:Rat} (h:znd w T vR rs n m A wd rk d) {i:Nat} (hi:i<rs.length):∃g,rs[i].ownBlock=some g/\g<w.heap.size:=by
 obtain⟨g,h1,_,_,h2,_⟩:=(h.row i hi).blk (by rw[zea];exact h.mp)
 exact⟨g,h1,h2⟩
def RBeg (w0:World) (n m:Nat) (A:Mx) (wd:Nat) (e:Ending) (w:World):Prop:=
 ∃T vR rs,e= .returned (.pointer (some ⟨T,0,none⟩))/\Below w0.heap.size w0 w/\znd w T vR rs n m A wd 0 1/\w0.heap.size<=T
set_option maxHeartbeats 3200000 in
theorem begin_two (va:Value) (bd:Addr) (bn bc:Nat) (n m m2:Nat) (A A2:Mx) (w:World) (ha:zam w va n m A) (hb:zam w (.slice (some bd) bn bc) n m2 A2) (hn1:1<=n) (hn:n<=100) (hm1:1<=m) (hm:m<=100) (hm21:1<=m2) (hm2:m2<=100):
 Calls Tryz.prog 204 #[va, .slice (some bd) bn bc] w (RBeg w n (m+m2) (zpa m A A2) m):=by
 obtain⟨i3,hi3,hz3,hs3,hy3⟩:=info_parts Tryz.infoF
 have hAP:=append_fr (P:=Tryz.prog) 25 38 i3 Tryz.underlying25 hi3 hz3 hs3 hy3
 obtain⟨i4,hi4,hz4,hs4,hy4⟩:=info_parts Tryz.infoRow
 have hAR:=zxl (P:=Tryz.prog) 24 25 i4 _ 24 Tryz.underlying24 hi4 hz4 hs4 hy4 (by decide) rfl (fun z=>by simp)
 clear hi3 hz3 hs3 hy3 hi4 hz4 hs4 hy4
 have sa:=ha.sl
 have la:=ha.len
 obtain⟨r0,hc0,hr0⟩:=ha.row 0 (by omega)
 have sl0:=hr0.sl
 have ln0:slen r0=m:=by rw[hr0.len,zea]
 have HA:=zH ha
 have S0:=zH hc0
 have sb:=hb.sl
 have lb:=hb.len
 have HB0:=zH hb
 clear hb
 have i0:(0:Int)<(n:Nat):=by omega
 have i00:0<n:=by omega
 clear ha hr0
 go_enter Tryz.func204,Tryz.ntmps204
 go_wp2_with fail
 go_region_held3 (fun w'=>w'.cell? (ptr va 0)=some r0/\Below w.heap.size w w') (first
  | with_reducible exact kp1a S0.out (zja _)
  | with_reducible exact kp1w (by assumption) (zca _ _)
  | with_reducible exact kp1w (by assumption) (by assumption)) (first
  |(go_at_call 218;(with_reducible refine(lnumber_one _).mono ?_);rintro e1 w1 ⟨v1,rfl,hv1,hb1⟩
    obtain⟨t9,x9,y9,rfl,⟨a1,l91,k91,rfl,_⟩,⟨a2,l92,k92,rfl,_⟩⟩:=hv1.isF
    have hB1:=zaa (kp1c (by assumption)) hb1))
 all_goals
  have hBZ:=kp1c (by assumption)
  have hI:=znd.init (w:=w1.alloc (.cells #[.slice none 0 0, .int .i64 m, .int .i64 (0:Nat), .bool t9, .slice a1 l91 k91, .slice a2 l92 k92, .int .i64 0] 177)) (m:=(m+m2)) (zpa m A A2) (by omega) (zjf.new w1 _ _) (hv1.below (zca _ _))
  have HI:=zH hI
  have HBZ:=zH hBZ
  have hTw:w.heap.size<=w1.heap.size:=hB1.size
  clear hI hBZ hv1 hb1 hB1 hc0
  go_wp2_with fail
  obtain⟨T,hT⟩:∃T,w1.heap.size=T:=⟨_,rfl⟩
  rw[hT]at HI hTw
  rw[hT]
  have HT:=zH hT
  clear hT
  go_loopg [18] (n) (fun g u18 wr=>∃ (k:Nat) (vR:Value) (rs:List Value),k<=n/\g=n-k/\u18= .int .i64 k/\znd wr T vR rs k (m+m2) (zpa m A A2) m 0 1/\Below w.heap.size w wr)
  case atStart=>exact⟨0,_,[],zZL _,rfl,rfl,HI.out,HBZ.out⟩
  case round=>
   obtain⟨k,vR,rs,hk,hg,rfl,hTab,hbr⟩:=hrel
   obtain⟨w2,hw2⟩:∃w2,w2=wr:=⟨_,rfl⟩
   subst hw2
   have HTAB:=zH hTab
   have HBR:=zH hbr
   have HG:=zH hg
   clear HI HBZ
   by_cases hkn:k<n
   ·obtain⟨rv,hrc,hrv⟩:=(HA.out.below hbr).row k hkn
    have hrlen:=hrv.len
    rw[zea]at hrlen
    obtain⟨ra,rn,rc,rfl,hs1,hs2,hs3⟩:=id hrv.sl
    obtain⟨ad,rfl⟩:∃ad,ra=some ad:=by
     cases ra with
     | none=>exfalso;have h5:=hs3 rfl;have h6:rn=m:=hrlen;omega
     | some ad=>exact⟨ad,rfl⟩
    have hle1:([]:List Rat).length+(zib m (A k)).length<=1000:=by rw[zea];simp;omega
    have hTle:T+1<=w2.heap.size:=hTab.lt
    have hnil:=zya.nil w2 38 (T+1)
    have HRV:=zH hrv
    obtain⟨rv2,hrc2,hrv2⟩:=(HB0.out.below hbr).row k hkn
    have hrlen2:=hrv2.len
    rw[zea]at hrlen2
    obtain⟨ra2,rn2,rc2,rfl,ht1,ht2,ht3⟩:=id hrv2.sl
    obtain⟨ad2,rfl⟩:∃ad2,ra2=some ad2:=by
     cases ra2 with
     | none=>exfalso;have h5:=ht3 rfl;have h6:rn2=m2:=hrlen2;omega
     | some ad2=>exact⟨ad2,rfl⟩
    have hle2:([]++zib m (A k)).length+(zib m2 (A2 k)).length<=1000:=by rw[List.nil_append,zea,zea];omega
    have HRV2:=zH hrv2
    clear hrv2 hrlen2 ht1 ht2 ht3
    clear hTab hbr hg hs1 hs2 hs3 hrlen
    go_wp2_with (first
     |(at_builtin;refine hAP w2 rfl _ _ rfl (T+1) _ [] rfl hnil ad rn rc (zib m (A k)) rfl HRV.out hle1 hTle ?_;intro v5 w5 hf5 hg5 hn5 ho5 sv5
       obtain⟨u1,u2,u3,rfl,_⟩:=id sv5
       have hb5:Below w2.heap.size w2 w5:=zna hg5 (zLR _) (fun k hk=>by cases hk)
       have hT5:=HTAB.out.below hb5
       have hfl5:([]++zib m (A k)).length=m:=by rw[List.nil_append,zea]
       have HT5:=zH hT5
       have HF5:=zH hf5
       have HO5:=zH ho5
       have HB5:=zH (zaa HBR.out hb5)
       have hle5:T+1<=w5.heap.size:=hT5.lt
       have HRV5:=zH (HRV2.out.below hb5)
       have hrc5:=zba hb5 hrc2
       have hsf5:=hf5
       clear hT5 hf5 hg5 hn5 ho5)
     |(at_builtin;refine hAP w5 rfl _ _ rfl (T+1) (.slice u1 u2 u3) ([]++zib m (A k)) rfl hsf5 ad2 rn2 rc2 (zib m2 (A2 k)) rfl HRV5.out hle2 hle5 ?_;intro v6 w6 hf6 hg6 hn6 ho6 sv6
       obtain⟨z1,z2,z3,rfl,_⟩:=id sv6
       have hgb:=HF5.out.blk (by rw[List.nil_append,zea];omega)
       have hT6:=HT5.out.grownR hg6 hn6 (by obtain⟨g,e1,_,e2,_⟩:=hgb;rw[e1];intro e;injection e with e;omega) (by
        obtain⟨ys,y1,y2⟩:=HF5.out
        exact HT5.out.own.kinds y1 (by decide)) (fun i hi=>by
        obtain⟨g,e1,e2⟩:=HTAB.out.old hi
        rw[e1];rcases HO5.out with h | h<;>rw[h]
        ·exact fun e=>by cases e
        ·intro e;injection e with e;omega)
       have hap6:∀i (hi:i<rs.length),rs[i].ownBlock≠(Value.slice z1 z2 z3).ownBlock:=fun i hi=>by
        obtain⟨g,e1,e2⟩:=HTAB.out.old hi
        have h52:w2.heap.size<=w5.heap.size:=hb5.size
        rw[e1];rcases ho6 with h | h<;>rw[h]
        ·rcases HO5.out with h | h<;>rw[h]
         ·exact fun e=>by cases e
         ·intro e;injection e with e;omega
        ·intro e;injection e with e;omega
       have HT6:=zH hT6
       have HF6:=zH hf6
       have HAP6:=zH hap6
       have HB6:=zH (HB5.out.trans (zna hg6 (by have:=HT5.out.lt;omega) (fun k hk=>by obtain⟨g,e1,_,e2,_⟩:=hgb;rw[e1]at hk;injection hk with hk;omega)))
       obtain⟨_,_,_,_,_,_,t5,_⟩:=hT6.cells
       have hown6:=hT6.own
       have hlen5:rs.length<=1000:=by rw[hT6.rl];omega
       have hle6:T+1<=w6.heap.size:=hT6.lt
       clear hT6 hf6 hg6 hn6 ho6 hap6 hgb hsf5)
     |(at_builtin;refine hAR w6 rfl _ _ rfl (T+1) _ vR rs rfl hown6 (.slice z1 z2 z3) rfl (fun z=>by simp) rfl hlen5 hle6 ?_;intro v7 w7 ho7 hg7 hn7 hq7 sv7
       obtain⟨y1,y2,y3,rfl,_⟩:=id sv7
       have hpush:=HT6.out.push (r:= .slice z1 z2 z3) (by have h:=HF6.out;rw[List.nil_append,rowL_app]at h;exact h) HAP6.out ho7 hg7
       have HP:=zH hpush
       have HB7:=zH (HB6.out.trans (hpush.2.mono hTw))
       obtain⟨_,_,_,_,_,_,t0,_,_,_,_,_,_,_,tf⟩:=HT6.out.cells
       have t7:=(zjf.cell (show zjf w7 T _ from(HT6.out.box.choose_spec.choose_spec.1).grown hg7 (fun e=>by have:=(HT6.out.own.block T e).1;omega)) 0 rfl)
       have f7:=(zjf.frozen (show zjf w7 T _ from(HT6.out.box.choose_spec.choose_spec.1).grown hg7 (fun e=>by have:=(HT6.out.own.block T e).1;omega)) 0)
       clear ho7 hg7 hn7 hq7 hpush t0 tf))
    go_roundg (n- (k+1))
    case measure=>(have:=HG.out;omega)
    case rel=>exact⟨k+1,_,_,by omega,rfl,by go_num,HP.out.1,HB7.out⟩
   ·obtain rfl:k=n:=by omega
    clear hTab hbr hg
    go_wp2_with fail
    go_ret
    exact⟨T,vR,rs,rfl,HBR.out,HTAB.out,hTw⟩
theorem RF.fits {x:RF} (h:x.ok):fits x.q:=fits_ok _ h
theorem wt_le {q:Rat} (h:fits q):wt q<=8192:=by
 obtain⟨h1,h2⟩:=h
 unfold wt
 split<;>(try split)<;>omega
theorem zgt (l:List RF) (h:∀x∈l,x.ok):wts (qs l)<=8192*l.length:=by
 induction l with
 | nil=>simp[qs,wts]
 | cons x l ih=>
   have h1:=ih (fun y hy=>h y (by simp[hy]))
   have h2:=wt_le (RF.fits (h x (by simp)))
   have e:wts (qs (x::l))=wt x.q+wts (qs l):=by unfold qs;rw[List.map_cons,zmg]
   rw[e,List.length_cons];omega
theorem wts_qs (l:List RF) (k:Nat) (h:k<l.length):wts (qs (l.take (k+1)))=wts (qs (l.take k))+wt l[k].q:=by
 rw[zxc l k h];unfold qs;rw[List.map_append];exact zsu _ _
def zxr (m:List (List RF)):Nat:=(m.map fun l=>wts (qs l)).sum
theorem zht (m:List (List RF)) (k:Nat) (h:k<m.length):zxr (m.take (k+1))=zxr (m.take k)+wts (qs m[k]):=by
 unfold zxr;rw[zxc m k h,List.map_append,List.sum_append];simp only[List.map_cons,List.map_nil,List.sum_cons,List.sum_nil,Nat.add_zero]
theorem zit (m:List (List RF)) (h:∀l∈m,∀x∈l,x.ok) (hl:∀l∈m,l.length<=65536):zxr m<=536870912*m.length:=by
 induction m with
 | nil=>simp[zxr]
 | cons x m ih=>
   have h1:=ih (fun y hy=>h y (by simp[hy])) (fun y hy=>hl y (by simp[hy]))
   have h2:=zgt x (h x (by simp))
   have h3:=hl x (by simp)
   have e:zxr (x::m)=wts (qs x)+zxr m:=by simp[zxr]
   rw[e,List.length_cons];omega
theorem wt_zero {q:Rat} (h:q.num=0):wt q=0:=by unfold wt;rw[if_pos h]
theorem wt_int {q:Rat} (h:q.num≠0) (hd:q.den=1):wt q=zua q.num.natAbs:=by unfold wt;rw[if_neg h,if_pos hd];rfl
theorem wt_frac {q:Rat} (h:q.num≠0) (hd:q.den≠1):wt q=zua q.num.natAbs+zua q.den:=by unfold wt;rw[if_neg h,if_neg hd]
theorem zok (va:Value) (x:RF) (w:World) (ha:zdc w va x.neg x.n x.d) (hx:x.ok):Calls Tryz.prog 89 #[va] w (RF0 w x.q):=
 (zef va x.neg x.n x.d w ha).mono fun e w' h=>by
  obtain⟨v,er,rfl,h1,h2,_⟩:=h
  obtain⟨rfl,h3⟩:=h2 hx
  exact⟨v,rfl,h3,h1⟩
theorem zhr (l:List RF):zxr [l]=wts (qs l):=by simp[zxr]
set_option maxHeartbeats 3200000
theorem zfl (va:Value) (m:List (List RF)) (w:World) (ha:zlw w va m) (hok:∀l∈m,∀x∈l,x.ok) (hl:∀l∈m,l.length<=65536) (hm:m.length<=65536):
 Calls Tryz.prog 168 #[va] w fun e w'=>e= .returned (.int .i64 (zxr m))/\Below w.heap.size w w':=by
 have sa:=ha.sl
 have la:=ha.len
 have HOK:=zH hok
 have HL:=zH hl
 clear hok hl
 go_enter Tryz.func168,Tryz.ntmps168
 go_wp2_with fail
 go_loopw [3,13] (fun u3 u13 wr=>∃ (k:Nat),k<=m.length/\u13= .int .i64 k/\u3= .int .i64 (zxr (m.take k))/\Below w.heap.size w wr) (fun _ u13 _=>m.length- (intOf u13).toNat)
 case atStart=>exact⟨0,zZL _,rfl,rfl,Below.refl _ _⟩
 case round=>
  obtain⟨k,hk,rfl,rfl,hb⟩:=hrel
  by_cases hkm:k<m.length
  ·obtain⟨rv,hrc,hrv⟩:=(ha.below hb).at' k hkm
   have hW:zxr (m.take k)<=536870912*65536:=by
    have h1:=zit (m.take k) (fun l h=>HOK.out l (List.mem_of_mem_take h)) (fun l h=>HL.out l (List.mem_of_mem_take h))
    rw[List.length_take]at h1;omega
   have hlk:=HL.out m[k] (zGM hkm)
   have HOKL:=zH (HOK.out m[k] (zGM hkm))
   have HTM:=zH (zht m k hkm)
   generalize m[k]'hkm=l at *
   generalize zxr (m.take k)=W0 at *
   have srv:=hrv.sl
   have lrv:=hrv.len
   obtain⟨wo,rfl⟩:∃wo:World,wo=wr:=⟨_,rfl⟩
   go_wp2_with fail
   go_loopw [3,19] (fun u3 u19 wi=>∃ (j:Nat),j<=l.length/\u19= .int .i64 j/\u3= .int .i64 ((W0+wts (qs (l.take j)):Nat):Int)/\Below wo.heap.size wo wi) (fun _ u19 _=>l.length- (intOf u19).toNat)
   case atStart=>exact⟨0,zZL _,rfl,by simp[qs,wts],Below.refl _ _⟩
   case round=>
    obtain⟨j,hj,rfl,rfl,hbi⟩:=hrel
    by_cases hjl:j<l.length
    ·obtain⟨xa,xb,c1,c2,c3,hxa,hxb⟩:=(hrv.below hbi).at' j hjl
     obtain⟨c1a,c1l,c1k,rfl,_⟩:=hxa.slen.1
     obtain⟨c2a,c2l,c2k,rfl,_⟩:=hxb.slen.1
     have HX:=zH (HOKL.out l[j] (zGM hjl))
     have HTS:=zH (wts_qs l j hjl)
     have hWj:wts (qs (l.take j))<=8192*65536:=by
      have h1:=zgt (l.take j) (fun x h=>HOKL.out x (List.mem_of_mem_take h))
      rw[List.length_take]at h1;omega
     generalize l[j]'hjl=x at *
     generalize wts (qs (l.take j))=W1 at *
     have hA:zdc (wr.alloc (.cells #[.bool x.neg, .slice c1a c1l c1k, .slice c2a c2l c2k] 38)) (.agg #[.bool x.neg, .slice c1a c1l c1k, .slice c2a c2l c2k]) x.neg x.n x.d:=⟨_,_,rfl,hxa.below (zca _ _),hxb.below (zca _ _)⟩
     have hb1:=zaa hbi (zca wr (.cells #[.bool x.neg, .slice c1a c1l c1k, .slice c2a c2l c2k] 38))
     obtain⟨hf1,hf2⟩:=RF.fits HX.out
     have hn0:=zld (n:=x.q.num.natAbs)
     have hd1:=zse (n:=x.q.den)
     have hd0:=x.q.den_nz
     obtain⟨bn,hbn⟩:∃bn,zua x.q.num.natAbs=bn:=⟨_,rfl⟩
     obtain⟨bd,hbd⟩:∃bd,zua x.q.den=bd:=⟨_,rfl⟩
     rw[hbn]at hf1 hn0
     rw[hbd]at hf2 hd1
     have HBN:=zH hbn
     have HBD:=zH hbd
     clear hbn hbd hxa hxb
     by_cases hz:x.q.num=0
     ·have hbz:bn=0:=by have:=hn0.1;omega
      have HW:=zH (wt_zero hz)
      subst hbz
      clear hz hn0 hd1 hd0
      go_wp2_with (first
       |(go_at_call 89;(with_reducible refine(zok _ x _ hA HX.out).mono ?_);rintro e w7 ⟨v,rfl,hv,hb7⟩
         obtain⟨xa2,xb2,rfl,hxa2,hxb2⟩:=hv
         obtain⟨y1,y2,y3,rfl,_⟩:=hxa2.v.sl
         obtain⟨y4,y5,y6,rfl,_⟩:=hxb2.v.sl
         have hxa3:=(hxa2.below (zca w7 (.cells #[.bool (decide (x.q<0)), .slice y1 y2 y3, .slice y4 y5 y6] 38))).nat
         have hxb3:=(hxb2.below (zca w7 (.cells #[.bool (decide (x.q<0)), .slice y1 y2 y3, .slice y4 y5 y6] 38))).nat
         have hb8:=zaa (zaa hb1 hb7) (zca w7 (.cells #[.bool (decide (x.q<0)), .slice y1 y2 y3, .slice y4 y5 y6] 38)))
       |(go_at_call 156;first
         |((with_reducible refine(zva _ _ _ hxa3).mono ?_);rintro e w' ⟨rfl,rfl⟩;rw[HBN.out])
         |((with_reducible refine(zva _ _ _ hxb3).mono ?_);rintro e w' ⟨rfl,rfl⟩;rw[HBD.out])))
      go_roundw
      case rel=>exact⟨j+1,hjl,by go_num,by rw[HTS.out,HW.out];go_num,hb8⟩
      case measure=>simp[intOf];omega
     ·have hbz:0<bn:=hn0.2 (by omega)
      have hbz2:(((bn:Nat):Int)==0)=false:=by simp;omega
      by_cases hd:x.q.den=1
      ·have HW:=zH (wt_int hz hd)
       have hbd1:¬1<bd:=fun h=>by have:=hd1.1 h;omega
       clear hz hn0 hd1 hd0 hd
       go_wp2_with (first
        |(go_at_call 89;(with_reducible refine(zok _ x _ hA HX.out).mono ?_);rintro e w7 ⟨v,rfl,hv,hb7⟩
          obtain⟨xa2,xb2,rfl,hxa2,hxb2⟩:=hv
          obtain⟨y1,y2,y3,rfl,_⟩:=hxa2.v.sl
          obtain⟨y4,y5,y6,rfl,_⟩:=hxb2.v.sl
          have hxa3:=(hxa2.below (zca w7 (.cells #[.bool (decide (x.q<0)), .slice y1 y2 y3, .slice y4 y5 y6] 38))).nat
          have hxb3:=(hxb2.below (zca w7 (.cells #[.bool (decide (x.q<0)), .slice y1 y2 y3, .slice y4 y5 y6] 38))).nat
          have hb8:=zaa (zaa hb1 hb7) (zca w7 (.cells #[.bool (decide (x.q<0)), .slice y1 y2 y3, .slice y4 y5 y6] 38)))
        |(go_at_call 156;first
          |((with_reducible refine(zva _ _ _ hxa3).mono ?_);rintro e w' ⟨rfl,rfl⟩;rw[HBN.out])
          |((with_reducible refine(zva _ _ _ hxb3).mono ?_);rintro e w' ⟨rfl,rfl⟩;rw[HBD.out])))
       go_roundw
       case rel=>exact⟨j+1,hjl,by go_num,by rw[HTS.out,HW.out,HBN.out];go_num,hb8⟩
       case measure=>simp[intOf];omega
      ·have HW:=zH (wt_frac hz hd)
       have hbd1:1<bd:=hd1.2 (by omega)
       clear hz hn0 hd1 hd0 hd
       go_wp2_with (first
        |(go_at_call 89;(with_reducible refine(zok _ x _ hA HX.out).mono ?_);rintro e w7 ⟨v,rfl,hv,hb7⟩
          obtain⟨xa2,xb2,rfl,hxa2,hxb2⟩:=hv
          obtain⟨y1,y2,y3,rfl,_⟩:=hxa2.v.sl
          obtain⟨y4,y5,y6,rfl,_⟩:=hxb2.v.sl
          have hxa3:=(hxa2.below (zca w7 (.cells #[.bool (decide (x.q<0)), .slice y1 y2 y3, .slice y4 y5 y6] 38))).nat
          have hxb3:=(hxb2.below (zca w7 (.cells #[.bool (decide (x.q<0)), .slice y1 y2 y3, .slice y4 y5 y6] 38))).nat
          have hb8:=zaa (zaa hb1 hb7) (zca w7 (.cells #[.bool (decide (x.q<0)), .slice y1 y2 y3, .slice y4 y5 y6] 38)))
        |(go_at_call 156;first
          |((with_reducible refine(zva _ _ _ hxa3).mono ?_);rintro e w' ⟨rfl,rfl⟩;rw[HBN.out])
          |((with_reducible refine(zva _ _ _ hxb3).mono ?_);rintro e w' ⟨rfl,rfl⟩;rw[HBD.out])))
       go_roundw
       case rel=>exact⟨j+1,hjl,by go_num,by rw[HTS.out,HW.out,HBN.out,HBD.out];go_num,hb8⟩
       case measure=>simp[intOf];omega
    ·obtain rfl:j=l.length:=by omega
     rw[List.take_length]
     go_wp2_with fail
     go_roundw
     case rel=>exact⟨k+1,hkm,by go_num,by rw[HTM.out],hb.trans (hbi.mono hb.size)⟩
     case measure=>simp[intOf];omega
  ·obtain rfl:k=m.length:=by omega
   rw[List.take_length]
   go_wp2_with fail
   go_ret
   exact⟨rfl,hb⟩
def vecP (l:List RF) (n:Nat):Prop:=(∀x∈l,x.ok)/\l.length=n
instance (l :List RF) (n:Nat):Decidable (vecP l n):=inferInstanceAs (Decidable (_/\_))
theorem zfh (va:Value) (l:List RF) (n:Nat) (w:World) (ha:zni w va l) (hn:n<=65536):
 Calls Tryz.prog 167 #[va, .int .i64 n] w fun e w'=>e= .returned (.bool (decide (vecP l n)))/\Below w.heap.size w w':=by
 have sa:=ha.sl
 have la:=ha.len
 have hle:=sa.le
 rw[la]at hle
 have hlb:l.length<=9223372036854775807:=by omega
 clear hle
 go_enter Tryz.func167,Tryz.ntmps167
 go_wp2_with fail
 go_loopw [9] (fun u9 wr=>∃ (k:Nat),k<=l.length/\u9= .int .i64 k/\(∀x∈l.take k,x.ok)/\Below w.heap.size w wr) (fun u9 _=>l.length- (intOf u9).toNat)
 case atStart=>exact⟨0,zZL _,rfl,fun x h=>by simp at h,Below.refl _ _⟩
 case round=>
  obtain⟨k,hk,rfl,hok,hb⟩:=hrel
  have HOK:=zH hok
  clear hok
  by_cases hkl:k<l.length
  ·obtain⟨xa,xb,c1,c2,c3,hxa,hxb⟩:=(ha.below hb).at' k hkl
   obtain⟨c1a,c1l,c1k,rfl,_⟩:=hxa.slen.1
   obtain⟨c2a,c2l,c2k,rfl,_⟩:=hxb.slen.1
   obtain⟨x,hx⟩:∃x,l[k]'hkl=x:=⟨_,rfl⟩
   rw[hx]at c1 hxa hxb
   have HMEM:Hid (x∈l):=zH (by rw[<-hx];exact zGM hkl)
   have HTK:Hid (l.take (k+1)=l.take k++ [x]):=zH (by rw[zxc l k hkl,hx])
   have hA:zdc (wr.alloc (.cells #[.bool x.neg, .slice c1a c1l c1k, .slice c2a c2l c2k] 38)) (.agg #[.bool x.neg, .slice c1a c1l c1k, .slice c2a c2l c2k]) x.neg x.n x.d:=⟨_,_,rfl,hxa.below (zca _ _),hxb.below (zca _ _)⟩
   have hb1:=zaa hb (zca wr (.cells #[.bool x.neg, .slice c1a c1l c1k, .slice c2a c2l c2k] 38))
   clear hxa hxb hx
   by_cases hko:x.ok
   ·have HX:Hid (okN x.n x.d):=zH hko
    clear hko
    go_wp2_with (go_at_call 79;(with_reducible refine(zrd _ x.neg x.n x.d _ hA HX.out).mono ?_);rintro e w7 ⟨rfl,hb7⟩)
    go_roundw
    case rel=>exact⟨k+1,hkl,by go_num,fun y hy=>by
     rw[HTK.out]at hy
     rcases List.mem_append.1 hy with h | h
     ·exact HOK.out y h
     ·have :y=x:=by simpa using h
      rw[this];exact HX.out,zaa hb1 hb7⟩
    case measure=>simp[intOf];omega
   ·have HX:Hid (¬okN x.n x.d):=zH hko
    have HBAD:Hid (¬vecP l n):=zH (fun h=>hko (h.1 x HMEM.out))
    clear hko
    go_wp2_with (go_at_call 79;(with_reducible refine(zys _ x.neg x.n x.d _ hA HX.out).mono ?_);rintro e w7 ⟨rfl,hb7⟩)
    go_ret
    exact⟨by rw[decide_eq_false HBAD.out];rfl,zaa hb1 hb7⟩
  ·obtain rfl:k=l.length:=by omega
   have HD:Hid (decide (vecP l n)=decide (l.length=n)):=zH (by
    have h:=HOK.out
    rw[List.take_length]at h
    by_cases h2:l.length=n
    ·rw[decide_eq_true h2,decide_eq_true (show vecP l n from⟨h,h2⟩)]
    ·rw[decide_eq_false h2,decide_eq_false (fun h3=>h2 h3.2)])
   go_wp2_with fail
   go_ret
   refine⟨?_,hb⟩
   rw[HD.out]
   by_cases h2:l.length=n
   ·subst h2;simp
   ·have h3:¬ ((l.length:Int)=(n:Int)):=by omega
    simp[h2,h3]
def zqh (m:List (List RF)):Prop:=1<=m.length/\m.length<=24/\1<=(m.headD []).length/\(m.headD []).length<=24/\∀l∈m,vecP l (m.headD []).length
instance (m :List (List RF)):Decidable (zqh m):=inferInstanceAs (Decidable (_/\_/\_/\_/\_))
def RShape (w0:World) (m:List (List RF)) (e:Ending) (w:World):Prop:=
 e= .returned (if zqh m then .tuple #[.int .i64 m.length, .int .i64 (m.headD []).length, .bool true]else .tuple #[.int .i64 0, .int .i64 0, .bool false])/\Below w0.heap.size w0 w
set_option maxHeartbeats 3200000 in
theorem shape_any (va:Value) (m:List (List RF)) (w:World) (ha:zlw w va m):
 Calls Tryz.prog 203 #[va] w (RShape w m):=by
 have sa:=ha.sl
 have la:=ha.len
 have hle:=sa.le
 rw[la]at hle
 have hlb:m.length<=9223372036854775807:=by omega
 clear hle
 by_cases h1:m.length<1
 ·have HBAD:Hid (¬zqh m):=zH (fun h=>by have:=h.1;omega)
  go_enter Tryz.func203,Tryz.ntmps203
  go_wp2_with fail
  refine bodyPost_ret (v:= .tuple #[.int .i64 0, .int .i64 0, .bool false]) (by simp[results,Tryz.results203,go_sem]) rfl ⟨?_,Below.refl _ _⟩
  rw[if_neg HBAD.out]
 ·by_cases h2:24<m.length
  ·have HBAD:Hid (¬zqh m):=zH (fun h=>by have:=h.2.1;omega)
   go_enter Tryz.func203,Tryz.ntmps203
   go_wp2_with fail
   refine bodyPost_ret (v:= .tuple #[.int .i64 0, .int .i64 0, .bool false]) (by simp[results,Tryz.results203,go_sem]) rfl ⟨?_,Below.refl _ _⟩
   rw[if_neg HBAD.out]
  ·obtain⟨r0,hc0,hr0⟩:=ha.at' 0 (by omega)
   have hd0:m.headD []=m[0]'(by omega):=by
    cases m with
    | nil=>simp at h1
    | cons a m=>rfl
   rw[<-hd0]at hr0
   have sl0:=hr0.sl
   have ln0:=hr0.len
   obtain⟨x,hx⟩:∃x,m.headD []=x:=⟨_,rfl⟩
   rw[hx]at hr0 ln0 hd0
   have HX:=zH hx
   have i0:0<m.length:=by omega
   clear hd0 hr0 hx h1
   by_cases h3:x.length<1
   ·have HBAD:Hid (¬zqh m):=zH (fun h=>by have:=h.2.2.1;rw[HX.out]at this;omega)
    go_enter Tryz.func203,Tryz.ntmps203
    go_wp2_with fail
    refine bodyPost_ret (v:= .tuple #[.int .i64 0, .int .i64 0, .bool false]) (by simp[results,Tryz.results203,go_sem]) rfl ⟨?_,Below.refl _ _⟩
    rw[if_neg HBAD.out]
   ·by_cases h4:24<x.length
    ·have HBAD:Hid (¬zqh m):=zH (fun h=>by have:=h.2.2.2.1;rw[HX.out]at this;omega)
     go_enter Tryz.func203,Tryz.ntmps203
     go_wp2_with fail
     refine bodyPost_ret (v:= .tuple #[.int .i64 0, .int .i64 0, .bool false]) (by simp[results,Tryz.results203,go_sem]) rfl ⟨?_,Below.refl _ _⟩
     rw[if_neg HBAD.out]
    ·go_enter Tryz.func203,Tryz.ntmps203
     go_wp2_with fail
     go_loopw [31] (fun u31 wr=>∃ (k:Nat),k<=m.length/\u31= .int .i64 k/\(∀l∈m.take k,vecP l x.length)/\Below w.heap.size w wr) (fun u31 _=>m.length- (intOf u31).toNat)
     case atStart=>exact⟨0,zZL _,rfl,fun l h=>by simp at h,Below.refl _ _⟩
     case round=>
      obtain⟨k,hk,rfl,hok,hb⟩:=hrel
      have HOK:=zH hok
      have hc0:=zba hb hc0
      clear hok
      by_cases hkl:k<m.length
      ·obtain⟨rk,hrc,hrk⟩:=(ha.below hb).at' k hkl
       obtain⟨l,hl⟩:∃l,m[k]'hkl=l:=⟨_,rfl⟩
       rw[hl]at hrk
       have HMEM:Hid (l∈m):=zH (by rw[<-hl];exact zGM hkl)
       have HTK:Hid (m.take (k+1)=m.take k++ [l]):=zH (by rw[zxc m k hkl,hl])
       have i1:x.length<=65536:=by omega
       clear hl
       by_cases hv:vecP l x.length
       ·have HV:=zH hv
        clear hv
        go_wp2_with (go_at_call 167;(with_reducible refine(zfh _ l x.length _ hrk i1).mono ?_);rw[decide_eq_true HV.out];rintro e w7 ⟨rfl,hb7⟩)
        go_roundw
        case rel=>exact⟨k+1,hkl,by go_num,fun y hy=>by
         rw[HTK.out]at hy
         rcases List.mem_append.1 hy with h | h
         ·exact HOK.out y h
         ·have :y=l:=by simpa using h
          rw[this];exact HV.out,zaa hb hb7⟩
        case measure=>simp[intOf];omega
       ·have HV:=zH hv
        have HBAD:Hid (¬zqh m):=zH (fun h=>hv (by have:=h.2.2.2.2 l HMEM.out;rw[HX.out]at this;exact this))
        clear hv
        go_wp2_with (go_at_call 167;(with_reducible refine(zfh _ l x.length _ hrk i1).mono ?_);rw[decide_eq_false HV.out];rintro e w7 ⟨rfl,hb7⟩)
        refine bodyPost_ret (v:= .tuple #[.int .i64 0, .int .i64 0, .bool false]) (by simp[results,Tryz.results203,go_sem]) rfl ⟨?_,zaa hb hb7⟩
        rw[if_neg HBAD.out]
      ·obtain rfl:k=m.length:=by omega
       have HG:Hid (zqh m):=zH (by
        have h:=HOK.out
        rw[List.take_length]at h
        exact⟨by omega,by omega,by rw[HX.out];omega,by rw[HX.out];omega,by rw[HX.out];exact h⟩)
       go_wp2_with fail
       go_quiet (fail)
       have hbN:=zka (B:=wr.heap.size) wr nq
       go_wp2_with fail
       refine bodyPost_ret (v:= .tuple #[.int .i64 m.length, .int .i64 x.length, .bool true]) (by simp[results,Tryz.results203,go_sem]) rfl ⟨?_,zaa hb hbN⟩
       rw[if_pos HG.out,HX.out]
def rawM (n m:Nat) (A:Mx):List (List RF):=(List.range n).map fun i=>(zib m (A i)).map RF.of
theorem zpc (n m:Nat) (A:Mx):(rawM n m A).length=n:=by simp[rawM]
theorem rawM_get (n m:Nat) (A:Mx) (i:Nat) (h:i<(rawM n m A).length):(rawM n m A)[i]=(zib m (A i)).map RF.of:=by simp[rawM]
theorem zam.raw {w:World} {v:Value} {n m:Nat} {A:Mx} (h:zam w v n m A):zlw w v (rawM n m A):=
 ⟨h.sl,by rw[h.len,zpc],fun j hj=>by
  rw[zpc]at hj
  obtain⟨r,h1,h2⟩:=h.row j hj
  exact⟨r,h1,by rw[rawM_get];exact h2.raw⟩⟩
def zau (n m:Nat) (A:Mx):Prop:=∀i j,i<n->j<m->fits (A i j)
theorem zgn {n m:Nat} {A:Mx} {l:List RF} (h:l∈rawM n m A):∃i,i<n/\l=(zib m (A i)).map RF.of:=by
 obtain⟨i,hi,rfl⟩:=List.mem_map.1 h
 exact⟨i,List.mem_range.1 hi,rfl⟩
theorem zyu {n m:Nat} {A:Mx} (hf:zau n m A):∀l∈rawM n m A,∀x∈l,x.ok:=by
 intro l hl x hx
 obtain⟨i,hi,rfl⟩:=zgn hl
 obtain⟨q,hq,rfl⟩:=List.mem_map.1 hx
 obtain⟨j,hj,rfl⟩:=List.mem_map.1 hq
 exact RF.of_ok (hf i j hi (List.mem_range.1 hj))
theorem zhn {n m:Nat} {A:Mx}:∀l∈rawM n m A,l.length=m:=by
 intro l hl
 obtain⟨i,hi,rfl⟩:=zgn hl
 rw[List.length_map,zea]
theorem zth {n m:Nat} {A:Mx} (hn:1<=n):((rawM n m A).headD []).length=m:=by
 cases h:rawM n m A with
 | nil=>have:=zpc n m A;rw[h]at this;simp at this;omega
 | cons a l=>exact zhn (A:=A) (n:=n) a (by rw[h];simp)
def wtF (n m:Nat) (A:Mx):Nat:=zxr (rawM n m A)
theorem zbb.setc {w:World} {v:Value} {q:List Rat} (h:zbb w v q) {p:Addr} {x:Value} (hp:(base v).block≠p.block) (hc:w.cell? p=some x) (hx:∀z,x≠ .int .u32 z) (u:Value):zbb (w.setCell p u) v q:=by
 have hne:∀k,p≠ptr v k:=fun k e=>hp (by rw[e,zsa])
 refine⟨h.sl,h.len,fun j hj=> ?_⟩
 obtain⟨a,b,h1,h2,h3,h4,h5⟩:=h.at' j hj
 exact⟨a,b,by rw[World.cell?_setCell_other _ _ _ _ (hne _)];exact h1,by rw[World.cell?_setCell_other _ _ _ _ (hne _)];exact h2,by rw[World.cell?_setCell_other _ _ _ _ (hne _)];exact h3,⟨h4.v.over hc hx u,h4.2⟩,⟨h5.v.over hc hx u,h5.2⟩⟩
theorem fracs_one {w:World} {b:Nat} {x y z:Value} {r:Rat} (hb:zjf w b #[x,y,z]) (hf:zqa w (.agg #[x,y,z]) r):zbb w (.slice (some ⟨b,0,none⟩) 1 1) [r]:=by
 obtain⟨a1,b1,ha,h4,h5⟩:=hf
 injection ha with ha
 injection ha with ha
 simp only[List.cons.injEq,and_true]at ha
 obtain⟨rfl,rfl,rfl⟩:=ha
 refine⟨⟨_,1,1,rfl,zLR _,by simp[maxLen],fun e=>by cases e⟩,rfl,fun j hj=> ?_⟩
 obtain rfl:j=0:=by simp at hj;omega
 have hp:∀k,ptr (.slice (some ⟨b,0,none⟩) 1 1) k=⟨b,k,none⟩:=fun k=>by simp only[ptr,base,Addr.add_lit,Nat.zero_add]
 exact⟨y,z,by rw[hp];exact hb.cell 0 rfl,by rw[hp];exact hb.cell 1 rfl,by rw[hp];exact hb.cell 2 rfl,h4,h5⟩
theorem mat_one {w:World} {b:Nat} {r:Value} {q:List RF} (hb:zjf w b #[r]) (hq:zni w r q):zlw w (.slice (some ⟨b,0,none⟩) 1 1) [q]:=by
 refine⟨⟨_,1,1,rfl,zLR _,by simp[maxLen],fun e=>by cases e⟩,rfl,fun j hj=> ?_⟩
 obtain rfl:j=0:=by simp at hj;omega
 have hp:∀k,ptr (.slice (some ⟨b,0,none⟩) 1 1) k=⟨b,k,none⟩:=fun k=>by simp only[ptr,base,Addr.add_lit,Nat.zero_add]
 exact⟨r,by rw[hp];exact hb.cell 0 rfl,hq⟩
theorem zvh (l:List Rat):qs (l.map RF.of)=l:=by
 unfold qs;rw[List.map_map]
 have :(RF.q∘RF.of)=id:=by funext q;exact RF.of_q q
 rw[this,List.map_id]
theorem wts_rowL {n K:Nat} {f:Nat->Rat} (h:∀j,j<n->wt (f j)<=K):wts (zib n f)<=n*K:=by
 induction n with
 | zero=>simp[zib,wts]
 | succ n ih=>
   have h1:=ih fun j hj=>h j (by omega)
   have h2:=h n (Nat.lt_succ_self n)
   have e:zib (n+1) f=zib n f++ [f n]:=by unfold zib;rw[List.range_succ,List.map_append];rfl
   rw[e,zsu,Nat.succ_mul]
   omega
theorem wts_rawV {n K:Nat} {f:Nat->Rat} (h:∀j,j<n->wt (f j)<=K):wts (qs ((zib n f).map RF.of))<=n*K:=by
 rw[zvh];exact wts_rowL h
theorem sum_map_le {l:List (List RF)} {g:List RF->Nat} {K:Nat} (h:∀x∈l,g x<=K):(l.map g).sum<=l.length*K:=by
 induction l with
 | nil=>simp
 | cons x l ih=>
   have h1:=h x (by simp)
   have h2:=ih fun y hy=>h y (by simp[hy])
   rw[List.map_cons,List.sum_cons,List.length_cons,Nat.succ_mul]
   omega
theorem wtF_le {n m K:Nat} {A:Mx} (h:∀i j,i<n->j<m->wt (A i j)<=K):wtF n m A<=n*(m*K):=by
 unfold wtF zxr
 have h2:=sum_map_le (l:=rawM n m A) (g:=fun l=>wts (qs l)) (K:=m*K) fun l hl=>by
  obtain⟨i,hi,rfl⟩:=zgn hl
  exact wts_rawV fun j hj=>h i j hi hj
 rw[zpc]at h2
 exact h2
theorem zls {n m:Nat} {A:Mx} (hn1:1<=n) (hn:n<=24) (hm1:1<=m) (hm:m<=24) (hf:zau n m A):zqh (rawM n m A):=
 ⟨by rw[zpc];exact hn1,by rw[zpc];exact hn,by rw[zth hn1];exact hm1,by rw[zth hn1];exact hm,fun l hl=>⟨zyu hf l hl,by rw[zth hn1];exact zhn l hl⟩⟩
theorem shape_lin (va:Value) (n m:Nat) (A:Mx) (w:World) (ha:zam w va n m A) (hn1:1<=n) (hn:n<=24) (hm1:1<=m) (hm:m<=24) (hf:zau n m A):
 Calls Tryz.prog 203 #[va] w fun e w'=>e= .returned (.tuple #[.int .i64 n, .int .i64 m, .bool true])/\Below w.heap.size w w':=by
 refine(shape_any va _ w ha.raw).mono ?_
 rintro e w' ⟨rfl,hb⟩
 rw[if_pos (zls hn1 hn hm1 hm hf),zpc,zth hn1]
 exact⟨rfl,hb⟩
theorem weight_lin (va:Value) (n m:Nat) (A:Mx) (w:World) (ha:zam w va n m A) (hn:n<=24) (hm:m<=24) (hf:zau n m A):
 Calls Tryz.prog 168 #[va] w fun e w'=>e= .returned (.int .i64 (wtF n m A))/\Below w.heap.size w w':=
 zfl va _ w ha.raw (zyu hf) (fun l hl=>by rw[zhn l hl];omega) (by rw[zpc];omega)
set_option maxHeartbeats 800000 in
theorem square_lin (va:Value) (n m:Nat) (A:Mx) (w:World) (ha:zam w va n m A) (hn1:1<=n) (hn:n<=24) (hm1:1<=m) (hm:m<=24) (hf:zau n m A) (hnm:n=m):
 Calls Tryz.prog 166 #[va] w fun e w'=>e= .returned (.bool true)/\Below w.heap.size w w':=by
 subst hnm
 have HF:=zH hf
 clear hf
 go_enter Tryz.func166,Tryz.ntmps166
 go_wp2_with (go_at_call 203;(with_reducible refine(shape_lin va n n A _ ha hn1 hn hm1 hm HF.out).mono ?_);rintro e1 w1 ⟨rfl,hb1⟩)
 go_ret
 exact⟨by simp,hb1⟩
end Go.Proofs.YtlpdkbmmbdfoiaaGreat
