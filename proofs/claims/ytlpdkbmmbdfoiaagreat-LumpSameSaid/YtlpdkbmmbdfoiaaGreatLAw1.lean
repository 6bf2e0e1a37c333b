/-
  package drydocklaw22: awake.
-/
import Derived.Test.YtlpdkbmmbdfoiaaGreatLMath17
import Derived.Test.YtlpdkbmmbdfoiaaGreatLCp2
import Derived.Test.YtlpdkbmmbdfoiaaGreatLLu11
import Derived.Test.YtlpdkbmmbdfoiaaGreatLRb5
set_option linter.unusedVariables false
set_option linter.unusedSimpArgs false
namespace Go.Proofs.YtlpdkbmmbdfoiaaGreat
open Go.RowKit
def NilB (w:World) (b:Nat):Prop:=∀p x,p.block=b→w.cell? p=some x→x= .slice none 0 0
theorem NilB.new (w:World) (t:TypeId):NilB (w.alloc (.cells #[.slice none 0 0, .slice none 0 0, .slice none 0 0] t)) w.heap.size:=by
 intro p x hp hx
 have hb:(w.alloc (.cells #[.slice none 0 0, .slice none 0 0, .slice none 0 0] t)).heap[p.block]? =some (.cells #[.slice none 0 0, .slice none 0 0, .slice none 0 0] t (0,0)):=by
  rw[hp];show(w.heap.push _)[w.heap.size]? =_;simp
 simp only[World.cell?,hb]at hx
 rcases Nat.lt_or_ge p.off 3 with h | h
 ·have :p.off=0∨p.off=1∨p.off=2:=by omega
  rcases this with h | h | h<;>(rw[h]at hx;simp at hx;exact hx.2.symm)
 ·rw[Array.getElem?_eq_none (by simpa using h)]at hx;simp at hx
theorem NilB.below {w w':World} {B b:Nat} (h:NilB w b) (hb:Below B w w') (hB:b<B):NilB w' b:=fun p x hp hx=>h p x hp (by rw[←hb.cell (by omega)];exact hx)
theorem cell_nil3 {w:World} {b:Nat} (hC:C3 w b (.slice none 0 0) (.slice none 0 0) (.slice none 0 0)) {q:Addr} {u:Value} (hq:w.cell? q=some u) (hu:u≠ .slice none 0 0) (x y z:Value):(((w.setCell ⟨b,0,none⟩ x).setCell ⟨b,1,none⟩ y).setCell ⟨b,2,none⟩ z).cell? q=some u:=by
 obtain⟨_,c0,c1,c2,_,_,_⟩:=hC
 have ne:∀p:Addr,w.cell? p=some (.slice none 0 0)→p≠q:=fun p hp e=>by rw[e,hq]at hp;injection hp with hp;exact hu hp
 rw[World.cell?_setCell_other _ _ _ _ (ne _ c2),World.cell?_setCell_other _ _ _ _ (ne _ c1),World.cell?_setCell_other _ _ _ _ (ne _ c0)]
 exact hq
theorem zbb.nil3 {w:World} {v:Value} {q:List Rat} {b:Nat} (h:zbb w v q) (hn:NilB w b) (hC:C3 w b (.slice none 0 0) (.slice none 0 0) (.slice none 0 0)) (x y z:Value):zbb (((w.setCell ⟨b,0,none⟩ x).setCell ⟨b,1,none⟩ y).setCell ⟨b,2,none⟩ z) v q:=by
 by_cases h0:0<q.length
 ·have hne:b≠(base v).block:=by
   intro e
   obtain⟨a1,a2,h1,_⟩:=h.at' 0 h0
   have:=hn _ _ (by rw[zsa,←e]) h1
   cases this
  obtain⟨_,c0,c1,c2,_,_,_⟩:=hC
  refine((h.over (p:=⟨b,0,none⟩) hne c0 (fun z=>by simp)).over (p:=⟨b,1,none⟩) hne (x:= .slice none 0 0) ?_ (fun z=>by simp)).over (p:=⟨b,2,none⟩) hne (x:= .slice none 0 0) ?_ (fun z=>by simp)
  ·rw[World.cell?_setCell_other _ _ _ _ (by simp)];exact c1
  ·rw[World.cell?_setCell_other _ _ _ _ (by simp),World.cell?_setCell_other _ _ _ _ (by simp)];exact c2
 ·exact⟨h.sl,h.len,fun j hj=>by omega⟩
theorem zlq.nil3 {w:World} {v:Value} {c:CQ} {b:Nat} (h:zlq w v c) (hr:∀r∈c.rates,r≠ []) (hn:NilB w b) (hC:C3 w b (.slice none 0 0) (.slice none 0 0) (.slice none 0 0)) (x y z:Value):zlq (((w.setCell ⟨b,0,none⟩ x).setCell ⟨b,1,none⟩ y).setCell ⟨b,2,none⟩ z) v c:=by
 obtain⟨r,s,l,rfl,h1,h2,h3⟩:=h
 refine⟨r,s,l,rfl,⟨h1.sl,h1.len,fun j hj=> ?_⟩,h2.nil3 hn hC x y z,⟨zhc.sl h3,zhc.len h3,fun j hj=>cell_nil3 hC (zhc.cell h3 j hj) (by rw[List.getElem_map];intro e;cases e) x y z⟩⟩
 obtain⟨u,e1,e2⟩:=h1.at' j hj
 refine⟨u,cell_nil3 hC e1 (fun e=> ?_) x y z,e2.nil3 hn hC x y z⟩
 have:=e2.len
 rw[e]at this
 exact hr _ (List.getElem_mem hj) (List.eq_nil_of_length_eq_zero (by simpa [slen]using this.symm))
theorem cop_rows {c:CQ} {of:List Int} {share:List Rat} (h:0<of.length):∀r∈(zxw c of share).rates,r≠ []:=by
 intro r hr
 simp only[zxw,List.mem_map]at hr
 obtain⟨a,_,rfl⟩:=hr
 intro e
 have:=congrArg List.length e
 simp only[List.length_map,List.length_range,List.length_nil]at this
 omega
theorem keep3s {w:World} {a1 a2 a3:Addr} {x1 x2 x3:Value} (h:w.cell? a1=some x1∧w.cell? a2=some x2∧w.cell? a3=some x3) {b:Nat} (h1:b≠a1.block) (h2:b≠a2.block) (h3:b≠a3.block) (x y z:Value):
 (((w.setCell ⟨b,0,none⟩ x).setCell ⟨b,1,none⟩ y).setCell ⟨b,2,none⟩ z).cell? a1=some x1∧(((w.setCell ⟨b,0,none⟩ x).setCell ⟨b,1,none⟩ y).setCell ⟨b,2,none⟩ z).cell? a2=some x2∧(((w.setCell ⟨b,0,none⟩ x).setCell ⟨b,1,none⟩ y).setCell ⟨b,2,none⟩ z).cell? a3=some x3:=by
 have key:∀ (w:World) a x,w.cell? a=some x→b≠a.block→∀i u,(w.setCell ⟨b,i,none⟩ u).cell? a=some x:=fun w a x ha hp i u=>by
  rw[World.cell?_setCell_other _ _ _ _ (fun e=>hp (by rw[←e]))];exact ha
 obtain⟨k1,k2,k3⟩:=h
 exact⟨key _ _ _ (key _ _ _ (key _ _ _ k1 h1 _ _) h1 _ _) h1 _ _,key _ _ _ (key _ _ _ (key _ _ _ k2 h2 _ _) h2 _ _) h2 _ _,key _ _ _ (key _ _ _ (key _ _ _ k3 h3 _ _) h3 _ _) h3 _ _⟩
def RRead (w0:World) (e:Ending) (w:World):Prop:=
 ∃v vo c of share,e= .returned (.tuple #[v,vo])∧zlq w v (zxw c of share)∧zgv w vo of∧zrr c∧zgz c.start.length of share∧Below w0.heap.size w0 w
set_option maxRecDepth 100000 in
set_option maxHeartbeats 3200000 in
theorem read_any (v:Value) (l:List Nat) (w:World) (h:zhc w v (bytes l)) (hb:∀x∈l,x<256):
 Calls Tryz.prog 15 #[v] w (RRead w):=by
 have ba0:=zca w (.cells #[.slice none 0 0, .slice none 0 0, .slice none 0 0] 28)
 have HC0:=zH (C3.new w 28 (.slice none 0 0) (.slice none 0 0) (.slice none 0 0))
 have HN0:=zH (NilB.new w 28)
 go_enter Tryz.func15,Tryz.ntmps15
 go_upto_region 3 with(first
  |(go_at_call 41;(with_reducible refine(new_any _ l _ (zhc.below h ba0) hb).mono ?_);rintro e1 w1 ⟨bt,rfl,hbt,hT1,hbel1⟩)
  |(go_at_call 42;(with_reducible refine(chain_any bt 0 _ _ hT1).mono ?_);rintro e2 w2 ⟨v2,c,a2,rfl,hC2,hTP,hT2,hsz2,hfr2⟩
    have hb12:=hbel1.trans (hfr2 _ hbt hbel1.size)
    have HTP:=zH hTP)
  |(go_at_call 62;(with_reducible refine(copies_any bt a2 _ _ c _ hT2 hC2 hTP).mono ?_);rintro e4 w4 ⟨vd,vo,of,share,a4,rfl,hD,hOf,hCP,hT4,hKp,hsz4,hfr4⟩
    obtain⟨dr,ds,dl,rfl,k1,k2,k3⟩:=id hD
    obtain⟨ard,nrd,krd,rfl,_⟩:=id k1.sl
    obtain⟨asd,nsd,ksd,rfl,_⟩:=id k2.sl
    obtain⟨ald,nld,kld,rfl,_⟩:=id (zhc.sl k3)
    have HCP:=zH hCP
    have ba5:=zca w4 (.cells #[.slice ard nrd krd, .slice asd nsd ksd, .slice ald nld kld] 28)
    have hb14:=hb12.trans (hfr4 _ hbt hb12.size)
    have HB5:=zH (zaa hb14 ba5)
    have hC5:=C3.new w4 28 (.slice ard nrd krd) (.slice asd nsd ksd) (.slice ald nld kld)
    have HD5:=zH (hD.below ba5)
    have HO5:=zH (hOf.below ba5)
    clear hD hOf hCP k1 k2 k3 ba5 hfr4 hfr2 hKp hb14))
 have hS5:w.heap.size<w4.heap.size:=by
  have h1:=HC0.out.lt
  have h2:=hb12.size
  omega
 have HC4:=zH ((HC0.out.below HB5.out (HC0.out.lt)))
 have HN4:=zH (HN0.out.below HB5.out (HC0.out.lt))
 have HCO:=zH hC5
 have kA:w.heap.size≠w4.heap.size:=by omega
 generalize w4.alloc (.cells #[.slice ard nrd krd, .slice asd nsd ksd, .slice ald nld kld] 28)=W5 at *
 generalize w4.heap.size=S at *
 clear hT4 hC5 hT2 hT1 hC2
 have hD:=zja (B:=W5.heap.size) W5
 obtain⟨_,c0,c1,c2,_,_,_⟩:=HCO.out.belowS hD
 obtain⟨_,d0,d1,d2,d3,d4,d5⟩:=HC4.out.belowS hD
 have hof:=HCP.out.le
 go_region_held3 (fun w'=>w'.cell? ⟨S,0,none⟩=some (.slice ard nrd krd)∧w'.cell? ⟨S,1,none⟩=some (.slice asd nsd ksd)∧w'.cell? ⟨S,2,none⟩=some (.slice ald nld kld)) (first
  | with_reducible exact⟨c0,c1,c2⟩
  | with_reducible exact keep3b (by assumption) (by assumption)
  | with_reducible exact keep3s (by assumption) kA kA kA _ _ _) (first
  |(go_at_call 63;(with_reducible refine(num_any _ of _ (HO5.out.below hD) (by omega)).mono ?_);rintro e6 w6 ⟨v6,L,rfl,ho6,hl6,he6,hb6⟩
    obtain rfl:=he6 HCP.out.ok
    have HC6:=zH ((HC4.out.belowS hD).belowS hb6)
    obtain⟨_,d0,d1,d2,d3,d4,d5⟩:=HC6.out))
 go_wp2
 refine zoa rfl rfl Tryz.aggCh Tryz.sizeCh (HC6.out.set _ _ _) rfl ?_
 have hI:zgv w6 v6 L:=⟨ho6.sl,ho6.len,fun j hj=>ho6.cell j hj⟩
 have hpos:=HCP.out.pos HTP.out
 exact⟨_,_,c,L,share,rfl,((HD5.out.below hD).below hb6).nil3 (cop_rows (by omega)) ((HN4.out.below hD (HC4.out.lt)).below hb6 (HC4.out.belowS hD).lt) HC6.out _ _ _,hI.set3 HC6.out _ _ _,HTP.out,HCP.out,zga (zaa (zaa (zaa ba0 HB5.out) hD) hb6) (Nat.le_refl _) _ _ _⟩
theorem zbb.lit3 {w:World} {t:TypeId} {x0 y0 z0 x1 y1 z1 x2 y2 z2:Value} {p q r:Rat} (h0:zqa w (.agg #[x0,y0,z0]) p) (h1:zqa w (.agg #[x1,y1,z1]) q) (h2:zqa w (.agg #[x2,y2,z2]) r):
 zbb (w.alloc (.cells #[x0,y0,z0,x1,y1,z1,x2,y2,z2] t)) (.slice (some ⟨w.heap.size,0,none⟩) 3 3) [p,q,r]:=by
 have hb:=zca w (.cells #[x0,y0,z0,x1,y1,z1,x2,y2,z2] t)
 have hh:=heap_alloc_new w (.cells #[x0,y0,z0,x1,y1,z1,x2,y2,z2] t)
 have key:∀ (i:Nat) (v:Value),#[x0,y0,z0,x1,y1,z1,x2,y2,z2][i]? =some v→(w.alloc (.cells #[x0,y0,z0,x1,y1,z1,x2,y2,z2] t)).cell? (ptr (.slice (some ⟨w.heap.size,0,none⟩) 3 3) i)=some v:=fun i v hv=>by
  have hc:=cell_of_row (w.alloc (.cells #[x0,y0,z0,x1,y1,z1,x2,y2,z2] t)) w.heap.size i _ t (0,0) hh
  simp only[ptr,base,Addr.add_lit,Nat.zero_add]
  rw[hc];exact hv
 refine⟨⟨_,3,3,rfl,Nat.le_refl _,by decide,fun e=>by cases e⟩,rfl,fun j hj=> ?_⟩
 have part:∀ {x y z:Value} {s:Rat},zqa w (.agg #[x,y,z]) s→x= .bool (decide (s<0))∧zjb w y s.num.natAbs∧zjb w z s.den:=fun h=>by
  obtain⟨a,b,ha,h4,h5⟩:=h
  injection ha with ha
  injection ha with ha
  simp only[List.cons.injEq,and_true]at ha
  obtain⟨rfl,rfl,rfl⟩:=ha
  exact⟨rfl,h4,h5⟩
 obtain⟨rfl,a1,a2⟩:=part h0
 obtain⟨rfl,b1,b2⟩:=part h1
 obtain⟨rfl,c1,c2⟩:=part h2
 rcases(show j=0∨j=1∨j=2 by simp at hj;omega)with rfl | rfl | rfl
 ·exact⟨_,_,key 0 _ rfl,key 1 _ rfl,key 2 _ rfl,a1.below hb,a2.below hb⟩
 ·exact⟨_,_,key 3 _ rfl,key 4 _ rfl,key 5 _ rfl,b1.below hb,b2.below hb⟩
 ·exact⟨_,_,key 6 _ rfl,key 7 _ rfl,key 8 _ rfl,c1.below hb,c2.below hb⟩
theorem zhc.lit3 (w:World) (t:TypeId) (x y z:Value):zhc (w.alloc (.cells #[x,y,z] t)) (.slice (some ⟨w.heap.size,0,none⟩) 3 3) [x,y,z]:=by
 have hh:=heap_alloc_new w (.cells #[x,y,z] t)
 refine⟨⟨_,3,3,rfl,Nat.le_refl _,by decide,fun e=>by cases e⟩,rfl,fun j hj=> ?_⟩
 have hc:=cell_of_row (w.alloc (.cells #[x,y,z] t)) w.heap.size j _ t (0,0) hh
 simp only[ptr,base,Addr.add_lit,Nat.zero_add]
 rw[hc]
 rcases(show j=0∨j=1∨j=2 by simp at hj;omega)with rfl | rfl | rfl<;>rfl
theorem MatC.lit3 {w:World} {t:TypeId} {x y z:Value} {p q r:List Rat} (h0:zbb w x p) (h1:zbb w y q) (h2:zbb w z r):MatC (w.alloc (.cells #[x,y,z] t)) (.slice (some ⟨w.heap.size,0,none⟩) 3 3) [p,q,r]:=by
 have hb:=zca w (.cells #[x,y,z] t)
 have hc:=zhc.lit3 w t x y z
 refine⟨hc.sl,rfl,fun j hj=> ?_⟩
 rcases(show j=0∨j=1∨j=2 by simp at hj;omega)with rfl | rfl | rfl
 ·exact⟨_,hc.cell 0 (by simp),h0.below hb⟩
 ·exact⟨_,hc.cell 1 (by simp),h1.below hb⟩
 ·exact⟨_,hc.cell 2 (by simp),h2.below hb⟩
theorem cAw_lit {w:World} {tF tR tB:TypeId} {x0 y0 z0 x1 y1 z1:Value} (h0:zqa w (.agg #[x0,y0,z0]) 0) (h1:zqa w (.agg #[x1,y1,z1]) 1) (W:World)
 (hW:W=((((((w.alloc (.cells #[x0,y0,z0,x0,y0,z0,x1,y1,z1] tF)).alloc (.cells #[x0,y0,z0,x0,y0,z0,x1,y1,z1] tF)).alloc (.cells #[x0,y0,z0,x0,y0,z0,x0,y0,z0] tF)).alloc
  (.cells #[.slice (some ⟨w.heap.size,0,none⟩) 3 3, .slice (some ⟨w.heap.size+1,0,none⟩) 3 3, .slice (some ⟨w.heap.size+1+1,0,none⟩) 3 3] tR)).alloc (.cells #[x1,y1,z1,x0,y0,z0,x0,y0,z0] tF)).alloc (.cells #[.bool false, .bool false, .bool true] tB))):
 zlq W (.agg #[.slice (some ⟨w.heap.size+1+1+1,0,none⟩) 3 3, .slice (some ⟨w.heap.size+1+1+1+1,0,none⟩) 3 3, .slice (some ⟨w.heap.size+1+1+1+1+1,0,none⟩) 3 3]) cAw∧Below w.heap.size w W:=by
 subst hW
 have sz:∀ (w:World) (o:Obj),(w.alloc o).heap.size=w.heap.size+1:=fun w o=>by simp
 have ba:=fun(w:World) (o:Obj)=>zca w o
 have r0:=zbb.lit3 (t:=tF) h0 h0 h1
 have r1:=zbb.lit3 (t:=tF) (h0.below (ba w (.cells #[x0,y0,z0,x0,y0,z0,x1,y1,z1] tF))) (h0.below (ba _ _)) (h1.below (ba _ _))
 have r2:=zbb.lit3 (t:=tF) ((h0.below (ba w (.cells #[x0,y0,z0,x0,y0,z0,x1,y1,z1] tF))).below (ba _ (.cells #[x0,y0,z0,x0,y0,z0,x1,y1,z1] tF))) ((h0.below (ba _ _)).below (ba _ _)) ((h0.below (ba _ _)).below (ba _ _))
 have m:=MatC.lit3 (t:=tR) (((r0.below (ba _ (.cells #[x0,y0,z0,x0,y0,z0,x1,y1,z1] tF))).below (ba _ (.cells #[x0,y0,z0,x0,y0,z0,x0,y0,z0] tF)))) (r1.below (ba _ (.cells #[x0,y0,z0,x0,y0,z0,x0,y0,z0] tF))) r2
 have hb4:=zaa (zaa (zaa (ba w (.cells #[x0,y0,z0,x0,y0,z0,x1,y1,z1] tF)) (ba _ (.cells #[x0,y0,z0,x0,y0,z0,x1,y1,z1] tF))) (ba _ (.cells #[x0,y0,z0,x0,y0,z0,x0,y0,z0] tF)))
  (ba _ (.cells #[.slice (some ⟨w.heap.size,0,none⟩) 3 3, .slice (some ⟨w.heap.size+1,0,none⟩) 3 3, .slice (some ⟨w.heap.size+1+1,0,none⟩) 3 3] tR))
 have st:=zbb.lit3 (t:=tF) (h1.below hb4) (h0.below hb4) (h0.below hb4)
 simp only[sz]at m st
 have lo:=zhc.lit3 (((((w.alloc (.cells #[x0,y0,z0,x0,y0,z0,x1,y1,z1] tF)).alloc (.cells #[x0,y0,z0,x0,y0,z0,x1,y1,z1] tF)).alloc (.cells #[x0,y0,z0,x0,y0,z0,x0,y0,z0] tF)).alloc
  (.cells #[.slice (some ⟨w.heap.size,0,none⟩) 3 3, .slice (some ⟨w.heap.size+1,0,none⟩) 3 3, .slice (some ⟨w.heap.size+1+1,0,none⟩) 3 3] tR)).alloc (.cells #[x1,y1,z1,x0,y0,z0,x0,y0,z0] tF)) tB (.bool false) (.bool false) (.bool true)
 simp only[sz]at lo
 refine⟨⟨_,_,_,rfl,(m.below (ba _ _)).below (ba _ _),st.below (ba _ _),lo⟩,zaa (zaa hb4 (ba _ _)) (ba _ _)⟩
theorem cAw_lit' {w:World} {tF tR tB:TypeId} {x0 y0 z0 x1 y1 z1:Value} {B:Nat} (hB:w.heap.size=B) (h0:zqa w (.agg #[x0,y0,z0]) 0) (h1:zqa w (.agg #[x1,y1,z1]) 1) (W:World)
 (hW:W=((((((w.alloc (.cells #[x0,y0,z0,x0,y0,z0,x1,y1,z1] tF)).alloc (.cells #[x0,y0,z0,x0,y0,z0,x1,y1,z1] tF)).alloc (.cells #[x0,y0,z0,x0,y0,z0,x0,y0,z0] tF)).alloc
  (.cells #[.slice (some ⟨B,0,none⟩) 3 3, .slice (some ⟨B+1,0,none⟩) 3 3, .slice (some ⟨B+1+1,0,none⟩) 3 3] tR)).alloc (.cells #[x1,y1,z1,x0,y0,z0,x0,y0,z0] tF)).alloc (.cells #[.bool false, .bool false, .bool true] tB))):
 zlq W (.agg #[.slice (some ⟨B+1+1+1,0,none⟩) 3 3, .slice (some ⟨B+1+1+1+1,0,none⟩) 3 3, .slice (some ⟨B+1+1+1+1+1,0,none⟩) 3 3]) cAw∧Below w.heap.size w W∧W.heap.size=B+1+1+1+1+1+1:=by
 subst hB
 obtain⟨h2,h3⟩:=cAw_lit h0 h1 W hW
 exact⟨h2,h3,by subst hW;simp⟩
theorem ints3 (w:World) (t:TypeId) (a b c:Int):zgv (w.alloc (.cells #[.int .i64 a, .int .i64 b, .int .i64 c] t)) (.slice (some ⟨w.heap.size,0,none⟩) 3 3) [a,b,c]:=zhc.lit3 w t _ _ _
theorem zero_chain (w:World):zdq w (.agg #[.slice none 0 0, .slice none 0 0, .slice none 0 0]) ⟨[],[],[]⟩:=
 ⟨_,_,_,rfl,⟨zgc.nil,rfl,fun j h=>by simp at h⟩,zni.nil w,⟨zgc.nil,rfl,fun j h=>by simp at h⟩⟩
end Go.Proofs.YtlpdkbmmbdfoiaaGreat
