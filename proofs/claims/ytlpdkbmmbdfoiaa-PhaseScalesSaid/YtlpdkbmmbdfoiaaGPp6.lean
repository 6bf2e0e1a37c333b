/-
  The laws of a tape are valid and small; one of two times ends first. No program is walked here.
-/
import Derived.Test.YtlpdkbmmbdfoiaaGNa6
import Derived.Test.YtlpdkbmmbdfoiaaGTl1
import Derived.Test.YtlpdkbmmbdfoiaaGTp1
import Derived.Test.YtlpdkbmmbdfoiaaGPp4
import Derived.Test.YtlpdkbmmbdfoiaaGMu1
set_option linter.unusedVariables false
set_option linter.unusedSimpArgs false
namespace Go.Proofs.Ytlpdkbmmbdfoiaa
open Go.RowKit
def LzB (w:World) (b:Nat):Prop:=∀p x,p.block=b→w.cell? p=some x→x= .string { data:=#[] }∨x= .slice none 0 0
theorem LzB.new (w:World) (t:TypeId):LzB (w.alloc (.cells #[.string { data:=#[] }, .slice none 0 0, .slice none 0 0, .slice none 0 0] t)) w.heap.size:=by
 intro p x hp hx
 have hb:(w.alloc (.cells #[.string { data:=#[] }, .slice none 0 0, .slice none 0 0, .slice none 0 0] t)).heap[p.block]? =some (.cells #[.string { data:=#[] }, .slice none 0 0, .slice none 0 0, .slice none 0 0] t (0,0)):=by
  rw[hp];show(w.heap.push _)[w.heap.size]? =_;simp
 simp only[World.cell?,hb]at hx
 rcases Nat.lt_or_ge p.off 4 with h | h
 ·have :p.off=0∨p.off=1∨p.off=2∨p.off=3:=by omega
  rcases this with h | h | h | h<;>(rw[h]at hx;simp at hx)
  ·exact Or.inl hx.2.symm
  all_goals exact Or.inr hx.2.symm
 ·rw[Array.getElem?_eq_none (by simpa using h)]at hx;simp at hx
theorem LzB.below {w w':World} {B b:Nat} (h:LzB w b) (hb:Below B w w') (hB:b<B):LzB w' b:=fun p x hp hx=>h p x hp (by rw[←hb.cell (by omega)];exact hx)
theorem LzB.other {w:World} {b:Nat} (h:LzB w b) {p:Addr} (hp:p.block≠b) (u:Value):LzB (w.setCell p u) b:=fun q x hq hx=>h q x hq (by rw[World.cell?_setCell_other _ _ _ _ (fun e=>hp (by rw[e];exact hq))]at hx;exact hx)
theorem C4.otherS {w:World} {b:Nat} {v0 v1 v2 v3:Value} (h:C4 w b v0 v1 v2 v3) {b':Nat} (hne:b'≠b) (x y z u:Value):C4 ((((w.setCell ⟨b',0,none⟩ x).setCell ⟨b',1,none⟩ y).setCell ⟨b',2,none⟩ z).setCell ⟨b',3,none⟩ u) b v0 v1 v2 v3:=by
 obtain⟨lt,c0,c1,c2,c3,f0,f1,f2,f3⟩:=h
 have k:∀ (i j:Nat),(⟨b',i,none⟩:Addr)≠⟨b,j,none⟩:=fun i j e=>hne (by injection e)
 refine⟨by simpa [World.setCell]using lt,?_,?_,?_,?_,?_,?_,?_,?_⟩
 ·rw[World.cell?_setCell_other _ _ _ _ (k _ _),World.cell?_setCell_other _ _ _ _ (k _ _),World.cell?_setCell_other _ _ _ _ (k _ _),World.cell?_setCell_other _ _ _ _ (k _ _)];exact c0
 ·rw[World.cell?_setCell_other _ _ _ _ (k _ _),World.cell?_setCell_other _ _ _ _ (k _ _),World.cell?_setCell_other _ _ _ _ (k _ _),World.cell?_setCell_other _ _ _ _ (k _ _)];exact c1
 ·rw[World.cell?_setCell_other _ _ _ _ (k _ _),World.cell?_setCell_other _ _ _ _ (k _ _),World.cell?_setCell_other _ _ _ _ (k _ _),World.cell?_setCell_other _ _ _ _ (k _ _)];exact c2
 ·rw[World.cell?_setCell_other _ _ _ _ (k _ _),World.cell?_setCell_other _ _ _ _ (k _ _),World.cell?_setCell_other _ _ _ _ (k _ _),World.cell?_setCell_other _ _ _ _ (k _ _)];exact c3
 ·simpa [go_sem]using f0
 ·simpa [go_sem]using f1
 ·simpa [go_sem]using f2
 ·simpa [go_sem]using f3
theorem cell_z4 {w:World} {b:Nat} (hC:C4 w b (.string { data:=#[] }) (.slice none 0 0) (.slice none 0 0) (.slice none 0 0)) {q:Addr} {v:Value} (hq:w.cell? q=some v) (h1:v≠ .string { data:=#[] }) (h2:v≠ .slice none 0 0) (x y z u:Value):((((w.setCell ⟨b,0,none⟩ x).setCell ⟨b,1,none⟩ y).setCell ⟨b,2,none⟩ z).setCell ⟨b,3,none⟩ u).cell? q=some v:=by
 obtain⟨_,c0,c1,c2,c3,_,_,_,_⟩:=hC
 have n0:(⟨b,0,none⟩:Addr)≠q:=fun e=>by rw[e,hq]at c0;injection c0 with c0;exact h1 c0
 have n1:(⟨b,1,none⟩:Addr)≠q:=fun e=>by rw[e,hq]at c1;injection c1 with c1;exact h2 c1
 have n2:(⟨b,2,none⟩:Addr)≠q:=fun e=>by rw[e,hq]at c2;injection c2 with c2;exact h2 c2
 have n3:(⟨b,3,none⟩:Addr)≠q:=fun e=>by rw[e,hq]at c3;injection c3 with c3;exact h2 c3
 rw[World.cell?_setCell_other _ _ _ _ n3,World.cell?_setCell_other _ _ _ _ n2,World.cell?_setCell_other _ _ _ _ n1,World.cell?_setCell_other _ _ _ _ n0]
 exact hq
theorem nat_z4 {w:World} {b:Nat} (hC:C4 w b (.string { data:=#[] }) (.slice none 0 0) (.slice none 0 0) (.slice none 0 0)) {v:Value} {n:Nat} (h:zjb w v n) (x y z u:Value):zjb ((((w.setCell ⟨b,0,none⟩ x).setCell ⟨b,1,none⟩ y).setCell ⟨b,2,none⟩ z).setCell ⟨b,3,none⟩ u) v n:=by
 obtain⟨_,c0,c1,c2,c3,_,_,_,_⟩:=hC
 refine⟨(((h.v.over c0 (fun z=>by simp) x).over (x:= .slice none 0 0) ?_ (fun z=>by simp) y).over (x:= .slice none 0 0) ?_ (fun z=>by simp) z).over (x:= .slice none 0 0) ?_ (fun z=>by simp) u,h.2⟩
 ·rw[World.cell?_setCell_other _ _ _ _ (by simp)];exact c1
 ·rw[World.cell?_setCell_other _ _ _ _ (by simp),World.cell?_setCell_other _ _ _ _ (by simp)];exact c2
 ·rw[World.cell?_setCell_other _ _ _ _ (by simp),World.cell?_setCell_other _ _ _ _ (by simp),World.cell?_setCell_other _ _ _ _ (by simp)];exact c3
theorem zoq {w:World} {v:Value} {q:List Rat} {b:Nat} (h:zbb w v q) (hn:LzB w b) (hC:C4 w b (.string { data:=#[] }) (.slice none 0 0) (.slice none 0 0) (.slice none 0 0)) (x y z u:Value):zbb ((((w.setCell ⟨b,0,none⟩ x).setCell ⟨b,1,none⟩ y).setCell ⟨b,2,none⟩ z).setCell ⟨b,3,none⟩ u) v q:=by
 by_cases h0:0<q.length
 ·have hne:∀k i,(⟨b,i,none⟩:Addr)≠ptr v k:=fun k i e=>by
   obtain⟨a1,a2,h1,_⟩:=h.at' 0 h0
   have e2:b=(ptr v k).block:=congrArg Addr.block e
   rcases hn _ _ (by rw[zsa,e2,zsa]) h1 with e3 | e3<;>cases e3
  have key:∀k s,w.cell? (ptr v k)=some s→((((w.setCell ⟨b,0,none⟩ x).setCell ⟨b,1,none⟩ y).setCell ⟨b,2,none⟩ z).setCell ⟨b,3,none⟩ u).cell? (ptr v k)=some s:=fun k s hs=>by
   rw[World.cell?_setCell_other _ _ _ _ (hne _ _),World.cell?_setCell_other _ _ _ _ (hne _ _),World.cell?_setCell_other _ _ _ _ (hne _ _),World.cell?_setCell_other _ _ _ _ (hne _ _)]
   exact hs
  refine⟨h.sl,h.len,fun j hj=> ?_⟩
  obtain⟨a1,a2,h1,h2,h3,h4,h5⟩:=h.at' j hj
  exact⟨a1,a2,key _ _ h1,key _ _ h2,key _ _ h3,nat_z4 hC h4 _ _ _ _,nat_z4 hC h5 _ _ _ _⟩
 ·exact⟨h.sl,h.len,fun j hj=>by omega⟩
theorem law_z4 {w:World} {v:Value} {l:LQ} {b:Nat} (h:zgm w v l) (hp:zxb l) (hn:LzB w b) (hC:C4 w b (.string { data:=#[] }) (.slice none 0 0) (.slice none 0 0) (.slice none 0 0)) (x y z u:Value):zgm ((((w.setCell ⟨b,0,none⟩ x).setCell ⟨b,1,none⟩ y).setCell ⟨b,2,none⟩ z).setCell ⟨b,3,none⟩ u) v l:=by
 obtain⟨s,r,e,rfl,h1,h2,h3⟩:=h
 refine⟨s,r,e,rfl,zoq h1 hn hC _ _ _ _,⟨h2.sl,h2.len,fun j hj=> ?_⟩,zoq h3 hn hC _ _ _ _⟩
 obtain⟨v,e1,e2⟩:=h2.at' j hj
 have hl:=e2.len
 have h0:=(hp.row j hj).1
 have h9:=hp.n1
 exact⟨v,cell_z4 hC e1 (fun e=>by have h7:=e2.sl;rw[e]at h7;obtain⟨_,_,_,h7,_⟩:=h7;cases h7) (fun e=>by rw[e]at hl;have h8:0=(l.rates[j]).length:=hl;omega) _ _ _ _,zoq e2 hn hC _ _ _ _⟩
def ZBk (W X:World) (b:Nat):Prop:=W.heap.size≤b∧C4 X b (.string { data:=#[] }) (.slice none 0 0) (.slice none 0 0) (.slice none 0 0)∧LzB X b
theorem ZBk.below {W X Y:World} {b:Nat} (h:ZBk W X b) (hb:Below X.heap.size X Y):ZBk W Y b:=⟨h.1,h.2.1.belowS hb,h.2.2.below hb h.2.1.lt⟩
structure ScI (l:Array Bool) (W X:World) (va vb vk:Value) (c d:LQ) (u12 u13 u41 u42 u43 u44 u45 u46:Value):Prop where
 n8:¬zaq l 8
 n9:¬zaq l 9
 bel:Below W.heap.size W X
 p0:zaq l 0→u41=va
 p1:zaq l 1→u42=vk
 p2:zaq l 2→zgm X u43 c
 p3:zaq l 3→u44=vb
 p4:zaq l 4→u45=vk
 p5:zaq l 5→zgm X u46 d
 p6:zaq l 6→∃b,u12= .pointer (some ⟨b,0,none⟩)∧ZBk W X b
 p7:zaq l 7→∃b,u13= .pointer (some ⟨b,0,none⟩)∧ZBk W X b
 ne:zaq l 6→zaq l 7→u12≠u13
section
variable {l:Array Bool} {W X Y:World} {va vb vk:Value} {c d:LQ} {u12 u13 u41 u42 u43 u44 u45 u46:Value}
theorem ScI.below (g:ScI l W X va vb vk c d u12 u13 u41 u42 u43 u44 u45 u46) (hb:Below X.heap.size X Y):ScI l W Y va vb vk c d u12 u13 u41 u42 u43 u44 u45 u46:=
 ⟨g.n8,g.n9,zaa g.bel hb,g.p0,g.p1,fun h=>(g.p2 h).below hb,g.p3,g.p4,fun h=>(g.p5 h).below hb,fun h=>by obtain⟨b,e,z⟩:=g.p6 h;exact⟨b,e,z.below hb⟩,fun h=>by obtain⟨b,e,z⟩:=g.p7 h;exact⟨b,e,z.below hb⟩,g.ne⟩
theorem ScI.s0 (g:ScI l W X va vb vk c d u12 u13 u41 u42 u43 u44 u45 u46):ScI (l.setIfInBounds 0 true) W X va vb vk c d u12 u13 va u42 u43 u44 u45 u46:=by
 exact⟨fun hd=>g.n8 ((zaq.set hd).resolve_left (by decide)),fun hd=>g.n9 ((zaq.set hd).resolve_left (by decide)),g.bel,fun _=>rfl,fun hd=>g.p1 ((zaq.set hd).resolve_left (by decide)),fun hd=>g.p2 ((zaq.set hd).resolve_left (by decide)),fun hd=>g.p3 ((zaq.set hd).resolve_left (by decide)),fun hd=>g.p4 ((zaq.set hd).resolve_left (by decide)),fun hd=>g.p5 ((zaq.set hd).resolve_left (by decide)),fun hd=>g.p6 ((zaq.set hd).resolve_left (by decide)),fun hd=>g.p7 ((zaq.set hd).resolve_left (by decide)),fun h6 h7=>g.ne ((zaq.set h6).resolve_left (by decide)) ((zaq.set h7).resolve_left (by decide))⟩
theorem ScI.s1 (g:ScI l W X va vb vk c d u12 u13 u41 u42 u43 u44 u45 u46):ScI (l.setIfInBounds 1 true) W X va vb vk c d u12 u13 u41 vk u43 u44 u45 u46:=by
 exact⟨fun hd=>g.n8 ((zaq.set hd).resolve_left (by decide)),fun hd=>g.n9 ((zaq.set hd).resolve_left (by decide)),g.bel,fun hd=>g.p0 ((zaq.set hd).resolve_left (by decide)),fun _=>rfl,fun hd=>g.p2 ((zaq.set hd).resolve_left (by decide)),fun hd=>g.p3 ((zaq.set hd).resolve_left (by decide)),fun hd=>g.p4 ((zaq.set hd).resolve_left (by decide)),fun hd=>g.p5 ((zaq.set hd).resolve_left (by decide)),fun hd=>g.p6 ((zaq.set hd).resolve_left (by decide)),fun hd=>g.p7 ((zaq.set hd).resolve_left (by decide)),fun h6 h7=>g.ne ((zaq.set h6).resolve_left (by decide)) ((zaq.set h7).resolve_left (by decide))⟩
theorem ScI.s2 (g:ScI l W X va vb vk c d u12 u13 u41 u42 u43 u44 u45 u46) (hb:Below X.heap.size X Y) {v:Value} (hv:zgm Y v c):ScI (l.setIfInBounds 2 true) W Y va vb vk c d u12 u13 u41 u42 v u44 u45 u46:=by
 have g:=g.below hb
 exact⟨fun hd=>g.n8 ((zaq.set hd).resolve_left (by decide)),fun hd=>g.n9 ((zaq.set hd).resolve_left (by decide)),g.bel,fun hd=>g.p0 ((zaq.set hd).resolve_left (by decide)),fun hd=>g.p1 ((zaq.set hd).resolve_left (by decide)),fun _=>hv,fun hd=>g.p3 ((zaq.set hd).resolve_left (by decide)),fun hd=>g.p4 ((zaq.set hd).resolve_left (by decide)),fun hd=>g.p5 ((zaq.set hd).resolve_left (by decide)),fun hd=>g.p6 ((zaq.set hd).resolve_left (by decide)),fun hd=>g.p7 ((zaq.set hd).resolve_left (by decide)),fun h6 h7=>g.ne ((zaq.set h6).resolve_left (by decide)) ((zaq.set h7).resolve_left (by decide))⟩
theorem ScI.s3 (g:ScI l W X va vb vk c d u12 u13 u41 u42 u43 u44 u45 u46):ScI (l.setIfInBounds 3 true) W X va vb vk c d u12 u13 u41 u42 u43 vb u45 u46:=by
 exact⟨fun hd=>g.n8 ((zaq.set hd).resolve_left (by decide)),fun hd=>g.n9 ((zaq.set hd).resolve_left (by decide)),g.bel,fun hd=>g.p0 ((zaq.set hd).resolve_left (by decide)),fun hd=>g.p1 ((zaq.set hd).resolve_left (by decide)),fun hd=>g.p2 ((zaq.set hd).resolve_left (by decide)),fun _=>rfl,fun hd=>g.p4 ((zaq.set hd).resolve_left (by decide)),fun hd=>g.p5 ((zaq.set hd).resolve_left (by decide)),fun hd=>g.p6 ((zaq.set hd).resolve_left (by decide)),fun hd=>g.p7 ((zaq.set hd).resolve_left (by decide)),fun h6 h7=>g.ne ((zaq.set h6).resolve_left (by decide)) ((zaq.set h7).resolve_left (by decide))⟩
theorem ScI.s4 (g:ScI l W X va vb vk c d u12 u13 u41 u42 u43 u44 u45 u46):ScI (l.setIfInBounds 4 true) W X va vb vk c d u12 u13 u41 u42 u43 u44 vk u46:=by
 exact⟨fun hd=>g.n8 ((zaq.set hd).resolve_left (by decide)),fun hd=>g.n9 ((zaq.set hd).resolve_left (by decide)),g.bel,fun hd=>g.p0 ((zaq.set hd).resolve_left (by decide)),fun hd=>g.p1 ((zaq.set hd).resolve_left (by decide)),fun hd=>g.p2 ((zaq.set hd).resolve_left (by decide)),fun hd=>g.p3 ((zaq.set hd).resolve_left (by decide)),fun _=>rfl,fun hd=>g.p5 ((zaq.set hd).resolve_left (by decide)),fun hd=>g.p6 ((zaq.set hd).resolve_left (by decide)),fun hd=>g.p7 ((zaq.set hd).resolve_left (by decide)),fun h6 h7=>g.ne ((zaq.set h6).resolve_left (by decide)) ((zaq.set h7).resolve_left (by decide))⟩
theorem ScI.s5 (g:ScI l W X va vb vk c d u12 u13 u41 u42 u43 u44 u45 u46) (hb:Below X.heap.size X Y) {v:Value} (hv:zgm Y v d):ScI (l.setIfInBounds 5 true) W Y va vb vk c d u12 u13 u41 u42 u43 u44 u45 v:=by
 have g:=g.below hb
 exact⟨fun hd=>g.n8 ((zaq.set hd).resolve_left (by decide)),fun hd=>g.n9 ((zaq.set hd).resolve_left (by decide)),g.bel,fun hd=>g.p0 ((zaq.set hd).resolve_left (by decide)),fun hd=>g.p1 ((zaq.set hd).resolve_left (by decide)),fun hd=>g.p2 ((zaq.set hd).resolve_left (by decide)),fun hd=>g.p3 ((zaq.set hd).resolve_left (by decide)),fun hd=>g.p4 ((zaq.set hd).resolve_left (by decide)),fun _=>hv,fun hd=>g.p6 ((zaq.set hd).resolve_left (by decide)),fun hd=>g.p7 ((zaq.set hd).resolve_left (by decide)),fun h6 h7=>g.ne ((zaq.set h6).resolve_left (by decide)) ((zaq.set h7).resolve_left (by decide))⟩
theorem ScI.s6 (g:ScI l W X va vb vk c d u12 u13 u41 u42 u43 u44 u45 u46) (t:TypeId):ScI (l.setIfInBounds 6 true) W (X.alloc (.cells #[.string { data:=#[] }, .slice none 0 0, .slice none 0 0, .slice none 0 0] t)) va vb vk c d (.pointer (some ⟨X.heap.size,0,none⟩)) u13 u41 u42 u43 u44 u45 u46:=by
 have g0:=g
 have g:=g.below (zca X (.cells #[.string { data:=#[] }, .slice none 0 0, .slice none 0 0, .slice none 0 0] t))
 exact⟨fun hd=>g.n8 ((zaq.set hd).resolve_left (by decide)),fun hd=>g.n9 ((zaq.set hd).resolve_left (by decide)),g.bel,fun hd=>g.p0 ((zaq.set hd).resolve_left (by decide)),fun hd=>g.p1 ((zaq.set hd).resolve_left (by decide)),fun hd=>g.p2 ((zaq.set hd).resolve_left (by decide)),fun hd=>g.p3 ((zaq.set hd).resolve_left (by decide)),fun hd=>g.p4 ((zaq.set hd).resolve_left (by decide)),fun hd=>g.p5 ((zaq.set hd).resolve_left (by decide)),fun _=>⟨_,rfl,g0.bel.size,C4.new _ _ _ _ _ _,LzB.new _ _⟩,fun hd=>g.p7 ((zaq.set hd).resolve_left (by decide)),fun _ hd e=>by
  obtain⟨b,e2,z⟩:=g0.p7 ((zaq.set hd).resolve_left (by decide))
  have hlt:=z.2.1.lt
  rw[e2]at e
  injection e with e;injection e with e;injection e with e;omega⟩
theorem ScI.s7 (g:ScI l W X va vb vk c d u12 u13 u41 u42 u43 u44 u45 u46) (t:TypeId):ScI (l.setIfInBounds 7 true) W (X.alloc (.cells #[.string { data:=#[] }, .slice none 0 0, .slice none 0 0, .slice none 0 0] t)) va vb vk c d u12 (.pointer (some ⟨X.heap.size,0,none⟩)) u41 u42 u43 u44 u45 u46:=by
 have g0:=g
 have g:=g.below (zca X (.cells #[.string { data:=#[] }, .slice none 0 0, .slice none 0 0, .slice none 0 0] t))
 exact⟨fun hd=>g.n8 ((zaq.set hd).resolve_left (by decide)),fun hd=>g.n9 ((zaq.set hd).resolve_left (by decide)),g.bel,fun hd=>g.p0 ((zaq.set hd).resolve_left (by decide)),fun hd=>g.p1 ((zaq.set hd).resolve_left (by decide)),fun hd=>g.p2 ((zaq.set hd).resolve_left (by decide)),fun hd=>g.p3 ((zaq.set hd).resolve_left (by decide)),fun hd=>g.p4 ((zaq.set hd).resolve_left (by decide)),fun hd=>g.p5 ((zaq.set hd).resolve_left (by decide)),fun hd=>g.p6 ((zaq.set hd).resolve_left (by decide)),fun _=>⟨_,rfl,g0.bel.size,C4.new _ _ _ _ _ _,LzB.new _ _⟩,fun hd _ e=>by
  obtain⟨b,e2,z⟩:=g0.p6 ((zaq.set hd).resolve_left (by decide))
  have hlt:=z.2.1.lt
  rw[e2]at e
  injection e with e;injection e with e;injection e with e;omega⟩
def ScB (W X:World) (c d:LQ) (u12 u13 u46:Value):Prop:=Below W.heap.size W X∧∃ (b12 b13:Nat) (f0 f1 f2 f3:Value),u12= .pointer (some ⟨b12,0,none⟩)∧u13= .pointer (some ⟨b13,0,none⟩)∧b12≠b13∧W.heap.size≤b12∧ZBk W X b13∧C4 X b12 f0 f1 f2 f3∧zgm X (.agg #[f0,f1,f2,f3]) c∧zgm X u46 d
def ScC (W X:World) (c d:LQ) (u12 u13:Value):Prop:=Below W.heap.size W X∧∃ (b12 b13:Nat) (f0 f1 f2 f3 g0 g1 g2 g3:Value),u12= .pointer (some ⟨b12,0,none⟩)∧u13= .pointer (some ⟨b13,0,none⟩)∧C4 X b12 f0 f1 f2 f3∧C4 X b13 g0 g1 g2 g3∧zgm X (.agg #[f0,f1,f2,f3]) c∧zgm X (.agg #[g0,g1,g2,g3]) d
theorem ScI.s8 (g:ScI l W X va vb vk c d u12 u13 u41 u42 u43 u44 u45 u46) (h2:zaq l 2) (h5:zaq l 5) (h6:zaq l 6) (h7:zaq l 7) (hpc:zxb c) (hpd:zxb d) {b:Nat} {s r e:Value} (hu:u12= .pointer (some ⟨b,0,none⟩)) (hv:u43= .agg #[.string { data:=#[] },s,r,e]):ScB W ((((X.setCell ⟨b,0,none⟩ (.string { data:=#[] })).setCell ⟨b,1,none⟩ s).setCell ⟨b,2,none⟩ r).setCell ⟨b,3,none⟩ e) c d u12 u13 u46:=by
 obtain⟨b',e1,z1,z2,z3⟩:=g.p6 h6
 rw[hu]at e1
 injection e1 with e1;injection e1 with e1;injection e1 with e1
 subst e1
 obtain⟨b13,e3,y1,y2,y3⟩:=g.p7 h7
 have hne:b≠b13:=fun e=>g.ne h6 h7 (by rw[hu,e3,e])
 have hl:=g.p2 h2
 rw[hv]at hl
 exact⟨zqd g.bel z1 _ _ _ _,b,b13,_,_,_,_,hu,e3,hne,z1,⟨y1,y2.otherS hne _ _ _ _,(((y3.other hne _).other hne _).other hne _).other hne _⟩,z2.set _ _ _ _,law_z4 hl hpc z3 z2 _ _ _ _,law_z4 (g.p5 h5) hpd z3 z2 _ _ _ _⟩
theorem ScB.s9 (g:ScB W X c d u12 u13 u46) (hpc:zxb c) (hpd:zxb d) {b:Nat} {s r e:Value} (hu:u13= .pointer (some ⟨b,0,none⟩)) (hv:u46= .agg #[.string { data:=#[] },s,r,e]):ScC W ((((X.setCell ⟨b,0,none⟩ (.string { data:=#[] })).setCell ⟨b,1,none⟩ s).setCell ⟨b,2,none⟩ r).setCell ⟨b,3,none⟩ e) c d u12 u13:=by
 obtain⟨hB,b12,b13,f0,f1,f2,f3,e1,e2,hne,hle,⟨y1,y2,y3⟩,hc,hl,hm⟩:=g
 rw[hu]at e2
 injection e2 with e2;injection e2 with e2;injection e2 with e2
 subst e2
 rw[hv]at hm
 exact⟨zqd hB y1 _ _ _ _,b12,b,_,_,_,_,_,_,_,_,e1,hu,hc.otherS (fun e=>hne e.symm) _ _ _ _,y2.set _ _ _ _,law_z4 hl hpc y3 y2 _ _ _ _,law_z4 hm hpd y3 y2 _ _ _ _⟩
end
end Go.Proofs.Ytlpdkbmmbdfoiaa
namespace Go.Proofs.Ytlpdkbmmbdfoiaa
theorem zcn (m n:Nat) (f:Nat→Rat):sg (m*n) f=sg m fun i=>sg n fun j=>f (i*n+j):=by
 induction m with
 | zero=>rw[Nat.zero_mul];rfl
 | succ m ih=>
   rw[Nat.succ_mul,zbn,ih]
   rfl
section
variable (a b:LQ)
def bfr :Mx:=fun r c=>if c=r then 0 else if c%b.start.length=r%b.start.length then rtQ a (r/b.start.length) (c/b.start.length)else if c/b.start.length=r/b.start.length then rtQ b (r%b.start.length) (c%b.start.length)else 0
def bfo (r:Nat):Rat:=zxf a (r/b.start.length)+zxf b (r%b.start.length)
end
section
variable {a b:LQ}
theorem zjj (hb:zxb b) {r:Nat} (hr:r<bfN a b):r/b.start.length<a.start.length∧r%b.start.length<b.start.length:=
 ⟨Nat.div_lt_of_lt_mul (by rw[Nat.mul_comm];exact hr),Nat.mod_lt _ (by have:=hb.n1;omega)⟩
theorem bfA_mm (ha:zxb a) (hb:zxb b) {r c:Nat} (hr:r<bfN a b) (hc:c<bfN a b):bfA a b r c=mmA (bfr a b) (bfo a b) r c:=by
 obtain⟨c1,c2⟩:=zjj hb hc
 unfold bfA bf2 mmA bfr bfo
 rw[at_eq]
 by_cases h:c=r
 ·rw[if_pos h,if_pos h.symm]
 ·have h':¬r=c:=fun e=>h e.symm
  simp only[if_neg h,if_neg h']
  by_cases h1:c%b.start.length=r%b.start.length
  ·simp only[if_pos h1];grind
  ·simp only[if_neg h1]
   by_cases h2:c/b.start.length=r/b.start.length
   ·simp only[if_pos h2,if_pos (And.intro h2 c2)];grind
   ·simp only[if_neg h2,if_neg (fun e:c/b.start.length=r/b.start.length∧c%b.start.length<b.start.length=>h2 e.1)];grind
theorem zyn (r:Nat):bfr a b r r=0:=by unfold bfr;rw[if_pos rfl]
theorem bfr_nn (ha:zxb a) (hb:zxb b) {r c:Nat} (hr:r<bfN a b) (hc:c<bfN a b):0≤bfr a b r c:=by
 obtain⟨c1,c2⟩:=zjj hb hc
 obtain⟨r1,r2⟩:=zjj hb hr
 unfold bfr
 split
 ·exact Rat.le_refl
 ·split
  ·exact(ha.rt_lim r1 c1).1
  ·split
   ·exact(hb.rt_lim r2 c2).1
   ·exact Rat.le_refl
theorem bfr_row (ha:zxb a) (hb:zxb b) {i j:Nat} (hi:i<a.start.length) (hj:j<b.start.length) (x:Nat→Rat):
 sg (bfN a b) (fun c=>bfr a b (i*b.start.length+j) c*x c)=sg a.start.length (fun k=>rtQ a i k*x (k*b.start.length+j))+sg b.start.length fun k=>rtQ b j k*x (i*b.start.length+k):=by
 unfold bfN
 rw[zcn]
 have e:∀k,k<a.start.length→(sg b.start.length fun t=>bfr a b (i*b.start.length+j) (k*b.start.length+t)*x (k*b.start.length+t))=
  rtQ a i k*x (k*b.start.length+j)+if i=k then sg b.start.length (fun t=>rtQ b j t*x (i*b.start.length+t))else 0:=fun k hk=>by
  have e1:(sg b.start.length fun t=>bfr a b (i*b.start.length+j) (k*b.start.length+t)*x (k*b.start.length+t))=
   sg b.start.length fun t=>(if j=t then rtQ a i k*x (k*b.start.length+t)else 0)+(if i=k then rtQ b j t*x (i*b.start.length+t)else 0):=zma fun t ht=>by
   unfold bfr
   rw[zbe ht,zyf ht,zbe hj,zyf hj]
   by_cases h1:i=k
   ·subst h1
    by_cases h2:j=t
    ·subst h2
     rw[if_pos rfl,if_pos rfl,if_pos rfl,ha.rt_diag hi,hb.rt_diag hj];grind
    ·have h3:¬i*b.start.length+t=i*b.start.length+j:=fun e=>h2 (by omega)
     rw[if_neg h3,if_neg (fun e=>h2 e.symm),if_pos rfl,if_neg h2,if_pos rfl];grind
   ·have h3:¬k*b.start.length+t=i*b.start.length+j:=fun e=>by
     have h4:=congrArg (· /b.start.length) e
     simp only[zbe ht,zbe hj]at h4
     exact h1 h4.symm
    by_cases h2:j=t
    ·subst h2
     rw[if_neg h3,if_pos rfl,if_pos rfl,if_neg h1];grind
    ·rw[if_neg h3,if_neg (fun e=>h2 e.symm),if_neg (fun e=>h1 e.symm),if_neg h2,if_neg h1];grind
  rw[e1,zvd,zfd (f:=fun t=>rtQ a i k*x (k*b.start.length+t)) hj]
  by_cases h1:i=k
  ·simp only[if_pos h1]
  ·simp only[if_neg h1];rw[zsi]
 rw[zma e,zvd,zfd (f:=fun _=>sg b.start.length (fun t=>rtQ b j t*x (i*b.start.length+t))) hi]
theorem bfr_sum (ha:zxb a) (hb:zxb b) {r:Nat} (hr:r<bfN a b):sg (bfN a b) (bfr a b r)=sg a.start.length (rtQ a (r/b.start.length))+sg b.start.length (rtQ b (r%b.start.length)):=by
 obtain⟨r1,r2⟩:=zjj hb hr
 have h:=bfr_row ha hb r1 r2 (fun _=>1)
 rw[at_eq]at h
 have e:∀ (n:Nat) (f:Nat→Rat),sg n (fun c=>f c*1)=sg n f:=fun n f=>zma fun i _=>Rat.mul_one _
 rw[e,e,e]at h
 exact h
theorem bfr_le (ha:zxb a) (hb:zxb b) {r:Nat} (hr:r<bfN a b):sg (bfN a b) (bfr a b r)≤bfo a b r:=by
 obtain⟨r1,r2⟩:=zjj hb hr
 rw[bfr_sum ha hb hr]
 unfold bfo
 have h1:=ha.le_out r1
 have h2:=hb.le_out r2
 grind
theorem bf_esc (ha:zxb a) (hb:zxb b):∀k i,i<a.start.length→esc a.start.length (rtQ a) (zxf a) k i→∀j,j<b.start.length→esc (bfN a b) (bfr a b) (bfo a b) k (i*b.start.length+j)
 | 0,i,hi,h,j,hj=>by
   have h1:sg a.start.length (rtQ a i)<zxf a i:=h
   show sg _ _<_
   rw[bfr_sum ha hb (zao hi hj)]
   unfold bfo
   rw[zbe hj,zyf hj]
   have h2:=hb.le_out hj
   grind
 | k+1,i,hi,h,j,hj=>by
   rcases h with h | ⟨t,ht,hr,h⟩
   ·exact Or.inl (bf_esc ha hb k i hi h j hj)
   ·refine Or.inr ⟨t*b.start.length+j,zao ht hj,?_,bf_esc ha hb k t ht h j hj⟩
    unfold bfr
    rw[zbe hj,zyf hj,zbe hj,zyf hj]
    have h3:¬t*b.start.length+j=i*b.start.length+j:=fun e=>by
     have h4:=congrArg (· /b.start.length) e
     simp only[zbe hj]at h4
     subst h4
     rw[ha.rt_diag hi]at hr
     exact absurd hr (by decide+kernel)
    rw[if_neg h3,if_pos rfl]
    exact hr
theorem bf_escP (ha:zxb a) (hb:zxb b):∀r,r<bfN a b→∃k,esc (bfN a b) (bfr a b) (bfo a b) k r:=fun r hr=>by
 obtain⟨r1,r2⟩:=zjj hb hr
 obtain⟨k,hk⟩:=ha.escP _ r1
 have h:=bf_esc ha hb k _ r1 hk _ r2
 rw[at_eq]at h
 exact⟨k,h⟩
theorem bf_reg (ha:zxb a) (hb:zxb b):dt (bfN a b) (bfA a b)≠0:=by
 rw[zcd fun i j hi hj=>bfA_mm ha hb hi hj]
 exact mm_dt (fun i hi=>zyn i) (fun i j hi hj=>bfr_nn ha hb hi hj) (fun i hi=>bfr_le ha hb hi) (bf_escP ha hb)
theorem bf_eq (ha:zxb a) (hb:zxb b):∀r,r<bfN a b→sg (bfN a b) (fun c=>bfA a b r c*zyg a b c)=bfR a b r:=
 sol_eq (zff (B:=fun i _=>bfR a b i) (bf_reg ha hb))
theorem zwl (ha:zxb a) (hb:zxb b) {x y:Nat→Rat} (hy:∀r,r<bfN a b→0≤y r) (hx:∀r,r<bfN a b→sg (bfN a b) (fun c=>bfA a b r c*x c)=y r):∀r,r<bfN a b→0≤x r:=
 mm_nonneg (fun i hi=>zyn i) (fun i j hi hj=>bfr_nn ha hb hi hj) (fun i hi=>bfr_le ha hb hi) (bf_escP ha hb) hy (fun r hr=>by
  rw[←hx r hr]
  exact zma fun c hc=>by rw[bfA_mm ha hb hr hc])
variable {D B:Nat}
theorem bf_sms (ha:zxb a) (hb:zxb b) (hsa:SmL D B a) (hsb:SmL D B b) (hD:D≠0) (hD1:D≤6720) (hB:D≤10*B) (hB1:10*B≤1814400) (hN:bfN a b≤4):SmS (bfN a b) D (10*B) (bfA a b) where
 n1:=Nat.mul_pos (by have:=ha.n1;omega) (by have:=hb.n1;omega)
 n4:=hN
 d0:=hD
 d1:=hD1
 b0:=hB
 b1:=hB1
 a:=fun r c hr hc=>by
  obtain⟨c1,c2⟩:=zjj hb hc
  obtain⟨r1,r2⟩:=zjj hb hr
  unfold bfA bf2
  split
  ·exact(over.add hD (hsa.out ha hD r1) (hsb.out hb hD r2)).mono (by omega)
  ·split
   ·exact(over.sub hD (over.zero D 0) (hsa.r _ _ r1 c1)).mono (by omega)
   ·split
    ·exact(over.sub hD (over.zero D 0) (hsb.r _ _ r2 c2)).mono (by omega)
    ·exact over.zero _ _
 reg:=bf_reg ha hb
theorem zyp (ha:zxb a) (hb:zxb b) (hsa:SmL D B a) (hsb:SmL D B b) (hD:D≠0) (hD1:D≤6720) (hB:D≤10*B) (hB1:10*B≤1814400) (hN:bfN a b≤4) {DS:Nat} (hDS:DS≠0) (hDS2:DS≤2^13) (hst:∀r,r<bfN a b→over DS (2^13) (bfS a b r)):BefP a b:=by
 have hS:=bf_sms ha hb hsa hsb hD hD1 hB hB1 hN
 have hr:∀r,r<bfN a b→over D B (bfR a b r):=fun r hr=>hsa.e _ (zjj hb hr).1
 have hB2:B<2^21:=Nat.lt_of_le_of_lt (show B≤1814400 by omega) (by decide)
 have hB0:1≤B:=by omega
 have hD2:D<2^13:=Nat.lt_of_le_of_lt hD1 (by decide)
 obtain⟨E,e1,e2,e3⟩:=hS.sol hD hr (bf_eq ha hb)
 refine⟨hS.sys hD (Nat.lt_trans hD2 (by decide+kernel)) hB0 (Nat.lt_trans hB2 (by decide+kernel)) hr (bf_eq ha hb),?_⟩
 refine zik (by omega) (by omega) (by decide) hDS hDS2 hst (Nat.mul_ne_zero e1 hD) ?_ ?_ e3
 ·exact Nat.lt_of_lt_of_le (Nat.mul_lt_mul'' e2 hD2) (by decide+kernel)
 ·exact Nat.lt_of_lt_of_le (Nat.mul_lt_mul_of_pos_left hB2 (by decide+kernel)) (by decide+kernel)
end
theorem tf_nums :∀x,x<6→∀y,y<8→fq false (x+1) (y+1)=mkRat (((x+1)*(840/(y+1)):Nat):Int) 840∧(x+1)*(840/(y+1))≤5040∧0<fq false (x+1) (y+1)∧zua (fq false (x+1) (y+1)).num.natAbs≤32∧zua (fq false (x+1) (y+1)).den≤32:=by decide+kernel
theorem tfQ.over {q:Rat} (h:tfQ q):over 840 5040 q:=by
 obtain⟨x,y,hx,hy,rfl⟩:=h
 obtain⟨h1,h2,_⟩:=tf_nums x hx y hy
 exact⟨_,h1,by rw[Int.natAbs_natCast];exact h2⟩
theorem tfQ.pos {q:Rat} (h:tfQ q):0<q:=by
 obtain⟨x,y,hx,hy,rfl⟩:=h
 exact(tf_nums x hx y hy).2.2.1
theorem tfQ.lim {q:Rat} (h:tfQ q):zvg q:=by
 obtain⟨x,y,hx,hy,rfl⟩:=h
 obtain⟨_,_,h1,h2,h3⟩:=tf_nums x hx y hy
 exact⟨Rat.le_of_lt h1,h2,h3⟩
theorem st_nums :∀k,k<9→0≤fq false k 8∧zua (fq false k 8).num.natAbs≤32∧zua (fq false k 8).den≤32:=by decide+kernel
theorem st_over {k:Nat} (h:k<9):over 8 8 (fq false k 8):=⟨(k:Int),by unfold fq sgn;simp,by simp;omega⟩
theorem fq_add8 (a b:Nat):fq false a 8+fq false b 8=fq false (a+b) 8:=by
 unfold fq sgn
 simp only[Bool.false_eq_true,if_false]
 rw[Rat.mkRat_add_mkRat _ _ (by decide) (by decide),Rat.mkRat_eq_iff (by decide) (by decide)]
 push_cast
 grind
theorem lsum_st :∀ks:List Nat,zgg (ks.map fun k=>fq false k 8)=fq false ks.sum 8
 | []=>by decide+kernel
 | k::ks=>by rw[List.map_cons,zxp,lsum_st ks,fq_add8,List.sum_cons,Nat.add_comm]
theorem mem_sum :∀ {ks:List Nat} {k:Nat},k∈ks→k≤ks.sum
 | a::ks,k,h=>by
   rw[List.sum_cons]
   rcases List.mem_cons.1 h with rfl | h
   ·omega
   ·have:=mem_sum h;omega
section
variable {n left:Nat} {S E:List Rat} {R:List (List Rat)}
theorem LT.st_mem (h:LT n n 0 S E R) {q:Rat} (hq:q∈S):∃k,k<9∧q=fq false k 8:=by
 obtain⟨ks,rfl,e2⟩:=h.st
 obtain⟨k,hk,rfl⟩:=List.mem_map.1 hq
 exact⟨k,by have:=mem_sum hk;omega,rfl⟩
theorem LT.ex_get (h:LT n n 0 S E R) {j:Nat} (hj:j<n):(tfQ (E.getD j 0)∨(E.getD j 0=0∧j+1<n)):=by
 have hj':j<E.length:=by rw[h.el];exact hj
 rw[List.getD_eq_getElem?_getD,List.getElem?_eq_getElem hj']
 exact h.ex j hj'
theorem LT.rt_get (h:LT n n 0 S E R) {i j:Nat} (hi:i<n) (hj:j<n):(j=i+1→tfQ ((R.getD i []).getD j 0))∧(j=i→(R.getD i []).getD j 0=0)∧(tfQ ((R.getD i []).getD j 0)∨(R.getD i []).getD j 0=0):=by
 have hi':i<R.length:=by rw[h.rl];exact hi
 have e1:R.getD i []=R[i]:=by rw[List.getD_eq_getElem?_getD,List.getElem?_eq_getElem hi'];rfl
 obtain⟨h1,h2⟩:=h.rt i hi'
 have hj':j<R[i].length:=by rw[h1];exact hj
 have e2:R[i].getD j 0=R[i][j]:=by rw[List.getD_eq_getElem?_getD,List.getElem?_eq_getElem hj'];rfl
 rw[e1,e2]
 exact h2 j hj'
end
section
variable {n:Nat} {l:LQ}
theorem LT.law (h:LT n n 0 l.start l.exit l.rates) (hn:1≤n) (hn4:n≤4):zxb l where
 n1:=by rw[h.sl];exact hn
 n4:=by rw[h.sl];exact hn4
 el:=by rw[h.sl,h.el]
 rl:=by rw[h.sl,h.rl]
 st:=fun q hq=>by obtain⟨k,hk,rfl⟩:=h.st_mem hq;exact st_nums k hk
 ex:=fun q hq=>by
  obtain⟨j,hj,rfl⟩:=List.mem_iff_getElem.1 hq
  rcases h.ex j hj with h1 | h1
  ·exact h1.lim
  ·rw[h1.1];exact zfi
 row:=fun i hi=>by
  obtain⟨h1,h2⟩:=h.rt i hi
  refine⟨by rw[h.sl];exact h1,fun q hq=> ?_,?_⟩
  ·obtain⟨j,hj,rfl⟩:=List.mem_iff_getElem.1 hq
   rcases(h2 j hj).2.2 with h3 | h3
   ·exact h3.lim
   ·rw[h3];exact zfi
  ·have hi2:i<l.rates[i].length:=by rw[h1,←h.rl];exact hi
   rw[List.getD_eq_getElem?_getD,List.getElem?_eq_getElem hi2]
   exact(h2 i hi2).2.1 rfl
 sum:=by
  obtain⟨ks,e1,e2⟩:=h.st
  rw[e1,lsum_st,show ks.sum=8 by omega]
  decide+kernel
 ends:=⟨fun i=>n-1-i,fun i hi=>by
  rw[h.sl]at hi ⊢
  refine⟨show n-1-i≤n by omega,?_⟩
  rcases h.ex_get hi with h1 | ⟨h1,h2⟩
  ·exact Or.inl h1.pos
  ·exact Or.inr ⟨i+1,h2,((h.rt_get hi h2).1 rfl).pos,show n-1- (i+1)<n-1-i by omega⟩⟩
theorem LT.sm (h:LT n n 0 l.start l.exit l.rates):SmL 840 5040 l where
 r:=fun i j hi hj=>by
  rw[h.sl]at hi hj
  rcases(h.rt_get hi hj).2.2 with h3 | h3
  ·exact h3.over
  ·unfold rtQ;rw[h3];exact over.zero _ _
 e:=fun i hi=>by
  rw[h.sl]at hi
  rcases h.ex_get hi with h1 | ⟨h1,h2⟩
  ·exact h1.over
  ·unfold exQ;rw[h1];exact over.zero _ _
theorem LT.start8 (h:LT n n 0 l.start l.exit l.rates) {i:Nat} (hi:i<l.start.length):over 8 8 (stQ l i):=by
 obtain⟨k,hk,e⟩:=h.st_mem (zii hi)
 unfold stQ
 rw[e]
 exact st_over hk
end
section
variable {a b:LQ}
theorem zch.law {m:Nat} (h:zch m a) (hm:m≤4):zxb a:=by obtain⟨n,h1,h2,h3⟩:=h;exact h3.law h1 (Nat.le_trans h2 hm)
theorem zch.len {m:Nat} (h:zch m a):a.start.length≤m:=by obtain⟨n,h1,h2,h3⟩:=h;rw[h3.sl];exact h2
theorem zch.sm {m:Nat} (h:zch m a):SmL 840 5040 a:=by obtain⟨n,h1,h2,h3⟩:=h;exact h3.sm
theorem zch.start8 {m:Nat} (h:zch m a) {i:Nat} (hi:i<a.start.length):over 8 8 (stQ a i):=by obtain⟨n,h1,h2,h3⟩:=h;exact h3.start8 hi
theorem zxh (ha:zch 2 a) (hb:zch 2 b):BefP a b:=by
 have pa:=ha.law (by decide)
 have pb:=hb.law (by decide)
 have hN:bfN a b≤4:=Nat.mul_le_mul ha.len hb.len
 refine zyp pa pb ha.sm hb.sm (by decide) (by decide) (by decide) (by decide) hN (DS:=64) (by decide) (by decide) fun r hr=> ?_
 obtain⟨r1,r2⟩:=zjj pb hr
 exact(over.mul (ha.start8 r1) (hb.start8 r2)).mono (by decide)
theorem befQ_sg (a b:LQ):befQ a b=sg (bfN a b) fun c=>bfS a b c*zyg a b c:=by
 unfold befQ zvn
 have e1:fq false 1 1=1:=by decide+kernel
 rw[e1,Rat.mul_one,Rat.zero_add]
 refine zma fun t ht=> ?_
 have g:∀f:Nat→Rat,(zib (bfN a b) f).getD t 0=f t:=fun f=>by rw[List.getD_eq_getElem?_getD,List.getElem?_eq_getElem (by rw[zea];exact ht),Option.getD_some,ztb]
 rw[g,g]
theorem bef_fits (h:BefP a b):fits (befQ a b):=by
 have h1:=h.sca.fr
 rw[zea]at h1
 exact h1
end
end Go.Proofs.Ytlpdkbmmbdfoiaa
