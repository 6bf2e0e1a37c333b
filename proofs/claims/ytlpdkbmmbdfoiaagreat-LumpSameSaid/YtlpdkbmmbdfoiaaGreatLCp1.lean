/-
  package drydockmake: Tape.Copies, the first half's state. No code is walked here.
-/
import Derived.Test.YtlpdkbmmbdfoiaaGreatLHp8
import Derived.Test.YtlpdkbmmbdfoiaaGreatLMath17
import Derived.Test.YtlpdkbmmbdfoiaaGreatLLu10
import Derived.Test.YtlpdkbmmbdfoiaaGreatLRb5
import Derived.Test.YtlpdkbmmbdfoiaaGreatLTa5
set_option linter.unusedVariables false
set_option linter.unusedSimpArgs false
namespace Go.Proofs.YtlpdkbmmbdfoiaaGreat
open Go.RowKit
theorem bsum_snoc {of:List Int} {share:List Rat} (hl:share.length=of.length) (b:Int) (x:Rat) (i:Int):bsum (of++ [b]) (share++ [x]) i=if b=i then bsum of share i+x else bsum of share i:=by
 have h1:of.length<(of++ [b]).length:=by simp
 have h2:of.length<(share++ [x]).length:=by simp[hl]
 have:=zjx (of++ [b]) (share++ [x]) i of.length h1 h2
 rw[List.take_of_length_le (by simp),List.take_of_length_le (by simp[hl]),List.take_append_of_le_length (Nat.le_refl _),List.take_length,List.take_append_of_le_length (by omega),List.take_of_length_le (by omega)]at this
 rw[this]
 have e1:(of++ [b])[of.length]=b:=by simp
 have e2:(share++ [x])[of.length]'h2=x:=by simp[←hl]
 rw[e1,e2]
structure CopJ (i j:Nat) (part:Rat) (of:List Int) (share:List Rat):Prop where
 len:share.length=of.length
 le:of.length≤2*i+j
 ok:okB of
 num:cnt of=if j=0 then i else i+1
 sm:∀q∈share,zeq q
 one:∀i':Nat,i'<i→bsum of share (i':Int)=1
 part:bsum of share (i:Int)=part
theorem CopJ.zero :CopJ 0 0 0 [] []:=⟨rfl,by simp,fun k b h=>by simp at h,rfl,fun q h=>by simp at h,fun i h=>by omega,by simp[bsum,zxz,zgg]⟩
theorem CopJ.step {i j:Nat} {p x:Rat} {of:List Int} {share:List Rat} (h:CopJ i j p of share) (hx:zeq x):CopJ i (j+1) (p+x) (of++ [(i:Int)]) (share++ [x]):=by
 obtain⟨len,le,ok,num,sm,one,part⟩:=h
 have hle:(i:Int)≤(cnt of:Int):=by rw[num];split<;>omega
 refine⟨by simp[len],by simp;omega,zrx ok (by omega) hle,?_,fun q hq=> ?_,fun i' hi'=> ?_,?_⟩
 ·rw[zly,num]
  by_cases hj:j=0
  ·simp[hj]
  ·rw[if_neg hj,if_neg (by omega),if_neg (by omega)]
 ·rcases List.mem_append.1 hq with h | h
  ·exact sm q h
  ·simp at h;subst h;exact hx
 ·rw[bsum_snoc len,if_neg (by omega)];exact one i' hi'
 ·rw[bsum_snoc len,if_pos rfl,part]
theorem CopJ.next {i j:Nat} {of:List Int} {share:List Rat} (h:CopJ i j 1 of share) (hj:0<j) (hj2:j≤2):CopJ (i+1) 0 0 of share:=by
 obtain⟨len,le,ok,num,sm,one,part⟩:=h
 refine⟨len,by omega,ok,by rw[num,if_neg (by omega),if_pos rfl],sm,fun i' hi'=> ?_,?_⟩
 ·rcases Nat.lt_or_ge i' i with h | h
  ·exact one i' h
  ·obtain rfl:i'=i:=by omega
   exact part
 ·have hnone:zxz of share ((i+1:Nat):Int)= []:=by
   unfold zxz
   have :(of.zip share).filter (fun p=>decide (p.1=((i+1:Nat):Int)))= []:=by
    rw[List.filter_eq_nil_iff]
    intro p hp
    have hm:=(List.of_mem_zip hp).1
    obtain⟨k,hk,e⟩:=List.getElem_of_mem hm
    have:=ok.lt (List.getElem?_eq_getElem hk)
    rw[num,if_neg (by omega)]at this
    simp only[decide_eq_true_eq]
    intro e2
    rw[e,e2]at this
    omega
   rw[this];rfl
  unfold bsum
  rw[hnone];rfl
theorem CopJ.done {n:Nat} {of:List Int} {share:List Rat} (h:CopJ n 0 0 of share) (hn:n≤5):zgz n of share:=
 ⟨h.len,by have:=h.le;omega,h.ok,by have:=h.num;simpa using this,h.sm,h.one⟩
theorem quarter_one (k:Nat) (hk:k≤4):(0:Rat)+fq false k 4+fq false (4-k) 4=1:=by
 rw[Rat.zero_add,zlz,show k+(4-k)=4 by omega]
 decide
theorem part_step {j nn x3:Nat} {q:Rat} (hj:j<nn) (h2:nn≤2) (hx:x3<3) (hq:if nn=1 then q=1 else if j=0 then q=fq false (1+x3) 4 else q=fq false (4- (1+x3)) 4):
 (if j=0 then 0 else if nn=1 then 1 else if j=1 then 0+fq false (1+x3) 4 else 1)+q=(if j+1=0 then 0 else if nn=1 then 1 else if j+1=1 then 0+fq false (1+x3) 4 else 1):=by
 rw[if_neg (show ¬j+1=0 by omega)]
 by_cases h1:nn=1
 ·rw[if_pos h1]at hq
  have hj0:j=0:=by omega
  rw[if_pos hj0,if_pos h1,hq,Rat.zero_add]
 ·rw[if_neg h1]at hq
  by_cases hj0:j=0
  ·rw[if_pos hj0]at hq
   rw[if_pos hj0,if_neg h1,if_pos (by omega),hq]
  ·rw[if_neg hj0]at hq
   rw[if_neg hj0,if_neg h1,if_pos (by omega),if_neg h1,if_neg (by omega),hq]
   exact quarter_one (1+x3) (by omega)
theorem C3.grown {w w':World} {b:Nat} {v0 v1 v2:Value} {row:Option Nat} (h:C3 w b v0 v1 v2) (hg:w.grownBy w' row) (hne:row≠some b):C3 w' b v0 v1 v2:=by
 obtain⟨lt,c0,c1,c2,f0,f1,f2⟩:=h
 have hb:=hg.block b lt (fun e=>hne e.symm)
 have hc:∀k,w'.cell? ⟨b,k,none⟩=w.cell? ⟨b,k,none⟩:=fun k=>by simp only[World.cell?,hb]
 have hf:∀k,w'.frozen? ⟨b,k,none⟩=w.frozen? ⟨b,k,none⟩:=fun k=>by simp only[World.frozen?,hb]
 exact⟨Nat.lt_of_lt_of_le lt hg.size,by rw[hc];exact c0,by rw[hc];exact c1,by rw[hc];exact c2,by rw[hf];exact f0,by rw[hf];exact f1,by rw[hf];exact f2⟩
theorem zkz {w:World} {b:Nat} {x y z:Value} (h0:w.cell? ⟨b,0,none⟩=some x) (h1:w.cell? ⟨b,1,none⟩=some y) (h2:w.cell? ⟨b,2,none⟩=some z):∀j u,[x,y,z][j]? =some u→w.cell? ⟨b,j,none⟩=some u:=fun j u hu=>by
 have hj:=(List.getElem?_eq_some_iff.1 hu).1
 rcases(show j=0∨j=1∨j=2 by simp at hj;omega)with rfl | rfl | rfl
 ·simp at hu;subst hu;exact h0
 ·simp at hu;subst hu;exact h1
 ·simp at hu;subst hu;exact h2
theorem keep8 {w0 X Y:World} {a1 a2 a3 a4 a5 a6 a7 a8:Addr} {x1 x2 x3 x4 x5 x6 x7 x8:Value}
 (h:X.cell? a1=some x1∧X.cell? a2=some x2∧X.cell? a3=some x3∧X.cell? a4=some x4∧X.cell? a5=some x5∧X.cell? a6=some x6∧X.cell? a7=some x7∧X.cell? a8=some x8∧Below w0.heap.size w0 X) (hb:Below X.heap.size X Y):
 Y.cell? a1=some x1∧Y.cell? a2=some x2∧Y.cell? a3=some x3∧Y.cell? a4=some x4∧Y.cell? a5=some x5∧Y.cell? a6=some x6∧Y.cell? a7=some x7∧Y.cell? a8=some x8∧Below w0.heap.size w0 Y:=by
 obtain⟨k1,k2,k3,k4,k5,k6,k7,k8,k9⟩:=h
 exact⟨zba hb k1,zba hb k2,zba hb k3,zba hb k4,zba hb k5,zba hb k6,zba hb k7,zba hb k8,zaa k9 hb⟩
theorem keep8b {w0 X:World} {a1 a2 a3 a4 a5 a6 a7 a8:Addr} {x1 x2 x3 x4 x5 x6 x7 x8:Value}
 (h:X.cell? a1=some x1∧X.cell? a2=some x2∧X.cell? a3=some x3∧X.cell? a4=some x4∧X.cell? a5=some x5∧X.cell? a6=some x6∧X.cell? a7=some x7∧X.cell? a8=some x8∧Below w0.heap.size w0 X):Below w0.heap.size w0 X:=h.2.2.2.2.2.2.2.2
theorem keep8s {w0 X:World} {a1 a2 a3 a4 a5 a6 a7 a8:Addr} {x1 x2 x3 x4 x5 x6 x7 x8:Value} (h0:w0.cell? a1=some x1∧w0.cell? a2=some x2∧w0.cell? a3=some x3∧w0.cell? a4=some x4∧w0.cell? a5=some x5∧w0.cell? a6=some x6∧w0.cell? a7=some x7∧w0.cell? a8=some x8)
 (h:Below w0.heap.size w0 X) {b:Nat} (hb:w0.heap.size≤b) (x y z:Value):
 (((X.setCell ⟨b,0,none⟩ x).setCell ⟨b,1,none⟩ y).setCell ⟨b,2,none⟩ z).cell? a1=some x1∧(((X.setCell ⟨b,0,none⟩ x).setCell ⟨b,1,none⟩ y).setCell ⟨b,2,none⟩ z).cell? a2=some x2∧(((X.setCell ⟨b,0,none⟩ x).setCell ⟨b,1,none⟩ y).setCell ⟨b,2,none⟩ z).cell? a3=some x3∧
 (((X.setCell ⟨b,0,none⟩ x).setCell ⟨b,1,none⟩ y).setCell ⟨b,2,none⟩ z).cell? a4=some x4∧(((X.setCell ⟨b,0,none⟩ x).setCell ⟨b,1,none⟩ y).setCell ⟨b,2,none⟩ z).cell? a5=some x5∧(((X.setCell ⟨b,0,none⟩ x).setCell ⟨b,1,none⟩ y).setCell ⟨b,2,none⟩ z).cell? a6=some x6∧
 (((X.setCell ⟨b,0,none⟩ x).setCell ⟨b,1,none⟩ y).setCell ⟨b,2,none⟩ z).cell? a7=some x7∧(((X.setCell ⟨b,0,none⟩ x).setCell ⟨b,1,none⟩ y).setCell ⟨b,2,none⟩ z).cell? a8=some x8∧Below w0.heap.size w0 (((X.setCell ⟨b,0,none⟩ x).setCell ⟨b,1,none⟩ y).setCell ⟨b,2,none⟩ z):=by
 have hs:=zga h hb x y z
 obtain⟨k1,k2,k3,k4,k5,k6,k7,k8⟩:=h0
 exact⟨zba hs k1,zba hs k2,zba hs k3,zba hs k4,zba hs k5,zba hs k6,zba hs k7,zba hs k8,hs⟩
theorem keep8a {w0 X:World} {a1 a2 a3 a4 a5 a6 a7 a8:Addr} {x1 x2 x3 x4 x5 x6 x7 x8:Value} (h0:w0.cell? a1=some x1∧w0.cell? a2=some x2∧w0.cell? a3=some x3∧w0.cell? a4=some x4∧w0.cell? a5=some x5∧w0.cell? a6=some x6∧w0.cell? a7=some x7∧w0.cell? a8=some x8)
 (h:Below w0.heap.size w0 X):X.cell? a1=some x1∧X.cell? a2=some x2∧X.cell? a3=some x3∧X.cell? a4=some x4∧X.cell? a5=some x5∧X.cell? a6=some x6∧X.cell? a7=some x7∧X.cell? a8=some x8∧Below w0.heap.size w0 X:=by
 obtain⟨k1,k2,k3,k4,k5,k6,k7,k8⟩:=h0
 exact⟨zba h k1,zba h k2,zba h k3,zba h k4,zba h k5,zba h k6,zba h k7,zba h k8,h⟩
theorem keep10a {w0 X:World} {a1 a2 a3 a4 a5 a6 a7 a8 a9 a10:Addr} {x1 x2 x3 x4 x5 x6 x7 x8 x9 x10:Value} (h0:w0.cell? a1=some x1∧w0.cell? a2=some x2∧w0.cell? a3=some x3∧w0.cell? a4=some x4∧w0.cell? a5=some x5∧w0.cell? a6=some x6∧w0.cell? a7=some x7∧w0.cell? a8=some x8∧w0.cell? a9=some x9∧w0.cell? a10=some x10) (h:Below w0.heap.size w0 X):
 X.cell? a1=some x1∧X.cell? a2=some x2∧X.cell? a3=some x3∧X.cell? a4=some x4∧X.cell? a5=some x5∧X.cell? a6=some x6∧X.cell? a7=some x7∧X.cell? a8=some x8∧X.cell? a9=some x9∧X.cell? a10=some x10∧Below w0.heap.size w0 X:=by
 obtain⟨k1,k2,k3,k4,k5,k6,k7,k8,k9,k10⟩:=h0
 exact⟨zba h k1,zba h k2,zba h k3,zba h k4,zba h k5,zba h k6,zba h k7,zba h k8,zba h k9,zba h k10,h⟩
theorem keep10b {w0 X:World} {a1 a2 a3 a4 a5 a6 a7 a8 a9 a10:Addr} {x1 x2 x3 x4 x5 x6 x7 x8 x9 x10:Value} (h:X.cell? a1=some x1∧X.cell? a2=some x2∧X.cell? a3=some x3∧X.cell? a4=some x4∧X.cell? a5=some x5∧X.cell? a6=some x6∧X.cell? a7=some x7∧X.cell? a8=some x8∧X.cell? a9=some x9∧X.cell? a10=some x10∧Below w0.heap.size w0 X):Below w0.heap.size w0 X:=h.2.2.2.2.2.2.2.2.2.2
theorem mul_fits {p q:Rat} (hp:zeq p) (hq:zeq q):fits (p*q):=(hp.mul hq).fits
theorem zgv.set1 {w:World} {v:Value} {l:List Int} (h:zgv w v l) {p:Addr} (hc:w.cell? p=some (.slice none 0 0)) (u:Value):zgv (w.setCell p u) v l:=
 ⟨zhc.sl h,zhc.len h,fun j hj=>by
  have h1:=zhc.cell h j hj
  rw[World.cell?_setCell_other]
  ·exact h1
  ·intro e
   rw[←e,hc]at h1
   injection h1 with h1
   rw[List.getElem_map]at h1
   cases h1⟩
theorem zgv.set3 {w:World} {v:Value} {l:List Int} (h:zgv w v l) {b:Nat} (hC:C3 w b (.slice none 0 0) (.slice none 0 0) (.slice none 0 0)) (x y z:Value):zgv (((w.setCell ⟨b,0,none⟩ x).setCell ⟨b,1,none⟩ y).setCell ⟨b,2,none⟩ z) v l:=by
 obtain⟨_,c0,c1,c2,_,_,_⟩:=hC
 exact((h.set1 c0 x).set1 (p:=⟨b,1,none⟩) (by rw[World.cell?_setCell_other _ _ _ _ (by simp)];exact c1) y).set1 (p:=⟨b,2,none⟩) (by rw[World.cell?_setCell_other _ _ _ _ (by simp),World.cell?_setCell_other _ _ _ _ (by simp)];exact c2) z
def Kp (w w':World):Prop:=∀p x,w.cell? p=some x→(∀z,x≠ .int .i64 z)→w'.cell? p=some x
theorem Kp.trans {a b c:World} (h:Kp a b) (k:Kp b c):Kp a c:=fun p x hp hx=>k p x (h p x hp hx) hx
theorem Kp.below {w w':World} (h:Below w.heap.size w w'):Kp w w':=fun p x hp _=>zba h hp
theorem Kp.tick {w w':World} {b a:Nat} {l:List Nat} (ht:znb w b l a) (h:zyl b w w'):Kp w w':=fun p x hp hx=>h.cell ht.c1 hp hx
theorem Kp.low {w0 w w':World} {B:Nat} (h:Kp w0 w) (hb:Below B w w') (hB:w0.heap.size≤B):Kp w0 w':=fun p x hp hx=>by
 have h1:=h p x hp hx
 have h2:=World.block_lt_of_cell? w0 _ hp
 rw[hb.cell (by omega)];exact h1
theorem zjb.kp {w w':World} {v:Value} {n:Nat} (h:zjb w v n) (k:Kp w w'):zjb w' v n:=⟨⟨h.v.sl,h.v.len,fun j hj=>k _ _ (h.v.cell j hj) (fun z=>by simp),h.v.lm⟩,h.2⟩
theorem zbb.kp {w w':World} {v:Value} {q:List Rat} (h:zbb w v q) (k:Kp w w'):zbb w' v q:=
 ⟨h.sl,h.len,fun j hj=>by
  obtain⟨a,b,h1,h2,h3,h4,h5⟩:=h.at' j hj
  obtain⟨a1,l1,k1,rfl,_⟩:=h4.v.sl
  obtain⟨a2,l2,k2,rfl,_⟩:=h5.v.sl
  exact⟨_,_,k _ _ h1 (fun z=>by simp),k _ _ h2 (fun z=>by simp),k _ _ h3 (fun z=>by simp),h4.kp k,h5.kp k⟩⟩
theorem zlq.kp {w w':World} {v:Value} {c:CQ} (h:zlq w v c) (k:Kp w w'):zlq w' v c:=by
 obtain⟨r,s,l,rfl,h1,h2,h3⟩:=h
 refine⟨r,s,l,rfl,⟨h1.sl,h1.len,fun j hj=> ?_⟩,h2.kp k,⟨zhc.sl h3,zhc.len h3,fun j hj=>k _ _ (zhc.cell h3 j hj) (fun z=>by simp)⟩⟩
 obtain⟨x,e1,e2⟩:=h1.at' j hj
 obtain⟨a1,l1,k1,rfl,_⟩:=e2.sl
 exact⟨_,k _ _ e1 (fun z=>by simp),e2.kp k⟩
structure CpW (w0:World) (w:World) (bt:Nat) (l:List Nat) (B:Nat) (vo vh:Value) (of:List Int) (share:List Rat):Prop where
 tape:∃a,zvf w bt l B a
 ofr:zlc w 3 B 1 vo (of.map (Value.int .i64)).length (of.map (Value.int .i64))
 shr:zya w 38 B vh share
 fm:Fr w0 bt w
 kp:Kp w0 w
 sz:B≤w.heap.size
 nums:bt<B∧w0.heap.size<B
section
variable {w0 w w':World} {bt B:Nat} {l:List Nat} {vo vh:Value} {of:List Int} {share:List Rat}
theorem CpW.below (h:CpW w0 w bt l B vo vh of share) (hb:Below w.heap.size w w'):CpW w0 w' bt l B vo vh of share:=by
 obtain⟨⟨a,ht⟩,o,s,fm,kp,sz,nums⟩:=h
 exact⟨⟨a,ht.below hb⟩,o.below hb,s.moves (zhb.below hb) (Nat.le_refl _),fm.below hb,kp.trans (Kp.below hb),Nat.le_trans sz hb.size,nums⟩
theorem CpW.tick (h:CpW w0 w bt l B vo vh of share) {a':Nat} (ht:zyl bt w w') (hta:znb w' bt l a'):CpW w0 w' bt l B vo vh of share:=by
 obtain⟨⟨a,h0⟩,o,s,fm,kp,sz,n1,n2⟩:=h
 have hm:zhb B w w':=zhb.tick h0.1 n1 ht
 exact⟨⟨a',h0.tick ht hta⟩,o.moves hm (Nat.le_refl _),s.moves hm (Nat.le_refl _),fm.tick h0.1 ht,kp.trans (Kp.tick h0.1 ht),Nat.le_trans sz ht.size,n1,n2⟩
theorem CpW.growO (h:CpW w0 w bt l B vo vh of share) {vo':Value} {of':List Int} (ho:zlc w' 3 B 1 vo' (of'.map (Value.int .i64)).length (of'.map (Value.int .i64))) (hg:w.grownBy w' vo.ownBlock):CpW w0 w' bt l B vo' vh of' share:=by
 obtain⟨⟨a,ht⟩,o,s,fm,kp,sz,n1,n2⟩:=h
 have hb:Below B w w':=zna hg sz (fun k hk=>(o.block k hk).1)
 obtain⟨xs,s1,s2⟩:=id s
 exact⟨⟨a,ht.low hb n1⟩,ho,s.grown hg o.nl (s1.kinds o (by decide)),fm.low hb n2,kp.low hb (by omega),Nat.le_trans sz hb.size,n1,n2⟩
theorem CpW.growS (h:CpW w0 w bt l B vo vh of share) {vh':Value} {share':List Rat} (hs:zya w' 38 B vh' share') (hg:w.grownBy w' vh.ownBlock):CpW w0 w' bt l B vo vh' of share':=by
 obtain⟨⟨a,ht⟩,o,s,fm,kp,sz,n1,n2⟩:=h
 have hb:Below B w w':=zna hg sz (fun k hk=>(s.block k hk).1)
 obtain⟨xs,s1,s2⟩:=id s
 exact⟨⟨a,ht.low hb n1⟩,o.grown hg (o.kinds s1 (by decide)),hs,fm.low hb n2,kp.low hb (by omega),Nat.le_trans sz hb.size,n1,n2⟩
theorem CpW.set (h:CpW w0 w bt l B vo vh of share) {p:Addr} {x:Value} (hp:B≤p.block) (ho:vo.ownBlock=none∨vo.ownBlock≠some p.block) (hh:vh.ownBlock=none∨vh.ownBlock≠some p.block) (hc:w.cell? p=some x) (hx:∀z,x≠ .int .u32 z) (hx8:∀z,x≠ .int .u8 z) (u:Value):
 CpW w0 (w.setCell p u) bt l B vo vh of share:=by
 obtain⟨⟨a,ht⟩,o,s,fm,kp,sz,n1,n2⟩:=h
 refine⟨⟨a,ht.set (by omega) hc hx8 u⟩,o.over ho u,s.over hh hc hx u,fm.set p (by omega) u,fun q y hq hy=> ?_,by simpa [World.setCell]using sz,n1,n2⟩
 have h2:=World.block_lt_of_cell? w0 _ hq
 rw[World.cell?_setCell_other _ _ _ _ (fun e=>by rw[e]at hp;omega)]
 exact kp q y hq hy
theorem CpW.set3 (h:CpW w0 w bt l B vo vh of share) {b:Nat} {t0:Bool} {x0 y0:Value} (hC:C3 w b (.bool t0) x0 y0) (sx:zgc x0) (sy:zgc y0) (hb:B≤b) (ho:vo.ownBlock=none∨vo.ownBlock≠some b) (hh:vh.ownBlock=none∨vh.ownBlock≠some b) (u0 u1 u2:Value):
 CpW w0 (((w.setCell ⟨b,0,none⟩ u0).setCell ⟨b,1,none⟩ u1).setCell ⟨b,2,none⟩ u2) bt l B vo vh of share:=by
 obtain⟨_,c0,c1,c2,_,_,_⟩:=hC
 have h1:=h.set (p:=⟨b,0,none⟩) hb ho hh c0 (fun z=>by simp) (fun z=>by simp) u0
 have h2:=h1.set (p:=⟨b,1,none⟩) hb ho hh (by rw[World.cell?_setCell_other _ _ _ _ (by simp)];exact c1) sx.noLimb sx.noByte u1
 exact h2.set (p:=⟨b,2,none⟩) hb ho hh (by rw[World.cell?_setCell_other _ _ _ _ (by simp),World.cell?_setCell_other _ _ _ _ (by simp)];exact c2) sy.noLimb sy.noByte u2
theorem CpW.ints (h:CpW w0 w bt l B vo vh of share):zgv w vo of:=⟨h.ofr.sl,h.ofr.len,fun j hj=>h.ofr.cell j hj⟩
end
theorem zey {P:Program} {ops:Array Oper} {o:Oper} {a:Act} {w:World} {K:Act→World→Prop} {Q:Exit→Act→World→Prop} {E:Prop} (hgd:o.guard=none) (s x:Operand) (t:TypeId)
 (ho:o.op= .call { callee:= .builtin .append,args:=#[s,x],argTypes:=#[t,t] })
 (B:Nat) (e:TypeId) (i:TypeInfo) (z:Value) (size bytes:Nat) (ht:P.underlying t=some (.slice e)) (hi:P.info? e=some i) (hz:i.zero=some z)
 (hsize:i.size=size) (hby:i.bytes=bytes) (hzs:z.cells.size=size) (hsz:0<size) (hnz:∀c∈z.cells.toList,∀z,c≠ .int .u32 z)
 (v:Value) (n:Nat) (xs:List Value) (hs:a.eval s=v) (hown:zlc w e B size v n xs) (news:List Value) (hns:news.length=size) (ad:Addr) (hxe:a.eval x= .slice (some ad) 1 1)
 (hnews:∀j u,news[j]? =some u→w.cell? (ad.add j)=some u) (h1:∀u∈news,u.oneCell'=true) (hnn:∀c∈news,∀z,c≠ .int .u32 z)
 (h63:n+1≤maxLen) (hbytes:(n+1)*bytes≤140737488355328) (hbase:B≤w.heap.size)
 (h:∀v' w',zlc w' e B size v' (n+1) (xs++news)→w.grownBy w' v.ownBlock→K (a.put o.dst v') w'):
 if Region.wanted o (yielded ops a.tmps)=true then Oper.wp P o a w K Q else E:=by
 rw[if_pos (by simp[Region.wanted,hgd])]
 obtain⟨v',w',hr,h2,h3,h4,h5⟩:=zwd (P:=P) w B t o.type e i z size bytes ht hi hz hsize hby hzs hsz v n xs hown.own ad 1 1 news (by simp[hns]) hnews h1 h63 hbytes hbase hown.nl hnn hnz
 unfold Oper.wp execOp
 simp only[ho,resolve,invoke,builtin,Sem.run_bind,Sem.run_pure,Result.andThen_ok,List.map_toArray,List.map_cons,List.map_nil,hs,hxe,hr]
 exact h v' w' ⟨h2,h5⟩ h3
theorem step_app_int {P:Program} (t e:TypeId) (i:TypeInfo) (ht:P.underlying t=some (.slice e)) (hi:P.info? e=some i) (hz:i.zero=some (.int .i64 0)) (hsize:i.size=1) (hby:i.bytes=8)
 {ops:Array Oper} {o:Oper} {a:Act} {w:World} {K:Act→World→Prop} {Q:Exit→Act→World→Prop} {E:Prop} (hgd:o.guard=none) (s x:Operand)
 (ho:o.op= .call { callee:= .builtin .append,args:=#[s,x],argTypes:=#[t,t] }) (B:Nat) (v:Value) (es:List Int) (hs:a.eval s=v) (hown:zlc w e B 1 v (es.map (Value.int .i64)).length (es.map (Value.int .i64))) (y:Int) (g:Nat) (hxe:a.eval x= .slice (some ⟨g,0,none⟩) 1 1)
 (hc:w.cell? ⟨g,0,none⟩=some (.int .i64 y)) (hn:es.length≤1000) (hbase:B≤w.heap.size)
 (h:∀v' w',zlc w' e B 1 v' ((es++ [y]).map (Value.int .i64)).length ((es++ [y]).map (Value.int .i64))→w.grownBy w' v.ownBlock→K (a.put o.dst v') w'):
 if Region.wanted o (yielded ops a.tmps)=true then Oper.wp P o a w K Q else E:=by
 refine zey hgd s x t ho B e i (.int .i64 0) 1 8 ht hi hz hsize hby rfl (by decide) (fun c hc z=>by
  have hc2:c∈ [Value.int .i64 0]:=hc
  simp at hc2;subst hc2;simp) v _ _ hs hown [.int .i64 y] rfl ⟨g,0,none⟩ hxe (fun j u hu=>by
  have hj:=(List.getElem?_eq_some_iff.1 hu).1
  have :j=0:=by simp at hj;omega
  subst this
  simp at hu;subst hu;exact hc) (fun u hu=>by simp at hu;subst hu;rfl) (fun c hc z=>by simp at hc;subst hc;simp) (by simp[maxLen];omega) (by simp;omega) hbase ?_
 intro v' w' k1 k2
 refine h v' w' ?_ k2
 rw[List.map_append,List.length_append]
 exact k1
theorem step_app_one {P:Program} (t e:TypeId) (i:TypeInfo) (z:Value) (bytes:Nat) (ht:P.underlying t=some (.slice e)) (hi:P.info? e=some i) (hz:i.zero=some z) (hsize:i.size=1) (hby:i.bytes=bytes) (hby2:bytes≤64) (hzc:z.cells=#[z]) (hzn:∀k,z≠ .int .u32 k)
 {ops:Array Oper} {o:Oper} {a:Act} {w:World} {K:Act→World→Prop} {Q:Exit→Act→World→Prop} {E:Prop} (hgd:o.guard=none) (s x:Operand)
 (ho:o.op= .call { callee:= .builtin .append,args:=#[s,x],argTypes:=#[t,t] }) (B:Nat) (v:Value) (xs:List Value) (hs:a.eval s=v) (hown:zlc w e B 1 v xs.length xs) (y:Value) (hy1:y.oneCell'=true) (hyn:∀k,y≠ .int .u32 k) (g:Nat) (hxe:a.eval x= .slice (some ⟨g,0,none⟩) 1 1)
 (hc:w.cell? ⟨g,0,none⟩=some y) (hn:xs.length≤1000) (hbase:B≤w.heap.size)
 (h:∀v' w',zlc w' e B 1 v' (xs++ [y]).length (xs++ [y])→w.grownBy w' v.ownBlock→K (a.put o.dst v') w'):
 if Region.wanted o (yielded ops a.tmps)=true then Oper.wp P o a w K Q else E:=by
 refine zey hgd s x t ho B e i z 1 bytes ht hi hz hsize hby (by rw[hzc];rfl) (by decide) (fun d hd=>by rw[hzc]at hd;simp at hd;subst hd;exact hzn) v _ _ hs hown [y] rfl ⟨g,0,none⟩ hxe (fun j u hu=>by
  have hj:=(List.getElem?_eq_some_iff.1 hu).1
  have :j=0:=by simp at hj;omega
  subst this
  simp at hu;subst hu;exact hc) (fun u hu=>by simp at hu;subst hu;exact hy1) (fun c hc z=>by simp at hc;subst hc;exact hyn z) (by simp[maxLen];omega) (by have :(xs.length+1)*bytes≤1001*64:=Nat.mul_le_mul (by omega) hby2;omega) hbase ?_
 intro v' w' k1 k2
 refine h v' w' ?_ k2
 rw[List.length_append]
 exact k1
theorem step_app_fr {P:Program} (t e:TypeId) (i:TypeInfo) (ht:P.underlying t=some (.slice e)) (hi:P.info? e=some i) (hz:i.zero=some (.agg #[.bool false, .slice none 0 0, .slice none 0 0])) (hsize:i.size=3) (hby:i.bytes=56)
 {ops:Array Oper} {o:Oper} {a:Act} {w:World} {K:Act→World→Prop} {Q:Exit→Act→World→Prop} {E:Prop} (hgd:o.guard=none) (s x:Operand)
 (ho:o.op= .call { callee:= .builtin .append,args:=#[s,x],argTypes:=#[t,t] }) (B:Nat) (v:Value) (q:List Rat) (hs:a.eval s=v) (hown:zya w e B v q) (c0 c1 c2:Value) (r:Rat) (hf:zqa w (.agg #[c0,c1,c2]) r) (g:Nat) (hxe:a.eval x= .slice (some ⟨g,0,none⟩) 1 1)
 (hc:∀j u,[c0,c1,c2][j]? =some u→w.cell? ⟨g,j,none⟩=some u) (hn:q.length≤1000) (hbase:B≤w.heap.size)
 (h:∀v' w',zya w' e B v' (q++ [r])→w.grownBy w' v.ownBlock→K (a.put o.dst v') w'):
 if Region.wanted o (yielded ops a.tmps)=true then Oper.wp P o a w K Q else E:=by
 obtain⟨xs,h1,h2⟩:=hown
 have hl:xs.length=q.length*3:=h1.clen
 have hf2:=hf
 obtain⟨a1,b1,ha,h4,h5⟩:=hf2
 injection ha with ha
 injection ha with ha
 simp only[List.cons.injEq,and_true]at ha
 obtain⟨rfl,rfl,rfl⟩:=ha
 obtain⟨p1,p2,p3,rfl,_⟩:=h4.v.sl
 obtain⟨s1,s2,s3,rfl,_⟩:=h5.v.sl
 refine zey hgd s x t ho B e i _ 3 56 ht hi hz hsize hby rfl (by decide) (fun c hc z=>by
  have hc2:c∈ [Value.bool false, .slice none 0 0, .slice none 0 0]:=hc
  simp at hc2;rcases hc2 with rfl | rfl<;>simp) v q.length xs hs h1 [.bool (decide (r<0)), .slice p1 p2 p3, .slice s1 s2 s3] rfl ⟨g,0,none⟩ hxe (fun j u hu=>by
   rw[Addr.add_lit,Nat.zero_add];exact hc j u hu)
  (fun u hu=>by simp at hu;rcases hu with rfl | rfl | rfl<;>rfl) (fun u hu z=>by simp at hu;rcases hu with rfl | rfl | rfl<;>simp) (by simp[maxLen];omega) (by omega) hbase ?_
 intro v' w' k1 k2
 refine h v' w' ⟨_,?_,(zwe.snoc (r:=r) h2 hl hf).grown k2 h1.nl⟩ k2
 rw[List.length_append]
 exact k1
theorem CpW.start {w:World} {bt a:Nat} {l:List Nat} (h:znb w bt l a) (t:TypeId):
 CpW w (w.alloc (.cells #[.slice none 0 0, .slice none 0 0, .slice none 0 0] t)) bt l (w.heap.size+1) (.slice none 0 0) (.slice none 0 0) [] []:=by
 have hb:=zca w (.cells #[.slice none 0 0, .slice none 0 0, .slice none 0 0] t)
 have hlt:=h.lt
 exact⟨⟨a,(h.b.mono (Nat.le_succ _)).below hb⟩,zlc.nil _ _ _ _,zya.nil _ _ _,⟨C3.new w t _ _ _,fun B _ hB=>hb.mono hB⟩,Kp.below hb,by simp,by omega,by omega⟩
end Go.Proofs.YtlpdkbmmbdfoiaaGreat
