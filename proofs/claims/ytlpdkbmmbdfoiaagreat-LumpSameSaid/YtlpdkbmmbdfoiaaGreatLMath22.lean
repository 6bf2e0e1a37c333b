/-
  Numbering blocks in the order of their least members: the plain law. No program is named here.
-/
import Derived.Test.YtlpdkbmmbdfoiaaGreatLLu6
import Derived.Test.YtlpdkbmmbdfoiaaGreatLMath16
import Derived.Test.YtlpdkbmmbdfoiaaGreatLMath8
import Derived.Test.YtlpdkbmmbdfoiaaGreatLOrd
import Derived.Test.YtlpdkbmmbdfoiaaGreatLRb5
import Derived.Test.YtlpdkbmmbdfoiaaGreatLHp8
import Derived.Test.YtlpdkbmmbdfoiaaGreatLQu
set_option linter.unusedVariables false
set_option linter.unusedSimpArgs false
namespace Go.Proofs.YtlpdkbmmbdfoiaaGreat
open Go.RowKit
theorem zor :∀z,Value.slice none 0 0≠ .int .i64 z:=fun z=>by simp
def Fr (w:World) (bt:Nat) (wx:World):Prop:=C3 wx w.heap.size (.slice none 0 0) (.slice none 0 0) (.slice none 0 0)∧(∀B,B≤bt→B≤w.heap.size→Below B w wx)
theorem Fr.below {w wx wy:World} {bt:Nat} (h:Fr w bt wx) (hb:Below wx.heap.size wx wy):Fr w bt wy:=
 ⟨h.1.belowS hb,fun B h1 h2=>(h.2 B h1 h2).trans (hb.mono (by have:=h.1.lt;omega))⟩
theorem Fr.tick {w wx wy:World} {bt a:Nat} {l:List Nat} (h:Fr w bt wx) (ht:znb wx bt l a) (hk:zyl bt wx wy):Fr w bt wy:=
 ⟨h.1.tick ht hk zor zor zor,fun B h1 h2=>(h.2 B h1 h2).trans (hk.below h1 (by have:=h.1.lt;omega))⟩
theorem Fr.low {w wx wy:World} {bt B:Nat} (h:Fr w bt wx) (hb:Below B wx wy) (hB:w.heap.size<B):Fr w bt wy:=
 ⟨h.1.below hb hB,fun B' h1 h2=>(h.2 B' h1 h2).trans (hb.mono (by omega))⟩
theorem Fr.set {w wx:World} {bt:Nat} (h:Fr w bt wx) (p:Addr) (hp:w.heap.size<p.block) (u:Value):Fr w bt (wx.setCell p u):=
 ⟨h.1.other p u (by omega),fun B' h1 h2=>(h.2 B' h1 h2).setCell (by omega) u⟩
theorem zlc.over {w:World} {e:TypeId} {B size n:Nat} {v:Value} {xs:List Value} (h:zlc w e B size v n xs) {p:Addr} (hp:v.ownBlock=none∨v.ownBlock≠some p.block) (u:Value):zlc (w.setCell p u) e B size v n xs:=by
 have key:∀g,v.ownBlock=some g→(w.setCell p u).heap[g]? =w.heap[g]? :=fun g hg=>Below.heap_setCell _ _ _ _ (by
  intro e;rcases hp with h1 | h1
  ·rw[hg]at h1;cases h1
  ·exact h1 (by rw[hg,e]))
 refine⟨⟨h.own.1,?_⟩,fun g hg cur e' fz hc=> ?_⟩
 ·rcases h.own.2 with h' | ⟨g,cap,cur,rfl,hb,hg,rest⟩
  ·exact .inl h'
  ·exact .inr ⟨g,cap,cur,rfl,hb,by rw[key g rfl];exact hg,rest⟩
 ·rw[key g hg]at hc
  exact h.nl g hg cur e' fz hc
theorem zya.over {w:World} {e:TypeId} {B:Nat} {v:Value} {q:List Rat} (h:zya w e B v q) {p:Addr} {x:Value} (hp:v.ownBlock=none∨v.ownBlock≠some p.block) (hc:w.cell? p=some x) (hx:∀z,x≠ .int .u32 z) (u:Value):zya (w.setCell p u) e B v q:=by
 obtain⟨xs,h1,h2⟩:=h
 refine⟨xs,h1.over hp u,fun j hj=> ?_⟩
 obtain⟨a,b,e1,e2,e3,e4,e5⟩:=h2 j hj
 exact⟨a,b,e1,e2,e3,⟨e4.1.over hc hx u,e4.2⟩,⟨e5.1.over hc hx u,e5.2⟩⟩
theorem zhb.high {B:Nat} {w0 w:World} (h:zhb B w0 w) {p:Addr} {x:Value} (hp:w0.heap.size≤p.block) (hc:w.cell? p=some x) (hx:∀z,x≠ .int .u32 z) (u:Value):zhb B w0 (w.setCell p u):=by
 refine⟨by simpa [World.setCell]using h.size,fun g h1 h2=> ?_,fun q z hq=> ?_⟩
 ·rw[Below.heap_setCell _ _ _ _ (by omega)];exact h.row g h1 h2
 ·rw[World.cell?_setCell_other]
  ·exact h.limb q z hq
  ·intro e
   have:=h.limb q z hq
   rw[←e,hc]at this
   injection this with this
   exact hx _ this
theorem zhb.grow {B:Nat} {w0 w w':World} {v:Value} (h:zhb B w0 w) (hg:w.grownBy w' v.ownBlock) (hn:zlb w v) (hv:∀k,v.ownBlock=some k→w0.heap.size≤k):zhb B w0 w':=by
 have hs:w.heap.size≤w'.heap.size:=hg.size
 refine⟨Nat.le_trans h.size hs,fun g h1 h2=> ?_,fun q z hq=> ?_⟩
 ·rw[hg.block g (Nat.lt_of_lt_of_le h2 h.size) (fun e=>by have:=hv g e.symm;omega)]
  exact h.row g h1 h2
 ·have hc:=h.limb q z hq
  refine hg.cell hc (fun e=> ?_)
  have h2:=hn q.block e.symm
  unfold World.cell? at hc
  split at hc
  ·rename_i cur e' fz hh
   split at hc
   ·cases hc
   ·exact h2 cur e' fz hh _ (by have:=Array.mem_of_getElem? hc;simpa using this) _ rfl
  ·cases hc
structure InS (w0:World) (bt:Nat) (l:List Nat) (B b5:Nat) (vr vs vl:Value) (wA:World) (rv:Value) (row:List Rat) (w:World):Prop where
 fr:zya w 38 wA.heap.size rv row
 mv:zhb B wA w
 tp:∃a,zvf w bt l B a
 bx:C3 w b5 vr vs vl
 fm:Fr w0 bt w
 nums:bt<B∧b5<B∧w0.heap.size<B∧B≤wA.heap.size∧zgc vr∧zgc vs∧zgc vl
section
variable {w0 wA w w':World} {bt B b5:Nat} {l:List Nat} {vr vs vl rv:Value} {row:List Rat}
theorem InS.below (h:InS w0 bt l B b5 vr vs vl wA rv row w) (hb:Below w.heap.size w w'):InS w0 bt l B b5 vr vs vl wA rv row w':=by
 obtain⟨fr,mv,⟨a,tp⟩,bx,fm,nums⟩:=h
 exact⟨fr.moves (zhb.below hb) (Nat.le_refl _),mv.trans (zhb.below hb),⟨a,tp.below hb⟩,bx.belowS hb,fm.below hb,nums⟩
theorem InS.tick (h:InS w0 bt l B b5 vr vs vl wA rv row w) {a':Nat} (ht:zyl bt w w') (hta:znb w' bt l a'):InS w0 bt l B b5 vr vs vl wA rv row w':=by
 obtain⟨fr,mv,⟨a,tp⟩,bx,fm,n1,n2,n3,n4,n5,n6,n7⟩:=h
 have hm:zhb B w w':=zhb.tick tp.1 n1 ht
 exact⟨fr.moves hm n4,mv.trans hm,⟨a',tp.tick ht hta⟩,bx.tick tp.1 ht n5.noInt n6.noInt n7.noInt,fm.tick tp.1 ht,n1,n2,n3,n4,n5,n6,n7⟩
theorem InS.set (h:InS w0 bt l B b5 vr vs vl wA rv row w) {p:Addr} {x:Value} (hp:wA.heap.size≤p.block) (hr:rv.ownBlock=none∨rv.ownBlock≠some p.block) (hc:w.cell? p=some x) (hx:∀z,x≠ .int .u32 z) (hx8:∀z,x≠ .int .u8 z) (u:Value):
 InS w0 bt l B b5 vr vs vl wA rv row (w.setCell p u):=by
 obtain⟨fr,mv,⟨a,tp⟩,bx,fm,n1,n2,n3,n4,n5,n6,n7⟩:=h
 exact⟨fr.over hr hc hx u,mv.high hp hc hx u,⟨a,tp.set (by omega) hc hx8 u⟩,bx.other p u (by omega),fm.set p (by omega) u,n1,n2,n3,n4,n5,n6,n7⟩
theorem InS.grow (h:InS w0 bt l B b5 vr vs vl wA rv row w) {rv':Value} {row':List Rat} (hv:zya w' 38 wA.heap.size rv' row') (hg:w.grownBy w' rv.ownBlock) (hn:zlb w rv):InS w0 bt l B b5 vr vs vl wA rv' row' w':=by
 obtain⟨fr,mv,⟨a,tp⟩,bx,fm,n1,n2,n3,n4,n5,n6,n7⟩:=h
 have hb:Below wA.heap.size w w':=zid hg mv.size fr.block
 have hb2:=hb.mono n4
 exact⟨hv,mv.grow hg hn (fun k hk=>(fr.block k hk).1),⟨a,tp.low hb2 n1⟩,bx.below hb2 n2,fm.low hb2 n3,n1,n2,n3,n4,n5,n6,n7⟩
theorem InS.set3 (h:InS w0 bt l B b5 vr vs vl wA rv row w) {b:Nat} {t0:Bool} {x0 y0:Value} (hC:C3 w b (.bool t0) x0 y0) (sx:zgc x0) (sy:zgc y0) (hb:wA.heap.size≤b) (hr:rv.ownBlock=none∨rv.ownBlock≠some b) (u0 u1 u2:Value):
 InS w0 bt l B b5 vr vs vl wA rv row (((w.setCell ⟨b,0,none⟩ u0).setCell ⟨b,1,none⟩ u1).setCell ⟨b,2,none⟩ u2):=by
 obtain⟨_,c0,c1,c2,_,_,_⟩:=hC
 have h1:=h.set (p:=⟨b,0,none⟩) hb hr c0 (fun z=>by simp) (fun z=>by simp) u0
 have h2:=h1.set (p:=⟨b,1,none⟩) hb hr (by rw[World.cell?_setCell_other _ _ _ _ (by simp)];exact c1) sx.noLimb sx.noByte u1
 exact h2.set (p:=⟨b,2,none⟩) hb hr (by rw[World.cell?_setCell_other _ _ _ _ (by simp),World.cell?_setCell_other _ _ _ _ (by simp)];exact c2) sy.noLimb sy.noByte u2
theorem InS.start {rs:List Value} {rates:List (List Rat)} {start:List Rat} {lost:List Bool} (c:ChW wA bt l B b5 vr vs vl rs rates start lost) (hF:Fr w0 bt wA) (hw:w0.heap.size<B):InS w0 bt l B b5 vr vs vl wA (.slice none 0 0) [] wA:=
 ⟨zya.nil _ _ _,zhb.refl _ _,c.tape,c.box,hF,c.bt5.1,c.bt5.2.1,hw,c.sz,c.ra.sl,c.st.sl,c.lo.sl⟩
theorem InS.chw {rs:List Value} {rates:List (List Rat)} {start:List Rat} {lost:List Bool} (h:InS w0 bt l B b5 vr vs vl wA rv row w) (c:ChW wA bt l B b5 vr vs vl rs rates start lost):ChW w bt l B b5 vr vs vl rs rates start lost∧zya w 38 B rv row∧(rv.ownBlock=none∨rv.ownBlock≠vs.ownBlock):=by
 refine⟨c.of h.mv h.tp h.bx,h.fr.mono c.sz,?_⟩
 cases ho:rv.ownBlock with
 | none=>exact Or.inl rfl
 | some g=>
   refine Or.inr (fun e=> ?_)
   have h1:=h.fr.block g ho
   have h2:=c.st.block g e.symm
   omega
theorem ChW.chainC {rs:List Value} {rates:List (List Rat)} {start:List Rat} {lost:List Bool} (h:ChW w bt l B b5 vr vs vl rs rates start lost):zlq w (.agg #[vr,vs,vl]) ⟨rates,start,lost⟩:=by
 refine⟨vr,vs,vl,rfl,⟨h.ra.sl,by rw[h.ra.len];exact h.rl,fun j hj=> ?_⟩,h.st.fracs,⟨h.lo.sl,h.lo.len,fun j hj=>h.lo.cell j hj⟩⟩
 have hj2:j<rs.length:=by rw[h.rl];exact hj
 exact⟨rs[j],h.ra.cell j hj2,(h.rows j hj2 hj).1.fracs⟩
theorem ChW.set3 {rs:List Value} {rates:List (List Rat)} {start:List Rat} {lost:List Bool} (h:ChW w bt l B b5 vr vs vl rs rates start lost) {b:Nat} (hC:C3 w b (.slice none 0 0) (.slice none 0 0) (.slice none 0 0)) (hb:b<B) (hbt:b≠bt) (hb5:b≠b5) (u0 u1 u2:Value):
 ChW (((w.setCell ⟨b,0,none⟩ u0).setCell ⟨b,1,none⟩ u1).setCell ⟨b,2,none⟩ u2) bt l B b5 vr vs vl rs rates start lost:=by
 obtain⟨_,c0,c1,c2,_,_,_⟩:=hC
 have c1':(w.setCell ⟨b,0,none⟩ u0).cell? ⟨b,1,none⟩=some (.slice none 0 0):=by rw[World.cell?_setCell_other _ _ _ _ (by simp)];exact c1
 have c2':((w.setCell ⟨b,0,none⟩ u0).setCell ⟨b,1,none⟩ u1).cell? ⟨b,2,none⟩=some (.slice none 0 0):=by rw[World.cell?_setCell_other _ _ _ _ (by simp),World.cell?_setCell_other _ _ _ _ (by simp)];exact c2
 have one:∀ (w:World) (k:Nat) (u:Value),ChW w bt l B b5 vr vs vl rs rates start lost→w.cell? ⟨b,k,none⟩=some (.slice none 0 0)→ChW (w.setCell ⟨b,k,none⟩ u) bt l B b5 vr vs vl rs rates start lost:=fun w k u h hc=>by
  obtain⟨a,ht⟩:=h.tape
  exact h.of (zhb.set hb hc (fun z=>by simp) u) ⟨a,ht.set hbt hc (fun z=>by simp) u⟩ (h.box.other _ u hb5)
 exact one _ 2 u2 (one _ 1 u1 (one _ 0 u0 h c0) c1') c2'
end
def AllS (c:RC):Prop:=∀j,j<c.rates.length→Rch c j→Ftl c j
def zjy (w0:World) (P:Prop) (R:Rat) (e:Ending) (w:World):Prop:=
 (P∧RF0 w0 R e w)∨(¬P∧e= .returned (.tuple #[.agg #[.bool false, .slice none 0 0, .slice none 0 0], .int .i64 14])∧Below w0.heap.size w0 w)
theorem RMean.f {w0:World} {c:RC} {R:Rat} {e:Ending} {w:World} (h:RMean w0 c R e w):zjy w0 (AllS c) R e w:=by
 rcases h with h | ⟨⟨j,h1,h2,h3⟩,h4⟩
 ·exact Or.inl h
 ·exact Or.inr ⟨fun h=>h3 (h j h1 h2),h4⟩
theorem zjy.to {w0:World} {P Q:Prop} {R S:Rat} {e:Ending} {w:World} (h:zjy w0 P R e w) (hp:P↔Q) (hr:R=S):zjy w0 Q S e w:=by
 subst hr
 rcases h with⟨h1,h2⟩ | ⟨h1,h2⟩
 ·exact Or.inl ⟨hp.1 h1,h2⟩
 ·exact Or.inr ⟨fun h=>h1 (hp.2 h),h2⟩
section
variable {c:CQ} {H T:Nat→Rat}
end
end Go.Proofs.YtlpdkbmmbdfoiaaGreat
namespace Go.Proofs.YtlpdkbmmbdfoiaaGreat
theorem sg_pos_ex {n:Nat} {f:Nat→Rat} (h:0<sg n f):∃k,k<n∧0<f k:=by
 refine Classical.byContradiction fun hc=> ?_
 have h1:sg n f≤sg n fun _=>0:=sg_le fun i hi=>Rat.not_lt.1 fun h2=>hc ⟨i,hi,h2⟩
 rw[zsi]at h1
 exact absurd h (Rat.not_lt.2 h1)
theorem sg_pos_of {n:Nat} {f:Nat→Rat} (h0:∀i,i<n→0≤f i) {k:Nat} (hk:k<n) (h:0<f k):0<sg n f:=by
 have h1:=sg_lt (f:=fun _=>0) (g:=f) h0 hk h
 rwa[zsi]at h1
def blkN (bl:List Int) (i:Nat):Nat:=(bl.getD i 0).toNat
structure QF (c q:RC) (blk:Nat→Nat):Prop where
 lt:∀i,i<c.rates.length→blk i<q.rates.length
 rep:∀b,b<q.rates.length→∃i,i<c.rates.length∧blk i=b
 rate:∀i b,i<c.rates.length→b<q.rates.length→blk i≠b→rq q (blk i) b=sg c.rates.length fun j=>if blk j=b then rq c i j else 0
 diag:∀b,b<q.rates.length→rq q b b=0
 lost:∀i,i<c.rates.length→q.lost.getD (blk i) false=c.lost.getD i false
 start:∀b,b<q.rates.length→(qs q.start).getD b 0=sg c.rates.length fun j=>if blk j=b then(qs c.start).getD j 0 else 0
 nn:∀i j,i<c.rates.length→j<c.rates.length→0≤rq c i j
 sn:∀i,i<c.rates.length→0≤(qs c.start).getD i 0
theorem zlx (c:RC) (bl:List Int):(quo c bl).raw.rates.length=cnt bl:=by simp[CQ.raw,quo]
theorem qf_of {c:RC} {bl:List Int} (h:zex c bl):QF c (quo c bl).raw (blkN bl):=by
 obtain⟨hok,h0,hlen,hval,hag⟩:=h
 have hll:c.lost.length=c.start.length:=hval.2.2.1
 have hrl9:c.rates.length=c.start.length:=hval.2.2.2.1
 have hn:c.rates.length=bl.length:=by omega
 have hm:=zlx c bl
 have hblk:∀i,i<bl.length→blkN bl i<cnt bl∧bl[i]? =some ((blkN bl i:Nat):Int):=fun i hi=>by
  have hg:bl[i]? =some (bl.getD i 0):=by simp[List.getD,List.getElem?_eq_getElem hi]
  obtain⟨h1,h2⟩:=hok.lt hg
  unfold blkN
  refine⟨by omega,?_⟩
  rw[hg]
  congr 1
  omega
 have hrl:∀i,i<bl.length→(zaq c i).length=bl.length:=fun i hi=>by rw[zix hval (by omega)];omega
 refine⟨fun i hi=>by rw[hm];exact(hblk i (by omega)).1,fun b hb=> ?_,fun i b hi hb hne=> ?_,fun b hb=> ?_,fun i hi=> ?_,fun b hb=> ?_,fun i j hi hj=>rq_nn hval hi hj,fun i hi=>zpz hval hi⟩
 ·rw[hm]at hb
  obtain⟨f1,f2⟩:=zax hok hb
  refine⟨zvw bl b,by omega,?_⟩
  have h2:=(hblk _ f1).2
  rw[f2]at h2
  injection h2 with h2
  omega
 ·rw[hm]at hb
  rw[hn]at hi ⊢
  obtain⟨k1,k2⟩:=hblk i hi
  obtain⟨f1,f2⟩:=zax hok k1
  unfold rq
  rw[zsz k1]
  have e1:((ztw bl (zaq c (zvw bl (blkN bl i))) (cnt bl)).set (blkN bl i) 0).getD b 0=bsum bl (zaq c (zvw bl (blkN bl i))) b:=by
   simp only[List.getD]
   rw[List.getElem?_set_ne hne]
   exact ztx hb
  have e2:=(hag _ _ _ f2 k2).2 b _ _ (by omega) (by rw[List.getElem?_eq_getElem (by rw[zsw];exact hb),zuw _ _ _ _ hb]) (by rw[List.getElem?_eq_getElem (by rw[zsw];exact hb),zuw _ _ _ _ hb])
  rw[e1,e2,zcy hok (hrl i hi)]
  rfl
 ·rw[hm]at hb
  unfold rq
  rw[zsz hb]
  simp[List.getD,zsw,hb]
 ·rw[hn]at hi
  obtain⟨k1,k2⟩:=hblk i hi
  obtain⟨f1,f2⟩:=zax hok k1
  rw[quo_lost k1]
  exact(hag _ _ _ f2 k2).1
 ·rw[hm]at hb
  have e:qs (quo c bl).raw.start=ztw bl (qs c.start) (cnt bl):=zbu _
  rw[e,ztx hb,zcy hok (by rw[zgq];omega),hn]
  rfl
section
variable {c q:RC} {blk:Nat→Nat}
theorem QF.row (h:QF c q blk) {i:Nat} (hi:i<c.rates.length) (f:Nat→Rat):
 sg c.rates.length (fun t=>rq c i t*f (blk t))=sg q.rates.length (fun a=>rq q (blk i) a*f a)+(sg c.rates.length fun t=>if blk t=blk i then rq c i t else 0)*f (blk i):=by
 rw[zqz h.lt (fun t=>rq c i t*f (blk t))]
 have e:∀a,a<q.rates.length→sg c.rates.length (fun t=>if blk t=a then rq c i t*f (blk t)else 0)=rq q (blk i) a*f a+(if blk i=a then(sg c.rates.length fun t=>if blk t=a then rq c i t else 0)*f a else 0):=fun a ha=>by
  have e1:sg c.rates.length (fun t=>if blk t=a then rq c i t*f (blk t)else 0)=(sg c.rates.length fun t=>if blk t=a then rq c i t else 0)*f a:=by
   rw[←znc]
   refine zma fun t ht=> ?_
   by_cases hb:blk t=a
   ·rw[if_pos hb,if_pos hb,hb]
   ·rw[if_neg hb,if_neg hb,Rat.zero_mul]
  rw[e1]
  by_cases hb:blk i=a
  ·rw[if_pos hb,hb,h.diag a ha,Rat.zero_mul,Rat.zero_add]
  ·rw[if_neg hb,h.rate i a hi ha hb,Rat.add_zero]
 rw[zma e,zvd,zfd (h.lt i hi) fun a=>(sg c.rates.length fun t=>if blk t=a then rq c i t else 0)*f a]
theorem QF.sum (h:QF c q blk) {i:Nat} (hi:i<c.rates.length):
 sg c.rates.length (rq c i)=sg q.rates.length (rq q (blk i))+sg c.rates.length fun t=>if blk t=blk i then rq c i t else 0:=by
 have k:=h.row hi fun _=>1
 rw[zma (g:=rq c i) fun t _=>Rat.mul_one _,zma (f:=fun a=>rq q (blk i) a*1) (g:=rq q (blk i)) fun t _=>Rat.mul_one _,Rat.mul_one]at k
 exact k
theorem QF.pos (h:QF c q blk) {i j:Nat} (hi:i<c.rates.length) (hj:j<c.rates.length) (hne:blk i≠blk j) (hp:0<rq c i j):0<rq q (blk i) (blk j):=by
 rw[h.rate i _ hi (h.lt j hj) hne]
 refine sg_pos_of (fun t ht=> ?_) hj (by rw[if_pos rfl];exact hp)
 split
 ·exact h.nn i t hi ht
 ·exact Rat.le_refl
theorem QF.has (h:QF c q blk) {i b:Nat} (hi:i<c.rates.length) (hb:b<q.rates.length) (hp:0<rq q (blk i) b):∃j,j<c.rates.length∧blk j=b∧0<rq c i j:=by
 have hne:blk i≠b:=fun e=>by rw[e,h.diag b hb]at hp;exact absurd hp (by decide)
 rw[h.rate i b hi hb hne]at hp
 obtain⟨j,hj,h2⟩:=sg_pos_ex hp
 by_cases e:blk j=b
 ·rw[if_pos e]at h2;exact⟨j,hj,e,h2⟩
 ·rw[if_neg e]at h2;exact absurd h2 (by decide)
theorem QF.ft (h:QF c q blk) {i:Nat} (hf:FT c.rates.length (rq c) (ziq c) i):FT q.rates.length (rq q) (ziq q) (blk i):=by
 induction hf with
 | base hi hS=>exact Clo.base (h.lt _ hi) (by unfold ziq at hS ⊢;rw[h.lost _ hi];exact hS)
 | step hc hj hL ih=>
   rename_i a b
   by_cases e:blk b=blk a
   ·rw[e];exact ih
   ·exact Clo.step ih (h.lt _ hj) (h.pos hj (Clo.lt hc) e hL)
theorem QF.tf (h:QF c q blk) {b:Nat} (hf:FT q.rates.length (rq q) (ziq q) b):∀i,i<c.rates.length→blk i=b→FT c.rates.length (rq c) (ziq c) i:=by
 induction hf with
 | base hi hS=>
   intro i hil e
   subst e
   exact Clo.base hil (by unfold ziq at hS ⊢;rw[←h.lost _ hil];exact hS)
 | step hc hj hL ih=>
   rename_i a b
   intro i hil e
   subst e
   obtain⟨j,hj2,e2,h2⟩:=h.has hil (Clo.lt hc) hL
   exact Clo.step (ih j hj2 e2) hil h2
theorem QF.rc (h:QF c q blk) {s b:Nat} (hs:s<c.rates.length) (hr:RC1 q.rates.length (rq q) (fun j=>j=blk s) b):∃j,j<c.rates.length∧blk j=b∧RC1 c.rates.length (rq c) (fun j=>j=s) j:=by
 induction hr with
 | base hi hS=>exact⟨s,hs,hS.symm,Clo.base hs rfl⟩
 | step hc hj hL ih=>
   obtain⟨j,h1,h2,h3⟩:=ih
   subst h2
   obtain⟨k,k1,k2,k3⟩:=h.has h1 hj hL
   exact⟨k,k1,k2,Clo.step h3 k1 k3⟩
theorem QF.sure (h:QF c q blk) {s:Nat} (hs:s<c.rates.length) (hu:Sure c.rates.length (rq c) (ziq c) s):Sure q.rates.length (rq q) (ziq q) (blk s):=fun t ht=>by
 obtain⟨j,h1,h2,h3⟩:=h.rc hs ht
 rw[←h2]
 exact h.ft (hu j h3)
theorem QF.rch (h:QF c q blk) {j:Nat} (hr:Rch c j):Rch q (blk j):=by
 induction hr with
 | base hi hS=>
   refine Clo.base (h.lt _ hi) ?_
   rw[h.start _ (h.lt _ hi)]
   refine sg_pos_of (fun t ht=> ?_) hi (by rw[if_pos rfl];exact hS)
   split
   ·exact h.sn t ht
   ·exact Rat.le_refl
 | step hc hj hL ih=>
   rename_i a b
   by_cases e:blk a=blk b
   ·rw[←e];exact ih
   ·exact Clo.step ih (h.lt _ hj) (h.pos (Clo.lt hc) hj e hL)
theorem QF.hcr (h:QF c q blk) {b:Nat} (hr:Rch q b):∃j,j<c.rates.length∧blk j=b∧Rch c j:=by
 induction hr with
 | base hi hS=>
   rw[h.start _ hi]at hS
   obtain⟨j,hj,h2⟩:=sg_pos_ex hS
   split at h2
   ·rename_i e
    exact⟨j,hj,e,Clo.base hj h2⟩
   ·exact absurd h2 (by decide)
 | step hc hj hL ih=>
   obtain⟨j,h1,h2,h3⟩:=ih
   subst h2
   obtain⟨k,k1,k2,k3⟩:=h.has h1 hj hL
   exact⟨k,k1,k2,Clo.step h3 k1 k3⟩
theorem QF.alls (h:QF c q blk):AllS c↔AllS q:=by
 constructor
 ·intro k b hb hr
  obtain⟨j,h1,h2,h3⟩:=h.hcr hr
  rw[←h2]
  exact h.ft (k j h1 h3)
 ·intro k j hj hr
  exact h.tf (k _ (h.lt j hj) (h.rch hr)) j hj rfl
theorem QF.hit (h:QF c q blk) {H:Nat→Rat} (hH:HitC q H):HitC c fun i=>H (blk i) where
 one:=fun s hs hl=>hH.one _ (h.lt s hs) (by unfold ziq at hl ⊢;rw[h.lost _ hs];exact hl)
 no:=fun s hs hn=>hH.no _ (h.lt s hs) fun hf=>hn (h.tf hf s hs rfl)
 eq:=fun s hs hl=>by
  have k:=hH.eq _ (h.lt s hs) (fun e=>hl (by unfold ziq at e ⊢;rw[←h.lost _ hs];exact e))
  rw[h.row hs H,h.sum hs,Rat.add_mul,k]
theorem QF.time (h:QF c q blk) {T:Nat→Rat} (hT:TimeC q T):TimeC c fun i=>T (blk i) where
 zero:=fun s hs hl=>hT.zero _ (h.lt s hs) (by unfold ziq at hl ⊢;rw[h.lost _ hs];exact hl)
 eq:=fun s hs hl hu=>by
  have k:=hT.eq _ (h.lt s hs) (fun e=>hl (by unfold ziq at e ⊢;rw[←h.lost _ hs];exact e)) (h.sure hs hu)
  rw[h.row hs T,h.sum hs,Rat.add_mul,k,Rat.add_assoc]
theorem QF.st (h:QF c q blk) (f:Nat→Rat):stS c (fun i=>f (blk i))=stS q f:=by
 unfold stS
 rw[zqz h.lt (fun t=>(qs c.start).getD t 0*f (blk t))]
 refine zma fun a ha=> ?_
 rw[h.start a ha,←znc]
 refine zma fun t ht=> ?_
 by_cases hb:blk t=a
 ·rw[if_pos hb,if_pos hb,hb]
 ·rw[if_neg hb,if_neg hb,Rat.zero_mul]
end
theorem wts_rowD {n i K X:Nat} {f:Nat→Rat} (h:∀j,j<n→wt (f j)≤K+if i=j then X else 0):wts (zib n f)≤n*K+if i<n then X else 0:=by
 induction n with
 | zero=>simp[zib,wts]
 | succ n ih=>
   have h1:=ih fun j hj=>h j (by omega)
   have h2:=h n (Nat.lt_succ_self n)
   have e:zib (n+1) f=zib n f++ [f n]:=by unfold zib;rw[List.range_succ,List.map_append];rfl
   rw[e,zsu,Nat.succ_mul]
   by_cases hi:i=n
   ·subst hi
    rw[if_pos rfl]at h2
    rw[if_neg (by omega)]at h1
    rw[if_pos (by omega)]
    omega
   ·rw[if_neg hi]at h2
    by_cases h3:i<n
    ·rw[if_pos h3]at h1
     rw[if_pos (by omega)]
     omega
    ·rw[if_neg h3]at h1
     rw[if_neg (by omega)]
     omega
theorem wtF_diag {n K X:Nat} {A:Mx} (h:∀i j,i<n→j<n→wt (A i j)≤K+if i=j then X else 0):wtF n n A≤n*(n*K+X):=by
 unfold wtF zxr
 have h2:=sum_map_le (l:=rawM n n A) (g:=fun l=>wts (qs l)) (K:=n*K+X) fun l hl=>by
  obtain⟨i,hi,rfl⟩:=zgn hl
  have h3:=wts_rowD (i:=i) (K:=K) (X:=X) (f:=fun j=>A i j) fun j hj=>h i j hi hj
  rw[if_pos hi]at h3
  show wts (qs ((zib n fun j=>A i j).map RF.of))≤_
  rw[zvh]
  exact h3
 rw[zpc]at h2
 exact h2
theorem wt_neg0 (q:Rat):wt (0-q)=wt q:=by
 have e:(0:Rat)-q= -q:=by grind
 rw[e]
 unfold Go.Proofs.YtlpdkbmmbdfoiaaGreat.wt
 rw[Rat.neg_num,Rat.neg_den,Int.natAbs_neg]
 by_cases h:q.num=0
 ·rw[if_pos h,if_pos (by omega)]
 ·rw[if_neg h,if_neg (by omega)]
structure SmG (c:RC) (N K:Nat):Prop where
 n:c.rates.length≤N
 n10:N≤10
 r:∀i j,i<c.rates.length→j<c.rates.length→over 144 23040 (rq c i j)
 s:∀i,i<c.rates.length→over 144 23040 ((qs c.start).getD i 0)
 k:∀i j,i<c.rates.length→j<c.rates.length→wt (rq c i j)≤K
 w:N*(N*K+26)+N*26+N*23≤1900
theorem slim10 :∀n,n<11→slimB n 144 230400 (dtB n 230400):=by
 intro n hn
 have h:∀n,n<11→(bD 144 (dtB n 230400)*(bD 144 (dtB n 230400)*bN n 144 230400 (dtB n 230400)*bD 144 (dtB n 230400))<2^4096∧bN n 144 230400 (dtB n 230400)*(bD 144 (dtB n 230400)*bN n 144 230400 (dtB n 230400)*bD 144 (dtB n 230400))+bN n 144 230400 (dtB n 230400)*bD 144 (dtB n 230400)*bN n 144 230400 (dtB n 230400)*bD 144 (dtB n 230400)<2^4096∧(144*dtB n 230400*144)^n<2^4096∧(bW n 144 230400 (dtB n 230400))^n<2^4096):=by decide+kernel
 obtain⟨h1,h2,h3,h4⟩:=h n hn
 exact⟨Nat.le_refl _,by decide,by decide,h1,h2,h3,h4⟩
theorem over_g {B:Nat} {q:Rat} (h:over 144 B q) (hB:B<2^4096):fits q:=h.fits (by decide) hB (Nat.lt_trans (show 144<2^8 by decide) (zcu (by decide)))
theorem pow_g :230400<2^4096:=Nat.lt_trans (show 230400<2^18 by decide) (zcu (by decide))
theorem wt_26 {q:Rat} (h:over 144 230400 q):wt q≤26:=h.wt (a:=18) (b:=8) (by decide) (by decide) (by decide)
section
variable {c:RC} {N K:Nat} {l:List Nat} {b x:Nat→Rat}
theorem sg_A (hv:zzp c) (h:zvq c l) (hs:SmG c N K) {i j:Nat} (hi:i<l.length) (hj:j<l.length):over 144 230400 (zis c l i j):=by
 have h1:=(zxq h).lt _ (zcq hi)
 have h2:=(zxq h).lt _ (zcq hj)
 unfold zis
 split
 ·rw[out_sg hv h1]
  exact(over.sg (by decide) fun t ht=>hs.r _ t h1 ht).mono (by have:=hs.n;have:=hs.n10;omega)
 ·exact(over.sub (by decide) (over.zero 144 0) (hs.r _ _ h1 h2)).mono (by decide)
theorem sg_len (h:zvq c l) (hs:SmG c N K):l.length≤N∧l.length<11:=by
 have:=zft h
 have:=hs.n
 have:=hs.n10
 omega
theorem slim_sg (hv:zzp c) (h:zvq c l) (hs:SmG c N K) (hb:∀i,i<l.length→over 144 230400 (b i)) (hn:0<l.length):dt l.length (zis c l)≠0∧slimE false l.length (l.length+1) l.length (zpa l.length (zis c l) fun i _=>b i):=by
 have hd:dt l.length (zis c l)≠0:=by
  rw[zcd fun i j hi hj=>sysA_mm hv h hi]
  exact(zxq h).dt (zcv hv)
 refine⟨hd,slimE_minor (slim10 _ (sg_len h hs).2) hn (Nat.le_succ _) (fun i j hi hj=> ?_) (zff (B:=fun i _=>b i) hd)⟩
 unfold zpa
 split
 ·rename_i hj2
  exact sg_A hv h hs hi hj2
 ·exact hb i hi
theorem dtB10 :∀n,n<11→dtB n 230400<2^201:=by decide+kernel
theorem sg_x (hv:zzp c) (h:zvq c l) (hs:SmG c N K) (hb:∀i,i<l.length→over 144 230400 (b i)) (hx:∀i,i<l.length→sg l.length (fun j=>zis c l i j*x j)=b i):
 ∃E,E≠0∧E<2^220∧∀i,i<l.length→over E (2^240) (x i):=by
 by_cases hn:0<l.length
 ·obtain⟨hd,_⟩:=slim_sg hv h hs hb hn
  have h5:=(sg_len h hs).2
  obtain⟨E,hE,hEb,hI⟩:=sol_gen (n:=l.length) (D:=144) (B:=230400) (by decide) (by decide) (fun i j hi hj=>sg_A hv h hs hi hj) hd (F:=144) (K:=230400) (by decide) hb hx
  have hB:=dtB10 _ h5
  refine⟨E*144,Nat.mul_ne_zero hE (by decide),?_,fun i hi=>(hI i hi).mono ?_⟩
  ·exact Nat.lt_of_le_of_lt (Nat.mul_le_mul_right _ (Nat.le_trans hEb (Nat.le_of_lt hB))) (show 2^201*144<2^220 by decide+kernel)
  ·exact Nat.le_trans (Nat.mul_le_mul (show l.length≤10 by omega) (Nat.mul_le_mul_right _ (Nat.le_of_lt hB))) (show 10*(2^201*230400)≤2^240 by decide+kernel)
 ·exact⟨1,by decide,by decide+kernel,fun i hi=>absurd hi (by omega)⟩
theorem pow_h :144*2^220<2^240:=by decide+kernel
theorem pow_i :10*(23040*2^240)+230400*2^220<2^280:=by decide+kernel
theorem csolve_sg (hv:zzp c) (h:zvq c l) (hs:SmG c N K) (hb:∀i,i<l.length→over 144 230400 (b i)) (hx:∀i,i<l.length→sg l.length (fun j=>zis c l i j*x j)=b i):zzt c l b x:=by
 have hk:=zxq h
 obtain⟨hN,h11⟩:=sg_len h hs
 have hA:zau l.length l.length (zis c l):=fun i j hi hj=>over_g (sg_A hv h hs hi hj) pow_g
 have hfb:∀i,i<l.length→fits (b i):=fun i hi=>over_g (hb i hi) pow_g
 have hw1:wtF l.length l.length (zis c l)≤N*(N*K+26):=by
  have h1:=wtF_diag (K:=K) (X:=26) (n:=l.length) (A:=zis c l) fun i j hi hj=>by
   by_cases e:i=j
   ·rw[if_pos e]
    have:=wt_26 (sg_A hv h hs hi hj)
    omega
   ·rw[if_neg e]
    unfold zis
    rw[if_neg e,wt_neg0]
    exact hs.k _ _ (hk.lt _ (zcq hi)) (hk.lt _ (zcq hj))
  exact Nat.le_trans h1 (Nat.mul_le_mul hN (Nat.add_le_add_right (Nat.mul_le_mul_right _ hN) _))
 have hw2:wts (zib l.length b)≤N*26:=by
  have h1:=ztu (l:=zib l.length b) (K:=26) fun q hq=>by
   unfold zib at hq
   obtain⟨i,hi,rfl⟩:=List.mem_map.1 hq
   exact wt_26 (hb i (List.mem_range.1 hi))
  rw[zea]at h1
  omega
 have hw3:wts (qs c.start)≤N*23:=by
  have hl:(qs c.start).length=c.rates.length:=by rw[zgq];exact hv.2.2.2.1.symm
  have h1:=ztu (l:=qs c.start) (K:=23) fun q hq=>by
   obtain⟨i,hi,rfl⟩:=List.mem_iff_getElem.1 hq
   have h2:=hs.s i (by omega)
   rw[List.getD_eq_getElem?_getD,List.getElem?_eq_getElem hi,Option.getD_some]at h2
   exact h2.wt (a:=15) (b:=8) (by decide) (by decide) (by decide)
  have:=hs.n
  rw[hl]at h1
  omega
 have hw:=hs.w
 have hw12:wtF l.length l.length (zis c l)+wts (zib l.length b)≤1900:=by omega
 obtain⟨E,hE,hEb,hX⟩:=sg_x hv h hs hb hx
 have hEx:E<2^4096:=Nat.lt_trans hEb (zcu (by decide))
 have hE2:144*E<2^4096:=Nat.lt_trans (Nat.lt_of_le_of_lt (Nat.mul_le_mul_left _ (Nat.le_of_lt hEb)) pow_h) (zcu (by decide))
 have hE3:144*E≠0:=Nat.mul_ne_zero (by decide) hE
 have hP:∀i,i<l.length→over (144*E) (23040*2^240) ((qs c.start).getD (l.getD i 0) 0*x i):=fun i hi=>over.mul (hs.s _ (hk.lt _ (zcq hi))) (hX i hi)
 have hQ:10*(23040*2^240)<2^4096:=Nat.lt_trans (Nat.lt_of_le_of_lt (Nat.le_add_right _ _) pow_i) (zcu (a:=280) (by decide))
 exact{
  lt:=fun i hi=>hk.lt _ (zcq hi)
  le:=by omega
  fn:=fun i j hi hj=>over_g (over.sub (by decide) (over.zero 144 0) (hs.r _ _ (hk.lt _ (zcq hi)) (hk.lt _ (zcq hj)))) (Nat.lt_of_le_of_lt (by decide) pow_g)
  fA:=hA
  fb:=hfb
  w:=by omega
  sys:=by
   by_cases hn:l.length=0
   ·exact Or.inl hn
   ·obtain⟨hd,hsl⟩:=slim_sg hv h hs hb (by omega)
    exact Or.inr ⟨by omega,by omega,hA,hfb,fun i hi=>(hX i hi).fits hE (zcu (by decide)) hEx,hw12,hd,hsl,hx⟩
  fp:=fun i hi=>(hP i hi).fits hE3 (Nat.lt_of_le_of_lt (Nat.le_mul_of_pos_left _ (by decide)) hQ) hE2
  fs:=fun k hk2=>((over.sg hE3 fun i hi=>hP i (by omega)).mono (show k*(23040*2^240)≤10*(23040*2^240)from Nat.mul_le_mul_right _ (by omega))).fits hE3 hQ hE2 }
theorem lsr_g (hs:SmG c N K) {s k:Nat} (h:s<c.rates.length) (hk:k≤c.rates.length):over 144 230400 (lsr c s k):=by
 unfold lsr
 have h5:=hs.n
 have h6:=hs.n10
 refine(over.sg (B:=23040) (by decide) fun t ht=> ?_).mono (show k*23040≤230400 by omega)
 split
 ·exact hs.r _ _ h (by omega)
 ·exact over.zero _ _
theorem lst_g (hs:SmG c N K) {k:Nat} (hk:k≤c.rates.length):over 144 230400 (lst c k):=by
 unfold lst
 have h5:=hs.n
 have h6:=hs.n10
 refine(over.sg (B:=23040) (by decide) fun t ht=> ?_).mono (show k*23040≤230400 by omega)
 split
 ·exact hs.s _ (by omega)
 ·exact over.zero _ _
theorem hit_sg {H:Nat→Rat} (hv:zzp c) (hs:SmG c N K) (hH:HitC c H):∀l,zvq c l→∃x,HitP c l x∧sg l.length (fun i=>(qs c.start).getD (l.getD i 0) 0*x i)+lst c c.rates.length=stS c H:=by
 intro l h
 have hk:=zxq h
 have hb:∀i,i<l.length→over 144 230400 (lsr c (l.getD i 0) c.rates.length):=fun i hi=>lsr_g hs (hk.lt _ (zcq hi)) (Nat.le_refl _)
 have hx:=fun i (hi:i<l.length)=>alive_hit hv h hH hi
 have h5:=(sg_len h hs).2
 obtain⟨E,hE,hEb,hX⟩:=sg_x hv h hs hb hx
 have hE3:144*E≠0:=Nat.mul_ne_zero (by decide) hE
 have hE2:144*E<2^4096:=by
  have h1:144*E≤144*2^220:=Nat.mul_le_mul_left _ (Nat.le_of_lt hEb)
  exact Nat.lt_trans (Nat.lt_of_le_of_lt h1 pow_h) (zcu (by decide))
 refine⟨fun i=>H (l.getD i 0),⟨csolve_sg hv h hs hb hx,fun i k hi hk2=>over_g (lsr_g hs (hk.lt _ (zcq hi)) hk2) pow_g,fun k hk2=> ?_⟩,hit_sum hv h hH⟩
 have h1:over (144*E) (l.length*(23040*2^240)) (sg l.length fun i=>(qs c.start).getD (l.getD i 0) 0*H (l.getD i 0)):=over.sg hE3 fun i hi=>over.mul (hs.s _ (hk.lt _ (zcq hi))) (hX i hi)
 have h2:over (144*E) (230400*E) (lst c k):=(lst_g hs hk2).scale hE
 have h3:=over.add hE3 h1 h2
 have h4:l.length*(23040*2^240)+230400*E<2^280:=by
  have h6:l.length*(23040*2^240)≤10*(23040*2^240):=Nat.mul_le_mul_right _ (by omega)
  have h7:230400*E≤230400*2^220:=Nat.mul_le_mul_left _ (Nat.le_of_lt hEb)
  exact Nat.lt_of_le_of_lt (Nat.add_le_add h6 h7) pow_i
 exact h3.fits hE3 (Nat.lt_trans h4 (zcu (a:=280) (by decide))) hE2
theorem mean_sg {T:Nat→Rat} (hv:zzp c) (hs:SmG c N K) (hT:TimeC c T):(∀j,j<c.rates.length→Rch c j→Ftl c j)→∀l,zvq c l→∃x,zzt c l (fun _=>1) x∧sg l.length (fun i=>(qs c.start).getD (l.getD i 0) 0*x i)=stS c T:=by
 intro hall l h
 have h1:over 144 230400 1:=(over.one (D:=144) (by decide)).mono (by decide)
 exact⟨fun i=>T (l.getD i 0),csolve_sg hv h hs (fun _ _=>h1) fun i hi=>zjw hv h hall hT hi,time_sum hv h hall hT⟩
theorem hit_cg {va:Value} {H:Nat→Rat} {w:World} (ha:zdq w va c) (hv:zzp c) (hs:SmG c N K) (hH:HitC c H):Calls Tryz.prog 43 #[va] w (RF0 w (stS c H)):=hit_any va c _ w ha hv (hit_sg hv hs hH)
theorem mean_cg {va:Value} {T:Nat→Rat} {w:World} (ha:zdq w va c) (hv:zzp c) (hs:SmG c N K) (hT:TimeC c T):Calls Tryz.prog 45 #[va] w (zjy w (AllS c) (stS c T)):=(mean_any va c _ w ha hv (mean_sg hv hs hT)).mono fun _ _ k=>k.f
end
end Go.Proofs.YtlpdkbmmbdfoiaaGreat
namespace Go.Proofs.YtlpdkbmmbdfoiaaGreat
open Go.RowKit
def itV (c:RC) (ρ:Rat):Nat→List Rat
 | 0=>qs c.start
 | k+1=>zqy c ρ (itV c ρ k)
theorem znq {c:RC} (hv:zzp c) (ρ:Rat):∀k,(itV c ρ k).length=c.rates.length
 | 0=>by rw[itV,zgq,hv.2.2.2.1]
 | k+1=>stepV_length _ _ _
def wtA (c:RC) (ρ:Rat) (k:Nat):Nat:=wtF c.rates.length c.rates.length (zfq c ρ)+wts (itV c ρ k)
theorem stepV_fits {c:RC} {ρ:Rat} {v:List Rat} (hl:v.length=c.rates.length) (hw:wtF c.rates.length c.rates.length (zfq c ρ)+wts v≤3800):∀x∈zqy c ρ v,fits x:=fun x hx=>by
 unfold zqy zib at hx
 obtain⟨j,hj,rfl⟩:=List.mem_map.1 hx
 exact zvu hl hw (Nat.le_refl _) (List.mem_range.1 hj)
theorem zbt {c:RC} (hv:zzp c) {ρ:Rat}:∀k,(∀i,i<k→wtA c ρ i≤3800)→∀x∈itV c ρ k,fits x
 | 0,_=>fun x hx=>by
   obtain⟨y,hy,rfl⟩:=List.mem_map.1 hx
   exact RF.fits (hv.2.2.2.2.1.ok y hy)
 | k+1,h=>stepV_fits (znq hv ρ k) (h k (Nat.lt_succ_self k))
theorem zrq {c:RC} {ρ:Rat} (h1:∀i j,i<c.rates.length→j<c.rates.length→fits ((zaq c i).getD j 0/ρ)) (h2:∀i,i<c.rates.length→fits (zgg (zaq c i)/ρ)∧fits (1-zgg (zaq c i)/ρ)):zau c.rates.length c.rates.length (zfq c ρ):=fun i j hi hj=>by
 unfold zfq;split
 ·exact(h2 i hi).2
 ·exact h1 i j hi hj
theorem cstep_can (va vv:Value) (c:RC) (ρ:Rat) (v:List Rat) (w:World) (ha:zam w va c.rates.length c.rates.length (zfq c ρ)) (hv:zbb w vv v) (hl:v.length=c.rates.length) (hn:c.rates.length≤128) (hf:∀x∈v,fits x) (hm:zau c.rates.length c.rates.length (zfq c ρ))
 (hw:wtF c.rates.length c.rates.length (zfq c ρ)+wts v≤3800):
 Calls Tryz.prog 84 #[va,vv] w fun e w'=>∃v',e= .returned (.tuple #[v', .int .i64 0])∧zbb w' v' (zqy c ρ v)∧Below w.heap.size w w':=by
 have hq:qs (v.map RF.of)=v:=zvh v
 have h:=cstep_any va vv c.rates.length (zfq c ρ) (v.map RF.of) w ha hv.raw (by rw[List.length_map];exact hl) hn (fun x hx=>by obtain⟨y,hy,rfl⟩:=List.mem_map.1 hx;exact RF.of_ok (hf y hy)) hm (by rw[hq];exact hw)
 rw[hq]at h
 exact h
set_option maxRecDepth 100000 in
set_option maxHeartbeats 6400000 in
theorem after_ok (va vx:Value) (c:RC) (t1:Bool) (nr dr:Nat) (q:Rat) (m:Nat) (w:World) (ha:zdq w va c) (hv:zzp c) (hx:zdc w vx t1 nr dr) (hp:zfr t1 nr dr) (hfq:fq t1 nr dr=q) (hm:m≤64) (hle:zyp c c.rates.length≤q)
 (h1:∀i j,i<c.rates.length→j<c.rates.length→fits ((zaq c i).getD j 0/q)) (h2:∀i,i<c.rates.length→fits (zgg (zaq c i)/q)∧fits (1-zgg (zaq c i)/q)) (hw:∀i,i<m→wtA c q i≤3800):
 Calls Tryz.prog 48 #[va,vx, .int .i64 (m:Nat)] w (fun e w'=>∃v,e= .returned (.tuple #[v, .int .i64 0])∧zbb w' v (itV c q m)∧Below w.heap.size w w'):=by
 have HFM:=zH (zrq h1 h2)
 have HW:=zH hw
 have HSTEP:Hid (∀ (i:Nat) w0 va vv,i<m→zam w0 va c.rates.length c.rates.length (zfq c q)→zbb w0 vv (itV c q i)→Calls Tryz.prog 84 #[va,vv] w0 fun e w'=>∃v',e= .returned (.tuple #[v', .int .i64 0])∧zbb w' v' (itV c q (i+1))∧Below w0.heap.size w0 w'):=
  zH (fun i w0 va vv hi k1 k2=>cstep_can va vv c q (itV c q i) w0 k1 k2 (znq hv q i) (by have:=hv.2.1;have:=hv.2.2.2.1;omega) (zbt hv i (fun j hj=>hw j (by omega))) (zrq h1 h2) (hw i hi))
 clear hw
 obtain⟨i0,hi,hz0,hz1,hz2⟩:=info_parts Tryz.infoF
 have hM:=zon (P:=Tryz.prog) 25 38 i0 Tryz.underlying25 hi hz0 hz1 (by rw[hz2];decide)
 clear hi hz0 hz1 hz2
 have hlen:c.rates.length=c.start.length:=hv.2.2.2.1
 have h128:c.start.length≤128:=hv.2.1
 obtain⟨rv,sv,lv,rfl,hr,hs,hl⟩:=id ha
 obtain⟨ra,rn,rk,rfl,_⟩:=id hr.sl
 obtain⟨sa,sn,sk,rfl,_⟩:=id hs.sl
 obtain⟨la,ln,lk,rfl,_⟩:=id (zhc.sl hl)
 obtain⟨x1,y1,rfl,hx4,hx5⟩:=id hx
 obtain⟨a11,l11,k11,rfl,_⟩:=hx4.slen.1
 obtain⟨a12,l12,k12,rfl,_⟩:=hx5.slen.1
 have hbx:=zca w (.cells #[.slice ra rn rk, .slice sa sn sk, .slice la ln lk] 28)
 have hb2:=zca (w.alloc (.cells #[.slice ra rn rk, .slice sa sn sk, .slice la ln lk] 28)) (.cells #[.bool t1, .slice a11 l11 k11, .slice a12 l12 k12] 38)
 have HC:=zH ((C3.new w 28 (.slice ra rn rk) (.slice sa sn sk) (.slice la ln lk)).belowS hb2)
 have HR:=zH (C3.newB (b:=w.heap.size+1) (w.alloc (.cells #[.slice ra rn rk, .slice sa sn sk, .slice la ln lk] 28)) 38 (.bool t1) (.slice a11 l11 k11) (.slice a12 l12 k12) (by simp))
 have HBW:=zH (zaa hbx hb2)
 have hsn:sn=c.start.length:=hs.len
 have ssn:=hs.sl
 have HS:=zH (hs.below HBW.out)
 have HA:=zH (ha.below HBW.out)
 have HX:=zH (hx.below HBW.out)
 have HV:=zH hv
 have HF:=zH hp.1
 have HFQ:=zH hfq
 have HPOS:Hid ((!t1&& !decide (nr=0))=true):=zH (by rw[hp.2.1,decide_eq_false hp.2.2];rfl)
 have HQ0:Hid (q≠0):=zH (fun h=>by have:=hp.q;rw[hfq,h]at this;exact absurd this (by decide))
 have HSLOW:Hid (decide (q<zyp c c.rates.length)=false):=zH (decide_eq_false (Rat.not_lt.2 hle))
 have HM:Hid (∀w0 va vx,zdq w0 va c→zdc w0 vx t1 nr dr→Calls Tryz.prog 83 #[va,vx] w0 (fun e w'=>∃v,e= .returned (.tuple #[v, .int .i64 0])∧zam w' v c.rates.length c.rates.length (zfq c q)∧Below w0.heap.size w0 w')):=
  zH (fun w0 va vx k1 k2=>zrs va vx c t1 nr dr q w0 k1 HV.out k2 HF.out HFQ.out HQ0.out h1 h2)
 have HN:Hid (sn=c.rates.length):=zH (by omega)
 have hn128:sn≤128:=by omega
 have hm0:(0:Int)≤(m:Int):=by omega
 have hm64:(m:Int)≤64:=by omega
 clear hr hs hl ha hv hbx hb2 hx hx4 hx5 hp hfq hle h1 h2 hlen h128 hsn
 go_enter Tryz.func48,Tryz.ntmps48
 go_upto_region 1 with fail
 generalize (w.alloc (.cells #[.slice ra rn rk, .slice sa sn sk, .slice la ln lk] 28)).alloc (.cells #[.bool t1, .slice a11 l11 k11, .slice a12 l12 k12] 38)=W2 at *
 obtain⟨_,c0,c1,c2,_,_,_⟩:=HC.out
 obtain⟨_,d0,d1,d2,_,_,_⟩:=HR.out
 go_wp2_with (first
  |(go_at_call 81;(with_reducible refine(zpq _ _ c t1 nr dr _ HA.out HV.out HX.out HF.out).mono ?_);rw[HPOS.out];rintro e1 w1 ⟨rfl,hb1⟩
    have HA1:=zH (HA.out.below hb1)
    have HX1:=zH (HX.out.below hb1)
    have HS1:=zH (HS.out.below hb1)
    have HC1:=zH (HC.out.belowS hb1)
    have HR1:=zH (HR.out.belowS hb1)
    have HB1:=zH (zaa HBW.out hb1)
    clear hb1
    obtain⟨_,c0,c1,c2,_,_,_⟩:=HC1.out
    obtain⟨_,d0,d1,d2,_,_,_⟩:=HR1.out)
  |(go_at_call 82;(with_reducible refine(zir _ _ c t1 nr dr q _ HA1.out HV.out HX1.out HF.out HFQ.out).mono ?_);rw[HSLOW.out];rintro e3 w3 ⟨rfl,hb3⟩
    have HA3:=zH (HA1.out.below hb3)
    have HX3:=zH (HX1.out.below hb3)
    have HS3:=zH (HS1.out.below hb3)
    have HC3:=zH (HC1.out.belowS hb3)
    have HR3:=zH (HR1.out.belowS hb3)
    have HB3:=zH (zaa HB1.out hb3)
    clear hb3 c0 c1 c2 d0 d1 d2
    obtain⟨_,c0,c1,c2,_,_,_⟩:=HC3.out
    obtain⟨_,d0,d1,d2,_,_,_⟩:=HR3.out)
  |(refine hM w3 rfl _ _ rfl w3.heap.size _ sn rfl rfl rfl (by omega) (Nat.le_refl _) ?_;intro vL w6 hO6 hb6 hv6
    have HO6:=zH hO6
    have HB6:=zH hb6
    have slL:=hO6.sl
    have lnL:=hO6.len
    have c0:=zba hb6 c0
    have c1:=zba hb6 c1
    have c2:=zba hb6 c2
    clear hO6 hb6))
 clear hM
 go_loopg [37] (sn) (fun g u37 wr=>∃ (k:Nat),k≤sn∧g=sn-k∧u37= .int .i64 k∧zqb wr 38 w3.heap.size vL sn∧(∀j,j<k→zlg wr vL j ((qs c.start).getD j 0))∧Below w3.heap.size w3 wr)
 case atStart=>exact⟨0,Nat.zero_le _,rfl,rfl,HO6.out,fun j h=>by omega,HB6.out⟩
 case round=>
  obtain⟨k,hkn,hg,rfl,ho,he,hbr⟩:=hrel
  obtain⟨w2,hw2⟩:∃w2,w2=wr:=⟨_,rfl⟩
  subst hw2
  have HG:=zH hg
  have HE:=zH he
  have HO:=zH ho
  have HBR:=zH hbr
  clear hg he HO6 HB6 c0 c1 c2 d0 d1 d2
  by_cases hkl:k<sn
  ·have hk2:k<c.start.length:=by have:=HN.out;have:=HV.out.2.2.2.1;omega
   obtain⟨ea,eb,g1,g2,g3,g4,g5⟩:=(HS3.out.below hbr).at' k hk2
   have HXO:Hid ((c.start[k]'hk2).ok):=zH (HV.out.2.2.2.2.1.ok _ (List.getElem_mem hk2))
   have HXQ:Hid ((qs c.start).getD k 0=(c.start[k]'hk2).q):=zH (by
    have h2:k<(qs c.start).length:=by rw[zgq];exact hk2
    rw[List.getD_eq_getElem?_getD,List.getElem?_eq_getElem h2,Option.getD_some,zqt _ _ hk2])
   obtain⟨x,hxe⟩:∃x,c.start[k]'hk2=x:=⟨_,rfl⟩
   rw[hxe]at g1 g4 g5 HXO HXQ
   obtain⟨ea1,ea2,ea3,rfl,_⟩:=g4.slen.1
   obtain⟨eb1,eb2,eb3,rfl,_⟩:=g5.slen.1
   have hb8:=zca w2 (.cells #[.bool x.neg, .slice ea1 ea2 ea3, .slice eb1 eb2 eb3] 38)
   have HXN:Hid (zdc (w2.alloc (.cells #[.bool x.neg, .slice ea1 ea2 ea3, .slice eb1 eb2 eb3] 38)) (.agg #[.bool x.neg, .slice ea1 ea2 ea3, .slice eb1 eb2 eb3]) x.neg x.n x.d):=zH (zdc.below ⟨_,_,rfl,g4,g5⟩ hb8)
   have j1:(0:Int)≤(k:Int):=by omega
   have j2:(k:Int)<(sn:Nat):=by omega
   clear g4 g5 hxe ho hbr
   go_wp2_with (go_at_call 89;(with_reducible refine(zok _ x _ HXN.out HXO.out).mono ?_);rintro e21 w21 ⟨v21,rfl,hv21,hb21⟩
                obtain⟨t21,x21,y21,rfl,⟨a61,l61,k61,rfl,_⟩,⟨a62,l62,k62,rfl,_⟩⟩:=hv21.isF
                have hbb:=zaa hb8 hb21
                have ho3:=HO.out.below hbb
                obtain⟨c0,d0,_⟩:=ho3.cell (k*3) (by omega)
                obtain⟨c1,d1,_⟩:=ho3.cell (k*3+1) (by omega)
                obtain⟨c2,d2,_⟩:=ho3.cell (k*3+2) (by omega)
                have f0:=ho3.frozen (k*3)
                have f1:=ho3.frozen (k*3+1)
                have f2:=ho3.frozen (k*3+2)
                have n01:=ho3.inj (show k*3≠k*3+1 by omega)
                have n02:=ho3.inj (show k*3≠k*3+2 by omega)
                have n12:=ho3.inj (show k*3+1≠k*3+2 by omega)
                have HS4:=zH (ho3.set3 k (.bool t21) (.slice a61 l61 k61) (.slice a62 l62 k62) (fun z=>by simp) (fun z=>by simp) (fun z=>by simp))
                have HE4:=zH (fun j hj=>(HE.out j hj).below hbb)
                have HO4:=zH ho3
                have HV4:=zH hv21
                have HB4:=zH (zfa HBR.out hbb HBR.out.size)
                clear ho3 hv21 hbb hb21)
   go_roundg (sn- (k+1))
   case measure=>(have:=HG.out;omega)
   case rel=>
    refine⟨k+1,by omega,rfl,by go_num,HS4.out.1,fun j hj=> ?_,HB4.out.trans HS4.out.2⟩
    rcases Nat.lt_or_ge j k with h6 | h6
    ·exact zlg.set3_other HO4.out hkl (by omega) (HE4.out j h6) _ _ _ (fun z=>by simp) (fun z=>by simp)
    ·obtain rfl:j=k:=by omega
     rw[HXQ.out]
     exact zlg.set3 HO4.out hkl HV4.out
  ·obtain rfl:k=sn:=by omega
   have HV0:Hid (zbb w2 vL (itV c q 0)):=zH (HO.out.fracs (by rw[znq HV.out];exact HN.out.symm) (fun j hj=>by
    have h2:j<(qs c.start).length:=hj
    have h3:=HE.out j (by rw[znq HV.out]at hj;rw[HN.out];exact hj)
    rw[List.getD_eq_getElem?_getD,List.getElem?_eq_getElem h2]at h3
    exact h3))
   have HA4:=zH (HA3.out.below hbr)
   have HX4:=zH (HX3.out.below hbr)
   have HB4:=zH (zaa HB3.out hbr)
   obtain⟨_,c0,c1,c2,_,_,_⟩:=HC3.out.belowS hbr
   obtain⟨_,d0,d1,d2,_,_,_⟩:=HR3.out.belowS hbr
   clear ho hbr HO HE HBR HG
   by_cases hm1:m=0
   ·subst hm1
    have hm2:(((0:Nat):Int)==0)=true:=rfl
    go_wp2_with fail
    go_ret2
    exact⟨_,rfl,HV0.out,HB4.out⟩
   ·have hm2:(((m:Nat):Int)==0)=false:=by simp;omega
    go_wp2_with (go_at_call 83;(with_reducible refine(HM.out _ _ _ HA4.out HX4.out).mono ?_);rintro e4 w4 ⟨v4,rfl,hm4,hb4⟩
                 have HM4:=zH hm4
                 have HV4:=zH (HV0.out.below hb4)
                 have HB5:=zH (zaa HB4.out hb4)
                 clear hm4 hb4)
    go_loopg [2,8,12] (m) (fun g u2 u8 u12 wr=>∃ (i:Nat),i≤m∧g=m-i∧u2= .int .i64 ((m:Int)- (i:Int))∧u12= .int .i64 0∧zbb wr u8 (itV c q i)∧Below w4.heap.size w4 wr)
    case atStart=>exact⟨0,Nat.zero_le _,rfl,by simp,rfl,HV4.out,Below.refl _ _⟩
    case round=>
     obtain⟨i,hin,hg,rfl,rfl,hvi,hbi⟩:=hrel
     obtain⟨w5,hw5⟩:∃w5,w5=wr:=⟨_,rfl⟩
     subst hw5
     have HG:=zH hg
     have HVI:=zH hvi
     have HBI:=zH hbi
     have HMI:=zH (HM4.out.below hbi)
     clear hg hvi hbi
     by_cases hil:i<m
     ·have hpos:(0:Int)<(m:Int)- (i:Int):=by omega
      go_wp2_with (go_at_call 84;(with_reducible refine(HSTEP.out i _ _ _ hil HMI.out HVI.out).mono ?_);rintro e6 w6 ⟨v6,rfl,hv6',hb6⟩
                   have HV6:=zH hv6'
                   have HB6:=zH (zaa HBI.out hb6)
                   clear hv6' hb6)
      go_roundg (m- (i+1))
      case measure=>(have:=HG.out;omega)
      case rel=>exact⟨i+1,by omega,rfl,by go_num,rfl,HV6.out,HB6.out⟩
     ·obtain rfl:i=m:=by omega
      have hpos:¬ (0:Int)<(i:Int)- (i:Int):=by omega
      go_wp2_with fail
      go_ret2
      exact⟨_,rfl,HVI.out,zaa HB5.out HBI.out⟩
end Go.Proofs.YtlpdkbmmbdfoiaaGreat
namespace Go.Proofs.YtlpdkbmmbdfoiaaGreat
structure NumI (l:List Int) (k m:Nat) (es:List Int):Prop where
 len:es.length=l.length
 le:m≤k
 pos:∀j,j<k→∃x:Int,es[j]? =some x∧0≤x
 eq:okB l→m=cnt (l.take k)∧∀j,j<k→es[j]? =l[j]?
structure NumJ (l:List Int) (k m t:Nat) (es:List Int):Prop where
 i:NumI l k m es
 lt:k<l.length
 z:∃z:Int,es[k]? =some z∧((z= -1∧∀j,j<t→l[j]? ≠l[k]?)∨∃j,j<t∧j<k∧l[j]? =l[k]? ∧es[j]? =some z)
theorem NumI.zero (l:List Int):NumI l 0 0 (List.replicate l.length 0):=
 ⟨by simp,Nat.le_refl _,fun j h=>by omega,fun _=>⟨rfl,fun j h=>by omega⟩⟩
theorem NumI.over {l:List Int} {k m:Nat} {es:List Int} (h:NumI l k m es) (x:Int):NumI l k m (es.set k x):=
 ⟨by rw[List.length_set];exact h.len,h.le,fun j hj=>by rw[List.getElem?_set_ne (by omega)];exact h.pos j hj,fun ho=>⟨(h.eq ho).1,fun j hj=>by rw[List.getElem?_set_ne (by omega)];exact(h.eq ho).2 j hj⟩⟩
theorem NumI.mark {l:List Int} {k m:Nat} {es:List Int} (h:NumI l k m es) (hk:k<l.length):NumJ l k m 0 (es.set k (-1)):=
 ⟨h.over _,hk,-1,List.getElem?_set_self (by rw[h.len];exact hk),Or.inl ⟨rfl,fun j hj=>by omega⟩⟩
theorem NumJ.hit {l:List Int} {k m t:Nat} {es:List Int} (h:NumJ l k m t es) (ht:t<k) (he:l[t]? =l[k]?) {x:Int} (hx:es[t]? =some x):NumJ l k m (t+1) (es.set k x):=
 ⟨h.i.over _,h.lt,x,List.getElem?_set_self (by rw[h.i.len];exact h.lt),Or.inr ⟨t,by omega,ht,he,by rw[List.getElem?_set_ne (by omega)];exact hx⟩⟩
theorem NumJ.miss {l:List Int} {k m t:Nat} {es:List Int} (h:NumJ l k m t es) (he:l[t]? ≠l[k]?):NumJ l k m (t+1) es:=by
 obtain⟨h1,h2,z,h3,h4⟩:=h
 refine⟨h1,h2,z,h3,?_⟩
 rcases h4 with⟨h5,h6⟩ | ⟨j,h5,h6⟩
 ·refine Or.inl ⟨h5,fun j hj=> ?_⟩
  by_cases hjt:j=t
  ·subst hjt;exact he
  ·exact h6 j (by omega)
 ·exact Or.inr ⟨j,by omega,h6⟩
theorem NumJ.neg {l:List Int} {k m:Nat} {es:List Int} (h:NumJ l k m k es) {z:Int} (hz:es[k]? =some z) (hn:z<0):NumI l (k+1) (m+1) (es.set k (m:Int)):=by
 obtain⟨h1,h2,z',h3,h4⟩:=h
 rw[hz]at h3
 injection h3 with h3
 subst h3
 refine⟨by rw[List.length_set];exact h1.len,by have:=h1.le;omega,fun j hj=> ?_,fun ho=> ?_⟩
 ·by_cases hjk:j=k
  ·subst hjk;exact⟨m,List.getElem?_set_self (by rw[h1.len];exact h2),by omega⟩
  ·rw[List.getElem?_set_ne (by omega)];exact h1.pos j (by omega)
 ·have h5:∀j,j<k→l[j]? ≠l[k]? :=by
   rcases h4 with⟨_,h6⟩ | ⟨j,h6,h7,h8,h9⟩
   ·exact h6
   ·obtain⟨x,e1,e2⟩:=h1.pos j h7
    rw[h9]at e1
    injection e1 with e1
    omega
  obtain⟨e1,e2⟩:=h1.eq ho
  have hkk:l[k]=(cnt (l.take k):Int):=by
   obtain⟨o1,o2⟩:=ho k _ (List.getElem?_eq_getElem h2)
   by_cases h6:l[k]=(cnt (l.take k):Int)
   ·exact h6
   ·exfalso
    obtain⟨j,g1,g2⟩:=zuy ho k (l[k].toNat) (by omega)
    exact h5 j g1 (by rw[g2,List.getElem?_eq_getElem h2];congr 1;omega)
  refine⟨by rw[zww _ _ h2,if_pos hkk,e1],fun j hj=> ?_⟩
  by_cases hjk:j=k
  ·subst hjk;rw[List.getElem?_set_self (by rw[h1.len];exact h2),List.getElem?_eq_getElem h2,hkk,e1]
  ·rw[List.getElem?_set_ne (by omega)];exact e2 j (by omega)
theorem NumJ.pos {l:List Int} {k m:Nat} {es:List Int} (h:NumJ l k m k es) {z:Int} (hz:es[k]? =some z) (hn:¬z<0):NumI l (k+1) m es:=by
 obtain⟨h1,h2,z',h3,h4⟩:=h
 rw[hz]at h3
 injection h3 with h3
 subst h3
 rcases h4 with⟨h5,_⟩ | ⟨j,h6,h7,h8,h9⟩
 ·omega
 refine⟨h1.len,by have:=h1.le;omega,fun i hi=> ?_,fun ho=> ?_⟩
 ·by_cases hik:i=k
  ·subst hik;exact⟨z,hz,by omega⟩
  ·exact h1.pos i (by omega)
 ·obtain⟨e1,e2⟩:=h1.eq ho
  have e3:=e2 j h7
  rw[h9,h8]at e3
  have hlt:=okB_new ho (show l[j]? =some l[k]by rw[h8,List.getElem?_eq_getElem h2]) h7
  refine⟨by rw[zww _ _ h2,if_neg (by omega),e1],fun i hi=> ?_⟩
  by_cases hik:i=k
  ·subst hik;rw[hz,e3]
  ·exact e2 i (by omega)
theorem NumI.done {l:List Int} {m:Nat} {es:List Int} (h:NumI l l.length m es) (ho:okB l):es=l:=by
 refine List.ext_getElem? (fun j=> ?_)
 by_cases hj:j<l.length
 ·exact(h.eq ho).2 j hj
 ·rw[List.getElem?_eq_none (by rw[h.len];omega),List.getElem?_eq_none (by omega)]
end Go.Proofs.YtlpdkbmmbdfoiaaGreat
