/-
  package drydocklaw22: LumpProof.
-/
import Derived.Test.YtlpdkbmmbdfoiaaGreatHSz1
import Derived.Test.YtlpdkbmmbdfoiaaGreatHSp10
import Derived.Test.YtlpdkbmmbdfoiaaGreatHGn
import Derived.Test.YtlpdkbmmbdfoiaaGreatHSa1
import Derived.Test.YtlpdkbmmbdfoiaaGreatHOth
import Derived.Test.YtlpdkbmmbdfoiaaGreatHGw7
import Derived.Test.YtlpdkbmmbdfoiaaGreatHOv
import Derived.Test.YtlpdkbmmbdfoiaaGreatHGw8
import Derived.Test.YtlpdkbmmbdfoiaaGreatHOri
import Derived.Test.YtlpdkbmmbdfoiaaGreatHRb8
import Derived.Lib.SliceRun
import Derived.Deep.CutRange
import Derived.Deep.DeepCutAuto
import Derived.Deep.LoopGhost
set_option linter.unusedVariables false
set_option linter.unusedSimpArgs false
namespace Go.Proofs.YtlpdkbmmbdfoiaaGreat
open Go.RowKit
theorem zor :∀z,Value.slice none 0 0≠ .int .i64 z:=fun z=>by simp
def Fr (w:World) (bt:Nat) (wx:World):Prop:=C3 wx w.heap.size (.slice none 0 0) (.slice none 0 0) (.slice none 0 0)∧(∀B,B≤bt→B≤w.heap.size→Below B w wx)
theorem Fr.below {w wx wy:World} {bt:Nat} (h:Fr w bt wx) (hb:Below wx.heap.size wx wy):Fr w bt wy:=
 ⟨h.1.belowS hb,fun B h1 h2=>(h.2 B h1 h2).trans (hb.mono (by have:=h.1.lt;omega))⟩
theorem Fr.tick {w wx wy:World} {bt a:Nat} {l:List Nat} (h:Fr w bt wx) (ht:znb wx bt l a) (hk:zyl bt wx wy):Fr w bt wy:=
 ⟨h.1.tick ht hk zor zor zor,fun B h1 h2=>(h.2 B h1 h2).trans (hk.below h1 (by have:=h.1.lt;omega))⟩
theorem Fr.low {w wx wy:World} {bt B:Nat} (h:Fr w bt wx) (hb:Below B wx wy) (hB:w.heap.size<B):Fr w bt wy:=
 ⟨h.1.below hb hB,fun B' h1 h2=>(h.2 B' h1 h2).trans (hb.mono (by omega))⟩
theorem Fr.set {w wx:World} {bt:Nat} (h:Fr w bt wx) (p:Addr) (hp:w.heap.size<p.block) (u:Value):Fr w bt (wx.setCell p u):=
 ⟨h.1.other p u (by omega),fun B' h1 h2=>(h.2 B' h1 h2).setCell (by omega) u⟩
theorem zlc.over {w:World} {e:TypeId} {B size n:Nat} {v:Value} {xs:List Value} (h:zlc w e B size v n xs) {p:Addr} (hp:v.ownBlock=none∨v.ownBlock≠some p.block) (u:Value):zlc (w.setCell p u) e B size v n xs:=by
 have key:∀g,v.ownBlock=some g→(w.setCell p u).heap[g]? =w.heap[g]? :=fun g hg=>Below.heap_setCell _ _ _ _ (by
  intro e;rcases hp with h1 | h1
  ·rw[hg]at h1;cases h1
  ·exact h1 (by rw[hg,e]))
 refine⟨⟨h.own.1,?_⟩,fun g hg cur e' fz hc=> ?_⟩
 ·rcases h.own.2 with h' | ⟨g,cap,cur,rfl,hb,hg,rest⟩
  ·exact .inl h'
  ·exact .inr ⟨g,cap,cur,rfl,hb,by rw[key g rfl];exact hg,rest⟩
 ·rw[key g hg]at hc
  exact h.nl g hg cur e' fz hc
theorem zya.over {w:World} {e:TypeId} {B:Nat} {v:Value} {q:List Rat} (h:zya w e B v q) {p:Addr} {x:Value} (hp:v.ownBlock=none∨v.ownBlock≠some p.block) (hc:w.cell? p=some x) (hx:∀z,x≠ .int .u32 z) (u:Value):zya (w.setCell p u) e B v q:=by
 obtain⟨xs,h1,h2⟩:=h
 refine⟨xs,h1.over hp u,fun j hj=> ?_⟩
 obtain⟨a,b,e1,e2,e3,e4,e5⟩:=h2 j hj
 exact⟨a,b,e1,e2,e3,⟨e4.1.over hc hx u,e4.2⟩,⟨e5.1.over hc hx u,e5.2⟩⟩
theorem zhb.high {B:Nat} {w0 w:World} (h:zhb B w0 w) {p:Addr} {x:Value} (hp:w0.heap.size≤p.block) (hc:w.cell? p=some x) (hx:∀z,x≠ .int .u32 z) (u:Value):zhb B w0 (w.setCell p u):=by
 refine⟨by simpa [World.setCell]using h.size,fun g h1 h2=> ?_,fun q z hq=> ?_⟩
 ·rw[Below.heap_setCell _ _ _ _ (by omega)];exact h.row g h1 h2
 ·rw[World.cell?_setCell_other]
  ·exact h.limb q z hq
  ·intro e
   have:=h.limb q z hq
   rw[←e,hc]at this
   injection this with this
   exact hx _ this
theorem zhb.grow {B:Nat} {w0 w w':World} {v:Value} (h:zhb B w0 w) (hg:w.grownBy w' v.ownBlock) (hn:zlb w v) (hv:∀k,v.ownBlock=some k→w0.heap.size≤k):zhb B w0 w':=by
 have hs:w.heap.size≤w'.heap.size:=hg.size
 refine⟨Nat.le_trans h.size hs,fun g h1 h2=> ?_,fun q z hq=> ?_⟩
 ·rw[hg.block g (Nat.lt_of_lt_of_le h2 h.size) (fun e=>by have:=hv g e.symm;omega)]
  exact h.row g h1 h2
 ·have hc:=h.limb q z hq
  refine hg.cell hc (fun e=> ?_)
  have h2:=hn q.block e.symm
  unfold World.cell? at hc
  split at hc
  ·rename_i cur e' fz hh
   split at hc
   ·cases hc
   ·exact h2 cur e' fz hh _ (by have:=Array.mem_of_getElem? hc;simpa using this) _ rfl
  ·cases hc
structure InS (w0:World) (bt:Nat) (l:List Nat) (B b5:Nat) (vr vs vl:Value) (wA:World) (rv:Value) (row:List Rat) (w:World):Prop where
 fr:zya w 38 wA.heap.size rv row
 mv:zhb B wA w
 tp:∃a,zvf w bt l B a
 bx:C3 w b5 vr vs vl
 fm:Fr w0 bt w
 nums:bt<B∧b5<B∧w0.heap.size<B∧B≤wA.heap.size∧zgc vr∧zgc vs∧zgc vl
section
variable {w0 wA w w':World} {bt B b5:Nat} {l:List Nat} {vr vs vl rv:Value} {row:List Rat}
theorem InS.below (h:InS w0 bt l B b5 vr vs vl wA rv row w) (hb:Below w.heap.size w w'):InS w0 bt l B b5 vr vs vl wA rv row w':=by
 obtain⟨fr,mv,⟨a,tp⟩,bx,fm,nums⟩:=h
 exact⟨fr.moves (zhb.below hb) (Nat.le_refl _),mv.trans (zhb.below hb),⟨a,tp.below hb⟩,bx.belowS hb,fm.below hb,nums⟩
theorem InS.tick (h:InS w0 bt l B b5 vr vs vl wA rv row w) {a':Nat} (ht:zyl bt w w') (hta:znb w' bt l a'):InS w0 bt l B b5 vr vs vl wA rv row w':=by
 obtain⟨fr,mv,⟨a,tp⟩,bx,fm,n1,n2,n3,n4,n5,n6,n7⟩:=h
 have hm:zhb B w w':=zhb.tick tp.1 n1 ht
 exact⟨fr.moves hm n4,mv.trans hm,⟨a',tp.tick ht hta⟩,bx.tick tp.1 ht n5.noInt n6.noInt n7.noInt,fm.tick tp.1 ht,n1,n2,n3,n4,n5,n6,n7⟩
theorem InS.set (h:InS w0 bt l B b5 vr vs vl wA rv row w) {p:Addr} {x:Value} (hp:wA.heap.size≤p.block) (hr:rv.ownBlock=none∨rv.ownBlock≠some p.block) (hc:w.cell? p=some x) (hx:∀z,x≠ .int .u32 z) (hx8:∀z,x≠ .int .u8 z) (u:Value):
 InS w0 bt l B b5 vr vs vl wA rv row (w.setCell p u):=by
 obtain⟨fr,mv,⟨a,tp⟩,bx,fm,n1,n2,n3,n4,n5,n6,n7⟩:=h
 exact⟨fr.over hr hc hx u,mv.high hp hc hx u,⟨a,tp.set (by omega) hc hx8 u⟩,bx.other p u (by omega),fm.set p (by omega) u,n1,n2,n3,n4,n5,n6,n7⟩
theorem InS.grow (h:InS w0 bt l B b5 vr vs vl wA rv row w) {rv':Value} {row':List Rat} (hv:zya w' 38 wA.heap.size rv' row') (hg:w.grownBy w' rv.ownBlock) (hn:zlb w rv):InS w0 bt l B b5 vr vs vl wA rv' row' w':=by
 obtain⟨fr,mv,⟨a,tp⟩,bx,fm,n1,n2,n3,n4,n5,n6,n7⟩:=h
 have hb:Below wA.heap.size w w':=zid hg mv.size fr.block
 have hb2:=hb.mono n4
 exact⟨hv,mv.grow hg hn (fun k hk=>(fr.block k hk).1),⟨a,tp.low hb2 n1⟩,bx.below hb2 n2,fm.low hb2 n3,n1,n2,n3,n4,n5,n6,n7⟩
theorem InS.set3 (h:InS w0 bt l B b5 vr vs vl wA rv row w) {b:Nat} {t0:Bool} {x0 y0:Value} (hC:C3 w b (.bool t0) x0 y0) (sx:zgc x0) (sy:zgc y0) (hb:wA.heap.size≤b) (hr:rv.ownBlock=none∨rv.ownBlock≠some b) (u0 u1 u2:Value):
 InS w0 bt l B b5 vr vs vl wA rv row (((w.setCell ⟨b,0,none⟩ u0).setCell ⟨b,1,none⟩ u1).setCell ⟨b,2,none⟩ u2):=by
 obtain⟨_,c0,c1,c2,_,_,_⟩:=hC
 have h1:=h.set (p:=⟨b,0,none⟩) hb hr c0 (fun z=>by simp) (fun z=>by simp) u0
 have h2:=h1.set (p:=⟨b,1,none⟩) hb hr (by rw[World.cell?_setCell_other _ _ _ _ (by simp)];exact c1) sx.noLimb sx.noByte u1
 exact h2.set (p:=⟨b,2,none⟩) hb hr (by rw[World.cell?_setCell_other _ _ _ _ (by simp),World.cell?_setCell_other _ _ _ _ (by simp)];exact c2) sy.noLimb sy.noByte u2
theorem InS.start {rs:List Value} {rates:List (List Rat)} {start:List Rat} {lost:List Bool} (c:ChW wA bt l B b5 vr vs vl rs rates start lost) (hF:Fr w0 bt wA) (hw:w0.heap.size<B):InS w0 bt l B b5 vr vs vl wA (.slice none 0 0) [] wA:=
 ⟨zya.nil _ _ _,zhb.refl _ _,c.tape,c.box,hF,c.bt5.1,c.bt5.2.1,hw,c.sz,c.ra.sl,c.st.sl,c.lo.sl⟩
theorem InS.chw {rs:List Value} {rates:List (List Rat)} {start:List Rat} {lost:List Bool} (h:InS w0 bt l B b5 vr vs vl wA rv row w) (c:ChW wA bt l B b5 vr vs vl rs rates start lost):ChW w bt l B b5 vr vs vl rs rates start lost∧zya w 38 B rv row∧(rv.ownBlock=none∨rv.ownBlock≠vs.ownBlock):=by
 refine⟨c.of h.mv h.tp h.bx,h.fr.mono c.sz,?_⟩
 cases ho:rv.ownBlock with
 | none=>exact Or.inl rfl
 | some g=>
   refine Or.inr (fun e=> ?_)
   have h1:=h.fr.block g ho
   have h2:=c.st.block g e.symm
   omega
theorem ChW.chainC {rs:List Value} {rates:List (List Rat)} {start:List Rat} {lost:List Bool} (h:ChW w bt l B b5 vr vs vl rs rates start lost):zlq w (.agg #[vr,vs,vl]) ⟨rates,start,lost⟩:=by
 refine⟨vr,vs,vl,rfl,⟨h.ra.sl,by rw[h.ra.len];exact h.rl,fun j hj=> ?_⟩,h.st.fracs,⟨h.lo.sl,h.lo.len,fun j hj=>h.lo.cell j hj⟩⟩
 have hj2:j<rs.length:=by rw[h.rl];exact hj
 exact⟨rs[j],h.ra.cell j hj2,(h.rows j hj2 hj).1.fracs⟩
theorem ChW.set3 {rs:List Value} {rates:List (List Rat)} {start:List Rat} {lost:List Bool} (h:ChW w bt l B b5 vr vs vl rs rates start lost) {b:Nat} (hC:C3 w b (.slice none 0 0) (.slice none 0 0) (.slice none 0 0)) (hb:b<B) (hbt:b≠bt) (hb5:b≠b5) (u0 u1 u2:Value):
 ChW (((w.setCell ⟨b,0,none⟩ u0).setCell ⟨b,1,none⟩ u1).setCell ⟨b,2,none⟩ u2) bt l B b5 vr vs vl rs rates start lost:=by
 obtain⟨_,c0,c1,c2,_,_,_⟩:=hC
 have c1':(w.setCell ⟨b,0,none⟩ u0).cell? ⟨b,1,none⟩=some (.slice none 0 0):=by rw[World.cell?_setCell_other _ _ _ _ (by simp)];exact c1
 have c2':((w.setCell ⟨b,0,none⟩ u0).setCell ⟨b,1,none⟩ u1).cell? ⟨b,2,none⟩=some (.slice none 0 0):=by rw[World.cell?_setCell_other _ _ _ _ (by simp),World.cell?_setCell_other _ _ _ _ (by simp)];exact c2
 have one:∀ (w:World) (k:Nat) (u:Value),ChW w bt l B b5 vr vs vl rs rates start lost→w.cell? ⟨b,k,none⟩=some (.slice none 0 0)→ChW (w.setCell ⟨b,k,none⟩ u) bt l B b5 vr vs vl rs rates start lost:=fun w k u h hc=>by
  obtain⟨a,ht⟩:=h.tape
  exact h.of (zhb.set hb hc (fun z=>by simp) u) ⟨a,ht.set hbt hc (fun z=>by simp) u⟩ (h.box.other _ u hb5)
 exact one _ 2 u2 (one _ 1 u1 (one _ 0 u0 h c0) c1') c2'
end
end Go.Proofs.YtlpdkbmmbdfoiaaGreat
namespace Go.Proofs.YtlpdkbmmbdfoiaaGreat
theorem zeq.one' :zeq 1:=⟨1,1,by decide,by decide,by decide,by decide⟩
theorem zeq.over {q:Rat} (h:zeq q):over 720 28800 q:=by
 obtain⟨a,b,ha,hb,hb2,rfl⟩:=h
 refine⟨((a*(720/b):Nat):Int),?_,?_⟩
 ·have h1:b*(720/b)=720:=by
   rcases(show b=1∨b=2∨b=3∨b=4 by omega)with rfl | rfl | rfl | rfl<;>rfl
  have h2:(720/b:Nat)≠0:=by
   rcases(show b=1∨b=2∨b=3∨b=4 by omega)with rfl | rfl | rfl | rfl<;>decide
  rw[zjr a b (720/b) h2,h1]
  rfl
 ·have h3:720/b≤720:=Nat.div_le_self _ _
  have h4:a*(720/b)≤4*720:=Nat.mul_le_mul ha h3
  rw[Int.natAbs_natCast]
  omega
theorem zju (c:CQ) (i j:Nat):rq c.raw i j=(c.rates.getD i []).getD j 0:=by
 unfold rq
 show(zaq c.raw i).getD j 0=_
 unfold zaq
 simp only[CQ.raw,List.getD_eq_getElem?_getD,List.getElem?_map]
 cases c.rates[i]? with
 | none=>simp[qs]
 | some r=>simp[zbu]
theorem zrr.sm {c:CQ} (h:zrr c):SmC c.raw where
 n5:=by simp[CQ.raw];have:=h.rl;have:=h.n5;omega
 r:=fun i j hi hj=>by
  rw[zju]
  have hl:c.raw.rates.length=c.start.length:=by simp[CQ.raw];exact h.rl
  exact(h.rate (by omega) (by omega)).over
 s:=fun i hi=>by
  have hl:c.raw.rates.length=c.start.length:=by simp[CQ.raw];exact h.rl
  show over 720 28800 ((qs (c.start.map RF.of)).getD i 0)
  rw[zbu,List.getD_eq_getElem?_getD,List.getElem?_eq_getElem (by omega)]
  exact(h.st _ (List.getElem_mem _)).over
theorem zhs :zrr (cTwo (mkRat 1 3)):=by
 have h13:zeq (mkRat 1 3):=⟨1,3,by decide,by decide,by decide,rfl⟩
 have hs:∀ {a b:Rat},zeq a→zeq b→∀q∈ [a,b],zeq q:=fun{a b} ha hb q hq=>by
  simp at hq
  rcases hq with rfl | rfl
  ·exact ha
  ·exact hb
 refine⟨by decide,by decide,rfl,rfl,hs zeq.one' zeq.zero,by decide+kernel,fun i r hr=> ?_⟩
 have hi:i<2:=(List.getElem?_eq_some_iff.1 hr).1
 rcases(show i=0∨i=1 by omega)with rfl | rfl
 ·obtain rfl: [0,mkRat 1 3]=r:=by simpa [cTwo]using hr
  exact⟨rfl,hs zeq.zero h13,fun x hx=>by simpa using hx.symm,fun h=>by simp[cTwo]at h⟩
 ·obtain rfl: [0,0]=r:=by simpa [cTwo]using hr
  exact⟨rfl,hs zeq.zero zeq.zero,fun x hx=>by simpa using hx.symm,fun _ q hq=>by simpa using hq⟩
theorem lk_over {c:RC} {l:List Nat} (hv:zzp c) (hk:LK c.rates.length (rq c) (ziq c) l) (hs:SmC c) {b X:Nat→Rat} (hb:∀i,i<l.length→over 720 230400 (b i))
 (hx:∀i,i<l.length→sg l.length (fun j=>mmA (fun i j=>rq c (l.getD i 0) (l.getD j 0)) (fun i=>sg c.rates.length (rq c (l.getD i 0))) i j*X (l.getD j 0))=b i):
 ∃E,E≠0∧E<2^220∧∀t,t∈l→over E (2^240) (X t):=by
 have hle:l.length≤c.rates.length:=by
  have h1:=zjt (lo:=0) (n:=c.rates.length) hk.so fun x hx=>⟨Nat.zero_le _,hk.lt x hx⟩
  omega
 have h5:l.length<6:=by have:=hs.n5;omega
 have hA:∀i j,i<l.length→j<l.length→over 720 230400 (mmA (fun i j=>rq c (l.getD i 0) (l.getD j 0)) (fun i=>sg c.rates.length (rq c (l.getD i 0))) i j):=fun i j hi hj=>by
  have h1:=hk.lt _ (zcq hi)
  have h2:=hk.lt _ (zcq hj)
  unfold mmA
  split
  ·exact(over.sg (by decide) fun t ht=>hs.r _ t h1 ht).mono (by have:=hs.n5;omega)
  ·exact(over.neg (hs.r _ _ h1 h2)).mono (by decide)
 obtain⟨E,hE,hEb,hI⟩:=sol_gen (n:=l.length) (D:=720) (B:=230400) (by decide) (by decide) hA (hk.dt (zcv hv)) (F:=720) (K:=230400) (by decide) hb hx
 have hB:=dtB5 _ h5
 refine⟨E*720,Nat.mul_ne_zero hE (by decide),?_,fun t ht=> ?_⟩
 ·exact Nat.lt_of_le_of_lt (Nat.mul_le_mul_right _ (Nat.le_trans hEb (Nat.le_of_lt hB))) (show 2^200*720<2^220 by decide+kernel)
 ·obtain⟨i,hi,rfl⟩:=zbv ht
  refine(hI i hi).mono ?_
  exact Nat.le_trans (Nat.mul_le_mul (show l.length≤5 by omega) (Nat.mul_le_mul_right _ (Nat.le_of_lt hB))) (show 5*(2^200*230400)≤2^240 by decide+kernel)
theorem hit_lk (n:Nat) (r:Mx) (lost:Nat→Prop):LK n r lost (lsP n fun s=>FT n r lost s∧¬lost s) where
 so:=lsP_so _ _
 lt:=fun s h=>(zhq.1 h).1
 nl:=fun s h=>(zhq.1 h).2.2
 ft:=fun s h=>(zhq.1 h).2.1
 cl:=fun s t h ht hp=>by
  by_cases h1:lost t
  ·exact Or.inr (Or.inl h1)
  ·by_cases h2:FT n r lost t
   ·exact Or.inl (zhq.2 ⟨ht,h2,h1⟩)
   ·exact Or.inr (Or.inr h2)
theorem over_big {E:Nat} (hE:E≠0) (hEb:E<2^220):over E (2^240) 1:=(over.one hE).mono (Nat.le_of_lt (Nat.lt_trans hEb (by decide+kernel)))
structure HitS (c:RC) (H:Nat→Rat):Prop where
 hit:HitC c H
 ov:∃E,E≠0∧E<2^220∧∀t,t<c.rates.length→over E (2^240) (H t)
structure TimeS (c:RC) (T:Nat→Rat):Prop where
 time:TimeC c T
 z:∀t,t<c.rates.length→¬Sure c.rates.length (rq c) (ziq c) t→T t=0
 ov:∃E,E≠0∧E<2^220∧∀t,t<c.rates.length→over E (2^240) (T t)
theorem hitC_over {c:RC} {H:Nat→Rat} (hv:zzp c) (hs:SmC c) (hH:HitC c H):∃E,E≠0∧E<2^220∧∀t,t<c.rates.length→over E (2^240) (H t):=by
 have hk:=hit_lk c.rates.length (rq c) (ziq c)
 generalize hl:lsP c.rates.length (fun s=>FT c.rates.length (rq c) (ziq c) s∧¬ziq c s)=l at hk
 have hb1:∀i,i<l.length→over 720 230400 (0+sg c.rates.length fun t=>if t∈l then 0 else rq c (l.getD i 0) t*H t):=fun i hi=>by
  rw[Rat.zero_add]
  refine(over.sg (B:=28800) (by decide) fun t ht=> ?_).mono (by have:=hs.n5;omega)
  split
  ·exact over.zero _ _
  ·rename_i hm
   by_cases h1:ziq c t
   ·rw[hH.one t ht h1,Rat.mul_one];exact hs.r _ _ (hk.lt _ (zcq hi)) ht
   ·by_cases h2:FT c.rates.length (rq c) (ziq c) t
    ·exact absurd (hl▸zhq.2 ⟨ht,h2,h1⟩) hm
    ·rw[hH.no t ht h2,Rat.mul_zero];exact over.zero _ _
 obtain⟨E,hE,hEb,hX⟩:=lk_over (X:=H) (b:=fun i=>0+sg c.rates.length fun t=>if t∈l then 0 else rq c (l.getD i 0) t*H t) hv hk hs hb1 (fun i hi=>hk.eq (zcv hv) (X:=H) (b:=fun _=>0) hi (by rw[Rat.zero_add];exact hH.eq _ (hk.lt _ (zcq hi)) (hk.nl _ (zcq hi))))
 refine⟨E,hE,hEb,fun t ht=> ?_⟩
 by_cases h1:ziq c t
 ·rw[hH.one t ht h1];exact over_big hE hEb
 ·by_cases h2:FT c.rates.length (rq c) (ziq c) t
  ·exact hX t (hl▸zhq.2 ⟨ht,h2,h1⟩)
  ·rw[hH.no t ht h2];exact over.zero _ _
theorem hit_s {c:RC} (hv:zzp c) (hs:SmC c):∃H,HitS c H:=by
 obtain⟨H,hH⟩:=hit_ex (zcv hv)
 exact⟨H,hH,hitC_over hv hs hH⟩
theorem TimeC.s {c:RC} {T:Nat→Rat} (hv:zzp c) (hs:SmC c) (hT:TimeC c T) (hz:∀t,t<c.rates.length→¬Sure c.rates.length (rq c) (ziq c) t→T t=0):TimeS c T:=by
 refine⟨hT,hz,?_⟩
 have hk:=sure_lk c.rates.length (rq c) (ziq c)
 have h1:∀t,t<c.rates.length→t∉lsP c.rates.length (fun s=>Sure c.rates.length (rq c) (ziq c) s∧¬ziq c s)→T t=0:=fun t ht h=>by
  by_cases hl:ziq c t
  ·exact hT.zero t ht hl
  ·exact hz t ht fun hu=>h (zhq.2 ⟨ht,hu,hl⟩)
 have h2:∀s,s∈lsP c.rates.length (fun s=>Sure c.rates.length (rq c) (ziq c) s∧¬ziq c s)→sg c.rates.length (rq c s)*T s=1+sg c.rates.length fun t=>rq c s t*T t:=fun s hs2=>by
  have h:=zhq.1 hs2
  exact hT.eq s h.1 h.2.2 h.2.1
 generalize hl:lsP c.rates.length (fun s=>Sure c.rates.length (rq c) (ziq c) s∧¬ziq c s)=l at hk h1 h2
 have hb1:∀i,i<l.length→over 720 230400 (1+sg c.rates.length fun t=>if t∈l then 0 else rq c (l.getD i 0) t*T t):=fun i hi=>by
  have e:(sg c.rates.length fun t=>if t∈l then 0 else rq c (l.getD i 0) t*T t)=0:=sg_zero' fun t ht=>by
   split
   ·rfl
   ·rename_i hm;rw[h1 t ht hm,Rat.mul_zero]
  rw[e,Rat.add_zero]
  exact(over.one (D:=720) (by decide)).mono (by decide)
 obtain⟨E,hE,hEb,hX⟩:=lk_over (X:=T) (b:=fun i=>1+sg c.rates.length fun t=>if t∈l then 0 else rq c (l.getD i 0) t*T t) hv hk hs hb1 (fun i hi=>hk.eq (zcv hv) (X:=T) (b:=fun _=>1) hi (h2 _ (zcq hi)))
 refine⟨E,hE,hEb,fun t ht=> ?_⟩
 by_cases hm:t∈l
 ·exact hX t hm
 ·rw[h1 t ht hm];exact over.zero _ _
theorem time_s {c:RC} (hv:zzp c) (hs:SmC c):∃T,TimeS c T:=by
 have hk:=sure_lk c.rates.length (rq c) (ziq c)
 obtain⟨T,h1,h2⟩:=hk.ex (zcv hv) (fun _=>0) (fun _=>1)
 have hT:TimeC c T:=⟨fun s hs h=>h1 s fun hmem=>(zhq.1 hmem).2.2 h,fun s hs h hu=>h2 s (zhq.2 ⟨hs,hu,h⟩)⟩
 exact⟨T,hT.s hv hs fun t ht h=>h1 t fun hmem=>h (zhq.1 hmem).2.1⟩
end Go.Proofs.YtlpdkbmmbdfoiaaGreat
namespace Go.Proofs.YtlpdkbmmbdfoiaaGreat
open Go.RowKit
def AllS (c:RC):Prop:=∀j,j<c.rates.length→Rch c j→Ftl c j
theorem rch_from {c:RC} {t:Nat} (h:Rch c t):∃s,s<c.rates.length∧0<(qs c.start).getD s 0∧RC1 c.rates.length (rq c) (fun j=>j=s) t:=by
 induction h with
 | base hi hS=>exact⟨_,hi,hS,Clo.base hi rfl⟩
 | step hc hj hL ih=>
   obtain⟨s,h1,h2,h3⟩:=ih
   exact⟨s,h1,h2,Clo.step h3 hj hL⟩
theorem rch_to {c:RC} {s t:Nat} (hs:0<(qs c.start).getD s 0) (h:RC1 c.rates.length (rq c) (fun j=>j=s) t):Rch c t:=by
 induction h with
 | base hi hS=>subst hS;exact Clo.base hi hs
 | step hc hj hL ih=>exact Clo.step ih hj hL
theorem alls_iff (c:RC):AllS c↔∀s,s<c.rates.length→0<(qs c.start).getD s 0→Sure c.rates.length (rq c) (ziq c) s:=by
 constructor
 ·intro h s hs h0 t ht
  exact h t (Clo.lt ht) (rch_to h0 ht)
 ·intro h t ht hr
  obtain⟨s,h1,h2,h3⟩:=rch_from hr
  exact h s h1 h2 t h3
def RMeanF (w0:World) (P:Prop) (R:Rat) (e:Ending) (w:World):Prop:=
 (P∧RF0 w0 R e w)∨(¬P∧e= .returned (.tuple #[.agg #[.bool false, .slice none 0 0, .slice none 0 0], .int .i64 14])∧Below w0.heap.size w0 w)
theorem RMean.f {w0:World} {c:RC} {R:Rat} {e:Ending} {w:World} (h:RMean w0 c R e w):RMeanF w0 (AllS c) R e w:=by
 rcases h with h | ⟨⟨j,h1,h2,h3⟩,h4⟩
 ·exact Or.inl h
 ·exact Or.inr ⟨fun h=>h3 (h j h1 h2),h4⟩
structure TC (c:CQ) (H T:Nat→Rat):Prop where
 tape:zrr c
 hit:HitS c.raw H
 time:TimeS c.raw T
abbrev SureQ (c:CQ) (i:Nat):Prop:=Sure c.raw.rates.length (rq c.raw) (ziq c.raw) i
theorem tape_tc {c:CQ} (h:zrr c):∃H T,TC c H T:=by
 obtain⟨H,hH⟩:=hit_s h.valid h.sm
 obtain⟨T,hT⟩:=time_s h.valid h.sm
 exact⟨H,T,h,hH,hT⟩
section
variable {c:CQ} {H T:Nat→Rat}
theorem TC.len (h:TC c H T):c.raw.rates.length=c.start.length:=by
 have:=h.tape.rl
 simp[CQ.raw];exact this
theorem TC.hit_c (h:TC c H T) {va:Value} {w:World} (ha:zdq w va c.raw):Calls Tryz.prog 43 #[va] w (RF0 w (stS c.raw H)):=Go.Proofs.YtlpdkbmmbdfoiaaGreat.hit_c ha h.tape.valid h.tape.sm h.hit.hit
theorem TC.mean_c (h:TC c H T) {va:Value} {w:World} (ha:zdq w va c.raw):Calls Tryz.prog 45 #[va] w (RMeanF w (AllS c.raw) (stS c.raw T)):=
 (Go.Proofs.YtlpdkbmmbdfoiaaGreat.mean_c ha h.tape.valid h.tape.sm h.time.time).mono fun _ _ k=>k.f
theorem TC.sH (h:TC c H T):stS c.raw H=sg c.start.length fun t=>c.start.getD t 0*H t:=by
 have e:qs c.raw.start=c.start:=zbu _
 unfold stS
 rw[e,h.len]
theorem TC.sT (h:TC c H T):stS c.raw T=sg c.start.length fun t=>c.start.getD t 0*T t:=by
 have e:qs c.raw.start=c.start:=zbu _
 unfold stS
 rw[e,h.len]
theorem TC.alls (h:TC c H T):AllS c.raw↔∀s,s<c.start.length→0<c.start.getD s 0→SureQ c s:=by
 have e:qs c.raw.start=c.start:=zbu _
 constructor
 ·intro k s hs h0
  exact(alls_iff _).1 k s (by rw[h.len];exact hs) (by rw[e];exact h0)
 ·intro k
  exact(alls_iff _).2 fun s hs h0=>k s (by rw[←h.len];exact hs) (by rw[←e];exact h0)
theorem TC.lost_h (h:TC c H T) {i:Nat} (hi:i<c.start.length) (hl:c.lost.getD i false=true):H i=1∧T i=0∧SureQ c i:=by
 have hn:=h.len
 have hl2:ziq c.raw i:=hl
 refine⟨h.hit.hit.one i (by omega) hl2,h.time.time.zero i (by omega) hl2,fun t ht=> ?_⟩
 have key:t=i:=by
  have hv:=h.tape.valid
  clear hl
  induction ht with
  | base hi hS=>exact hS
  | step hc hj hL ih=>
    subst ih
    rw[(zcv hv).ab _ _ (Clo.lt hc) hj hl2]at hL
    exact absurd hL (by decide)
 subst key
 exact Clo.base (Clo.lt ht) hl2
theorem TC.eq_h (h:TC c H T) {i:Nat} (hi:i<c.start.length) (hl:c.lost.getD i false=false):(sg c.start.length fun j=>(c.rates.getD i []).getD j 0)*H i=sg c.start.length fun j=>(c.rates.getD i []).getD j 0*H j:=by
 have hn:=h.len
 have k:=h.hit.hit.eq i (by omega) (fun e=>by unfold ziq at e;rw[show c.raw.lost=c.lost from rfl,hl]at e;cases e)
 rw[hn]at k
 rw[zma (f:=rq c.raw i) (g:=fun j=>(c.rates.getD i []).getD j 0) fun j _=>zju c i j,zma (f:=fun t=>rq c.raw i t*H t) (g:=fun j=>(c.rates.getD i []).getD j 0*H j) fun j _=>by rw[zju]]at k
 exact k
theorem TC.eq_t (h:TC c H T) {i:Nat} (hi:i<c.start.length) (hl:c.lost.getD i false=false) (hu:SureQ c i):(sg c.start.length fun j=>(c.rates.getD i []).getD j 0)*T i=1+sg c.start.length fun j=>(c.rates.getD i []).getD j 0*T j:=by
 have hn:=h.len
 have k:=h.time.time.eq i (by omega) (fun e=>by unfold ziq at e;rw[show c.raw.lost=c.lost from rfl,hl]at e;cases e) hu
 rw[hn]at k
 rw[zma (f:=rq c.raw i) (g:=fun j=>(c.rates.getD i []).getD j 0) fun j _=>zju c i j,zma (f:=fun t=>rq c.raw i t*T t) (g:=fun j=>(c.rates.getD i []).getD j 0*T j) fun j _=>by rw[zju]]at k
 exact k
end
end Go.Proofs.YtlpdkbmmbdfoiaaGreat
namespace Go.Proofs.YtlpdkbmmbdfoiaaGreat
theorem zero_bad :¬zzp ⟨[],[],[]⟩:=fun h=>by have:=h.1;simp at this
end Go.Proofs.YtlpdkbmmbdfoiaaGreat
namespace Go.Proofs.YtlpdkbmmbdfoiaaGreat
open Go.RowKit
theorem zcs (b:Nat) (l:List Nat) (a:Nat) (z:Int) (n:Nat) (w:World) (hz:z=(n:Int)) (h:znb w b l a) (hn:1≤n) (hn2:n≤65536):
 Calls Tryz.prog 107 #[.pointer (some ⟨b,0,none⟩), .int .i64 z] w (RNext w b l n):=by subst hz;exact next_any b l a n w h hn hn2
theorem Tryz.aggCh (w:World):(isAgg 28).run Tryz.prog w= .ok true w:=by go_simp
theorem Tryz.sizeCh (w:World):(sizeOf 28).run Tryz.prog w= .ok 3 w:=by go_simp
theorem sz1 (w:World) (o:Obj):(w.alloc o).heap.size=w.heap.size+1:=by simp
theorem r2make_z (a b:Nat) (z:Int) (w:World) (hz:z=(b:Int)) (ha:a<4294967296) (hb:b<4294967296) (hb0:b≠0):
 Calls Tryz.prog 18 #[.int .i64 a, .int .i64 z] w (RF0 w (fq false a b)):=by subst hz;exact zgf a b w ha hb hb0
def RChain (w0:World) (bt:Nat) (l:List Nat) (e:Ending) (w:World):Prop:=
 ∃v c a,e= .returned v∧zlq w v c∧zrr c∧znb w bt l a∧w0.heap.size≤w.heap.size∧∀B,B≤bt→B≤w0.heap.size→Below B w0 w
def Pro (w:World) (bt:Nat) (l:List Nat) (wx:World):Prop:=∃a,znb wx bt l a∧C3 wx w.heap.size (.slice none 0 0) (.slice none 0 0) (.slice none 0 0)∧(∀B,B≤bt→B≤w.heap.size→Below B w wx)
theorem Pro.size {w wx:World} {bt:Nat} {l:List Nat} (h:Pro w bt l wx):w.heap.size<wx.heap.size:=by obtain⟨a,h1,h2,h3⟩:=h;exact h2.lt
theorem Pro.tick {w wx wy:World} {bt a':Nat} {l:List Nat} (h:Pro w bt l wx) (ht:znb wy bt l a') (hk:zyl bt wx wy):Pro w bt l wy:=by
 have hs:=h.size
 obtain⟨a,h1,h2,h3⟩:=h
 exact⟨a',ht,h2.tick h1 hk zor zor zor,fun B hB hB2=>(h3 B hB hB2).trans (hk.below hB (by omega))⟩
theorem Pro.start {w:World} {bt a:Nat} {l:List Nat} (h:znb w bt l a) (t:TypeId):Pro w bt l (w.alloc (.cells #[.slice none 0 0, .slice none 0 0, .slice none 0 0] t)):=
 ⟨a,h.below (zca w _),C3.new w t _ _ _,fun B _ hB=>(zca w _).mono hB⟩
theorem ChW.new {w:World} {bt a:Nat} {l:List Nat} (h:znb w bt l a) (t:TypeId):
 ChW (w.alloc (.cells #[.slice none 0 0, .slice none 0 0, .slice none 0 0] t)) bt l (w.heap.size+1) w.heap.size (.slice none 0 0) (.slice none 0 0) (.slice none 0 0) [] [] [] []:=by
 refine⟨⟨a,(h.b.mono (Nat.le_succ _)).below (zca w _)⟩,C3.new w t _ _ _,zya.nil _ _ _,zlc.nil _ _ _ _,zlc.nil _ _ _ _,rfl,fun j h=>by simp at h,by simp,?_,by omega,?_⟩
 ·have:=h.lt;omega
 ·have:=h.lt;omega
set_option maxRecDepth 100000 in
set_option maxHeartbeats 3200000 in
theorem chain_any (bt a:Nat) (l:List Nat) (w:World) (hT:znb w bt l a):
 Calls Tryz.prog 42 #[.pointer (some ⟨bt,0,none⟩)] w (RChain w bt l):=by
 obtain⟨i1,hi1,hz1,hs1,hy1⟩:=info_parts Tryz.infoRow
 have hAR:=zxl (P:=Tryz.prog) 24 25 i1 _ 24 Tryz.underlying24 hi1 hz1 hs1 hy1 (by decide) rfl (fun z=>by simp)
 obtain⟨i2,hi2,hz2,hs2,hy2⟩:=info_parts Tryz.infoBool
 have hAB:=zxl (P:=Tryz.prog) 26 4 i2 _ 1 Tryz.underlying26 hi2 hz2 hs2 hy2 (by decide) rfl (fun z=>by simp)
 obtain⟨i3,hi3,hz3,hs3,hy3⟩:=info_parts Tryz.infoF
 have hAF:=zpp (P:=Tryz.prog) 25 38 i3 Tryz.underlying25 hi3 hz3 hs3 hy3
 clear hi1 hz1 hs1 hy1 hi2 hz2 hs2 hy2 hi3 hz3 hs3 hy3
 have hP0:=Pro.start hT 28
 have H0:=zH hP0
 obtain⟨a0,hT0,_,_⟩:=hP0
 go_enter Tryz.func42,Tryz.ntmps42
 go_upto_region 3 with(go_at_call 107;(with_reducible refine(zcs bt l _ 4 4 _ rfl hT0 (by decide) (by decide)).mono ?_);rintro e1 w1 ⟨x1,a1,rfl,hx1,hT1,hk1⟩)
 have HP:=zH (H0.out.tick hT1 hk1)
 clear hk1
 go_cut [23]from 14 (fun u23 wx=>∃b,u23= .bool b∧Pro w bt l wx)
 case first =>
  by_cases h3:3<x1+2
  ·have hd:decide ((3:Int)<2+(x1:Nat))=true:=decide_eq_true (by omega)
   go_wp2_with (go_at_call 107;(with_reducible refine(zcs bt l _ 3 3 _ rfl hT1 (by decide) (by decide)).mono ?_);rintro e2 w2 ⟨x2,a2,rfl,hx2,hT2,hk2⟩)
   go_meet
   case rel=>exact⟨_,rfl,HP.out.tick hT2 hk2⟩
  ·have hd:decide ((3:Int)<2+(x1:Nat))=false:=decide_eq_false (by omega)
   go_wp2_with fail
   go_meet
   case rel=>exact⟨_,rfl,HP.out⟩
 case rest=>
  obtain⟨b3,rfl,hP3⟩:=hcut
  have HP3:=zH hP3
  obtain⟨a3,hT3,_,_⟩:=hP3
  go_upto_if 23 with fail
  go_cut [4]from 14 (fun u4 wx=>∃lo:Nat,u4= .int .i64 lo∧lo≤2∧wx=wc)
  case first =>
   cases b3
   ·go_wp2_with fail
    go_meet
    case rel=>exact⟨1,rfl,by decide,rfl⟩
   ·go_wp2_with fail
    go_meet
    case rel=>exact⟨2,rfl,by decide,rfl⟩
  case rest=>
   obtain⟨lo,rfl,hlo,rfl⟩:=hcut
   go_upto_if 26 with(go_at_call 107;(with_reducible refine(zcs bt l _ 12 12 _ rfl hT3 (by decide) (by decide)).mono ?_);rintro e4 w4 ⟨x4,a4,rfl,hx4,hT4,hk4⟩)
   have HP4:=zH (HP3.out.tick hT4 hk4)
   go_cut [4]from 14 (fun u4 wx=>∃lo:Nat,u4= .int .i64 lo∧lo≤2∧wx=w4)
   case first =>
    by_cases h11:x4=11
    ·have hd:((x4:Int)==11)=true:=by simp[h11]
     go_wp2_with fail
     go_meet
     case rel=>exact⟨0,rfl,by decide,rfl⟩
    ·have hd:((x4:Int)==11)=false:=by simp;omega
     go_wp2_with fail
     go_meet
     case rel=>exact⟨lo,rfl,hlo,rfl⟩
   case rest=>
    obtain⟨lo2,rfl,hlo2,hwc⟩:=hcut
    subst hwc
    obtain⟨wz,hwz⟩:∃wz,wz=wc:=⟨_,rfl⟩
    subst hwz
    have hI:=ChW.new hT4 28
    have hF:Fr w bt wz:=by obtain⟨_,_,f1,f2⟩:=HP4.out;exact⟨f1,f2⟩
    have hF5:=hF.below (zca wz (.cells #[.slice none 0 0, .slice none 0 0, .slice none 0 0] 28))
    have HI:=zH hI
    have HF5:=zH hF5
    have hw4:=hF.1.lt
    have hbt:=hT.lt
    clear hI hF hF5 hk4 hT hT0 hT1 hT3
    go_wp2_with fail
    go_loopg [6,7] (x1+2) (fun k u6 u7 wr=>∃ (i left:Nat) (vr vs vl:Value) (rs:List Value) (rates:List (List Rat)) (start:List Rat) (lost:List Bool),i≤x1+2∧k=x1+2-i∧u6= .int .i64 left∧u7= .int .i64 i∧
     ChW wr bt l (wz.heap.size+1) wz.heap.size vr vs vl rs rates start lost∧TF (x1+2) lo2 i left rates start lost∧Fr w bt wr)
    case atStart=>exact⟨0,4,_,_,_,_,_,_,_,Nat.zero_le _,rfl,rfl,rfl,HI.out,TF.zero _ _ (by omega),HF5.out⟩
    case round=>
     obtain⟨i,left,vr,vs,vl,rs,rates,start,lost,hi,hgk,rfl,rfl,hW,hTF,hF⟩:=hrel
     have HTF:=zH hTF
     have HF:=zH hF
     have HW:=zH hW
     have hil:=hTF.ll
     have hleft:=hTF.left4
     have hlob:=hW.lo
     have svl:=hW.lo.sl
     have hlen1:(lost.map Value.bool).length≤1000:=by rw[List.length_map,hil];omega
     obtain⟨_,c0,c1,c2,f0,f1,f2⟩:=id hW.box
     have hsz:=hW.sz
     clear hTF hF hW hil
     by_cases hin:i<x1+2
     ·have hd1:decide ((i:Int)<2+(x1:Nat))=true:=decide_eq_true (by omega)
      go_upto_if 46 with(first
       |(at_builtin;refine hAB wr rfl _ _ rfl (wz.heap.size+1) _ vl _ rfl hlob (.bool (decide ((2:Int)+(x1:Nat)- (lo2:Nat)≤(i:Nat)))) rfl (fun z=>by simp) rfl hlen1 hsz ?_;intro v2' w2 ho2 hg2 hn2 hv2 sv2
         have hG:=HW.out.lostG ho2 hg2 hn2
         have hbx2:=HW.out.box.below hG.2 (Nat.lt_succ_self _)
         have HG:=zH hG
         obtain⟨_,c0,c1,c2,f0,f1,f2⟩:=id hbx2
         clear hG hbx2
         obtain⟨an2,nn2,cn2,rfl,_⟩:=id sv2))
      have HF2:=zH ((HF.out.low HG.out.2 (by omega)).set ⟨wz.heap.size,2,none⟩ hw4 (.slice an2 nn2 cn2))
      have HW2:=zH HG.out.1
      clear HG ho2 hg2 hn2 hv2 c0 c1 c2 f0 f1 f2
      generalize w2.setCell ⟨wz.heap.size,2,none⟩ (.slice an2 nn2 cn2)=W2 at *
      have hx1:x1<4:=hx1
      go_cut [8] (fun u8 wx=>∃k:Nat,u8= .int .i64 k∧k≤left∧(i+1=x1+2→k=left)∧ChW wx bt l (wz.heap.size+1) wz.heap.size vr vs (.slice an2 nn2 cn2) rs rates start (lost++ [decide ((2:Int)+(x1:Nat)- (lo2:Nat)≤(i:Nat))])∧Fr w bt wx)
      case first =>
       obtain⟨a6,hT6⟩:=HW2.out.tape
       have hT6:=hT6.1
       by_cases hlast:i+1<x1+2
       ·have hd2:decide ((i:Int)+1<2+(x1:Nat))=true:=decide_eq_true (by omega)
        by_cases hi0:i=0
        ·have hd3:((i:Int)==0)=true:=by simp[hi0]
         clear hi0
         go_wp2_with (first
          |(go_at_call 107;(with_reducible refine(zcs bt l _ 6 6 _ rfl hT6 (by decide) (by decide)).mono ?_);rintro e6 w6 ⟨x6,a6',rfl,hx6,hT6',hk6⟩)
          |(go_at_call 107;(with_reducible refine(zcs bt l _ 2 2 _ rfl hT6' (by decide) (by decide)).mono ?_);rintro e7 w7 ⟨x7,a7,rfl,hx7,hT7,hk7⟩))
         all_goals
          go_meet
          case rel=>exact⟨_,rfl,by omega,fun h=>by omega,(HW2.out.tick hk6 hT6').tick hk7 hT7,(HF2.out.tick hT6 hk6).tick hT6' hk7⟩
        ·have hd3:((i:Int)==0)=false:=by simp;omega
         clear hi0
         go_wp2_with (first
          |(go_at_call 107;(with_reducible refine(zcs bt l _ 6 6 _ rfl hT6 (by decide) (by decide)).mono ?_);rintro e6 w6 ⟨x6,a6',rfl,hx6,hT6',hk6⟩))
         all_goals
          go_meet
          case rel=>exact⟨_,rfl,by omega,fun h=>by omega,HW2.out.tick hk6 hT6',HF2.out.tick hT6 hk6⟩
       ·have hd2:decide ((i:Int)+1<2+(x1:Nat))=false:=decide_eq_false (by omega)
        go_wp2_with fail
        go_meet
        case rel=>exact⟨left,rfl,Nat.le_refl _,fun _=>rfl,HW2.out,HF2.out⟩
      case rest=>
       obtain⟨k,rfl,hkl,hkn,hW3,hF3⟩:=hcut
       have HW3:=zH hW3
       have HF3:=zH hF3
       clear hW3 hF3
       have HK:=zH hkn
       clear hkn
       have hst1:start.length≤1000:=by rw[HTF.out.sl];omega
       go_wp2_with (first
        |(go_at_call 18;(with_reducible refine(r2make_z k 4 4 _ rfl (by omega) (by decide) (by decide)).mono ?_);rintro e8 w8 ⟨v8,rfl,hv8,hb8⟩
          obtain⟨t9,x9,y9,rfl,⟨a91,l91,k91,rfl,_⟩,⟨a92,l92,k92,rfl,_⟩⟩:=hv8.isF
          have hbA:=zca w8 (.cells #[.bool t9, .slice a91 l91 k91, .slice a92 l92 k92] 38)
          have hv9:=hv8.below hbA
          have HW8:=zH ((HW3.out.below hb8).below hbA)
          have HF8:=zH ((HF3.out.below hb8).below hbA)
          have hst8:=HW8.out.st
          have hsz8:=HW8.out.sz
          obtain⟨_,c0,c1,c2,f0,f1,f2⟩:=id HW8.out.box
          obtain⟨_,g0,g1,g2,_,_,_⟩:=C3.new w8 38 (.bool t9) (.slice a91 l91 k91) (.slice a92 l92 k92))
        |(at_builtin;refine hAF _ rfl _ _ rfl (wz.heap.size+1) _ vs start rfl hst8 _ _ _ (fq false k 4) hv9 (by rw[sz1];rfl) hst1 hsz8 ?_;intro v3' w9 ho9 hg9 hn9 hq9 sv9
          have hG:=HW8.out.startG ho9 hg9 hn9 hq9 (Nat.le_succ _)
          have hbx9:=HW8.out.box.below hG.2 (Nat.lt_succ_self _)
          have HG:=zH hG
          obtain⟨_,c0,c1,c2,f0,f1,f2⟩:=id hbx9
          clear hG hbx9
          obtain⟨an3,nn3,cn3,rfl,_⟩:=id sv9))
       have HFA:=zH ((HF8.out.low HG.out.2 (by omega)).set ⟨wz.heap.size,1,none⟩ hw4 (.slice an3 nn3 cn3))
       have HWA:=zH HG.out.1
       have hb8s:=hb8.size
       clear HG ho9 hg9 hn9 hq9 c0 c1 c2 f0 f1 f2 g0 g1 g2 hst8
       generalize hWAe:w9.setCell ⟨wz.heap.size,1,none⟩ (.slice an3 nn3 cn3)=WA at *
       clear hWAe
       go_loopg [11,12] (x1+2) (fun m u11 u12 wi=>∃ (j:Nat) (rv:Value) (row:List Rat),j≤x1+2∧m=x1+2-j∧u11=rv∧u12= .int .i64 j∧
        InS w bt l (wz.heap.size+1) wz.heap.size vr (.slice an3 nn3 cn3) (.slice an2 nn2 cn2) WA rv row wi∧RowF (x1+2) lo2 i row j)
       case atStart=>exact⟨0,_,_,Nat.zero_le _,rfl,rfl,rfl,InS.start HWA.out HFA.out (by omega),RowF.nil _ _ _⟩
       case round=>
        obtain⟨j,rv,row,hj,hgm,rfl,rfl,hIn,hRow⟩:=hrel
        have HIn:=zH hIn
        have HRow:=zH hRow
        have hrl:row.length≤1000:=by rw[hRow.1];omega
        clear hIn hRow
        by_cases hjn:j<x1+2
        ·have hd5:decide ((j:Int)<2+(x1:Nat))=true:=decide_eq_true (by omega)
         go_upto_region 26 with(first
          |(go_at_call 20;(with_reducible refine(zwi _).mono ?_);rintro e13 w13 ⟨v13,rfl,hv13,hb13⟩
            obtain⟨t13,x13,y13,rfl,⟨a131,l131,k131,rfl,q131⟩,⟨a132,l132,k132,rfl,q132⟩⟩:=hv13.isF))
         have hbB:=zca w13 (.cells #[.bool t13, .slice a131 l131 k131, .slice a132 l132 k132] 38)
         have HI13:=zH ((HIn.out.below hb13).below hbB)
         have hv13b:=hv13.below hbB
         have hC13:=C3.new w13 38 (.bool t13) (.slice a131 l131 k131) (.slice a132 l132 k132)
         have hrb:u11.ownBlock=none∨u11.ownBlock≠some w13.heap.size:=by
          cases ho:u11.ownBlock with
          | none=>exact Or.inl rfl
          | some g=>exact Or.inr (fun e=>by injection e with e;have h1:=(HIn.out.fr.block g ho).2;have h2:=hb13.size;omega)
         have hAb:WA.heap.size≤w13.heap.size:=Nat.le_trans HIn.out.mv.size hb13.size
         have HV13:=zH (And.intro hv13b hC13)
         clear hv13 hv13b hC13 hb13 hbB
         generalize w13.alloc (.cells #[.bool t13, .slice a131 l131 k131, .slice a132 l132 k132] 38)=WB at *
         obtain⟨aT,hTB⟩:=HI13.out.tp
         have hTB:=hTB.1
         go_cut [93] (fun u93 wx=>∃b,u93= .bool b∧(b=true→((i:Nat):Int)<2+(x1:Nat)- (lo2:Nat)∧i≠j)∧InS w bt l (wz.heap.size+1) wz.heap.size vr (.slice an3 nn3 cn3) (.slice an2 nn2 cn2) WA u11 row wx∧
          C3 wx w13.heap.size (.bool t13) (.slice a131 l131 k131) (.slice a132 l132 k132)∧zqa wx (.agg #[.bool t13, .slice a131 l131 k131, .slice a132 l132 k132]) 0)
         case first =>
          by_cases hA:((i:Nat):Int)<2+(x1:Nat)- (lo2:Nat)
          ·have hdA:decide (((i:Nat):Int)<2+(x1:Nat)- (lo2:Nat))=true:=decide_eq_true hA
           by_cases hB:i=j
           ·have hdB:(((i:Nat):Int) != (j:Nat))=false:=by simp[hB]
            clear hB
            go_wp2_with fail
            go_meet
            case rel=>exact⟨_,rfl,fun h=>(by cases h),HI13.out,HV13.out.2,HV13.out.1⟩
           ·have hdB:(((i:Nat):Int) != (j:Nat))=true:=by simp;omega
            go_wp2_with (go_at_call 107;(with_reducible refine(zcs bt l _ 3 3 _ rfl hTB (by decide) (by decide)).mono ?_);rintro e14 w14 ⟨x14,a14,rfl,hx14,hT14,hk14⟩)
            go_meet
            case rel=>exact⟨_,rfl,fun _=>⟨hA,hB⟩,HI13.out.tick hk14 hT14,HV13.out.2.tick hTB hk14 (fun z=>by simp) (fun z=>by simp) (fun z=>by simp),HV13.out.1.tick hTB hk14⟩
          ·have hdA:decide (((i:Nat):Int)<2+(x1:Nat)- (lo2:Nat))=false:=decide_eq_false hA
           go_wp2_with fail
           go_meet
           case rel=>exact⟨_,rfl,fun h=>(by cases h),HI13.out,HV13.out.2,HV13.out.1⟩
         case rest=>
          obtain⟨b93,rfl,hb93,hI14,hC14,hv14⟩:=hcut
          have HI14:=zH hI14
          have HV14:=zH (And.intro hv14 hC14)
          obtain⟨aU,hTU⟩:=HI14.out.tp
          have hTU:=hTU.1
          clear hI14 hv14 hC14 hTB HI13 HV13
          go_upto_if 93 with fail
          go_cut [] (fun wx=>∃ (q:Rat) (t':Bool) (x' y':Value),C3 wx w13.heap.size (.bool t') x' y'∧zqa wx (.agg #[.bool t',x',y']) q∧zeq q∧(i=j→q=0)∧(((x1+2:Nat):Int)- (lo2:Nat)≤(i:Nat)→q=0)∧
           InS w bt l (wz.heap.size+1) wz.heap.size vr (.slice an3 nn3 cn3) (.slice an2 nn2 cn2) WA u11 row wx)
          case first =>
           have HB93:=zH hb93
           clear hb93
           cases b93
           ·go_wp2_with fail
            go_meet
            case rel=>exact⟨0,_,_,_,HV14.out.2,HV14.out.1,zeq.zero,by simp,by simp,HI14.out⟩
           ·go_wp2_with (first
             |(go_at_call 107;(with_reducible refine(zcs bt l _ 4 4 _ rfl hTU (by decide) (by decide)).mono ?_);rintro e15 w15 ⟨x15,a15,rfl,hx15,hT15,hk15⟩)
             |(go_at_call 107;(with_reducible refine(zcs bt l _ 3 3 _ rfl hT15 (by decide) (by decide)).mono ?_);rintro e16 w16 ⟨x16,a16,rfl,hx16,hT16,hk16⟩)
             |(go_at_call 18;(with_reducible refine(r2make_z x15 (x16+1) _ _ (by omega) (by omega) (by omega) (by omega)).mono ?_);rintro e17 w17 ⟨v17,rfl,hv17,hb17⟩
               obtain⟨t17,x17,y17,rfl,⟨a171,l171,k171,rfl,q171⟩,⟨a172,l172,k172,rfl,q172⟩⟩:=hv17.isF
               have hC17:=(((HV14.out.2.tick hTU hk15 (fun z=>by simp) (fun z=>by simp) (fun z=>by simp)).tick hT15 hk16 (fun z=>by simp) (fun z=>by simp) (fun z=>by simp)).belowS hb17)
               have HC17:=zH hC17
               have HI17:=zH (((HI14.out.tick hk15 hT15).tick hk16 hT16).below hb17)
               obtain⟨_,d0,d1,d2,d3,d4,d5⟩:=hC17))
            go_meet
            case rel=>
             obtain⟨hA,hB⟩:=HB93.out (by first | trivial | rfl)
             exact⟨fq false x15 (x16+1),_,_,_,HC17.out.set _ _ _,hv17.set3 HC17.out (fun z=>by simp) (fun z=>by simp) _ _ _,⟨x15,x16+1,by omega,by omega,by omega,rfl⟩,fun h=>absurd h hB,fun h=>by omega,HI17.out.set3 HC17.out ⟨_,_,_,rfl,q131⟩ ⟨_,_,_,rfl,q132⟩ hAb hrb _ _ _⟩
          case rest=>
           obtain⟨q,t18,x18,y18,hC18,hv18,hsm,hq1,hq2,hI18⟩:=hcut
           have HI18:=zH hI18
           have HQ:=zH (And.intro hsm (And.intro hq1 hq2))
           have hfr:=hI18.fr
           have s11:=hfr.sl
           have hbs:=hI18.mv.size
           have hv18':=hv18
           obtain⟨_,_,_,hF18,⟨a181,l181,k181,rfl,_⟩,⟨a182,l182,k182,rfl,_⟩⟩:=hv18'.isF
           injection hF18 with hF18
           injection hF18 with hF18
           simp only[List.cons.injEq,and_true,Value.bool.injEq]at hF18
           obtain⟨rfl,rfl,rfl⟩:=hF18
           obtain⟨_,d0,d1,d2,_,_,_⟩:=id hC18
           clear hq1 hq2 hC18 hI18 hv18' hsm
           go_wp2_with (first
            |(at_builtin;refine hAF _ rfl _ _ rfl WA.heap.size _ u11 row rfl hfr _ _ _ q hv18 rfl hrl hbs ?_;intro v4' w20 ho20 hg20 hn20 hq20 sv20
              have HI20:=zH (HI18.out.grow ho20 hg20 hn20)))
           go_roundg (x1+2- (j+1))
           case measure=>omega
           case rel=>exact⟨j+1,_,_,by omega,rfl,rfl,by go_num,HI20.out,HRow.out.snoc HQ.out.1 HQ.out.2.1 HQ.out.2.2⟩
        ·obtain rfl:j=x1+2:=by omega
         have hd5:decide (((x1+2:Nat):Int)<2+(x1:Nat))=false:=decide_eq_false (by omega)
         have hcw:=HIn.out.chw HWA.out
         obtain⟨hcw1,hcw2,hcw3⟩:=hcw
         obtain⟨a11,l11,k11,rfl,_⟩:=hcw2.sl
         have HCW:=zH (And.intro hcw1 (And.intro hcw2 hcw3))
         have HFW:=zH HIn.out.fm
         have hra:=hcw1.ra
         have hrasl:=hra.sl
         have hszw:=hcw1.sz
         have hrs1:rs.length≤1000:=by rw[hcw1.rl,HTF.out.rl];omega
         obtain⟨_,c0,c1,c2,f0,f1,f2⟩:=id hcw1.box
         clear hcw1 hcw2 hcw3
         go_wp2_with (first
          |(at_builtin;refine hAR _ rfl _ _ rfl (wz.heap.size+1) _ vr rs rfl hra (.slice a11 l11 k11) rfl (fun z=>by simp) rfl hrs1 hszw ?_;intro v5' w21 ho21 hg21 hn21 hq21 sv21
            have hG:=HCW.out.1.ratesG HCW.out.2.1 HCW.out.2.2 ho21 hg21 hn21
            have hbx21:=HCW.out.1.box.below hG.2 (Nat.lt_succ_self _)
            have HG:=zH hG
            obtain⟨_,c0,c1,c2,f0,f1,f2⟩:=id hbx21
            clear hG hbx21
            obtain⟨an5,nn5,cn5,rfl,_⟩:=id sv21))
         have HF21:=zH ((HFW.out.low HG.out.2 (by omega)).set ⟨wz.heap.size,0,none⟩ hw4 (.slice an5 nn5 cn5))
         have HDEC:Hid (decide ((2:Int)+(x1:Nat)- (lo2:Nat)≤(i:Nat))=decide (((x1+2:Nat):Int)- (lo2:Nat)≤(i:Nat))):=zH (decide_eq_decide.2 (by omega))
         have HSUB:Hid (((left:Nat):Int)- (k:Nat)=((left-k:Nat):Int)):=zH (by omega)
         go_roundg (x1+2- (i+1))
         case measure=>omega
         case rel=>
          refine⟨i+1,left-k,_,_,_,_,_,_,_,by omega,rfl,by rw[HSUB.out],by go_num,HG.out.1,?_,HF21.out⟩
          rw[HDEC.out]
          exact HTF.out.step hkl HK.out HRow.out
     ·obtain rfl:i=x1+2:=by omega
      have hd1:decide (((x1+2:Nat):Int)<2+(x1:Nat))=false:=decide_eq_false (by omega)
      obtain⟨ar,lr,kr,rfl,_⟩:=id HW.out.ra.sl
      obtain⟨as',ls,ks,rfl,_⟩:=id HW.out.st.sl
      obtain⟨al,ll,kl,rfl,_⟩:=id svl
      obtain⟨_,e0,e1,e2,e3,e4,e5⟩:=id HF.out.1
      go_wp2_with fail
      refine zab rfl rfl Tryz.aggCh Tryz.sizeCh (HF.out.1.set _ _ _) rfl ?_
      have hO:=HW.out.set3 HF.out.1 (by omega) (by omega) (by omega) (.slice ar lr kr) (.slice as' ls ks) (.slice al ll kl)
      obtain⟨aO,hOT⟩:=hO.tape
      refine⟨_,_,aO,rfl,hO.chainC,HTF.out.done (by omega) (by omega),hOT.1,?_,fun B h1 h2=>zga (HF.out.2 B h1 h2) h2 _ _ _⟩
      have:=HF.out.1.lt
      simp[World.setCell]
      omega
theorem r2make_zz (a b:Nat) (y z:Int) (w:World) (hy:y=(a:Int)) (hz:z=(b:Int)) (ha:a<4294967296) (hb:b<4294967296) (hb0:b≠0):
 Calls Tryz.prog 18 #[.int .i64 y, .int .i64 z] w (RF0 w (fq false a b)):=by subst hy;subst hz;exact zgf a b w ha hb hb0
theorem zero_chain (w:World):zdq w (.agg #[.slice none 0 0, .slice none 0 0, .slice none 0 0]) ⟨[],[],[]⟩:=
 ⟨_,_,_,rfl,⟨zgc.nil,rfl,fun j h=>by simp at h⟩,zni.nil w,⟨zgc.nil,rfl,fun j h=>by simp at h⟩⟩
def mkE (w:World) (e:TypeId) (z:Value) (n:Nat):World:=w.alloc (.cells (madeCells #[z] (n*1)) e)
theorem mkE_size (w:World) (e:TypeId) (z:Value) (n:Nat):(mkE w e z n).heap.size=w.heap.size+1:=by simp[mkE]
theorem mkE_below (w:World) (e:TypeId) (z:Value) (n:Nat):Below w.heap.size w (mkE w e z n):=zca w _
@[go_sem] theorem cell_mkE (w : World) (e : TypeId) (z : Value) (n : Nat) (p : Addr) (hp : p.block < w.heap.size) : (mkE w e z n).cell? p = w.cell? p := (mkE_below w e z n).cell hp
@[go_sem] theorem frozen_mkE (w : World) (e : TypeId) (z : Value) (n : Nat) (p : Addr) (hp : p.block < w.heap.size) : (mkE w e z n).frozen? p = w.frozen? p := (mkE_below w e z n).frozen hp
@[go_sem] theorem size_mkE (w : World) (e : TypeId) (z : Value) (n : Nat) : (mkE w e z n).heap.size = w.heap.size + 1 := mkE_size w e z n
theorem posR_of {q:Rat} (hf:fits q) (hq:0<q):zfr (decide (q<0)) q.num.natAbs q.den:=by
 refine⟨zuc hf,decide_eq_false (fun h=>absurd (Rat.le_of_lt h) (Rat.not_le.2 hq)),fun h=> ?_⟩
 have h3:q=0:=Rat.num_eq_zero.1 (Int.natAbs_eq_zero.1 h)
 rw[h3]at hq;exact absurd hq (by decide)
end Go.Proofs.YtlpdkbmmbdfoiaaGreat
