/- Lemmas. -/
import Derived.Test.YtkpedaflofejnaaGreatMPr1
set_option linter.unusedVariables false
set_option linter.unusedSimpArgs false
namespace Go.Proofs.YtkpedaflofejnaaGreat
open Go.RowKit
theorem Tryz.aggCh (w:World):(isAgg 34).run Tryz.prog w= .ok true w:=by go_simp
theorem Tryz.sizeCh (w:World):(sizeOf 34).run Tryz.prog w= .ok 3 w:=by go_simp
def RChain (w0:World) (c:CQ) (e:Ending) (w:World):Prop:=
 ∃v er,e= .returned (.tuple #[v, .int .i64 er])/\Below w0.heap.size w0 w/\(zic c.raw->er=0/\zkc w v c)/\(¬zic c.raw->er=2/\v= .agg #[.slice none 0 0, .slice none 0 0, .slice none 0 0])
def RDone (w0:World) (c:CQ) (u:Value) (e:Ending) (w:World):Prop:=
 ∃v er,e= .returned (.tuple #[v, .int .i64 er])/\Below w0.heap.size w0 w/\(zic c.raw->er=0/\v=u)/\(¬zic c.raw->er=2/\v= .agg #[.slice none 0 0, .slice none 0 0, .slice none 0 0])
theorem Bld.over3 {w:World} {B b vb hi n:Nat} {vs vl vr:Value} {rs:List Value} {s:Nat->Rat} {f:Mx} (h:Bld w B b vb hi vs vl vr rs n s f) {q:Nat} {v0 v1 v2:Value} (hc:C3 w q v0 v1 v2) (hq:q<B) (h0:∀z,v0≠ .int .u32 z) (h1:∀z,v1≠ .int .u32 z) (h2:∀z,v2≠ .int .u32 z) (u0 u1 u2:Value):
 Bld (((w.setCell ⟨q,0,none⟩ u0).setCell ⟨q,1,none⟩ u1).setCell ⟨q,2,none⟩ u2) B b vb hi vs vl vr rs n s f:=by
 have key:∀ {w:World} (h:Bld w B b vb hi vs vl vr rs n s f) (k:Nat) (x u:Value),w.cell? ⟨q,k,none⟩=some x->(∀z,x≠ .int .u32 z)->Bld (w.setCell ⟨q,k,none⟩ u) B b vb hi vs vl vr rs n s f:=fun{w} h k x u hx hn=>
  ⟨h.lt,h.blk.other (p:=⟨q,k,none⟩) (by show q≠b;have:=h.lt;omega) u,h.law.moves (zya.set (B:=B) hq hx hn u),h.lost.grown (zed w ⟨q,k,none⟩ u) (by
   cases hv:vl.ownBlock with
   | none=>exact Or.inl rfl
   | some g=>exact Or.inr (λ e=>by have:=h.lost.ownBlock g hv;injection e with e;subst e;omega)),by have:=h.hh;simpa [World.setCell]using this,h.hr,h.hs⟩
 exact key (key (key h 0 v0 u0 hc.c0 h0) 1 v1 u1 (hc.set0 u0).c1 h1) 2 v2 u2 ((hc.set0 u0).set1 u1).c2 h2
set_option maxRecDepth 100000 in
set_option maxHeartbeats 1600000 in
theorem done_any (b vb B hi n:Nat) (vs vl vr:Value) (rs:List Value) (s:Nat->Rat) (f:Mx) (w:World) (hB:Bld w B b vb hi vs vl vr rs n s f):
 Calls Tryz.prog 50 #[.pointer (some ⟨b,0,none⟩)] w (RDone w ⟨zhi n f,zch n s,zvg n⟩ (.agg #[vr,vs,vl])):=by
 have hch:=hB.chain;have hba:=zba w (.cells #[.slice none 0 0, .slice none 0 0, .slice none 0 0] 34);have HC:=zH (C3.new w 34 (.slice none 0 0) (.slice none 0 0) (.slice none 0 0));have HCH:=zH hch;have HB1:=zH (hB.bw hba);have HBA:=zH hba;have HLT:=zH hB.blk.lt;obtain⟨c,hc⟩:∃c:CQ,(⟨zhi n f,zch n s,zvg n⟩:CQ)=c:=⟨_,rfl⟩;rw[hc]at HCH |-
 have k0:=hB.law.ra.sl;have k1:=hB.law.s.sl;have k2:=hB.lost.sl;obtain⟨r1,r2,r3,rfl,_⟩:=id k0;obtain⟨s1,s2,s3,rfl,_⟩:=id k1;obtain⟨l1,l2,l3,rfl,_⟩:=id k2;clear hc hch hB hba k0 k1 k2;obtain⟨d0,d1,d2,d3,d4⟩:=HB1.o.blk.cells;obtain⟨-,g0,g1,g2,e0,e1,e2⟩:=HC.o;by_cases hv:zic c.raw
 ·have HV:=zH hv;clear hv;go_enter Tryz.func50,Tryz.ntmps50
  go_wp2_with (first
   |(go_at_call 19;(with_reducible refine(zvm _ c.raw _ (HCH.o.bw HBA.o).raw).mono ?_);rintro e3 w3 ⟨⟨b9,rfl,hb9⟩,hbel⟩;obtain rfl:b9=true:=hb9.2 HV.o;have HC3:=zH (HC.o.bS hbel);have HB3:=zH (zaa HBA.o hbel);have HBL:=zH (HB1.o.bw hbel);clear d0 d1 d2 d3 d4 g0 g1 g2 e0 e1 e2 hbel hb9;obtain⟨d0,d1,d2,d3,d4⟩:=HBL.o.blk.cells;obtain⟨-,g0,g1,g2,e0,e1,e2⟩:=HC3.o))
  refine zka rfl rfl Tryz.aggCh Tryz.sizeCh (HC3.o.set _ _ _) rfl ?_;have hb4:=zea HB3.o (zLR _) (.slice r1 r2 r3) (.slice s1 s2 s3) (.slice l1 l2 l3);exact⟨_,_,rfl,hb4,λ _=>⟨rfl,rfl⟩,λ h=>absurd HV.o h⟩
 ·have HV:=zH hv;clear hv;go_enter Tryz.func50,Tryz.ntmps50
  go_wp2_with (first
   |(go_at_call 19;(with_reducible refine(zvm _ c.raw _ (HCH.o.bw HBA.o).raw).mono ?_);rintro e3 w3 ⟨⟨b9,rfl,hb9⟩,hbel⟩
     obtain rfl:b9=false:=by
      cases b9 with
      | false=>rfl
      | true=>exact absurd (hb9.1 rfl) HV.o
     have HC3:=zH (HC.o.bS hbel);have HB3:=zH (zaa HBA.o hbel);clear d0 d1 d2 d3 d4 g0 g1 g2 e0 e1 e2 hbel hb9;obtain⟨-,g0,g1,g2,e0,e1,e2⟩:=HC3.o))
  refine zka rfl rfl Tryz.aggCh Tryz.sizeCh (HC3.o.set _ _ _) rfl ?_;have hb4:=zea HB3.o (zLR _) (.slice none 0 0) (.slice none 0 0) (.slice none 0 0);exact⟨_,_,rfl,hb4,λ h=>absurd h HV.o,λ _=>⟨rfl,rfl⟩⟩
end Go.Proofs.YtkpedaflofejnaaGreat
