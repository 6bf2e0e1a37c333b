/- Lemmas. -/
import Derived.Test.YtkpedaflofejnaaGreatMLk8
import Derived.Test.YtkpedaflofejnaaGreatMLo26
set_option linter.unusedVariables false
set_option linter.unusedSimpArgs false
namespace Go.Proofs.YtkpedaflofejnaaGreat
set_option maxHeartbeats 1600000
open Go.RowKit
def NilK (w:World) (b:Nat):Prop:=∀p x,p.block=b->w.cell? p=some x->x= .slice none 0 0
theorem NilK.new (w:World) (t:TypeId):NilK (w.alloc (.cells #[.slice none 0 0, .slice none 0 0, .slice none 0 0] t)) w.heap.size:=by
 intro p x hp hx
 have hb:(w.alloc (.cells #[.slice none 0 0, .slice none 0 0, .slice none 0 0] t)).heap[p.block]? =some (.cells #[.slice none 0 0, .slice none 0 0, .slice none 0 0] t (0,0)):=by
  rw[hp];show(w.heap.push _)[w.heap.size]? =_;simp
 simp only[World.cell?,hb]at hx;rcases zOG p.off 3 with h | h
 ·have :p.off=0\/p.off=1\/p.off=2:=zO;rcases this with h | h | h<;>(rw[h]at hx;simp at hx;exact hx.2.symm)
 ·rw[Array.getElem?_eq_none (by simpa using h)]at hx;simp at hx
theorem NilK.bw {w w':World} {B b:Nat} (h:NilK w b) (hb:Below B w w') (hB:b<B):NilK w' b:=λ p x hp hx=>h p x hp (by rw[<-hb.cell zO];exact hx)
theorem cell_nilK {w:World} {b:Nat} (hC:C3 w b (.slice none 0 0) (.slice none 0 0) (.slice none 0 0)) {q:Addr} {u:Value} (hq:w.cell? q=some u) (hu:u≠ .slice none 0 0) (x y z:Value):(((w.setCell ⟨b,0,none⟩ x).setCell ⟨b,1,none⟩ y).setCell ⟨b,2,none⟩ z).cell? q=some u:=by
 obtain⟨_,c0,c1,c2,_,_,_⟩:=hC;have ne:∀p:Addr,w.cell? p=some (.slice none 0 0)->p≠q:=λ p hp e=>by rw[e,hq]at hp;injection hp with hp;exact hu hp
 rw[zCO _ _ _ _ (ne _ c2),zCO _ _ _ _ (ne _ c1),zCO _ _ _ _ (ne _ c0)];exact hq
theorem zpa.nilK {w:World} {v:Value} {q:List Rat} {b:Nat} (h:zpa w v q) (hn:NilK w b) (hC:C3 w b (.slice none 0 0) (.slice none 0 0) (.slice none 0 0)) (x y z:Value):zpa (((w.setCell ⟨b,0,none⟩ x).setCell ⟨b,1,none⟩ y).setCell ⟨b,2,none⟩ z) v q:=by
 by_cases h0:0<q.length
 ·have hne:b≠(base v).block:=by
   intro e;obtain⟨a1,a2,h1,_⟩:=h.at' 0 h0;have:=hn _ _ (by rw[zma,<-e]) h1;cases this
  obtain⟨_,c0,c1,c2,_,_,_⟩:=hC;refine((h.over (p:=⟨b,0,none⟩) hne c0 zZ).over (p:=⟨b,1,none⟩) hne (x:= .slice none 0 0) ?_ zZ).over (p:=⟨b,2,none⟩) hne (x:= .slice none 0 0) ?_ zZ
  ·rw[zCO _ _ _ _ (by simp)];exact c1
  ·rw[zCO _ _ _ _ (by simp),zCO _ _ _ _ (by simp)];exact c2
 ·exact⟨h.sl,h.len,λ j hj=>zO⟩
theorem zkc.nilK {w:World} {v:Value} {c:CQ} {b:Nat} (h:zkc w v c) (hr:∀r∈c.rates,r≠ []) (hn:NilK w b) (hC:C3 w b (.slice none 0 0) (.slice none 0 0) (.slice none 0 0)) (x y z:Value):zkc (((w.setCell ⟨b,0,none⟩ x).setCell ⟨b,1,none⟩ y).setCell ⟨b,2,none⟩ z) v c:=by
 obtain⟨r,s,l,rfl,h1,h2,h3⟩:=h;refine⟨r,s,l,rfl,⟨h1.sl,h1.len,λ j hj=> ?_⟩,h2.nilK hn hC x y z,⟨zta.sl h3,zta.len h3,λ j hj=>cell_nilK hC (zta.cell h3 j hj) (by rw[List.getElem_map];intro e;cases e) x y z⟩⟩;obtain⟨u,e1,e2⟩:=h1.at' j hj;refine⟨u,cell_nilK hC e1 (λ e=> ?_) x y z,e2.nilK hn hC x y z⟩;have:=e2.len;rw[e]at this;exact hr _ (zGM hj) (List.eq_nil_of_length_eq_zero (by simpa [slen]using this.symm))
theorem vecC_rows (L:List (List Nat)) (mv:List Nat->List Mv) (st:List Nat->Rat):∀r∈(vecC L mv st).rates,r≠ []:=by
 intro r hr e;obtain⟨i,hi,rfl⟩:=List.getElem_of_mem hr;have h:(vecC L mv st).rates=zhi (L.length+1) λ s j=>if h:s<L.length then znb L (mv L[s]) j else 0:=rfl;simp only[h]at e;rw[zxe]at e;have h2:=congrArg List.length e;rw[zwa]at h2;simp at h2
theorem MisA.bw {w w':World} {vlaw vrep:Value} {l:LQ} {rl:List Rat} {k m ms D B:Nat} (h:MisA w vlaw vrep l rl k m ms D B) (hb:Below w.heap.size w w'):MisA w' vlaw vrep l rl k m ms D B:=
 ⟨h.law.bw hb,h.lp,λ w'' hb'=>h.val w'' (zaa hb hb'),h.rep.bw hb,h.repl,h.repn,h.k1,h.k6,h.m4,h.km,h.ms,h.room,h.ov⟩
theorem RMisA.bw {w w':World} {vlaw vrep:Value} {l:LQ} {rl:List Rat} {k m ms D B:Nat} (h:RMisA w vlaw vrep l rl k m ms D B) (hb:Below w.heap.size w w'):RMisA w' vlaw vrep l rl k m ms D B:=
 ⟨h.law.bw hb,h.lp,h.rep.bw hb,h.repl,h.repn,h.k1,h.k6,h.m4,h.km,h.ms,h.room,h.ov⟩
theorem zlf.cases {w0 w:World} {L:List (List Nat)} {c:CQ} {e:Ending} (h:zlf w0 L c e w):∃ (v:Value) (er:Int),e= .returned (.tuple #[v, .int .i64 er])/\Below w0.heap.size w0 w/\
 ((L.length<128/\zic c.raw/\er=0/\zkc w v c)\/(¬ (L.length<128/\zic c.raw)/\er=2/\v= .agg #[.slice none 0 0, .slice none 0 0, .slice none 0 0])):=by
 by_cases hL:L.length<128
 ·obtain⟨v,er,rfl,hb,h1,h2⟩:=h.1 hL;by_cases hv:zic c.raw
  ·obtain⟨rfl,hc⟩:=h1 hv;exact⟨v,0,rfl,hb,Or.inl ⟨hL,hv,rfl,hc⟩⟩
  ·obtain⟨rfl,hc⟩:=h2 hv;exact⟨v,2,rfl,hb,Or.inr ⟨λ h=>hv h.2,rfl,hc⟩⟩
 ·obtain⟨rfl,hb⟩:=h.2 zO;exact⟨_,2,rfl,hb,Or.inr ⟨λ h=>hL h.1,rfl,rfl⟩⟩
theorem zlf.good {w0 w:World} {L:List (List Nat)} {c:CQ} {v:Value} (hL:L.length<128) (hv:zic c.raw) (hb:Below w0.heap.size w0 w) (hc:zkc w v c):zlf w0 L c (.returned (.tuple #[v, .int .i64 0])) w:=
 ⟨λ _=>⟨v,0,rfl,hb,λ _=>⟨rfl,hc⟩,λ h=>absurd hv h⟩,λ h=>absurd hL zO⟩
theorem zlf.bad {w0 w:World} {L:List (List Nat)} {c:CQ} (h:¬ (L.length<128/\zic c.raw)) (hb:Below w0.heap.size w0 w):zlf w0 L c (.returned (.tuple #[.agg #[.slice none 0 0, .slice none 0 0, .slice none 0 0], .int .i64 2])) w:=
 ⟨λ hL=>⟨_,2,rfl,hb,λ hv=>absurd ⟨hL,hv⟩ h,λ _=>⟨rfl,rfl⟩⟩,λ _=>⟨rfl,hb⟩⟩
set_option maxRecDepth 100000 in
theorem zcj (vlaw vrep:Value) (l:LQ) (rl:List Rat) (k m:Nat) (D B:Nat) (w:World) (h:MisA w vlaw vrep l rl k m 0 D B):
 Calls Tryz.prog 20 #[vlaw, .int .i64 (k:Nat), .int .i64 (m:Nat),vrep] w (zlf w (zue l.start.length (k+m) m) (cntC (lwF l) (λ i=>rl.getD i 0) (k+m) m 0)):=by
 obtain⟨nm,vS,vR,vE,rfl,hS,hR,hE⟩:=id h.law;obtain⟨sa,sn,sk,rfl,_⟩:=id hS.sl;obtain⟨ra,rn,rk,rfl,_⟩:=id hR.sl;obtain⟨ea,en,ek,rfl,_⟩:=id hE.sl;clear hS hR hE;have hba:=zba w (.cells #[.string nm, .slice sa sn sk, .slice ra rn rk, .slice ea en ek] 30);have hbb:=zba (w.alloc (.cells #[.string nm, .slice sa sn sk, .slice ra rn rk, .slice ea en ek] 30)) (.cells #[.slice none 0 0, .slice none 0 0, .slice none 0 0] 34);have hT:=(C4.new w 30 (.string nm) (.slice sa sn sk) (.slice ra rn rk) (.slice ea en ek)).bS hbb;have hC:=C3.newB (b:=w.heap.size+1) (w.alloc (.cells #[.string nm, .slice sa sn sk, .slice ra rn rk, .slice ea en ek] 30)) 34 (.slice none 0 0) (.slice none 0 0) (.slice none 0 0) (by simp);have hs1:(w.alloc (.cells #[.string nm, .slice sa sn sk, .slice ra rn rk, .slice ea en ek] 30)).heap.size=w.heap.size+1:=by simp
 have hN:=NilK.new (w.alloc (.cells #[.string nm, .slice sa sn sk, .slice ra rn rk, .slice ea en ek] 30)) 34;rw[hs1]at hN;have HN:=zH hN;have HC:=zH hC;have HBW:=zH (zaa hba hbb);have HA:=zH (h.bw (zaa hba hbb));obtain⟨L,hL⟩:∃L,zue l.start.length (k+m) m=L:=⟨_,rfl⟩;obtain⟨c,hc⟩:∃c,cntC (lwF l) (λ i=>rl.getD i 0) (k+m) m 0=c:=⟨_,rfl⟩;have HR:=zH (show ∀r∈c.rates,r≠ []from by rw[<-hc];exact vecC_rows _ _ _);have HM:=zH (zej _ _ l rl k m 0 D B _ HA.o);rw[hL,hc]at HM;have h0:(((0:Nat):Int))=0:=rfl;rw[h0]at HM;clear h0;rw[hL,hc];obtain⟨-,d0,d1,d2,d3,-,-,-,-⟩:=hT;clear h hba hbb hN hC hs1 hL hc HA;go_enter Tryz.func20,Tryz.ntmps20;go_upto_region 1 with fail;generalize (w.alloc (.cells #[.string nm, .slice sa sn sk, .slice ra rn rk, .slice ea en ek] 30)).alloc (.cells #[.slice none 0 0, .slice none 0 0, .slice none 0 0] 34)=W1 at *
 obtain⟨-,g0,g1,g2,u0,u1,u2⟩:=HC.o
 go_wp2_with (first
  |(go_at_call 14;(with_reducible refine HM.o.mono ?_);rintro e3 w3 hm3
    obtain⟨v3,er3,rfl,hb3,hcase⟩:=hm3.cases;have HCASE:=zH hcase
    obtain⟨v0,v1,v2,rfl⟩:∃v0 v1 v2,v3= .agg #[v0,v1,v2]:=by
     rcases hcase with⟨-,-,-,hc⟩ | ⟨-,-,rfl⟩
     ·obtain⟨r,s,l,rfl,_⟩:=hc;exact⟨r,s,l,rfl⟩
     ·exact⟨_,_,_,rfl⟩
    have hsl:zlb v0/\zlb v1/\zlb v2:=by
     rcases hcase with⟨-,-,-,hc⟩ | ⟨-,-,h9⟩
     ·obtain⟨r,s,l,h9,h1,h2,h3⟩:=hc;(injection h9 with h9);simp at h9;obtain⟨rfl,rfl,rfl⟩:=h9;exact⟨h1.sl,h2.sl,zta.sl h3⟩
     ·(injection h9 with h9);simp at h9;obtain⟨rfl,rfl,rfl⟩:=h9;exact⟨zlb.nil,zlb.nil,zlb.nil⟩
    obtain⟨⟨a1,a2,a3,rfl,_⟩,⟨b1,b2,b3,rfl,_⟩,⟨c1,c2,c3,rfl,_⟩⟩:=hsl;have HC3:=zH (HC.o.bS hb3);have HN3:=zH (HN.o.bw hb3 HC.o.lt);have HB3:=zH (zaa HBW.o hb3);clear d0 d1 d2 d3 g0 g1 g2 u0 u1 u2 hcase hb3 hm3;obtain⟨-,g0,g1,g2,u0,u1,u2⟩:=HC3.o))
 refine zka rfl rfl Tryz.aggCh Tryz.sizeCh (HC3.o.set _ _ _) rfl ?_;have hbf:=zea HB3.o (zLS _) (.slice a1 a2 a3) (.slice b1 b2 b3) (.slice c1 c2 c3);rcases HCASE.o with⟨h1,h2,h3,h4⟩ | ⟨h1,h2,h3⟩
 ·subst h3;exact zlf.good h1 h2 hbf (h4.nilK HR.o HN3.o HC3.o _ _ _)
 ·subst h2;rw[h3];exact zlf.bad h1 hbf
set_option maxRecDepth 100000 in
theorem zbk (vlaw vrep:Value) (l:LQ) (rl:List Rat) (k m:Nat) (D B:Nat) (w:World) (h:RMisA w vlaw vrep l rl k m 0 D B):
 Calls Tryz.prog 21 #[vlaw, .int .i64 (k:Nat), .int .i64 (m:Nat),vrep] w (zlf w (zue l.start.length (k+m) m) (cntC (lwF l) (λ i=>rl.getD i 0) (k+m) m 0)):=by
 obtain⟨nm,vS,vR,vE,rfl,hS,hR,hE⟩:=id h.law;obtain⟨sa,sn,sk,rfl,_⟩:=id hS.sl;obtain⟨ra,rn,rk,rfl,_⟩:=id hR.sl;obtain⟨ea,en,ek,rfl,_⟩:=id hE.sl;clear hS hR hE;have hba:=zba w (.cells #[.string nm, .slice sa sn sk, .slice ra rn rk, .slice ea en ek] 30);have hbb:=zba (w.alloc (.cells #[.string nm, .slice sa sn sk, .slice ra rn rk, .slice ea en ek] 30)) (.cells #[.slice none 0 0, .slice none 0 0, .slice none 0 0] 34);have hT:=(C4.new w 30 (.string nm) (.slice sa sn sk) (.slice ra rn rk) (.slice ea en ek)).bS hbb;have hC:=C3.newB (b:=w.heap.size+1) (w.alloc (.cells #[.string nm, .slice sa sn sk, .slice ra rn rk, .slice ea en ek] 30)) 34 (.slice none 0 0) (.slice none 0 0) (.slice none 0 0) (by simp);have hs1:(w.alloc (.cells #[.string nm, .slice sa sn sk, .slice ra rn rk, .slice ea en ek] 30)).heap.size=w.heap.size+1:=by simp
 have hN:=NilK.new (w.alloc (.cells #[.string nm, .slice sa sn sk, .slice ra rn rk, .slice ea en ek] 30)) 34;rw[hs1]at hN;have HN:=zH hN;have HC:=zH hC;have HBW:=zH (zaa hba hbb);have HA:=zH (h.bw (zaa hba hbb));obtain⟨L,hL⟩:∃L,zue l.start.length (k+m) m=L:=⟨_,rfl⟩;obtain⟨c,hc⟩:∃c,cntC (lwF l) (λ i=>rl.getD i 0) (k+m) m 0=c:=⟨_,rfl⟩;have HR:=zH (show ∀r∈c.rates,r≠ []from by rw[<-hc];exact vecC_rows _ _ _);have HM:=zH (zth _ _ l rl k m 0 D B _ HA.o);rw[hL,hc]at HM;have h0:(((0:Nat):Int))=0:=rfl;rw[h0]at HM;clear h0;rw[hL,hc];obtain⟨-,d0,d1,d2,d3,-,-,-,-⟩:=hT;clear h hba hbb hN hC hs1 hL hc HA;go_enter Tryz.func21,Tryz.ntmps21;go_upto_region 1 with fail;generalize (w.alloc (.cells #[.string nm, .slice sa sn sk, .slice ra rn rk, .slice ea en ek] 30)).alloc (.cells #[.slice none 0 0, .slice none 0 0, .slice none 0 0] 34)=W1 at *
 obtain⟨-,g0,g1,g2,u0,u1,u2⟩:=HC.o
 go_wp2_with (first
  |(go_at_call 15;(with_reducible refine HM.o.mono ?_);rintro e3 w3 hm3
    obtain⟨v3,er3,rfl,hb3,hcase⟩:=hm3.cases;have HCASE:=zH hcase
    obtain⟨v0,v1,v2,rfl⟩:∃v0 v1 v2,v3= .agg #[v0,v1,v2]:=by
     rcases hcase with⟨-,-,-,hc⟩ | ⟨-,-,rfl⟩
     ·obtain⟨r,s,l,rfl,_⟩:=hc;exact⟨r,s,l,rfl⟩
     ·exact⟨_,_,_,rfl⟩
    have hsl:zlb v0/\zlb v1/\zlb v2:=by
     rcases hcase with⟨-,-,-,hc⟩ | ⟨-,-,h9⟩
     ·obtain⟨r,s,l,h9,h1,h2,h3⟩:=hc;(injection h9 with h9);simp at h9;obtain⟨rfl,rfl,rfl⟩:=h9;exact⟨h1.sl,h2.sl,zta.sl h3⟩
     ·(injection h9 with h9);simp at h9;obtain⟨rfl,rfl,rfl⟩:=h9;exact⟨zlb.nil,zlb.nil,zlb.nil⟩
    obtain⟨⟨a1,a2,a3,rfl,_⟩,⟨b1,b2,b3,rfl,_⟩,⟨c1,c2,c3,rfl,_⟩⟩:=hsl;have HC3:=zH (HC.o.bS hb3);have HN3:=zH (HN.o.bw hb3 HC.o.lt);have HB3:=zH (zaa HBW.o hb3);clear d0 d1 d2 d3 g0 g1 g2 u0 u1 u2 hcase hb3 hm3;obtain⟨-,g0,g1,g2,u0,u1,u2⟩:=HC3.o))
 refine zka rfl rfl Tryz.aggCh Tryz.sizeCh (HC3.o.set _ _ _) rfl ?_;have hbf:=zea HB3.o (zLS _) (.slice a1 a2 a3) (.slice b1 b2 b3) (.slice c1 c2 c3);rcases HCASE.o with⟨h1,h2,h3,h4⟩ | ⟨h1,h2,h3⟩
 ·subst h3;exact zlf.good h1 h2 hbf (h4.nilK HR.o HN3.o HC3.o _ _ _)
 ·subst h2;rw[h3];exact zlf.bad h1 hbf
def ROver (w0:World) (e:Ending) (w:World):Prop:=e= .returned (.tuple #[.agg #[.slice none 0 0, .slice none 0 0, .slice none 0 0], .int .i64 1])/\Below w0.heap.size w0 w
set_option maxRecDepth 100000 in
theorem missing_over (vlaw vrep:Value) (l:LQ) (rl:List Rat) (k m ms:Nat) (D B:Nat) (w:World) (h:MisA w vlaw vrep l rl k m 0 D B) (hms:m<ms):
 Calls Tryz.prog 14 #[vlaw, .int .i64 (k:Nat), .int .i64 (m:Nat),vrep, .int .i64 (ms:Nat)] w (ROver w):=by
 obtain⟨nm,vS,vR,vE,rfl,hS,hR,hE⟩:=id h.law;obtain⟨sa,sn,sk,rfl,_⟩:=id hS.sl;obtain⟨ra,rn,rk,rfl,_⟩:=id hR.sl;obtain⟨ea,en,ek,rfl,_⟩:=id hE.sl;have hba:=zba w (.cells #[.string nm, .slice sa sn sk, .slice ra rn rk, .slice ea en ek] 30);have hbb:=zba (w.alloc (.cells #[.string nm, .slice sa sn sk, .slice ra rn rk, .slice ea en ek] 30)) (.cells #[.slice none 0 0, .slice none 0 0, .slice none 0 0] 34);have hT:=(C4.new w 30 (.string nm) (.slice sa sn sk) (.slice ra rn rk) (.slice ea en ek)).bS hbb;have hC:=C3.newB (b:=w.heap.size+1) (w.alloc (.cells #[.string nm, .slice sa sn sk, .slice ra rn rk, .slice ea en ek] 30)) 34 (.slice none 0 0) (.slice none 0 0) (.slice none 0 0) (by simp);have HT:=zH hT;have HC:=zH hC;have HBW:=zH (zaa hba hbb);have HA:=zH h;have k1:=h.k1;have k6:=h.k6;have m4:=h.m4;have km:=h.km;obtain⟨-,d0,d1,d2,d3,-,-,-,-⟩:=hT;obtain⟨-,g0,g1,g2,u0,u1,u2⟩:=hC;clear h hR hE hba hbb hS;have e1:decide ((ms:Int)<0)=false:=zDF zO;have e2:decide (m<ms)=true:=zDT hms;go_enter Tryz.func14,Tryz.ntmps14
 go_wp2_with (first
  |(go_at_call 37;(with_reducible refine(zom k m _ k1 k6 m4 km).mono ?_);rintro e3 w3 ⟨rfl,hb3⟩;have HB3:=zH (zaa HBW.o hb3);have HT3:=zH (HT.o.bS hb3);have HC3:=zH (HC.o.bS hb3);clear d0 d1 d2 d3 g0 g1 g2 u0 u1 u2;obtain⟨-,d0,d1,d2,d3,-,-,-,-⟩:=HT3.o;clear hb3)
  |(go_at_call 40;(with_reducible refine(HA.o.val _ HB3.o).mono ?_);rintro e4 w4 ⟨rfl,hb4⟩;have HB4:=zH (zaa HB3.o hb4);have HC4:=zH (HC3.o.bS hb4);clear d0 d1 d2 d3 hb4)
  |(go_at_call 38;(with_reducible refine(zfj _ rl m _ (HA.o.rep.bw HB4.o) HA.o.repl HA.o.repn zO).mono ?_);rintro e5 w5 ⟨rfl,hb5⟩;have HB5:=zH (zaa HB4.o hb5);have HC5:=zH (HC4.o.bS hb5);obtain⟨-,g0,g1,g2,u0,u1,u2⟩:=HC5.o;clear hb5))
 refine zka rfl rfl Tryz.aggCh Tryz.sizeCh (HC5.o.set _ _ _) rfl ?_;exact⟨rfl,zea HB5.o (zLS _) (.slice none 0 0) (.slice none 0 0) (.slice none 0 0)⟩
set_option maxRecDepth 100000 in
theorem zlq (vlaw vrep:Value) (l:LQ) (rl:List Rat) (k m ms:Nat) (D B:Nat) (w:World) (h:RMisA w vlaw vrep l rl k m 0 D B) (hms:m<ms):
 Calls Tryz.prog 15 #[vlaw, .int .i64 (k:Nat), .int .i64 (m:Nat),vrep, .int .i64 (ms:Nat)] w (ROver w):=by
 obtain⟨nm,vS,vR,vE,rfl,hS,hR,hE⟩:=id h.law;obtain⟨sa,sn,sk,rfl,_⟩:=id hS.sl;obtain⟨ra,rn,rk,rfl,_⟩:=id hR.sl;obtain⟨ea,en,ek,rfl,_⟩:=id hE.sl;have hba:=zba w (.cells #[.string nm, .slice sa sn sk, .slice ra rn rk, .slice ea en ek] 30);have hbb:=zba (w.alloc (.cells #[.string nm, .slice sa sn sk, .slice ra rn rk, .slice ea en ek] 30)) (.cells #[.slice none 0 0, .slice none 0 0, .slice none 0 0] 34);have hT:=(C4.new w 30 (.string nm) (.slice sa sn sk) (.slice ra rn rk) (.slice ea en ek)).bS hbb;have hC:=C3.newB (b:=w.heap.size+1) (w.alloc (.cells #[.string nm, .slice sa sn sk, .slice ra rn rk, .slice ea en ek] 30)) 34 (.slice none 0 0) (.slice none 0 0) (.slice none 0 0) (by simp);have HT:=zH hT;have HC:=zH hC;have HBW:=zH (zaa hba hbb);have HA:=zH h;have k1:=h.k1;have k6:=h.k6;have m4:=h.m4;have km:=h.km;obtain⟨-,d0,d1,d2,d3,-,-,-,-⟩:=hT;obtain⟨-,g0,g1,g2,u0,u1,u2⟩:=hC;clear h hR hE hba hbb hS;have e1:decide ((ms:Int)<0)=false:=zDF zO;have e2:decide (m<ms)=true:=zDT hms;go_enter Tryz.func15,Tryz.ntmps15
 go_wp2_with (first
  |(go_at_call 51;(with_reducible refine(zoq k m _ k1 k6 m4 km).mono ?_);rintro e3 w3 ⟨rfl,hb3⟩;have HB3:=zH (zaa HBW.o hb3);have HT3:=zH (HT.o.bS hb3);have HC3:=zH (HC.o.bS hb3);clear d0 d1 d2 d3 g0 g1 g2 u0 u1 u2;obtain⟨-,d0,d1,d2,d3,-,-,-,-⟩:=HT3.o;clear hb3)
  |(go_at_call 53;(with_reducible refine(zql _ l _ (HA.o.law.bw HB3.o).lawC HA.o.lp).mono ?_);rintro e4 w4 ⟨rfl,hb4⟩;have HB4:=zH (zaa HB3.o hb4);have HC4:=zH (HC3.o.bS hb4);clear d0 d1 d2 d3 hb4)
  |(go_at_call 52;(with_reducible refine(zfn _ rl m _ (HA.o.rep.bw HB4.o) HA.o.repl HA.o.repn m4).mono ?_);rintro e5 w5 ⟨rfl,hb5⟩;have HB5:=zH (zaa HB4.o hb5);have HC5:=zH (HC4.o.bS hb5);obtain⟨-,g0,g1,g2,u0,u1,u2⟩:=HC5.o;clear hb5))
 refine zka rfl rfl Tryz.aggCh Tryz.sizeCh (HC5.o.set _ _ _) rfl ?_;exact⟨rfl,zea HB5.o (zLS _) (.slice none 0 0) (.slice none 0 0) (.slice none 0 0)⟩
def lX :LQ:=⟨[1],[1],[[0]]⟩
theorem znp :zdh 0/\zdh 1/\zdh 5:=by
 refine⟨⟨zD,?_,?_⟩,⟨zD,?_,?_⟩,⟨zD,?_,?_⟩⟩<;>decide+kernel
theorem lX_P :LawP lX where
 n1:=zD
 n4:=zD
 el:=rfl
 rl:=rfl
 st:=λ q hq=>by
  obtain rfl:q=1:=by simpa [lX]using hq
  exact znp.2.1
 ex:=λ q hq=>by
  obtain rfl:q=1:=by simpa [lX]using hq
  exact znp.2.1
 row:=λ i h=>by
  obtain rfl:i=0:=by simp[lX]at h;omega
  exact⟨rfl,λ q hq=>by
   (obtain rfl:q=0:=by simpa [lX]using hq);exact znp.1,rfl⟩
 sum:=by decide+kernel
 ends:=⟨λ _=>0,λ i h=>⟨zZL _,Or.inl (by
  obtain rfl:i=0:=by simp[lX]at h;omega
  decide+kernel)⟩⟩
def cA :CQ:=⟨[[0,0,5,1],[0,0,5,1],[1,1,0,0],[0,0,0,0]],[0,0,1,0],[false,false,false,true]⟩
def cB :CQ:=⟨[[0,2,0],[5,0,1],[0,0,0]],[1,0,0],[false,false,true]⟩
theorem cA_eq :vecC (zbb (([lX,lX]:List LQ).map (·.start.length)) 1) (zjj (lwI [lX,lX]) (λ i=>([5]:List Rat).getD i 0) (([]:List (List Nat)).zip ([]:List Rat))) (zyq (lwI [lX,lX]))=cA:=by
 unfold cA;have h1:(vecC (zbb (([lX,lX]:List LQ).map (·.start.length)) 1) (zjj (lwI [lX,lX]) (λ i=>([5]:List Rat).getD i 0) (([]:List (List Nat)).zip ([]:List Rat))) (zyq (lwI [lX,lX]))).rates= [[0,0,5,1],[0,0,5,1],[1,1,0,0],[0,0,0,0]]:=by decide+kernel
 have h2:(vecC (zbb (([lX,lX]:List LQ).map (·.start.length)) 1) (zjj (lwI [lX,lX]) (λ i=>([5]:List Rat).getD i 0) (([]:List (List Nat)).zip ([]:List Rat))) (zyq (lwI [lX,lX]))).start= [0,0,1,0]:=by decide+kernel
 have h3:(vecC (zbb (([lX,lX]:List LQ).map (·.start.length)) 1) (zjj (lwI [lX,lX]) (λ i=>([5]:List Rat).getD i 0) (([]:List (List Nat)).zip ([]:List Rat))) (zyq (lwI [lX,lX]))).lost= [false,false,false,true]:=by decide+kernel
 rw[<-h1,<-h2,<-h3]
theorem cB_eq :cntC (lwF lX) (λ i=>([5]:List Rat).getD i 0) 2 1 0=cB:=by
 unfold cB;have h1:(cntC (lwF lX) (λ i=>([5]:List Rat).getD i 0) 2 1 0).rates= [[0,2,0],[5,0,1],[0,0,0]]:=by decide+kernel
 have h2:(cntC (lwF lX) (λ i=>([5]:List Rat).getD i 0) 2 1 0).start= [1,0,0]:=by decide+kernel
 have h3:(cntC (lwF lX) (λ i=>([5]:List Rat).getD i 0) 2 1 0).lost= [false,false,true]:=by decide+kernel
 rw[<-h1,<-h2,<-h3]
theorem lenA :(zbb (([lX,lX]:List LQ).map (·.start.length)) 1).length<128:=by decide+kernel
theorem lenB :(zue lX.start.length 2 1).length<128:=by decide+kernel
theorem ovN {q:Rat} (h:q=0\/q=1\/q=2\/q=5):over 1 10 q:=by
 rcases h with rfl | rfl | rfl | rfl
 ·exact⟨0,by decide+kernel,zD⟩
 ·exact⟨1,by decide+kernel,zD⟩
 ·exact⟨2,by decide+kernel,zD⟩
 ·exact⟨5,by decide+kernel,zD⟩
theorem ovA :∀v∈zbb (([lX,lX]:List LQ).map (·.start.length)) 1,∀x∈zjj (lwI [lX,lX]) (λ i=>([5]:List Rat).getD i 0) (([]:List (List Nat)).zip ([]:List Rat)) v,over 1 10 x.2:=λ v hv x hx=>
 ovN ((show ∀v∈zbb (([lX,lX]:List LQ).map (·.start.length)) 1,∀x∈zjj (lwI [lX,lX]) (λ i=>([5]:List Rat).getD i 0) (([]:List (List Nat)).zip ([]:List Rat)) v,x.2=0\/x.2=1\/x.2=2\/x.2=5 by decide+kernel) v hv x hx)
theorem ovB :∀v∈zue lX.start.length 2 1,∀x∈cntM (lwF lX) (λ i=>([5]:List Rat).getD i 0) v,over 1 10 x.2:=λ v hv x hx=>
 ovN ((show ∀v∈zue lX.start.length 2 1,∀x∈cntM (lwF lX) (λ i=>([5]:List Rat).getD i 0) v,x.2=0\/x.2=1\/x.2=2\/x.2=5 by decide+kernel) v hv x hx)
theorem lt_pow {a k N:Nat} (h:a<2^k) (hk:k<=N):a<2^N:=zLM h (Nat.pow_le_pow_right zD hk)
theorem room10 :zqk 1 10:=⟨zD,lt_pow (a:=1) (k:=1) (N:=4096) zD zD,lt_pow (a:=1000*10) (k:=20) (N:=4096) zD zD⟩
theorem plainN {q:Rat} (h:q=0\/q=1\/q=2\/q=5):zre (RF.of q):=by
 have hf:fits q:=room10.fits (ovN h);refine⟨RF.of_ok hf,?_,?_,?_⟩
 ·rw[RF.of_q];rcases h with rfl | rfl | rfl | rfl<;>decide+kernel
 ·rw[RF.of_q];rcases h with rfl | rfl | rfl | rfl<;>decide+kernel
 ·rw[RF.of_q];rcases h with rfl | rfl | rfl | rfl<;>decide+kernel
theorem rowN {l:List Rat} {n:Nat} (hl:l.length=n) (h:∀q∈l,q=0\/q=1\/q=2\/q=5) (hw:wts l<=3800):zoj (l.map RF.of) n:=by
 refine⟨λ x hx=> ?_,by rw[zMP];exact hl,?_⟩
 ·obtain⟨q,hq,rfl⟩:=List.mem_map.1 hx;exact plainN (h q hq)
 ·have e:qs (l.map RF.of)=l:=by unfold qs;rw[List.map_map];exact(List.map_congr_left λ q _=>RF.of_q q).trans (List.map_id _)
  rw[e];exact hw
theorem validN {c:CQ} {n:Nat} (h1:1<=n) (h2:n<=128) (hs:c.start.length=n) (hl:c.lost.length=n) (hr:c.rates.length=n) (hst:∀q∈c.start,q=0\/q=1\/q=2\/q=5) (hws:wts c.start<=3800) (hrow:∀r∈c.rates,r.length=n/\(∀q∈r,q=0\/q=1\/q=2\/q=5)/\wts r<=3800)
 (hd:∀i,i<n->(c.rates.getD i []).getD i 0=0) (hlo:∀i,i<n->c.lost.getD i false=true->wts (c.rates.getD i [])=0) (hsum:zof c.start=1):zic c.raw:=by
 have eq1:∀l:List Rat,qs (l.map RF.of)=l:=λ l=>by unfold qs;rw[List.map_map];exact(List.map_congr_left λ q _=>RF.of_q q).trans (List.map_id _)
 have esl:c.raw.start.length=n:=by show(c.start.map RF.of).length=n;rw[zMP];exact hs
 refine⟨by rw[esl];exact h1,by rw[esl];exact h2,by rw[esl];exact hl,by rw[esl];show(c.rates.map _).length=n;rw[zMP];exact hr,by rw[esl];exact rowN hs hst hws,λ i r hir=> ?_,by show zof (qs (c.start.map RF.of))=1;rw[eq1];exact hsum⟩;have hir2:(c.rates.map λ r=>r.map RF.of)[i]? =some r:=hir;rw[List.getElem?_map]at hir2
 cases hri:c.rates[i]? with
 | none=>rw[hri]at hir2;cases hir2
 | some row=>
   rw[hri]at hir2;(injection hir2 with hir2);subst hir2;(have hin:i<n:=by rw[<-hr];exact(List.getElem?_eq_some_iff.1 hri).1);have hmem:row∈c.rates:=List.mem_of_getElem? hri;(have hget:c.rates.getD i []=row:=by rw[zGD,hri];rfl);obtain⟨k1,k2,k3⟩:=hrow row hmem;refine⟨by rw[esl];exact rowN k1 k2 k3,λ x hx=> ?_,λ hlt=> ?_⟩
   ·rw[List.getElem?_map]at hx
    cases hqi:row[i]? with
    | none=>rw[hqi]at hx;cases hx
    | some q=>
      rw[hqi]at hx;(injection hx with hx);subst hx;have h0:=hd i hin;rw[hget,zGD,hqi]at h0;have h00:q=0:=h0;rw[RF.of_q,h00];rfl
   ·have h0:=hlo i hin (by rw[zGD];have hlt2:c.lost[i]? =some true:=hlt;rw[hlt2];rfl);rw[hget]at h0;rw[eq1];exact h0
theorem cA_valid :zic cA.raw:=validN (n:=4) zD zD rfl rfl rfl (by decide+kernel) (by decide+kernel) (by decide+kernel) (by decide+kernel) (by decide+kernel) (by decide+kernel)
theorem cB_valid :zic cB.raw:=validN (n:=3) zD zD rfl rfl rfl (by decide+kernel) (by decide+kernel) (by decide+kernel) (by decide+kernel) (by decide+kernel) (by decide+kernel)
theorem lcode_11 (w:World):Calls Tryz.prog 37 #[.int .i64 1, .int .i64 1] w (λ e w'=>e= .returned (.bool true)/\Below w.heap.size w w'):=by
 refine(zdo 1 1 w).mono ?_;rintro e w' ⟨rfl,hb⟩;exact⟨by rw[zDT zD],hb⟩
def RNone (w0:World) (e:Ending) (w:World):Prop:=e= .returned (.tuple #[.agg #[.slice none 0 0, .slice none 0 0, .slice none 0 0], .int .i64 1])/\Below w0.heap.size w0 w
set_option maxRecDepth 100000 in
set_option maxHeartbeats 1600000 in
theorem full_none (w:World):Calls Tryz.prog 11 #[.slice none 0 0, .int .i64 1, .int .i64 1, .slice none 0 0, .slice none 0 0, .slice none 0 0] w (RNone w):=by
 have hbb:=zba w (.cells #[.slice none 0 0, .slice none 0 0, .slice none 0 0] 34);have HC:=zH (C3.new w 34 (.slice none 0 0) (.slice none 0 0) (.slice none 0 0));have HBW:=zH hbb;clear hbb;go_enter Tryz.func11,Tryz.ntmps11
 go_wp2_with (first
  |(go_at_call 37;(with_reducible refine(lcode_11 _).mono ?_);rintro e3 w3 ⟨rfl,hb3⟩;have HB3:=zH (zaa HBW.o hb3);have HC3:=zH (HC.o.bS hb3);obtain⟨-,g0,g1,g2,u0,u1,u2⟩:=HC3.o;clear hb3))
 refine zka rfl rfl Tryz.aggCh Tryz.sizeCh (HC3.o.set _ _ _) rfl ?_;exact⟨rfl,zea HB3.o (zLR _) (.slice none 0 0) (.slice none 0 0) (.slice none 0 0)⟩
theorem zum.lawD {w:World} {v:Value} {l:LQ} (h:zum w v l):LawD w v l:=by
 obtain⟨s,r,e,rfl,h1,h2,h3⟩:=h;exact⟨_,s,r,e,rfl,h1,h2,h3⟩
theorem rep5 {w:World} {v:Value} (h:zpa w v [5]):znc w v [5]:=h.toV λ q hq=>by
 obtain rfl:q=5:=by simpa using hq
 exact znp.2.2.fits
theorem zwp {w:World} {g:Nat} {s r e v:Value} (hv:zwc w g #[.string { data:=#[] },s,r,e, .string { data:=#[] },s,r,e]) (hl:zum w (.agg #[.string { data:=#[] },s,r,e]) lX) (h5:zpa w v [5]):
 Calls Tryz.prog 11 #[.slice (some ⟨g,0,none⟩) 2 2, .int .i64 1, .int .i64 1,v, .slice none 0 0, .slice none 0 0] w (zlf w (zbb (([lX,lX]:List LQ).map (·.start.length)) 1) cA):=by
 have hp:∀k,ptr (.slice (some ⟨g,0,none⟩) 2 2) k=⟨g,k,none⟩:=λ k=>by simp only[ptr,base,Addr.add_lit,Nat.zero_add]
 have hd:=hl.lawD.toV lX_P;obtain⟨nm,s',r',e',he,k1,k2,k3⟩:=id hd;injection he with he
 simp at he;obtain⟨rfl,rfl,rfl,rfl⟩:=he
 have h:=full_chain (.slice (some ⟨g,0,none⟩) 2 2) v (.slice none 0 0) (.slice none 0 0) [lX,lX] [5] [] [] 1 1 1 10 w
  {
   laws:=⟨⟨_,2,2,rfl,zLR _,by simp[maxLen],λ e=>by cases e⟩,rfl,λ j hj=>by
    (have hj2:j=0\/j=1:=by simp at hj;omega);rcases hj2 with rfl | rfl
    ·exact⟨_,s,r,e,by rw[hp];exact hv.cell 0 rfl,by rw[hp];exact hv.cell 1 rfl,by rw[hp];exact hv.cell 2 rfl,by rw[hp];exact hv.cell 3 rfl,k1,k2,k3⟩
    ·exact⟨_,s,r,e,by rw[hp];exact hv.cell 4 rfl,by rw[hp];exact hv.cell 5 rfl,by rw[hp];exact hv.cell 6 rfl,by rw[hp];exact hv.cell 7 rfl,k1,k2,k3⟩⟩
   num:=rfl
   lp:=λ l hl=>by
    (obtain rfl:l=lX:=by simpa using hl);exact lX_P
   val:=λ j hj a0 a1 a2 a3 h0 h1 h2 h3 w' hb=>by
    have hj2:j=0\/j=1:=by simp at hj;omega
    have key:a0= .string { data:=#[] }/\a1=s/\a2=r/\a3=e:=by
     rcases hj2 with rfl | rfl
     ·rw[hp]at h0 h1 h2 h3;rw[hv.cell 0 rfl]at h0;rw[hv.cell 1 rfl]at h1;rw[hv.cell 2 rfl]at h2;rw[hv.cell 3 rfl]at h3;(injection h0 with h0;injection h1 with h1;injection h2 with h2;injection h3 with h3);exact⟨h0.symm,h1.symm,h2.symm,h3.symm⟩
     ·rw[hp]at h0 h1 h2 h3;rw[hv.cell 4 rfl]at h0;rw[hv.cell 5 rfl]at h1;rw[hv.cell 6 rfl]at h2;rw[hv.cell 7 rfl]at h3;(injection h0 with h0;injection h1 with h1;injection h2 with h2;injection h3 with h3);exact⟨h0.symm,h1.symm,h2.symm,h3.symm⟩
    obtain⟨rfl,rfl,rfl,rfl⟩:=key;exact zwi _ lX w' (hl.bw hb).lawC lX_P
   rep:=rep5 h5
   repl:=λ q hq=>by
    (obtain rfl:q=5:=by simpa using hq);exact⟨znp.2.2,by decide+kernel⟩
   repn:=rfl
   grp:=⟨zlb.nil,rfl,λ j hj=>by simp at hj⟩
   grpP:=⟨zD,λ g hg=>by simp at hg,λ g hg=>by simp at hg,λ g hg=>by simp at hg,λ g hg=>by simp at hg⟩
   sh:=⟨[],zte.nil w,λ y hy=>by simp at hy,rfl⟩
   shl:=λ q hq=>by simp at hq
   shn:=rfl
   k1:=zD
   k6:=zD
   m4:=zD
   km:=zD
   room:=room10
   ov:=ovA }
 rw[cA_eq]at h;exact h
theorem awake_misA {w:World} {vl v:Value} (hl:zum w vl lX) (h5:zpa w v [5]):MisA w vl v lX [5] 1 1 0 1 10 where
 law:=hl.lawD.toV lX_P
 lp:=lX_P
 val:=λ w' hb=>zwi _ lX w' (hl.bw hb).lawC lX_P
 rep:=rep5 h5
 repl:=λ q hq=>by
  obtain rfl:q=5:=by simpa using hq
  exact⟨znp.2.2,by decide+kernel⟩
 repn:=rfl
 k1:=zD
 k6:=zD
 m4:=zD
 km:=zD
 ms:=zD
 room:=room10
 ov:=ovB
theorem zzl {w:World} {vl v:Value} (hl:zum w vl lX) (h5:zpa w v [5]):
 Calls Tryz.prog 20 #[vl, .int .i64 1, .int .i64 1,v] w (zlf w (zue lX.start.length 2 1) cB):=by
 have h:=zcj vl v lX [5] 1 1 1 10 w (awake_misA hl h5);rw[show 1+1=2 from rfl,cB_eq]at h;exact h
theorem awake_merge (w:World):Calls Tryz.prog 16 #[.int .i64 1, .int .i64 1, .int .i64 1, .int .i64 2] w (λ e w'=>e= .returned (.tuple #[.int .i64 0, .int .i64 0])/\Below w.heap.size w w'):=by
 have h:=merge_any 1 1 1 2 w;rw[show zao 1 1 1 2=(0,0)by decide+kernel]at h;exact h
theorem zlf.ok {w0 w:World} {L:List (List Nat)} {c:CQ} {e:Ending} (h:zlf w0 L c e w) (hL:L.length<128) (hv:zic c.raw):∃v,e= .returned (.tuple #[v, .int .i64 0])/\Below w0.heap.size w0 w/\zkc w v c:=by
 obtain⟨v,er,rfl,hb,h1,_⟩:=h.1 hL;obtain⟨rfl,hc⟩:=h1 hv;exact⟨v,rfl,hb,hc⟩
end Go.Proofs.YtkpedaflofejnaaGreat
