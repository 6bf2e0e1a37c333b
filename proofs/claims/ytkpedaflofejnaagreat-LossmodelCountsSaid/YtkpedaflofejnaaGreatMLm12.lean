/-
  LossmodelCounts: for every input the law returns true, and the input reads as it did. No condition.
-/
import Derived.Test.YtkpedaflofejnaaGreatMLm9
import Derived.Test.YtkpedaflofejnaaGreatMLm7
import Derived.Test.YtkpedaflofejnaaGreatMPp6
import Derived.Test.YtkpedaflofejnaaGreatRows
import Derived.OpenShut
import Derived.Deep.Strs
import Derived.Deep.Grids
set_option linter.unusedVariables false
set_option linter.unusedSimpArgs false
namespace Go.Proofs.YtkpedaflofejnaaGreat
open Go.RowKit
theorem over_cast {c B:Nat} (h:c<=B):over 1 B (c:Rat):=⟨(c:Int),by rw[Rat.mkRat_one];rfl,by simpa using h⟩
theorem over_cntM {l:LQ} {rl:List Rat} (hl:zvj 2 l) (hr:∀q∈rl,tfQ q) {v:List Nat} (hv:v.sum<=8):∀x∈cntM (lwF l) (λ i=>rl.getD i 0) v,over 6720 400000 x.2:=by
 intro x hx;obtain⟨p,hp,hx⟩:=List.mem_flatMap.1 hx;have hpn:p<l.start.length:=List.mem_range.1 hp;have hc:=over_cast (zhq hv (p+1));rcases List.mem_append.1 hx with hx | hx
 ·split at hx
  ·unfold ziq at hx;rcases List.mem_append.1 hx with hx | hx
   ·obtain⟨q,hq,rfl⟩:=List.mem_map.1 hx;have h:=((hc.mul (hl.sm.r p q hpn (List.mem_range.1 hq))).scale (m:=8) zD);exact h.mono zD
   ·rw[List.mem_singleton]at hx;subst hx;have h:=((hc.mul (hl.sm.e p hpn)).scale (m:=8) zD);exact h.mono zD
  ·cases hx
 ·split at hx
  ·unfold repM at hx;rw[List.mem_singleton]at hx;subst hx
   have hrep:over 840 5040 (rl.getD (v.getD 0 0-1) 0):=by
    rcases zOG (v.getD 0 0-1) rl.length with h | h
    ·rw[zGD,zGE h];exact(hr _ (zGM h)).over
    ·rw[zGD,List.getElem?_eq_none h];exact over.zero _ _
   have h:=hrep.mul (hl.start8 hpn);exact h.mono zD
  ·cases hx
theorem room6720 :zqk 6720 400000:=⟨zD,lt_pow (a:=6720) (k:=13) (N:=4096) zD zD,lt_pow (a:=1000*400000) (k:=29) (N:=4096) zD zD⟩
theorem zcg {w:World} {vl vr:Value} {l:LQ} {rl:List Rat} {k m ms:Nat} (hl:zum w vl l) (ht:zvj 2 l) (hr:zpa w vr rl) (hq:∀q∈rl,tfQ q) (hn:rl.length=max m 1) (k1:1<=k) (k2:k<=2) (m2:m<=2) (hms:ms<=m):RMisA w vl vr l rl k m ms 6720 400000 where
 law:=hl.lawD
 lp:=ht.law zD
 rep:=hr
 repl:=λ q h=>⟨(hq q h).lim,λ e=>by have:=(hq q h).pos;rw[e]at this;exact absurd this zD⟩
 repn:=hn
 k1:=k1
 k6:=zO
 m4:=zO
 km:=zO
 ms:=hms
 room:=room6720
 ov:=λ v hv=>over_cntM ht hq (by
  have h:=((zik (ht.law (m:=2) zD).n1 (show m<=k+m by omega)).1 hv).2.1;omega)
theorem zuj {w:World} {vl vr:Value} {l:LQ} {rl:List Rat} {k m ms:Nat} (hl:zum w vl l) (ht:zvj 2 l) (hr:zpa w vr rl) (hq:∀q∈rl,tfQ q) (hn:rl.length=max m 1) (k1:1<=k) (k2:k<=2) (m2:m<=2) (hms:ms<=m):MisA w vl vr l rl k m ms 6720 400000:=
 have h:=zcg hl ht hr hq hn k1 k2 m2 hms
 ⟨h.law.toV h.lp,h.lp,λ w' hb=>zwi _ l w' (hl.bw hb).lawC h.lp,h.rep.toV (λ q hq2=>(hq q hq2).lim.fits),h.repl,h.repn,h.k1,h.k6,h.m4,h.km,h.ms,h.room,h.ov⟩
theorem nil_chain (w:World):zkc w (.agg #[.slice none 0 0, .slice none 0 0, .slice none 0 0]) ⟨[],[],[]⟩:=⟨_,_,_,rfl,⟨zlb.nil,rfl,λ j h=>by simp at h⟩,⟨zlb.nil,rfl,λ j h=>by simp at h⟩,⟨zlb.nil,rfl,λ j h=>by simp at h⟩⟩
def RCE (w0:World) (c:CQ) (er:Int) (e:Ending) (w:World):Prop:=∃v,e= .returned (.tuple #[v, .int .i64 er])/\Below w0.heap.size w0 w/\zkc w v c
theorem zlf.good' {w0 w:World} {L:List (List Nat)} {c:CQ} {e:Ending} (h:zlf w0 L c e w) (hv:L.length<128/\zic c.raw):RCE w0 c 0 e w:=by
 obtain⟨v,er,rfl,hb,hc⟩:=h.cases;rcases hc with⟨_,_,rfl,h4⟩ | ⟨h1,_,_⟩
 ·exact⟨v,rfl,hb,h4⟩
 ·exact absurd hv h1
theorem zlf.bad' {w0 w:World} {L:List (List Nat)} {c:CQ} {e:Ending} (h:zlf w0 L c e w) (hv:¬ (L.length<128/\zic c.raw)):RCE w0 ⟨[],[],[]⟩ 2 e w:=by
 obtain⟨v,er,rfl,hb,hc⟩:=h.cases;rcases hc with⟨h1,h2,_,_⟩ | ⟨_,rfl,rfl⟩
 ·exact absurd ⟨h1,h2⟩ hv
 ·exact⟨_,rfl,hb,nil_chain w⟩
theorem ROver.rce {w0 w:World} {e:Ending} (h:ROver w0 e w):RCE w0 ⟨[],[],[]⟩ 1 e w:=by
 obtain⟨rfl,hb⟩:=h;exact⟨_,rfl,hb,nil_chain w⟩
theorem miss_both {l:LQ} {rl:List Rat} {k m:Nat} (ms:Nat) (ht:zvj 2 l) (hq:∀q∈rl,tfQ q) (hn:rl.length=max m 1) (k1:1<=k) (k2:k<=2) (m2:m<=2):
 ∃ (cc:CQ) (er:Int),(∀ (w:World) (vl vr:Value) (mm:Int),mm=(ms:Nat)->zum w vl l->zpa w vr rl->Calls Tryz.prog 14 #[vl, .int .i64 (k:Nat), .int .i64 (m:Nat),vr, .int .i64 mm] w (RCE w cc er))/\
  ∀ (w:World) (vl vr:Value) (mm:Int),mm=(ms:Nat)->zum w vl l->zpa w vr rl->Calls Tryz.prog 15 #[vl, .int .i64 (k:Nat), .int .i64 (m:Nat),vr, .int .i64 mm] w (RCE w cc er):=by
 rcases zOG m ms with h | h
 ·refine⟨⟨[],[],[]⟩,1,λ w vl vr mm e hl hr=> ?_,λ w vl vr mm e hl hr=> ?_⟩
  ·subst e;exact(missing_over _ _ l rl k m ms 6720 400000 w (zuj hl ht hr hq hn k1 k2 m2 (zZL _)) h).mono λ _ _ h2=>h2.rce
  ·subst e;exact(zlq _ _ l rl k m ms 6720 400000 w (zcg hl ht hr hq hn k1 k2 m2 (zZL _)) h).mono λ _ _ h2=>h2.rce
 ·by_cases hv:(zue l.start.length (k+m) m).length<128/\zic (cntC (lwF l) (λ i=>rl.getD i 0) (k+m) m ms).raw
  ·refine⟨cntC (lwF l) (λ i=>rl.getD i 0) (k+m) m ms,0,λ w vl vr mm e hl hr=> ?_,λ w vl vr mm e hl hr=> ?_⟩
   ·subst e;exact(zej _ _ l rl k m ms 6720 400000 w (zuj hl ht hr hq hn k1 k2 m2 h)).mono λ _ _ h2=>h2.good' hv
   ·subst e;exact(zth _ _ l rl k m ms 6720 400000 w (zcg hl ht hr hq hn k1 k2 m2 h)).mono λ _ _ h2=>h2.good' hv
  ·refine⟨⟨[],[],[]⟩,2,λ w vl vr mm e hl hr=> ?_,λ w vl vr mm e hl hr=> ?_⟩
   ·subst e;exact(zej _ _ l rl k m ms 6720 400000 w (zuj hl ht hr hq hn k1 k2 m2 h)).mono λ _ _ h2=>h2.bad' hv
   ·subst e;exact(zth _ _ l rl k m ms 6720 400000 w (zcg hl ht hr hq hn k1 k2 m2 h)).mono λ _ _ h2=>h2.bad' hv
theorem counts_both {l:LQ} {rl:List Rat} {k m:Nat} (ht:zvj 2 l) (hq:∀q∈rl,tfQ q) (hn:rl.length=max m 1) (k1:1<=k) (k2:k<=2) (m2:m<=2):
 ∃ (cc:CQ) (er:Int),(∀ (w:World) (vl vr:Value),zum w vl l->zpa w vr rl->Calls Tryz.prog 20 #[vl, .int .i64 (k:Nat), .int .i64 (m:Nat),vr] w (RCE w cc er))/\
  ∀ (w:World) (vl vr:Value),zum w vl l->zpa w vr rl->Calls Tryz.prog 21 #[vl, .int .i64 (k:Nat), .int .i64 (m:Nat),vr] w (RCE w cc er):=by
 by_cases hv:(zue l.start.length (k+m) m).length<128/\zic (cntC (lwF l) (λ i=>rl.getD i 0) (k+m) m 0).raw
 ·exact⟨cntC (lwF l) (λ i=>rl.getD i 0) (k+m) m 0,0,λ w vl vr hl hr=>(zcj _ _ l rl k m 6720 400000 w (zuj hl ht hr hq hn k1 k2 m2 (zZL _))).mono λ _ _ h2=>h2.good' hv,
   λ w vl vr hl hr=>(zbk _ _ l rl k m 6720 400000 w (zcg hl ht hr hq hn k1 k2 m2 (zZL _))).mono λ _ _ h2=>h2.good' hv⟩
 ·exact⟨⟨[],[],[]⟩,2,λ w vl vr hl hr=>(zcj _ _ l rl k m 6720 400000 w (zuj hl ht hr hq hn k1 k2 m2 (zZL _))).mono λ _ _ h2=>h2.bad' hv,
   λ w vl vr hl hr=>(zbk _ _ l rl k m 6720 400000 w (zcg hl ht hr hq hn k1 k2 m2 (zZL _))).mono λ _ _ h2=>h2.bad' hv⟩
theorem zkc.lits {w:World} {v:Value} {c:CQ} (h:zkc w v c):∃ (r1:Option Addr) (r2 r3:Nat) (s1:Option Addr) (s2 s3:Nat) (l1:Option Addr) (l2 l3:Nat),v= .agg #[.slice r1 r2 r3, .slice s1 s2 s3, .slice l1 l2 l3]:=by
 obtain⟨r,s,l,rfl,h1,h2,h3⟩:=h;obtain⟨r1,r2,r3,rfl,_⟩:=h1.sl;obtain⟨s1,s2,s3,rfl,_⟩:=h2.sl;obtain⟨l1,l2,l3,rfl,_⟩:=zta.sl h3;exact⟨_,_,_,_,_,_,_,_,_,rfl⟩
structure CtS (w0:World) (vl s r e:Value) (l:LQ) (vr:Value) (rl:List Rat) (wq:World):Prop where
 c0:wq.cell? (ptr vl 0)=some (.string { data:=#[] })
 c1:wq.cell? (ptr vl 1)=some s
 c2:wq.cell? (ptr vl 2)=some r
 c3:wq.cell? (ptr vl 3)=some e
 law:zum wq (.agg #[.string { data:=#[] },s,r,e]) l
 rep:zpa wq vr rl
 b:Below w0.heap.size w0 wq
theorem CtS.bw {w0 wq w':World} {vl s r e:Value} {l:LQ} {vr:Value} {rl:List Rat} (h:CtS w0 vl s r e l vr rl wq) (hb:Below wq.heap.size wq w'):CtS w0 vl s r e l vr rl w':=
 ⟨zca hb h.c0,zca hb h.c1,zca hb h.c2,zca hb h.c3,h.law.bw hb,h.rep.bw hb,zaa h.b hb⟩
theorem CtS.cells {w0 wq:World} {vl s r e:Value} {l:LQ} {vr:Value} {rl:List Rat} (h:CtS w0 vl s r e l vr rl wq):
 wq.cell? (ptr vl 0)=some (.string { data:=#[] })/\wq.cell? (ptr vl 1)=some s/\wq.cell? (ptr vl 2)=some r/\wq.cell? (ptr vl 3)=some e:=⟨h.c0,h.c1,h.c2,h.c3⟩
structure ChV (b:Nat) (r s l:Value) (cq:CQ) (w:World):Prop where
 c:C3 w b r s l
 ch:zkc w (.agg #[r,s,l]) cq
theorem ChV.new {w:World} {r s l:Value} {c:CQ} (h:zkc w (.agg #[r,s,l]) c):ChV w.heap.size r s l c (w.alloc (.cells #[r,s,l] 34)):=⟨C3.new w _ _ _ _,h.bw (zba w _)⟩
theorem ChV.bw {b:Nat} {r s l:Value} {c:CQ} {w w':World} (h:ChV b r s l c w) (hb:Below w.heap.size w w'):ChV b r s l c w':=⟨h.c.bS hb,h.ch.bw hb⟩
set_option maxRecDepth 100000 in
set_option maxHeartbeats 12800000 in
theorem counts_law (va:Value) (lb:List Nat) (x:Nat) (ph st:Int) (w:World) (h:zta w va (bytes lb)) (hb:∀y∈lb,y<256) (hx:x<256):
 Calls Tryz.prog 5 #[va, .int .u8 (x:Nat), .int .i64 ph, .int .i64 st] w (λ e w'=>e= .returned (.bool true)/\Below w.heap.size w w'):=by
 have HRD:zI (Calls Tryz.prog 18 #[va, .bool true] w (RRead w)):=zH (read_alike va lb w h hb);have sva:=zta.sl h;clear h hb;go_enter Tryz.func5,Tryz.ntmps5
 go_upto_region 3 with(first
  |(go_at_call 18;(with_reducible refine HRD.o.mono ?_);rintro e1 w1 ⟨k,m,vl,cs,ls,vr,rl,vg,rg,gs,vs,sl,B1,B2,B3,B4,rfl,k1,k2,m2,hlg,hln,htl,hfr,hfl,hft,-,-,-,-,-,hb⟩;(have hl0:0<ls.length:=zO);obtain⟨s,r,e,c0,c1,c2,c3,hlw⟩:=hlg.cells hl0;have htl0:=htl _ (zGM hl0);obtain⟨l,hl⟩:∃l,ls[0]=l:=⟨_,rfl⟩;rw[hl]at hlw htl0;obtain⟨saA,snA,skA,raA,rnA,rkA,eaA,enA,ekA,hag⟩:=hlw.lawE.slc;(injection hag with hag);simp only[Array.mk.injEq,List.cons.injEq,and_true,true_and]at hag;obtain⟨rfl,rfl,rfl⟩:=hag;have HS:=zH (CtS.mk (w0:=w) c0 c1 c2 c3 hlw.lawE hfr.fracs hb);have vsl:=hlg.own.sl;have vln:=hlg.own.len;have rsl:=hfr.fracs.sl;have HMB:=zH (miss_both (x%(m+2)) htl0 hft hfl k1 k2 m2);have HCB:=zH (counts_both htl0 hft hfl k1 k2 m2);(have m20:((m:Int)+2)≠0:=zO);clear c0 c1 c2 c3 hlg htl hl hlw hfr hb hfl hft htl0 HRD))
 obtain⟨mm,hmm⟩:∃mm:Int,(x:Int)%((m:Int)+2)=mm:=⟨_,rfl⟩;rw[hmm];have hm9:mm=((x%(m+2):Nat):Int):=by rw[<-hmm];push_cast;rfl
 obtain⟨cc,er,HMA,HMC⟩:=HMB.o;obtain⟨cd,es,HCA,HCD⟩:=HCB.o;have HMA:=zH HMA;have HMC:=zH HMC;have HCA:=zH HCA;have HCD:=zH HCD;have HM9:=zH hm9;clear HMB HCB hmm hm9 m20 hx hl0;obtain⟨z0,z1,z2,z3⟩:=HS.o.cells
 go_upto_region 4 with(first
  |(go_at_call 14;clear z0 z1 z2 z3;(with_reducible refine(HMA.o _ _ _ _ HM9.o HS.o.law HS.o.rep).mono ?_);rintro e3 w3 ⟨v3,rfl,hb3,hc3⟩;obtain⟨r3a,r3b,r3c,s3a,s3b,s3c,l3a,l3b,l3c,rfl⟩:=hc3.lits;have hba:=zba w3 (.cells #[.slice r3a r3b r3c, .slice s3a s3b s3c, .slice l3a l3b l3c] 34);have hbb:=zaa hb3 hba;have HS3:=zH (HS.o.bw hbb);have HK3:=zH (ChV.new hc3);clear hba hbb hb3 hc3 HS))
 obtain⟨b3,hB3⟩:∃b,w3.heap.size=b:=⟨_,rfl⟩;rw[hB3]at HK3 |-
 clear hB3;generalize w3.alloc (.cells #[.slice r3a r3b r3c, .slice s3a s3b s3c, .slice l3a l3b l3c] 34)=W3 at *
 have HS:=HS3;clear HS3;obtain⟨z0,z1,z2,z3⟩:=HS.o.cells
 go_upto_region 5 with(first
  |(go_at_call 15;clear z0 z1 z2 z3;(with_reducible refine(HMC.o _ _ _ _ HM9.o HS.o.law HS.o.rep).mono ?_);rintro e4 w4 ⟨v4,rfl,hb4,hc4⟩;obtain⟨r4a,r4b,r4c,s4a,s4b,s4c,l4a,l4b,l4c,rfl⟩:=hc4.lits;have hba:=zba w4 (.cells #[.slice r4a r4b r4c, .slice s4a s4b s4c, .slice l4a l4b l4c] 34);have hbb:=zaa hb4 hba;have HS4:=zH (HS.o.bw hbb);have HK4:=zH (ChV.new hc4);have HK3n:=zH (HK3.o.bw hbb);clear hba hbb hb4 hc4 HS HK3))
 obtain⟨b4,hB4⟩:∃b,w4.heap.size=b:=⟨_,rfl⟩;rw[hB4]at HK4 |-
 clear hB4;generalize w4.alloc (.cells #[.slice r4a r4b r4c, .slice s4a s4b s4c, .slice l4a l4b l4c] 34)=W4 at *
 have HS:=HS4;clear HS4;have HK3:=HK3n;clear HK3n;obtain⟨z0,z1,z2,z3⟩:=HS.o.cells
 go_upto_region 6 with(first
  |(go_at_call 20;clear z0 z1 z2 z3;(with_reducible refine(HCA.o _ _ _ HS.o.law HS.o.rep).mono ?_);rintro e5 w5 ⟨v5,rfl,hb5,hc5⟩;obtain⟨r5a,r5b,r5c,s5a,s5b,s5c,l5a,l5b,l5c,rfl⟩:=hc5.lits;have hba:=zba w5 (.cells #[.slice r5a r5b r5c, .slice s5a s5b s5c, .slice l5a l5b l5c] 34);have hbb:=zaa hb5 hba;have HS5:=zH (HS.o.bw hbb);have HK5:=zH (ChV.new hc5);have HK3n:=zH (HK3.o.bw hbb);have HK4n:=zH (HK4.o.bw hbb);clear hba hbb hb5 hc5 HS HK3 HK4))
 obtain⟨b5,hB5⟩:∃b,w5.heap.size=b:=⟨_,rfl⟩;rw[hB5]at HK5 |-
 clear hB5;generalize w5.alloc (.cells #[.slice r5a r5b r5c, .slice s5a s5b s5c, .slice l5a l5b l5c] 34)=W5 at *
 have HS:=HS5;clear HS5;have HK3:=HK3n;clear HK3n;have HK4:=HK4n;clear HK4n;obtain⟨z0,z1,z2,z3⟩:=HS.o.cells
 go_upto_region 7 with(first
  |(go_at_call 21;clear z0 z1 z2 z3;(with_reducible refine(HCD.o _ _ _ HS.o.law HS.o.rep).mono ?_);rintro e6 w6 ⟨v6,rfl,hb6,hc6⟩;obtain⟨r6a,r6b,r6c,s6a,s6b,s6c,l6a,l6b,l6c,rfl⟩:=hc6.lits;have hba:=zba w6 (.cells #[.slice r6a r6b r6c, .slice s6a s6b s6c, .slice l6a l6b l6c] 34);have hbb:=zaa hb6 hba;have HS6:=zH (HS.o.bw hbb);have HK6:=zH (ChV.new hc6);have HK3n:=zH (HK3.o.bw hbb);have HK4n:=zH (HK4.o.bw hbb);have HK5n:=zH (HK5.o.bw hbb);clear hba hbb hb6 hc6 HS HK3 HK4 HK5))
 obtain⟨b6,hB6⟩:∃b,w6.heap.size=b:=⟨_,rfl⟩;rw[hB6]at HK6 |-
 clear hB6;generalize w6.alloc (.cells #[.slice r6a r6b r6c, .slice s6a s6b s6c, .slice l6a l6b l6c] 34)=W6 at *
 have HS:=HS6;clear HS6;have HK3:=HK3n;clear HK3n;have HK4:=HK4n;clear HK4n;have HK5:=HK5n;clear HK5n;have hy4:ChV b4 (.slice r4a r4b r4c) (.slice s4a s4b s4c) (.slice l4a l4b l4c) cc W6:=HK4.o;obtain⟨⟨x1,x2⟩,hxy⟩:∃q:Int×Int,zao ph (k:Nat) (m:Nat) st=q:=⟨_,rfl⟩;have HG1:zI (∀w0,Calls Tryz.prog 16 #[.int .i64 ph, .int .i64 (k:Nat), .int .i64 (m:Nat), .int .i64 st] w0 (zro w0 (x1,x2))):=zH (λ w0=>by rw[<-hxy];exact merge_any ph k m st w0);have HG2:zI (∀w0,Calls Tryz.prog 17 #[.int .i64 ph, .int .i64 (k:Nat), .int .i64 (m:Nat), .int .i64 st] w0 (zro w0 (x1,x2))):=zH (λ w0=>by rw[<-hxy];exact rmerge_km ph k m st w0 k1 zO zO);clear hxy HMA HMC HCA HCD HM9
 go_upto_region 8 with(first
  |(go_at_call 16;(with_reducible refine(HG1.o _).mono ?_);rintro e7 w7 ⟨rfl,hb7⟩;have HB7:=zH hb7;clear hb7))
 go_upto_region 9 with(first
  |(go_at_call 17;(with_reducible refine(HG2.o _).mono ?_);rintro e8 w8 ⟨rfl,hb8⟩;have HB8:=zH (zaa HB7.o hb8);clear hb8))
 have HS8:=zH (HS.o.bw HB8.o);have HK3n:=zH (HK3.o.bw HB8.o);have HK4n:=zH (HK4.o.bw HB8.o);have HK5n:=zH (HK5.o.bw HB8.o);have HK6n:=zH (HK6.o.bw HB8.o);clear HK3 HK4 HK5 HK6 hy4 HB7 HG1 HG2 HS HB8;have hx1:=HK3n.o.c;have hx2:=HK4n.o.c;obtain⟨-,p1,p2,p3,-,-,-⟩:=hx1;obtain⟨-,q1,q2,q3,-,-,-⟩:=hx2
 go_upto_region 10 with(first
  |(go_at_call 13;have _t:=p1;clear p1 p2 p3 q1 q2 q3;(with_reducible refine(zbp _ _ cc cc _ HK3n.o.ch HK4n.o.ch).mono ?_);rintro e9 w9 ⟨⟨r9,rfl,h9⟩,hb9⟩;obtain rfl:r9=true:=h9.2 rfl;clear h9;have HK5m:=HK5n.o.bw hb9;have HK6m:=HK6n.o.bw hb9;have HB9:=zH (zaa HS8.o.b hb9);obtain⟨-,p1',p2',p3',-,-,-⟩:=HK5m.c;obtain⟨-,q1',q2',q3',-,-,-⟩:=HK6m.c;have HK5o:=zH HK5m;have HK6o:=zH HK6m;clear HK5m HK6m hb9 _t)
  |(go_at_call 13;have _t:=p1';clear p1' p2' p3' q1' q2' q3';(with_reducible refine(zbp _ _ cd cd _ HK5o.o.ch HK6o.o.ch).mono ?_);rintro e10 w10 ⟨⟨r10,rfl,h10⟩,hb10⟩;obtain rfl:r10=true:=h10.2 rfl;clear h10;have HB10:=zH (zaa HB9.o hb10);clear hb10 _t)
  |(go_at_call 9;(with_reducible refine(awake23_any _).mono ?_);rintro e11 w11 ⟨rfl,hb11⟩;have HB11:=zH (zaa HB10.o hb11);clear hb11))
 go_ret;exact⟨rfl,HB11.o⟩
end Go.Proofs.YtkpedaflofejnaaGreat
namespace Go.Proofs.YtkpedaflofejnaaGreat
open Go.ChangeShapes Go.WideShapes Go.ChangeAt Go.RowKit
section
variable {H:Type} {enc:TypeId×Value->H} {P:Program}
theorem ztj (hl:laidOutB P=true) {W W':World} (hb:Below W.heap.size W W'):∀ {ts:List TypeId} {vs:List Value} {ds:List (DataW H)} {ps:List MemPlace},(ts.all λ t=>P.readableRec t&&decide (t<P.types.size))=true->
 DataW.TrodAll enc P W 0 (λ _=>true) true ts vs ds ps->(∀x∈ps,x.block<W.heap.size)->DataW.TrodAll enc P W' 0 (λ b=>decide (b<W.heap.size)) true ts vs ds ps
 | [],vs,ds,ps,_,h,_=>by
   obtain⟨rfl,rfl,rfl⟩:=trodAll_nil h;exact trodAll_mk0
 | t::ts,vs,ds,ps,hr,h,hlt=>by
   obtain⟨v,vs',d,ds',p,q,rfl,rfl,rfl,h1,h2⟩:=trodAll_cons h;simp only[List.all_cons,Bool.and_eq_true,decide_eq_true_eq]at hr;obtain⟨⟨r1,r2⟩,r3⟩:=hr;exact trodAll_cons_mk (Below.trod hl r1 r2 h1 hb λ x hx=>hlt x (List.mem_append_left _ hx)) (ztj hl hb (ts:=ts) r3 h2 λ x hx=>hlt x (List.mem_append_right _ hx))
end
section
variable {H:Type} {enc:TypeId×Value->H}
set_option maxRecDepth 100000 in
theorem u8_came {W:World} {base:Nat} {v:Value} {d:DataW H} {p:List MemPlace} (hv:Value.okWide Tryz.prog W .any base 5 v) (h:DataW.Trod enc Tryz.prog W 0 (λ _=>true) true 5 v d p):∃x:Nat,v= .int .u8 x/\x<256:=by
 obtain⟨n,rfl,rfl,rfl,hwn⟩:=open_int Tryz.underlying5 hv h
 have hn:0<=n/\n<256:=by
  simp[Lit.wf,IntKind.min,IntKind.max,IntKind.signed,IntKind.bits]at hwn;omega
 exact⟨n.toNat,by congr 1;omega,zO⟩
end
theorem Tryz.ownK :ownKnob Tryz.prog.godebug=none:=by kernel_rfl
theorem Tryz.laidOut :laidOutB Tryz.prog=true:=by kernel_rfl
theorem Tryz.cellsU8 :Tryz.prog.cellsOf 5=1:=by kernel_rfl
def U8V (w:World) (v:Value) (l:List Nat):Prop:=zta w v (bytes l)/\∀x∈l,x<256
section
variable {H:Type} {enc:TypeId×Value->H}
theorem bytes_in {W:World} {a:Addr} {len cap:Nat} {zs:List Int} (hl:len<=cap) (hm:cap<=maxLen) (hz:zs.length=cap) (hcell:∀i,i<zs.length->W.cell? (a.add i)=some (.int .u8 (zs.getD i 0))) (hwz:∀n∈zs,(Lit.int .u8 n).wf=true):
 U8V W (.slice (some a) len cap) ((zs.take len).map Int.toNat):=by
 have hb:∀n∈zs,0<=n/\n<256:=λ n hn=>by
  have:=hwz n hn;simp[Lit.wf,IntKind.min,IntKind.max,IntKind.signed,IntKind.bits]at this;omega
 refine⟨⟨⟨a,len,cap,rfl,hl,hm,λ e=>by cases e⟩,by simp[bytes,slen];omega,λ j hj=> ?_⟩,λ x hx=> ?_⟩
 ·have hj2:j<len:=by simp[bytes]at hj;omega
  have hj3:j<zs.length:=zO;have h1:=hcell j hj3;have h2:=hb _ (zGM hj3);have e1:zs.getD j 0=zs[j]:=by simp[List.getD,zGE hj3]
  rw[e1]at h1;simp only[ptr,base,bytes,List.getElem_map,List.getElem_take];rw[h1]
  congr 2
  omega
 ·obtain⟨n,hn,rfl⟩:=List.mem_map.1 hx;have:=hb n (List.mem_of_mem_take hn);omega
set_option maxRecDepth 100000 in
theorem u8s_came {W:World} {base:Nat} {v:Value} {d:DataW H} {p:List MemPlace} (hv:Value.okWide Tryz.prog W .any base 43 v) (h:DataW.Trod enc Tryz.prog W 0 (λ _=>true) true 43 v d p):∃l,U8V W v l:=by
 obtain⟨a,len,cap,rfl⟩:=okWide_slice Tryz.underlying43 hv;obtain⟨fuel,hf⟩:=h;rcases open_ints Tryz.underlying43 Tryz.underlying5 Tryz.cellsU8 hf with⟨hcs,hx⟩ | ⟨a,len',cap',zs,hcs,_,hl,hm,hz,hx,hcell,hwz⟩
 ·simp[Value.cells]at hcs;obtain⟨rfl,rfl,rfl⟩:=hcs;exact⟨[],⟨zlb.nil,rfl,λ j h=>by simp[bytes]at h⟩,λ x h=>by simp at h⟩
 ·simp[Value.cells]at hcs;obtain⟨rfl,rfl,rfl⟩:=hcs;simp only[if_true]at hz;exact⟨_,bytes_in hl hm hz hcell hwz⟩
end
end Go.Proofs.YtkpedaflofejnaaGreat
namespace Go.Proofs.YtkpedaflofejnaaGreat
open Go.RowKit
structure RFL where
 neg:Bool
 a:List Nat
 b:List Nat
end Go.Proofs.YtkpedaflofejnaaGreat
namespace Go.Proofs.YtkpedaflofejnaaGreat
open Go.ChangeShapes Go.WideShapes Go.ChangeAt Go.RowKit Go.Deep
section
variable {H:Type} {enc:TypeId×Value->H} {W:World}
instance : Inhabited RFL:=⟨⟨false,[],[]⟩⟩
end
end Go.Proofs.YtkpedaflofejnaaGreat
namespace Go.Proofs.YtkpedaflofejnaaGreat
open Go.ChangeShapes Go.WideShapes Go.ChangeAt Go.RowKit
section
variable {H:Type} {enc:TypeId×Value->H}
set_option maxRecDepth 100000 in
theorem int_came {W:World} {base:Nat} {v:Value} {d:DataW H} {p:List MemPlace} (hv:Value.okWide Tryz.prog W .any base 3 v) (h:DataW.Trod enc Tryz.prog W 0 (λ _=>true) true 3 v d p):∃x:Int,v= .int .i64 x:=by
 obtain⟨n,rfl,rfl,rfl,hwn⟩:=open_int Tryz.underlying3 hv h;exact⟨n,rfl⟩
end
set_option maxRecDepth 100000 in
theorem zfh (os:Os) (started:os.Started) (H:Type) (enc:TypeId×Value->H):
 ReturnsInHanded {} Tryz.checked os 5 .any (Rows.lossmodelCountsSpec.pre6 enc Tryz.prog Tryz.f5 Rows.lossmodelCountsRow.domain false) (Rows.lossmodelCountsSpec.post enc Tryz.prog Tryz.f5 false true false false):=by
 refine returnsInHanded_of_change (C:=Tryz.checked) Tryz.ownK started (by kernel_rfl) Tryz.func5
  (ChangeSpec.witness6 (enc:=enc) (C:=Tryz.checked) false ⟨#[],#[.slice none 0 0, .int .u8 0, .int .i64 0, .int .i64 0],[]⟩ 8 (by kernel_rfl) (by kernel_rfl) (by kernel_rfl) (by kernel_rfl)) ?_
 intro W base args ds gs before hval0 hW hcnd _;have hval:∀ (j:Nat) t v,Tryz.f5.params[j]? =some t->args[j]? =some v->Value.okWide Tryz.prog W .any base t v:=hval0;have hW':=hW;obtain⟨p,q,hA0,hV,rfl,hfz,hnd⟩:=hW;have hA:DataW.TrodAll enc Tryz.prog W 0 (λ _=>true) true Tryz.f5.params.toList args.toList ds p:=hA0;rw[Tryz.params5]at hA hval;obtain⟨rfl,rfl⟩:=trodVars_none hV;simp only[List.append_nil]at hW';have hback:=fun(W':World) (hb:Below W.heap.size W W')=>ztj (enc:=enc) Tryz.laidOut hb (by kernel_rfl) hA hW'.lt
 obtain⟨v0,vs0,d0,ds0,p0,q0,e0,rfl,_,h0,hA⟩:=trodAll_cons hA;obtain⟨v1,vs1,d1,ds1,p1,q1,rfl,rfl,_,h1,hA⟩:=trodAll_cons hA;obtain⟨v2,vs2,d2,ds2,p2,q2,rfl,rfl,_,h2,hA⟩:=trodAll_cons hA;obtain⟨v3,vs3,d3,ds3,p3,q3,rfl,rfl,_,h3,hA⟩:=trodAll_cons hA;obtain⟨rfl,rfl,_⟩:=trodAll_nil hA;obtain rfl:args=#[v0,v1,v2,v3]:=by cases args;simp_all
 obtain⟨l0,g0⟩:=u8s_came (hval 0 43 v0 rfl rfl) h0;obtain⟨x1,rfl,g1⟩:=u8_came (hval 1 5 v1 rfl rfl) h1;obtain⟨x2,rfl⟩:=int_came (hval 2 3 v2 rfl rfl) h2;obtain⟨x3,rfl⟩:=int_came (hval 3 3 v3 rfl rfl) h3;refine(counts_law _ l0 x1 x2 x3 W g0.1 g0.2 g1).mono λ e W' ⟨he,hnx⟩=> ?_
 subst he;refine⟨_,rfl,_,_,_,[],p,[],hW',?_,hback _ hnx,?_,hnx.frame _,λ h=>by cases h⟩
 ·exact trodAll_mk1 (shut_bool Tryz.underlying4 _)
 ·rfl
theorem lossmodelCounts_holds :Rows.LossmodelCountsSaid:=
 OpenClaim.holds_of_wide 5 Tryz.f5 rfl rfl rfl rfl rfl rfl rfl ⟨rfl,rfl,rfl,rfl,rfl⟩ rfl rfl rfl rfl rfl (by kernel_rfl) Tryz.func5 (by kernel_rfl)
  (of_decide_eq_true (by kernel_rfl)) (by unfold Func.isWrapper;first | (rw[zIP (by decide+kernel)];kernel_rfl) | (rw[zIN (by decide+kernel)];exact⟨rfl,rfl⟩))
  (λ os started H enc _=>zfh os started H enc)
end Go.Proofs.YtkpedaflofejnaaGreat
