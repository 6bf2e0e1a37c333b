/- Lemmas. -/
import Derived.Test.YtkpedaflofejnaaGreatMLo13
set_option linter.unusedVariables false
set_option linter.unusedSimpArgs false
namespace Go.Proofs.YtkpedaflofejnaaGreat
open Go.RowKit Go.Maps
theorem Tryz.zeroInt (w:World):(zeroValue 3).run Tryz.prog w= .ok (.int .i64 0) w:=by kernel_rfl
theorem step_look {P:Program} (t k e:TypeId) (q:IntKind) (Kd:Keyed P k) (ht:P.underlying t=some (.map k e)) (he:P.underlying e=some (.int q)) {ops:Array Oper} {o:Oper} {a:Act} {w:World} {K:Act->World->Prop} {Q:Exit->Act->World->Prop} {E:Prop} (hgd:o.guard=none) (m x:Operand)
 (ho:o.op= .lookup t m x true) (hz:(zeroValue e).run P w= .ok (.int q 0) w) (b n:Nat) (D:DataW Unit) (hm:a.eval m= .map (some b)) (hown:w.ownsMap P k (plainElem P e) b n D) (key:Value) (kl:Lit) (hx:a.eval x=key) (hkey:keyOf P k key=some kl)
 (h:∀c:Int,D.atKey kl (.lit (.int q 0))= .lit (.int q c)->K (a.put o.dst (.tuple #[.int q c, .bool (Maps.has D kl)])) w):
 if Region.wanted o (yielded ops a.tmps)=true then Oper.wp P o a w K Q else E:=by
 rw[zIP (by simp[Region.wanted,hgd])];have hw0:(Lit.int q 0).wf=true:=by cases q<;>decide
 obtain⟨v,ps,hrun,hv⟩:=hown.look_ok Kd ht hz (plainElem_int he hw0) hkey;obtain⟨c,rfl,hc,hwc⟩:=plainElem_int_inv he hv;unfold Oper.wp;simp[execOp,ho,hm,hx,hrun,Result.andThen];exact h c (congrArg Prod.fst hc)
theorem Idx.look {D:DataW Unit} {L:List (List Nat)} {u:List Nat} (h:Idx D L) (hu:zhb u) {c:Int} (hc:D.atKey (.string (zij u)) (.lit (.int .i64 0))= .lit (.int .i64 c)):Maps.has D (.string (zij u))=decide (u∈L)/\(u∈L->c=(L.idxOf u:Nat)):=by
 refine⟨h.has u hu,λ hm=> ?_⟩;have h1:=h.at' u hu hm;rw[hc]at h1;injection h1 with h1
 injection h1
set_option maxRecDepth 100000 in
set_option maxHeartbeats 12800000 in
theorem move_any (b vb mb B B0 n fr hi:Nat) (lv:Value) (rs0:List Value) (L:List (List Nat)) (vs vl vr vt vx:Value) (rs:List Value) (s:Nat->Rat) (f g:Mx) (u:List Nat) (x:Rat) (w:World) (hV:zsk w B0 vb mb lv rs0 L) (hB:Bld w B b vb hi vs vl vr rs n s f) (hu:zjb w vt u) (hsm:zhb u) (hu1:1<=u.length) (hu2:u.length<=100)
 (hx:zmf w vx x) (hfr:fr<rs.length) (hn:n=L.length+1) (hn2:n<=200) (fi:Int) (hfi:fi=(fr:Nat)) (h1:fits (f fr (L.idxOf u))) (h2:fits (f fr (L.idxOf u)+x)) (hg1:∀r c,r<n->c<n->¬ (r=fr/\c=L.idxOf u)->f r c=g r c) (hg2:g fr (L.idxOf u)=f fr (L.idxOf u)+x):
 Calls Tryz.prog 46 #[.pointer (some ⟨b,0,none⟩), .int .i64 fi,vt,vx] w (λ e w'=>e= .returned (.tuple #[])/\Bld w' B b vb hi vs vl vr rs n s g/\Below B w w'/\zya hi w w'):=by
 subst hfi;obtain⟨t0,a1,l1,k1,a2,l2,k2,rfl⟩:=hx.iF;obtain⟨j,hj⟩:∃j,L.idxOf u=j:=⟨_,rfl⟩;have hjn:j<n:=by rw[<-hj,hn];exact Nat.lt_succ_of_le List.idxOf_le_length
 rw[hj]at h1 h2 hg1 hg2;have hba:=zba w (.cells #[.bool t0, .slice a1 l1 k1, .slice a2 l2 k2] 53);have hX:=C3.new w 53 (.bool t0) (.slice a1 l1 k1) (.slice a2 l2 k2);obtain⟨av,nv,kv,rfl,_⟩:=id hu.sl;have HVS:=zH (hV.bw hba);have HB:=zH (hB.bw hba);have HU:=zH (hu.bw hba);have HXV:=zH (hx.bw hba);have HX:=zH hX;have HBW:=zH hba;have HSM:=zH hsm;have HF:=zH (zAI h1 (zAI h2 (zAI hg1 hg2)));have HJ:=zH hj;have HNL:=zH hn;have HSZ:=zH hB.sz;clear hV hB hu hx hba hX hsm h1 h2 hg1 hg2 hj hn;go_enter Tryz.func46,Tryz.ntmps46;go_upto_region 1 with fail;obtain⟨bx,hbx⟩:∃b,w.heap.size=b:=⟨_,rfl⟩;have HBX:zI (B<=bx):=zH (by rw[<-hbx];exact HSZ.o);rw[hbx]at HX |-
 have HWX:=zH hbx;clear hbx;generalize w.alloc (.cells #[.bool t0, .slice a1 l1 k1, .slice a2 l2 k2] 53)=W1 at *
 obtain⟨bb,hbb⟩:∃bb,decide (u∈L)=bb:=⟨_,rfl⟩;have HBB:=zH hbb;obtain⟨D,hD1,hD2⟩:=HVS.o.map;have HD2:=zH hD2;have b0:=HB.o.blk.cells.1;have v1:=HVS.o.c1;refine wpL.st2 13 b0 v1 (λ wd hbD hHeld=> ?_);have HD1:=zH (hD1.kept (zeb hbD) (by simp));have HUD:=zH (HU.o.bw hbD);have HBD:zI (Below W1.heap.size W1 wd):=zH hbD;clear b0 v1 hD1 hD2 hbb hbD;refine zU 0 ?_;refine zU 1 ?_;refine zU 2 ?_;refine zY 3 ?_;refine zU 4 ?_;refine zU 5 ?_;refine zY 6 ?_;refine zU 7 ?_;(refine zW 8 ?_;intro K hK);refine zla 72 #[.slice av nv kv] ?_ ?_ (key_any _ u wd HUD.o HSM.o hu1 hu2) ?_
 ·rfl
 ·go_simp
 rintro e5 w5 ⟨rfl,hb5⟩;have hH5:=kcl2 hb5 hHeld;refine⟨_,rfl,?_⟩;refine hK.o _ _ (λ _=>hH5) ?_;have HD5:=zH (HD1.o.kept (zeb hb5) (by simp));have HB5:=zH (zaa HBD.o hb5);clear hK K hHeld hb5 HD1 HUD HBD;refine zS ?_;(refine zW 9 ?_;intro K hK);refine step_look 78 9 3 .i64 Tryz.strLaw Tryz.underlying78 Tryz.underlying3 rfl _ _ (by rfl) (Tryz.zeroInt _) mb L.length D (by rfl) HD5.o (.string ⟨(zij u).toArray⟩) (.string (zij u)) (by rfl) (WideMaps.keyOf_string_mk (P:=Tryz.prog) Tryz.underlying9 (by simp[zij,maxLen,ByteArray.size];omega)) ?_;intro c hc;have HCC:=zH ((HD2.o.look HSM.o hc).2);rw[show Maps.has D (.string (zij u))=bb by rw[<-HBB.o];exact(HD2.o.look HSM.o hc).1];refine hK.o _ _ (λ _=>hH5) ?_;clear hK K hc;refine zS ?_;refine zU 10 ?_;refine zU 11 ?_;refine zU 12 ?_;(refine zW 13 ?_;intro K hK);rw[zIP (by rfl)];go_simp;refine hK.o _ _ (λ _=>hH5) ?_;clear hK K;refine zS ?_;(refine zW 14 ?_;intro K hK);rw[zIP (by rfl)];go_simp;refine hK.o _ _ (λ _=>hH5) ?_;clear hK K hH5;refine wpL.done (by kernel_rfl) ?_ _;refine zS ?_;have HV5:=zH (HVS.o.bw HB5.o);have HC5:=zH (HB.o.bw HB5.o);have HX5:=zH (HX.o.bS HB5.o);have HXV5:=zH (HXV.o.bw HB5.o);have HBW5:=zH (zaa HBW.o HB5.o);clear HVS HB HX HXV HBW HB5 HU HD5 HD2;go_upto_if 26 with fail;go_cut [8] (λ u8 wy=>u8= .int .i64 (j:Nat)/\wy=w5)
 case first =>
  have b0:=HC5.o.blk.cells.1;have v0:=HV5.o.c0;have vsl:=HV5.o.sl;have vln:=HV5.o.len
  cases bb with
  | true=>
    have hcj:=HCC.o (of_decide_eq_true HBB.o);rw[HJ.o]at hcj;subst hcj;go_wp2_with fail;go_meet;case rel=>exact⟨rfl,rfl⟩
  | false=>
    (have hjl:L.length=j:=by rw[<-HJ.o,List.idxOf_eq_length (of_decide_eq_false HBB.o)]);rw[hjl]at vln;clear hjl;go_wp2_with fail;go_meet;case rel=>exact⟨by simp[vln],rfl⟩
 case rest=>
  obtain⟨rfl,rfl⟩:=hcut;obtain⟨w5,hw5⟩:∃w,w=wc:=⟨_,rfl⟩;subst hw5;have hjR:j<(zch n (f fr)).length:=by rw[zwa];exact hjn
  have hrow:=HC5.o.row hfr;have cr:=HC5.o.law.ra.cell fr hfr;have HRG:zI (∀wq gq,Bld wq B b vb hi vs vl vr rs n s gq->zra wq 53 B (rs[fr]'hfr) (zch n (gq fr))):=zH (λ wq gq h=>h.row hfr);have HPUT:zI (∀ (wq:World) (x y z:Value),Bld wq B b vb hi vs vl vr rs n s f->zna wq (.agg #[x,y,z]) (g fr j)->Bld (((wq.setCell (ptr (rs[fr]'hfr) (j*3)) x).setCell (ptr (rs[fr]'hfr) (j*3+1)) y).setCell (ptr (rs[fr]'hfr) (j*3+2)) z) B b vb hi vs vl vr rs n s g/\Below B wq (((wq.setCell (ptr (rs[fr]'hfr) (j*3)) x).setCell (ptr (rs[fr]'hfr) (j*3+1)) y).setCell (ptr (rs[fr]'hfr) (j*3+2)) z)/\zya hi wq (((wq.setCell (ptr (rs[fr]'hfr) (j*3)) x).setCell (ptr (rs[fr]'hfr) (j*3+1)) y).setCell (ptr (rs[fr]'hfr) (j*3+2)) z)):=zH (λ wq x y z h1 h2=>h1.putR hfr hjn HF.o.2.2.1 h2);have HRC:zI (∀wq gq,Bld wq B b vb hi vs vl vr rs n s gq->wq.cell? (ptr vr fr)=some (rs[fr]'hfr)):=zH (λ wq gq h=>h.law.ra.cell fr hfr);generalize rs[fr]'hfr=rv at *
  obtain⟨y0,z0,y1,y2,y3,y4,f0,f1,f2,slo,n01,n02,n12⟩:=hrow.prep hjR
  have hfc:zna w5 (.agg #[.bool y0,z0,y1]) (f fr j):=by
   obtain⟨a,b',e1,e2,e3,e4,e5⟩:=hrow.fracs.at' j hjR;rw[e1]at y2;rw[e2]at y3;rw[e3]at y4;(injection y2 with y2;injection y3 with y3;injection y4 with y4);rw[zak]at y2 e4 e5;exact⟨z0,y1,by rw[<-y2],by rw[<-y3];exact e4,by rw[<-y4];exact e5⟩
  have b1:=HC5.o.blk.cells.2.1;have vrsl:=HC5.o.law.ra.sl;have vrln:slen vr=n:=by rw[HC5.o.law.ra.len];exact HC5.o.rsl
  have rln:slen rv=n:=by rw[hrow.fracs.len,zwa]
  have frn:fr<n:=by rw[<-HC5.o.rsl];exact hfr
  obtain⟨-,x0,x1,x2,-,-,-⟩:=HX5.o;have HFC:=zH hfc;obtain⟨bw1,bw2,bw3,rfl,_⟩:=id vrsl;obtain⟨rw1,rw2,rw3,rfl,_⟩:=id slo;clear hfc hrow;go_upto_region 4 with fail;go_cut [10,11] (λ u10 u11 wy=>∃ (b10:Nat) (t':Bool) (a1:Option Addr) (l1 k1:Nat) (a2:Option Addr) (l2 k2:Nat),u10= .pointer (some ⟨b10,0,none⟩)/\u11= .int .i64 0/\C3 wy b10 (.bool t') (.slice a1 l1 k1) (.slice a2 l2 k2)/\zna wy (.agg #[.bool t', .slice a1 l1 k1, .slice a2 l2 k2]) (g fr j)/\Below w5.heap.size w5 wy)
  case first =>
   refine wpL.st8 17 b1 cr y2 y3 y4 x0 x1 x2 (λ wd hbD hHeld=> ?_);have HFD:=zH (HFC.o.bw hbD);have HXD:=zH (HXV5.o.bw hbD);have HBD:zI (Below w5.heap.size w5 wd):=zH hbD;have HLD:zI (w5.heap.size<=wd.heap.size):=zH hbD.size;clear b1 cr y2 y3 y4 x0 x1 x2 hbD;refine zU 0 ?_;refine zU 1 ?_;refine zU 2 ?_;refine zU 3 ?_;refine zY 4 ?_;refine zU 5 ?_;refine zU 6 ?_;refine zY 7 ?_;refine zU 8 ?_;refine zU 9 ?_;refine zY 10 ?_;refine zY 11 ?_;refine wpL.two 12 16 (by kernel_rfl) (by kernel_rfl) (by kernel_rfl) ?_ ?_
   ·skip
    intro oi hoi K hK;simp only[List.getElem?_toArray,List.getElem?_cons_succ,List.getElem?_cons_zero,Option.some.injEq]at hoi;subst hoi;refine zla 107 #[.agg #[.bool y0,z0,y1], .agg #[.bool t0, .slice a1 l1 k1, .slice a2 l2 k2]] ?_ ?_ (add_v _ _ (f fr j) x _ (HFD.o.toV HF.o.1) HXD.o HF.o.2.1) ?_
    ·rfl
    ·go_simp
    rintro e6 w6 ⟨v6,rfl,hv6,hb6⟩;obtain⟨t6,a61,l61,k61,a62,l62,k62,rfl⟩:=hv6.iF;have hH6:=kcl8 hb6 hHeld;refine⟨_,rfl,?_⟩;refine hK.o _ _ (λ _=>hH6) ?_;have HV6:zI (zna w6 (.agg #[.bool t6, .slice a61 l61 k61, .slice a62 l62 k62]) (g fr j)):=zH (by rw[HF.o.2.2.2];exact hv6);replace HBD:=zH (zaa HBD.o hb6);clear hK K hHeld hv6;have hHeld:=hH6;clear hH6;refine zS ?_;refine zU 13 ?_;refine zU 14 ?_;refine zU 15 ?_;(refine zW 16 ?_;intro K hK);rw[zIP (by rfl)];go_simp;have hb7:=zba w6 (.cells #[.bool false, .slice none 0 0, .slice none 0 0] 53);have hH7:=kcl8 hb7 hHeld;refine hK.o _ _ (λ _=>hH7) ?_;have HT7:=zH (C3.new w6 53 (.bool false) (.slice none 0 0) (.slice none 0 0));replace HBD:=zH (zaa HBD.o hb7);replace HV6:=zH (HV6.o.bw hb7);have HLB:zI (w5.heap.size<=w6.heap.size):=zH (zLT HLD.o hb6.size);clear hb6;clear hK K hHeld hb7;have hHeld:=hH7;clear hH7;generalize w6.alloc (.cells #[.bool false, .slice none 0 0, .slice none 0 0] 53)=w7 at *
    generalize w6.heap.size=b7 at *
    refine zS ?_;(refine zW 17 ?_;intro K hK);obtain⟨-,g0,g1,g2,k3,k4,k5⟩:=HT7.o;rw[zIP (by rfl)];go_simp;have HE:=zH (zAI (HT7.o.set (.bool t6) (.slice a61 l61 k61) (.slice a62 l62 k62)) (zAI (HV6.o.set3 HT7.o zZ zZ (.bool t6) (.slice a61 l61 k61) (.slice a62 l62 k62)) (zea HBD.o HLB.o (.bool t6) (.slice a61 l61 k61) (.slice a62 l62 k62))));refine hK.o _ _ (λ h=>by first | cases h | simp at h) ?_;clear hK K hHeld g0 g1 g2 k3 k4 k5;refine zS ?_;(refine zW 18 ?_;intro K hK);rw[zIP (by rfl)];go_simp;refine hK.o _ _ (λ h=>by first | cases h | simp at h) ?_;clear hK K;refine wpL.done (by kernel_rfl) ?_ _;go_wp2_with fail;go_meet;case rel=>exact⟨_,_,_,_,_,_,_,_,rfl,rfl,HE.o.1,HE.o.2.1,HE.o.2.2⟩
   ·skip
    intro oi hoi K hK;simp only[List.getElem?_toArray,List.getElem?_cons_succ,List.getElem?_cons_zero,Option.some.injEq]at hoi;subst hoi;rw[zIP (by rfl)];go_simp;have hb7:=zba wd (.cells #[.bool false, .slice none 0 0, .slice none 0 0] 53);have hH7:=kcl8 hb7 hHeld;refine hK.o _ _ (λ _=>hH7) ?_;have HT7:=zH (C3.new wd 53 (.bool false) (.slice none 0 0) (.slice none 0 0));replace HBD:=zH (zaa HBD.o hb7);replace HFD:=zH (HFD.o.bw hb7);replace HXD:=zH (HXD.o.bw hb7);have HLB:=HLD;clear hK K hHeld hb7;have hHeld:=hH7;clear hH7;generalize wd.alloc (.cells #[.bool false, .slice none 0 0, .slice none 0 0] 53)=w7 at *
    generalize wd.heap.size=b7 at *
    refine zS ?_;(refine zW 12 ?_;intro K hK);refine zla 107 #[.agg #[.bool y0,z0,y1], .agg #[.bool t0, .slice a1 l1 k1, .slice a2 l2 k2]] ?_ ?_ (add_v _ _ (f fr j) x _ (HFD.o.toV HF.o.1) HXD.o HF.o.2.1) ?_
    ·rfl
    ·go_simp
    rintro e6 w6 ⟨v6,rfl,hv6,hb6⟩;obtain⟨t6,a61,l61,k61,a62,l62,k62,rfl⟩:=hv6.iF;have hH6:=kcl8 hb6 hHeld;refine⟨_,rfl,?_⟩;refine hK.o _ _ (λ _=>hH6) ?_;have HV6:zI (zna w6 (.agg #[.bool t6, .slice a61 l61 k61, .slice a62 l62 k62]) (g fr j)):=zH (by rw[HF.o.2.2.2];exact hv6);replace HBD:=zH (zaa HBD.o hb6);clear hK K hHeld hv6;have hHeld:=hH6;clear hH6;refine zS ?_;replace HT7:=zH (HT7.o.bS hb6);clear hb6;refine zU 13 ?_;refine zU 14 ?_;refine zU 15 ?_;(refine zW 17 ?_;intro K hK);obtain⟨-,g0,g1,g2,k3,k4,k5⟩:=HT7.o;rw[zIP (by rfl)];go_simp;have HE:=zH (zAI (HT7.o.set (.bool t6) (.slice a61 l61 k61) (.slice a62 l62 k62)) (zAI (HV6.o.set3 HT7.o zZ zZ (.bool t6) (.slice a61 l61 k61) (.slice a62 l62 k62)) (zea HBD.o HLB.o (.bool t6) (.slice a61 l61 k61) (.slice a62 l62 k62))));refine hK.o _ _ (λ h=>by first | cases h | simp at h) ?_;clear hK K hHeld g0 g1 g2 k3 k4 k5;refine zS ?_;(refine zW 18 ?_;intro K hK);rw[zIP (by rfl)];go_simp;refine hK.o _ _ (λ h=>by first | cases h | simp at h) ?_;clear hK K;refine wpL.done (by kernel_rfl) ?_ _;go_wp2_with fail;go_meet;case rel=>exact⟨_,_,_,_,_,_,_,_,rfl,rfl,HE.o.1,HE.o.2.1,HE.o.2.2⟩
  case rest=>
   obtain⟨b10,t',a1',l1',k1',a2',l2',k2',rfl,rfl,hc10,hf10,hb10⟩:=hcut;have HC10:=zH (HC5.o.bw hb10);have HT10:=zH hc10;have HF10:=zH hf10;have HB10:=zH (zaa HBW5.o hb10);obtain⟨w8,hw8⟩:∃w,w=wc:=⟨_,rfl⟩;subst hw8;clear y2 y3 y4 f0 f1 f2 n01 n02 n12 b1 cr x0 x1 x2 hc10 hf10 hb10 hjR;(have hjR:j<(zch n (f fr)).length:=by rw[zwa];exact hjn);have hrow:=HRG.o _ _ HC10.o;have cr:=HRC.o _ _ HC10.o;have b1:=HC10.o.blk.cells.2.1;obtain⟨-,x0,x1,x2,-,-,-⟩:=HT10.o;obtain⟨y0,z0,y1,y2,y3,y4,f0,f1,f2,-,n01,n02,n12⟩:=hrow.prep hjR;have HP:=zH (λ wq h1 h2=>HPUT.o wq (.bool t') (.slice a1' l1' k1') (.slice a2' l2' k2') h1 h2);clear hrow;go_upto_region 7 with fail;refine wpL.st8 11 b1 cr x0 x1 x2 y2 y3 y4 (λ wd hbD hHeld=> ?_);have HPD:=zH (HP.o wd (HC10.o.bw hbD) (HF10.o.bw hbD));have HBD:=zH (zaa HB10.o hbD);have e0:=hHeld.2.2.2.2.2.1;have e1:=hHeld.2.2.2.2.2.2.1;have e2:=hHeld.2.2.2.2.2.2.2;(have fD:=fun(k:Nat)=>hbD);rw[<-hbD.frozen (World.block_lt_of_cell? _ _ y2)]at f0;rw[<-hbD.frozen (World.block_lt_of_cell? _ _ y3)]at f1;rw[<-hbD.frozen (World.block_lt_of_cell? _ _ y4)]at f2;clear b1 cr x0 x1 x2 y2 y3 y4 hbD fD;refine zU 0 ?_;refine zU 1 ?_;refine zU 2 ?_;refine zU 3 ?_;refine zY 4 ?_;refine zU 5 ?_;refine zU 6 ?_;refine zY 7 ?_;refine zU 8 ?_;refine zY 9 ?_;(refine zW 10 ?_;intro K hK);rw[zIP (by rfl)];go_simp;refine hK.o _ _ (λ _=>hHeld) ?_;clear hK K;refine zS ?_;(refine zW 11 ?_;intro K hK);rw[zIP (by rfl)];go_simp;refine hK.o _ _ (λ h=>by first | cases h | simp at h) ?_;clear hK K hHeld e0 e1 e2 f0 f1 f2 n01 n02 n12;refine wpL.done (by kernel_rfl) ?_ _;go_wp2_with fail;go_end0;exact⟨rfl,HPD.o.1,(HBD.o.mono HSZ.o).trans HPD.o.2.1,(zya.bw HBD.o).trans HPD.o.2.2⟩
end Go.Proofs.YtkpedaflofejnaaGreat
namespace Go.Proofs.YtkpedaflofejnaaGreat
open Go.RowKit
structure MkD where
 B0:Nat
 vb:Nat
 mb:Nat
 B:Nat
 b:Nat
 hi:Nat
 lv:Value
 vs:Value
 vl:Value
 vr:Value
 rs0:List Value
 rs:List Value
 L:List (List Nat)
structure MkD.Ok (K:MkD) (w1 w:World) (s:Nat->Rat) (f:Mx):Prop where
 vec:zsk w1 K.B0 K.vb K.mb K.lv K.rs0 K.L
 le:w1.heap.size<=K.B
 bel:Below w1.heap.size w1 w
 bld:Bld w K.B K.b K.vb K.hi K.vs K.vl K.vr K.rs (K.L.length+1) s f
 len:K.L.length<=150
section
variable {K:MkD} {w1 w w':World} {s s':Nat->Rat} {f g:Mx}
theorem MkD.Ok.bw (h:K.Ok w1 w s f) (hb:Below w.heap.size w w'):K.Ok w1 w' s f:=⟨h.vec,h.le,zaa h.bel hb,h.bld.bw hb,h.len⟩
theorem MkD.Ok.congr (h:K.Ok w1 w s f) (h1:∀i,i<K.L.length+1->s i=s' i) (h2:∀i j,i<K.L.length+1->j<K.L.length+1->f i j=g i j):K.Ok w1 w s' g:=⟨h.vec,h.le,h.bel,h.bld.congr h1 h2,h.len⟩
theorem MkD.Ok.hi (h:K.Ok w1 w s f):K.hi<=w.heap.size:=h.bld.hh
def MkD.Step (K:MkD) (w1 w w':World) (s:Nat->Rat) (g:Mx):Prop:=K.Ok w1 w' s g/\Below K.B w w'/\zya K.hi w w'
theorem move_K (fr:Nat) (fi:Int) (vt vx:Value) (u:List Nat) (x:Rat) (h:K.Ok w1 w s f) (hu:zjb w vt u) (hsm:zhb u) (hu1:1<=u.length) (hu2:u.length<=100) (hx:zmf w vx x) (hfr:fr<K.L.length) (hfi:fi=(fr:Nat)) (h1:fits (f fr (K.L.idxOf u))) (h2:fits (f fr (K.L.idxOf u)+x)) (hg1:∀r c,¬ (r=fr/\c=K.L.idxOf u)->f r c=g r c) (hg2:g fr (K.L.idxOf u)=f fr (K.L.idxOf u)+x):
 Calls Tryz.prog 46 #[.pointer (some ⟨K.b,0,none⟩), .int .i64 fi,vt,vx] w (λ e w'=>e= .returned (.tuple #[])/\K.Step w1 w w' s g):=by
 refine(move_any K.b K.vb K.mb K.B K.B0 (K.L.length+1) fr K.hi K.lv K.rs0 K.L K.vs K.vl K.vr vt vx K.rs s f g u x w (h.vec.bw h.bel) h.bld hu hsm hu1 hu2 hx (by rw[h.bld.rsl];omega) rfl (by have:=h.len;omega) fi hfi h1 h2 (λ r c _ _ hn=>hg1 r c hn) hg2).mono ?_;rintro e w' ⟨rfl,k1,k2,k3⟩;exact⟨rfl,⟨h.vec,h.le,h.bel.trans (k2.mono h.le),k1,h.len⟩,k2,k3⟩
end
theorem C3.moves {B b:Nat} {w w':World} {v0 v1 v2:Value} (h:C3 w b v0 v1 v2) (hm:zya B w w') (hb:B<=b):C3 w' b v0 v1 v2:=by
 have e:=hm.row b hb h.lt;obtain⟨lt,c0,c1,c2,f0,f1,f2⟩:=h;have hc:∀k,w'.cell? ⟨b,k,none⟩=w.cell? ⟨b,k,none⟩:=λ k=>by unfold World.cell?;rw[e]
 have hf:∀k,w'.frozen? ⟨b,k,none⟩=w.frozen? ⟨b,k,none⟩:=λ k=>by unfold World.frozen?;rw[e]
 exact⟨zLM lt hm.size,by rw[hc];exact c0,by rw[hc];exact c1,by rw[hc];exact c2,by rw[hf];exact f0,by rw[hf];exact f1,by rw[hf];exact f2⟩
theorem C4.moves {B b:Nat} {w w':World} {v0 v1 v2 v3:Value} (h:C4 w b v0 v1 v2 v3) (hm:zya B w w') (hb:B<=b):C4 w' b v0 v1 v2 v3:=by
 have e:=hm.row b hb h.lt;obtain⟨lt,c0,c1,c2,c3,f0,f1,f2,f3⟩:=h;have hc:∀k,w'.cell? ⟨b,k,none⟩=w.cell? ⟨b,k,none⟩:=λ k=>by unfold World.cell?;rw[e]
 have hf:∀k,w'.frozen? ⟨b,k,none⟩=w.frozen? ⟨b,k,none⟩:=λ k=>by unfold World.frozen?;rw[e]
 exact⟨zLM lt hm.size,by rw[hc];exact c0,by rw[hc];exact c1,by rw[hc];exact c2,by rw[hc];exact c3,by rw[hf];exact f0,by rw[hf];exact f1,by rw[hf];exact f2,by rw[hf];exact f3⟩
structure MatV (w:World) (v:Value) (m:List (List Rat)):Prop where
 sl:zlb v
 len:slen v=m.length
 at':∀ (j:Nat) (h:j<m.length),∃r,w.cell? (ptr v j)=some r/\znc w r m[j]
theorem MatV.bw {w w':World} {v:Value} {m:List (List Rat)} (h:MatV w v m) (hb:Below w.heap.size w w'):MatV w' v m:=
 ⟨h.sl,h.len,λ j hj=>by obtain⟨r,h1,h2⟩:=h.at' j hj;exact⟨r,zca hb h1,h2.bw hb⟩⟩
def LawV (w:World) (v:Value) (l:LQ):Prop:=∃ (nm:ByteArray) (s r e:Value),v= .agg #[.string nm,s,r,e]/\znc w s l.start/\MatV w r l.rates/\znc w e l.exit
theorem LawV.bw {w w':World} {v:Value} {l:LQ} (h:LawV w v l) (hb:Below w.heap.size w w'):LawV w' v l:=by
 obtain⟨nm,s,r,e,rfl,h1,h2,h3⟩:=h;exact⟨nm,s,r,e,rfl,h1.bw hb,h2.bw hb,h3.bw hb⟩
def lwF (l:LQ):LwF:=⟨l.start.length,stQ l,exQ l,rtQ l⟩
theorem zdr (n:Nat):fq false n 1=(n:Rat):=by
 unfold fq sgn;simp[Rat.mkRat_one]
 first
  | rfl
  | exact Rat.intCast_natCast n
  | norm_cast
theorem zok {w:World} {e:TypeId} {B:Nat} {v:Value} {u:List Nat} (h:zib w e B v (u.map zod)) {i:Nat} (hi:i<u.length):
 w.cell? (ptr v i)=some (.int .i64 (u.getD i 0:Nat))/\w.frozen? (ptr v i)=false/\zib (w.setCell (ptr v i) (.int .i64 (((u.getD i 0:Nat):Int)+1))) e B v ((zbf u i).map zod)/\Below B w (w.setCell (ptr v i) (.int .i64 (((u.getD i 0:Nat):Int)+1))):=by
 have hi2:i<(u.map zod).length:=by simpa using hi
 have h1:=h.cell i hi2;have h2:=h.set i hi2 (zod (u.getD i 0+1));have e1:u.getD i 0=u[i]:=by rw[zGD,zGE hi];rfl
 refine⟨?_,h.frozen i hi2,?_,h2.2⟩
 ·rw[h1,List.getElem_map,e1];rfl
 ·have h3:=h2.1;rw[<-List.map_set]at h3;exact h3
theorem zib.natsV {w:World} {e:TypeId} {B:Nat} {v:Value} {u:List Nat} (h:zib w e B v (u.map zod)):zjb w v u:=⟨h.sl,by rw[h.len],λ j hj=>h.cell j hj⟩
theorem zwd (u:List Nat) (i:Nat):(zbf u i).length=u.length:=by simp[zbf]
theorem zdb (u:List Nat) (i:Nat):(zyb u i).length=u.length:=by simp[zyb]
end Go.Proofs.YtkpedaflofejnaaGreat
