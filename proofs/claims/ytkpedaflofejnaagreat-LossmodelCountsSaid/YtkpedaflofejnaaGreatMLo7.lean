/- Lemmas. -/
import Derived.Test.YtkpedaflofejnaaGreatMPp4
import Derived.Test.YtkpedaflofejnaaGreatMLo15
import Derived.Test.YtkpedaflofejnaaGreatMPv1
set_option linter.unusedVariables false
set_option linter.unusedSimpArgs false
namespace Go.Proofs.YtkpedaflofejnaaGreat
open Go.RowKit
theorem rcode_any (k m:Int) (w:World):Calls Tryz.prog 51 #[.int .i64 k, .int .i64 m] w (λ e w'=>e= .returned (.bool (decide (1<=k/\k<=6/\0<=m/\m<=4/\k+m<=8)))/\Below w.heap.size w w'):=by
 by_cases h1:1<=k
 ·by_cases h2:k<=6
  ·by_cases h3:0<=m
   ·by_cases h4:m<=4
    ·go_enter Tryz.func51,Tryz.ntmps51;go_wp2_with fail;go_ret;refine⟨?_,zBR _ _⟩;simp[h1,h2,h3,h4]
    ·go_enter Tryz.func51,Tryz.ntmps51;go_wp2_with fail;go_ret;exact⟨by simp;intros;omega,zBR _ _⟩
   ·go_enter Tryz.func51,Tryz.ntmps51;go_wp2_with fail;go_ret;exact⟨by simp;intros;omega,zBR _ _⟩
  ·go_enter Tryz.func51,Tryz.ntmps51;go_wp2_with fail;go_ret;exact⟨by simp;intros;omega,zBR _ _⟩
 ·go_enter Tryz.func51,Tryz.ntmps51;go_wp2_with fail;go_ret;exact⟨by simp;intros;omega,zBR _ _⟩
theorem zoq (k m:Nat) (w:World) (h1:1<=k) (h2:k<=6) (h3:m<=4) (h4:k+m<=8):Calls Tryz.prog 51 #[.int .i64 (k:Nat), .int .i64 (m:Nat)] w (λ e w'=>e= .returned (.bool true)/\Below w.heap.size w w'):=by
 refine(rcode_any (k:Nat) (m:Nat) w).mono ?_;rintro e w' ⟨rfl,hb⟩;exact⟨by rw[zDT zO],hb⟩
theorem rsmalls_i (va:Value) (l:List Rat) (n:Nat) (nn:Int) (w:World) (hnn:nn=(n:Nat)) (ha:zpa w va l) (hl:∀q∈l,zdh q) (hln:l.length=n) (hn:n<=4):
 Calls Tryz.prog 109 #[va, .int .i64 nn] w (λ e w'=>e= .returned (.bool true)/\Below w.heap.size w w'):=by
 subst hnn;exact zki va l n w ha hl hln hn
set_option maxHeartbeats 1600000 in
theorem zfn (va:Value) (l:List Rat) (m:Nat) (w:World) (ha:zpa w va l) (hl:∀q∈l,zdh q/\q≠0) (hm:l.length=max m 1) (hm8:m<=4):Calls Tryz.prog 52 #[va, .int .i64 (m:Nat)] w (λ e w'=>e= .returned (.bool true)/\Below w.heap.size w w'):=by
 have sv:=ha.sl;have lv:=ha.len;obtain⟨n,hn⟩:∃n,l.length=n:=⟨_,rfl⟩;rw[hn]at lv hm;have HA:=zH ha;have HL:=zH hl;have HN:=zH hn;have hn8:n<=4:=zO;have i0:max (m:Int) 1=(n:Int):=zO;clear ha hl hn hm;by_cases hm1:(m:Int)<1
 ·skip
  go_enter Tryz.func52,Tryz.ntmps52
  go_wp2_with (first
   |(go_at_call 109;(with_reducible refine(rsmalls_i _ l n _ _ (by first | rfl | omega | simp[i0]) HA.o (λ q hq=>(HL.o q hq).1) HN.o hn8).mono ?_);rintro e3 w3 ⟨rfl,hb3⟩;have HB3:=zH hb3;clear hb3 i0))
  go_loopg [5] (n) (λ g u5 wr=>∃i:Nat,i<=n/\g=n-i/\u5= .int .i64 i/\Below w.heap.size w wr);case atStart=>exact⟨0,zZL _,rfl,rfl,HB3.o⟩
  case round=>
   obtain⟨i,hin,hg,rfl,hbr⟩:=hrel;obtain⟨wx,hwx⟩:∃w6,w6=wr:=⟨_,rfl⟩;subst hwx;have HG:=zH hg;have HB:=zH hbr;clear hg hbr HB3;by_cases hil:i<n
   ·(have hil2:i<l.length:=by rw[HN.o];exact hil);obtain⟨t1,xa1,xa2,xa3,xb1,xb2,xb3,z0,z1,z2,hx⟩:=HA.o.cellsAt hil2;have hq:=HL.o _ (zGM hil2);(have hqe:l.getD i 0=l[i]'hil2:=by rw[zGD,zGE hil2];rfl);rw[hqe]at hx;generalize l[i]'hil2=q at *
    replace z0:=zca HB.o z0;replace z1:=zca HB.o z1;replace z2:=zca HB.o z2;have HX:=zH (hx.bw HB.o);have HQ:=zH hq;have i5:(0:Int)<=(i:Int):=zO;have i6:(i:Int)<(n:Nat):=zO;clear hx hq hil2 hqe
    go_wp2_with (first
     |(go_at_call 110;(with_reducible refine(sgn_nz _ HX.o HQ.o.1.fits HQ.o.2).mono ?_);rintro e4 w4 ⟨z,rfl,hz,hb4⟩;have HB4:=zH hb4;clear hb4 z0 z1 z2))
    go_roundg (n- (i+1));(case measure=>(have:=HG.o;omega));case rel=>exact⟨i+1,zO,rfl,by go_num,zaa HB.o HB4.o⟩
   ·obtain rfl:i=n:=zO;go_wp2_with fail;go_ret;exact⟨rfl,HB.o⟩
 ·skip
  go_enter Tryz.func52,Tryz.ntmps52
  go_wp2_with (first
   |(go_at_call 109;(with_reducible refine(rsmalls_i _ l n _ _ (by first | rfl | omega | simp[i0]) HA.o (λ q hq=>(HL.o q hq).1) HN.o hn8).mono ?_);rintro e3 w3 ⟨rfl,hb3⟩;have HB3:=zH hb3;clear hb3 i0))
  go_loopg [5] (n) (λ g u5 wr=>∃i:Nat,i<=n/\g=n-i/\u5= .int .i64 i/\Below w.heap.size w wr);case atStart=>exact⟨0,zZL _,rfl,rfl,HB3.o⟩
  case round=>
   obtain⟨i,hin,hg,rfl,hbr⟩:=hrel;obtain⟨wx,hwx⟩:∃w6,w6=wr:=⟨_,rfl⟩;subst hwx;have HG:=zH hg;have HB:=zH hbr;clear hg hbr HB3;by_cases hil:i<n
   ·(have hil2:i<l.length:=by rw[HN.o];exact hil);obtain⟨t1,xa1,xa2,xa3,xb1,xb2,xb3,z0,z1,z2,hx⟩:=HA.o.cellsAt hil2;have hq:=HL.o _ (zGM hil2);(have hqe:l.getD i 0=l[i]'hil2:=by rw[zGD,zGE hil2];rfl);rw[hqe]at hx;generalize l[i]'hil2=q at *
    replace z0:=zca HB.o z0;replace z1:=zca HB.o z1;replace z2:=zca HB.o z2;have HX:=zH (hx.bw HB.o);have HQ:=zH hq;have i5:(0:Int)<=(i:Int):=zO;have i6:(i:Int)<(n:Nat):=zO;clear hx hq hil2 hqe
    go_wp2_with (first
     |(go_at_call 110;(with_reducible refine(sgn_nz _ HX.o HQ.o.1.fits HQ.o.2).mono ?_);rintro e4 w4 ⟨z,rfl,hz,hb4⟩;have HB4:=zH hb4;clear hb4 z0 z1 z2))
    go_roundg (n- (i+1));(case measure=>(have:=HG.o;omega));case rel=>exact⟨i+1,zO,rfl,by go_num,zaa HB.o HB4.o⟩
   ·obtain rfl:i=n:=zO;go_wp2_with fail;go_ret;exact⟨rfl,HB.o⟩
theorem rvalid23_any (va:Value) (c:CQ) (w:World) (hch:zkc w va c):Calls Tryz.prog 63 #[va] w (RDone w c va):=by
 obtain⟨vr,vs,vl,rfl,h1,h2,h3⟩:=id hch;obtain⟨r1,r2,r3,rfl,_⟩:=id h1.sl;obtain⟨s1,s2,s3,rfl,_⟩:=id h2.sl;obtain⟨l1,l2,l3,rfl,_⟩:=id h3.sl;have hba:=zba w (.cells #[.slice r1 r2 r3, .slice s1 s2 s3, .slice l1 l2 l3] 34);have hbb:=zba (w.alloc (.cells #[.slice r1 r2 r3, .slice s1 s2 s3, .slice l1 l2 l3] 34)) (.cells #[.slice none 0 0, .slice none 0 0, .slice none 0 0] 34);have HX:=zH ((C3.new w 34 (.slice r1 r2 r3) (.slice s1 s2 s3) (.slice l1 l2 l3)).bS hbb);have HC:=zH (C3.newB (b:=w.heap.size+1) (w.alloc (.cells #[.slice r1 r2 r3, .slice s1 s2 s3, .slice l1 l2 l3] 34)) 34 (.slice none 0 0) (.slice none 0 0) (.slice none 0 0) (by simp));have HBA:=zH (zaa hba hbb);have HCH:=zH (hch.bw (zaa hba hbb));obtain⟨-,d0,d1,d2,-,-,-⟩:=HX.o;obtain⟨-,g0,g1,g2,e0,e1,e2⟩:=HC.o;clear hba hbb hch h1 h2 h3;by_cases hv:zic c.raw
 ·have HV:=zH hv;clear hv;go_enter Tryz.func63,Tryz.ntmps63
  go_wp2_with (first
   |(go_at_call 113;(with_reducible refine(zrl _ c.raw _ HCH.o.raw).mono ?_);rintro e3 w3 ⟨⟨b9,rfl,hb9⟩,hbel⟩;obtain rfl:b9=true:=hb9.2 HV.o;have HC3:=zH (HC.o.bS hbel);have HX3:=zH (HX.o.bS hbel);have HB3:=zH (zaa HBA.o hbel);clear d0 d1 d2 g0 g1 g2 e0 e1 e2 hbel hb9;obtain⟨-,d0,d1,d2,-,-,-⟩:=HX3.o;obtain⟨-,g0,g1,g2,e0,e1,e2⟩:=HC3.o))
  refine zka rfl rfl Tryz.aggCh Tryz.sizeCh (HC3.o.set _ _ _) rfl ?_;have hb4:=zea HB3.o (zLS _) (.slice r1 r2 r3) (.slice s1 s2 s3) (.slice l1 l2 l3);exact⟨_,_,rfl,hb4,λ _=>⟨rfl,rfl⟩,λ h=>absurd HV.o h⟩
 ·have HV:=zH hv;clear hv;go_enter Tryz.func63,Tryz.ntmps63
  go_wp2_with (first
   |(go_at_call 113;(with_reducible refine(zrl _ c.raw _ HCH.o.raw).mono ?_);rintro e3 w3 ⟨⟨b9,rfl,hb9⟩,hbel⟩
     obtain rfl:b9=false:=by
      cases b9 with
      | false=>rfl
      | true=>exact absurd (hb9.1 rfl) HV.o
     have HC3:=zH (HC.o.bS hbel);have HB3:=zH (zaa HBA.o hbel);clear d0 d1 d2 g0 g1 g2 e0 e1 e2 hbel hb9;obtain⟨-,g0,g1,g2,e0,e1,e2⟩:=HC3.o))
  refine zka rfl rfl Tryz.aggCh Tryz.sizeCh (HC3.o.set _ _ _) rfl ?_;have hb4:=zea HB3.o (zLS _) (.slice none 0 0) (.slice none 0 0) (.slice none 0 0);exact⟨_,_,rfl,hb4,λ h=>absurd h HV.o,λ _=>⟨rfl,rfl⟩⟩
structure RkD where
 B:Nat
 hi:Nat
 lv:Value
 vs:Value
 vl:Value
 vr:Value
 rs:List Value
 L:List (List Nat)
structure RkD.Ok (K:RkD) (w1 w:World) (s:Nat->Rat) (f:Mx):Prop where
 vec:NRows w1 K.lv K.L
 le:w1.heap.size<=K.B
 bel:Below w1.heap.size w1 w
 bld:zhh w K.B K.hi K.vs K.vl K.vr K.rs (K.L.length+1) s f
 len:K.L.length<=150
def RkD.Step (K:RkD) (w1 w w':World) (s:Nat->Rat) (g:Mx):Prop:=K.Ok w1 w' s g/\Below K.B w w'/\zya K.hi w w'
section
variable {K:RkD} {w1 w w':World} {s s':Nat->Rat} {f g:Mx}
theorem RkD.Ok.bw (h:K.Ok w1 w s f) (hb:Below w.heap.size w w'):K.Ok w1 w' s f:=⟨h.vec,h.le,zaa h.bel hb,h.bld.bw hb,h.len⟩
theorem RkD.Ok.congr (h:K.Ok w1 w s f) (h1:∀i,i<K.L.length+1->s i=s' i) (h2:∀i j,i<K.L.length+1->j<K.L.length+1->f i j=g i j):K.Ok w1 w s' g:=⟨h.vec,h.le,h.bel,h.bld.congr h1 h2,h.len⟩
end
theorem radd_M {M:RkD} {w1 w:World} {st:Nat->Rat} {mv:List Nat->List Mv} {pre:List Mv} {fr:Nat} {D B:Nat} (m:Mv) (fi ji:Int) (vx:Value) (h:M.Ok w1 w st (zzc M.L mv fr (znb M.L pre))) (hx:zna w vx m.2) (hfr:fr<M.L.length) (hfi:fi=(fr:Nat)) (hji:ji=(M.L.idxOf m.1:Nat)) (hne:M.L[fr]≠m.1) (hroom:zqk D B) (hov:∀x∈pre++ [m],over D B x.2) (hlen:pre.length<1000):
 Calls Tryz.prog 59 #[.agg #[M.vr,M.vs,M.vl], .int .i64 fi, .int .i64 ji,vx] w (λ e w'=>e= .returned (.tuple #[])/\M.Step w1 w w' st (zzc M.L mv fr (znb M.L (pre++ [m])))):=by
 have h1:fits (znb M.L pre (M.L.idxOf m.1)):=zzj hroom (λ x hx=>hov x (by simp[hx])) zO;have h2:fits (znb M.L (pre++ [m]) (M.L.idxOf m.1)):=zzj hroom hov (by simp;omega);have hle:M.L.idxOf m.1<=M.L.length:=List.idxOf_le_length
 have hij:fr≠M.L.idxOf m.1:=λ e=>hne (by
  have h3:M.L.idxOf m.1<M.L.length:=by rw[<-e];exact hfr
  have h4:=List.getElem_idxOf h3;rw[<-h4]
  congr 1)
 have hxf:fits m.2:=hroom.fits (hov m (by simp));refine(radd23_any M.B (M.L.length+1) fr (M.L.idxOf m.1) M.hi fi ji M.vs M.vl M.vr vx M.rs st _ (zzc M.L mv fr (znb M.L (pre++ [m]))) m.2 w h.bld hx zO zO (by have:=h.len;omega) hfi hji hij (by rw[zuf];exact h1) hxf (by rw[zuf,<-zkq];exact h2) (λ r c _ _ hn=>tabM_put (λ k hk=>rowM_put hk) hn) (by rw[zuf,zuf,zkq])).mono ?_;rintro e w' ⟨rfl,k1,k2,k3⟩;exact⟨rfl,⟨h.vec,h.le,h.bel.trans (k2.mono h.le),k1,h.len⟩,k2,k3⟩
end Go.Proofs.YtkpedaflofejnaaGreat
namespace Go.Proofs.YtkpedaflofejnaaGreat
open Go.RowKit Go.Maps
structure Cap where
 B:Nat
 vb:Nat
 mb:Nat
 gb:Nat
 q1:Nat
 q2:Nat
 q3:Nat
 q4:Nat
 q5:Nat
 gv:Value
 x1:Value
 x4:Value
 f:Value
def Cap.S (c:Cap):List Nat:= [c.vb,c.mb,c.gb]
structure Cap.Ok (c:Cap):Prop where
 g:c.gb<c.B
 gvb:c.gb≠c.vb
 gmb:c.gb≠c.mb
 ob:(base c.gv).block=c.gb
 l1:c.q1<c.B/\c.q1∉c.S
 l2:c.q2<c.B/\c.q2∉c.S
 l3:c.q3<c.B/\c.q3∉c.S
 l4:c.q4<c.B/\c.q4∉c.S
 l5:c.q5<c.B/\c.q5∉c.S
structure ClI (c:Cap) (w:World) (lv:Value) (rs:List Value) (L:List (List Nat)) (u:List Nat):Prop where
 ok:c.Ok
 c1:w.cell? ⟨c.q1,0,none⟩=some c.x1
 c2:w.cell? ⟨c.q2,0,none⟩=some c.gv
 c3:w.cell? ⟨c.q3,0,none⟩=some (.pointer (some ⟨c.vb,0,none⟩))
 c4:w.cell? ⟨c.q4,0,none⟩=some c.x4
 c5:w.cell? ⟨c.q5,0,none⟩=some c.f
 row:zib w 3 0 c.gv (u.map zod)
 vec:zsk w c.B c.vb c.mb lv rs L
theorem zib.kept {w w':World} {e:TypeId} {B0 B:Nat} {v:Value} {es:List Value} {S:List Nat} (h:zib w e B0 v es) (hk:zse S B w w') (hb:(base v).block<B) (hs:(base v).block∉S):zib w' e B0 v es:=by
 obtain⟨h1,h2⟩:=h;refine⟨h1,?_⟩;rcases h2 with h2 | ⟨g,cap,cur,rfl,hb2,hg,rest⟩
 ·exact Or.inl h2
 ·exact Or.inr ⟨g,cap,cur,rfl,hb2,(hk.block g hb hs).trans hg,rest⟩
section
variable {c:Cap} {w w':World} {lv lv':Value} {rs rs':List Value} {L L':List (List Nat)} {u:List Nat}
theorem ClI.natsV (h:ClI c w lv rs L u):zjb w c.gv u:=⟨h.row.sl,by rw[h.row.len],λ j hj=>h.row.cell j hj⟩
theorem ClI.put (h:ClI c w lv rs L u) {i:Nat} (hi:i<u.length) (x:Nat):ClI c (w.setCell (ptr c.gv i) (zod x)) lv rs L (u.set i x)/\zse c.S c.B w (w.setCell (ptr c.gv i) (zod x)):=by
 have hp:(ptr c.gv i).block=c.gb:=by rw[zma,h.ok.ob]
 have hS:c.gb∈c.S:=by unfold Cap.S;simp
 have ne:∀ {q:Nat},q∉c.S->ptr c.gv i≠⟨q,0,none⟩:=fun{q} hq e=>hq (by rw[e]at hp;rw[show q=c.gb from hp];exact hS)
 have hk:zse c.S c.B w (w.setCell (ptr c.gv i) (zod x)):=zse.setCell w (Or.inr (by rw[hp];exact hS)) _;have hr:=(h.row.set i (by simpa using hi) (zod x)).1;rw[<-List.map_set]at hr;refine⟨⟨h.ok,?_,?_,?_,?_,?_,hr,h.vec.over (by rw[hp];exact h.ok.g) (by rw[hp];exact h.ok.gvb) (by rw[hp];exact h.ok.gmb) _⟩,hk⟩
 ·rw[zCO _ _ _ _ (λ e=>ne h.ok.l1.2 (by rw[e]))];exact h.c1
 ·rw[zCO _ _ _ _ (λ e=>ne h.ok.l2.2 (by rw[e]))];exact h.c2
 ·rw[zCO _ _ _ _ (λ e=>ne h.ok.l3.2 (by rw[e]))];exact h.c3
 ·rw[zCO _ _ _ _ (λ e=>ne h.ok.l4.2 (by rw[e]))];exact h.c4
 ·rw[zCO _ _ _ _ (λ e=>ne h.ok.l5.2 (by rw[e]))];exact h.c5
theorem ClI.turn (h:ClI c w lv rs L u) (hv:zsk w' c.B c.vb c.mb lv' rs' L') (hk:zse [c.vb,c.mb] c.B w w'):ClI c w' lv' rs' L' u/\zse c.S c.B w w':=by
 have hS:∀k∈ [c.vb,c.mb],k∈c.S:=λ k hk=>by unfold Cap.S;simp at hk |-;rcases hk with h | h<;>simp[h]
 have hk2:=hk.mono hS (zLR _);refine⟨⟨h.ok,?_,?_,?_,?_,?_,h.row.kept hk (by rw[h.ok.ob];exact h.ok.g) (by rw[h.ok.ob];simp[h.ok.gvb,h.ok.gmb]),hv⟩,hk2⟩
 ·rw[hk2.cell (p:=⟨c.q1,0,none⟩) h.ok.l1.1 h.ok.l1.2];exact h.c1
 ·rw[hk2.cell (p:=⟨c.q2,0,none⟩) h.ok.l2.1 h.ok.l2.2];exact h.c2
 ·rw[hk2.cell (p:=⟨c.q3,0,none⟩) h.ok.l3.1 h.ok.l3.2];exact h.c3
 ·rw[hk2.cell (p:=⟨c.q4,0,none⟩) h.ok.l4.1 h.ok.l4.2];exact h.c4
 ·rw[hk2.cell (p:=⟨c.q5,0,none⟩) h.ok.l5.1 h.ok.l5.2];exact h.c5
theorem ClI.bw (h:ClI c w lv rs L u) (hb:Below w.heap.size w w'):ClI c w' lv rs L u:=
 ⟨h.ok,zca hb h.c1,zca hb h.c2,zca hb h.c3,zca hb h.c4,zca hb h.c5,h.row.bw hb,h.vec.bw hb⟩
end
theorem tset_same (u:List Nat) (i x:Nat):(u.set i x).take i=u.take i:=by
 refine List.ext_getElem (by simp) λ j h1 h2=> ?_
 have hj:j<i:=by simp at h1;omega
 rw[List.getElem_take,List.getElem_take,zTN zO]
theorem zlh {u:List Nat} {i:Nat} (h:i<u.length) (x:Nat):(u.set i x).take (i+1)=u.take i++ [x]:=by
 rw[List.take_succ_eq_append_getElem (by simpa using h),tset_same,zSF]
theorem set_last {u:List Nat} {i:Nat} (h:u.length=i+1) (x:Nat):u.set i x=u.take i++ [x]:=by
 have h1:=zlh (u:=u) (i:=i) zO x;rw[<-h1,zTL (by simp;omega)]
set_option maxHeartbeats 3200000
def cntF (q1 q2 q3 q4 q5:Nat):Value:= .func (.func 114) #[] #[.pointer (some ⟨q1,0,none⟩), .pointer (some ⟨q2,0,none⟩), .pointer (some ⟨q3,0,none⟩), .pointer (some ⟨q4,0,none⟩), .pointer (some ⟨q5,0,none⟩)]
def RWalk (c:Cap) (w0:World) (L T:List (List Nat)) (u:List Nat) (i:Nat) (b:Bool) (e:Ending) (w:World):Prop:=
 e= .returned (.bool b)/\zse c.S c.B w0 w/\(b=true->∃lv rs u',ClI c w lv rs (L++T) u'/\u'.length=u.length/\u'.take i=u.take i/\zhb u')
theorem zhb.set {u:List Nat} (h:zhb u) (i:Nat) {x:Nat} (hx:x<256):zhb (u.set i x):=λ y hy=>by
 rcases List.mem_or_eq_of_mem_set hy with h1 | rfl
 ·exact h y h1
 ·exact hx
set_option maxRecDepth 100000 in
theorem cnt1_leaf (c:Cap) (P left:Nat) (hc:c.x1= .int .i64 (P:Nat)) (hP:1<=P) (hP4:P<=50) (ii:Int) (hii:ii=(P:Nat)) (ll:Int) (hll:ll=(left:Nat)) (u:List Nat) (lv:Value) (rs:List Value) (L:List (List Nat)) (w:World) (hI:ClI c w lv rs L u) (hu:zhb u) (hul:u.length=P+1) (hL:L.length<128) (hnd:u.take P++ [left]∉L) (hl:left<256) (b:Bool) (hb:b=decide (L.length+1<128)):
 Calls Tryz.prog 114 #[.int .i64 ii, .int .i64 ll, .pointer (some ⟨c.q1,0,none⟩), .pointer (some ⟨c.q2,0,none⟩), .pointer (some ⟨c.q3,0,none⟩), .pointer (some ⟨c.q4,0,none⟩), .pointer (some ⟨c.q5,0,none⟩)] w (RWalk c w L [u.take P++ [left]] u P b):=by
 subst hii;subst hll;have hset:=hI.put (i:=P) zO left;rw[set_last hul]at hset;obtain⟨hI2,hk2⟩:=hset;obtain⟨z0,cz⟩:∃z,w.cell? (ptr c.gv P)=some z:=⟨_,hI.row.cell P (by simp;omega)⟩;have fz:=hI.row.frozen P (by simp;omega);have hsl:=hI.row.sl;have hlen:slen c.gv=P+1:=by rw[hI.row.len];simp;omega
 have c1:=hI.c1;have c2:=hI.c2;rw[hc]at c1;have i1:(0:Int)<=(P:Int):=zO;have i2:(P:Int)<((P+1:Nat):Int):=zO;have e1:((P:Int)==(P:Int))=true:=by simp
 have HI2:=zH hI2;have HK2:=zH hk2;have HND:=zH hnd;have HSM:zI (zhb (u.take P++ [left])):=zH (by rw[<-set_last hul];exact hu.set _ hl);have HUL:zI ((u.take P++ [left]).length=P+1):=zH (by simp;omega);have HUL2:=zH hul;have HBB:=zH hb;have HTK:zI ((u.take P++ [left]).take P=u.take P):=zH (by rw[List.take_append_of_le_length (by simp;omega),List.take_take,Nat.min_self]);have HVB:zI ((base c.gv).block≠c.mb):=zH (by rw[hI.ok.ob];exact hI.ok.gmb);have d2:=hI2.c2;have d3:=hI2.c3;generalize hw2:w.setCell (ptr c.gv P) (zod left)=w2 at *
 have hsc:w.setCell (ptr c.gv P) (.int .i64 (left:Nat))=w2:=hw2;clear hI hI2 hk2 hnd hu hul hb hw2;go_enter Tryz.func114,Tryz.ntmps114
 go_wp2_with (first
  |(go_at_call 103;(with_reducible refine(vadd_any _ (u.take P++ [left]) _ c.B c.vb c.mb lv rs L HI2.o.natsV HI2.o.vec HSM.o HND.o (by rw[HUL.o];omega) (by rw[HUL.o];omega) zO HVB.o).mono ?_);rintro e3 w3 ⟨rfl,lv3,rs3,hv3,hk3⟩;have HT:=zH (HI2.o.turn hv3 hk3);have g0:=hv3.c0;have g3:=HT.o.1.c3;have s3:=hv3.sl;(have n3:slen lv3=L.length+1:=by rw[hv3.len];simp);clear hv3 hk3))
 go_ret;refine⟨?_,HK2.o.trans HT.o.2,λ _=>⟨_,_,_,HT.o.1,by rw[HUL.o,HUL2.o],HTK.o,HSM.o⟩⟩;have h4:((L.length+1:Nat):Int)=(L.length:Int)+1:=zO;rw[HBB.o]
 first
  | rfl
  |(simp;omega)
  |(congr 2;simp;omega)
def CntH (c:Cap) (P m i left:Nat) (u:List Nat) (L:List (List Nat)) (b:Bool):Prop:=
 u.length=P+1/\zhb u/\L.length<128/\(L++(zwo P m i left).map (u.take i++ ·)).Nodup/\left<=8/\(i=0->m<=left)/\b=decide (L.length+(zwo P m i left).length<128)
def CntS (c:Cap) (P m i:Nat):Prop:=
 ∀ (ii ll:Int) (left:Nat) (u:List Nat) (lv:Value) (rs:List Value) (L:List (List Nat)) (b:Bool) (w:World),ii=(i:Nat)->ll=(left:Nat)->ClI c w lv rs L u->CntH c P m i left u L b->
  Calls Tryz.prog 114 #[.int .i64 ii, .int .i64 ll, .pointer (some ⟨c.q1,0,none⟩), .pointer (some ⟨c.q2,0,none⟩), .pointer (some ⟨c.q3,0,none⟩), .pointer (some ⟨c.q4,0,none⟩), .pointer (some ⟨c.q5,0,none⟩)] w (RWalk c w L ((zwo P m i left).map (u.take i++ ·)) u i b)
theorem cnt1_last (c:Cap) (P m:Nat) (hc:c.x1= .int .i64 (P:Nat)) (hP:1<=P) (hP4:P<=50):CntS c P m P:=by
 intro ii ll left u lv rs L b w hii hll hI hH;obtain⟨h1,h2,h3,h4,h5,_,h6⟩:=hH;rw[cntT_leaf hP]at h4 |-
 have h7:(zwo P m P left).length=1:=by have:=congrArg List.length (cntT_leaf (m:=m) (left:=left) hP []);simpa using this
 rw[h7]at h6
 exact cnt1_leaf c P left hc hP hP4 ii hii ll hll u lv rs L w hI h2 h1 h3 (λ hm=>by
  have:=(List.nodup_append.1 h4).2.2;exact this _ hm _ (by simp) rfl) zO b h6
theorem CntH.round {c:Cap} {P m i left:Nat} {u u':List Nat} {L:List (List Nat)} {b:Bool} {x:Nat} (h:CntH c P m i left u L b) (hi:i<P) (hx:x<=cntK m i left) (hu':u'.length=u.length) (hs:zhb u') (ht:u'.take i=u.take i) (hl:(L++zyl P m i left (u.take i) x).length<128):
 x<=left/\CntH c P m (i+1) (left-x) (u'.set i x) (L++zyl P m i left (u.take i) x) (decide ((L++zyl P m i left (u.take i) (x+1)).length<128))/\(u'.set i x).take (i+1)=u.take i++ [x]/\
  (L++zyl P m i left (u.take i) x)++(zwo P m (i+1) (left-x)).map ((u'.set i x).take (i+1)++ ·)=L++zyl P m i left (u.take i) (x+1)/\(b=true->(L++zyl P m i left (u.take i) (x+1)).length<128):=by
 obtain⟨h1,h2,h3,h4,h5,h6,h7⟩:=h
 have hxl:x<=left:=by
  unfold cntK at hx;split at hx
  ·next e=>have:=h6 e;omega
  ·exact hx
 have e1:(u'.set i x).take (i+1)=u.take i++ [x]:=by rw[zlh zO,ht]
 have e2:(L++zyl P m i left (u.take i) x)++(zwo P m (i+1) (left-x)).map ((u'.set i x).take (i+1)++ ·)=L++zyl P m i left (u.take i) (x+1):=by rw[e1,cntD_succ,List.append_assoc]
 rw[zrm hi]at h4;obtain⟨t,ht2⟩:=cntD_prefix (P:=P) (m:=m) (i:=i) (left:=left) (pre:=u.take i) (show x+1<=cntK m i left+1 by omega);have e3:(L++zyl P m i left (u.take i) (x+1)).length=(L++zyl P m i left (u.take i) x).length+(zwo P m (i+1) (left-x)).length:=by rw[<-e2,zLA,zMP]
 refine⟨hxl,⟨by rw[zGS,hu',h1],hs.set i zO,hl,by rw[e2];exact nodup_pre h4 ht2,zO,zO,by rw[e3]⟩,e1,e2,λ hb=> ?_⟩;rw[hb]at h7;have h8:=of_decide_eq_true h7.symm;have h9:(zwo P m i left).length=(zyl P m i left (u.take i) (cntK m i left+1)).length:=by rw[<-zrm hi];simp
 have h10:=zop ht2;rw[zLA];omega
theorem CntH.all {c:Cap} {P m i left:Nat} {u:List Nat} {L:List (List Nat)} {b:Bool} (h:CntH c P m i left u L b) (hi:i<P) (hl:(L++zyl P m i left (u.take i) (cntK m i left+1)).length<128):b=true:=by
 obtain⟨h1,h2,h3,h4,h5,h6,rfl⟩:=h;have h9:(zwo P m i left).length=(zyl P m i left (u.take i) (cntK m i left+1)).length:=by rw[<-zrm hi];simp
 rw[zLA]at hl;exact zDT zO
set_option maxRecDepth 100000 in
theorem cnt1_step (c:Cap) (P m i:Nat) (hi:i<P) (hP4:P<=50) (hm:m<=50) (hc:c.x1= .int .i64 (P:Nat)) (hc4:c.x4= .int .i64 (m:Nat)) (hcf:c.f=cntF c.q1 c.q2 c.q3 c.q4 c.q5) (IH:CntS c P m (i+1)):CntS c P m i:=by
 intro ii ll left u lv rs L b w hii hll hI hH;subst hii;subst hll;have HH:=zH hH;have HIH:=zH IH;have HI:=zH hI;have HC1:=zH hc;have HC4:=zH hc4;have HCF:=zH hcf;have hl8:left<=8:=hH.2.2.2.2.1;have hul:i<u.length:=by rw[hH.1];omega
 have HUL:=zH hul;have c1:=hI.c1;rw[hc]at c1;have e1:((i:Int)==(P:Int))=false:=by simp;omega
 have HL0:zI ((L++zyl P m i left (u.take i) 0).length<128):=zH (by rw[cntD_zero,List.append_nil];exact hH.2.2.1);have HSM:=zH hH.2.1;clear hH IH hI hc hc4 hcf hul;go_enter Tryz.func114,Tryz.ntmps114;go_wp2_with fail;clear c1;have HI0:zI (ClI c w lv rs (L++zyl P m i left (u.take i) 0) u):=zH (by rw[cntD_zero,List.append_nil];exact HI.o);go_loopg [10] (cntK m i left+1) (λ g u10 wr=>∃ (x:Nat) (lv:Value) (rs:List Value) (u':List Nat),x<=cntK m i left+1/\g=cntK m i left+1-x/\u10= .int .i64 x/\ClI c wr lv rs (L++zyl P m i left (u.take i) x) u'/\(L++zyl P m i left (u.take i) x).length<128/\u'.length=u.length/\zhb u'/\u'.take i=u.take i/\zse c.S c.B w wr);case atStart=>exact⟨0,lv,rs,u,zZL _,rfl,rfl,HI0.o,HL0.o,rfl,HSM.o,rfl,zse.refl _ _ _⟩
 case round=>
  obtain⟨x,lv1,rs1,u1,hx,hg,rfl,hI1,hl1,hu1,hs1,ht1,hk1⟩:=hrel;obtain⟨wx,hwx⟩:∃w6,w6=wr:=⟨_,rfl⟩;subst hwx;have HG:=zH hg;have HI1:=zH hI1;have HL1:=zH hl1;have HU1:=zH hu1;have HS1:=zH hs1;have HT1:=zH ht1;have HK1:=zH hk1;have c4:=hI1.c4;rw[HC4.o]at c4;have HK:zI (cntK m i left=if i=0 then m else left):=zH rfl;clear hg hI1 hl1 hu1 hs1 ht1 hk1 HI0 HL0 HSM HI;by_cases hxk:x<=cntK m i left
  ·have HR:=zH (HH.o.round hi hxk HU1.o HS1.o HT1.o HL1.o);have hxl:=HR.o.1;(have hix:i<u1.length:=by rw[HU1.o];exact HUL.o);have HP:=zH (HI1.o.put hix x);have c2:=HI1.o.c2;obtain⟨z0,cz⟩:∃z,wx.cell? (ptr c.gv i)=some z:=⟨_,HI1.o.row.cell i (by simpa using hix)⟩;have fz:=HI1.o.row.frozen i (by simpa using hix);have hsl:=HI1.o.row.sl;(have hlen:slen c.gv=P+1:=by rw[HI1.o.row.len];simp;rw[HU1.o];exact HH.o.1);have i1:(0:Int)<=(i:Int):=zO;have i2:(i:Int)<((P+1:Nat):Int):=zO;have i3:decide (x<=left)=true:=zDT zO;have d5:=HP.o.1.c5;rw[HCF.o]at d5;unfold cntF at d5;generalize hw2:wx.setCell (ptr c.gv i) (zod x)=w2 at *
   have hsc:wx.setCell (ptr c.gv i) (.int .i64 (x:Nat))=w2:=hw2;have HX:=zH hxk;clear hw2 hxk hix
   have i4:(((i:Int)==0)&&decide ((m:Int)<(x:Int)))=false:=by
    by_cases h0:i=0
    ·have h1:=HX.o;rw[HK.o,zIP h0]at h1;rw[zDF zO];simp
    ·(have :((i:Int)==0)=false:=by simp;exact h0);rw[this];rfl
   by_cases hb:(L++zyl P m i left (u.take i) (x+1)).length<128
   ·have HC:zI (∀ii ll:Int,ii=((i+1:Nat):Int)->ll=((left-x:Nat):Int)->Calls Tryz.prog 114 #[.int .i64 ii, .int .i64 ll, .pointer (some ⟨c.q1,0,none⟩), .pointer (some ⟨c.q2,0,none⟩), .pointer (some ⟨c.q3,0,none⟩), .pointer (some ⟨c.q4,0,none⟩), .pointer (some ⟨c.q5,0,none⟩)] w2 (λ e w3=>e= .returned (.bool true)/\∃lv rs u',ClI c w3 lv rs (L++zyl P m i left (u.take i) (x+1)) u'/\u'.length=u.length/\u'.take i=u.take i/\zhb u'/\zse c.S c.B w2 w3)):=zH (λ ii ll h1 h2=>by
     refine(HIH.o ii ll _ _ _ _ _ _ _ h1 h2 HP.o.1 HR.o.2.1).mono ?_;rintro e w3 ⟨rfl,k1,k2⟩;obtain⟨lv,rs,u',k3,k4,k5,k6⟩:=k2 (zDT hb);rw[HR.o.2.2.2.1]at k3;refine⟨by rw[zDT hb],lv,rs,u',k3,by rw[k4,zGS];exact HU1.o,?_,k6,k1⟩;have h6:=congrArg (List.take i) k5;rw[List.take_take,List.take_take,Nat.min_eq_left zO,tset_same,HT1.o]at h6;exact h6)
    have HB:=zH hb;clear hb;by_cases h0:i=0
    ·(have e0:((i:Int)==0)=true:=by simp;omega);(have e2:decide (m<x)=false:=by rw[e0]at i4;simpa using i4);clear i4 h0
     go_wp2_with (first
      |(go_at_call 114;(with_reducible refine(HC.o _ _ zO zO).mono ?_);rintro e3 w3 ⟨rfl,lv3,rs3,u3,hI3,hu3,ht3,hs3,hk3⟩;have HI3:=zH hI3;have HE3:=zH (zAI hu3 (zAI ht3 (zAI hs3 hk3)));clear hI3 hu3 ht3 hs3 hk3))
     go_roundg (cntK m i left+1- (x+1));(case measure=>(have:=HG.o;have:=HX.o;omega));case rel=>exact⟨x+1,_,_,_,by have:=HX.o;omega,rfl,by go_num,HI3.o,HB.o,HE3.o.1,HE3.o.2.2.1,HE3.o.2.1,(HK1.o.trans HP.o.2).trans HE3.o.2.2.2⟩
    ·(have e0:((i:Int)==0)=false:=by simp;exact h0);clear i4 h0
     go_wp2_with (first
      |(go_at_call 114;(with_reducible refine(HC.o _ _ zO zO).mono ?_);rintro e3 w3 ⟨rfl,lv3,rs3,u3,hI3,hu3,ht3,hs3,hk3⟩;have HI3:=zH hI3;have HE3:=zH (zAI hu3 (zAI ht3 (zAI hs3 hk3)));clear hI3 hu3 ht3 hs3 hk3))
     go_roundg (cntK m i left+1- (x+1));(case measure=>(have:=HG.o;have:=HX.o;omega));case rel=>exact⟨x+1,_,_,_,by have:=HX.o;omega,rfl,by go_num,HI3.o,HB.o,HE3.o.1,HE3.o.2.2.1,HE3.o.2.1,(HK1.o.trans HP.o.2).trans HE3.o.2.2.2⟩
   ·have HBF:zI (b=false):=zH (by
     cases b with
     | false=>rfl
     | true=>exact absurd (HR.o.2.2.2.2 rfl) hb)
    have HC:zI (∀ii ll:Int,ii=((i+1:Nat):Int)->ll=((left-x:Nat):Int)->Calls Tryz.prog 114 #[.int .i64 ii, .int .i64 ll, .pointer (some ⟨c.q1,0,none⟩), .pointer (some ⟨c.q2,0,none⟩), .pointer (some ⟨c.q3,0,none⟩), .pointer (some ⟨c.q4,0,none⟩), .pointer (some ⟨c.q5,0,none⟩)] w2 (λ e w3=>e= .returned (.bool false)/\zse c.S c.B w2 w3)):=zH (λ ii ll h1 h2=>by
     refine(HIH.o ii ll _ _ _ _ _ _ _ h1 h2 HP.o.1 HR.o.2.1).mono ?_;rintro e w3 ⟨rfl,k1,_⟩;exact⟨by rw[zDF hb],k1⟩)
    clear hb;by_cases h0:i=0
    ·(have e0:((i:Int)==0)=true:=by simp;omega);(have e2:decide (m<x)=false:=by rw[e0]at i4;simpa using i4);clear i4 h0
     go_wp2_with (first
      |(go_at_call 114;(with_reducible refine(HC.o _ _ zO zO).mono ?_);rintro e3 w3 ⟨rfl,hk3⟩;have HK3:=zH hk3;clear hk3))
     go_ret;exact⟨by rw[HBF.o];rfl,(HK1.o.trans HP.o.2).trans HK3.o,λ h=>by rw[HBF.o]at h;cases h⟩
    ·(have e0:((i:Int)==0)=false:=by simp;exact h0);clear i4 h0
     go_wp2_with (first
      |(go_at_call 114;(with_reducible refine(HC.o _ _ zO zO).mono ?_);rintro e3 w3 ⟨rfl,hk3⟩;have HK3:=zH hk3;clear hk3))
     go_ret;exact⟨by rw[HBF.o];rfl,(HK1.o.trans HP.o.2).trans HK3.o,λ h=>by rw[HBF.o]at h;cases h⟩
  ·have HXE:zI (x=cntK m i left+1):=zH zO;have HBT:=zH (HH.o.all hi (by rw[<-HXE.o];exact HL1.o));have HI2:zI (ClI c wx lv1 rs1 (L++(zwo P m i left).map (u.take i++ ·)) u1):=zH (by rw[zrm hi,<-HXE.o];exact HI1.o);have hxe:=HXE.o;rw[HK.o]at hxe;clear hxk hx;by_cases h0:i=0/\m+1<=left
   ·rw[zIP h0.1]at hxe;(have e0:((i:Int)==0)=true:=by simp;omega);have i3:decide (x<=left)=true:=zDT zO;have e2:decide (m<x)=true:=zDT zO;clear hxe h0;go_wp2_with fail;go_ret;exact⟨by rw[HBT.o];rfl,HK1.o,λ _=>⟨_,_,_,HI2.o,HU1.o,HT1.o,HS1.o⟩⟩
   ·have i3:decide (x<=left)=false:=zDF (by
     have:=HH.o.2.2.2.2.2.1;by_cases h1:i=0
     ·rw[zIP h1]at hxe;omega
     ·rw[zIN h1]at hxe;omega)
    clear hxe h0;go_wp2_with fail;go_ret;exact⟨by rw[HBT.o];rfl,HK1.o,λ _=>⟨_,_,_,HI2.o,HU1.o,HT1.o,HS1.o⟩⟩
theorem cnt1_any (c:Cap) (P m:Nat) (hP:1<=P) (hP4:P<=50) (hm:m<=50) (hc:c.x1= .int .i64 (P:Nat)) (hc4:c.x4= .int .i64 (m:Nat)) (hcf:c.f=cntF c.q1 c.q2 c.q3 c.q4 c.q5):∀d,d<=P->CntS c P m (P-d)
 | 0,_=>cnt1_last c P m hc hP hP4
 | d+1,h=>by
   have ih:=cnt1_any c P m hP hP4 hm hc hc4 hcf d zO;have e:P-d=P- (d+1)+1:=zO;rw[e]at ih;exact cnt1_step c P m (P- (d+1)) zO hP4 hm hc hc4 hcf ih
end Go.Proofs.YtkpedaflofejnaaGreat
