/-
  package drydocklaw20: faster.
-/
import Derived.Test.YtlpdkbmmbdfoiaaGTl1
import Derived.Test.YtlpdkbmmbdfoiaaGPs1
import Derived.Test.YtlpdkbmmbdfoiaaGPx1
set_option linter.unusedVariables false
set_option linter.unusedSimpArgs false
namespace Go.Proofs.Ytlpdkbmmbdfoiaa
open Go.RowKit
theorem sc_exit (K:Rat) (q:List Rat) (n:Nat) (hn:q.length=n):zib n (fun i=>K*q.getD i 0)=q.map fun x=>K*x:=by
 subst hn
 refine List.ext_getElem (by rw[zea,List.length_map]) fun i h1 h2=> ?_
 rw[ztb,List.getElem_map]
 rw[zea]at h1
 rw[List.getD_eq_getElem?_getD,List.getElem?_eq_getElem h1]
 rfl
theorem fa_box (w:World) (t u:TypeId) (x0 x1 x2 x3 q0 q1 q2 z0 z1 z2 z3:Value) (W:World) (hW:W=((w.alloc (.cells #[x0,x1,x2,x3] t)).alloc (.cells #[q0,q1,q2] u)).alloc (.cells #[z0,z1,z2,z3] t)):
 C4 W w.heap.size x0 x1 x2 x3∧C3 W (w.heap.size+1) q0 q1 q2∧C4 W (w.heap.size+1+1) z0 z1 z2 z3∧Below w.heap.size w W:=by
 subst hW
 have hz1:(w.alloc (.cells #[x0,x1,x2,x3] t)).heap.size=w.heap.size+1:=by show(w.heap.push _).size=_;rw[Array.size_push]
 have hz2:((w.alloc (.cells #[x0,x1,x2,x3] t)).alloc (.cells #[q0,q1,q2] u)).heap.size=w.heap.size+1+1:=by show((w.heap.push _).push _).size=_;rw[Array.size_push,Array.size_push]
 have b1:=zca w (.cells #[x0,x1,x2,x3] t)
 have b2:=zca (w.alloc (.cells #[x0,x1,x2,x3] t)) (.cells #[q0,q1,q2] u)
 have b3:=zca ((w.alloc (.cells #[x0,x1,x2,x3] t)).alloc (.cells #[q0,q1,q2] u)) (.cells #[z0,z1,z2,z3] t)
 have h2:=C3.newB (b:=w.heap.size+1) (w.alloc (.cells #[x0,x1,x2,x3] t)) u q0 q1 q2 hz1
 have h3:=C4.new ((w.alloc (.cells #[x0,x1,x2,x3] t)).alloc (.cells #[q0,q1,q2] u)) t z0 z1 z2 z3
 rw[hz2]at h3
 exact⟨((C4.new w t x0 x1 x2 x3).belowS b2).belowS b3,h2.belowS b3,h3,zaa (zaa b1 b2) b3⟩
theorem C4.setX {w:World} {b:Nat} {v0 v1 v2 v3:Value} (h:C4 w b v0 v1 v2 v3) (u:Value):C4 (w.setCell ⟨b,3,none⟩ u) b v0 v1 v2 u∧C4 (w.setCell ⟨b,2,none⟩ u) b v0 v1 u v3:=by
 obtain⟨lt,c0,c1,c2,c3,f0,f1,f2,f3⟩:=h
 constructor
 ·refine⟨by simpa [World.setCell]using lt,?_,?_,?_,?_,?_,?_,?_,?_⟩<;>go_simp
 ·refine⟨by simpa [World.setCell]using lt,?_,?_,?_,?_,?_,?_,?_,?_⟩<;>go_simp
theorem FaW.set4 {w:World} {B n ie:Nat} {vE vR:Value} {rs:List Value} {E:Nat→Rat} {M:Mx} (h:FaW w B vE vR rs n ie E M) {b:Nat} {s:ByteArray} (hC:C4 w b (.string s) (.slice none 0 0) (.slice none 0 0) (.slice none 0 0)) (hb:b<B) (u0 u1 u2 u3:Value):
 FaW ((((w.setCell ⟨b,0,none⟩ u0).setCell ⟨b,1,none⟩ u1).setCell ⟨b,2,none⟩ u2).setCell ⟨b,3,none⟩ u3) B vE vR rs n ie E M:=by
 obtain⟨_,c0,c1,c2,c3,_,_,_,_⟩:=hC
 have k0:=h.moves (zhb.set (p:=⟨b,0,none⟩) hb c0 (fun z=>by simp) u0)
 have k1:=k0.moves (zhb.set (p:=⟨b,1,none⟩) hb (by rw[World.cell?_setCell_other _ _ _ _ (by simp)];exact c1) (fun z=>by simp) u1)
 have k2:=k1.moves (zhb.set (p:=⟨b,2,none⟩) hb (by rw[World.cell?_setCell_other _ _ _ _ (by simp),World.cell?_setCell_other _ _ _ _ (by simp)];exact c2) (fun z=>by simp) u2)
 exact k2.moves (zhb.set (p:=⟨b,3,none⟩) hb (by rw[World.cell?_setCell_other _ _ _ _ (by simp),World.cell?_setCell_other _ _ _ _ (by simp),World.cell?_setCell_other _ _ _ _ (by simp)];exact c3) (fun z=>by simp) u3)
theorem FaW.law {w:World} {B n:Nat} {vE vR sv:Value} {rs:List Value} {l:LQ} {K:Rat} (h:FaW w B vE vR rs n n (fun i=>K*exQ l i) (fun i j=>K*rtQ l i j)) (hl:zxb l) (hn:l.start.length=n) (hrs:rs.length=n) (hs:zbb w sv l.start):zgm w (.agg #[.string { data:=#[] },sv,vR,vE]) (scL K l):=by
 have he:zib n (fun i=>K*exQ l i)=(scL K l).exit:=sc_exit K l.exit n (hl.el.trans hn)
 have hm:MatC w vR (scL K l).rates:=h.m.matC (by show _=(l.rates.map _).length;rw[List.length_map,hrs,hl.rl,hn]) fun j hj=>by
  have hj2:j<l.rates.length:=by
   have h1:j<(l.rates.map fun r=>r.map fun q=>K*q).length:=hj
   rw[List.length_map]at h1;exact h1
  have e1:(scL K l).rates[j]=(l.rates[j]).map fun q=>K*q:=List.getElem_map _
  have e2:l.rates.getD j []=l.rates[j]:=by rw[List.getD_eq_getElem?_getD,List.getElem?_eq_getElem hj2];rfl
  have e3:=sc_exit K (l.rates.getD j []) n (by rw[e2];exact(hl.row j hj2).1.trans hn)
  rw[e1,←e2]
  exact e3
 exact⟨sv,vR,vE,rfl,hs,hm,by rw[←he];exact h.e.fracs⟩
set_option maxRecDepth 100000 in
set_option maxHeartbeats 12800000 in
theorem zjq (va vk:Value) (l:LQ) (K:Rat) (w:World) (ha:zgm w va l) (hk:zqa w vk K) (hla:zxb l) (hkf:fits K) (hlk:zxb (scL K l)):Calls Try.prog 9 #[va,vk] w (fun e w'=>∃v,e= .returned v∧zgm w' v (scL K l)∧Below w.heap.size w w'):=by
 obtain⟨i3,hi3,hz3,hs3,hy3⟩:=info_parts Try.infoF
 have hAP:=zpp (P:=Try.prog) 23 32 i3 Try.underlying23 hi3 hz3 hs3 hy3
 obtain⟨i4,hi4,hz4,hs4,hy4⟩:=info_parts Try.infoRow
 have hAR:=zxl (P:=Try.prog) 24 23 i4 _ 24 Try.underlying24 hi4 hz4 hs4 hy4 (by decide) rfl (fun z=>by simp)
 clear hi3 hz3 hs3 hy3 hi4 hz4 hs4 hy4
 obtain⟨svA,rvA,evA,rfl,hsA,hrA,heA⟩:=id ha
 obtain⟨saA,snA,skA,rfl,-⟩:=id hsA.sl
 obtain⟨raA,rnA,rkA,rfl,-⟩:=id hrA.sl
 obtain⟨eaA,enA,ekA,rfl,-⟩:=id heA.sl
 obtain⟨n,hn⟩:∃n,l.start.length=n:=⟨_,rfl⟩
 obtain rfl:n=snA:=(hsA.len.trans hn).symm
 obtain rfl:n=rnA:=((hrA.len.trans hla.rl).trans hn).symm
 obtain rfl:n=enA:=((heA.len.trans hla.el).trans hn).symm
 have n1:1≤n:=by rw[←hn];exact hla.n1
 have n4:n≤4:=by rw[←hn];exact hla.n4
 obtain⟨tk,xk,yk,rfl,⟨p1,p2,p3,rfl,_⟩,⟨p4,p5,p6,rfl,_⟩⟩:=hk.isF
 obtain⟨hc1,hck,hc3,hbw⟩:=fa_box w 26 32 (.string { data:=#[] }) (.slice saA n skA) (.slice raA n rkA) (.slice eaA n ekA) (.bool tk) (.slice p1 p2 p3) (.slice p4 p5 p6) (.string { data:=#[] }) (.slice none 0 0) (.slice none 0 0) (.slice none 0 0) _ rfl
 have HC1:=zH hc1
 have HCK:=zH hck
 have HC3:=zH hc3
 have HBW:=zH hbw
 have HKV:=zH (hk.below hbw)
 have HS0:=zH hsA
 have HRA:=zH (hrA.below hbw)
 have HEA:=zH (heA.below hbw)
 have HLA:=zH hla
 have HNA:=zH hn
 have HKF:=zH hkf
 have HSF:Hid (∀i j,i<l.start.length→j<l.start.length→fits (rtQ l i j)∧fits (K*rtQ l i j)):=zH (fun i j hi hj=>⟨(hla.rt_lim hi hj).fits,by rw[←rtQ_sc];exact(hlk.rt_lim hi hj).fits⟩)
 have HEF:Hid (∀i,i<l.start.length→fits (exQ l i)∧fits (K*exQ l i)):=zH (fun i hi=>⟨(hla.ex_lim hi).fits,by rw[←exQ_sc];exact(hlk.ex_lim hi).fits⟩)
 have ssA:=hsA.sl
 have seA:=heA.sl
 have srA:=hrA.sl
 clear hc1 hck hc3 hbw hk hsA hrA heA hla hn hkf hlk ha
 go_enter Try.func9,Try.ntmps9
 go_upto_region 1 with fail
 generalize ((w.alloc (.cells #[.string { data:=#[] }, .slice saA n skA, .slice raA n rkA, .slice eaA n ekA] 26)).alloc (.cells #[.bool tk, .slice p1 p2 p3, .slice p4 p5 p6] 32)).alloc (.cells #[.string { data:=#[] }, .slice none 0 0, .slice none 0 0, .slice none 0 0] 26)=W2 at *
 obtain⟨-,c0,c1,c2,c3,-,-,-,-⟩:=HC1.out
 have hba:=zca W2 (.cells #[.string { data:=#[] }, .slice saA n skA, .slice none 0 0, .slice none 0 0] 26)
 have HC5:=zH (C4.new W2 26 (.string { data:=#[] }) (.slice saA n skA) (.slice none 0 0) (.slice none 0 0))
 have HBR:=zH hba
 have HLT5:Hid (W2.heap.size<(W2.alloc (.cells #[.string { data:=#[] }, .slice saA n skA, .slice none 0 0, .slice none 0 0] 26)).heap.size):=zH (by simp)
 clear hba
 go_upto_region 2 with fail
 clear c0 c1 c2 c3
 obtain⟨b5,hb5⟩:∃b,W2.heap.size=b:=⟨_,rfl⟩
 have HE5:=zH hb5
 rw[hb5]at HC5 HLT5 ⊢
 clear hb5
 generalize W2.alloc (.cells #[.string { data:=#[] }, .slice saA n skA, .slice none 0 0, .slice none 0 0] 26)=W5 at *
 go_wp2_with fail
 go_loopg [6] (n) (fun g u6 wr=>∃ (i:Nat) (vE vR:Value) (rs:List Value),i≤n∧g=n-i∧u6= .int .i64 i∧C4 wr b5 (.string { data:=#[] }) (.slice saA n skA) vR vE∧FaW wr W5.heap.size vE vR rs n i (fun i=>K*exQ l i) (fun i j=>K*rtQ l i j)∧rs.length=i∧Below W2.heap.size W2 wr)
 case atStart=>exact⟨0,_,_,[],Nat.zero_le _,rfl,rfl,HC5.out,FaW.nil _ _ _ _,rfl,HBR.out⟩
 case round=>
  clear HC5 HBR
  obtain⟨i,vE,vR,rs,hin,hg,rfl,hc5,hfw,hrs,hbr⟩:=hrel
  obtain⟨wx,hwx⟩:∃w6,w6=wr:=⟨_,rfl⟩
  subst hwx
  have HG:=zH hg
  have HC5:=zH hc5
  have HFW:=zH hfw
  have HRS:=zH hrs
  have HBR:=zH hbr
  have svE:=hfw.e.sl
  have svR:=hfw.m.ra.sl
  clear hg hc5 hfw hrs hbr
  by_cases hil:i<n
  ·have i1:(0:Int)≤(i:Int):=by omega
   have i2:(i:Int)<(n:Nat):=by omega
   have HIA:Hid (i<l.start.length):=zH (by rw[HNA.out];exact hil)
   obtain⟨m1,m2,m3,rfl,_⟩:=id svE
   obtain⟨o1,o2,o3,rfl,_⟩:=id svR
   obtain⟨ts,as1,ls1,ks1,as2,ls2,ks2,g1,g2,g3,hfs⟩:=(HEA.out.below HBR.out).cellsAt (k:=i) (by rw[HLA.out.el];exact HIA.out)
   have HFS:Hid (zqa wx (.agg #[.bool ts, .slice as1 ls1 ks1, .slice as2 ls2 ks2]) (exQ l i)):=zH hfs
   have HFK:=zH (HKV.out.below HBR.out)
   have HLX:=zH (HEF.out i HIA.out)
   obtain⟨-,c0,c1,c2,c3,-,-,-,-⟩:=HC1.out.belowS HBR.out
   obtain⟨_,q1,q2,q3,_,_,_⟩:=HCK.out.belowS HBR.out
   have S0:=zH (And.intro c1 (And.intro c3 (And.intro g1 (And.intro g2 (And.intro g3 (And.intro q1 (And.intro q2 q3)))))))
   go_upto_region 5 with fail
   clear c0 c1 c2 c3 g1 g2 g3 hfs q1 q2 q3
   go_cut [7,8] (fun u12 u13 wy=>∃ (b12:Nat) (t':Bool) (a1:Option Addr) (l1 k1:Nat) (a2:Option Addr) (l2 k2:Nat),u12= .pointer (some ⟨b12,0,none⟩)∧u13= .int .i64 0∧C3 wy b12 (.bool t') (.slice a1 l1 k1) (.slice a2 l2 k2)∧zqa wy (.agg #[.bool t', .slice a1 l1 k1, .slice a2 l2 k2]) (K*exQ l i)∧Below wx.heap.size wx wy)
   case first =>
    go_region_held3 (fun w'=>w'.cell? ⟨w.heap.size,1,none⟩=some (.slice saA n skA)∧w'.cell? ⟨w.heap.size,3,none⟩=some (.slice eaA n ekA)∧w'.cell? (ptr (.slice eaA n ekA) (i*3))=some (.bool ts)∧w'.cell? (ptr (.slice eaA n ekA) (i*3+1))=some (.slice as1 ls1 ks1)∧w'.cell? (ptr (.slice eaA n ekA) (i*3+2))=some (.slice as2 ls2 ks2)∧w'.cell? ⟨w.heap.size+1,0,none⟩=some (.bool tk)∧w'.cell? ⟨w.heap.size+1,1,none⟩=some (.slice p1 p2 p3)∧w'.cell? ⟨w.heap.size+1,2,none⟩=some (.slice p4 p5 p6)∧Below wx.heap.size wx w') (first
     | with_reducible exact kp8a S0.out (zja _)
     | with_reducible exact kp8w (by assumption) (zca _ _)
     | with_reducible exact kp8w (by assumption) (by assumption)
     | with_reducible exact kp8a S0.out (zaa hB32 (zca _ _))
     | with_reducible exact kp8s S0.out hB32 (Nat.le_refl _) _ _ _
     | with_reducible exact kp8s S0.out (zaa hB32 (zca _ _)) hB32.size _ _ _) (first
     |(go_at_call 10;(with_reducible refine(ziq _ _ K (exQ l i) _ (HFK.out.below (kp8c (by assumption))) (HFS.out.below (kp8c (by assumption))) HKF.out HLX.out.1 HLX.out.2).mono ?_);rintro e32 w32 ⟨v32,rfl,hv32,hb32⟩
       obtain⟨t32,x32,y32,rfl,⟨a321,l321,k321,rfl,_⟩,⟨a322,l322,k322,rfl,_⟩⟩:=hv32.isF
       have hB32:=zaa (kp8c (by assumption)) hb32
       have hc6:=(fun(p:Addr) hp=>hb32.cell (p:=p) hp)
       have hf6:=(fun(p:Addr) hp=>hb32.frozen (p:=p) hp)
       have zq2:=hb32.size
       (try simp only[zfk,zvo]at zq2)
       (try have z2:wx.heap.size<w32.heap.size:=(by omega))))
    all_goals
     have hE:=kp8c (by assumption)
     go_wp2_with fail
     go_meet
     case rel=>
      first
       | exact⟨_,_,_,_,_,_,_,_,rfl,rfl,C3.new w32 _ _ _ _,hv32.below (zca _ _),hE⟩
       | exact⟨_,_,_,_,_,_,_,_,rfl,rfl,((C3.newB (b:=wx.heap.size) wx.drew 32 (.bool false) (.slice none 0 0) (.slice none 0 0) rfl).belowS hb32).set _ _ _,hv32.set3 ((C3.newB (b:=wx.heap.size) wx.drew 32 (.bool false) (.slice none 0 0) (.slice none 0 0) rfl).belowS hb32) (fun z=>by simp) (fun z=>by simp) _ _ _,hE⟩
   case rest=>
    obtain⟨b12,t12,a121,l121,k121,a122,l122,k122,rfl,rfl,hc,hf,hb6⟩:=hcut
    obtain⟨W7,hw3⟩:∃w3,w3=wc:=⟨_,rfl⟩
    subst hw3
    have HC12:=zH hc
    have HF12:=zH hf
    have HFW7:=zH (HFW.out.below hb6)
    have HC57:=zH (HC5.out.belowS hb6)
    have HB7:=zH (zfa HBR.out hb6 HBR.out.size)
    have hlen:(zib i (fun i=>K*exQ l i)).length≤1000:=by rw[zea];omega
    have hsz:=HFW7.out.m.sz
    have hfe:=HFW7.out.e
    obtain⟨_,r0,r1,r2,_,_,_⟩:=HC12.out
    obtain⟨-,d0,d1,d2,d3,-,-,-,-⟩:=HC57.out
    clear hc hf hb6 S0 HFS HFK HFW HC5 HBR
    go_wp2_with (first
     |(at_builtin;refine hAP _ rfl _ _ rfl W5.heap.size _ (.slice m1 m2 m3) (zib i (fun i=>K*exQ l i)) rfl hfe _ _ _ (K*exQ l i) HF12.out rfl hlen hsz ?_;intro v50 w50 ho50 hg50 hn50 hq50 sv50
       have HPE:=zH (HFW7.out.pushE n1 ho50 hg50 hn50 hq50)
       have HC50:=zH (HC57.out.below HPE.out.2 HLT5.out)
       clear r0 r1 r2 d0 d1 d2 d3
       obtain⟨-,d0,d1,d2,d3,f0,f1,f2,f3⟩:=HC50.out
       obtain⟨x1,x2,x3,rfl,_⟩:=id sv50
       clear ho50 hg50 hn50 hq50))
    have HFX:Hid (FaW (w50.setCell ⟨b5,3,none⟩ (.slice x1 x2 x3)) W5.heap.size (.slice x1 x2 x3) (.slice o1 o2 o3) rs n (i+1) (fun i=>K*exQ l i) (fun i j=>K*rtQ l i j)):=zH (HPE.out.1.moves (zhb.set (B:=W5.heap.size) (p:=⟨b5,3,none⟩) HLT5.out HC50.out.c3 (fun z=>by simp) _))
    have HCX:=zH (HC50.out.setX (.slice x1 x2 x3)).1
    have HBX:Hid (Below W2.heap.size W2 (w50.setCell ⟨b5,3,none⟩ (.slice x1 x2 x3))):=zH (((HB7.out.trans (HPE.out.2.mono (by rw[HE5.out];exact Nat.le_of_lt HLT5.out)))).setCell (p:=⟨b5,3,none⟩) (by rw[HE5.out];exact Nat.le_refl _) _)
    generalize w50.setCell ⟨b5,3,none⟩ (.slice x1 x2 x3)=W8 at *
    clear d0 d1 d2 d3 f0 f1 f2 f3 HPE HC50 HB7 HC57 HFW7 HC12 HF12 HLX hfe hsz
    have hi1:i<l.rates.length:=by rw[HLA.out.rl];exact HIA.out
    obtain⟨row,hcr,hrow⟩:=HRA.out.at' i hi1
    obtain⟨ra,rn,rk,rfl,_⟩:=id hrow.sl
    have hrl2:(l.rates[i]'hi1).length=n:=(HLA.out.row i hi1).1.trans HNA.out
    obtain rfl:n=rn:=(hrow.len.trans hrl2).symm
    have HROW:=zH (hrow.below HBX.out)
    have HRL2:=zH hrl2
    have srow:=hrow.sl
    have HCR:=zH (zba HBX.out hcr)
    have HRG:Hid (l.rates.getD i []=l.rates[i]'hi1):=zH (by rw[List.getD_eq_getElem?_getD,List.getElem?_eq_getElem hi1];rfl)
    clear hcr hrow hrl2
    go_wp2_with fail
    go_loopg [9,10] (n) (fun g u9 u10 wi=>∃ (j:Nat),j≤n∧g=n-j∧u10= .int .i64 j∧zya wi 32 W8.heap.size u9 (zib j (fun j=>K*rtQ l i j))∧Below W8.heap.size W8 wi)
    case atStart=>exact⟨0,Nat.zero_le _,rfl,rfl,zya.nil _ _ _,Below.refl _ _⟩
    case round=>
     obtain⟨j,hjn,hgj,rfl,hfr,hbi⟩:=hrel
     obtain⟨W11,hw9⟩:∃w6,w6=wr:=⟨_,rfl⟩
     subst hw9
     have HGJ:=zH hgj
     have HFR:=zH hfr
     have HBI:=zH hbi
     have HB2:=zH (zfa HBX.out hbi HBX.out.size)
     have s9:=hfr.sl
     obtain⟨-,c0,c1,c2,c3,-,-,-,-⟩:=HC1.out.belowS HB2.out
     have hri:=zba HBI.out HCR.out
     clear hgj hfr hbi
     by_cases hjl:j<n
     ·have j1:(0:Int)≤(j:Int):=by omega
      have j2:(j:Int)<(n:Nat):=by omega
      have hkr:j<(l.rates[i]'hi1).length:=by rw[HRL2.out];exact hjl
      obtain⟨ts,as1,ls1,ks1,as2,ls2,ks2,g1,g2,g3,hfs⟩:=(HROW.out.below HBI.out).cellsAt (k:=j) hkr
      have hxe:(l.rates[i]'hi1).getD j 0=rtQ l i j:=by unfold rtQ;rw[HRG.out]
      rw[hxe]at hfs
      have HFS:=zH hfs
      have HFK:=zH (HKV.out.below HB2.out)
      have HLX:=zH (HSF.out i j HIA.out (by rw[HNA.out];exact hjl))
      obtain⟨_,q1,q2,q3,_,_,_⟩:=HCK.out.belowS HB2.out
      have S0:=zH (And.intro c2 (And.intro hri (And.intro g1 (And.intro g2 (And.intro g3 (And.intro q1 (And.intro q2 q3)))))))
      go_upto_region 11 with fail
      clear c0 c1 c2 c3 hri g1 g2 g3 hfs hxe q1 q2 q3
      go_cut [11,12] (fun u12 u13 wy=>∃ (b12:Nat) (t':Bool) (a1:Option Addr) (l1 k1:Nat) (a2:Option Addr) (l2 k2:Nat),u12= .pointer (some ⟨b12,0,none⟩)∧u13= .int .i64 0∧C3 wy b12 (.bool t') (.slice a1 l1 k1) (.slice a2 l2 k2)∧zqa wy (.agg #[.bool t', .slice a1 l1 k1, .slice a2 l2 k2]) (K*rtQ l i j)∧Below W11.heap.size W11 wy)
      case first =>
       go_region_held3 (fun w'=>w'.cell? ⟨w.heap.size,2,none⟩=some (.slice raA n rkA)∧w'.cell? (ptr (.slice raA n rkA) i)=some (.slice ra n rk)∧w'.cell? (ptr (.slice ra n rk) (j*3))=some (.bool ts)∧w'.cell? (ptr (.slice ra n rk) (j*3+1))=some (.slice as1 ls1 ks1)∧w'.cell? (ptr (.slice ra n rk) (j*3+2))=some (.slice as2 ls2 ks2)∧w'.cell? ⟨w.heap.size+1,0,none⟩=some (.bool tk)∧w'.cell? ⟨w.heap.size+1,1,none⟩=some (.slice p1 p2 p3)∧w'.cell? ⟨w.heap.size+1,2,none⟩=some (.slice p4 p5 p6)∧Below W11.heap.size W11 w') (first
        | with_reducible exact kp8a S0.out (zja _)
        | with_reducible exact kp8w (by assumption) (zca _ _)
        | with_reducible exact kp8w (by assumption) (by assumption)
        | with_reducible exact kp8a S0.out (zaa hB32 (zca _ _))
        | with_reducible exact kp8s S0.out hB32 (Nat.le_refl _) _ _ _
        | with_reducible exact kp8s S0.out (zaa hB32 (zca _ _)) hB32.size _ _ _) (first
        |(go_at_call 10;(with_reducible refine(ziq _ _ K (rtQ l i j) _ (HFK.out.below (kp8c (by assumption))) (HFS.out.below (kp8c (by assumption))) HKF.out HLX.out.1 HLX.out.2).mono ?_);rintro e32 w32 ⟨v32,rfl,hv32,hb32⟩
          obtain⟨t32,x32,y32,rfl,⟨a321,l321,k321,rfl,_⟩,⟨a322,l322,k322,rfl,_⟩⟩:=hv32.isF
          have hB32:=zaa (kp8c (by assumption)) hb32
          have hc6:=(fun(p:Addr) hp=>hb32.cell (p:=p) hp)
          have hf6:=(fun(p:Addr) hp=>hb32.frozen (p:=p) hp)
          have zq2:=hb32.size
          (try simp only[zfk,zvo]at zq2)
          (try have z2:W11.heap.size<w32.heap.size:=(by omega))))
       all_goals
        have hE:=kp8c (by assumption)
        go_wp2_with fail
        go_meet
        case rel=>
         first
          | exact⟨_,_,_,_,_,_,_,_,rfl,rfl,C3.new w32 _ _ _ _,hv32.below (zca _ _),hE⟩
          | exact⟨_,_,_,_,_,_,_,_,rfl,rfl,((C3.newB (b:=W11.heap.size) W11.drew 32 (.bool false) (.slice none 0 0) (.slice none 0 0) rfl).belowS hb32).set _ _ _,hv32.set3 ((C3.newB (b:=W11.heap.size) W11.drew 32 (.bool false) (.slice none 0 0) (.slice none 0 0) rfl).belowS hb32) (fun z=>by simp) (fun z=>by simp) _ _ _,hE⟩
      case rest=>
       obtain⟨b12,t12,a121,l121,k121,a122,l122,k122,rfl,rfl,hc,hf,hb6⟩:=hcut
       obtain⟨W12,hw3⟩:∃w3,w3=wc:=⟨_,rfl⟩
       subst hw3
       have HC12:=zH hc
       have HF12:=zH hf
       have HFR12:=zH (HFR.out.moves (zhb.below (B:=W8.heap.size) hb6) (Nat.le_refl _))
       have HB12:=zH (zaa HBI.out hb6)
       have hlen2:(zib j (fun j=>K*rtQ l i j)).length≤1000:=by rw[zea];omega
       have hsz:=HB12.out.size
       obtain⟨_,r0,r1,r2,_,_,_⟩:=HC12.out
       clear hc hf hb6 S0 HFS HFK
       go_wp2_with (first
        |(at_builtin;refine hAP _ rfl _ _ rfl W8.heap.size _ u9 (zib j (fun j=>K*rtQ l i j)) rfl HFR12.out _ _ _ (K*rtQ l i j) HF12.out rfl hlen2 hsz ?_;intro v50 w51 ho50 hg50 hn50 hq50 sv50
          have hbg:=zid hg50 hsz HFR12.out.block
          have HB50:=zH (HB12.out.trans hbg)
          have HO50:=zH ho50
          clear hbg hg50 hn50 hq50 ho50))
       go_roundg (n- (j+1))
       case measure=>(have:=HGJ.out;omega)
       case rel=>
        refine⟨j+1,by omega,rfl,by go_num,?_,HB50.out⟩
        rw[←zlk]
        exact HO50.out
     ·obtain rfl:n=j:=by omega
      obtain⟨q1,q2,q3,rfl,_⟩:=id s9
      have HF9:=zH (HFX.out.below HBI.out)
      have HC9:=zH (HCX.out.belowS HBI.out)
      have hrs1:rs.length≤1000:=by rw[HRS.out];omega
      have hsz9:=HF9.out.m.sz
      have sra:=HF9.out.m.ra
      have hvb:∀k,(Value.slice x1 x2 x3).ownBlock=some k→k<W8.heap.size:=fun k hk=>(HFX.out.e.block k hk).2
      have HVB:=zH hvb
      have HSW:=zH HFX.out.m.sz
      obtain⟨-,d0,d1,d2,d3,f0,f1,f2,f3⟩:=HC9.out
      clear hvb
      go_wp2_with (first
       |(at_builtin;refine hAR _ rfl _ _ rfl W5.heap.size _ (.slice o1 o2 o3) rs rfl sra (.slice q1 q2 q3) rfl (fun z=>by simp) rfl hrs1 hsz9 ?_;intro v60 w60 ho60 hg60 hn60 hq60 sv60
         have HPU:=zH (HF9.out.pushR n1 (Nat.succ_pos i) (by rw[HRS.out];exact HFR.out) HVB.out HSW.out ho60 hg60 hn60)
         have HC60:=zH (HC9.out.below HPU.out.2 HLT5.out)
         obtain⟨y1,y2,y3,rfl,_⟩:=id sv60
         clear d0 d1 d2 d3 f0 f1 f2 f3
         obtain⟨-,d0,d1,d2,d3,f0,f1,f2,f3⟩:=HC60.out
         clear ho60 hg60 hn60 hq60))
      go_roundg (n- (i+1))
      case measure=>(have:=HG.out;omega)
      case rel=>
       refine⟨i+1,_,_,_,by omega,rfl,by go_num,(HC60.out.setX _).2,HPU.out.1.moves (zhb.set (B:=W5.heap.size) (p:=⟨b5,2,none⟩) HLT5.out HC60.out.c2 (fun z=>by simp) (.slice y1 y2 y3)),by simp[HRS.out],?_⟩
       refine Below.setCell ?_ (p:=⟨b5,2,none⟩) (by rw[HE5.out];exact Nat.le_refl _) _
       exact(zfa HBX.out HBI.out HBX.out.size).trans (HPU.out.2.mono (by rw[HE5.out];exact Nat.le_of_lt HLT5.out))
  ·obtain rfl:n=i:=by omega
   obtain⟨m1,m2,m3,rfl,_⟩:=id svE
   obtain⟨o1,o2,o3,rfl,_⟩:=id svR
   have HTX:=zH (HC3.out.belowS HBR.out)
   have HBZ:=zH (zaa HBW.out HBR.out)
   obtain⟨-,c0,c1,c2,c3,-,-,-,-⟩:=HC5.out
   obtain⟨-,e0,e1,e2,e3,-,-,-,-⟩:=HC1.out.belowS HBR.out
   obtain⟨-,d0,d1,d2,d3,f0,f1,f2,f3⟩:=HTX.out
   go_wp2_with fail
   have hb4:=zqd HBZ.out (b:=w.heap.size+1+1) (Nat.le_succ_of_le (Nat.le_succ _)) (.string { data:=#[] }) (.slice saA n skA) (.slice o1 o2 o3) (.slice m1 m2 m3)
   refine zvl rfl rfl Try.aggL Try.sizeL (HTX.out.set _ _ _ _) rfl ?_
   have HFY:=zH (HFW.out.set4 HTX.out (by have h1:=HC3.out.lt;have h2:=HLT5.out;have h3:=HE5.out;omega) (.string { data:=#[] }) (.slice saA n skA) (.slice o1 o2 o3) (.slice m1 m2 m3))
   exact⟨_,rfl,HFY.out.law HLA.out HNA.out HRS.out (HS0.out.below hb4),hb4⟩
end Go.Proofs.Ytlpdkbmmbdfoiaa
