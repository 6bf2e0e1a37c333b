/-
  package phase: Moment, of a valid law.
-/
import Derived.Test.YtlpdkbmmbdfoiaaGPh13
import Derived.Test.YtlpdkbmmbdfoiaaGTl1
import Derived.Test.YtlpdkbmmbdfoiaaGPp4
set_option linter.unusedVariables false
set_option linter.unusedSimpArgs false
namespace Go.Proofs.Ytlpdkbmmbdfoiaa
open Go.RowKit
def zem :Nat→Nat
 | 0=>1
 | n+1=>zem n*(n+1)
def zfo (l:LQ) (n:Nat):Rat:=zvn l.start (zib l.start.length (zpm l n)) l.start.length*fq false (zem n) 1
theorem fact_wrap :∀m,m<3→wrap64 ((zem m:Nat)*((m+1:Nat):Int))=(zem (m+1):Nat):=by
 intro m hm
 rcases(show m=0∨m=1∨m=2 by omega)with rfl | rfl | rfl<;>decide+kernel
set_option maxRecDepth 100000 in
set_option maxHeartbeats 6400000 in
theorem zpo (va:Value) (l:LQ) (n:Nat) (w:World) (ha:zhm w va l) (hl:zxb l) (h1:1≤n) (h3:n≤3) (hp:MomP l n (zem n)):Calls Try.prog 21 #[va, .int .i64 (n:Nat)] w (RF0 w (zfo l n)):=by
 obtain⟨i3,hi3,hz3,hs3,hy3⟩:=info_parts Try.infoF
 have hAP:=fun{ops:Array Oper} {o:Oper} {a:Act} {w:World} {K:Act→World→Prop} {Q:Exit→Act→World→Prop} {E:Prop}=>zcg (P:=Try.prog) 23 32 i3 Try.underlying23 hi3 hz3 hs3 hy3 (ops:=ops) (o:=o) (a:=a) (w:=w) (K:=K) (Q:=Q) (E:=E)
 have hM:=zon (P:=Try.prog) 23 32 i3 Try.underlying23 hi3 hz3 hs3 (by rw[hy3];decide)
 obtain⟨i4,hi4,hz4,hs4,hy4⟩:=info_parts Try.infoRow
 have hMR:=zbi (P:=Try.prog) 24 23 i4 Try.underlying24 hi4 hz4 hs4 hy4
 clear hi3 hz3 hs3 hy3 hi4 hz4 hs4 hy4
 obtain⟨nm,sv,rv,ev,rfl,hs,hr,he⟩:=id ha
 obtain⟨ra,rn,rk,rfl,_⟩:=id hr.sl
 obtain⟨sa,sn,sk,rfl,_⟩:=id hs.sl
 obtain⟨ea,en,ek,rfl,_⟩:=id he.sl
 have hba:=zca w (.cells #[nm, .slice sa sn sk, .slice ra rn rk, .slice ea en ek] 26)
 have hbb:=zca (w.alloc (.cells #[nm, .slice sa sn sk, .slice ra rn rk, .slice ea en ek] 26)) (.cells #[.bool false, .slice none 0 0, .slice none 0 0] 32)
 have HC:=zH ((C4.new w 26 nm (.slice sa sn sk) (.slice ra rn rk) (.slice ea en ek)).belowS hbb)
 have HT:=zH (C3.newB (b:=w.heap.size+1) (w.alloc (.cells #[nm, .slice sa sn sk, .slice ra rn rk, .slice ea en ek] 26)) 32 (.bool false) (.slice none 0 0) (.slice none 0 0) (by show(w.heap.push _).size=_;rw[Array.size_push]))
 have HBW:=zH (zaa hba hbb)
 have HA:=zH (ha.below HBW.out)
 have HR:=zH (hr.below HBW.out)
 have HS:=zH (hs.below HBW.out)
 have hsn:sn=l.start.length:=hs.len
 have hrn:rn=l.start.length:=hr.len.trans hl.rl
 obtain⟨N,hnn⟩:∃n,l.start.length=n:=⟨_,rfl⟩
 have HN:=zH hnn
 rw[hnn]at hsn hrn
 have n4:N≤4:=by rw[←hnn];exact hl.n4
 have n1:1≤N:=by rw[←hnn];exact hl.n1
 obtain rfl:sn=N:=hsn
 obtain rfl:rn=sn:=hrn
 have HL:=zH hl
 have HP:=zH hp
 have srt:=hr.sl
 have sxt:=hs.sl
 have h13:decide ((n:Int)<1)=false:=decide_eq_false (by omega)
 have h33:decide ((3:Int)<(n:Int))=false:=decide_eq_false (by omega)
 have HH3:=zH h3
 clear hs hr he ha hl hp hba hbb hnn
 go_enter Try.func21,Try.ntmps21
 go_upto_region 1 with fail
 generalize (w.alloc (.cells #[nm, .slice sa rn sk, .slice ra rn rk, .slice ea en ek] 26)).alloc (.cells #[.bool false, .slice none 0 0, .slice none 0 0] 32)=W2 at *
 obtain⟨_,c0,c1,c2,c3,_⟩:=HC.out
 go_wp2_with (first
  |(go_at_call 22;(with_reducible refine(zbh _ l _ HA.out HL.out).mono ?_);rintro e4 w4 ⟨rfl,hb4⟩
    have HB4:=zH hb4
    have c0:=zba hb4 c0
    have c1:=zba hb4 c1
    have c2:=zba hb4 c2
    have c3:=zba hb4 c3
    clear hb4)
  |(refine hMR w4 rfl _ _ rfl w4.heap.size _ rn rfl rfl rfl (by omega) (Nat.le_refl _) ?_;intro vO w5 hO5 hb5
    have HO5:=zH (zrj.start hO5)
    have HB5:=zH hb5
    have slO:=hO5.sl
    have lnO:=hO5.len
    have c0:=zba hb5 c0
    have c1:=zba hb5 c1
    have c2:=zba hb5 c2
    have c3:=zba hb5 c3
    clear hO5 hb5)
  |(refine hM w5 rfl _ _ rfl w4.heap.size _ rn rfl rfl rfl (by omega) HB5.out.size ?_;intro vX w6 hX6 hb6 hvX
    have HX6:=zH (zec.start hX6 (fun _=>1))
    have hMX:MX w6 w4.heap.size vO (List.replicate rn (.slice none 0 0)) rn (fun _=> []) vX (fun _=>1) (fun j=>j<0):=⟨HO5.out.below hb6,HX6.out,fun i hi=>Or.inl (by rw[List.getElem_replicate];rfl),Nat.le_trans HB5.out.size hb6.size⟩
    have HMX:=zH hMX
    have HB6:=zH (zfa HB5.out hb6 HB5.out.size)
    have slX:=hX6.sl
    have lnX:=hX6.len
    clear hX6 hb6 hMX hvX))
 clear hM hMR HO5 HB5 HX6 c0 c1 c2 c3
 have HLE:Hid (W2.heap.size≤w4.heap.size):=zH HB4.out.size
 go_loopg [38] (rn) (fun g u38 wr=>∃ (i:Nat) (rs:List Value),i≤rn∧g=rn-i∧u38= .int .i64 i∧MX wr w4.heap.size vO rs rn (fun k=>if k<i then zib rn (phA l k)else []) vX (fun _=>1) (fun j=>j<i)∧Below w4.heap.size w4 wr)
 case atStart=>exact⟨0,_,Nat.zero_le _,rfl,rfl,HMX.out,HB6.out⟩
 case round=>
  obtain⟨i,rs,hin,hg,rfl,hm,hbr⟩:=hrel
  obtain⟨wb,hwb⟩:∃wb,wb=wr:=⟨_,rfl⟩
  subst hwb
  have HG:=zH hg
  have HM:=zH hm
  have HBR:=zH hbr
  clear hg hm hbr HMX HB6
  by_cases hil:i<rn
  ·have i1:(0:Int)≤(i:Int):=by omega
   have i2:(i:Int)<(rn:Nat):=by omega
   go_upto_region 12 with(first
    |(go_at_call 23
      (
       (with_reducible refine(zxk _).mono ?_);rintro e7 w7 ⟨v7,rfl,hv7,hb7⟩
       obtain⟨t7,x7,y7,rfl,⟨a71,l71,k71,rfl,_⟩,⟨a72,l72,k72,rfl,_⟩⟩:=hv7.isF
       have hm7:=HM.out.below hb7
       obtain⟨q0,q1,q2,d0,d1,d2,f0,f1,f2,n01,n02,n12⟩:=hm7.x.slots hil
       have hput:=hm7.putX hil hv7
       have HPX:=zH hput.1
       have HBX:=zH ((zfa HBR.out hb7 HBR.out.size).trans hput.2)
       clear hm7 hput hb7 hv7)))
   clear d0 d1 d2 f0 f1 f2 n01 n02 n12
   generalize ((w7.setCell (ptr vX (i*3)) (.bool t7)).setCell (ptr vX (i*3+1)) (.slice a71 l71 k71)).setCell (ptr vX (i*3+2)) (.slice a72 l72 k72)=X7 at *
   have HM8:Hid (MX X7 w4.heap.size vO rs rn (fun k=>if k<i then zib rn (phA l k)else []) vX (fun _=>1) (fun j=>j<i+1)):=zH ⟨HPX.out.t,HPX.out.x.succ,HPX.out.ne,HPX.out.sz⟩
   clear HPX HM HBR
   have HB4X:Hid (Below W2.heap.size W2 X7):=zH (HB4.out.trans (HBX.out.mono HLE.out))
   obtain⟨_,c0,c1,c2,c3,_⟩:=HC.out.belowS HB4X.out
   have hi1:i<l.rates.length:=by rw[HL.out.rl,HN.out];exact hil
   obtain⟨row,hc0,hrow⟩:=HR.out.at' i hi1
   obtain⟨o1,o2,o3,rfl,_⟩:=id hrow.sl
   have hrl2:(l.rates[i]'hi1).length=rn:=(HL.out.row i hi1).1.trans HN.out
   have ho2:o2=rn:=hrow.len.trans hrl2
   subst ho2
   have HROW:=zH hrow
   have HRL2:=zH hrl2
   have srow:=hrow.sl
   have hc0:=zba HB4X.out hc0
   have hrg:l.rates.getD i []=l.rates[i]'hi1:=by rw[List.getD_eq_getElem?_getD,List.getElem?_eq_getElem hi1];rfl
   have HRG:=zH hrg
   clear hrow hrl2 hrg
   go_wp2_with fail
   clear hc0 c0 c1 c2 c3
   go_loopg [51] (o2) (fun g u51 wr=>∃ (k:Nat) (rs:List Value),k≤o2∧g=o2-k∧u51= .int .i64 k∧MX wr w4.heap.size vO rs o2 (fun t=>if t<i then zib o2 (phA l t)else if t=i then zib k (phA l i)else []) vX (fun _=>1) (fun j=>j<i+1)∧Below w4.heap.size w4 wr)
   case atStart=>exact⟨0,rs,Nat.zero_le _,rfl,rfl,HM8.out.congr (fun k hk=>by
    by_cases h1:k<i
    ·rw[if_pos h1,if_pos h1]
    ·rw[if_neg h1,if_neg h1];split<;>rfl),HBX.out⟩
   case round=>
    obtain⟨k,rs,hkn,hgk,rfl,hmk,hbk⟩:=hrel
    obtain⟨w8,hw8⟩:∃wb,wb=wr:=⟨_,rfl⟩
    subst hw8
    have HGK:=zH hgk
    have HMK:=zH hmk
    have HBK:=zH hbk
    have HBW8:Hid (Below W2.heap.size W2 w8):=zH (HB4.out.trans (HBK.out.mono HLE.out))
    clear hgk hmk hbk HM8 HBX HB4X
    by_cases hkl:k<o2
    ·have j1:(0:Int)≤(k:Int):=by omega
     have j2:(k:Int)<(o2:Nat):=by omega
     have hkr:k<(l.rates[i]'hi1).length:=by rw[HRL2.out];exact hkl
     obtain⟨ts,as1,ls1,ks1,as2,ls2,ks2,g1,g2,g3,hfs⟩:=(HROW.out.below HBW8.out).cellsAt (k:=k) hkr
     have hxe:(l.rates[i]'hi1).getD k 0=rtQ l i k:=by unfold rtQ;rw[HRG.out]
     rw[hxe]at hfs
     have HLX:Hid (zvg (rtQ l i k)):=zH (HL.out.rt_lim (by rw[HN.out];exact hil) (by rw[HN.out];exact hkl))
     obtain⟨x,hx⟩:∃x,rtQ l i k=x:=⟨_,rfl⟩
     have HXE:=zH hx
     rw[hx]at hfs HLX
     have hb11:=zca w8 (.cells #[.bool ts, .slice as1 ls1 ks1, .slice as2 ls2 ks2] 32)
     have HC11:=zH (C3.new w8 32 (.bool ts) (.slice as1 ls1 ks1) (.slice as2 ls2 ks2))
     have HF11:=zH (hfs.below hb11)
     have HM11:=zH (HMK.out.below hb11)
     have HB11:=zH (zfa HBK.out hb11 HBK.out.size)
     obtain⟨b11,hb11e⟩:∃b,w8.heap.size=b:=⟨_,rfl⟩
     have HBE:=zH hb11e
     clear hx hxe hfs hb11 hb11e HMK HBK HBW8
     go_upto_region 15 with fail
     clear g1 g2 g3
     rw[HBE.out]at HC11 ⊢
     clear HBE
     generalize w8.alloc (.cells #[.bool ts, .slice as1 ls1 ks1, .slice as2 ls2 ks2] 32)=W9 at *
     have hi9:i<rs.length:=by rw[HM11.out.t.rl];exact hil
     have s2:=HM11.out.t.own.cell i hi9
     obtain⟨e1,e2,e3,ho,_⟩:=(HM11.out.t.row i hi9).sl
     rw[ho]at s2
     have HOO:=zH ho
     obtain⟨_,d0,d1,d2,_,_,_⟩:=HC11.out
     have hbD:=zja (B:=W9.heap.size) W9
     have HMD:=zH (HM11.out.below hbD)
     have HBD:=zH (zfa HB11.out hbD HB11.out.size)
     have HFD:=zH (HF11.out.below hbD)
     clear ho
     refine wpL.start 10 (fun w'=>w'.cell? (ptr vO i)=some (.slice e1 e2 e3)∧w'.cell? ⟨b11,0,none⟩=some (.bool ts)∧w'.cell? ⟨b11,1,none⟩=some (.slice as1 ls1 ks1)∧w'.cell? ⟨b11,2,none⟩=some (.slice as2 ls2 ks2)) (by kernel_rfl) ⟨zba hbD s2,zba hbD d0,zba hbD d1,zba hbD d2⟩ (fun hHeld=> ?_)
     clear hbD s2 d0 d1 d2 HM11 HB11 HF11
     generalize W9.drew=wd at *
     refine wpL.u 0 ?_
     refine wpL.u 1 ?_
     refine wpL.t 2 ?_
     refine wpL.t 3 ?_
     refine wpL.t 4 ?_
     refine wpL.t 5 ?_
     refine wpL.t 7 ?_
     (refine wpL.oo 6 ?_;intro K hK)
     refine zxa 23 #[.int .i64 0] ?_ ?_ (zqe wd) ?_
     ·rfl
     ·go_simp
     rintro e6 w6 ⟨v6,rfl,hv6,hb6⟩
     obtain⟨t6,x6,y6,rfl,⟨a61,l61,k61,rfl,_⟩,⟨a62,l62,k62,rfl,_⟩⟩:=hv6.isF
     have hH6:=And.intro (zba hb6 hHeld.1) (And.intro (zba hb6 hHeld.2.1) (And.intro (zba hb6 hHeld.2.2.1) (zba hb6 hHeld.2.2.2)))
     refine⟨_,rfl,?_⟩
     refine hK.out _ _ (fun _=>hH6) ?_
     clear hK K hHeld
     try simp only[Act.put,List.setIfInBounds_toArray,List.set_cons_zero,List.set_cons_succ]
     (refine wpL.oo 8 ?_;intro K hK)
     have HFT:=HFD.out.below hb6
     have HFZ:fits (0-x):=by
      have h:=HLX.out.fits
      rw[Rat.sub_eq_add_neg,Rat.zero_add]
      exact⟨by rw[Rat.neg_num,Int.natAbs_neg];exact h.1,h.2⟩
     refine zxa 26 #[.agg #[.bool t6, .slice a61 l61 k61, .slice a62 l62 k62], .agg #[.bool ts, .slice as1 ls1 ks1, .slice as2 ls2 ks2]] ?_ ?_ (zyi _ _ 0 x w6 hv6 HFT zkl HLX.out.fits HFZ) ?_
     ·rfl
     ·go_simp
     rintro e8 w8' ⟨v8,rfl,hv8,hb8⟩
     obtain⟨t8,x8,y8,rfl,⟨a81,l81,k81,rfl,_⟩,⟨a82,l82,k82,rfl,_⟩⟩:=hv8.isF
     have hH8:=And.intro (zba hb8 hH6.1) (And.intro (zba hb8 hH6.2.1) (And.intro (zba hb8 hH6.2.2.1) (zba hb8 hH6.2.2.2)))
     refine⟨_,rfl,?_⟩
     refine hK.out _ _ (fun _=>hH8) ?_
     clear hK K
     try simp only[Act.put,List.setIfInBounds_toArray,List.set_cons_zero,List.set_cons_succ]
     (refine wpL.oo 9 ?_;intro K hK)
     rw[if_pos (by rfl)]
     go_simp
     have hb9:=zca w8' (.cells #[.bool t8, .slice a81 l81 k81, .slice a82 l82 k82] 32)
     have hVB:=zjf.new w8' #[.bool t8, .slice a81 l81 k81, .slice a82 l82 k82] 32
     have hH9:=And.intro (zba hb9 hH8.1) (And.intro (zba hb9 hH8.2.1) (And.intro (zba hb9 hH8.2.2.1) (zba hb9 hH8.2.2.2)))
     refine hK.out _ _ (fun _=>hH9) ?_
     clear hK K
     try simp only[Act.put,List.setIfInBounds_toArray,List.set_cons_zero,List.set_cons_succ]
     have hv9:=hv8.below hb9
     have hM9:=((HMD.out.below hb6).below hb8).below hb9
     have hB9:=zfa (zfa (zfa HBD.out hb6 HBD.out.size) hb8 (Nat.le_trans HBD.out.size hb6.size)) hb9 (Nat.le_trans HBD.out.size (Nat.le_trans hb6.size hb8.size))
     have hsz9:=hM9.sz
     generalize hw9:w8'.alloc (.cells #[.bool t8, .slice a81 l81 k81, .slice a82 l82 k82] 32)=w9 at *
     clear hw9 hH9 hH8 hH6 HFT HFZ
     have hro:=hM9.t.row i hi9
     rw[HOO.out,if_neg (Nat.lt_irrefl i),if_pos rfl]at hro
     have hlen9:(zib k (phA l i)).length≤1000:=by rw[zea];omega
     (refine wpL.oo 10 ?_;intro K hK)
     refine hAP rfl _ _ (by rfl) w4.heap.size (.slice e1 e2 e3) (zib k (phA l i)) (by rfl) hro (.bool t8) (.slice a81 l81 k81) (.slice a82 l82 k82) (0-x) hv9 w8'.heap.size (by rfl) hVB hlen9 hsz9 ?_
     intro v10 w10 hf10 hg10 hn10 ho10
     obtain⟨y1,y2,y3,rfl,_⟩:=id hf10.sl
     refine hK.out _ _ (fun h=>by first | cases h | simp at h) ?_
     clear hK K
     try simp only[Act.put,List.setIfInBounds_toArray,List.set_cons_zero,List.set_cons_succ]
     have hnO:vO.ownBlock=none∨vO.ownBlock≠(Value.slice e1 e2 e3).ownBlock:=by
      obtain⟨ys,y1,y2⟩:=hro
      exact hM9.t.own.kinds y1 (by decide)
     have hown10:=hM9.t.own.grown hg10 hnO
     have c10:w10.cell? (ptr vO i)=some (.slice e1 e2 e3):=by rw[hown10.cell i hi9,HOO.out]
     have f10:=hown10.frozen i hi9
     have hset:=hM9.set hi9 hf10 (by rw[HOO.out];exact hg10) (by rw[HOO.out];exact hn10) (by rw[HOO.out];exact ho10)
     have HSET:=zH hset.1
     have HB10:=zH (hB9.trans hset.2)
     have HRS:Hid ((rs.set i (.slice y1 y2 y3))[i]'(by rw[List.length_set];exact hi9)= .slice y1 y2 y3):=zH (List.getElem_set_self _)
     clear hset hnO hown10 hM9 hro hf10 hg10 hn10 ho10 hB9 hb9 hb8 hb6 hv9 hv8 hv6 hVB
     (refine wpL.oo 11 ?_;intro K hK)
     rw[if_pos (by rfl)]
     go_simp
     refine hK.out _ _ (fun h=>by first | cases h | simp at h) ?_
     clear hK K
     try simp only[Act.put,List.setIfInBounds_toArray,List.set_cons_zero,List.set_cons_succ]
     (refine wpL.oo 12 ?_;intro K hK)
     rw[if_pos (by rfl)]
     go_simp
     refine hK.out _ _ (fun h=>by first | cases h | simp at h) ?_
     clear hK K c10 f10
     refine wpL.done (by kernel_rfl) ?_ _
     generalize w10.setCell (ptr vO i) (.slice y1 y2 y3)=W10 at *
     by_cases hik:k=i
     ·have hki:i=k:=hik.symm
      subst hki
      have hik1:(i==i)=true:=by simp
      have hik2:((i:Int)==(i:Int))=true:=by simp
      go_upto_region 17 with fail
      obtain⟨rz,hrz⟩:∃r,rs.set i (.slice y1 y2 y3)=r:=⟨_,rfl⟩
      have hz9:i<rz.length:=by rw[←hrz,List.length_set];exact hi9
      have HRZ:Hid (rz[i]'hz9= .slice y1 y2 y3):=zH (by subst hrz;exact List.getElem_set_self _)
      rw[hrz]at HSET
      clear hrz HRS
      have HBW10:Hid (Below W2.heap.size W2 W10):=zH (HB4.out.trans (HB10.out.mono HLE.out))
      have hbD:=zja (B:=W10.heap.size) W10
      have hMD:=HSET.out.below hbD
      have hBD:=zfa HB10.out hbD HB10.out.size
      have hWD:=zfa HBW10.out hbD HBW10.out.size
      have hAD:=HA.out.below hWD
      obtain⟨_,d0,d1,d2,d3,_⟩:=HC.out.belowS hWD
      have s2:=hMD.t.own.cell i hz9
      rw[HRZ.out]at s2
      have so:zgc (.slice y1 y2 y3):=by rw[←HRZ.out];exact(hMD.t.row i hz9).sl
      have lo:y2=i+1:=by
       have hrow:=hMD.t.row i hz9
       rw[HRZ.out,if_pos rfl]at hrow
       have h:=hrow.fracs.len
       rw[List.length_append,zea]at h
       exact h
      have j3:(i:Int)<(y2:Nat):=by omega
      clear lo
      have HOUT:Hid (∀w0,zhm w0 (.agg #[nm, .slice sa o2 sk, .slice ra o2 rk, .slice ea en ek]) l→Calls Try.prog 25 #[.agg #[nm, .slice sa o2 sk, .slice ra o2 rk, .slice ea en ek], .int .i64 i] w0 (RF1 w0 (zxf l i))):=zH (fun w0 h=>zln _ l i w0 h HL.out (by rw[HN.out];exact hil))
      refine wpN.start [9] (fun w'=>w'.cell? (ptr vO i)=some (.slice y1 y2 y3)∧w'.cell? ⟨w.heap.size,0,none⟩=some nm∧w'.cell? ⟨w.heap.size,1,none⟩=some (.slice sa o2 sk)∧w'.cell? ⟨w.heap.size,2,none⟩=some (.slice ra o2 rk)∧w'.cell? ⟨w.heap.size,3,none⟩=some (.slice ea en ek)) (by kernel_rfl) ⟨s2,d0,d1,d2,d3⟩ (fun hHeld=> ?_)
      generalize W10.drew=wd at *
      refine wpN.t 0 ?_
      refine wpN.t 1 ?_
      refine wpN.t 2 ?_
      refine wpN.t 3 ?_
      refine wpN.t 4 ?_
      refine wpN.t 5 ?_
      refine wpN.t 6 ?_
      (refine wpN.oo 7 ?_;intro K hK)
      refine zxa 25 #[.agg #[nm, .slice sa o2 sk, .slice ra o2 rk, .slice ea en ek], .int .i64 i] ?_ ?_ (HOUT.out wd hAD) ?_
      ·rfl
      ·go_simp
      rintro e9 w9 ⟨v9,rfl,hv9,hb9⟩
      obtain⟨t9,x9,y9,rfl,⟨a91,l91,k91,rfl,_⟩,⟨a92,l92,k92,rfl,_⟩⟩:=hv9.isF
      refine⟨_,rfl,?_⟩
      have hHeld:w9.cell? (ptr vO i)=some (.slice y1 y2 y3)∧w9.cell? ⟨w.heap.size,0,none⟩=some nm∧w9.cell? ⟨w.heap.size,1,none⟩=some (.slice sa o2 sk)∧w9.cell? ⟨w.heap.size,2,none⟩=some (.slice ra o2 rk)∧w9.cell? ⟨w.heap.size,3,none⟩=some (.slice ea en ek):=⟨zba hb9 s2,zba hb9 d0,zba hb9 d1,zba hb9 d2,zba hb9 d3⟩
      refine hK.out _ _ (fun _=>hHeld) ?_
      clear hK K
      try simp only[Act.put,List.setIfInBounds_toArray,List.set_cons_zero,List.set_cons_succ]
      refine wpN.t 8 ?_
      have hM9:=hMD.below hb9
      have hB9:=zfa hBD hb9 hBD.size
      have hrow:=hM9.t.row i hz9
      have hlr:i<(zib i (phA l i)++ [0-x]).length:=by rw[List.length_append,zea];simp
      rw[HRZ.out,if_pos rfl]at hrow
      have hlr0:0<(zib i (phA l i)++ [0-x]).length:=by omega
      have f0:=hrow.frozen (i*3) (by omega)
      have f1:=hrow.frozen (i*3+1) (by omega)
      have f2:=hrow.frozen (i*3+2) (by omega)
      have n01:=hrow.inj hlr0 (show i*3≠i*3+1 by omega)
      have n02:=hrow.inj hlr0 (show i*3≠i*3+2 by omega)
      have n12:=hrow.inj hlr0 (show i*3+1≠i*3+2 by omega)
      obtain⟨_,e0,z0,z1,z2,_,_⟩:=hrow.fracs.at' i hlr
      (refine wpN.oo 9 ?_;intro K hK)
      rw[if_pos (by rfl)]
      go_simp
      refine hK.out _ _ (fun h=>by cases h) ?_
      clear hK K hHeld f0 f1 f2 n01 n02 n12 d0 d1 d2 d3 s2 z0 z1 z2
      refine wpN.done (by kernel_rfl) ?_ _
      have hput:=hM9.put (i:=i) (j:=i) hz9 (by rw[if_pos rfl];exact hlr) hv9
      rw[HRZ.out]at hput
      have HPUT:=zH hput.1
      have HBP:=zH (hB9.trans hput.2)
      clear hput hMD hM9 hv9 hBD hB9 hrow hbD hb9 hAD hWD
      go_wp2_with fail
      go_roundg (o2- (i+1))
      case measure=>(have:=HGK.out;omega)
      case rel=>
       exact⟨i+1,rz,by omega,rfl,by go_num,HPUT.out.congr (fun t ht=>by
        by_cases h1:t=i
        ·subst h1
         simp only[if_true,Nat.lt_irrefl,if_false]
         rw[←zlk,List.set_append_right _ _ (by rw[zea];exact Nat.le_refl _),zea,Nat.sub_self]
         unfold phA
         rw[if_pos rfl]
         rfl
        ·simp only[if_neg h1]),HBP.out⟩
     ·have hik1:(i==k)=false:=by
       simp
       omega
      have hik2:((i:Int)==(k:Int))=false:=by
       simp
       omega
      go_wp2_with fail
      go_roundg (o2- (k+1))
      case measure=>(have:=HGK.out;omega)
      case rel=>
       exact⟨k+1,_,by omega,rfl,by go_num,HSET.out.congr (fun t ht=>by
        by_cases h1:t=i
        ·subst h1
         rw[if_pos rfl,if_neg (Nat.lt_irrefl t),if_pos rfl,←zlk]
         unfold phA
         rw[if_neg (fun e=>hik e.symm),HXE.out]
        ·simp only[if_neg h1]),HB10.out⟩
    ·obtain rfl:k=o2:=by omega
     go_wp2_with fail
     go_roundg (k- (i+1))
     case measure=>(have:=HG.out;omega)
     case rel=>
      exact⟨i+1,rs,by omega,rfl,by go_num,HMK.out.congr (fun t ht=>by
       by_cases h1:t<i
       ·rw[if_pos h1,if_pos (by omega)]
       ·rw[if_neg h1]
        by_cases h2:t=i
        ·subst h2;rw[if_pos rfl,if_pos (by omega)]
        ·rw[if_neg h2,if_neg (by omega)]),HBK.out⟩
  ·obtain rfl:i=rn:=by omega
   have HMT:Hid (zam wb vO i i (phA l)):=zH (HM.out.matF (fun k hk=>by rw[if_pos hk]))
   have HX0:Hid (zbb wb vX (zib i (zpm l 0))):=zH (HM.out.x.frRow (fun j hj=>hj)).fracs
   have HBWB:Hid (Below W2.heap.size W2 wb):=zH (HB4.out.trans (HBR.out.mono HLE.out))
   obtain⟨x1,x2,x3,rfl,_⟩:=id slX
   obtain rfl:x2=i:=lnX
   have HCB:=zH (HC.out.belowS HBWB.out)
   have HSB:=zH (HS.out.below HBWB.out)
   have HTB:=zH (HT.out.belowS HBWB.out)
   have HWB:=zH (zaa HBW.out HBWB.out)
   clear HM HBR HBWB HC HS HT HBW slX HA HR srt HB4 HG
   go_wp2_with fail
   go_loopg [8,12,13] (n+1) (fun g u8 u12 u13 wr=>∃ (i:Nat) (ax:Option Addr) (kx:Nat),1≤i∧i≤n+1∧g=n+2-i∧u8= .slice ax x2 kx∧u12= .int .i64 (zem (i-1):Nat)∧u13= .int .i64 (i:Nat)∧zbb wr (.slice ax x2 kx) (zib x2 (zpm l (i-1)))∧Below wb.heap.size wb wr)
   case atStart=>exact⟨1,_,_,Nat.le_refl _,by omega,rfl,rfl,rfl,rfl,HX0.out,Below.refl _ _⟩
   case round=>
    obtain⟨i,ax,kx,hi1,hin1,hg,rfl,rfl,rfl,hx,hbr⟩:=hrel
    obtain⟨w7,hw7⟩:∃wb,wb=wr:=⟨_,rfl⟩
    subst hw7
    have HG:=zH hg
    have HX:=zH hx
    have HBR:=zH hbr
    have slx:=hx.sl
    clear hg hx hbr HX0
    by_cases hil:i≤n
    ·have i1:((i:Nat):Int)≤(n:Nat):=by omega
     have i2:decide (((i:Nat):Int)≤(n:Nat))=true:=decide_eq_true i1
     have HSYS:Hid (SysOk x2 (phA l) (zpm l (i-1)) (zpm l i)):=zH (by
      have h:=HP.out.sys (i-1) (by omega)
      rw[HN.out,show i-1+1=i by omega]at h
      exact h)
     have HFW:Hid (wrap64 ((zem (i-1):Nat)*((i:Nat):Int))=(zem i:Nat)):=zH (by
      have h:=fact_wrap (i-1) (by have:=HH3.out;omega)
      rwa[show i-1+1=i by omega]at h)
     have HMT7:=zH (HMT.out.below HBR.out)
     go_wp2_with (first
      |(go_at_call 28;(with_reducible refine(solve_reg _ _ x2 (phA l) (zpm l (i-1)) (zpm l i) _ HMT7.out HX.out HSYS.out).mono ?_);rintro e9 w9 ⟨v9,rfl,hv9,hb9,hn9⟩
        obtain⟨p1,p2,p3,rfl,_⟩:=id hv9.sl
        have hp2:p2=x2:=by have h:=hv9.len;rw[zea]at h;exact h
        subst hp2
        have HX9:=zH hv9
        have HB9:=zH (zaa HBR.out hb9)
        clear hv9 hb9 hn9))
     go_roundg (n+2- (i+1))
     case measure=>(have:=HG.out;omega)
     case rel=>exact⟨i+1,_,_,by omega,by omega,rfl,rfl,congrArg (Value.int .i64) HFW.out,by go_num,HX9.out,HB9.out⟩
    ·obtain rfl:i=n+1:=by omega
     have i1:¬ (((n+1:Nat):Int)≤(n:Nat)):=by omega
     have i2:decide (((n+1:Nat):Int)≤(n:Nat))=false:=decide_eq_false i1
     have hnn:n+1-1=n:=rfl
     rw[hnn]at HX ⊢
     obtain⟨_,c0,c1,c2,c3,_⟩:=HCB.out.belowS HBR.out
     have HSCA:Hid (ScaP l.start (zib x2 (zpm l n)) (zem n)):=zH (by have h:=HP.out.sca;rwa[HN.out]at h)
     go_wp2_with (first
      |(go_at_call 29;(with_reducible refine(zkm _ _ l.start (zib x2 (zpm l n)) (zem n) _ (HSB.out.below HBR.out) HX.out HSCA.out).mono ?_);rintro e9 w9 ⟨v9,rfl,hv9,hb9⟩
        obtain⟨t9,x9,y9,rfl,⟨a91,l91,k91,rfl,_⟩,⟨a92,l92,k92,rfl,_⟩⟩:=hv9.isF
        have HT9:=zH ((HTB.out.belowS HBR.out).belowS hb9)
        have HB9:=zH (zaa (zaa HWB.out HBR.out) hb9)
        have HV9:=zH hv9
        obtain⟨_,d0,d1,d2,f0,f1,f2⟩:=HT9.out
        clear hv9 hb9 c0 c1 c2 c3))
     refine zoa rfl rfl Try.aggF Try.sizeF (HT9.out.set _ _ _) rfl ?_
     refine⟨_,rfl,?_,zga HB9.out (Nat.le_succ _) _ _ _⟩
     unfold zfo
     rw[HN.out]
     have h:=HV9.out.set3 HT9.out (fun z=>by simp) (fun z=>by simp) (.bool t9) (.slice a91 l91 k91) (.slice a92 l92 k92)
     rw[HN.out]at h
     exact h
end Go.Proofs.Ytlpdkbmmbdfoiaa
