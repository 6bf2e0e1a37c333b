/- Lemmas. -/
import Derived.Test.YtlpdkbmmbdfoiaaGreatPRe1
set_option linter.unusedVariables false
set_option linter.unusedSimpArgs false
namespace Go.Proofs.YtlpdkbmmbdfoiaaGreat
open Go.RowKit
def zag :Nat->Nat
 | 0=>1
 | n+1=>zag n*(n+1)
def momQ (l:LQ) (n:Nat):Rat:=zhp l.start (zxa l.start.length (zhf l n)) l.start.length*fq false (zag n) 1
theorem fact_wrap :∀m,m<3->wrap64 ((zag m:Nat)*((m+1:Nat):Int))=(zag (m+1):Nat):=by
 intro m hm;rcases(show m=0\/m=1\/m=2 by omega)with rfl | rfl | rfl<;>decide+kernel
set_option maxRecDepth 100000 in
set_option maxHeartbeats 6400000 in
theorem zjo (va:Value) (l:LQ) (n:Nat) (w:World) (ha:zxj w va l) (hl:znb l) (h1:1<=n) (h3:n<=3) (hp:MomP l n (zag n)):Calls Tryz.prog 37 #[va, .int .i64 (n:Nat)] w (RF0 w (momQ l n)):=by
 obtain⟨i3,hi3,hz3,hs3,hy3⟩:=info_parts Tryz.infoF;have hAP:=fun{ops:Array Oper} {o:Oper} {a:Act} {w:World} {K:Act->World->Prop} {Q:Exit->Act->World->Prop} {E:Prop}=>zaf (P:=Tryz.prog) 25 38 i3 Tryz.underlying25 hi3 hz3 hs3 hy3 (ops:=ops) (o:=o) (a:=a) (w:=w) (K:=K) (Q:=Q) (E:=E)
 have hM:=zjr (P:=Tryz.prog) 25 38 i3 Tryz.underlying25 hi3 hz3 hs3 (by rw[hy3];decide);obtain⟨i4,hi4,hz4,hs4,hy4⟩:=info_parts Tryz.infoRow;have hMR:=zuk (P:=Tryz.prog) 24 25 i4 Tryz.underlying24 hi4 hz4 hs4 hy4;clear hi3 hz3 hs3 hy3 hi4 hz4 hs4 hy4;obtain⟨nm,sv,rv,ev,rfl,hs,hr,he⟩:=id ha;obtain⟨ra,rn,rk,rfl,_⟩:=id hr.sl;obtain⟨sa,sn,sk,rfl,_⟩:=id hs.sl;obtain⟨ea,en,ek,rfl,_⟩:=id he.sl;have hba:=zca w (.cells #[nm, .slice sa sn sk, .slice ra rn rk, .slice ea en ek] 52);have hbb:=zca (w.alloc (.cells #[nm, .slice sa sn sk, .slice ra rn rk, .slice ea en ek] 52)) (.cells #[.bool false, .slice none 0 0, .slice none 0 0] 38);have HC:=zH ((C4.new w 52 nm (.slice sa sn sk) (.slice ra rn rk) (.slice ea en ek)).bS hbb);have HT:=zH (C3.newB (b:=w.heap.size+1) (w.alloc (.cells #[nm, .slice sa sn sk, .slice ra rn rk, .slice ea en ek] 52)) 38 (.bool false) (.slice none 0 0) (.slice none 0 0) (by show(w.heap.push _).size=_;rw[Array.size_push]));have HBW:=zH (zaa hba hbb);have HA:=zH (ha.bw HBW.o);have HR:=zH (hr.bw HBW.o);have HS:=zH (hs.bw HBW.o);have hsn:sn=l.start.length:=hs.len;have hrn:rn=l.start.length:=hr.len.trans hl.rl;obtain⟨N,hnn⟩:∃n,l.start.length=n:=⟨_,rfl⟩;have HN:=zH hnn;rw[hnn]at hsn hrn;have n4:N<=4:=by rw[<-hnn];exact hl.n4
 have n1:1<=N:=by rw[<-hnn];exact hl.n1
 obtain rfl:sn=N:=hsn;obtain rfl:rn=sn:=hrn;have HL:=zH hl;have HP:=zH hp;have srt:=hr.sl;have sxt:=hs.sl;have h13:decide ((n:Int)<1)=false:=zDF zO;have h33:decide ((3:Int)<(n:Int))=false:=zDF zO;have HH3:=zH h3;clear hs hr he ha hl hp hba hbb hnn;go_enter Tryz.func37,Tryz.ntmps37;go_upto_region 1 with fail;generalize (w.alloc (.cells #[nm, .slice sa rn sk, .slice ra rn rk, .slice ea en ek] 52)).alloc (.cells #[.bool false, .slice none 0 0, .slice none 0 0] 38)=W2 at *
 obtain⟨_,c0,c1,c2,c3,_⟩:=HC.o
 go_wp2_with (first
  |(go_at_call 58;(with_reducible refine(zzd _ l _ HA.o HL.o).mono ?_);rintro e4 w4 ⟨rfl,hb4⟩;have HB4:=zH hb4;have c0:=zba hb4 c0;have c1:=zba hb4 c1;have c2:=zba hb4 c2;have c3:=zba hb4 c3;clear hb4)
  |(refine hMR w4 rfl _ _ rfl w4.heap.size _ rn rfl rfl rfl zO (zLR _) ?_;intro vO w5 hO5 hb5;have HO5:=zH (zwj.start hO5);have HB5:=zH hb5;have slO:=hO5.sl;have lnO:=hO5.len;have c0:=zba hb5 c0;have c1:=zba hb5 c1;have c2:=zba hb5 c2;have c3:=zba hb5 c3;clear hO5 hb5)
  |(refine hM w5 rfl _ _ rfl w4.heap.size _ rn rfl rfl rfl zO HB5.o.size ?_;intro vX w6 hX6 hb6 hvX;have HX6:=zH (zad.start hX6 (λ _=>1));have hMX:MX w6 w4.heap.size vO (List.replicate rn (.slice none 0 0)) rn (λ _=> []) vX (λ _=>1) (λ j=>j<0):=⟨HO5.o.bw hb6,HX6.o,λ i hi=>Or.inl (by rw[List.getElem_replicate];rfl),zLT HB5.o.size hb6.size⟩;have HMX:=zH hMX;have HB6:=zH (zea HB5.o hb6 HB5.o.size);have slX:=hX6.sl;have lnX:=hX6.len;clear hX6 hb6 hMX hvX))
 clear hM hMR HO5 HB5 HX6 c0 c1 c2 c3;have HLE:zI (W2.heap.size<=w4.heap.size):=zH HB4.o.size;go_loopg [38] (rn) (λ g u38 wr=>∃ (i:Nat) (rs:List Value),i<=rn/\g=rn-i/\u38= .int .i64 i/\MX wr w4.heap.size vO rs rn (λ k=>if k<i then zxa rn (phA l k)else []) vX (λ _=>1) (λ j=>j<i)/\Below w4.heap.size w4 wr);case atStart=>exact⟨0,_,zZL _,rfl,rfl,HMX.o,HB6.o⟩
 case round=>
  obtain⟨i,rs,hin,hg,rfl,hm,hbr⟩:=hrel;obtain⟨wb,hwb⟩:∃wb,wb=wr:=⟨_,rfl⟩;subst hwb;have HG:=zH hg;have HM:=zH hm;have HBR:=zH hbr;clear hg hm hbr HMX HB6;by_cases hil:i<rn
  ·have i1:(0:Int)<=(i:Int):=zO;have i2:(i:Int)<(rn:Nat):=zO
   go_upto_region 12 with(first
    |(go_at_call 88
      (
       (with_reducible refine(zph _).mono ?_);rintro e7 w7 ⟨v7,rfl,hv7,hb7⟩
       obtain⟨t7,a71,l71,k71,a72,l72,k72,rfl⟩:=hv7.iF;have hm7:=HM.o.bw hb7;obtain⟨q0,q1,q2,d0,d1,d2,f0,f1,f2,n01,n02,n12⟩:=hm7.x.slots hil;have hput:=hm7.putX hil hv7;have HPX:=zH hput.1;have HBX:=zH ((zea HBR.o hb7 HBR.o.size).trans hput.2);clear hm7 hput hb7 hv7)))
   clear d0 d1 d2 f0 f1 f2 n01 n02 n12;generalize ((w7.setCell (ptr vX (i*3)) (.bool t7)).setCell (ptr vX (i*3+1)) (.slice a71 l71 k71)).setCell (ptr vX (i*3+2)) (.slice a72 l72 k72)=X7 at *
   have HM8:zI (MX X7 w4.heap.size vO rs rn (λ k=>if k<i then zxa rn (phA l k)else []) vX (λ _=>1) (λ j=>j<i+1)):=zH ⟨HPX.o.t,HPX.o.x.succ,HPX.o.ne,HPX.o.sz⟩;clear HPX HM HBR;have HB4X:zI (Below W2.heap.size W2 X7):=zH (HB4.o.trans (HBX.o.mono HLE.o));obtain⟨_,c0,c1,c2,c3,_⟩:=HC.o.bS HB4X.o;(have hi1:i<l.rates.length:=by rw[HL.o.rl,HN.o];exact hil);obtain⟨row,hc0,hrow⟩:=HR.o.at' i hi1;obtain⟨o1,o2,o3,rfl,_⟩:=id hrow.sl;have hrl2:(l.rates[i]'hi1).length=rn:=(HL.o.row i hi1).1.trans HN.o;have ho2:o2=rn:=hrow.len.trans hrl2;subst ho2;have HROW:=zH hrow;have HRL2:=zH hrl2;have srow:=hrow.sl;have hc0:=zba HB4X.o hc0;(have hrg:l.rates.getD i []=l.rates[i]'hi1:=by rw[zGD,zGE hi1];rfl);have HRG:=zH hrg;clear hrow hrl2 hrg;go_wp2_with fail;clear hc0 c0 c1 c2 c3;go_loopg [51] (o2) (λ g u51 wr=>∃ (k:Nat) (rs:List Value),k<=o2/\g=o2-k/\u51= .int .i64 k/\MX wr w4.heap.size vO rs o2 (λ t=>if t<i then zxa o2 (phA l t)else if t=i then zxa k (phA l i)else []) vX (λ _=>1) (λ j=>j<i+1)/\Below w4.heap.size w4 wr)
   case atStart=>exact⟨0,rs,zZL _,rfl,rfl,HM8.o.congr (λ k hk=>by
    by_cases h1:k<i
    ·rw[zIP h1,zIP h1]
    ·rw[zIN h1,zIN h1];split<;>rfl),HBX.o⟩
   case round=>
    obtain⟨k,rs,hkn,hgk,rfl,hmk,hbk⟩:=hrel;obtain⟨w8,hw8⟩:∃wb,wb=wr:=⟨_,rfl⟩;subst hw8;have HGK:=zH hgk;have HMK:=zH hmk;have HBK:=zH hbk;have HBW8:zI (Below W2.heap.size W2 w8):=zH (HB4.o.trans (HBK.o.mono HLE.o));clear hgk hmk hbk HM8 HBX HB4X;by_cases hkl:k<o2
    ·have j1:(0:Int)<=(k:Int):=zO;have j2:(k:Int)<(o2:Nat):=zO;(have hkr:k<(l.rates[i]'hi1).length:=by rw[HRL2.o];exact hkl);obtain⟨ts,as1,ls1,ks1,as2,ls2,ks2,g1,g2,g3,hfs⟩:=(HROW.o.bw HBW8.o).cellsAt (k:=k) hkr;(have hxe:(l.rates[i]'hi1).getD k 0=rtQ l i k:=by unfold rtQ;rw[HRG.o]);rw[hxe]at hfs;have HLX:zI (zqf (rtQ l i k)):=zH (HL.o.rt_lim (by rw[HN.o];exact hil) (by rw[HN.o];exact hkl));obtain⟨x,hx⟩:∃x,rtQ l i k=x:=⟨_,rfl⟩;have HXE:=zH hx;rw[hx]at hfs HLX;have hb11:=zca w8 (.cells #[.bool ts, .slice as1 ls1 ks1, .slice as2 ls2 ks2] 38);have HC11:=zH (C3.new w8 38 (.bool ts) (.slice as1 ls1 ks1) (.slice as2 ls2 ks2));have HF11:=zH (hfs.bw hb11);have HM11:=zH (HMK.o.bw hb11);have HB11:=zH (zea HBK.o hb11 HBK.o.size);obtain⟨b11,hb11e⟩:∃b,w8.heap.size=b:=⟨_,rfl⟩;have HBE:=zH hb11e;clear hx hxe hfs hb11 hb11e HMK HBK HBW8;go_upto_region 15 with fail;clear g1 g2 g3;(rw[HBE.o]at HC11 |-);clear HBE;generalize w8.alloc (.cells #[.bool ts, .slice as1 ls1 ks1, .slice as2 ls2 ks2] 38)=W9 at *
     (have hi9:i<rs.length:=by rw[HM11.o.t.rl];exact hil);have s2:=HM11.o.t.own.cell i hi9;obtain⟨e1,e2,e3,ho,_⟩:=(HM11.o.t.row i hi9).sl;rw[ho]at s2;have HOO:=zH ho;obtain⟨_,d0,d1,d2,_,_,_⟩:=HC11.o;have hbD:=zfa (B:=W9.heap.size) W9;have HMD:=zH (HM11.o.bw hbD);have HBD:=zH (zea HB11.o hbD HB11.o.size);have HFD:=zH (HF11.o.bw hbD);clear ho;refine wpL.start 10 (λ w'=>w'.cell? (ptr vO i)=some (.slice e1 e2 e3)/\w'.cell? ⟨b11,0,none⟩=some (.bool ts)/\w'.cell? ⟨b11,1,none⟩=some (.slice as1 ls1 ks1)/\w'.cell? ⟨b11,2,none⟩=some (.slice as2 ls2 ks2)) (by kernel_rfl) ⟨zba hbD s2,zba hbD d0,zba hbD d1,zba hbD d2⟩ (λ hHeld=> ?_);clear hbD s2 d0 d1 d2 HM11 HB11 HF11;generalize W9.drew=wd at *
     refine zU 0 ?_;refine zU 1 ?_;refine zY 2 ?_;refine zY 3 ?_;refine zY 4 ?_;refine zY 5 ?_;refine zY 7 ?_;(refine zW 6 ?_;intro K hK);refine zsa 88 #[.int .i64 0] ?_ ?_ (zdf wd) ?_
     ·rfl
     ·go_simp
     rintro e6 w6 ⟨v6,rfl,hv6,hb6⟩;obtain⟨t6,a61,l61,k61,a62,l62,k62,rfl⟩:=hv6.iF;have hH6:=zAI (zba hb6 hHeld.1) (zAI (zba hb6 hHeld.2.1) (zAI (zba hb6 hHeld.2.2.1) (zba hb6 hHeld.2.2.2)));refine⟨_,rfl,?_⟩;refine hK.o _ _ (λ _=>hH6) ?_;clear hK K hHeld;refine zS ?_;(refine zW 8 ?_;intro K hK);have HFT:=HFD.o.bw hb6
     have HFZ:fits (0-x):=by
      have h:=HLX.o.fits;rw[Rat.sub_eq_add_neg,Rat.zero_add];exact⟨by rw[Rat.neg_num,Int.natAbs_neg];exact h.1,h.2⟩
     refine zsa 96 #[.agg #[.bool t6, .slice a61 l61 k61, .slice a62 l62 k62], .agg #[.bool ts, .slice as1 ls1 ks1, .slice as2 ls2 ks2]] ?_ ?_ (zzi _ _ 0 x w6 hv6 HFT zzo HLX.o.fits HFZ) ?_
     ·rfl
     ·go_simp
     rintro e8 w8' ⟨v8,rfl,hv8,hb8⟩;obtain⟨t8,a81,l81,k81,a82,l82,k82,rfl⟩:=hv8.iF;have hH8:=zAI (zba hb8 hH6.1) (zAI (zba hb8 hH6.2.1) (zAI (zba hb8 hH6.2.2.1) (zba hb8 hH6.2.2.2)));refine⟨_,rfl,?_⟩;refine hK.o _ _ (λ _=>hH8) ?_;clear hK K;refine zS ?_;(refine zW 9 ?_;intro K hK);rw[zIP (by rfl)];go_simp;have hb9:=zca w8' (.cells #[.bool t8, .slice a81 l81 k81, .slice a82 l82 k82] 38);have hVB:=zkg.new w8' #[.bool t8, .slice a81 l81 k81, .slice a82 l82 k82] 38;have hH9:=zAI (zba hb9 hH8.1) (zAI (zba hb9 hH8.2.1) (zAI (zba hb9 hH8.2.2.1) (zba hb9 hH8.2.2.2)));refine hK.o _ _ (λ _=>hH9) ?_;clear hK K;refine zS ?_;have hv9:=hv8.bw hb9;have hM9:=((HMD.o.bw hb6).bw hb8).bw hb9;have hB9:=zea (zea (zea HBD.o hb6 HBD.o.size) hb8 (zLT HBD.o.size hb6.size)) hb9 (zLT HBD.o.size (zLT hb6.size hb8.size));have hsz9:=hM9.sz;generalize hw9:w8'.alloc (.cells #[.bool t8, .slice a81 l81 k81, .slice a82 l82 k82] 38)=w9 at *
     clear hw9 hH9 hH8 hH6 HFT HFZ;have hro:=hM9.t.row i hi9;rw[HOO.o,zIN (zIR i),zIP rfl]at hro;(have hlen9:(zxa k (phA l i)).length<=1000:=by rw[zda];omega);(refine zW 10 ?_;intro K hK);refine hAP rfl _ _ (by rfl) w4.heap.size (.slice e1 e2 e3) (zxa k (phA l i)) (by rfl) hro (.bool t8) (.slice a81 l81 k81) (.slice a82 l82 k82) (0-x) hv9 w8'.heap.size (by rfl) hVB hlen9 hsz9 ?_;intro v10 w10 hf10 hg10 hn10 ho10;obtain⟨y1,y2,y3,rfl,_⟩:=id hf10.sl;refine hK.o _ _ (λ h=>by first | cases h | simp at h) ?_;clear hK K;refine zS ?_
     have hnO:vO.ownBlock=none\/vO.ownBlock≠(Value.slice e1 e2 e3).ownBlock:=by
      obtain⟨ys,y1,y2⟩:=hro;exact hM9.t.own.kinds y1 zD
     have hown10:=hM9.t.own.grown hg10 hnO;(have c10:w10.cell? (ptr vO i)=some (.slice e1 e2 e3):=by rw[hown10.cell i hi9,HOO.o]);have f10:=hown10.frozen i hi9;have hset:=hM9.set hi9 hf10 (by rw[HOO.o];exact hg10) (by rw[HOO.o];exact hn10) (by rw[HOO.o];exact ho10);have HSET:=zH hset.1;have HB10:=zH (hB9.trans hset.2);have HRS:zI ((rs.set i (.slice y1 y2 y3))[i]'(by rw[zGS];exact hi9)= .slice y1 y2 y3):=zH (zSF _);clear hset hnO hown10 hM9 hro hf10 hg10 hn10 ho10 hB9 hb9 hb8 hb6 hv9 hv8 hv6 hVB;(refine zW 11 ?_;intro K hK);rw[zIP (by rfl)];go_simp;refine hK.o _ _ (λ h=>by first | cases h | simp at h) ?_;clear hK K;refine zS ?_;(refine zW 12 ?_;intro K hK);rw[zIP (by rfl)];go_simp;refine hK.o _ _ (λ h=>by first | cases h | simp at h) ?_;clear hK K c10 f10;refine wpL.done (by kernel_rfl) ?_ _;generalize w10.setCell (ptr vO i) (.slice y1 y2 y3)=W10 at *
     by_cases hik:k=i
     ·have hki:i=k:=hik.symm;subst hki;(have hik1:(i==i)=true:=by simp);(have hik2:((i:Int)==(i:Int))=true:=by simp);go_upto_region 17 with fail;obtain⟨rz,hrz⟩:∃r,rs.set i (.slice y1 y2 y3)=r:=⟨_,rfl⟩;(have hz9:i<rz.length:=by rw[<-hrz,zGS];exact hi9);have HRZ:zI (rz[i]'hz9= .slice y1 y2 y3):=zH (by subst hrz;exact zSF _);rw[hrz]at HSET;clear hrz HRS;have HBW10:zI (Below W2.heap.size W2 W10):=zH (HB4.o.trans (HB10.o.mono HLE.o));have hbD:=zfa (B:=W10.heap.size) W10;have hMD:=HSET.o.bw hbD;have hBD:=zea HB10.o hbD HB10.o.size;have hWD:=zea HBW10.o hbD HBW10.o.size;have hAD:=HA.o.bw hWD;obtain⟨_,d0,d1,d2,d3,_⟩:=HC.o.bS hWD;have s2:=hMD.t.own.cell i hz9;rw[HRZ.o]at s2;have so:zvc (.slice y1 y2 y3):=by rw[<-HRZ.o];exact(hMD.t.row i hz9).sl
      have lo:y2=i+1:=by
       have hrow:=hMD.t.row i hz9;rw[HRZ.o,zIP rfl]at hrow;have h:=hrow.fracs.len;rw[zLA,zda]at h;exact h
      have j3:(i:Int)<(y2:Nat):=zO;clear lo;have HOUT:zI (∀w0,zxj w0 (.agg #[nm, .slice sa o2 sk, .slice ra o2 rk, .slice ea en ek]) l->Calls Tryz.prog 95 #[.agg #[nm, .slice sa o2 sk, .slice ra o2 rk, .slice ea en ek], .int .i64 i] w0 (RF1 w0 (zff l i))):=zH (λ w0 h=>zdr _ l i w0 h HL.o (by rw[HN.o];exact hil));refine wpN.start [9] (λ w'=>w'.cell? (ptr vO i)=some (.slice y1 y2 y3)/\w'.cell? ⟨w.heap.size,0,none⟩=some nm/\w'.cell? ⟨w.heap.size,1,none⟩=some (.slice sa o2 sk)/\w'.cell? ⟨w.heap.size,2,none⟩=some (.slice ra o2 rk)/\w'.cell? ⟨w.heap.size,3,none⟩=some (.slice ea en ek)) (by kernel_rfl) ⟨s2,d0,d1,d2,d3⟩ (λ hHeld=> ?_);generalize W10.drew=wd at *
      refine wpN.t 0 ?_;refine wpN.t 1 ?_;refine wpN.t 2 ?_;refine wpN.t 3 ?_;refine wpN.t 4 ?_;refine wpN.t 5 ?_;refine wpN.t 6 ?_;(refine wpN.oo 7 ?_;intro K hK);refine zsa 95 #[.agg #[nm, .slice sa o2 sk, .slice ra o2 rk, .slice ea en ek], .int .i64 i] ?_ ?_ (HOUT.o wd hAD) ?_
      ·rfl
      ·go_simp
      rintro e9 w9 ⟨v9,rfl,hv9,hb9⟩;obtain⟨t9,a91,l91,k91,a92,l92,k92,rfl⟩:=hv9.iF;refine⟨_,rfl,?_⟩;have hHeld:w9.cell? (ptr vO i)=some (.slice y1 y2 y3)/\w9.cell? ⟨w.heap.size,0,none⟩=some nm/\w9.cell? ⟨w.heap.size,1,none⟩=some (.slice sa o2 sk)/\w9.cell? ⟨w.heap.size,2,none⟩=some (.slice ra o2 rk)/\w9.cell? ⟨w.heap.size,3,none⟩=some (.slice ea en ek):=⟨zba hb9 s2,zba hb9 d0,zba hb9 d1,zba hb9 d2,zba hb9 d3⟩;refine hK.o _ _ (λ _=>hHeld) ?_;clear hK K;refine zS ?_;refine wpN.t 8 ?_;have hM9:=hMD.bw hb9;have hB9:=zea hBD hb9 hBD.size;have hrow:=hM9.t.row i hz9;(have hlr:i<(zxa i (phA l i)++ [0-x]).length:=by rw[zLA,zda];simp);rw[HRZ.o,zIP rfl]at hrow;have hlr0:0<(zxa i (phA l i)++ [0-x]).length:=zO;have f0:=hrow.frozen (i*3) zO;have f1:=hrow.frozen (i*3+1) zO;have f2:=hrow.frozen (i*3+2) zO;have n01:=hrow.inj hlr0 (show i*3≠i*3+1 by omega);have n02:=hrow.inj hlr0 (show i*3≠i*3+2 by omega);have n12:=hrow.inj hlr0 (show i*3+1≠i*3+2 by omega);obtain⟨_,e0,z0,z1,z2,_,_⟩:=hrow.fracs.at' i hlr;(refine wpN.oo 9 ?_;intro K hK);rw[zIP (by rfl)];go_simp;refine hK.o _ _ (λ h=>by cases h) ?_;clear hK K hHeld f0 f1 f2 n01 n02 n12 d0 d1 d2 d3 s2 z0 z1 z2;refine wpN.done (by kernel_rfl) ?_ _;have hput:=hM9.put (i:=i) (j:=i) hz9 (by rw[zIP rfl];exact hlr) hv9;rw[HRZ.o]at hput;have HPUT:=zH hput.1;have HBP:=zH (hB9.trans hput.2);clear hput hMD hM9 hv9 hBD hB9 hrow hbD hb9 hAD hWD;go_wp2_with fail;go_roundg (o2- (i+1));case measure=>(have:=HGK.o;omega)
      case rel=>
       exact⟨i+1,rz,zO,rfl,by go_num,HPUT.o.congr (λ t ht=>by
        by_cases h1:t=i
        ·subst h1;simp only[if_true,zIR,if_false];rw[<-zkd,List.set_append_right _ _ (by rw[zda];exact zLR _),zda,Nat.sub_self];unfold phA;rw[zIP rfl];rfl
        ·simp only[zIN h1]),HBP.o⟩
     ·have hik1:(i==k)=false:=by
       simp;omega
      have hik2:((i:Int)==(k:Int))=false:=by
       simp;omega
      go_wp2_with fail;go_roundg (o2- (k+1));case measure=>(have:=HGK.o;omega)
      case rel=>
       exact⟨k+1,_,zO,rfl,by go_num,HSET.o.congr (λ t ht=>by
        by_cases h1:t=i
        ·subst h1;rw[zIP rfl,zIN (zIR t),zIP rfl,<-zkd];unfold phA;rw[zIN (λ e=>hik e.symm),HXE.o]
        ·simp only[zIN h1]),HB10.o⟩
    ·obtain rfl:k=o2:=zO;go_wp2_with fail;go_roundg (k- (i+1));case measure=>(have:=HG.o;omega)
     case rel=>
      exact⟨i+1,rs,zO,rfl,by go_num,HMK.o.congr (λ t ht=>by
       by_cases h1:t<i
       ·rw[zIP h1,zIP zO]
       ·rw[zIN h1];by_cases h2:t=i
        ·subst h2;rw[zIP rfl,zIP zO]
        ·rw[zIN h2,zIN zO]),HBK.o⟩
  ·obtain rfl:i=rn:=zO;have HMT:zI (zij wb vO i i (phA l)):=zH (HM.o.matF (λ k hk=>by rw[zIP hk]));have HX0:zI (zwa wb vX (zxa i (zhf l 0))):=zH (HM.o.x.frRow (λ j hj=>hj)).fracs;have HBWB:zI (Below W2.heap.size W2 wb):=zH (HB4.o.trans (HBR.o.mono HLE.o));obtain⟨x1,x2,x3,rfl,_⟩:=id slX;obtain rfl:x2=i:=lnX;have HCB:=zH (HC.o.bS HBWB.o);have HSB:=zH (HS.o.bw HBWB.o);have HTB:=zH (HT.o.bS HBWB.o);have HWB:=zH (zaa HBW.o HBWB.o);clear HM HBR HBWB HC HS HT HBW slX HA HR srt HB4 HG;go_wp2_with fail;go_loopg [8,12,13] (n+1) (λ g u8 u12 u13 wr=>∃ (i:Nat) (ax:Option Addr) (kx:Nat),1<=i/\i<=n+1/\g=n+2-i/\u8= .slice ax x2 kx/\u12= .int .i64 (zag (i-1):Nat)/\u13= .int .i64 (i:Nat)/\zwa wr (.slice ax x2 kx) (zxa x2 (zhf l (i-1)))/\Below wb.heap.size wb wr);case atStart=>exact⟨1,_,_,zLR _,zO,rfl,rfl,rfl,rfl,HX0.o,zBR _ _⟩
   case round=>
    obtain⟨i,ax,kx,hi1,hin1,hg,rfl,rfl,rfl,hx,hbr⟩:=hrel;obtain⟨w7,hw7⟩:∃wb,wb=wr:=⟨_,rfl⟩;subst hw7;have HG:=zH hg;have HX:=zH hx;have HBR:=zH hbr;have slx:=hx.sl;clear hg hx hbr HX0;by_cases hil:i<=n
    ·have i1:((i:Nat):Int)<=(n:Nat):=zO;have i2:decide (((i:Nat):Int)<=(n:Nat))=true:=zDT i1
     have HSYS:zI (zim x2 (phA l) (zhf l (i-1)) (zhf l i)):=zH (by
      have h:=HP.o.sys (i-1) zO;rw[HN.o,show i-1+1=i by omega]at h;exact h)
     have HFW:zI (wrap64 ((zag (i-1):Nat)*((i:Nat):Int))=(zag i:Nat)):=zH (by
      have h:=fact_wrap (i-1) (by have:=HH3.o;omega);rwa[show i-1+1=i by omega]at h)
     have HMT7:=zH (HMT.o.bw HBR.o)
     go_wp2_with (first
      |(go_at_call 98;(with_reducible refine(solve_reg _ _ x2 (phA l) (zhf l (i-1)) (zhf l i) _ HMT7.o HX.o HSYS.o).mono ?_);rintro e9 w9 ⟨v9,rfl,hv9,hb9,hn9⟩;obtain⟨p1,p2,p3,rfl,_⟩:=id hv9.sl;(have hp2:p2=x2:=by have h:=hv9.len;rw[zda]at h;exact h);subst hp2;have HX9:=zH hv9;have HB9:=zH (zaa HBR.o hb9);clear hv9 hb9 hn9))
     go_roundg (n+2- (i+1));(case measure=>(have:=HG.o;omega));case rel=>exact⟨i+1,_,_,zO,zO,rfl,rfl,congrArg (Value.int .i64) HFW.o,by go_num,HX9.o,HB9.o⟩
    ·obtain rfl:i=n+1:=zO;have i1:¬ (((n+1:Nat):Int)<=(n:Nat)):=zO;have i2:decide (((n+1:Nat):Int)<=(n:Nat))=false:=zDF i1;have hnn:n+1-1=n:=rfl;(rw[hnn]at HX |-);obtain⟨_,c0,c1,c2,c3,_⟩:=HCB.o.bS HBR.o;have HSCA:zI (ScaP l.start (zxa x2 (zhf l n)) (zag n)):=zH (by have h:=HP.o.sca;rwa[HN.o]at h)
     go_wp2_with (first
      |(go_at_call 99;(with_reducible refine(zwp _ _ l.start (zxa x2 (zhf l n)) (zag n) _ (HSB.o.bw HBR.o) HX.o HSCA.o).mono ?_);rintro e9 w9 ⟨v9,rfl,hv9,hb9⟩;obtain⟨t9,a91,l91,k91,a92,l92,k92,rfl⟩:=hv9.iF;have HT9:=zH ((HTB.o.bS HBR.o).bS hb9);have HB9:=zH (zaa (zaa HWB.o HBR.o) hb9);have HV9:=zH hv9;obtain⟨_,d0,d1,d2,f0,f1,f2⟩:=HT9.o;clear hv9 hb9 c0 c1 c2 c3))
     refine zla rfl rfl Tryz.aggF Tryz.sizeF (HT9.o.set _ _ _) rfl ?_;refine⟨_,rfl,?_,zga HB9.o (zLS _) _ _ _⟩;unfold momQ;rw[HN.o];have h:=HV9.o.set3 HT9.o zZ zZ (.bool t9) (.slice a91 l91 k91) (.slice a92 l92 k92);rw[HN.o]at h;exact h
end Go.Proofs.YtlpdkbmmbdfoiaaGreat
namespace Go.Proofs.YtlpdkbmmbdfoiaaGreat
section
variable {n D B β F K:Nat} {A:Mx} {b x:Nat->Rat}
def zjp (D B β n F K:Nat):Nat:=bD D β*F*(bN n D B β*K)
theorem cube_mono {F' K':Nat} (h1:F'<=F) (h2:K'<=K):zjp D B β n F' K'<=zjp D B β n F K:=zMM (zML _ h1) (zML _ h2)
theorem cube3 {P Q:Nat} (h:P<=Q):2*(P*(P*P))<=2*(Q*(Q*Q)):=zML _ (zMM h (zMM h h))
theorem sys_big {F' K':Nat} (hx:zrn n D B β F K) (hc:2*(zjp D B β n F K*(zjp D B β n F K*zjp D B β n F K))<2^4096) (n1:1<=n) (n20:n<=20) (hA:zvm n n D B A) (reg:dt n A≠0) (hfA:fitM n n A)
 (h1:1<=F') (h2:F'<=F) (h3:1<=K') (h4:K'<=K) (hb:∀i,i<n->over F' K' (b i)) (hfb:∀i,i<n->fits (b i)) (hfx:∀i,i<n->fits (x i)) (hw:wtF n n A+wts (zxa n b)<=1900) (heq:∀i,i<n->sg n (λ j=>A i j*x j)=b i):
 zim n A b x/\zrm n (n+1) (zra n A λ i _=>b i):=by
 have hy:=hx.mono h1 h2 h3 h4;have hr:=zcf (B:=λ i _=>b i) reg;have hM:zvm n n D B (zra n A λ i _=>b i):=λ i j hi hj=>by rw[zhe hj];exact hA i j hi hj
 have hR:∀i j,i<n->n<=j->j<n+1->over (D*F') (B*K') (zra n A (λ i _=>b i) i j):=λ i j hi hj1 hj2=>by
  have e:zra n A (λ i _=>b i) i j=b i:=by unfold zra;rw[zIN (Nat.not_lt.2 hj1)]
  rw[e];have g1:=over.scale (m:=D) hx.d0 (hb i hi);rw[Nat.mul_comm F' D]at g1;refine g1.mono ?_;rw[Nat.mul_comm B K'];exact zML _ hx.db
 refine⟨⟨n1,zO,hfA,hfb,hfx,hw,reg,zsn hy n1 (zLS n) hM hR hr,heq⟩,?_⟩;obtain⟨_,el,dd,p1,p2⟩:=zhq hy.b hy.d0 hy.db hy.f0 hy.k0 hy.pw1 hy.pw2 n1 (zLS n) hM hR hr;refine slimU_el n1 (zLS n) hr el dd (Nat.mul_pos p1 h1) (Nat.mul_pos p2 h3) (zLL ?_ hc);exact cube3 (cube_mono h2 h4)
end
theorem z3R :∀n,n<4->zrn n 840 25200 (dtB n 25200) (2^100) (2^100):=by
 intro n hn
 have h:∀n,n<4->(bD 840 (dtB n 25200)*2^100*(bD 840 (dtB n 25200)*bN n 840 25200 (dtB n 25200)*(bD 840 (dtB n 25200)*2^100))<2^4096/\
  bN n 840 25200 (dtB n 25200)*2^100*(bD 840 (dtB n 25200)*bN n 840 25200 (dtB n 25200)*(bD 840 (dtB n 25200)*2^100))+bN n 840 25200 (dtB n 25200)*bD 840 (dtB n 25200)*(bN n 840 25200 (dtB n 25200)*2^100)*(bD 840 (dtB n 25200)*2^100)<2^4096/\
  (840*dtB n 25200*840)^n<2^4096/\(bW n 840 25200 (dtB n 25200))^n<2^4096):=by decide+kernel
 obtain⟨h1,h2,h3,h4⟩:=h n hn;exact⟨zLR _,zD,zD,by decide+kernel,by decide+kernel,h1,h2,h3,h4⟩
theorem z3C :∀n,n<4->2*(zjp 840 25200 (dtB n 25200) n (2^100) (2^100)*(zjp 840 25200 (dtB n 25200) n (2^100) (2^100)*zjp 840 25200 (dtB n 25200) n (2^100) (2^100)))<2^4096:=by decide+kernel
theorem z3B :∀n,n<4->dtB n 25200<=2^47:=by decide+kernel
theorem z9R :∀n,n<10->zrn n 840 50400 (dtB n 50400) (2^20) (2^20):=by
 intro n hn
 have h:∀n,n<10->(bD 840 (dtB n 50400)*2^20*(bD 840 (dtB n 50400)*bN n 840 50400 (dtB n 50400)*(bD 840 (dtB n 50400)*2^20))<2^4096/\
  bN n 840 50400 (dtB n 50400)*2^20*(bD 840 (dtB n 50400)*bN n 840 50400 (dtB n 50400)*(bD 840 (dtB n 50400)*2^20))+bN n 840 50400 (dtB n 50400)*bD 840 (dtB n 50400)*(bN n 840 50400 (dtB n 50400)*2^20)*(bD 840 (dtB n 50400)*2^20)<2^4096/\
  (840*dtB n 50400*840)^n<2^4096/\(bW n 840 50400 (dtB n 50400))^n<2^4096):=by decide+kernel
 obtain⟨h1,h2,h3,h4⟩:=h n hn;exact⟨zLR _,zD,zD,by decide+kernel,by decide+kernel,h1,h2,h3,h4⟩
theorem z9C :∀n,n<10->2*(zjp 840 50400 (dtB n 50400) n (2^20) (2^20)*(zjp 840 50400 (dtB n 50400) n (2^20) (2^20)*zjp 840 50400 (dtB n 50400) n (2^20) (2^20)))<2^4096:=by decide+kernel
theorem z9B :∀n,n<10->dtB n 50400<=2^160:=by decide+kernel
theorem sol_big {n B L:Nat} {A:Mx} {b x:Nat->Rat} {F K:Nat} (hDB:840<=B) (hA:zvm n n 840 B A) (reg:dt n A≠0) (hL:dtB n B<=L) (n1:1<=n) (h1:1<=F) (h3:1<=K) (hb:∀i,i<n->over F K (b i)) (hx:∀i,i<n->sg n (λ j=>A i j*x j)=b i):
 ∃F' K',1<=F'/\F'<=L*F/\1<=K'/\K'<=n*L*K/\∀i,i<n->over F' K' (x i):=by
 obtain⟨E,e1,e2,e3⟩:=sol_gen zD hDB hA reg zO hb hx;have hB1:0<dtB n B:=dtB_pos zO n;refine⟨E*F,n*(dtB n B*K),Nat.mul_pos zO h1,zMR _ (zLT e2 hL),Nat.mul_pos n1 (Nat.mul_pos hB1 h3),?_,e3⟩;rw[Nat.mul_assoc];exact zML _ (zMR _ hL)
section
variable {l:LQ}
theorem zen (h:znb l) (hs:SmL 840 5040 l) (hn:l.start.length<=3):∀m,∃F K,1<=F/\F<=(2^47)^m/\1<=K/\K<=(2^49)^m/\∀i,i<l.start.length->over F K (zhf l m i)
 | 0=>⟨1,1,zD,zD,zD,zD,λ i hi=>zch⟩
 | m+1=>by
   obtain⟨F,K,h1,h2,h3,h4,h5⟩:=zen h hs hn m;obtain⟨F',K',g1,g2,g3,g4,g5⟩:=sol_big zD (hs.phA h zD) h.reg (z3B _ zO) h.n1 h1 h3 h5 (h.mom_eq m);refine⟨F',K',g1,?_,g3,?_,g5⟩
   ·rw[Nat.pow_succ,Nat.mul_comm];exact zLT g2 (zML _ h2)
   ·rw[Nat.pow_succ,Nat.mul_comm];refine zLT g4 (zMM ?_ h4);refine zLT (zMR _ hn) (by decide+kernel)
theorem pow_47 :∀m,m<4->(2^47)^m<2^150/\(2^49)^m<2^150:=by decide+kernel
theorem pow_46 :∀m,m<3->(2^47)^m<=2^99/\(2^49)^m<=2^99:=by decide+kernel
theorem mom_sys (h:znb l) (hs:SmL 840 5040 l) (hn:l.start.length<=3) {m:Nat} (hm:m<3):zim l.start.length (phA l) (zhf l m) (zhf l (m+1))/\zrm l.start.length (l.start.length+1) (zra l.start.length (phA l) λ i _=>zhf l m i):=by
 obtain⟨F,K,h1,h2,h3,h4,h5⟩:=zen h hs hn m;obtain⟨F',K',g1,g2,g3,g4,g5⟩:=zen h hs hn (m+1);obtain⟨p1,p2⟩:=pow_46 m hm;obtain⟨p3,p4⟩:=pow_47 (m+1) zO;have hA:=hs.phA h zD;have hlt:2^99<2^100:=by decide+kernel
 have hn4:l.start.length<4:=zO
 refine sys_big (z3R _ hn4) (z3C _ hn4) h.n1 zO hA h.reg (λ i j hi hj=>(hA i j hi hj).fits zD (ztb (a:=15) zD zD) (ztb (a:=10) zD zD)) h1 (zLT h2 (zLT p1 (zLO hlt))) h3 (zLT h4 (zLT p2 (zLO hlt))) h5
  (λ i hi=>(h5 i hi).fits zO (ztb (a:=100) (zLL (zLT h4 p2) hlt) zD) (ztb (a:=100) (zLL (zLT h2 p1) hlt) zD))
  (λ i hi=>(g5 i hi).fits zO (ztb (a:=150) (zLL g4 p4) zD) (ztb (a:=150) (zLL g2 p3) zD)) ?_ (h.mom_eq m)
 have w1:=wtF_le (K:=25) (n:=l.start.length) (m:=l.start.length) (A:=phA l) λ i j hi hj=>(hA i j hi hj).wt (a:=15) (b:=10) zD zD zD
 have w2:=zoq (n:=l.start.length) (K:=200) (f:=zhf l m) λ i hi=>(h5 i hi).wt (a:=100) (b:=100) zO (zLL (zLT h4 p2) hlt) (zLL (zLT h2 p1) hlt)
 have w3:l.start.length*(l.start.length*25)<=3*(3*25):=zMM hn (zMR _ hn);omega
theorem fact_lt :∀n,n<4->zag n<100:=zD
theorem mom_three (ht:zze 3 l) {n:Nat} (h3:n<=3):MomP l n (zag n)/\∀m,m<n->zrm l.start.length (l.start.length+1) (zra l.start.length (phA l) λ i _=>zhf l m i):=by
 have h:=ht.law zD;have hs:=ht.sm;have hn:=ht.len;refine⟨⟨λ m hm=>(mom_sys h hs hn zO).1,?_⟩,λ m hm=>(mom_sys h hs hn zO).2⟩;obtain⟨F,K,g1,g2,g3,g4,g5⟩:=zen h hs hn n;obtain⟨p3,p4⟩:=pow_47 n zO;have h1:=zgi (N:=l.start.length) (f:=zag n) (DS:=8) (s:=stQ l) zO zO (fact_lt n zO) zD zD (λ i hi=>(ht.start8 hi).mono zD) (by omega:F≠0) (zRR (zLL g2 p3) (by decide+kernel)) (zRR (zLL g4 p4) (by decide+kernel)) g5;rwa[zqn]at h1
end
theorem wts_one {K L r:Nat} {f:Nat->Rat} (h2:wt (f r)<=K+L):∀n,(∀j,j<n->j≠r->wt (f j)<=K)->wts (zxa n f)<=n*K+if r<n then L else 0
 | 0,h=>by simp[zxa,wts]
 | n+1,h=>by
   (have h1:=wts_one h2 n λ j hj=>h j zO);(have e:zxa (n+1) f=zxa n f++ [f n]:=by unfold zxa;rw[List.range_succ,List.map_append];rfl);rw[e,znq,Nat.succ_mul];by_cases hr:r=n
   ·subst hr;rw[zIN (zIR r)]at h1;rw[zIP (zSS r)];omega
   ·have h3:=h n (zSS n) (λ e=>hr e.symm);by_cases hl:r<n
    ·rw[zIP hl]at h1;rw[zIP zO];omega
    ·rw[zIN hl]at h1;rw[zIN zO];omega
theorem wtF_row {n m R:Nat} {A:Mx} (h:∀i,i<n->wts (zxa m (A i))<=R):wtF n m A<=n*R:=by
 unfold wtF zqp
 have h2:=zup (l:=rawM n m A) (g:=λ l=>wts (qs l)) (K:=R) λ l hl=>by
  obtain⟨i,hi,rfl⟩:=zcn hl;rw[zxf];exact h i hi
 rw[zsc]at h2;exact h2
theorem tf_wt :∀x,x<6->∀y,y<8->wt (0-fq false (x+1) (y+1))<=7:=by decide+kernel
theorem tf_wt0 :wt (0-0)<=7/\wt 0<=7:=by decide+kernel
section
variable {a b:LQ}
theorem zze.wt_rt {m:Nat} (h:zze m a) {i j:Nat} (hi:i<a.start.length) (hj:j<a.start.length):wt (0-rtQ a i j)<=7:=by
 obtain⟨n,h1,h2,h3⟩:=h;have hn:a.start.length=n:=h3.sl;rw[hn]at hi hj;rcases(h3.rt_get hi hj).2.2 with⟨x,y,hx,hy,e⟩ | e
 ·unfold rtQ;rw[e];exact tf_wt x hx y hy
 ·unfold rtQ;rw[e];exact tf_wt0.1
theorem bf_over (ha:znb a) (hb:znb b) (hsa:SmL 840 5040 a) (hsb:SmL 840 5040 b):zvm (bfN a b) (bfN a b) 840 50400 (bfA a b):=λ r c hr hc=>by
 obtain⟨c1,c2⟩:=ztg hb hc;obtain⟨r1,r2⟩:=ztg hb hr;unfold bfA bf2;split
 ·exact(over.add zD (hsa.o ha zD r1) (hsb.o hb zD r2)).mono zD
 ·split
  ·exact(over.sub zD (over.zero 840 0) (hsa.r _ _ r1 c1)).mono zD
  ·split
   ·exact(over.sub zD (over.zero 840 0) (hsb.r _ _ r2 c2)).mono zD
   ·exact over.zero _ _
theorem bf_wt {m:Nat} (ta:zze m a) (tb:zze m b) (hb:znb b) {r c:Nat} (hr:r<bfN a b) (hc:c<bfN a b) (hne:c≠r):wt (bfA a b r c)<=7:=by
 obtain⟨c1,c2⟩:=ztg hb hc;obtain⟨r1,r2⟩:=ztg hb hr;unfold bfA bf2;rw[zgm,zIN hne];split
 ·exact ta.wt_rt r1 c1
 ·split
  ·exact tb.wt_rt r2 c2
  ·exact tf_wt0.2
theorem bef_three (ta:zze 3 a) (tb:zze 3 b):BefP a b/\zrm (bfN a b) (bfN a b+1) (zra (bfN a b) (bfA a b) λ i _=>bfR a b i):=by
 have ha:=ta.law zD;have hb:=tb.law zD;have hN:bfN a b<=9:=zMM ta.len tb.len;have hN1:1<=bfN a b:=Nat.mul_pos (by have:=ha.n1;omega) (by have:=hb.n1;omega);have hA:=bf_over ha hb ta.sm tb.sm;have reg:=bf_reg ha hb;have heq:=bf_eq ha hb;have hr:∀r,r<bfN a b->over 840 5040 (bfR a b r):=λ r hr=>ta.sm.e _ (ztg hb hr).1
 obtain⟨F,K,g1,g2,g3,g4,g5⟩:=sol_big zD hA reg (z9B _ zO) hN1 (F:=840) (K:=5040) zD zD hr heq;have q1:F<2^180:=zLL g2 (by decide+kernel);have q2:K<2^180:=zLL (zLT g4 (zMR _ (zMR _ hN))) (by decide+kernel)
 have hw1:wtF (bfN a b) (bfN a b) (bfA a b)<=bfN a b*82:=wtF_row λ i hi=>by
  have h1:=wts_one (K:=7) (L:=19) (r:=i) (f:=bfA a b i) ((hA i i hi hi).wt (a:=16) (b:=10) zD zD zD) (bfN a b) λ j hj hne=>bf_wt ta tb hb hi hj hne
  rw[zIP hi]at h1;omega
 have hw2:=zoq (n:=bfN a b) (K:=23) (f:=bfR a b) λ i hi=>(hr i hi).wt (a:=13) (b:=10) zD zD zD
 obtain⟨s1,s2⟩:=sys_big (z9R _ zO) (z9C _ zO) hN1 zO hA reg (λ i j hi hj=>(hA i j hi hj).fits zD (ztb (a:=16) zD zD) (ztb (a:=10) zD zD)) zD (by decide+kernel) zD (by decide+kernel) hr
  (λ i hi=>(hr i hi).fits zD (ztb (a:=13) zD zD) (ztb (a:=10) zD zD))
  (λ i hi=>(g5 i hi).fits zO (ztb (a:=180) q2 zD) (ztb (a:=180) q1 zD)) zO heq
 refine⟨⟨s1,?_⟩,s2⟩;refine zgi zO zO zD (DS:=64) zD zD (λ r hr=> ?_) (by omega:F≠0) (zRR q1 (by decide+kernel)) (zRR q2 (by decide+kernel)) g5;obtain⟨r1,r2⟩:=ztg hb hr;exact(over.mul (ta.start8 r1) (tb.start8 r2)).mono zD
end
end Go.Proofs.YtlpdkbmmbdfoiaaGreat
namespace Go.Proofs.YtlpdkbmmbdfoiaaGreat
set_option maxHeartbeats 3200000
open Go.RowKit
theorem rlow_any (va:Value) (s:Bool) (n d:Nat) (w:World) (ha:zzb w va s n d) (hk:okN n d):Calls Tryz.prog 92 #[va] w (RF1 w (fq s n d)):=by
 obtain⟨x0,y0,rfl,h1,h2⟩:=id ha;obtain⟨a11,l11,k11,rfl,_⟩:=h1.slen.1;obtain⟨a12,l12,k12,rfl,_⟩:=h2.slen.1;have hb1:=zca w (.cells #[.bool s, .slice a11 l11 k11, .slice a12 l12 k12] 38);have hb2:=zca (w.alloc (.cells #[.bool s, .slice a11 l11 k11, .slice a12 l12 k12] 38)) (.cells #[.bool false, .slice none 0 0, .slice none 0 0] 38);have HC:=zH ((C3.new w 38 (.bool s) (.slice a11 l11 k11) (.slice a12 l12 k12)).bS hb2);have HT:=zH (C3.newB (b:=w.heap.size+1) (w.alloc (.cells #[.bool s, .slice a11 l11 k11, .slice a12 l12 k12] 38)) 38 (.bool false) (.slice none 0 0) (.slice none 0 0) (by show(w.heap.push _).size=_;rw[Array.size_push]));have HB:=zH (zaa hb1 hb2);have HA:=zH (ha.bw HB.o);have HK:=zH hk;obtain⟨q,hq⟩:∃q,fq s n d=q:=⟨_,rfl⟩;rw[hq]
 have HRED:zI (∀w0 vx,zzb w0 vx s n d->Calls Tryz.prog 116 #[vx] w0 (RF0 w0 q)):=zH (λ w0 vx h=>by
  refine(zji vx _ _ _ w0 h).mono ?_;rintro e w' ⟨v,er,rfl,hb,h1,_⟩;obtain⟨rfl,h2⟩:=h1 HK.o;rw[hq]at h2;exact⟨v,rfl,h2,hb⟩)
 clear ha hb1 hb2 hk hq h1 h2;go_enter Tryz.func92,Tryz.ntmps92;go_upto_region 1 with fail;generalize (w.alloc (.cells #[.bool s, .slice a11 l11 k11, .slice a12 l12 k12] 38)).alloc (.cells #[.bool false, .slice none 0 0, .slice none 0 0] 38)=W2 at *
 obtain⟨_,c0,c1,c2,_,_,_⟩:=HC.o
 go_wp2_with (first
  |(go_at_call 116;(with_reducible refine(HRED.o _ _ HA.o).mono ?_);rintro e3 w3 ⟨v3,rfl,hv3,hb3⟩;obtain⟨t3,a31,l31,k31,a32,l32,k32,rfl⟩:=hv3.iF;have hba:=zca w3 (.cells #[.bool t3, .slice a31 l31 k31, .slice a32 l32 k32] 38);have HT3:=zH ((HT.o.bS hb3).bS hba);have HV3:=zH (hv3.bw hba);have HB3:=zH (zaa HB.o (zaa hb3 hba));obtain⟨_,d0,d1,d2,f0,f1,f2⟩:=HT3.o;clear hv3 hb3 hba c0 c1 c2))
 refine zab rfl rfl Tryz.aggF Tryz.sizeF (HT3.o.set _ _ _) rfl ?_;exact⟨_,rfl,HV3.o.set3 HT3.o zZ zZ _ _ _,zga HB3.o (zLS _) _ _ _⟩
theorem zwi (n:Nat) (w:World) (hn:n<=16):
 Calls Tryz.prog 165 #[.int .i64 (n:Nat)] w (λ e w'=>∃v,e= .returned v/\zua w' 38 w.heap.size v (zcb n)/\Below w.heap.size w w'):=by
 obtain⟨i3,hi3,hz3,hs3,hy3⟩:=info_parts Tryz.infoF;have hAP:=zgh (P:=Tryz.prog) 25 38 i3 Tryz.underlying25 hi3 hz3 hs3 hy3;clear hi3 hz3 hs3 hy3;go_enter Tryz.func165,Tryz.ntmps165;go_wp2_with fail;go_loopg [3,4] (n) (λ g u3 u4 wr=>∃ (i:Nat),i<=n/\g=n-i/\u4= .int .i64 i/\zua wr 38 w.heap.size u3 (zcb i)/\zvc u3/\Below w.heap.size w wr);case atStart=>exact⟨0,zZL _,rfl,rfl,zua.nil _ _ _,(zua.nil w 38 w.heap.size).sl,zBR _ _⟩
 case round=>
  obtain⟨i,hin,hg,rfl,hr,hsl,hbr⟩:=hrel;obtain⟨r1,r2,r3,rfl,_⟩:=id hsl;obtain⟨wx,hwx⟩:∃w6,w6=wr:=⟨_,rfl⟩;subst hwx;have HG:=zH hg;have HR:=zH hr;have HBR:=zH hbr;clear hg hr hbr;by_cases hil:i<n
  ·have i2:(i:Int)<(n:Nat):=zO
   go_wp2_with (first
    |(go_at_call 20;(with_reducible refine(zof _).mono ?_);rintro e7 w7 ⟨v7,rfl,hv7,hb7⟩;obtain⟨t7,a71,l71,k71,a72,l72,k72,rfl⟩:=hv7.iF;have hr7:=HR.o.moves (zkb.bw (B:=w.heap.size) hb7) (zLR _);have hb8:=zea HBR.o hb7 HBR.o.size;have hsz8:=hb8.size;have hlz:(zcb i).length<=1000:=by rw[zpa];omega)
    |(at_builtin;refine hAP w7 rfl _ _ rfl w.heap.size _ (.slice r1 r2 r3) (zcb i) rfl hr7 _ _ _ 0 hv7 rfl hlz hsz8 ?_;intro v9 w9 ho9 hg9 hn9 hq9 sv9;have HO9:=zH ho9;have HS9:=zH sv9;have HB9:=zH (hb8.trans (zja hg9 hsz8 (λ k hk=>(hr7.block k hk).1)));clear ho9 hg9 hn9 hq9 sv9 hr7 hb8 hb7 hv7 hsz8 hlz))
   go_roundg (n- (i+1));case measure=>(have:=HG.o;omega)
   case rel=>exact⟨i+1,zO,rfl,by go_num,by
    have h:=HO9.o;(have e:zcb i++ [0]=zcb (i+1):=by unfold zcb;rw[<-List.replicate_succ']);rwa[e]at h,HS9.o,HB9.o⟩
  ·obtain rfl:i=n:=zO;go_wp2_with fail;go_ret;exact⟨_,rfl,HR.o,HBR.o⟩
set_option maxRecDepth 100000 in
theorem zol (n:Nat) (w:World) (hn1:1<=n) (hn:n<=4):
 Calls Tryz.prog 91 #[.int .i64 (n:Nat)] w (λ e w'=>∃vs ve vr rs,e= .returned (.agg #[.string { data:=#[] },vs,vr,ve])/\zpe w' w.heap.size vs ve vr rs (zcb n) (zcb n) (List.replicate n (zcb n))/\Below w.heap.size w w'):=by
 obtain⟨i4,hi4,hz4,hs4,hy4⟩:=info_parts Tryz.infoRow;have hAR:=fun{ops:Array Oper} {o:Oper} {a:Act} {w:World} {K:Act->World->Prop} {Q:Exit->Act->World->Prop} {E:Prop}=>zjm (P:=Tryz.prog) 24 25 i4 Tryz.underlying24 hi4 hz4 hs4 hy4 (ops:=ops) (o:=o) (a:=a) (w:=w) (K:=K) (Q:=Q) (E:=E)
 clear hi4 hz4 hs4 hy4;have hT:=C4.new w 52 (.string { data:=#[] }) (.slice none 0 0) (.slice none 0 0) (.slice none 0 0);have hbw:=zca w (.cells #[.string { data:=#[] }, .slice none 0 0, .slice none 0 0, .slice none 0 0] 52);go_enter Tryz.func91,Tryz.ntmps91;go_upto_region 1 with fail;generalize hW:w.alloc (.cells #[.string { data:=#[] }, .slice none 0 0, .slice none 0 0, .slice none 0 0] 52)=W2 at *
 have HT:=zH hT;have HBW:=zH hbw;clear hT hbw hW;have tok1:True:=trivial
 go_wp2_with (first
  |(go_at_call 165;have _t:=tok1;(with_reducible refine(zwi n _ zO).mono ?_);rintro e5 w5 ⟨v5,rfl,hv5,hb5⟩;obtain⟨s1,s2,s3,rfl,_⟩:=id hv5.sl;have HV5:=zH hv5;have HB5:=zH hb5;clear hv5 hb5 tok1 _t)
  |(go_at_call 165
    (with_reducible refine(zwi n _ zO).mono ?_);rintro e6 w6 ⟨v6,rfl,hv6,hb6⟩
    obtain⟨e1,e2,e3,rfl,_⟩:=id hv6.sl;have hba:=zca w6 (.cells #[.string { data:=#[] }, .slice s1 s2 s3, .slice none 0 0, .slice e1 e2 e3] 52);have HB6:=zH (zaa (zaa HB5.o hb6) hba);have HC6:=zH (C4.new w6 52 (.string { data:=#[] }) (.slice s1 s2 s3) (.slice none 0 0) (.slice e1 e2 e3));obtain⟨g5,k1,_,k3,k4,_⟩:=HV5.o.blk (by rw[zpa];exact hn1);obtain⟨g6,m1,_,m3,m4,_⟩:=hv6.blk (by rw[zpa];exact hn1);have HW6:zI (zpe w6 W2.heap.size (.slice s1 s2 s3) (.slice e1 e2 e3) (.slice none 0 0) [] (zcb n) (zcb n) []):=zH ⟨HV5.o.moves (zkb.bw (B:=W2.heap.size) hb6) (zLR _),hv6.mono HB5.o.size,zkc.nil _ _ _ _,rfl,λ j h=>(by cases h),(by rw[k1,m1];intro e;injection e with e;omega),λ j h=>(by cases h),λ i j h=>(by cases h),zLT HB5.o.size hb6.size⟩;have HL6:=zH (HW6.o.bw hba);have HSZ:zI (W2.heap.size<=w6.heap.size):=zH (zLT HB5.o.size hb6.size);clear hv6 hb6 hba k1 k3 k4 m1 m3 m4 HV5 HB5 HW6))
 obtain⟨b4,hb4⟩:∃b,w6.heap.size=b:=⟨_,rfl⟩;rw[hb4]at HC6 |-
 have HB4:zI (W2.heap.size<=b4):=zH (by rw[<-hb4];exact HSZ.o);clear hb4;go_loopg [4] (n) (λ g u4 wr=>∃ (i:Nat) (vr:Value) (rs:List Value),i<=n/\g=n-i/\u4= .int .i64 i/\zpe wr W2.heap.size (.slice s1 s2 s3) (.slice e1 e2 e3) vr rs (zcb n) (zcb n) (List.replicate i (zcb n))/\(rs= []->vr.ownBlock=none)/\C4 wr b4 (.string { data:=#[] }) (.slice s1 s2 s3) vr (.slice e1 e2 e3)/\Below W2.heap.size W2 wr);case atStart=>exact⟨0,_,_,zZL _,rfl,rfl,HL6.o,λ _=>rfl,HC6.o,HB6.o⟩
 case round=>
  obtain⟨i,vr,rs,hin,hg,rfl,hl,hnv,hc,hbr⟩:=hrel;obtain⟨wx,hwx⟩:∃w6,w6=wr:=⟨_,rfl⟩;subst hwx;have HG:=zH hg;have HL:=zH hl;have HNV:=zH hnv;have HC:=zH hc;have HBR:=zH hbr;clear hg hl hnv HL6 HC6 HB6;by_cases hil:i<n
  ·have i1:(0:Int)<=(i:Int):=zO;have i2:(i:Int)<(n:Nat):=zO;go_wp2_with fail;obtain⟨hlt4,c0,c1,c2,c3,f0,f1,f2,f3⟩:=hc;obtain⟨y1,y2,y3,rfl,_⟩:=id HL.o.ra.sl;have hbD:=zfa (B:=wx.heap.size) wx;have HLD:=zH (HL.o.bw hbD);have HCD:=zH (HC.o.bS hbD);have HBD:=zH (zea HBR.o hbD HBR.o.size);clear hbr;refine wpL.start 7 (λ w'=>w'.cell? ⟨b4,2,none⟩=some (.slice y1 y2 y3)) (by kernel_rfl) (zba hbD c2) (λ hHeld=> ?_);clear c0 c1 c2 c3 f0 f1 f2 f3 hbD;generalize wx.drew=wd at *
   refine zU 0 ?_;refine zU 2 ?_;refine zY 1 ?_;(refine zW 3 ?_;intro K hK);refine zsa 165 #[.int .i64 (n:Nat)] ?_ ?_ (zwi n wd zO) ?_
   ·rfl
   ·go_simp
   rintro e7 w7 ⟨v7,rfl,hv7,hb7⟩;obtain⟨r1,r2,r3,rfl,_⟩:=id hv7.sl;refine⟨_,rfl,?_⟩;refine hK.o _ _ (λ _=>zba hb7 hHeld) ?_;have h7:=zba hb7 hHeld;clear hK K hHeld;refine zS ?_;(refine zW 4 ?_;intro K hK);rw[zIP (by rfl)];go_simp;have hb8:=zca w7 (.cells #[.slice r1 r2 r3] 25);refine hK.o _ _ (λ _=>zba hb8 h7) ?_;clear hK K;refine zS ?_;have hle:=HBD.o.size;have hrow:=(hv7.mono hle).moves (zkb.bw (B:=W2.heap.size) hb8) (zLR _);have L8:=(HLD.o.bw hb7).bw hb8;(have hzl:0<(zcb n).length:=by rw[zpa];exact hn1);have n1:=zcq HLD.o.s hv7 hzl;have n2:=zcq HLD.o.e hv7 hzl;(have n3:∀ (j:Nat) (h:j<rs.length),rs[j].ownBlock≠(Value.slice r1 r2 r3).ownBlock:=λ j h=>(zcq (HLD.o.rows j h (by rw[<-HLD.o.rl];exact h)) hv7 hzl).symm);(have hrl:rs.length<=1000:=by have h:=HLD.o.rl;rw[zRP]at h;omega);have C8:=(HCD.o.bS hb7).bS hb8;have hb48:=zea (zea HBD.o hb7 HBD.o.size) hb8 (zLT HBD.o.size hb7.size);(have hc8:(w7.alloc (.cells #[.slice r1 r2 r3] 25)).cell? ⟨w7.heap.size,0,none⟩=some (.slice r1 r2 r3):=by go_simp);have hsz8:=hb48.size;have hslr:=hv7.sl;generalize w7.alloc (.cells #[.slice r1 r2 r3] 25)=w8 at *
   generalize w7.heap.size=g7 at *
   clear hv7 hb7 hb8 h7 HLD HCD hle;(refine zW 5 ?_;intro K hK);refine hAR rfl _ _ (by rfl) W2.heap.size (.slice y1 y2 y3) rs (by rfl) L8.ra (.slice r1 r2 r3) hslr g7 (by rfl) hc8 hrl hsz8 ?_;intro v9 w9 ho9 hg9 hn9 hs9;obtain⟨x1,x2,x3,rfl,_⟩:=id hs9
   have hnv:(Value.slice y1 y2 y3).ownBlock≠some b4:=by
    rcases Nat.eq_zero_or_pos rs.length with h0 | h0
    ·rw[HNV.o (List.length_eq_zero_iff.1 h0)];intro e;cases e
    ·exact L8.ra.neB h0 (λ j hj=>(L8.rows j hj (by rw[<-L8.rl];exact hj)).sl) C8.c0
   have C9:=C8.grown hg9 hnv;have P9:zpe.Pos (.slice x1 x2 x3) (rs++ [.slice r1 r2 r3]) (zcb n) (zcb n) (List.replicate (i+1) (zcb n)):=zyj hn1 (λ h=>by simp at h);have h9:=L8.push hrow n1 n2 n3 ho9 hg9 hn9;rw[<-List.replicate_succ']at h9;have HL10:=zH (h9.1.over P9 C9.c0 (p:=⟨b4,2,none⟩) rfl C9.c2 zZ (.slice x1 x2 x3));have HC10:=zH (C9.set2 (.slice x1 x2 x3));have HB10:=zH ((hb48.trans h9.2).setCell (p:=⟨b4,2,none⟩) HB4.o (.slice x1 x2 x3));have hc92:=C9.c2;have hf92:=C9.f2;refine hK.o _ _ (λ h=>hc92) ?_;clear hK K h9 P9 C9 C8 L8 hnv hrow n1 n2 n3 ho9 hg9 hn9 hb48;refine zS ?_;(refine zW 6 ?_;intro K hK);rw[zIP (by rfl)];go_simp;refine hK.o _ _ (λ h=>hc92) ?_;clear hK K;refine zS ?_;(refine zW 7 ?_;intro K hK);rw[zIP (by rfl)];go_simp;refine hK.o _ _ (λ h=>by first | cases h | simp at h) ?_;clear hK K hc92 hf92;refine wpL.done (by kernel_rfl) ?_ _;go_wp2_with fail;go_roundg (n- (i+1));(case measure=>(have:=HG.o;omega));case rel=>exact⟨i+1,_,_,zO,rfl,by go_num,HL10.o,λ h=>by simp at h,HC10.o,HB10.o⟩
  ·obtain rfl:i=n:=zO;have HT2:=zH (HT.o.bS hbr);obtain⟨hlt4,c0,c1,c2,c3,f0,f1,f2,f3⟩:=hc;obtain⟨tlt4,d0,d1,d2,d3,g0,g1,g2,g3⟩:=HT2.o;obtain⟨y1,y2,y3,rfl,_⟩:=id HL.o.ra.sl;have P9:zpe.Pos (.slice y1 y2 y3) rs (zcb i) (zcb i) (List.replicate i (zcb i)):=zyj hn1 HNV.o;have HL9:=zH ((HL.o.set4 P9 HT2.o zZ zZ zZ { data:=#[] } (.slice s1 s2 s3) (.slice y1 y2 y3) (.slice e1 e2 e3)).mono HBW.o.size);have HB9:=zH (zjb (zaa HBW.o hbr) (zLR _) (.string { data:=#[] }) (.slice s1 s2 s3) (.slice y1 y2 y3) (.slice e1 e2 e3));clear hbr P9;go_wp2_with fail;refine zvj rfl rfl Tryz.aggL Tryz.sizeL (HT2.o.set _ _ _ _) rfl ?_;exact⟨_,_,_,_,rfl,HL9.o,HB9.o⟩
theorem len_bits {w:World} {v:Value} {m:Nat} (h:zub w v m):(slen v<=1↔zza m<=32):=by
 have h1:slen v=zha m:=h.1.len;rw[h1];exact⟨λ h=>zdh (k:=1) h,λ h=>zyc (k:=1) h⟩
theorem cmp_pos (q:Rat):decide ((0:Int)<zdl q 0)=decide (0<q):=by
 unfold zdl;by_cases h1:q<0
 ·have h2:¬0<q:=Rat.not_lt.2 (Rat.le_of_lt h1);rw[zIP h1,zDF h2];rfl
 ·rw[zIN h1];by_cases h2:0<q
  ·rw[zIP h2,zDT h2];rfl
  ·rw[zIN h2,zDF h2];rfl
end Go.Proofs.YtlpdkbmmbdfoiaaGreat
