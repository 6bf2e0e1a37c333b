/- Lemmas. -/
import Derived.Test.YtkpedaflofejnaaGreatMPk0
set_option linter.unusedVariables false
set_option linter.unusedSimpArgs false
namespace Go.Proofs.YtkpedaflofejnaaGreat
set_option maxHeartbeats 6400000
open Go.RowKit
theorem zzb {bs:List Bool} {i t:Nat} {b:Bool} (hi:i<bs.length):(bs.set i b).getD t false=if t=i then b else bs.getD t false:=by
 rw[zGD,List.getElem?_set];by_cases e:i=t
 ·subst e;rw[zIP rfl,zIP hi,zIP rfl];rfl
 ·rw[zIN e,zIN (λ h=>e h.symm),zGD]
theorem fends1_any (b:Bool) (w:World):Calls Tryz.prog 138 #[.bool b] w (λ e w'=>e= .returned (.bool b)/\w'=w):=by
 go_enter Tryz.func138,Tryz.ntmps138;go_wp2_with fail;go_ret;exact⟨rfl,rfl⟩
set_option maxRecDepth 100000 in
theorem fallB_ok (va:Value) (l:List Bool) (w:World) (ha:zjg w va l) (hl:∀t,t<l.length->l.getD t false=true) (hn:l.length<=1000):
 Calls Tryz.prog 137 #[va, .func (.func 138) #[] #[]] w (λ e w'=>e= .returned (.bool true)/\Below w.heap.size w w'):=by
 have sx:=zta.sl ha;obtain⟨xa,xn,xk,rfl,_⟩:=id sx;have hxn:xn=l.length:=by have h:=zta.len ha;rwa[zMP]at h
 obtain⟨n,hnn⟩:∃n,l.length=n:=⟨_,rfl⟩;rw[hnn]at hxn hn;subst hxn;have HN:=zH hnn;have HA:=zH ha;have HL:=zH hl;clear hnn ha hl;go_enter Tryz.func137,Tryz.ntmps137;go_wp2_with fail;go_loopg [9] (xn) (λ g u9 wr=>∃ (k:Nat),k<=xn/\g=xn-k/\u9= .int .i64 k/\Below w.heap.size w wr);case atStart=>exact⟨0,zZL _,rfl,rfl,zBR _ _⟩
 case round=>
  obtain⟨k,hk,hg,rfl,hbr⟩:=hrel;obtain⟨wb,hwb⟩:∃wb,wb=wr:=⟨_,rfl⟩;subst hwb;have HG:=zH hg;have HBR:=zH hbr;clear hg hbr;by_cases hkl:k<xn
  ·(have hk2:k<l.length:=by rw[HN.o];exact hkl);have q1:=(HA.o.bw HBR.o).at' k hk2;have hlq:=HL.o k hk2;rw[zyh hk2]at hlq;rw[hlq]at q1;have i1:(0:Int)<=(k:Int):=zO;have i2:(k:Int)<(xn:Nat):=zO;clear hlq
   go_wp2_with (first
    |(go_at_call 138;(with_reducible refine(fends1_any true _).mono ?_);rintro e4 w4 ⟨rfl,rfl⟩))
   go_roundg (xn- (k+1));(case measure=>(have:=HG.o;omega));case rel=>exact⟨k+1,zO,rfl,by go_num,HBR.o⟩
  ·obtain rfl:k=xn:=zO;go_wp2_with fail;go_ret;exact⟨rfl,HBR.o⟩
set_option maxRecDepth 100000 in
theorem fends_ok (va:Value) (l:LQ) (w:World) (ha:LawC w va l) (hl:LawP l):Calls Tryz.prog 101 #[va] w (λ e w'=>e= .returned (.bool true)/\Below w.heap.size w w'):=by
 obtain⟨i0,hi,hz0,hz1,hz2⟩:=info_parts Tryz.infoBool;have hM:=make_E2 (P:=Tryz.prog) 32 4 i0 _ 1 Tryz.underlying32 hi hz0 hz1 hz2 zD rfl;clear hi hz0 hz1 hz2;obtain⟨nm,sv,rv,ev,rfl,hs,hr,he⟩:=id ha;obtain⟨ra,rn,rk,rfl,_⟩:=id hr.sl;obtain⟨sa,sn,sk,rfl,_⟩:=id hs.sl;obtain⟨ea,en,ek,rfl,_⟩:=id he.sl;have hba:=zba w (.cells #[nm, .slice sa sn sk, .slice ra rn rk, .slice ea en ek] 30);have HC:=zH (C4.new w 30 nm (.slice sa sn sk) (.slice ra rn rk) (.slice ea en ek));have HR:=zH (hr.bw hba);have HE:=zH (he.bw hba);have HBW:=zH hba;have hen:en=l.start.length:=he.len.trans hl.el;obtain⟨n,hnn⟩:∃n,l.start.length=n:=⟨_,rfl⟩;have HN:=zH hnn;have hrn:rn=l.start.length:=hr.len.trans hl.rl;have HRN:zI (rn=n):=zH (by rw[<-hnn];exact hrn);rw[hnn]at hen;subst hen;have hn4:en<=128:=by rw[<-hnn];have:=hl.n4;omega
 have HL:=zH hl;obtain⟨d,hd⟩:=hl.ends;have HD:=zH hd;have srt:=hr.sl;have sxt:=he.sl;clear hd hs hr he ha hl hba hnn hrn;go_enter Tryz.func101,Tryz.ntmps101;go_upto_region 1 with fail;obtain⟨b,hb⟩:∃b,w.heap.size=b:=⟨_,rfl⟩;rw[hb]at HC |-
 have HBE:=zH hb;clear hb;generalize w.alloc (.cells #[nm, .slice sa sn sk, .slice ra rn rk, .slice ea en ek] 30)=W1 at *
 obtain⟨_,c0,c1,c2,c3,_,_,_,_⟩:=HC.o;go_wp2_with (refine hM W1 rfl _ _ rfl en rfl rfl hn4 ?_;intro vL w6 hO6 hb6;have HO6:=zH hO6;have HB6:=zH hb6;have slL:=hO6.sl;(have lnL:slen vL=en:=by have h:=hO6.len;rwa[zRP]at h);obtain⟨vb1,vb2,vb3,rfl,_⟩:=id slL;obtain rfl:vb2=en:=lnL;clear hO6 hb6);clear hM c0 c1 c2 c3;go_loopg [4] (vb2+1) (λ g u4 wr=>∃ (r:Nat) (bs:List Bool),r<=vb2+1/\g=vb2+1-r/\u4= .int .i64 r/\zib wr 4 W1.heap.size (.slice vb1 vb2 vb3) (bs.map Value.bool)/\bs.length=vb2/\(∀t,t<vb2->d t<r->bs.getD t false=true)/\Below W1.heap.size W1 wr);case atStart=>exact⟨0,List.replicate vb2 false,zO,rfl,rfl,by rw[List.map_replicate];exact HO6.o,by simp,λ t _ h=>zO,HB6.o⟩
 case round=>
  obtain⟨r,bs,hrn,hg,rfl,ho,hbl,hP,hbr⟩:=hrel;obtain⟨W2,hw2⟩:∃w2,w2=wr:=⟨_,rfl⟩;subst hw2;have HG:=zH hg;have HO:=zH ho;have HP1:=zH hP;have HBL:=zH hbl;have HBR:=zH hbr;clear hg ho hP hbl hbr HO6 HB6;by_cases hrl:r<=vb2
  ·go_wp2_with fail;go_loopg [20] (vb2) (λ g u20 wr=>∃ (i:Nat) (bs:List Bool),i<=vb2/\g=vb2-i/\u20= .int .i64 i/\zib wr 4 W1.heap.size (.slice vb1 vb2 vb3) (bs.map Value.bool)/\bs.length=vb2/\(∀t,t<vb2->d t<r->bs.getD t false=true)/\(∀t,t<i->d t<=r->bs.getD t false=true)/\Below W1.heap.size W1 wr);case atStart=>exact⟨0,bs,zO,rfl,rfl,HO.o,HBL.o,HP1.o,λ t h=>zO,HBR.o⟩
   case round=>
    clear HO HP1 HBL HBR;obtain⟨i,bs,hin,hg,rfl,ho,hbl,hP,hQ,hbr⟩:=hrel;obtain⟨W3,hw2⟩:∃w2,w2=wr:=⟨_,rfl⟩;subst hw2;have HGI:=zH hg;have HO:=zH ho;have HP1:=zH hP;have HP2:=zH hQ;have HBL:=zH hbl;have HBR:=zH hbr;clear hg ho hP hQ hbl hbr;by_cases hil:i<vb2
    ·(have hib:i<bs.length:=by rw[HBL.o];exact hil);(have hie:i<l.exit.length:=by rw[HL.o.el,HN.o];exact hil);(have hir:i<l.rates.length:=by rw[HL.o.rl,HN.o];exact hil);(have hio:i<(bs.map Value.bool).length:=by rw[zMP];exact hib);obtain⟨rw1,hrv,hrow⟩:=HR.o.at' i hir;obtain⟨rl1,rl2,rl3⟩:=HL.o.row i hir;have HRE:zI (l.rates.getD i []=l.rates[i]'hir):=zH (by rw[zGD,zGE hir];rfl);rw[<-HRE.o]at hrow rl1 rl2;obtain⟨ua,un,uk,rfl,_⟩:=id hrow.sl;have srow:=hrow.sl;have HROW:=zH hrow;have HRV:=zH hrv;have HRL:=zH rl2;have HRLN:zI ((l.rates.getD i []).length=vb2):=zH (by rw[rl1,HN.o]);(have hun:un=vb2:=by rw[<-HRLN.o];exact hrow.len);subst hun;obtain⟨ts,as1,ls1,ks1,as2,ls2,ks2,g1,g2,g3,hfs⟩:=(HE.o.bw HBR.o).cellsAt (k:=i) hie
     have hlq:zdh (l.exit.getD i 0):=by
      rw[zGD,zGE hie];exact HL.o.ex _ (zGM hie)
     obtain⟨q,hq⟩:∃q,l.exit.getD i 0=q:=⟨_,rfl⟩;rw[hq]at hlq hfs;have HQ:=zH hq;have HFS:=zH hfs;have HLA:=zH hlq.above;have q1:=HO.o.cell i hio;rw[List.getElem_map]at q1;have hxe:bs.getD i false=bs[i]'hib:=zyh hib;obtain⟨x,hx⟩:∃x,bs[i]'hib=x:=⟨_,rfl⟩;rw[hx]at q1 hxe;have HXE:=zH hxe;have f1:=HO.o.frozen i hio;have HIB:=zH hib;have HIO:=zH hio;obtain⟨_,c0,c1,c2,c3,_,_,_,_⟩:=HC.o.bS HBR.o;have i1:(0:Int)<=(i:Int):=zO;have i2:(i:Int)<(un:Nat):=zO;(have i3:(i:Int)<(rn:Nat):=by have:=HRN.o;omega);clear hrv hrow rl1 rl2 rl3 hfs hlq hq hx hxe hie hib hio;go_upto_region 8 with fail;go_cut [] (λ wy=>∃bs':List Bool,zib wy 4 W1.heap.size (.slice vb1 un vb3) (bs'.map Value.bool)/\bs'.length=un/\(∀t,t<un->d t<r->bs'.getD t false=true)/\(∀t,t<i->d t<=r->bs'.getD t false=true)/\(0<q->bs'.getD i false=true)/\Below W1.heap.size W1 wy)
     case first =>
      cases x with
      | true=>
        go_wp2_with fail;go_meet
        case rel=>
         have hs4:=HO.o.set i HIO.o (.bool true);refine⟨bs.set i true,by rw[List.map_set];exact hs4.1,by rw[zGS];exact HBL.o,λ t ht hdt=> ?_,λ t ht hdt=> ?_,λ _=> ?_,HBR.o.trans hs4.2⟩
         ·rw[zzb HIB.o];split
          ·rfl
          ·exact HP1.o t ht hdt
         ·rw[zzb HIB.o];split
          ·rfl
          ·exact HP2.o t ht hdt
         ·rw[zzb HIB.o,zIP rfl]
      | false=>
        go_wp2_with (first
         |(go_at_call 99;(with_reducible refine(zwg _ q _ HFS.o).mono ?_);rw[HLA.o];rintro e7 w7 ⟨rfl,hb7⟩;have ho3:=HO.o.bw hb7;have q1:=ho3.cell i HIO.o;have f1:=ho3.frozen i HIO.o;have HO3:=zH ho3;have HB7:=zH (zaa HBR.o hb7);clear ho3 hb7))
        go_meet
        case rel=>
         have hs4:=HO3.o.set i HIO.o (.bool (decide (0<q)));refine⟨bs.set i (decide (0<q)),by rw[List.map_set];exact hs4.1,by rw[zGS];exact HBL.o,λ t ht hdt=> ?_,λ t ht hdt=> ?_,λ h=> ?_,HB7.o.trans hs4.2⟩
         ·rw[zzb HIB.o];split
          ·rename_i e
           subst e;have:=HP1.o t ht hdt;rw[HXE.o]at this;cases this
          ·exact HP1.o t ht hdt
         ·rw[zzb HIB.o,zIN zO];exact HP2.o t ht hdt
         ·rw[zzb HIB.o,zIP rfl];exact zDT h
     case rest=>
      clear HO HP1 HP2 HBL HBR HXE HIB HIO q1 f1 g1 g2 g3 c0 c1 c2 c3 HFS HLA;obtain⟨bs,ho,hbl,hP,hQ,hR3,hbr⟩:=hcut;obtain⟨W4,hw2⟩:∃w2,w2=wc:=⟨_,rfl⟩;subst hw2;have HO:=zH ho;have HP1:=zH hP;have HP2:=zH hQ;have HP3:=zH hR3;have HBL:=zH hbl;have HBR:=zH hbr;obtain⟨_,c0,c1,c2,c3,_,_,_,_⟩:=HC.o.bS hbr;have hri:=zca hbr HRV.o;clear ho hP hQ hR3 hbl hbr;go_wp2_with fail;clear c0 c1 c2 c3 hri;go_loopg [44] (un) (λ g u44 wr=>∃ (k:Nat) (bs:List Bool),k<=un/\g=un-k/\u44= .int .i64 k/\zib wr 4 W1.heap.size (.slice vb1 un vb3) (bs.map Value.bool)/\bs.length=un/\(∀t,t<un->d t<r->bs.getD t false=true)/\(∀t,t<i->d t<=r->bs.getD t false=true)/\((0<q\/∃j,j<k/\0<(l.rates.getD i []).getD j 0/\d j<r)->bs.getD i false=true)/\Below W1.heap.size W1 wr);case atStart=>exact⟨0,bs,zO,rfl,rfl,HO.o,HBL.o,HP1.o,HP2.o,λ h=>by rcases h with h | ⟨j,h,_⟩;exact HP3.o h;omega,HBR.o⟩
      case round=>
       clear HO HP1 HP2 HP3 HBL HBR;obtain⟨k,bs,hkn,hg,rfl,ho,hbl,hP,hQ,hR3,hbr⟩:=hrel;obtain⟨W5,hw2⟩:∃w2,w2=wr:=⟨_,rfl⟩;subst hw2;have HGK:=zH hg;have HO:=zH ho;have HP1:=zH hP;have HP2:=zH hQ;have HP3:=zH hR3;have HBL:=zH hbl;have HBR:=zH hbr;clear hg ho hP hQ hR3 hbl hbr;by_cases hkl:k<un
       ·(have hib:i<bs.length:=by rw[HBL.o];exact hil);(have hkb:k<bs.length:=by rw[HBL.o];exact hkl);(have hio:i<(bs.map Value.bool).length:=by rw[zMP];exact hib);(have hko:k<(bs.map Value.bool).length:=by rw[zMP];exact hkb);(have hkr:k<(l.rates.getD i []).length:=by rw[HRLN.o];exact hkl);obtain⟨ts,as1,ls1,ks1,as2,ls2,ks2,g1,g2,g3,hfs⟩:=(HROW.o.bw HBR.o).cellsAt (k:=k) hkr
        have hlq:zdh ((l.rates.getD i []).getD k 0):=by
         rw[zGD,zGE hkr];exact HRL.o _ (zGM hkr)
        obtain⟨s,hs⟩:∃s,(l.rates.getD i []).getD k 0=s:=⟨_,rfl⟩;rw[hs]at hlq hfs;have HS:=zH hs;have HLA:=zH hlq.above;have hba:=zba W5 (.cells #[.bool ts, .slice as1 ls1 ks1, .slice as2 ls2 ks2] 53);have HFS:=zH (hfs.bw hba);have HO5:=zH (HO.o.bw hba);have HB5:=zH (zaa HBR.o hba);have q1:=HO5.o.cell i hio;rw[List.getElem_map]at q1;have hxe:bs.getD i false=bs[i]'hib:=zyh hib;obtain⟨x,hx⟩:∃x,bs[i]'hib=x:=⟨_,rfl⟩;rw[hx]at q1 hxe;have HXE:=zH hxe;have hye:bs.getD k false=bs[k]'hkb:=zyh hkb;obtain⟨y,hy⟩:∃y,bs[k]'hkb=y:=⟨_,rfl⟩;rw[hy]at hye;have HYE:=zH hye;have HYM:zI ((bs.map Value.bool)[k]'hko= .bool y):=zH (by rw[List.getElem_map,hy]);have f1:=HO5.o.frozen i hio;obtain⟨_,p0,p1,p2,_,_,_⟩:=C3.new W5 53 (.bool ts) (.slice as1 ls1 ks1) (.slice as2 ls2 ks2);have HIB:=zH hib;have HIO:=zH hio;have HKO:=zH hko;have j1:(0:Int)<=(k:Int):=zO;have j2:(k:Int)<(un:Nat):=zO;clear hfs hlq hs hba hx hxe hy hye hib hio hkr
        cases x with
        | true=>
          go_wp2_with fail;go_roundg (un- (k+1));case measure=>(have:=HGK.o;omega)
          case rel=>
           have hs4:=HO5.o.set i HIO.o (.bool true);refine⟨k+1,bs.set i true,zO,rfl,by go_num,by rw[List.map_set];exact hs4.1,by rw[zGS];exact HBL.o,λ t ht hdt=> ?_,λ t ht hdt=> ?_,λ _=> ?_,HB5.o.trans hs4.2⟩
           ·rw[zzb HIB.o];split
            ·rfl
            ·exact HP1.o t ht hdt
           ·rw[zzb HIB.o];split
            ·rfl
            ·exact HP2.o t ht hdt
           ·rw[zzb HIB.o,zIP rfl]
        | false=>
          have HNO:zI (¬ (0<q\/∃j,j<k/\0<(l.rates.getD i []).getD j 0/\d j<r)):=zH (λ h=>by have:=HP3.o h;rw[HXE.o]at this;cases this);by_cases hs0:0<s
          ·have HDS:zI (decide (0<s)=true):=zH (zDT hs0)
           go_wp2_with (first
            |(go_at_call 99;(with_reducible refine(zwg _ s _ HFS.o).mono ?_);rw[HLA.o,HDS.o];rintro e7 w7 ⟨rfl,hb7⟩;have ho3:=HO5.o.bw hb7;have q1:=ho3.cell i HIO.o;have q2:=ho3.cell k HKO.o;rw[HYM.o]at q2;have f1:=ho3.frozen i HIO.o;have HO3:=zH ho3;have HB7:=zH (zaa HB5.o hb7);clear ho3 hb7))
           go_roundg (un- (k+1));case measure=>(have:=HGK.o;omega)
           case rel=>
            have hs4:=HO3.o.set i HIO.o (.bool y);refine⟨k+1,bs.set i y,zO,rfl,by go_num,by rw[List.map_set];exact hs4.1,by rw[zGS];exact HBL.o,λ t ht hdt=> ?_,λ t ht hdt=> ?_,λ h=> ?_,HB7.o.trans hs4.2⟩
            ·rw[zzb HIB.o];split
             ·rename_i e
              subst e;have:=HP1.o t ht hdt;rw[HXE.o]at this;cases this
             ·exact HP1.o t ht hdt
            ·rw[zzb HIB.o,zIN zO];exact HP2.o t ht hdt
            ·rw[zzb HIB.o,zIP rfl];rcases h with h | ⟨j,hj,h1,h2⟩
             ·exact absurd (Or.inl h) HNO.o
             ·by_cases e:j=k
              ·subst e;rw[<-HYE.o];exact HP1.o j zO h2
              ·exact absurd (Or.inr ⟨j,zO,h1,h2⟩) HNO.o
          ·have HDS:zI (decide (0<s)=false):=zH (zDF hs0)
           go_wp2_with (first
            |(go_at_call 99;(with_reducible refine(zwg _ s _ HFS.o).mono ?_);rw[HLA.o,HDS.o];rintro e7 w7 ⟨rfl,hb7⟩;have ho3:=HO5.o.bw hb7;have q1:=ho3.cell i HIO.o;have f1:=ho3.frozen i HIO.o;have HO3:=zH ho3;have HB7:=zH (zaa HB5.o hb7);clear ho3 hb7))
           go_roundg (un- (k+1));case measure=>(have:=HGK.o;omega)
           case rel=>
            have hs4:=HO3.o.set i HIO.o (.bool false);refine⟨k+1,bs.set i false,zO,rfl,by go_num,by rw[List.map_set];exact hs4.1,by rw[zGS];exact HBL.o,λ t ht hdt=> ?_,λ t ht hdt=> ?_,λ h=> ?_,HB7.o.trans hs4.2⟩
            ·rw[zzb HIB.o];split
             ·rename_i e
              subst e;have:=HP1.o t ht hdt;rw[HXE.o]at this;cases this
             ·exact HP1.o t ht hdt
            ·rw[zzb HIB.o,zIN zO];exact HP2.o t ht hdt
            ·exfalso;rcases h with h | ⟨j,hj,h1,h2⟩
             ·exact HNO.o (Or.inl h)
             ·by_cases e:j=k
              ·subst e;rw[HS.o]at h1;exact hs0 h1
              ·exact HNO.o (Or.inr ⟨j,zO,h1,h2⟩)
       ·obtain rfl:k=un:=zO
        have HEND:zI (d i<=r->bs.getD i false=true):=zH (λ hdi=>by
         have h1:=HD.o i (by rw[HN.o];exact hil);rcases h1.2 with h2 | ⟨j,h2,h3,h4⟩
         ·exact HP3.o (Or.inl (by rw[<-HQ.o];exact h2))
         ·exact HP3.o (Or.inr ⟨j,by rw[<-HN.o];exact h2,h3,zO⟩))
        go_wp2_with fail;go_roundg (k- (i+1));case measure=>(have:=HGI.o;omega)
        case rel=>
         refine⟨i+1,bs,zO,rfl,by go_num,HO.o,HBL.o,HP1.o,λ t ht hdt=> ?_,HBR.o⟩;by_cases e:t=i
         ·subst e;exact HEND.o hdt
         ·exact HP2.o t zO hdt
    ·obtain rfl:i=vb2:=zO;go_wp2_with fail;go_roundg (i+1- (r+1));(case measure=>(have:=HG.o;omega));case rel=>exact⟨r+1,bs,zO,rfl,by go_num,HO.o,HBL.o,λ t ht hdt=>HP2.o t ht zO,HBR.o⟩
  ·have HDN:zI (∀t,t<vb2->d t<=vb2):=zH (λ t ht=>by have:=(HD.o t (by rw[HN.o];exact ht)).1;rwa[HN.o]at this);have hb0:zjg W2 (.slice vb1 vb2 vb3) bs:=⟨HO.o.sl,HO.o.len,λ j hj=>HO.o.cell j hj⟩;have HB0:=zH hb0
   go_wp2_with (first
    |(go_at_call 137;(with_reducible refine(fallB_ok _ bs _ HB0.o (λ t ht=>HP1.o t (by rw[<-HBL.o];exact ht) (by have:=HDN.o t (by rw[<-HBL.o];exact ht);omega)) (by rw[HBL.o];omega)).mono ?_);rintro e9 w9 ⟨rfl,hb9⟩))
   go_ret;exact⟨rfl,HBW.o.trans ((zaa HBR.o hb9).mono HBW.o.size)⟩
theorem RF.fits {x:RF} (h:x.ok):fits x.q:=fits_ok _ h
theorem wt_le {q:Rat} (h:fits q):wt q<=8192:=by
 obtain⟨h1,h2⟩:=h;unfold wt;split<;>(try split)<;>omega
theorem wts_le (l:List RF) (h:∀x∈l,x.ok):wts (qs l)<=8192*l.length:=by
 induction l with
 | nil=>simp[qs,wts]
 | cons x l ih=>
   have h1:=ih (λ y hy=>h y (by simp[hy]));have h2:=wt_le (RF.fits (h x (by simp)));(have e:wts (qs (x::l))=wt x.q+wts (qs l):=by unfold qs;rw[List.map_cons,zpf]);rw[e,List.length_cons];omega
theorem wts_qs (l:List RF) (k:Nat) (h:k<l.length):wts (qs (l.take (k+1)))=wts (qs (l.take k))+wt l[k].q:=by
 rw[zce l k h];unfold qs;rw[List.map_append];exact wts_snoc _ _
def wtsM (m:List (List RF)):Nat:=(m.map λ l=>wts (qs l)).sum
theorem wtsM_take (m:List (List RF)) (k:Nat) (h:k<m.length):wtsM (m.take (k+1))=wtsM (m.take k)+wts (qs m[k]):=by
 unfold wtsM;rw[zce m k h,List.map_append,List.sum_append];simp only[List.map_cons,List.map_nil,List.sum_cons,List.sum_nil,Nat.add_zero]
theorem wtsM_le (m:List (List RF)) (h:∀l∈m,∀x∈l,x.ok) (hl:∀l∈m,l.length<=65536):wtsM m<=536870912*m.length:=by
 induction m with
 | nil=>simp[wtsM]
 | cons x m ih=>
   have h1:=ih (λ y hy=>h y (by simp[hy])) (λ y hy=>hl y (by simp[hy]));have h2:=wts_le x (h x (by simp));have h3:=hl x (by simp);(have e:wtsM (x::m)=wts (qs x)+wtsM m:=by simp[wtsM]);rw[e,List.length_cons];omega
theorem wt_zero {q:Rat} (h:q.num=0):wt q=0:=by unfold wt;rw[zIP h]
theorem wt_int {q:Rat} (h:q.num≠0) (hd:q.den=1):wt q=zsa q.num.natAbs:=by unfold wt;rw[zIN h,zIP hd];rfl
theorem wt_frac {q:Rat} (h:q.num≠0) (hd:q.den≠1):wt q=zsa q.num.natAbs+zsa q.den:=by unfold wt;rw[zIN h,zIN hd]
theorem zhf (va:Value) (x:RF) (w:World) (ha:zjc w va x.neg x.n x.d) (hx:x.ok):Calls Tryz.prog 116 #[va] w (RF0 w x.q):=
 (zli va x.neg x.n x.d w ha).mono λ e w' h=>by
  obtain⟨v,er,rfl,h1,h2,_⟩:=h;obtain⟨rfl,h3⟩:=h2 hx;exact⟨v,rfl,h3,h1⟩
theorem wtsM_one (l:List RF):wtsM [l]=wts (qs l):=by simp[wtsM]
end Go.Proofs.YtkpedaflofejnaaGreat
