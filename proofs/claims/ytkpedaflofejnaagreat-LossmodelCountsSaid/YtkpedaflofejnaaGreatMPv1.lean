/- Lemmas. -/
import Derived.Test.YtkpedaflofejnaaGreatMRb7
set_option linter.unusedVariables false
set_option linter.unusedSimpArgs false
namespace Go.Proofs.YtkpedaflofejnaaGreat
set_option maxHeartbeats 12800000
open Go.RowKit
theorem r2red_lim (va:Value) (q:Rat) (w:World) (ha:zna w va q) (hf:fits q):Calls Tryz.prog 112 #[va] w (RF0 w q):=by
 refine(zuh va _ _ _ w ha.raw).mono ?_;rintro e w' ⟨v,er,rfl,hb,h1,_⟩;obtain⟨rfl,h2⟩:=h1 (zpd hf);rw[zrc]at h2;exact⟨v,rfl,h2,hb⟩
theorem rsmall10_ok (va:Value) (q:Rat) (w:World) (ha:zna w va q) (hl:zdh q):Calls Tryz.prog 142 #[va] w (λ e w'=>e= .returned (.bool true)/\Below w.heap.size w w'):=by
 obtain⟨t1,a11,l11,k11,a12,l12,k12,rfl⟩:=ha.iF;have hba:=zba w (.cells #[.bool t1, .slice a11 l11 k11, .slice a12 l12 k12] 53);have HA:=zH (ha.bw hba);have HB:=zH hba;have HF:=zH hl.fits;have HN:zI (decide (q<0)=false):=zH (zDF (Rat.not_lt.2 hl.1));have HL:=zH hl;obtain⟨_,c0,c1,c2,_,_,_⟩:=C3.new w 53 (.bool t1) (.slice a11 l11 k11) (.slice a12 l12 k12);clear ha hba hl;go_enter Tryz.func142,Tryz.ntmps142
 go_upto_region 2 with(first
  |(go_at_call 112;(with_reducible refine(r2red_lim _ q _ HA.o HF.o).mono ?_);rintro e3 w3 ⟨v3,rfl,hv3,hb3⟩;obtain⟨x3,y3,rfl,n1,n2⟩:=id hv3;rw[HN.o]at hv3 |-;obtain⟨a31,l31,k31,rfl,_⟩:=id n1.v.sl;obtain⟨a32,l32,k32,rfl,_⟩:=id n2.v.sl;have hba:=zba w3 (.cells #[.bool false, .slice a31 l31 k31, .slice a32 l32 k32] 53);have HC3:=zH (C3.new w3 53 (.bool false) (.slice a31 l31 k31) (.slice a32 l32 k32));(have hl1:((l31:Nat):Int)<=1:=by have h:=(len_bits n1).2 HL.o.2.1;have h2:l31<=1:=h;omega);(have hl2:((l32:Nat):Int)<=1:=by have h:=(len_bits n2).2 HL.o.2.2;have h2:l32<=1:=h;omega);have HB3:=zH (zaa HB.o (zaa hb3 hba));clear c0 c1 c2 hv3 hb3 hba n1 n2))
 obtain⟨b3,hb3⟩:∃b,w3.heap.size=b:=⟨_,rfl⟩;rw[hb3]at HC3 |-
 clear hb3;generalize w3.alloc (.cells #[.bool false, .slice a31 l31 k31, .slice a32 l32 k32] 53)=W3 at *
 obtain⟨_,c0,c1,c2,_,_,_⟩:=HC3.o;go_wp2_with fail;go_ret;exact⟨rfl,HB3.o⟩
set_option maxRecDepth 100000 in
theorem zki (va:Value) (l:List Rat) (n:Nat) (w:World) (ha:zpa w va l) (hl:∀q∈l,zdh q) (hln:l.length=n) (hn:n<=4):
 Calls Tryz.prog 109 #[va, .int .i64 (n:Nat)] w (λ e w'=>e= .returned (.bool true)/\Below w.heap.size w w'):=by
 obtain⟨xa,xn,xk,rfl,_⟩:=id ha.sl;have sx:=ha.sl;obtain rfl:xn=n:=ha.len.trans hln;have HN:=zH hln;have HA:=zH ha;have HL:=zH hl;clear hln ha hl;go_enter Tryz.func109,Tryz.ntmps109;go_wp2_with fail;go_loopg [5] (xn) (λ g u5 wr=>∃ (k:Nat),k<=xn/\g=xn-k/\u5= .int .i64 k/\Below w.heap.size w wr);case atStart=>exact⟨0,zZL _,rfl,rfl,zBR _ _⟩
 case round=>
  obtain⟨k,hk,hg,rfl,hbr⟩:=hrel;obtain⟨wb,hwb⟩:∃wb,wb=wr:=⟨_,rfl⟩;subst hwb;have HG:=zH hg;have HBR:=zH hbr;clear hg hbr;by_cases hkl:k<xn
  ·(have hk2:k<l.length:=by rw[HN.o];exact hkl);obtain⟨ts,as1,ls1,ks1,as2,ls2,ks2,g1,g2,g3,hfs⟩:=(HA.o.bw HBR.o).cellsAt (k:=k) hk2
   have hlq:zdh (l.getD k 0):=by
    rw[zGD,zGE hk2];exact HL.o _ (zGM hk2)
   have HFS:=zH hfs;have HLQ:=zH hlq;have i1:(0:Int)<=(k:Int):=zO;have i2:(k:Int)<(xn:Nat):=zO;clear hfs hlq
   go_wp2_with (first
    |(go_at_call 142;(with_reducible refine(rsmall10_ok _ _ _ HFS.o HLQ.o).mono ?_);rintro e5 w5 ⟨rfl,hb5⟩;have HB5:=zH (zaa HBR.o hb5);clear hb5))
   go_roundg (xn- (k+1));(case measure=>(have:=HG.o;omega));case rel=>exact⟨k+1,zO,rfl,by go_num,HB5.o⟩
  ·obtain rfl:k=xn:=zO;go_wp2_with fail;go_ret;exact⟨rfl,HBR.o⟩
theorem r2sum_lim (va:Value) (l:List Rat) (w:World) (ha:zpa w va l) (hl:∀q∈l,zdh q) (hn:l.length<=40):Calls Tryz.prog 111 #[va] w (RF0 w (zof l)):=by
 have h:=r2sum_fit va (l.map RF.of) w ha.raw (λ x hx=>by obtain⟨y,hy,rfl⟩:=List.mem_map.1 hx;exact RF.of_ok (hl y hy).fits) (λ k hk=>by
  rw[<-List.map_take,zck];exact lim_sum (List.take_sublist _ _) hl hn)
 rw[zck]at h;exact h
theorem LawP.rank {l:LQ} (hl:LawP l):∃d:Nat->Nat,∀i,i<l.start.length->d i<l.start.length/\(0<l.exit.getD i 0\/∃j,j<l.start.length/\0<(l.rates.getD i []).getD j 0/\d j<d i):=by
 obtain⟨d,hd⟩:=hl.ends;refine⟨λ i=>((List.range l.start.length).filter λ s=>decide (d s<d i)).length,λ i hi=>⟨?_,(hd i hi).2.imp id ?_⟩⟩
 ·have h:((List.range l.start.length).filter λ s=>decide (d s<d i)).length<(List.range l.start.length).length:=
   List.length_filter_lt_length_iff_exists.2 ⟨i,List.mem_range.2 hi,by simp⟩
  rwa[List.length_range]at h
 ·rintro⟨j,h1,h2,h3⟩;refine⟨j,h1,h2,?_⟩
  have e:(List.range l.start.length).filter (λ s=>decide (d s<d j))=((List.range l.start.length).filter λ s=>decide (d s<d i)).filter λ s=>decide (d s<d j):=by
   rw[List.filter_filter];(refine List.filter_congr λ s _=> ?_);by_cases h:d s<d j
   ·simp[h,show d s<d i by omega]
   ·simp[h]
  show((List.range l.start.length).filter λ s=>decide (d s<d j)).length<_
  rw[e];exact List.length_filter_lt_length_iff_exists.2 ⟨j,List.mem_filter.2 ⟨List.mem_range.2 h1,by simp[h3]⟩,by simp⟩
def MkP (l:LQ) (d:Nat->Nat) (n r i k:Nat) (bs:List Bool):Prop:=
 bs.length=n/\(∀t,t<n->d t<r->bs.getD t false=true)/\(∀t,t<i->d t<=r->bs.getD t false=true)/\((0<k->0<l.exit.getD i 0->bs.getD i false=true)/\∀j,j+1<k->0<(l.rates.getD i []).getD j 0->d j<r->bs.getD i false=true)
theorem MkP.set {l:LQ} {d:Nat->Nat} {n r i k:Nat} {bs:List Bool} (h:MkP l d n r i k bs) (hi:i<n) {b:Bool} (hb:bs.getD i false=true->b=true):MkP l d n r i k (bs.set i b):=by
 obtain⟨h1,h2,h3,h4,h5⟩:=h;have hib:i<bs.length:=zO
 have key:∀t,bs.getD t false=true->(bs.set i b).getD t false=true:=λ t ht=>by
  rw[zzb hib];split
  ·rename_i e;subst e;exact hb ht
  ·exact ht
 exact⟨by rw[zGS];exact h1,λ t ht hd=>key t (h2 t ht hd),λ t ht hd=>key t (h3 t ht hd),λ hk he=>key i (h4 hk he),λ j hj h6 h7=>key i (h5 j hj h6 h7)⟩
theorem MkP.next {l:LQ} {d:Nat->Nat} {n r i k:Nat} {bs:List Bool} (h:MkP l d n r i k bs) (h1:k=0->0<l.exit.getD i 0->bs.getD i false=true) (h2:∀j,j+1=k->0<(l.rates.getD i []).getD j 0->d j<r->bs.getD i false=true):MkP l d n r i (k+1) bs:=
 ⟨h.1,h.2.1,h.2.2.1,λ _ he=>by
  rcases Nat.eq_zero_or_pos k with e | e
  ·exact h1 e he
  ·exact h.2.2.2.1 e he,λ j hj h3 h4=>by
  rcases zOG (j+1) k with e | e
  ·exact h.2.2.2.2 j e h3 h4
  ·exact h2 j zO h3 h4⟩
set_option maxRecDepth 100000 in
theorem zql (va:Value) (l:LQ) (w:World) (ha:LawC w va l) (hl:LawP l):Calls Tryz.prog 53 #[va] w (λ e w'=>e= .returned (.bool true)/\Below w.heap.size w w'):=by
 obtain⟨i0,hi,hz0,hz1,hz2⟩:=info_parts Tryz.infoBool;have hM:=make_E2 (P:=Tryz.prog) 32 4 i0 _ 1 Tryz.underlying32 hi hz0 hz1 hz2 zD rfl;clear hi hz0 hz1 hz2;obtain⟨nm,sv,rv,ev,rfl,hs,hr,he⟩:=id ha;obtain⟨ra,rn,rk,rfl,_⟩:=id hr.sl;obtain⟨sa,sn,sk,rfl,_⟩:=id hs.sl;obtain⟨ea,en,ek,rfl,_⟩:=id he.sl;have hba:=zba w (.cells #[nm, .slice sa sn sk, .slice ra rn rk, .slice ea en ek] 30);have HC:=zH (C4.new w 30 nm (.slice sa sn sk) (.slice ra rn rk) (.slice ea en ek));have HS:=zH (hs.bw hba);have HR:=zH (hr.bw hba);have HE:=zH (he.bw hba);have HBW:=zH hba;have hsn:sn=l.start.length:=hs.len;have hen:en=l.start.length:=he.len.trans hl.el;have hrn:rn=l.start.length:=hr.len.trans hl.rl;obtain⟨n,hnn⟩:∃n,l.start.length=n:=⟨_,rfl⟩;have HN:=zH hnn;rw[hnn]at hen hsn hrn;have n1:1<=n:=by rw[<-hnn];exact hl.n1
 have n4:n<=4:=by rw[<-hnn];exact hl.n4
 obtain rfl:en=n:=hen;obtain rfl:sn=en:=hsn;obtain rfl:rn=sn:=hrn;have HL:=zH hl;obtain⟨d,hd⟩:=hl.rank;rw[hnn]at hd;have HD:=zH hd;have HEL:zI (l.exit.length=rn):=zH (hl.el.trans hnn);have srt:=hr.sl;have sxt:=he.sl;have sst:=hs.sl;have hn128:rn<=128:=zO;clear hd hs hr he ha hl hba hnn;go_enter Tryz.func53,Tryz.ntmps53;go_upto_region 1 with fail;obtain⟨b,hb⟩:∃b,w.heap.size=b:=⟨_,rfl⟩;rw[hb]at HC |-
 clear hb;generalize w.alloc (.cells #[nm, .slice sa rn sk, .slice ra rn rk, .slice ea rn ek] 30)=W1 at *
 obtain⟨_,c0,c1,c2,c3,_,_,_,_⟩:=HC.o
 go_upto_region 4 with(first
  |(go_at_call 109;(with_reducible refine(zki _ l.start rn W1 HS.o HL.o.st HN.o n4).mono ?_);rintro e5 w5 ⟨rfl,hb5⟩;have HB5:=zH hb5;clear c0 c1 c2 c3;obtain⟨_,c0,c1,c2,c3,_,_,_,_⟩:=HC.o.bS hb5;clear hb5)
  |(go_at_call 109;(with_reducible refine(zki _ l.exit rn w5 (HE.o.bw HB5.o) HL.o.ex HEL.o n4).mono ?_);rintro e6 w6 ⟨rfl,hb6⟩;have HB6:=zH (zaa HB5.o hb6);clear c0 c1 c2 c3;obtain⟨_,c0,c1,c2,c3,_,_,_,_⟩:=HC.o.bS HB6.o;clear hb6))
 go_wp2_with fail;clear c0 c1 c2 c3;go_loopg [4] (rn) (λ g u4 wr=>∃ (k:Nat),k<=rn/\g=rn-k/\u4= .int .i64 k/\Below W1.heap.size W1 wr);case atStart=>exact⟨0,zZL _,rfl,rfl,HB6.o⟩
 case round=>
  obtain⟨k,hk,hg,rfl,hbr⟩:=hrel;obtain⟨wb,hwb⟩:∃wb,wb=wr:=⟨_,rfl⟩;subst hwb;have HG:=zH hg;have HBR:=zH hbr;clear hg hbr HB5 HB6;obtain⟨_,c0,c1,c2,c3,_,_,_,_⟩:=HC.o.bS HBR.o;by_cases hkl:k<rn
  ·(have hir:k<l.rates.length:=by rw[HL.o.rl,HN.o];exact hkl);obtain⟨rw1,hrv,hrow⟩:=HR.o.at' k hir;obtain⟨rl1,rl2,rl3⟩:=HL.o.row k hir;obtain⟨ua,un,uk,rfl,_⟩:=id hrow.sl;have srow:=hrow.sl;(have hun:un=rn:=by have h:=hrow.len;rw[rl1,HN.o]at h;exact h);subst hun;(have hkr:k<(l.rates[k]'hir).length:=by rw[rl1,HN.o];exact hkl);obtain⟨ts,as1,ls1,ks1,as2,ls2,ks2,g1,g2,g3,hfs⟩:=(hrow.bw HBR.o).cellsAt (k:=k) hkr;rw[rl3]at hfs;have HROW:=zH hrow;have HRL:=zH rl2;have HRLN:zI ((l.rates[k]'hir).length=un):=zH (by rw[rl1,HN.o]);have HFS:=zH hfs;have HRV:=zH (zca HBR.o hrv);have hri:=HRV.o;have S0:=zH (zAI g1 (zAI g2 g3));have i1:(0:Int)<=(k:Int):=zO;have i2:(k:Int)<(un:Nat):=zO;clear hrv hrow rl1 rl2 rl3 hfs g1 g2 g3
   go_wp2_with (first
    |(go_at_call 109;(with_reducible refine(zki _ _ un _ (HROW.o.bw HBR.o) HRL.o HRLN.o n4).mono ?_);rintro e5 w5 ⟨rfl,hb5⟩;have HB5:=zH hb5;have g1:=zca hb5 S0.o.1;have g2:=zca hb5 S0.o.2.1;have g3:=zca hb5 S0.o.2.2;have c0:=zca hb5 c0;have c1:=zca hb5 c1;have c2:=zca hb5 c2;have c3:=zca hb5 c3;have hri:=zca hb5 hri;clear hb5)
    |(go_at_call 110;(with_reducible refine(sgn_z _ (HFS.o.bw HB5.o) zD rfl).mono ?_);rintro e7 w7 ⟨rfl,hb7⟩;have HB7:=zH (zaa HBR.o (zaa HB5.o hb7));clear hb7))
   go_roundg (un- (k+1));(case measure=>(have:=HG.o;omega));case rel=>exact⟨k+1,zO,rfl,by go_num,HB7.o⟩
  ·have HSUM:zI (zof l.start=1):=zH HL.o.sum;have HNL:zI (l.start.length<=40):=zH (by have:=HL.o.n4;omega);obtain rfl:k=rn:=zO;have hBR:=HBR.o
   go_upto_region 10 with(first
    |(go_at_call 111;(with_reducible refine(r2sum_lim _ l.start _ (HS.o.bw HBR.o) HL.o.st HNL.o).mono ?_);rw[HSUM.o];rintro e8 w8 ⟨v8,rfl,hv8,hb8⟩;obtain⟨t8,a81,l81,k81,a82,l82,k82,rfl⟩:=hv8.iF;have hba:=zba w8 (.cells #[.bool t8, .slice a81 l81 k81, .slice a82 l82 k82] 53);have hbb:=zaa hb8 hba;have HC8:=zH (C3.new w8 53 (.bool t8) (.slice a81 l81 k81) (.slice a82 l82 k82));have HF8:=zH (hv8.bw hba);have HB8:=zH (zaa HBR.o hbb);clear hv8 hb8 hba hbb c0 c1 c2 c3))
   obtain⟨b8,hb8⟩:∃b,w8.heap.size=b:=⟨_,rfl⟩;(rw[hb8]at HC8 |-);clear hb8;generalize w8.alloc (.cells #[.bool t8, .slice a81 l81 k81, .slice a82 l82 k82] 53)=W8 at *
   obtain⟨_,g1,g2,g3,_,_,_⟩:=HC8.o;have S0:=zH (zAI g1 (zAI g2 g3));clear g1 g2 g3;have HF1:zI (fits 1):=zH zD;go_cut [80] (λ u80 wy=>u80= .bool false/\Below W8.heap.size W8 wy)
   case first =>
    go_region_held3 (λ w'=>w'.cell? ⟨b8,0,none⟩=some (.bool t8)/\w'.cell? ⟨b8,1,none⟩=some (.slice a81 l81 k81)/\w'.cell? ⟨b8,2,none⟩=some (.slice a82 l82 k82)/\Below W8.heap.size W8 w') (first
     | with_reducible exact kp3a S0.o (zha _)
     | with_reducible exact kp3w (by assumption) (by assumption)) (first
     |(go_at_call 23;(with_reducible refine(zif _).mono ?_);rintro e50 w50 ⟨v50,rfl,hv50,hb50⟩;obtain⟨t50,a501,l501,k501,a502,l502,k502,rfl⟩:=hv50.iF)
     |(go_at_call 29;(with_reducible refine(r2same_can _ _ 1 1 _ (HF8.o.bw (kp3c (by assumption))) hv50 HF1.o HF1.o).mono ?_);rintro e51 w51 ⟨rfl,hb51⟩))
    all_goals
     have hE:=kp3c (by assumption);go_wp2_with fail;go_meet;case rel=>exact⟨by simp,hE⟩
   case rest=>
    obtain⟨rfl,hbc⟩:=hcut;obtain⟨W9,hw9⟩:∃w9,w9=wc:=⟨_,rfl⟩;subst hw9;have HB9:=zH (zaa HB8.o hbc);clear hbc S0 HC8 HF8 HB8 HF1 hBR HBR;go_wp2_with (refine hM W9 rfl _ _ rfl k rfl rfl hn128 ?_;intro vL w6 hO6 hb6;have HO6:=zH hO6;have HB6:=zH (HB9.o.trans (hb6.mono HB9.o.size));have HSZ:=zH HB9.o.size;have slL:=hO6.sl;(have lnL:slen vL=k:=by have h:=hO6.len;rwa[zRP]at h);obtain⟨vb1,vb2,vb3,rfl,_⟩:=id slL;obtain rfl:vb2=k:=lnL;clear hO6 hb6);clear hM;go_loopg [8] (vb2) (λ g u8 wr=>∃ (r:Nat) (bs:List Bool),r<=vb2/\g=vb2-r/\u8= .int .i64 r/\zib wr 4 W9.heap.size (.slice vb1 vb2 vb3) (bs.map Value.bool)/\MkP l d vb2 r 0 0 bs/\Below W1.heap.size W1 wr);case atStart=>exact⟨0,List.replicate vb2 false,zO,rfl,rfl,by rw[List.map_replicate];exact HO6.o,⟨by simp,λ t _ h=>zO,λ t h=>zO,λ h=>zO,λ j h=>zO⟩,HB6.o⟩
    case round=>
     obtain⟨r,bs,hrn,hg,rfl,ho,hP,hbr⟩:=hrel;obtain⟨W2,hw2⟩:∃w2,w2=wr:=⟨_,rfl⟩;subst hw2;have HG:=zH hg;have HO:=zH ho;have HP1:=zH hP;have HBR:=zH hbr;clear hg ho hP hbr HO6 HB6 HB9;by_cases hrl:r<vb2
     ·go_wp2_with fail;go_loopg [9] (vb2) (λ g u9 wr=>∃ (i:Nat) (bs:List Bool),i<=vb2/\g=vb2-i/\u9= .int .i64 i/\zib wr 4 W9.heap.size (.slice vb1 vb2 vb3) (bs.map Value.bool)/\MkP l d vb2 r i 0 bs/\Below W1.heap.size W1 wr);case atStart=>exact⟨0,bs,zO,rfl,rfl,HO.o,HP1.o,HBR.o⟩
      case round=>
       clear HO HP1 HBR;obtain⟨i,bs,hin,hg,rfl,ho,hP,hbr⟩:=hrel;obtain⟨W3,hw2⟩:∃w2,w2=wr:=⟨_,rfl⟩;subst hw2;have HGI:=zH hg;have HO:=zH ho;have HP1:=zH hP;have HBR:=zH hbr;clear hg ho hP hbr;by_cases hil:i<vb2
       ·(have hib:i<bs.length:=by rw[HP1.o.1];exact hil);(have hie:i<l.exit.length:=by rw[HEL.o];exact hil);(have hir:i<l.rates.length:=by rw[HL.o.rl,HN.o];exact hil);(have hio:i<(bs.map Value.bool).length:=by rw[zMP];exact hib);obtain⟨rw1,hrv,hrow⟩:=HR.o.at' i hir;obtain⟨rl1,rl2,rl3⟩:=HL.o.row i hir;have HRE:zI (l.rates.getD i []=l.rates[i]'hir):=zH (by rw[zGD,zGE hir];rfl);rw[<-HRE.o]at hrow rl1 rl2;obtain⟨ua,un,uk,rfl,_⟩:=id hrow.sl;have srow:=hrow.sl;have HROW:=zH hrow;have HRV:=zH hrv;have HRL:=zH rl2;have HRLN:zI ((l.rates.getD i []).length=vb2):=zH (by rw[rl1,HN.o]);(have hun:un=vb2:=by rw[<-HRLN.o];exact hrow.len);subst hun;obtain⟨ts,as1,ls1,ks1,as2,ls2,ks2,g1,g2,g3,hfs⟩:=(HE.o.bw HBR.o).cellsAt (k:=i) hie
        have hlq:zdh (l.exit.getD i 0):=by
         rw[zGD,zGE hie];exact HL.o.ex _ (zGM hie)
        obtain⟨q,hq⟩:∃q,l.exit.getD i 0=q:=⟨_,rfl⟩;rw[hq]at hlq hfs;have HQ:=zH hq;have HFS:=zH hfs;have HLA:=zH hlq.fits;obtain⟨z,hz⟩:∃z,zto q 0=z:=⟨_,rfl⟩;have HZ:=zH hz
        have HZQ:zI (0<q->(0:Int)<z):=zH (λ h=>by
         have k:=cmp_pos q;rw[hz,zDT h]at k;exact of_decide_eq_true k)
        have q1:=HO.o.cell i hio;rw[List.getElem_map]at q1;have hxe:bs.getD i false=bs[i]'hib:=zyh hib;obtain⟨x,hx⟩:∃x,bs[i]'hib=x:=⟨_,rfl⟩;rw[hx]at q1 hxe;have HXE:=zH hxe;have f1:=HO.o.frozen i hio;have HIO:=zH hio;obtain⟨_,c0,c1,c2,c3,_,_,_,_⟩:=HC.o.bS HBR.o;have i1:(0:Int)<=(i:Int):=zO;have i2:(i:Int)<(un:Nat):=zO;clear hrv hrow rl1 rl2 rl3 hfs hlq hq hx hxe hie hib hio hz;go_upto_region 19 with fail;go_cut [] (λ wy=>∃bs':List Bool,zib wy 4 W9.heap.size (.slice vb1 un vb3) (bs'.map Value.bool)/\MkP l d un r i 1 bs'/\Below W1.heap.size W1 wy)
        case first =>
         cases x with
         | true=>
           go_wp2_with fail;go_meet
           case rel=>
            have hs4:=HO.o.set i HIO.o (.bool true);refine⟨bs.set i true,by rw[List.map_set];exact hs4.1,(HP1.o.set hil λ _=>rfl).next (λ _ _=> ?_) (λ j hj=>zO),HBR.o.trans (hs4.2.mono HSZ.o)⟩;rw[zzb (by rw[HP1.o.1];exact hil),zIP rfl]
         | false=>
           go_wp2_with (first
            |(go_at_call 110;(with_reducible refine(zcn _ HFS.o HLA.o).mono ?_);rw[HZ.o];rintro e7 w7 ⟨rfl,hb7⟩;have ho3:=HO.o.bw hb7;have q1:=ho3.cell i HIO.o;have f1:=ho3.frozen i HIO.o;have HO3:=zH ho3;have HB7:=zH (zaa HBR.o hb7);clear ho3 hb7))
           go_meet
           case rel=>
            have hs4:=HO3.o.set i HIO.o (.bool (decide ((0:Int)<z)));refine⟨bs.set i (decide ((0:Int)<z)),by rw[List.map_set];exact hs4.1,(HP1.o.set hil λ h=>by rw[HXE.o]at h;cases h).next (λ _ he=> ?_) (λ j hj=>zO),HB7.o.trans (hs4.2.mono HSZ.o)⟩;rw[zzb (by rw[HP1.o.1];exact hil),zIP rfl];exact zDT (HZQ.o (by rw[<-HQ.o];exact he))
        case rest=>
         clear HO HP1 HBR HXE HIO q1 f1 g1 g2 g3 c0 c1 c2 c3 HFS HLA HZ HZQ;obtain⟨bs,ho,hP,hbr⟩:=hcut;obtain⟨W4,hw2⟩:∃w2,w2=wc:=⟨_,rfl⟩;subst hw2;have HO:=zH ho;have HP1:=zH hP;have HBR:=zH hbr;clear ho hP hbr;go_wp2_with fail;go_loopg [10] (un) (λ g u10 wr=>∃ (k:Nat) (bs:List Bool),k<=un/\g=un-k/\u10= .int .i64 k/\zib wr 4 W9.heap.size (.slice vb1 un vb3) (bs.map Value.bool)/\MkP l d un r i (k+1) bs/\Below W1.heap.size W1 wr);case atStart=>exact⟨0,bs,zO,rfl,rfl,HO.o,HP1.o,HBR.o⟩
         case round=>
          clear HO HP1 HBR;obtain⟨k,bs,hkn,hg,rfl,ho,hP,hbr⟩:=hrel;obtain⟨W5,hw2⟩:∃w2,w2=wr:=⟨_,rfl⟩;subst hw2;have HGK:=zH hg;have HO:=zH ho;have HP1:=zH hP;have HBR:=zH hbr;clear hg ho hP hbr;by_cases hkl:k<un
          ·(have hib:i<bs.length:=by rw[HP1.o.1];exact hil);(have hkb:k<bs.length:=by rw[HP1.o.1];exact hkl);(have hio:i<(bs.map Value.bool).length:=by rw[zMP];exact hib);(have hko:k<(bs.map Value.bool).length:=by rw[zMP];exact hkb);(have hkr:k<(l.rates.getD i []).length:=by rw[HRLN.o];exact hkl);obtain⟨ts,as1,ls1,ks1,as2,ls2,ks2,g1,g2,g3,hfs⟩:=(HROW.o.bw HBR.o).cellsAt (k:=k) hkr
           have hlq:zdh ((l.rates.getD i []).getD k 0):=by
            rw[zGD,zGE hkr];exact HRL.o _ (zGM hkr)
           obtain⟨s,hs⟩:∃s,(l.rates.getD i []).getD k 0=s:=⟨_,rfl⟩;rw[hs]at hlq hfs;have HS9:=zH hs;have HFS:=zH hfs;have HLA:=zH hlq.fits;obtain⟨z,hz⟩:∃z,zto s 0=z:=⟨_,rfl⟩;have HZ:=zH hz;have HZQ:zI (decide ((0:Int)<z)=decide (0<s)):=zH (by rw[<-hz];exact cmp_pos s);have q1:=HO.o.cell i hio;rw[List.getElem_map]at q1;have hxe:bs.getD i false=bs[i]'hib:=zyh hib;obtain⟨x,hx⟩:∃x,bs[i]'hib=x:=⟨_,rfl⟩;rw[hx]at q1 hxe;have HXE:=zH hxe;have hye:bs.getD k false=bs[k]'hkb:=zyh hkb;obtain⟨y,hy⟩:∃y,bs[k]'hkb=y:=⟨_,rfl⟩;rw[hy]at hye;have HYE:=zH hye;have HYM:zI ((bs.map Value.bool)[k]'hko= .bool y):=zH (by rw[List.getElem_map,hy]);have f1:=HO.o.frozen i hio;have HIO:=zH hio;have HKO:=zH hko;obtain⟨_,c0,c1,c2,c3,_,_,_,_⟩:=HC.o.bS HBR.o;have hri:=zca HBR.o HRV.o;have j1:(0:Int)<=(k:Int):=zO;have j2:(k:Int)<(un:Nat):=zO;clear hfs hlq hs hx hxe hy hye hib hio hkr hz
           cases x with
           | true=>
             go_wp2_with fail;go_roundg (un- (k+1));case measure=>(have:=HGK.o;omega)
             case rel=>
              have hs4:=HO.o.set i HIO.o (.bool true);refine⟨k+1,bs.set i true,zO,rfl,by go_num,by rw[List.map_set];exact hs4.1,(HP1.o.set hil λ _=>rfl).next (λ h=>zO) (λ j _ _ _=> ?_),HBR.o.trans (hs4.2.mono HSZ.o)⟩;rw[zzb (by rw[HP1.o.1];exact hil),zIP rfl]
           | false=>
             by_cases hs0:0<s
             ·have hz1:(0:Int)<z:=of_decide_eq_true (HZQ.o.trans (zDT hs0))
              go_wp2_with (first
               |(go_at_call 110;(with_reducible refine(zcn _ HFS.o HLA.o).mono ?_);rw[HZ.o];rintro e7 w7 ⟨rfl,hb7⟩;have ho3:=HO.o.bw hb7;have q1:=ho3.cell i HIO.o;have q2:=ho3.cell k HKO.o;rw[HYM.o]at q2;have f1:=ho3.frozen i HIO.o;have HO3:=zH ho3;have HB7:=zH (zaa HBR.o hb7);clear ho3 hb7))
              go_roundg (un- (k+1));case measure=>(have:=HGK.o;omega)
              case rel=>
               have hs4:=HO3.o.set i HIO.o (.bool y);refine⟨k+1,bs.set i y,zO,rfl,by go_num,by rw[List.map_set];exact hs4.1,(HP1.o.set hil λ h=>by rw[HXE.o]at h;cases h).next (λ h=>zO) (λ j hj _ hd=> ?_),HB7.o.trans (hs4.2.mono HSZ.o)⟩;obtain rfl:j=k:=zO;rw[zzb (by rw[HP1.o.1];exact hil),zIP rfl,<-HYE.o];exact HP1.o.2.1 j hkl hd
             ·have hz1:¬ (0:Int)<z:=λ h=>hs0 (of_decide_eq_true (HZQ.o.symm.trans (zDT h)))
              go_wp2_with (first
               |(go_at_call 110;(with_reducible refine(zcn _ HFS.o HLA.o).mono ?_);rw[HZ.o];rintro e7 w7 ⟨rfl,hb7⟩;have ho3:=HO.o.bw hb7;have q1:=ho3.cell i HIO.o;have f1:=ho3.frozen i HIO.o;have HO3:=zH ho3;have HB7:=zH (zaa HBR.o hb7);clear ho3 hb7))
              go_roundg (un- (k+1));case measure=>(have:=HGK.o;omega)
              case rel=>
               have hs4:=HO3.o.set i HIO.o (.bool false);refine⟨k+1,bs.set i false,zO,rfl,by go_num,by rw[List.map_set];exact hs4.1,(HP1.o.set hil λ h=>by rw[HXE.o]at h;cases h).next (λ h=>zO) (λ j hj hp _=> ?_),HB7.o.trans (hs4.2.mono HSZ.o)⟩;obtain rfl:j=k:=zO;rw[HS9.o]at hp;exact absurd hp hs0
          ·obtain rfl:k=un:=zO
           have HEND:zI (d i<=r->bs.getD i false=true):=zH (λ hdi=>by
            rcases(HD.o i hil).2 with h2 | ⟨j,h2,h3,h4⟩
            ·exact HP1.o.2.2.2.1 (Nat.succ_pos _) h2
            ·exact HP1.o.2.2.2.2 j zO h3 zO)
           go_wp2_with fail;go_roundg (k- (i+1));case measure=>(have:=HGI.o;omega)
           case rel=>
            refine⟨i+1,bs,zO,rfl,by go_num,HO.o,⟨HP1.o.1,HP1.o.2.1,λ t ht hdt=> ?_,λ h=>zO,λ j h=>zO⟩,HBR.o⟩;by_cases e:t=i
            ·subst e;exact HEND.o hdt
            ·exact HP1.o.2.2.1 t zO hdt
       ·obtain rfl:i=vb2:=zO;go_wp2_with fail;go_roundg (i- (r+1));(case measure=>(have:=HG.o;omega));case rel=>exact⟨r+1,bs,zO,rfl,by go_num,HO.o,⟨HP1.o.1,λ t ht hdt=>HP1.o.2.2.1 t ht zO,λ t h=>zO,λ h=>zO,λ j h=>zO⟩,HBR.o⟩
     ·obtain rfl:r=vb2:=zO;have HALL:zI (∀t,t<r->bs.getD t false=true):=zH (λ t ht=>HP1.o.2.1 t ht (HD.o t ht).1);go_wp2_with fail;go_loopg [11] (r) (λ g u11 wr=>∃ (k:Nat),k<=r/\g=r-k/\u11= .int .i64 k/\wr=W2);case atStart=>exact⟨0,zZL _,rfl,rfl,rfl⟩
      case round=>
       obtain⟨k,hk,hg,rfl,rfl⟩:=hrel;have HGK:=zH hg;clear hg;by_cases hkl:k<r
       ·(have hkb:k<bs.length:=by rw[HP1.o.1];exact hkl);(have hko:k<(bs.map Value.bool).length:=by rw[zMP];exact hkb);have q1:=HO.o.cell k hko;rw[List.getElem_map]at q1;have hxe:=HALL.o k hkl;rw[zyh hkb]at hxe;rw[hxe]at q1;have i1:(0:Int)<=(k:Int):=zO;have i2:(k:Int)<(r:Nat):=zO;clear hxe hko hkb;go_wp2_with fail;go_roundg (r- (k+1));(case measure=>(have:=HGK.o;omega));case rel=>exact⟨k+1,zO,rfl,by go_num,rfl⟩
       ·obtain rfl:k=r:=zO;go_wp2_with fail;go_ret;exact⟨rfl,HBW.o.trans (HBR.o.mono HBW.o.size)⟩
end Go.Proofs.YtkpedaflofejnaaGreat
