/- Lemmas. -/
import Derived.Test.YtlpdkbmmbdfoiaaGreatPPe2
set_option linter.unusedVariables false
set_option linter.unusedSimpArgs false
namespace Go.Proofs.YtlpdkbmmbdfoiaaGreat
open Go.RowKit
theorem neg_lt {q:Rat} (h:q≠0):(!decide (q<0))=decide (-q<0):=by
 by_cases h1:q<0
 ·rw[zDT h1,zDF (by grind)];rfl
 ·rw[zDF h1,zDT (by grind)];rfl
set_option maxHeartbeats 800000 in
theorem zzg (v:Value) (q:Rat) (w:World) (h:zia w v q):Calls Tryz.prog 105 #[v] w (RF1 w (-q)):=by
 have H0:=zH h;obtain⟨a,b,rfl,ha,hb⟩:=id h;obtain⟨aa,al,ak,rfl,_⟩:=id ha.v.sl;obtain⟨ba,bl,bk,rfl,_⟩:=id hb.v.sl;have hbx:=zca w (.cells #[.bool (decide (q<0)), .slice aa al ak, .slice ba bl bk] 38);have hb2:=zca (w.alloc (.cells #[.bool (decide (q<0)), .slice aa al ak, .slice ba bl bk] 38)) (.cells #[.bool false, .slice none 0 0, .slice none 0 0] 38);have hC:=(C3.new w 38 (.bool (decide (q<0))) (.slice aa al ak) (.slice ba bl bk)).bS hb2;have hR:=C3.newB (b:=w.heap.size+1) (w.alloc (.cells #[.bool (decide (q<0)), .slice aa al ak, .slice ba bl bk] 38)) 38 (.bool false) (.slice none 0 0) (.slice none 0 0) (by simp);have HC:=zH hC;have HR:=zH hR;have HQ:=zH ((h.bw hbx).bw hb2);have HA:=zH (((ha.bw hbx).bw hb2).nat);have hbb:=zaa hbx hb2;have HLN:zI (zha q.num.natAbs=0↔q=0):=zH (by rw[zva];constructor<;>intro h<;>simp_all);obtain⟨_,c0,c1,c2,_,_,_⟩:=id hC;clear hC hR h ha hb;by_cases hz:q=0
 ·have HZ:=zH hz;clear hz;go_enter Tryz.func105,Tryz.ntmps105;go_wp2_with (go_at_call 106;(with_reducible refine(zta _ q.num.natAbs _ HA.o).mono ?_);rintro e1 w1 ⟨r1,rfl,hr1,hb1⟩;have s1:=hr1.v.sl;have l1:slen r1=0:=hr1.v.len.trans (HLN.o.2 HZ.o);obtain⟨_,c0,c1,c2,_,_,_⟩:=HC.o.bS hb1;have HR1:=zH (HR.o.bS hb1);obtain⟨_,d0,d1,d2,d3,d4,d5⟩:=HR1.o);refine zab rfl rfl Tryz.aggF Tryz.sizeF (HR1.o.set _ _ _) rfl ?_;refine⟨_,rfl,?_,zga (zaa hbb hb1) (zLS _) _ _ _⟩;have h9: -q=q:=by rw[HZ.o];decide+kernel
  rw[h9];exact(HQ.o.bw hb1).set3 HR1.o zZ zZ _ _ _
 ·have HZ:=zH hz;have hl:∃L,zha q.num.natAbs=L/\0<L:=⟨_,rfl,zPZ λ e=>hz (HLN.o.1 e)⟩;obtain⟨L,hL,hL0⟩:=hl;have HL:=zH hL;clear hz hL;go_enter Tryz.func105,Tryz.ntmps105;go_wp2_with (go_at_call 106;(with_reducible refine(zta _ q.num.natAbs _ HA.o).mono ?_);rintro e1 w1 ⟨r1,rfl,hr1,hb1⟩;have s1:=hr1.v.sl;have l1:slen r1=L:=hr1.v.len.trans HL.o;obtain⟨_,c0,c1,c2,_,_,_⟩:=HC.o.bS hb1;have HR1:=zH (HR.o.bS hb1);obtain⟨_,d0,d1,d2,d3,d4,d5⟩:=HR1.o);refine zab rfl rfl Tryz.aggF Tryz.sizeF (HR1.o.set _ _ _) rfl ?_;refine⟨_,rfl,?_,zga (zaa hbb hb1) (zLS _) _ _ _⟩;obtain⟨_,_,e9,e10,e11⟩:=HQ.o.bw hb1;injection e9 with e9
  injection e9 with e9
  simp only[List.cons.injEq,and_true]at e9;obtain⟨_,rfl,rfl⟩:=e9;have hN:zia w1 (.agg #[.bool (!decide (q<0)), .slice aa al ak, .slice ba bl bk]) (-q):=⟨_,_,by rw[neg_lt HZ.o],by rw[Rat.neg_num,Int.natAbs_neg];exact e10,by rw[Rat.neg_den];exact e11⟩;exact hN.set3 HR1.o zZ zZ _ _ _
theorem r2same_can (va vb:Value) (p q:Rat) (w:World) (ha:zia w va p) (hb:zia w vb q) (hp:fits p) (hq:fits q):Calls Tryz.prog 33 #[va,vb] w λ en w'=>en= .returned (.bool (decide (p=q)))/\Below w.heap.size w w':=by
 have h:=r2same_any va vb _ _ _ _ _ _ w ha.raw hb.raw ⟨p.den_nz,hp.2,hp.1⟩ ⟨q.den_nz,hq.2,hq.1⟩;rw[zmb,zmb]at h;exact h
set_option maxHeartbeats 12800000
theorem r2red_lim (va:Value) (q:Rat) (w:World) (ha:zia w va q) (hf:fits q):Calls Tryz.prog 116 #[va] w (RF0 w q):=by
 refine(zji va _ _ _ w ha.raw).mono ?_;rintro e w' ⟨v,er,rfl,hb,h1,_⟩;obtain⟨rfl,h2⟩:=h1 (zvb hf);rw[zmb]at h2;exact⟨v,rfl,h2,hb⟩
theorem rsmall10_ok (va:Value) (q:Rat) (w:World) (ha:zia w va q) (hl:zqf q):Calls Tryz.prog 222 #[va] w (λ e w'=>e= .returned (.bool true)/\Below w.heap.size w w'):=by
 obtain⟨t1,a11,l11,k11,a12,l12,k12,rfl⟩:=ha.iF;have hba:=zca w (.cells #[.bool t1, .slice a11 l11 k11, .slice a12 l12 k12] 38);have HA:=zH (ha.bw hba);have HB:=zH hba;have HF:=zH hl.fits;have HN:zI (decide (q<0)=false):=zH (zDF (Rat.not_lt.2 hl.1));have HL:=zH hl;obtain⟨_,c0,c1,c2,_,_,_⟩:=C3.new w 38 (.bool t1) (.slice a11 l11 k11) (.slice a12 l12 k12);clear ha hba hl;go_enter Tryz.func222,Tryz.ntmps222
 go_upto_region 2 with(first
  |(go_at_call 116;(with_reducible refine(r2red_lim _ q _ HA.o HF.o).mono ?_);rintro e3 w3 ⟨v3,rfl,hv3,hb3⟩;obtain⟨x3,y3,rfl,n1,n2⟩:=id hv3;rw[HN.o]at hv3 |-;obtain⟨a31,l31,k31,rfl,_⟩:=id n1.v.sl;obtain⟨a32,l32,k32,rfl,_⟩:=id n2.v.sl;have hba:=zca w3 (.cells #[.bool false, .slice a31 l31 k31, .slice a32 l32 k32] 38);have HC3:=zH (C3.new w3 38 (.bool false) (.slice a31 l31 k31) (.slice a32 l32 k32));(have hl1:((l31:Nat):Int)<=1:=by have h:=(len_bits n1).2 HL.o.2.1;have h2:l31<=1:=h;omega);(have hl2:((l32:Nat):Int)<=1:=by have h:=(len_bits n2).2 HL.o.2.2;have h2:l32<=1:=h;omega);have HB3:=zH (zaa HB.o (zaa hb3 hba));clear c0 c1 c2 hv3 hb3 hba n1 n2))
 obtain⟨b3,hb3⟩:∃b,w3.heap.size=b:=⟨_,rfl⟩;rw[hb3]at HC3 |-
 clear hb3;generalize w3.alloc (.cells #[.bool false, .slice a31 l31 k31, .slice a32 l32 k32] 38)=W3 at *
 obtain⟨_,c0,c1,c2,_,_,_⟩:=HC3.o;go_wp2_with fail;go_ret;exact⟨rfl,HB3.o⟩
set_option maxRecDepth 100000 in
theorem zll (va:Value) (l:List Rat) (n:Nat) (w:World) (ha:zwa w va l) (hl:∀q∈l,zqf q) (hln:l.length=n) (hn:n<=4):
 Calls Tryz.prog 210 #[va, .int .i64 (n:Nat)] w (λ e w'=>e= .returned (.bool true)/\Below w.heap.size w w'):=by
 obtain⟨xa,xn,xk,rfl,_⟩:=id ha.sl;have sx:=ha.sl;obtain rfl:xn=n:=ha.len.trans hln;have HN:=zH hln;have HA:=zH ha;have HL:=zH hl;clear hln ha hl;go_enter Tryz.func210,Tryz.ntmps210;go_wp2_with fail;go_loopg [5] (xn) (λ g u5 wr=>∃ (k:Nat),k<=xn/\g=xn-k/\u5= .int .i64 k/\Below w.heap.size w wr);case atStart=>exact⟨0,zZL _,rfl,rfl,zBR _ _⟩
 case round=>
  obtain⟨k,hk,hg,rfl,hbr⟩:=hrel;obtain⟨wb,hwb⟩:∃wb,wb=wr:=⟨_,rfl⟩;subst hwb;have HG:=zH hg;have HBR:=zH hbr;clear hg hbr;by_cases hkl:k<xn
  ·(have hk2:k<l.length:=by rw[HN.o];exact hkl);obtain⟨ts,as1,ls1,ks1,as2,ls2,ks2,g1,g2,g3,hfs⟩:=(HA.o.bw HBR.o).cellsAt (k:=k) hk2
   have hlq:zqf (l.getD k 0):=by
    rw[zGD,zGE hk2];exact HL.o _ (zGM hk2)
   have HFS:=zH hfs;have HLQ:=zH hlq;have i1:(0:Int)<=(k:Int):=zO;have i2:(k:Int)<(xn:Nat):=zO;clear hfs hlq
   go_wp2_with (first
    |(go_at_call 222;(with_reducible refine(rsmall10_ok _ _ _ HFS.o HLQ.o).mono ?_);rintro e5 w5 ⟨rfl,hb5⟩;have HB5:=zH (zaa HBR.o hb5);clear hb5))
   go_roundg (xn- (k+1));(case measure=>(have:=HG.o;omega));case rel=>exact⟨k+1,zO,rfl,by go_num,HB5.o⟩
  ·obtain rfl:k=xn:=zO;go_wp2_with fail;go_ret;exact⟨rfl,HBR.o⟩
theorem r2sum_lim (va:Value) (l:List Rat) (w:World) (ha:zwa w va l) (hl:∀q∈l,zqf q) (hn:l.length<=40):Calls Tryz.prog 148 #[va] w (RF0 w (zef l)):=by
 have h:=r2sum_fit va (l.map RF.of) w ha.raw (λ x hx=>by obtain⟨y,hy,rfl⟩:=List.mem_map.1 hx;exact RF.of_ok (hl y hy).fits) (λ k hk=>by
  rw[<-List.map_take,zxf];exact zuo (List.take_sublist _ _) hl hn)
 rw[zxf]at h;exact h
theorem znb.rank {l:LQ} (hl:znb l):∃d:Nat->Nat,∀i,i<l.start.length->d i<l.start.length/\(0<l.exit.getD i 0\/∃j,j<l.start.length/\0<(l.rates.getD i []).getD j 0/\d j<d i):=by
 obtain⟨d,hd⟩:=hl.ends;refine⟨λ i=>((List.range l.start.length).filter λ s=>decide (d s<d i)).length,λ i hi=>⟨?_,(hd i hi).2.imp id ?_⟩⟩
 ·have h:((List.range l.start.length).filter λ s=>decide (d s<d i)).length<(List.range l.start.length).length:=
   List.length_filter_lt_length_iff_exists.2 ⟨i,List.mem_range.2 hi,by simp⟩
  rwa[List.length_range]at h
 ·rintro⟨j,h1,h2,h3⟩;refine⟨j,h1,h2,?_⟩
  have e:(List.range l.start.length).filter (λ s=>decide (d s<d j))=((List.range l.start.length).filter λ s=>decide (d s<d i)).filter λ s=>decide (d s<d j):=by
   rw[List.filter_filter];(refine List.filter_congr λ s _=> ?_);by_cases h:d s<d j
   ·simp[h,show d s<d i by omega]
   ·simp[h]
  show((List.range l.start.length).filter λ s=>decide (d s<d j)).length<_
  rw[e];exact List.length_filter_lt_length_iff_exists.2 ⟨j,List.mem_filter.2 ⟨List.mem_range.2 h1,by simp[h3]⟩,by simp⟩
def MkP (l:LQ) (d:Nat->Nat) (n r i k:Nat) (bs:List Bool):Prop:=
 bs.length=n/\(∀t,t<n->d t<r->bs.getD t false=true)/\(∀t,t<i->d t<=r->bs.getD t false=true)/\((0<k->0<l.exit.getD i 0->bs.getD i false=true)/\∀j,j+1<k->0<(l.rates.getD i []).getD j 0->d j<r->bs.getD i false=true)
theorem MkP.set {l:LQ} {d:Nat->Nat} {n r i k:Nat} {bs:List Bool} (h:MkP l d n r i k bs) (hi:i<n) {b:Bool} (hb:bs.getD i false=true->b=true):MkP l d n r i k (bs.set i b):=by
 obtain⟨h1,h2,h3,h4,h5⟩:=h;have hib:i<bs.length:=zO
 have key:∀t,bs.getD t false=true->(bs.set i b).getD t false=true:=λ t ht=>by
  rw[zjc hib];split
  ·rename_i e;subst e;exact hb ht
  ·exact ht
 exact⟨by rw[zGS];exact h1,λ t ht hd=>key t (h2 t ht hd),λ t ht hd=>key t (h3 t ht hd),λ hk he=>key i (h4 hk he),λ j hj h6 h7=>key i (h5 j hj h6 h7)⟩
theorem MkP.next {l:LQ} {d:Nat->Nat} {n r i k:Nat} {bs:List Bool} (h:MkP l d n r i k bs) (h1:k=0->0<l.exit.getD i 0->bs.getD i false=true) (h2:∀j,j+1=k->0<(l.rates.getD i []).getD j 0->d j<r->bs.getD i false=true):MkP l d n r i (k+1) bs:=
 ⟨h.1,h.2.1,h.2.2.1,λ _ he=>by
  rcases Nat.eq_zero_or_pos k with e | e
  ·exact h1 e he
  ·exact h.2.2.2.1 e he,λ j hj h3 h4=>by
  rcases zOG (j+1) k with e | e
  ·exact h.2.2.2.2 j e h3 h4
  ·exact h2 j zO h3 h4⟩
set_option maxRecDepth 100000 in
theorem zxb (va:Value) (l:LQ) (w:World) (ha:zxj w va l) (hl:znb l):Calls Tryz.prog 180 #[va] w (λ e w'=>e= .returned (.bool true)/\Below w.heap.size w w'):=by
 obtain⟨i0,hi,hz0,hz1,hz2⟩:=info_parts Tryz.infoBool;have hM:=make_E2 (P:=Tryz.prog) 26 4 i0 _ 1 Tryz.underlying26 hi hz0 hz1 hz2 zD rfl;clear hi hz0 hz1 hz2;obtain⟨nm,sv,rv,ev,rfl,hs,hr,he⟩:=id ha;obtain⟨ra,rn,rk,rfl,_⟩:=id hr.sl;obtain⟨sa,sn,sk,rfl,_⟩:=id hs.sl;obtain⟨ea,en,ek,rfl,_⟩:=id he.sl;have hba:=zca w (.cells #[nm, .slice sa sn sk, .slice ra rn rk, .slice ea en ek] 52);have HC:=zH (C4.new w 52 nm (.slice sa sn sk) (.slice ra rn rk) (.slice ea en ek));have HS:=zH (hs.bw hba);have HR:=zH (hr.bw hba);have HE:=zH (he.bw hba);have HBW:=zH hba;have hsn:sn=l.start.length:=hs.len;have hen:en=l.start.length:=he.len.trans hl.el;have hrn:rn=l.start.length:=hr.len.trans hl.rl;obtain⟨n,hnn⟩:∃n,l.start.length=n:=⟨_,rfl⟩;have HN:=zH hnn;rw[hnn]at hen hsn hrn;have n1:1<=n:=by rw[<-hnn];exact hl.n1
 have n4:n<=4:=by rw[<-hnn];exact hl.n4
 obtain rfl:en=n:=hen;obtain rfl:sn=en:=hsn;obtain rfl:rn=sn:=hrn;have HL:=zH hl;obtain⟨d,hd⟩:=hl.rank;rw[hnn]at hd;have HD:=zH hd;have HEL:zI (l.exit.length=rn):=zH (hl.el.trans hnn);have srt:=hr.sl;have sxt:=he.sl;have sst:=hs.sl;have hn128:rn<=128:=zO;clear hd hs hr he ha hl hba hnn;go_enter Tryz.func180,Tryz.ntmps180;go_upto_region 1 with fail;obtain⟨b,hb⟩:∃b,w.heap.size=b:=⟨_,rfl⟩;rw[hb]at HC |-
 clear hb;generalize w.alloc (.cells #[nm, .slice sa rn sk, .slice ra rn rk, .slice ea rn ek] 52)=W1 at *
 obtain⟨_,c0,c1,c2,c3,_,_,_,_⟩:=HC.o
 go_upto_region 4 with(first
  |(go_at_call 210;(with_reducible refine(zll _ l.start rn W1 HS.o HL.o.st HN.o n4).mono ?_);rintro e5 w5 ⟨rfl,hb5⟩;have HB5:=zH hb5;clear c0 c1 c2 c3;obtain⟨_,c0,c1,c2,c3,_,_,_,_⟩:=HC.o.bS hb5;clear hb5)
  |(go_at_call 210;(with_reducible refine(zll _ l.exit rn w5 (HE.o.bw HB5.o) HL.o.ex HEL.o n4).mono ?_);rintro e6 w6 ⟨rfl,hb6⟩;have HB6:=zH (zaa HB5.o hb6);clear c0 c1 c2 c3;obtain⟨_,c0,c1,c2,c3,_,_,_,_⟩:=HC.o.bS HB6.o;clear hb6))
 go_wp2_with fail;clear c0 c1 c2 c3;go_loopg [4] (rn) (λ g u4 wr=>∃ (k:Nat),k<=rn/\g=rn-k/\u4= .int .i64 k/\Below W1.heap.size W1 wr);case atStart=>exact⟨0,zZL _,rfl,rfl,HB6.o⟩
 case round=>
  obtain⟨k,hk,hg,rfl,hbr⟩:=hrel;obtain⟨wb,hwb⟩:∃wb,wb=wr:=⟨_,rfl⟩;subst hwb;have HG:=zH hg;have HBR:=zH hbr;clear hg hbr HB5 HB6;obtain⟨_,c0,c1,c2,c3,_,_,_,_⟩:=HC.o.bS HBR.o;by_cases hkl:k<rn
  ·(have hir:k<l.rates.length:=by rw[HL.o.rl,HN.o];exact hkl);obtain⟨rw1,hrv,hrow⟩:=HR.o.at' k hir;obtain⟨rl1,rl2,rl3⟩:=HL.o.row k hir;obtain⟨ua,un,uk,rfl,_⟩:=id hrow.sl;have srow:=hrow.sl;(have hun:un=rn:=by have h:=hrow.len;rw[rl1,HN.o]at h;exact h);subst hun;(have hkr:k<(l.rates[k]'hir).length:=by rw[rl1,HN.o];exact hkl);obtain⟨ts,as1,ls1,ks1,as2,ls2,ks2,g1,g2,g3,hfs⟩:=(hrow.bw HBR.o).cellsAt (k:=k) hkr;rw[rl3]at hfs;have HROW:=zH hrow;have HRL:=zH rl2;have HRLN:zI ((l.rates[k]'hir).length=un):=zH (by rw[rl1,HN.o]);have HFS:=zH hfs;have HRV:=zH (zba HBR.o hrv);have hri:=HRV.o;have S0:=zH (zAI g1 (zAI g2 g3));have i1:(0:Int)<=(k:Int):=zO;have i2:(k:Int)<(un:Nat):=zO;clear hrv hrow rl1 rl2 rl3 hfs g1 g2 g3
   go_wp2_with (first
    |(go_at_call 210;(with_reducible refine(zll _ _ un _ (HROW.o.bw HBR.o) HRL.o HRLN.o n4).mono ?_);rintro e5 w5 ⟨rfl,hb5⟩;have HB5:=zH hb5;have g1:=zba hb5 S0.o.1;have g2:=zba hb5 S0.o.2.1;have g3:=zba hb5 S0.o.2.2;have c0:=zba hb5 c0;have c1:=zba hb5 c1;have c2:=zba hb5 c2;have c3:=zba hb5 c3;have hri:=zba hb5 hri;clear hb5)
    |(go_at_call 34;(with_reducible refine(sgn_z _ (HFS.o.bw HB5.o) zD rfl).mono ?_);rintro e7 w7 ⟨rfl,hb7⟩;have HB7:=zH (zaa HBR.o (zaa HB5.o hb7));clear hb7))
   go_roundg (un- (k+1));(case measure=>(have:=HG.o;omega));case rel=>exact⟨k+1,zO,rfl,by go_num,HB7.o⟩
  ·have HSUM:zI (zef l.start=1):=zH HL.o.sum;have HNL:zI (l.start.length<=40):=zH (by have:=HL.o.n4;omega);obtain rfl:k=rn:=zO;have hBR:=HBR.o
   go_upto_region 10 with(first
    |(go_at_call 148;(with_reducible refine(r2sum_lim _ l.start _ (HS.o.bw HBR.o) HL.o.st HNL.o).mono ?_);rw[HSUM.o];rintro e8 w8 ⟨v8,rfl,hv8,hb8⟩;obtain⟨t8,a81,l81,k81,a82,l82,k82,rfl⟩:=hv8.iF;have hba:=zca w8 (.cells #[.bool t8, .slice a81 l81 k81, .slice a82 l82 k82] 38);have hbb:=zaa hb8 hba;have HC8:=zH (C3.new w8 38 (.bool t8) (.slice a81 l81 k81) (.slice a82 l82 k82));have HF8:=zH (hv8.bw hba);have HB8:=zH (zaa HBR.o hbb);clear hv8 hb8 hba hbb c0 c1 c2 c3))
   obtain⟨b8,hb8⟩:∃b,w8.heap.size=b:=⟨_,rfl⟩;(rw[hb8]at HC8 |-);clear hb8;generalize w8.alloc (.cells #[.bool t8, .slice a81 l81 k81, .slice a82 l82 k82] 38)=W8 at *
   obtain⟨_,g1,g2,g3,_,_,_⟩:=HC8.o;have S0:=zH (zAI g1 (zAI g2 g3));clear g1 g2 g3;have HF1:zI (fits 1):=zH zD;go_cut [80] (λ u80 wy=>u80= .bool false/\Below W8.heap.size W8 wy)
   case first =>
    go_region_held3 (λ w'=>w'.cell? ⟨b8,0,none⟩=some (.bool t8)/\w'.cell? ⟨b8,1,none⟩=some (.slice a81 l81 k81)/\w'.cell? ⟨b8,2,none⟩=some (.slice a82 l82 k82)/\Below W8.heap.size W8 w') (first
     | with_reducible exact kp3a S0.o (zfa _)
     | with_reducible exact kp3w (by assumption) (by assumption)) (first
     |(go_at_call 20;(with_reducible refine(zbh _).mono ?_);rintro e50 w50 ⟨v50,rfl,hv50,hb50⟩;obtain⟨t50,a501,l501,k501,a502,l502,k502,rfl⟩:=hv50.iF)
     |(go_at_call 33;(with_reducible refine(r2same_can _ _ 1 1 _ (HF8.o.bw (kp3c (by assumption))) hv50 HF1.o HF1.o).mono ?_);rintro e51 w51 ⟨rfl,hb51⟩))
    all_goals
     have hE:=kp3c (by assumption);go_wp2_with fail;go_meet;case rel=>exact⟨by simp,hE⟩
   case rest=>
    obtain⟨rfl,hbc⟩:=hcut;obtain⟨W9,hw9⟩:∃w9,w9=wc:=⟨_,rfl⟩;subst hw9;have HB9:=zH (zaa HB8.o hbc);clear hbc S0 HC8 HF8 HB8 HF1 hBR HBR;go_wp2_with (refine hM W9 rfl _ _ rfl k rfl rfl hn128 ?_;intro vL w6 hO6 hb6;have HO6:=zH hO6;have HB6:=zH (HB9.o.trans (hb6.mono HB9.o.size));have HSZ:=zH HB9.o.size;have slL:=hO6.sl;(have lnL:slen vL=k:=by have h:=hO6.len;rwa[zRP]at h);obtain⟨vb1,vb2,vb3,rfl,_⟩:=id slL;obtain rfl:vb2=k:=lnL;clear hO6 hb6);clear hM;go_loopg [8] (vb2) (λ g u8 wr=>∃ (r:Nat) (bs:List Bool),r<=vb2/\g=vb2-r/\u8= .int .i64 r/\zye wr 4 W9.heap.size (.slice vb1 vb2 vb3) (bs.map Value.bool)/\MkP l d vb2 r 0 0 bs/\Below W1.heap.size W1 wr);case atStart=>exact⟨0,List.replicate vb2 false,zO,rfl,rfl,by rw[List.map_replicate];exact HO6.o,⟨by simp,λ t _ h=>zO,λ t h=>zO,λ h=>zO,λ j h=>zO⟩,HB6.o⟩
    case round=>
     obtain⟨r,bs,hrn,hg,rfl,ho,hP,hbr⟩:=hrel;obtain⟨W2,hw2⟩:∃w2,w2=wr:=⟨_,rfl⟩;subst hw2;have HG:=zH hg;have HO:=zH ho;have HP1:=zH hP;have HBR:=zH hbr;clear hg ho hP hbr HO6 HB6 HB9;by_cases hrl:r<vb2
     ·go_wp2_with fail;go_loopg [9] (vb2) (λ g u9 wr=>∃ (i:Nat) (bs:List Bool),i<=vb2/\g=vb2-i/\u9= .int .i64 i/\zye wr 4 W9.heap.size (.slice vb1 vb2 vb3) (bs.map Value.bool)/\MkP l d vb2 r i 0 bs/\Below W1.heap.size W1 wr);case atStart=>exact⟨0,bs,zO,rfl,rfl,HO.o,HP1.o,HBR.o⟩
      case round=>
       clear HO HP1 HBR;obtain⟨i,bs,hin,hg,rfl,ho,hP,hbr⟩:=hrel;obtain⟨W3,hw2⟩:∃w2,w2=wr:=⟨_,rfl⟩;subst hw2;have HGI:=zH hg;have HO:=zH ho;have HP1:=zH hP;have HBR:=zH hbr;clear hg ho hP hbr;by_cases hil:i<vb2
       ·(have hib:i<bs.length:=by rw[HP1.o.1];exact hil);(have hie:i<l.exit.length:=by rw[HEL.o];exact hil);(have hir:i<l.rates.length:=by rw[HL.o.rl,HN.o];exact hil);(have hio:i<(bs.map Value.bool).length:=by rw[zMP];exact hib);obtain⟨rw1,hrv,hrow⟩:=HR.o.at' i hir;obtain⟨rl1,rl2,rl3⟩:=HL.o.row i hir;have HRE:zI (l.rates.getD i []=l.rates[i]'hir):=zH (by rw[zGD,zGE hir];rfl);rw[<-HRE.o]at hrow rl1 rl2;obtain⟨ua,un,uk,rfl,_⟩:=id hrow.sl;have srow:=hrow.sl;have HROW:=zH hrow;have HRV:=zH hrv;have HRL:=zH rl2;have HRLN:zI ((l.rates.getD i []).length=vb2):=zH (by rw[rl1,HN.o]);(have hun:un=vb2:=by rw[<-HRLN.o];exact hrow.len);subst hun;obtain⟨ts,as1,ls1,ks1,as2,ls2,ks2,g1,g2,g3,hfs⟩:=(HE.o.bw HBR.o).cellsAt (k:=i) hie
        have hlq:zqf (l.exit.getD i 0):=by
         rw[zGD,zGE hie];exact HL.o.ex _ (zGM hie)
        obtain⟨q,hq⟩:∃q,l.exit.getD i 0=q:=⟨_,rfl⟩;rw[hq]at hlq hfs;have HQ:=zH hq;have HFS:=zH hfs;have HLA:=zH hlq.fits;obtain⟨z,hz⟩:∃z,zdl q 0=z:=⟨_,rfl⟩;have HZ:=zH hz
        have HZQ:zI (0<q->(0:Int)<z):=zH (λ h=>by
         have k:=cmp_pos q;rw[hz,zDT h]at k;exact of_decide_eq_true k)
        have q1:=HO.o.cell i hio;rw[List.getElem_map]at q1;have hxe:bs.getD i false=bs[i]'hib:=zni hib;obtain⟨x,hx⟩:∃x,bs[i]'hib=x:=⟨_,rfl⟩;rw[hx]at q1 hxe;have HXE:=zH hxe;have f1:=HO.o.frozen i hio;have HIO:=zH hio;obtain⟨_,c0,c1,c2,c3,_,_,_,_⟩:=HC.o.bS HBR.o;have i1:(0:Int)<=(i:Int):=zO;have i2:(i:Int)<(un:Nat):=zO;clear hrv hrow rl1 rl2 rl3 hfs hlq hq hx hxe hie hib hio hz;go_upto_region 19 with fail;go_cut [] (λ wy=>∃bs':List Bool,zye wy 4 W9.heap.size (.slice vb1 un vb3) (bs'.map Value.bool)/\MkP l d un r i 1 bs'/\Below W1.heap.size W1 wy)
        case first =>
         cases x with
         | true=>
           go_wp2_with fail;go_meet
           case rel=>
            have hs4:=HO.o.set i HIO.o (.bool true);refine⟨bs.set i true,by rw[List.map_set];exact hs4.1,(HP1.o.set hil λ _=>rfl).next (λ _ _=> ?_) (λ j hj=>zO),HBR.o.trans (hs4.2.mono HSZ.o)⟩;rw[zjc (by rw[HP1.o.1];exact hil),zIP rfl]
         | false=>
           go_wp2_with (first
            |(go_at_call 34;(with_reducible refine(zsq _ HFS.o HLA.o).mono ?_);rw[HZ.o];rintro e7 w7 ⟨rfl,hb7⟩;have ho3:=HO.o.bw hb7;have q1:=ho3.cell i HIO.o;have f1:=ho3.frozen i HIO.o;have HO3:=zH ho3;have HB7:=zH (zaa HBR.o hb7);clear ho3 hb7))
           go_meet
           case rel=>
            have hs4:=HO3.o.set i HIO.o (.bool (decide ((0:Int)<z)));refine⟨bs.set i (decide ((0:Int)<z)),by rw[List.map_set];exact hs4.1,(HP1.o.set hil λ h=>by rw[HXE.o]at h;cases h).next (λ _ he=> ?_) (λ j hj=>zO),HB7.o.trans (hs4.2.mono HSZ.o)⟩;rw[zjc (by rw[HP1.o.1];exact hil),zIP rfl];exact zDT (HZQ.o (by rw[<-HQ.o];exact he))
        case rest=>
         clear HO HP1 HBR HXE HIO q1 f1 g1 g2 g3 c0 c1 c2 c3 HFS HLA HZ HZQ;obtain⟨bs,ho,hP,hbr⟩:=hcut;obtain⟨W4,hw2⟩:∃w2,w2=wc:=⟨_,rfl⟩;subst hw2;have HO:=zH ho;have HP1:=zH hP;have HBR:=zH hbr;clear ho hP hbr;go_wp2_with fail;go_loopg [10] (un) (λ g u10 wr=>∃ (k:Nat) (bs:List Bool),k<=un/\g=un-k/\u10= .int .i64 k/\zye wr 4 W9.heap.size (.slice vb1 un vb3) (bs.map Value.bool)/\MkP l d un r i (k+1) bs/\Below W1.heap.size W1 wr);case atStart=>exact⟨0,bs,zO,rfl,rfl,HO.o,HP1.o,HBR.o⟩
         case round=>
          clear HO HP1 HBR;obtain⟨k,bs,hkn,hg,rfl,ho,hP,hbr⟩:=hrel;obtain⟨W5,hw2⟩:∃w2,w2=wr:=⟨_,rfl⟩;subst hw2;have HGK:=zH hg;have HO:=zH ho;have HP1:=zH hP;have HBR:=zH hbr;clear hg ho hP hbr;by_cases hkl:k<un
          ·(have hib:i<bs.length:=by rw[HP1.o.1];exact hil);(have hkb:k<bs.length:=by rw[HP1.o.1];exact hkl);(have hio:i<(bs.map Value.bool).length:=by rw[zMP];exact hib);(have hko:k<(bs.map Value.bool).length:=by rw[zMP];exact hkb);(have hkr:k<(l.rates.getD i []).length:=by rw[HRLN.o];exact hkl);obtain⟨ts,as1,ls1,ks1,as2,ls2,ks2,g1,g2,g3,hfs⟩:=(HROW.o.bw HBR.o).cellsAt (k:=k) hkr
           have hlq:zqf ((l.rates.getD i []).getD k 0):=by
            rw[zGD,zGE hkr];exact HRL.o _ (zGM hkr)
           obtain⟨s,hs⟩:∃s,(l.rates.getD i []).getD k 0=s:=⟨_,rfl⟩;rw[hs]at hlq hfs;have HS9:=zH hs;have HFS:=zH hfs;have HLA:=zH hlq.fits;obtain⟨z,hz⟩:∃z,zdl s 0=z:=⟨_,rfl⟩;have HZ:=zH hz;have HZQ:zI (decide ((0:Int)<z)=decide (0<s)):=zH (by rw[<-hz];exact cmp_pos s);have q1:=HO.o.cell i hio;rw[List.getElem_map]at q1;have hxe:bs.getD i false=bs[i]'hib:=zni hib;obtain⟨x,hx⟩:∃x,bs[i]'hib=x:=⟨_,rfl⟩;rw[hx]at q1 hxe;have HXE:=zH hxe;have hye:bs.getD k false=bs[k]'hkb:=zni hkb;obtain⟨y,hy⟩:∃y,bs[k]'hkb=y:=⟨_,rfl⟩;rw[hy]at hye;have HYE:=zH hye;have HYM:zI ((bs.map Value.bool)[k]'hko= .bool y):=zH (by rw[List.getElem_map,hy]);have f1:=HO.o.frozen i hio;have HIO:=zH hio;have HKO:=zH hko;obtain⟨_,c0,c1,c2,c3,_,_,_,_⟩:=HC.o.bS HBR.o;have hri:=zba HBR.o HRV.o;have j1:(0:Int)<=(k:Int):=zO;have j2:(k:Int)<(un:Nat):=zO;clear hfs hlq hs hx hxe hy hye hib hio hkr hz
           cases x with
           | true=>
             go_wp2_with fail;go_roundg (un- (k+1));case measure=>(have:=HGK.o;omega)
             case rel=>
              have hs4:=HO.o.set i HIO.o (.bool true);refine⟨k+1,bs.set i true,zO,rfl,by go_num,by rw[List.map_set];exact hs4.1,(HP1.o.set hil λ _=>rfl).next (λ h=>zO) (λ j _ _ _=> ?_),HBR.o.trans (hs4.2.mono HSZ.o)⟩;rw[zjc (by rw[HP1.o.1];exact hil),zIP rfl]
           | false=>
             by_cases hs0:0<s
             ·have hz1:(0:Int)<z:=of_decide_eq_true (HZQ.o.trans (zDT hs0))
              go_wp2_with (first
               |(go_at_call 34;(with_reducible refine(zsq _ HFS.o HLA.o).mono ?_);rw[HZ.o];rintro e7 w7 ⟨rfl,hb7⟩;have ho3:=HO.o.bw hb7;have q1:=ho3.cell i HIO.o;have q2:=ho3.cell k HKO.o;rw[HYM.o]at q2;have f1:=ho3.frozen i HIO.o;have HO3:=zH ho3;have HB7:=zH (zaa HBR.o hb7);clear ho3 hb7))
              go_roundg (un- (k+1));case measure=>(have:=HGK.o;omega)
              case rel=>
               have hs4:=HO3.o.set i HIO.o (.bool y);refine⟨k+1,bs.set i y,zO,rfl,by go_num,by rw[List.map_set];exact hs4.1,(HP1.o.set hil λ h=>by rw[HXE.o]at h;cases h).next (λ h=>zO) (λ j hj _ hd=> ?_),HB7.o.trans (hs4.2.mono HSZ.o)⟩;obtain rfl:j=k:=zO;rw[zjc (by rw[HP1.o.1];exact hil),zIP rfl,<-HYE.o];exact HP1.o.2.1 j hkl hd
             ·have hz1:¬ (0:Int)<z:=λ h=>hs0 (of_decide_eq_true (HZQ.o.symm.trans (zDT h)))
              go_wp2_with (first
               |(go_at_call 34;(with_reducible refine(zsq _ HFS.o HLA.o).mono ?_);rw[HZ.o];rintro e7 w7 ⟨rfl,hb7⟩;have ho3:=HO.o.bw hb7;have q1:=ho3.cell i HIO.o;have f1:=ho3.frozen i HIO.o;have HO3:=zH ho3;have HB7:=zH (zaa HBR.o hb7);clear ho3 hb7))
              go_roundg (un- (k+1));case measure=>(have:=HGK.o;omega)
              case rel=>
               have hs4:=HO3.o.set i HIO.o (.bool false);refine⟨k+1,bs.set i false,zO,rfl,by go_num,by rw[List.map_set];exact hs4.1,(HP1.o.set hil λ h=>by rw[HXE.o]at h;cases h).next (λ h=>zO) (λ j hj hp _=> ?_),HB7.o.trans (hs4.2.mono HSZ.o)⟩;obtain rfl:j=k:=zO;rw[HS9.o]at hp;exact absurd hp hs0
          ·obtain rfl:k=un:=zO
           have HEND:zI (d i<=r->bs.getD i false=true):=zH (λ hdi=>by
            rcases(HD.o i hil).2 with h2 | ⟨j,h2,h3,h4⟩
            ·exact HP1.o.2.2.2.1 (Nat.succ_pos _) h2
            ·exact HP1.o.2.2.2.2 j zO h3 zO)
           go_wp2_with fail;go_roundg (k- (i+1));case measure=>(have:=HGI.o;omega)
           case rel=>
            refine⟨i+1,bs,zO,rfl,by go_num,HO.o,⟨HP1.o.1,HP1.o.2.1,λ t ht hdt=> ?_,λ h=>zO,λ j h=>zO⟩,HBR.o⟩;by_cases e:t=i
            ·subst e;exact HEND.o hdt
            ·exact HP1.o.2.2.1 t zO hdt
       ·obtain rfl:i=vb2:=zO;go_wp2_with fail;go_roundg (i- (r+1));(case measure=>(have:=HG.o;omega));case rel=>exact⟨r+1,bs,zO,rfl,by go_num,HO.o,⟨HP1.o.1,λ t ht hdt=>HP1.o.2.2.1 t ht zO,λ t h=>zO,λ h=>zO,λ j h=>zO⟩,HBR.o⟩
     ·obtain rfl:r=vb2:=zO;have HALL:zI (∀t,t<r->bs.getD t false=true):=zH (λ t ht=>HP1.o.2.1 t ht (HD.o t ht).1);go_wp2_with fail;go_loopg [11] (r) (λ g u11 wr=>∃ (k:Nat),k<=r/\g=r-k/\u11= .int .i64 k/\wr=W2);case atStart=>exact⟨0,zZL _,rfl,rfl,rfl⟩
      case round=>
       obtain⟨k,hk,hg,rfl,rfl⟩:=hrel;have HGK:=zH hg;clear hg;by_cases hkl:k<r
       ·(have hkb:k<bs.length:=by rw[HP1.o.1];exact hkl);(have hko:k<(bs.map Value.bool).length:=by rw[zMP];exact hkb);have q1:=HO.o.cell k hko;rw[List.getElem_map]at q1;have hxe:=HALL.o k hkl;rw[zni hkb]at hxe;rw[hxe]at q1;have i1:(0:Int)<=(k:Int):=zO;have i2:(k:Int)<(r:Nat):=zO;clear hxe hko hkb;go_wp2_with fail;go_roundg (r- (k+1));(case measure=>(have:=HGK.o;omega));case rel=>exact⟨k+1,zO,rfl,by go_num,rfl⟩
       ·obtain rfl:k=r:=zO;go_wp2_with fail;go_ret;exact⟨rfl,HBW.o.trans (HBR.o.mono HBW.o.size)⟩
set_option maxHeartbeats 6400000
set_option maxRecDepth 100000 in
theorem zsl (va vb:Value) (p q:Rat) (w:World) (ha:zia w va p) (hb:zia w vb q) (hp:fits p) (hq:fits q) (hf:fits (p+q)):Calls Tryz.prog 185 #[va,vb] w (RF1 w (p+q)):=by
 obtain⟨a1,a2,rfl,n1,n2⟩:=id ha;obtain⟨b1,b2,rfl,m1,m2⟩:=id hb;obtain⟨x1,y1,z1,rfl,_⟩:=id n1.v.sl;obtain⟨x2,y2,z2,rfl,_⟩:=id n2.v.sl;obtain⟨x3,y3,z3,rfl,_⟩:=id m1.v.sl;obtain⟨x4,y4,z4,rfl,_⟩:=id m2.v.sl;obtain⟨s,hs⟩:∃s,decide (p<0)=s:=⟨_,rfl⟩;obtain⟨t,ht⟩:∃t,decide (q<0)=t:=⟨_,rfl⟩;have HX:=zH hp;have HY:=zH hq;have HF:=zH hf;rw[hs]at ha |-
 rw[ht]at hb |-
 obtain⟨hA,hB,hR,hbw⟩:=zpb w 38 (.bool s) (.slice x1 y1 z1) (.slice x2 y2 z2) (.bool t) (.slice x3 y3 z3) (.slice x4 y4 z4) (.bool false) (.slice none 0 0) (.slice none 0 0) _ rfl;have HR:=zH hR;have HAP:=zH (ha.bw hbw);have HBQ:=zH (hb.bw hbw);obtain⟨_,c0,c1,c2,_,_,_⟩:=id hA;obtain⟨_,d0,d1,d2,_,_,_⟩:=id hB;clear hA hB hR ha hb n1 n2 m1 m2 hp hq hf hs ht;go_enter Tryz.func185,Tryz.ntmps185;go_wp2_with (go_at_call 19;(with_reducible refine(zgo _ _ p q _ HAP.o HBQ.o HX.o HY.o HF.o).mono ?_);rintro e6 w6 ⟨v6,rfl,hv6,hb6⟩;obtain⟨t9,a91,l91,k91,a92,l92,k92,rfl⟩:=hv6.iF;have hv6:=hv6.bw (zca w6 (.cells #[.bool t9, .slice a91 l91 k91, .slice a92 l92 k92] 38));have HR6:=zH ((HR.o.bS hb6).bS (zca w6 (.cells #[.bool t9, .slice a91 l91 k91, .slice a92 l92 k92] 38)));obtain⟨_,g0,g1,g2,g3,g4,g5⟩:=HR6.o);refine zab rfl rfl Tryz.aggF Tryz.sizeF (HR6.o.set _ _ _) rfl ?_;exact⟨_,rfl,hv6.set3 HR6.o zZ zZ _ _ _,zga (zaa (zaa hbw hb6) (zca _ _)) (zLT (zLS _) (zLS _)) _ _ _⟩
set_option maxRecDepth 100000 in
theorem zml (va vb:Value) (p q:Rat) (w:World) (ha:zia w va p) (hb:zia w vb q) (hp:fits p) (hq:fits q) (hf:fits (p*q)):Calls Tryz.prog 183 #[va,vb] w (RF1 w (p*q)):=by
 obtain⟨a1,a2,rfl,n1,n2⟩:=id ha;obtain⟨b1,b2,rfl,m1,m2⟩:=id hb;obtain⟨x1,y1,z1,rfl,_⟩:=id n1.v.sl;obtain⟨x2,y2,z2,rfl,_⟩:=id n2.v.sl;obtain⟨x3,y3,z3,rfl,_⟩:=id m1.v.sl;obtain⟨x4,y4,z4,rfl,_⟩:=id m2.v.sl;obtain⟨s,hs⟩:∃s,decide (p<0)=s:=⟨_,rfl⟩;obtain⟨t,ht⟩:∃t,decide (q<0)=t:=⟨_,rfl⟩;have HX:=zH hp;have HY:=zH hq;have HF:=zH hf;rw[hs]at ha |-
 rw[ht]at hb |-
 obtain⟨hA,hB,hR,hbw⟩:=zpb w 38 (.bool s) (.slice x1 y1 z1) (.slice x2 y2 z2) (.bool t) (.slice x3 y3 z3) (.slice x4 y4 z4) (.bool false) (.slice none 0 0) (.slice none 0 0) _ rfl;have HR:=zH hR;have HAP:=zH (ha.bw hbw);have HBQ:=zH (hb.bw hbw);obtain⟨_,c0,c1,c2,_,_,_⟩:=id hA;obtain⟨_,d0,d1,d2,_,_,_⟩:=id hB;clear hA hB hR ha hb n1 n2 m1 m2 hp hq hf hs ht;go_enter Tryz.func183,Tryz.ntmps183;go_wp2_with (go_at_call 38;(with_reducible refine(zmk _ _ p q _ HAP.o HBQ.o HX.o HY.o HF.o).mono ?_);rintro e6 w6 ⟨v6,rfl,hv6,hb6⟩;obtain⟨t9,a91,l91,k91,a92,l92,k92,rfl⟩:=hv6.iF;have hv6:=hv6.bw (zca w6 (.cells #[.bool t9, .slice a91 l91 k91, .slice a92 l92 k92] 38));have HR6:=zH ((HR.o.bS hb6).bS (zca w6 (.cells #[.bool t9, .slice a91 l91 k91, .slice a92 l92 k92] 38)));obtain⟨_,g0,g1,g2,g3,g4,g5⟩:=HR6.o);refine zab rfl rfl Tryz.aggF Tryz.sizeF (HR6.o.set _ _ _) rfl ?_;exact⟨_,rfl,hv6.set3 HR6.o zZ zZ _ _ _,zga (zaa (zaa hbw hb6) (zca _ _)) (zLT (zLS _) (zLS _)) _ _ _⟩
theorem zcd (va:Value) (q:Rat) (w:World) (ha:zia w va q) (hf:fits q):Calls Tryz.prog 92 #[va] w (RF1 w q):=by
 have h:=rlow_any va _ _ _ w ha.raw (zvb hf);rw[zmb]at h;exact h
set_option maxRecDepth 100000 in
theorem zuq (va:Value) (l:LQ) (i:Nat) (w:World) (ha:zxj w va l) (hl:znb l) (hi:i<l.start.length):Calls Tryz.prog 181 #[va, .int .i64 (i:Nat)] w (RF1 w (zff l i)):=by
 obtain⟨nm,sv,rv,ev,rfl,hs,hr,he⟩:=id ha;obtain⟨ra,rn,rk,rfl,_⟩:=id hr.sl;obtain⟨sa,sn,sk,rfl,_⟩:=id hs.sl;obtain⟨ea,en,ek,rfl,_⟩:=id he.sl;have hba:=zca w (.cells #[nm, .slice sa sn sk, .slice ra rn rk, .slice ea en ek] 52);have hbb:=zca (w.alloc (.cells #[nm, .slice sa sn sk, .slice ra rn rk, .slice ea en ek] 52)) (.cells #[.bool false, .slice none 0 0, .slice none 0 0] 38);have HC:=zH ((C4.new w 52 nm (.slice sa sn sk) (.slice ra rn rk) (.slice ea en ek)).bS hbb);have HT:=zH (C3.newB (b:=w.heap.size+1) (w.alloc (.cells #[nm, .slice sa sn sk, .slice ra rn rk, .slice ea en ek] 52)) 38 (.bool false) (.slice none 0 0) (.slice none 0 0) (by show(w.heap.push _).size=_;rw[Array.size_push]));have HBW:=zH (zaa hba hbb);have HR:=zH (hr.bw HBW.o);have HE:=zH (he.bw HBW.o);have hi1:=hl.rlen hi;have hi2:i<l.exit.length:=by rw[hl.el];exact hi
 have hen:en=l.start.length:=he.len.trans hl.el;have hrn:rn=l.start.length:=hr.len.trans hl.rl;obtain⟨n,hnn⟩:∃n,l.start.length=n:=⟨_,rfl⟩;have HN:=zH hnn;rw[hnn]at hen hrn hi;have n4:n<=4:=by rw[<-hnn];exact hl.n4
 obtain rfl:en=n:=hen;obtain rfl:rn=en:=hrn;have hll:=hl.outL (by rw[HN.o];exact hi);have hlr:(l.rates[i]'hi1).length=rn:=by rw[(hl.row i hi1).1,HN.o]
 have hgr:l.rates.getD i []=l.rates[i]'hi1:=by rw[zGD,zGE hi1];rfl
 obtain⟨Q,hQ⟩:∃Q,l.rates[i]'hi1=Q:=⟨_,rfl⟩;obtain⟨x,hx⟩:∃x,l.exit.getD i 0=x:=⟨_,rfl⟩;have hOQ:zff l i=zef (x::Q):=by unfold zff;rw[hgr,hQ,hx,zli,zso]
 rw[hgr,hQ,hx]at hll;rw[hQ]at hlr;rw[hOQ];have HLX:zI (fits x):=zH (hll x (by simp)).fits
 have HLQ:zI (∀ (k:Nat) (h:k<rn),fits (Q.getD k 0)):=zH (λ k h=>by
  rw[zGD,zGE (by rw[hlr];exact h)];exact(hll _ (List.mem_append_left _ (zGM _))).fits)
 have HLS:zI (∀k,fits (zef (x::Q.take k))):=zH (λ k=>zuo (m:=x::Q) ((List.take_sublist k Q).cons_cons x) (λ q hq=>hll q (by
  rcases List.mem_cons.1 hq with h | h
  ·rw[h];simp
  ·exact List.mem_append_left _ h)) (by simp only[List.length_cons];omega))
 have HST:zI (∀ (k:Nat) (h:k<rn),zef (x::Q.take (k+1))=zef (x::Q.take k)+Q.getD k 0):=zH (λ k h=>by
  have hk:k<Q.length:=by rw[hlr];exact h
  rw[zxc Q k hk,<-List.cons_append,zli,zGD,zGE hk];rfl)
 have HLR:=zH hlr;have HE0:zI (zef (x::Q.take 0)=x):=zH (by rw[List.take_zero,zso];show 0+x=x;rw[Rat.zero_add]);have srt:=hr.sl;have sxt:=he.sl;clear hs hr he ha hl hba hbb hnn hgr hOQ hll hlr;go_enter Tryz.func181,Tryz.ntmps181;go_upto_region 1 with fail;generalize (w.alloc (.cells #[nm, .slice sa sn sk, .slice ra rn rk, .slice ea rn ek] 52)).alloc (.cells #[.bool false, .slice none 0 0, .slice none 0 0] 38)=W2 at *
 obtain⟨row,hc0,hrow⟩:=HR.o.at' i hi1;obtain⟨ts,as1,ls1,ks1,as2,ls2,ks2,g1,g2,g3,hfs⟩:=HE.o.cellsAt (k:=i) hi2;rw[hx]at hfs;rw[hQ]at hrow;obtain⟨o1,o2,o3,rfl,_⟩:=id hrow.sl;have srow:=hrow.sl;obtain rfl:o2=rn:=hrow.len.trans HLR.o;have HX:=zH hfs;have HROW:=zH hrow;have HC0:=zH hc0;obtain⟨_,c0,c1,c2,c3,_⟩:=HC.o;have j1:(0:Int)<=(i:Int):=zO;have j2:(i:Int)<(o2:Nat):=zO;clear hrow hfs hQ hx
 go_wp2_with (first
  |(go_at_call 92;(with_reducible refine(zcd _ x _ HX.o HLX.o).mono ?_);rintro e5 w5 ⟨v5,rfl,hv5,hb5⟩;obtain⟨t5,a51,l51,k51,a52,l52,k52,rfl⟩:=hv5.iF;have hba:=zca w5 (.cells #[.bool t5, .slice a51 l51 k51, .slice a52 l52 k52] 38);have HC5:=zH (C3.new w5 38 (.bool t5) (.slice a51 l51 k51) (.slice a52 l52 k52));have HF5:=zH (hv5.bw hba);have HB5:=zH (zaa hb5 hba);have HL5:=zH hb5.size;clear hv5 hb5 hba c0 c1 c2 c3 g1 g2 g3 hc0))
 obtain⟨b5,hb5⟩:∃b,w5.heap.size=b:=⟨_,rfl⟩;rw[hb5]at HC5 HL5 |-
 clear hb5;generalize w5.alloc (.cells #[.bool t5, .slice a51 l51 k51, .slice a52 l52 k52] 38)=W5 at *
 go_loopg [6] (o2) (λ g u6 wr=>∃ (k:Nat) (t':Bool) (a1 a2:Option Addr) (l1 k1 l2 k2:Nat),k<=o2/\g=o2-k/\u6= .int .i64 k/\C3 wr b5 (.bool t') (.slice a1 l1 k1) (.slice a2 l2 k2)/\zia wr (.agg #[.bool t', .slice a1 l1 k1, .slice a2 l2 k2]) (zef (x::Q.take k))/\Below W2.heap.size W2 wr);case atStart=>exact⟨0,_,_,_,_,_,_,_,zZL _,rfl,rfl,HC5.o,by rw[HE0.o];exact HF5.o,HB5.o⟩
 case round=>
  obtain⟨k,t',a1,a2,l1,k1,l2,k2,hk,hg,rfl,hc3,hvk,hbr⟩:=hrel;obtain⟨w2,hw2⟩:∃w2,w2=wr:=⟨_,rfl⟩;subst hw2;have HG:=zH hg;have HC3:=zH hc3;have HVK:=zH hvk;have HBR:=zH hbr;clear hg hc3 hvk hbr HC5 HF5 HB5;by_cases hkn:k<o2
  ·(have hkq:k<Q.length:=by rw[HLR.o];exact hkn);obtain⟨us,bs1,ms1,os1,bs2,ms2,os2,h1,h2,h3,hft⟩:=(HROW.o.bw HBR.o).cellsAt (k:=k) hkq;obtain⟨_,c0,c1,c2,c3,_⟩:=HC.o.bS HBR.o;have hc0:=zba HBR.o HC0.o;have k1':(0:Int)<=(k:Int):=zO;have k2':(k:Int)<(o2:Nat):=zO;go_upto_region 5 with fail;obtain⟨_,p1,p2,p3,_,_,_⟩:=HC3.o;have hbD:=zfa (B:=w2.heap.size) w2;have HFY:=zH (hft.bw hbD);have HCD:=zH (HC3.o.bS hbD);have HVD:=zH (HVK.o.bw hbD);have HBD:=zH (zaa HBR.o hbD);refine wpL.start 10 (λ w'=>w'.cell? ⟨b5,0,none⟩=some (.bool t')/\w'.cell? ⟨b5,1,none⟩=some (.slice a1 l1 k1)/\w'.cell? ⟨b5,2,none⟩=some (.slice a2 l2 k2)/\w'.cell? ⟨w.heap.size,2,none⟩=some (.slice ra o2 rk)/\w'.cell? (ptr (.slice ra o2 rk) i)=some (.slice o1 o2 o3)/\w'.cell? (ptr (.slice o1 o2 o3) (k*3))=some (.bool us)/\w'.cell? (ptr (.slice o1 o2 o3) (k*3+1))=some (.slice bs1 ms1 os1)/\w'.cell? (ptr (.slice o1 o2 o3) (k*3+2))=some (.slice bs2 ms2 os2)) (by kernel_rfl) ⟨zba hbD p1,zba hbD p2,zba hbD p3,zba hbD c2,zba hbD hc0,zba hbD h1,zba hbD h2,zba hbD h3⟩ (λ hHeld=> ?_);clear p1 p2 p3 c0 c1 c2 c3 hc0 h1 h2 h3 hft hbD HC3 HVK;generalize w2.drew=wd at *
   refine zY 0 ?_;refine zU 1 ?_;refine zY 2 ?_;refine zU 3 ?_;refine zU 4 ?_;refine zY 5 ?_;refine zU 6 ?_;refine zU 7 ?_;refine zY 8 ?_;(refine zW 9 ?_;intro K hK);refine zsa 185 #[.agg #[.bool t', .slice a1 l1 k1, .slice a2 l2 k2], .agg #[.bool us, .slice bs1 ms1 os1, .slice bs2 ms2 os2]] ?_ ?_ (zsl _ _ _ _ _ HVD.o HFY.o (HLS.o k) (HLQ.o k hkn) (by rw[<-HST.o k hkn];exact HLS.o (k+1))) ?_
   ·rfl
   ·go_simp
   rw[<-HST.o k hkn];rintro e7 w7 ⟨v7,rfl,hv7,hb7⟩;obtain⟨t7,a71,l71,k71,a72,l72,k72,rfl⟩:=hv7.iF;refine⟨_,rfl,?_⟩;refine hK.o _ _ (λ _=>⟨zba hb7 hHeld.1,zba hb7 hHeld.2.1,zba hb7 hHeld.2.2.1,zba hb7 hHeld.2.2.2.1,zba hb7 hHeld.2.2.2.2.1,zba hb7 hHeld.2.2.2.2.2.1,zba hb7 hHeld.2.2.2.2.2.2.1,zba hb7 hHeld.2.2.2.2.2.2.2⟩) ?_;clear hK K hHeld;refine zS ?_;have HC7:=zH (HCD.o.bS hb7);have HV7:=zH hv7;have HB7:=zH (zaa HBD.o hb7);obtain⟨_,q0,q1,q2,f0,f1,f2⟩:=HC7.o;clear hv7 hb7 HCD HVD HBD HFY;(refine zW 10 ?_;intro K hK);rw[zIP (by rfl)];go_simp;refine hK.o _ _ (λ h=>by first | cases h | simp at h) ?_;clear hK K q0 q1 q2 f0 f1 f2;refine wpL.done (by kernel_rfl) ?_ _;go_wp2_with fail;go_roundg (o2- (k+1));(case measure=>(have:=HG.o;omega));case rel=>exact⟨k+1,_,_,_,_,_,_,_,zO,rfl,by go_num,HC7.o.set _ _ _,HV7.o.set3 HC7.o zZ zZ _ _ _,zga HB7.o HL5.o _ _ _⟩
  ·obtain rfl:k=o2:=zO;have hend:Q.take k=Q:=zTL (by rw[HLR.o];exact zLR _);have HVE:=HVK.o;rw[hend]at HVE;have HVF:=zH HVE;clear HVE hend HVK;have HT2:=zH (HT.o.bS HBR.o);obtain⟨_,c0,c1,c2,c3,_⟩:=HC.o.bS HBR.o;have hc0:=zba HBR.o HC0.o;obtain⟨_,q0,q1,q2,f0,f1,f2⟩:=HT2.o;obtain⟨_,d0,d1,d2,_,_,_⟩:=HC3.o;go_wp2_with fail;refine zab rfl rfl Tryz.aggF Tryz.sizeF (HT2.o.set _ _ _) rfl ?_;exact⟨_,rfl,HVF.o.set3 HT2.o zZ zZ _ _ _,zga (zaa HBW.o HBR.o) (zLS _) _ _ _⟩
section
variable {w w':World} {e:TypeId} {B size n:Nat} {v:Value} {xs:List Value} {q:List Rat}
theorem zkc.other (h:zkc w e B size v n xs) {p:Addr} (hp:p.block≠(base v).block) (u:Value):zkc (w.setCell p u) e B size v n xs:=by
 refine⟨⟨h.own.1,?_⟩,λ g hg cur e' fz hcc=> ?_⟩
 ·rcases h.own.2 with⟨rfl,h0⟩ | ⟨g,cap,cur,rfl,hb,hg,rest⟩
  ·exact .inl ⟨rfl,h0⟩
  ·refine .inr ⟨g,cap,cur,rfl,hb,?_,rest⟩;rw[Below.heap_setCell _ _ _ _ (by intro e;exact hp (e.symm.trans rfl))];exact hg
 ·have hg2:g=(base v).block:=by
   obtain⟨a,b,c,rfl,_⟩:=h.sl
   cases a with
   | none=>cases hg
   | some a=>simp only[Value.ownBlock,Option.some.injEq]at hg;exact hg.symm
  rw[Below.heap_setCell _ _ _ _ (by intro e;exact hp (by rw[<-e,hg2]))]at hcc;exact h.nl g hg cur e' fz hcc
theorem zua.other (h:zua w e B v q) {p:Addr} {x:Value} (hp:p.block≠(base v).block) (hc:w.cell? p=some x) (hx:∀z,x≠ .int .u32 z) (u:Value):zua (w.setCell p u) e B v q:=by
 obtain⟨xs,h1,h2⟩:=h;refine⟨xs,h1.other hp u,λ j hj=> ?_⟩;obtain⟨a,b,e1,e2,e3,e4,e5⟩:=h2 j hj;exact⟨a,b,e1,e2,e3,⟨e4.v.over hc hx u,e4.2⟩,⟨e5.v.over hc hx u,e5.2⟩⟩
theorem zua.c3 (h:zua w e B v q) {b:Nat} {s t:Bool} {x y x' y':Value} (hC:C3 w b (.bool s) x y) (hb:b≠(base v).block) (hx:∀z,x≠ .int .u32 z) (hy:∀z,y≠ .int .u32 z) (hx':∀z,x'≠ .int .u32 z):
 zua (((w.setCell ⟨b,0,none⟩ (.bool t)).setCell ⟨b,1,none⟩ x').setCell ⟨b,2,none⟩ y') e B v q:=by
 have h1:=h.other (p:=⟨b,0,none⟩) hb hC.c0 zZ (.bool t);have c1:(w.setCell ⟨b,0,none⟩ (.bool t)).cell? ⟨b,1,none⟩=some x:=by rw[zCO _ _ _ _ (by intro e;cases e)];exact hC.c1
 have h2:=h1.other (p:=⟨b,1,none⟩) hb c1 hx x';have c2:((w.setCell ⟨b,0,none⟩ (.bool t)).setCell ⟨b,1,none⟩ x').cell? ⟨b,2,none⟩=some y:=by rw[zCO _ _ _ _ (by intro e;cases e),zCO _ _ _ _ (by intro e;cases e)];exact hC.c2
 exact h2.other (p:=⟨b,2,none⟩) hb c2 hy y'
theorem C3.c3 {b b':Nat} {v0 v1 v2:Value} (h:C3 w b v0 v1 v2) (hb:b'≠b) (x y z:Value):C3 (((w.setCell ⟨b',0,none⟩ x).setCell ⟨b',1,none⟩ y).setCell ⟨b',2,none⟩ z) b v0 v1 v2:=
 ((h.other ⟨b',0,none⟩ x hb).other ⟨b',1,none⟩ y hb).other ⟨b',2,none⟩ z hb
end
section
variable {w w':World} {B S n:Nat} {vt r:Value} {x:Nat->Rat}
end
end Go.Proofs.YtlpdkbmmbdfoiaaGreat
