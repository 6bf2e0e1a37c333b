/- Lemmas. -/
import Derived.Test.YtkpedaflofejnaaGreatMRm
set_option linter.unusedVariables false
set_option linter.unusedSimpArgs false
namespace Go.Proofs.YtkpedaflofejnaaGreat
open Go.RowKit
theorem matN_one (w:World) (ea:Option Addr) (ek:Nat) (l:List RF) (h:zte w (.slice ea l.length ek) l):
 MatN (w.alloc (.cells #[.slice ea l.length ek] 23)) (.slice (some ⟨w.heap.size,0,none⟩) 1 1) [l]:=
 ⟨⟨_,1,1,rfl,zLR _,by simp[maxLen],λ e=>by cases e⟩,rfl,λ j hj=>by
   (have hj0:j=0:=by simp at hj;omega);subst hj0;exact⟨_,by simp[ptr,base,Addr.add],h.bw (zba _ _)⟩⟩
set_option maxRecDepth 100000 in
set_option maxHeartbeats 3200000 in
theorem valid_rest (va:Value) (c:RC) (w:World) (ha:zso w va c) (h1:1<=c.start.length) (h2:c.start.length<=128) (h3:c.lost.length=c.start.length) (h4:c.rates.length=c.start.length) (h5:zoj c.start c.start.length):
 Calls Tryz.prog 19 #[va] w (zsf w c):=by
 obtain⟨rv,sv,lv,rfl,hr,hs,hl⟩:=ha;obtain⟨ra,rn,rk,rfl,r1,r2,r3⟩:=hr.sl;obtain⟨sa,sn,sk,rfl,s1,s2,s3⟩:=hs.sl;obtain⟨la,ln,lk,rfl,l1,l2,l3⟩:=zta.sl hl;have hrl:rn=c.start.length:=hr.len.trans h4;have hsl:sn=c.start.length:=hs.len;have hll:ln=c.start.length:=hl.len.trans h3;subst hrl hsl hll;clear r1 r2 r3 s1 s2 s3 l1 l2 l3;have hbx:=zba w (.cells #[.slice ra c.start.length rk, .slice sa c.start.length sk, .slice la c.start.length lk] 34);have hs':=hs.bw hbx;have hr':=hr.bw hbx;have hl':=hl.bw hbx;have hc3:=C3.new w 34 (.slice ra c.start.length rk) (.slice sa c.start.length sk) (.slice la c.start.length lk);have H3:=zH h3;have H4:=zH h4;have H5:=zH h5;have HVAL:zI (zic c↔(∀i r,c.rates[i]? =some r->zje c i r)/\zof (qs c.start)=1):=zH ⟨λ h=>⟨h.2.2.2.2.2.1,h.2.2.2.2.2.2⟩,λ h=>⟨h1,h2,h3,h4,h5,h.1,h.2⟩⟩;clear h3 h4 h5 hs hr hl;generalize hn:c.start.length=n at *
 have HSTP:zI (∀i r,(zoj r n/\(∀x,r[i]? =some x->x.q.num=0)/\(c.lost[i]? =some true->wts (qs r)=0))↔zje c i r):=zH (λ i r=>by unfold zje;rw[hn]);have HNE:=zH hn;have HN6:zI (n<=65536):=zH zO;clear hn;go_enter Tryz.func19,Tryz.ntmps19;go_wp2_with fail;have hd1:decide ((n:Int)<1)=false:=zDF zO;have hd2:decide ((128:Int)<(n:Int))=false:=zDF zO;generalize hW:w.alloc (.cells #[.slice ra n rk, .slice sa n sk, .slice la n lk] 34)=W at *
 clear hW;have HC3:=zH hc3;obtain⟨_,b0,b1,b2,b3,b4,b5⟩:=hc3;go_wp2_with (go_at_call 74;(with_reducible refine(zvk _ c.start n _ hs' HN6.o).mono ?_);rintro e w1 ⟨rfl,hb1⟩;rw[zDT H5.o];obtain⟨_,f0,f1,f2,f3,f4,f5⟩:=HC3.o.bS hb1);clear b0 b1 b2 b3 b4 b5 f0 f1 f2 f3 f4 f5 hd1 hd2;have slR:=hr'.sl;have slS:=hs'.sl;have slL:zlb (.slice la n lk):=zta.sl hl';go_loopw [43] (λ u43 wr=>∃ (k:Nat),k<=n/\u43= .int .i64 k/\(∀i r,i<k->c.rates[i]? =some r->zje c i r)/\Below W.heap.size W wr) (λ u43 _=>n- (intOf u43).toNat);case atStart=>exact⟨0,zZL _,rfl,λ i r h=>zO,hb1⟩
 case round=>
  obtain⟨k,hk,rfl,hst,hb⟩:=hrel;clear hb1;have HST:=zH hst;clear hst;have HC:=zH (HC3.o.bS hb);obtain⟨_,b0,b1,b2,b3,b4,b5⟩:=HC3.o.bS hb;by_cases hkn:k<n
  ·(have hkr:k<c.rates.length:=by rw[H4.o];exact hkn);(have hkl:k<c.lost.length:=by rw[H3.o];exact hkn);obtain⟨rv,hrc,hrw⟩:=(hr'.bw hb).at' k hkr;have hlc:=(hl'.bw hb).at' k hkl;have HRK:zI (c.rates[k]? =some (c.rates[k]'hkr)):=zH (zGE hkr);have HLK:zI (c.lost[k]? =some (c.lost[k]'hkl)):=zH (zGE hkl);generalize c.rates[k]'hkr=l at *
   generalize c.lost[k]'hkl=lo at *
   have HNO:zI (¬zje c k l->¬zic c):=zH (λ h h'=>h ((HVAL.o.1 h').1 k l HRK.o))
   have HYES:zI (zje c k l->∀i r,i<k+1->c.rates[i]? =some r->zje c i r):=zH (λ h i r hi hr=>by
    rcases zOG i k with h6 | h6
    ·exact HST.o i r h6 hr
    ·obtain rfl:i=k:=zO;rw[HRK.o]at hr;(injection hr with hr);subst hr;exact h)
   clear hkr hkl;obtain⟨ea,en,ek,rfl,e1,e2,e3⟩:=hrw.sl;have slW:=hrw.sl;have hen:en=l.length:=hrw.len;subst hen;by_cases hrow:zoj l n
   ·have hll:l.length=n:=hrow.2.1;have hkl:k<l.length:=zO;obtain⟨xa,xb,c1,c2,c3,hxa,hxb⟩:=hrw.at' k hkl;obtain⟨c1a,c1l,c1k,rfl,_⟩:=hxa.slen.1;obtain⟨c2a,c2l,c2k,rfl,_⟩:=hxb.slen.1;have HXK:zI (l[k]? =some (l[k]'hkl)):=zH (zGE hkl);have HXP:=zH (hrow.1 _ (zGM hkl));have HROW:=zH hrow;have HLL:=zH hll;generalize l[k]'hkl=x at *
    have hxN:zjc wr (.agg #[.bool x.neg, .slice c1a c1l c1k, .slice c2a c2l c2k]) x.neg x.n x.d:=⟨_,_,rfl,hxa,hxb⟩;clear hrow hll hxa hxb;by_cases hz:x.q.num=0
    ·have HAB:=zH (RF.above_zero HXP.o.1 hz);have HXZ:zI (∀y,l[k]? =some y->y.q.num=0):=zH (λ y hy=>by rw[HXK.o]at hy;injection hy with hy;rw[<-hy];exact hz);clear hz;rcases lo with _ | _
     ·have HOK:=zH (HYES.o ((HSTP.o k l).1 ⟨HROW.o,HXZ.o,λ h=>by rw[HLK.o]at h;injection h with h;cases h⟩))
      go_wp2_with (first
       |(go_at_call 74;(with_reducible refine(zvk _ l n _ hrw HN6.o).mono ?_);rintro e w1 ⟨rfl,hb1⟩;rw[zDT HROW.o];have d1:=zca hb1 c1;have d2:=zca hb1 c2;have d3:=zca hb1 c3;)
       |(go_at_call 75;(with_reducible refine(zoo _ x.neg x.n x.d _ (hxN.bw hb1)).mono ?_);rintro e w2 ⟨rfl,hb2⟩;rw[HAB.o];obtain⟨_,f0,f1,f2,f3,f4,f5⟩:=(HC.o.bS hb1).bS hb2;have hlc2:=zca (zaa hb1 hb2) hlc;))
      go_roundw;(case rel=>exact⟨k+1,hkn,by go_num,HOK.o,zaa (zaa hb hb1) hb2⟩);case measure=>simp[intOf];omega
     ·have HWT:zI (wts (qs l)=0->∀i r,i<k+1->c.rates[i]? =some r->zje c i r):=zH (λ h=>HYES.o ((HSTP.o k l).1 ⟨HROW.o,HXZ.o,λ _=>h⟩));have HWF:zI (0<wts (qs l)->¬zic c):=zH (λ h=>HNO.o (λ h'=>by have:=((HSTP.o k l).2 h').2.2 HLK.o;omega));have HOKS:zI (∀l'∈ [l],∀x∈l',x.ok):=zH (λ l' h x hx=>by simp at h;subst h;exact(HROW.o.1 x hx).1);have HLLS:zI (∀l'∈ [l],l'.length<=65536):=zH (λ l' h=>by simp at h;subst h;have:=HLL.o;omega);have HLEN:zI ([l].length<=65536):=zH (by simp);have HW1:=zH (wtsM_one l)
      go_wp2_with (first
       |(go_at_call 74;(with_reducible refine(zvk _ l n _ hrw HN6.o).mono ?_);rintro e w1 ⟨rfl,hb1⟩;rw[zDT HROW.o];have d1:=zca hb1 c1;have d2:=zca hb1 c2;have d3:=zca hb1 c3;)
       |(go_at_call 75;(with_reducible refine(zoo _ x.neg x.n x.d _ (hxN.bw hb1)).mono ?_);rintro e w2 ⟨rfl,hb2⟩;rw[HAB.o];obtain⟨_,f0,f1,f2,f3,f4,f5⟩:=(HC.o.bS hb1).bS hb2;have hlc2:=zca (zaa hb1 hb2) hlc;have hb4:=zaa (zaa hb1 hb2) (zba w2 (.cells #[.slice ea l.length ek] 23));have HM:=zH (matN_one w2 ea ek l (hrw.bw (zaa hb1 hb2)));)
       |(go_at_call 76;(with_reducible refine(zxo _ [l] _ HM.o HOKS.o HLLS.o HLEN.o).mono ?_);rintro e w3 ⟨rfl,hb3⟩;rw[HW1.o]))
      ·go_ret;exact zsf.no (HWF.o (by assumption)) (hbx.trans ((zaa (zaa hb hb4) hb3).mono hbx.size))
      ·go_roundw;(case rel=>exact⟨k+1,hkn,by go_num,HWT.o zO,zaa (zaa hb hb4) hb3⟩);case measure=>simp[intOf];omega
    ·have HB:=zH (HNO.o (λ h=>hz (h.2.1 x HXK.o)));have HAB:=zH (RF.above_pos HXP.o.1 HXP.o.2.1 hz);clear hz
     go_wp2_with (first
      |(go_at_call 74;(with_reducible refine(zvk _ l n _ hrw HN6.o).mono ?_);rintro e w1 ⟨rfl,hb1⟩;rw[zDT HROW.o];have d1:=zca hb1 c1;have d2:=zca hb1 c2;have d3:=zca hb1 c3)
      |(go_at_call 75;(with_reducible refine(zoo _ x.neg x.n x.d _ (hxN.bw hb1)).mono ?_);rintro e w2 ⟨rfl,hb2⟩;rw[HAB.o]))
     go_ret;exact zsf.no HB.o (hbx.trans ((zaa (zaa hb hb1) hb2).mono hbx.size))
   ·have HB:=zH (HNO.o (λ h=>hrow ((HSTP.o k l).2 h).1));have HR:=zH hrow;clear hrow;go_wp2_with (go_at_call 74;(with_reducible refine(zvk _ l n _ hrw HN6.o).mono ?_);rintro e w1 ⟨rfl,hb1⟩;rw[zDF HR.o]);go_ret;exact zsf.no HB.o (hbx.trans ((zaa hb hb1).mono hbx.size))
  ·obtain rfl:k=n:=zO
   have HALL:zI (∀i r,c.rates[i]? =some r->zje c i r):=zH (λ i r h=>HST.o i r (by
    obtain⟨h6,_⟩:=List.getElem?_eq_some_iff.1 h;have:=H4.o;omega) h)
   have HOKS:zI (∀x∈c.start,x.ok):=zH H5.o.ok;have HFIT:zI (∀j,j<=c.start.length->fits (zof (qs (c.start.take j)))):=zH (λ j _=>H5.o.fits j);have HFS:zI (fits (zof (qs c.start))):=zH (by have h6:=H5.o.fits c.start.length;rw[List.take_length]at h6;exact h6);go_wp2_with (go_at_call 77;(with_reducible refine(sum_frac _ c.start _ (hs'.bw hb) HOKS.o HFIT.o).mono ?_);rintro e w1 ⟨v,rfl,hv,hb1⟩;obtain⟨t9,a1,l91,k1,a2,l92,k2,rfl⟩:=hv.iF);have hv6:=hv.bw (zba w1 (.cells #[.bool t9, .slice a1 l91 k1, .slice a2 l92 k2] 53));have hc6:=C3.new w1 53 (.bool t9) (.slice a1 l91 k1) (.slice a2 l92 k2);have hb6:=zaa (zaa hb hb1) (zba w1 (.cells #[.bool t9, .slice a1 l91 k1, .slice a2 l92 k2] 53));generalize w1.alloc (.cells #[.bool t9, .slice a1 l91 k1, .slice a2 l92 k2] 53)=W6 at *
   have hdr:=zha (B:=W6.heap.size) W6;have hv7:=hv6.bw hdr;have HC7:=zH (hc6.bS hdr);have hb7:=zaa hb6 hdr;clear hv hv6 hb1 hb6 hb b0 b1 b2 b3 b4 b5 hs' hr' hl';obtain⟨_,q1,q2,q3,q4,q5,q6⟩:=hc6.bS hdr;clear hc6;generalize w1.heap.size=B6 at *
   have HF1:=zH zer
   go_region_held3 (λ w'=>w'.cell? ⟨B6,0,none⟩=some (.bool t9)/\w'.cell? ⟨B6,1,none⟩=some (.slice a1 l91 k1)/\w'.cell? ⟨B6,2,none⟩=some (.slice a2 l92 k2)) (exact⟨q1,q2,q3⟩) (first
    |(go_at_call 79;(with_reducible refine(number_one _).mono ?_);rintro e8 w8 ⟨v1,rfl,hv1,hb8⟩;obtain⟨_,q1,q2,q3,q4,q5,q6⟩:=HC7.o.bS hb8;have HC8:=zH (HC7.o.bS hb8);have hv8:=hv7.bw hb8)
    |(go_at_call 78;(with_reducible refine(cmp_can _ v1 _ _ _ hv8 hv1 HFS.o HF1.o).mono ?_);rintro e9 w9 ⟨rfl,hb9⟩;obtain⟨_,q1,q2,q3,q4,q5,q6⟩:=HC8.o.bS hb9))
   go_wp2;go_ret;refine⟨⟨_,rfl,?_⟩,hbx.trans ((zaa (zaa hb7 hb8) hb9).mono hbx.size)⟩;rw[HVAL.o];have h9:=zhe (zof (qs c.start)) 1;exact⟨λ h=>⟨HALL.o,h9.1 (by simpa using h)⟩,λ h=>by simpa using h9.2 h.2⟩
theorem zvm (va:Value) (c:RC) (w:World) (ha:zso w va c):Calls Tryz.prog 19 #[va] w (zsf w c):=by
 by_cases h:c.start.length<1\/128<c.start.length\/c.lost.length≠c.start.length\/c.rates.length≠c.start.length\/¬zoj c.start c.start.length
 ·refine(valid_false1 va c w ha h).mono λ e w' ⟨h1,h2⟩=> ?_
  rw[h1];refine zsf.no (λ hv=> ?_) h2;obtain⟨v1,v2,v3,v4,v5,_⟩:=hv;rcases h with h | h | h | h | h
  ·omega
  ·omega
  ·exact h v3
  ·exact h v4
  ·exact h v5
 ·exact valid_rest va c w ha (Nat.le_of_not_lt λ h1=>h (Or.inl h1)) (Nat.le_of_not_lt λ h1=>h (Or.inr (Or.inl h1))) (Decidable.of_not_not λ h1=>h (Or.inr (Or.inr (Or.inl h1)))) (Decidable.of_not_not λ h1=>h (Or.inr (Or.inr (Or.inr (Or.inl h1))))) (Decidable.of_not_not λ h1=>h (Or.inr (Or.inr (Or.inr (Or.inr h1)))))
theorem keep6w {w0 X Y:World} {a1 a2 a3 a4 a5 a6:Addr} {x1 x2 x3 x4 x5 x6:Value} (h:X.cell? a1=some x1/\X.cell? a2=some x2/\X.cell? a3=some x3/\X.cell? a4=some x4/\X.cell? a5=some x5/\X.cell? a6=some x6/\Below w0.heap.size w0 X) (hb:Below X.heap.size X Y):
 Y.cell? a1=some x1/\Y.cell? a2=some x2/\Y.cell? a3=some x3/\Y.cell? a4=some x4/\Y.cell? a5=some x5/\Y.cell? a6=some x6/\Below w0.heap.size w0 Y:=by
 obtain⟨k1,k2,k3,k4,k5,k6,k7⟩:=h;exact⟨zca hb k1,zca hb k2,zca hb k3,zca hb k4,zca hb k5,zca hb k6,zaa k7 hb⟩
theorem keep6a {w0 X:World} {a1 a2 a3 a4 a5 a6:Addr} {x1 x2 x3 x4 x5 x6:Value} (h:w0.cell? a1=some x1/\w0.cell? a2=some x2/\w0.cell? a3=some x3/\w0.cell? a4=some x4/\w0.cell? a5=some x5/\w0.cell? a6=some x6) (hb:Below w0.heap.size w0 X):
 X.cell? a1=some x1/\X.cell? a2=some x2/\X.cell? a3=some x3/\X.cell? a4=some x4/\X.cell? a5=some x5/\X.cell? a6=some x6/\Below w0.heap.size w0 X:=by
 obtain⟨k1,k2,k3,k4,k5,k6⟩:=h;exact⟨zca hb k1,zca hb k2,zca hb k3,zca hb k4,zca hb k5,zca hb k6,hb⟩
theorem keep6c {w0 X:World} {a1 a2 a3 a4 a5 a6:Addr} {x1 x2 x3 x4 x5 x6:Value} (h:X.cell? a1=some x1/\X.cell? a2=some x2/\X.cell? a3=some x3/\X.cell? a4=some x4/\X.cell? a5=some x5/\X.cell? a6=some x6/\Below w0.heap.size w0 X):Below w0.heap.size w0 X:=h.2.2.2.2.2.2
theorem keep6s {w0 X:World} {a1 a2 a3 a4 a5 a6:Addr} {x1 x2 x3 x4 x5 x6:Value} (h:w0.cell? a1=some x1/\w0.cell? a2=some x2/\w0.cell? a3=some x3/\w0.cell? a4=some x4/\w0.cell? a5=some x5/\w0.cell? a6=some x6) (hb:Below w0.heap.size w0 X) {b:Nat} (hB:w0.heap.size<=b) (x y z:Value):
 (((X.setCell ⟨b,0,none⟩ x).setCell ⟨b,1,none⟩ y).setCell ⟨b,2,none⟩ z).cell? a1=some x1/\(((X.setCell ⟨b,0,none⟩ x).setCell ⟨b,1,none⟩ y).setCell ⟨b,2,none⟩ z).cell? a2=some x2/\(((X.setCell ⟨b,0,none⟩ x).setCell ⟨b,1,none⟩ y).setCell ⟨b,2,none⟩ z).cell? a3=some x3/\
 (((X.setCell ⟨b,0,none⟩ x).setCell ⟨b,1,none⟩ y).setCell ⟨b,2,none⟩ z).cell? a4=some x4/\(((X.setCell ⟨b,0,none⟩ x).setCell ⟨b,1,none⟩ y).setCell ⟨b,2,none⟩ z).cell? a5=some x5/\(((X.setCell ⟨b,0,none⟩ x).setCell ⟨b,1,none⟩ y).setCell ⟨b,2,none⟩ z).cell? a6=some x6/\Below w0.heap.size w0 (((X.setCell ⟨b,0,none⟩ x).setCell ⟨b,1,none⟩ y).setCell ⟨b,2,none⟩ z):=
 keep6a h (zea hb hB x y z)
theorem zna.same {w:World} {va vb:Value} {p q:Rat} (ha:zna w va p) (hb:zna w vb q) (hp:fits p) (hq:fits q):
 Calls Tryz.prog 29 #[va,vb] w λ en w'=>en= .returned (.bool (decide (p=q)))/\Below w.heap.size w w':=by
 have:=zhp va vb _ _ _ _ _ _ w ha.raw hb.raw (zpd hp) (zpd hq);rwa[zrc,zrc]at this
theorem r2add_acc (va vb:Value) (p r:Rat) (x:RF) (w:World) (ha:zna w va p) (hb:zjc w vb x.neg x.n x.d) (hp:fits p) (hx:okN x.n x.d) (hr:p+x.q=r) (hf:fits r):
 Calls Tryz.prog 28 #[va,vb] w (RF0 w r):=by
 refine(r2add_any va vb _ _ _ _ _ _ w ha.raw hb (zpd hp) hx).mono ?_;rw[zrc,show p+fq x.neg x.n x.d=r from hr];rintro e w' ⟨v,er,rfl,h1,h2,_⟩;obtain⟨rfl,h3⟩:=h2 hf;exact⟨v,rfl,h3,h1⟩
set_option maxRecDepth 100000 in
set_option maxHeartbeats 3200000 in
theorem r2sum_fit (va:Value) (l:List RF) (w:World) (ha:zte w va l) (hok:∀x∈l,x.ok) (hfit:∀k,k<=l.length->fits (zof (qs (l.take k)))):
 Calls Tryz.prog 111 #[va] w (RF0 w (zof (qs l))):=by
 have sa:=ha.sl;have la:=ha.len;have hle:=sa.le;rw[la]at hle;have hlb:l.length<=9223372036854775807:=zO;have HOK:=zH hok;have HFIT:=zH hfit;clear hok hfit hle;have hb0:=(zba w (.cells #[.bool false, .slice none 0 0, .slice none 0 0] 53));have HR0:=zH (C3.new w 53 (.bool false) (.slice none 0 0) (.slice none 0 0));go_enter Tryz.func111,Tryz.ntmps111;go_wp2_with (go_at_call 23;(with_reducible refine(zac _).mono ?_);rintro e1 w1 ⟨v1,rfl,hv1,hb1⟩;obtain⟨t9,a1,l91,k1,a2,l92,k2,rfl⟩:=hv1.iF;have hT:=C3.new w1 53 (.bool t9) (.slice a1 l91 k1) (.slice a2 l92 k2);have hb3:=zba w1 (.cells #[.bool t9, .slice a1 l91 k1, .slice a2 l92 k2] 53);have HV:=zH (hv1.bw hb3);have HB:=zH (zaa (zaa hb0 hb1) hb3);have HR3:=zH ((HR0.o.bS hb1).bS hb3);have hS:w.heap.size<w1.heap.size:=(HR0.o.bS hb1).lt);generalize w1.alloc (.cells #[.bool t9, .slice a1 l91 k1, .slice a2 l92 k2] 53)=W1 at *
 generalize w1.heap.size=S at *
 clear hb0 hb1 hb3 hv1;go_loopg [5] (l.length) (λ g u5 wr=>∃ (k:Nat) (v0 v1 v2:Value),k<=l.length/\g=l.length-k/\u5= .int .i64 k/\C3 wr S v0 v1 v2/\zna wr (.agg #[v0,v1,v2]) (zof (qs (l.take k)))/\C3 wr w.heap.size (.bool false) (.slice none 0 0) (.slice none 0 0)/\Below w.heap.size w wr);case atStart=>exact⟨0,_,_,_,zZL _,rfl,rfl,hT,HV.o,HR3.o,HB.o⟩
 case round=>
  obtain⟨k,v0,v1,v2,hk,hg,rfl,hs,hf,hr,hbr⟩:=hrel;obtain⟨s0,b1,m1,j1,b2,m2,j2,rfl,rfl,rfl⟩:=C3.frac hf;obtain⟨w2,hw2⟩:∃w2,w2=wr:=⟨_,rfl⟩;subst hw2;have HS:=zH hs;have HR:=zH hr;have HF:=zH hf;have HBR:=zH hbr;clear hT HV HR3 HB hf;obtain⟨_,s1,s2,s3,s4,s5,s6⟩:=hs;obtain⟨_,q1,q2,q3,q4,q5,q6⟩:=hr;by_cases hkl:k<l.length
  ·obtain⟨xa,xb,c1,c2,c3,hxa,hxb⟩:=(ha.bw hbr).at' k hkl;obtain⟨c1a,c1l,c1k,rfl,_⟩:=hxa.slen.1;obtain⟨c2a,c2l,c2k,rfl,_⟩:=hxb.slen.1;have HO:zI (okN l[k].n l[k].d):=zH (HOK.o l[k] (zGM hkl));have HQ:=zH (HFIT.o k hk);have HE:zI (zof (qs (l.take k))+(l[k]'hkl).q=zof (qs (l.take (k+1)))):=zH (lsum_qs l k hkl).symm;have HF1:=zH (HFIT.o (k+1) hkl);generalize l[k]'hkl=x at *
   have HA:zI (zjc w2 (.agg #[.bool x.neg, .slice c1a c1l c1k, .slice c2a c2l c2k]) x.neg x.n x.d):=zH ⟨_,_,rfl,hxa,hxb⟩;have S0:=zH (zAI s1 (zAI s2 (zAI s3 (zAI c1 (zAI c2 c3)))));have i1:(0:Int)<=(k:Int):=zO;have i2:(k:Int)<(l.length:Nat):=zO;clear hxa hxb s1 s2 s3 s4 s5 s6 q1 q2 q3 q4 q5 q6 c1 c2 c3 hbr;go_wp2_with fail;go_cut [6,7] (λ u6 u7 wy=>∃ (b6:Nat) (t':Bool) (x' y':Value),u6= .pointer (some ⟨b6,0,none⟩)/\u7= .int .i64 0/\C3 wy b6 (.bool t') x' y'/\zna wy (.agg #[.bool t',x',y']) (zof (qs (l.take (k+1))))/\Below w2.heap.size w2 wy)
   case first =>
    go_region_held3 (λ w'=>w'.cell? ⟨S,0,none⟩=some (.bool s0)/\w'.cell? ⟨S,1,none⟩=some (.slice b1 m1 j1)/\w'.cell? ⟨S,2,none⟩=some (.slice b2 m2 j2)/\w'.cell? (ptr va (k*3))=some (.bool x.neg)/\w'.cell? (ptr va (k*3+1))=some (.slice c1a c1l c1k)/\w'.cell? (ptr va (k*3+2))=some (.slice c2a c2l c2k)/\Below w2.heap.size w2 w') (first
     | with_reducible exact keep6a S0.o (zha _)
     | with_reducible exact keep6w (by assumption) (zba _ _)
     | with_reducible exact keep6w (by assumption) (by assumption)
     | with_reducible exact keep6a S0.o (zaa hB31 (zba _ _))
     | with_reducible exact keep6s S0.o hB31 (zLR _) _ _ _) (first
     |(go_at_call 28;(with_reducible refine(r2add_acc _ _ (zof (qs (l.take k))) (zof (qs (l.take (k+1)))) x _ (HF.o.bw (keep6c (by assumption))) (HA.o.bw (keep6c (by assumption))) HQ.o HO.o HE.o HF1.o).mono ?_);rintro e31 w31 ⟨v31,rfl,hv31,hb31⟩;obtain⟨t31,a311,l311,k311,a312,l312,k312,rfl⟩:=hv31.iF;have hB31:=zaa (keep6c (by assumption)) hb31;have hc5:=(fun(p:Addr) hp=>hb31.cell (p:=p) hp);have hf5:=(fun(p:Addr) hp=>hb31.frozen (p:=p) hp);have zq:=hb31.size;(try simp only[sizeA,sizeD]at zq);(try have z1:w2.heap.size<w31.heap.size:=zO)))
    all_goals
     have hE:=keep6c (by assumption);go_wp2_with fail;go_meet
     case rel=>
      first
       | exact⟨_,_,_,_,rfl,rfl,C3.new w31 _ _ _ _,hv31.bw (zba _ _),hE⟩
       | exact⟨_,_,_,_,rfl,rfl,(((C3.newB (b:=w2.heap.size) w2 53 (.bool false) (.slice none 0 0) (.slice none 0 0) rfl).bS (zha _)).bS hb31).set _ _ _,hv31.set3 (((C3.newB (b:=w2.heap.size) w2 53 (.bool false) (.slice none 0 0) (.slice none 0 0) rfl).bS (zha _)).bS hb31) zZ zZ _ _ _,hE⟩
   case rest=>
    obtain⟨b6,t6,x6,y6,rfl,rfl,hC6,hv6,hb6⟩:=hcut;obtain⟨w3,hw3⟩:∃w3,w3=wc:=⟨_,rfl⟩;subst hw3;have hv6':=hv6;obtain⟨_,_,_,hF6,⟨a61,l61,k61,rfl,_⟩,⟨a62,l62,k62,rfl,_⟩⟩:=hv6'.isF;(injection hF6 with hF6);(injection hF6 with hF6);simp only[List.cons.injEq,and_true,Value.bool.injEq]at hF6;obtain⟨rfl,rfl,rfl⟩:=hF6;have HS3:=zH (HS.o.bS hb6);have HR3:=zH (HR.o.bS hb6);have HB3:=zH (zaa HBR.o hb6);obtain⟨_,e1,e2,e3,_,_,_⟩:=id hC6;obtain⟨_,s1,s2,s3,s4,s5,s6⟩:=HS3.o;go_wp2_with fail;go_roundg (l.length- (k+1));(case measure=>omega);case rel=>exact⟨k+1,_,_,_,hkl,rfl,by go_num,HS3.o.set _ _ _,hv6.set3 HS3.o zZ zZ _ _ _,HR3.o.set_other zO _ _ _,zea HB3.o zO _ _ _⟩
  ·obtain rfl:k=l.length:=zO;have HF2:zI (zna w2 (.agg #[.bool s0, .slice b1 m1 j1, .slice b2 m2 j2]) (zof (qs l))):=zH (by have h5:=HF.o;rw[List.take_length]at h5;exact h5);clear HF;go_wp2;refine zka rfl rfl Tryz.aggF Tryz.sizeF (HR.o.set _ _ _) rfl ?_;exact⟨_,rfl,HF2.o.set3 HR.o zZ zZ _ _ _,zea hbr (zLR _) _ _ _⟩
@[go_sem] theorem slen_lit2 (a : Option Addr) (n c : Nat) : slen (.slice a n c) = n := rfl
theorem zbd (va:Value) (x:RF) (w:World) (ha:zjc w va x.neg x.n x.d) (hx:x.ok):Calls Tryz.prog 112 #[va] w (RF0 w x.q):=
 (zuh va x.neg x.n x.d w ha).mono λ e w' h=>by
  obtain⟨v,er,rfl,h1,h2,_⟩:=h;obtain⟨rfl,h3⟩:=h2 hx;exact⟨v,rfl,h3,h1⟩
theorem den_one {d:Nat} (h:zda d=1):d<4294967296/\∀ (wx:World) (g:Value),zpb wx g d->wx.cell? (ptr g 0)=some (.int .u32 d):=by
 have h0:d≠0:=zyd.1 zO;have hb:d<4294967296:=by have:=zcc.1 (Nat.le_of_eq h);simpa [pw]using this
 refine⟨hb,λ wx g hg=> ?_⟩;have h1:=hg.v;have e:zja d= [d]:=by rw[zge h0,Nat.mod_eq_of_lt hb,Nat.div_eq_of_lt hb,zgc]
 rw[e]at h1;exact h1.cell 0 (by simp)
set_option maxRecDepth 100000 in
set_option maxHeartbeats 3200000 in
theorem rweight_any (va:Value) (l:List RF) (w:World) (ha:zte w va l) (hok:∀x∈l,x.ok) (hl:l.length<=65536):
 Calls Tryz.prog 159 #[va] w λ e w'=>e= .returned (.int .i64 (wts (qs l):Nat))/\Below w.heap.size w w':=by
 have sa:=ha.sl;have la:=ha.len;have HOK:=zH hok;clear hok;go_enter Tryz.func159,Tryz.ntmps159;go_wp2_with fail;go_loopw [3,4] (λ u3 u4 wr=>∃ (k:Nat),k<=l.length/\u4= .int .i64 k/\u3= .int .i64 (wts (qs (l.take k)):Nat)/\Below w.heap.size w wr) (λ _ u4 _=>l.length- (intOf u4).toNat);case atStart=>exact⟨0,zZL _,rfl,by simp[qs,wts],zBR _ _⟩
 case round=>
  obtain⟨k,hk,rfl,rfl,hbr⟩:=hrel;by_cases hkl:k<l.length
  ·obtain⟨xa,xb,c1,c2,c3,hxa,hxb⟩:=(ha.bw hbr).at' k hkl;obtain⟨c1a,c1l,c1k,rfl,_⟩:=hxa.slen.1;obtain⟨c2a,c2l,c2k,rfl,_⟩:=hxb.slen.1;have HX:=zH (HOK.o l[k] (zGM hkl));have HTS:=zH (wts_qs l k hkl)
   have hWj:wts (qs (l.take k))<=8192*65536:=by
    have h1:=wts_le (l.take k) (λ x h=>HOK.o x (List.mem_of_mem_take h));rw[zTK]at h1;omega
   generalize l[k]'hkl=x at *
   generalize wts (qs (l.take k))=W1 at *
   have HA:zI (zjc wr (.agg #[.bool x.neg, .slice c1a c1l c1k, .slice c2a c2l c2k]) x.neg x.n x.d):=zH ⟨_,_,rfl,hxa,hxb⟩;obtain⟨hf1,hf2⟩:=RF.fits HX.o;have hn0:=zld (n:=x.q.num.natAbs);have hd0:=x.q.den_nz;have hlp:=zyd (d:=x.q.num.natAbs);have hld:=zyd (d:=x.q.den);have HONE:=zH (den_one (d:=x.q.den));obtain⟨bn,hbn⟩:∃bn,zsa x.q.num.natAbs=bn:=⟨_,rfl⟩;obtain⟨bd,hbd⟩:∃bd,zsa x.q.den=bd:=⟨_,rfl⟩;obtain⟨ln,hln⟩:∃ln,zda x.q.num.natAbs=ln:=⟨_,rfl⟩;obtain⟨ld,hld2⟩:∃ld,zda x.q.den=ld:=⟨_,rfl⟩;rw[hbn]at hf1 hn0;rw[hbd]at hf2;rw[hln]at hlp;rw[hld2]at hld;have HBN:=zH hbn;have HBD:=zH hbd;have HLN:=zH hln;have HLD:=zH hld2;have hld0:0<ld:=hld.2 hd0;have i1:(0:Int)<=(k:Int):=zO;have i2:(k:Int)<(l.length:Nat):=zO;clear hbn hbd hln hld2 hxa hxb hld;by_cases hz:x.q.num=0
   ·(have hbz:bn=0:=by have:=hn0.1;omega);(have hlz:ln=0:=by have:=hlp.1;omega);have HW:=zH (wt_zero hz);have hlq:¬0<ln:=zO;have HB0:=zH hbz;clear hz hn0 hd0 hlp hlz hbz
    go_wp2_with (first
     |(go_at_call 112;(with_reducible refine(zbd _ x _ HA.o HX.o).mono ?_);rintro e w7 ⟨v,rfl,hv,hb7⟩;obtain⟨xa2,xb2,rfl,hxa2,hxb2⟩:=hv;obtain⟨y1,y2,y3,rfl,_⟩:=id hxa2.v.sl;obtain⟨y4,y5,y6,rfl,_⟩:=id hxb2.v.sl;have e2:y2=_:=hxa2.v.len.trans HLN.o;have e5:y5=_:=hxb2.v.len.trans HLD.o;subst e2 e5;have hb9:=zba w7 (.cells #[.bool (decide (x.q<0)), .slice y1 y2 y3, .slice y4 y5 y6] 53);have hC9:=C3.new w7 53 (.bool (decide (x.q<0))) (.slice y1 y2 y3) (.slice y4 y5 y6);have HC9:=zH hC9;have HXA:=zH (hxa2.bw hb9);have HXB:=zH (hxb2.bw hb9);have sB:=hxb2.v.sl;have hb8:=zaa (zaa hbr hb7) hb9;obtain⟨_,f0,f1,f2,_,_,_⟩:=id hC9;clear hC9 hxa2 hxb2 hb9)
     |(go_at_call 160;first
       |((with_reducible refine(zee _ _ _ HXA.o.nat).mono ?_);rintro e w8 ⟨rfl,hb10⟩;rw[HBN.o]
         have hb8:=zaa hb8 hb10;have HXB:=zH (HXB.o.bw hb10)
         skip
         obtain⟨_,f0,f1,f2,_,_,_⟩:=HC9.o.bS hb10)
       |((with_reducible refine(zee _ _ _ HXB.o.nat).mono ?_);rintro e w9 ⟨rfl,hb11⟩;rw[HBD.o]
         have hb8:=zaa hb8 hb11)))
    go_roundw;(case rel=>exact⟨k+1,hkl,by go_num,by rw[HTS.o,HW.o,HB0.o];go_num,hb8⟩);case measure=>simp[intOf];omega
   ·have hbz:0<bn:=hn0.2 zO;have hlz:0<ln:=hlp.2 zO;by_cases hd:x.q.den=1
    ·have HW:=zH (wt_int hz hd);(have hl1:ld=1:=by rw[<-HLD.o,hd];decide+kernel);have HC1:=zH (HONE.o (by rw[HLD.o];exact hl1));have HDE:zI (∀ (wx:World) (g:Value),zpb wx g x.q.den->wx.cell? (ptr g 0)=some (.int .u32 (1:Nat))):=zH (λ wx g h=>by have:=HC1.o.2 wx g h;rwa[hd]at this);have hlq:¬1<ld:=zO;clear hz hn0 hd0 hlp hd hl1
     go_wp2_with (first
      |(go_at_call 112;(with_reducible refine(zbd _ x _ HA.o HX.o).mono ?_);rintro e w7 ⟨v,rfl,hv,hb7⟩;obtain⟨xa2,xb2,rfl,hxa2,hxb2⟩:=hv;obtain⟨y1,y2,y3,rfl,_⟩:=id hxa2.v.sl;obtain⟨y4,y5,y6,rfl,_⟩:=id hxb2.v.sl;have e2:y2=_:=hxa2.v.len.trans HLN.o;have e5:y5=_:=hxb2.v.len.trans HLD.o;subst e2 e5;have hb9:=zba w7 (.cells #[.bool (decide (x.q<0)), .slice y1 y2 y3, .slice y4 y5 y6] 53);have hC9:=C3.new w7 53 (.bool (decide (x.q<0))) (.slice y1 y2 y3) (.slice y4 y5 y6);have HC9:=zH hC9;have HXA:=zH (hxa2.bw hb9);have HXB:=zH (hxb2.bw hb9);have sB:=hxb2.v.sl;have hb8:=zaa (zaa hbr hb7) hb9;obtain⟨_,f0,f1,f2,_,_,_⟩:=id hC9;clear hC9 hxa2 hxb2 hb9)
      |(go_at_call 160;first
        |((with_reducible refine(zee _ _ _ HXA.o.nat).mono ?_);rintro e w8 ⟨rfl,hb10⟩;rw[HBN.o]
          have hb8:=zaa hb8 hb10;have HXB:=zH (HXB.o.bw hb10);have hden:=HDE.o _ _ HXB.o;obtain⟨_,f0,f1,f2,_,_,_⟩:=HC9.o.bS hb10)
        |((with_reducible refine(zee _ _ _ HXB.o.nat).mono ?_);rintro e w9 ⟨rfl,hb11⟩;rw[HBD.o]
          have hb8:=zaa hb8 hb11)))
     go_roundw;(case rel=>exact⟨k+1,hkl,by go_num,by rw[HTS.o,HW.o,HBN.o];go_num,hb8⟩);case measure=>simp[intOf];omega
    ·have HW:=zH (wt_frac hz hd);by_cases hl1:ld=1
     ·have HC1:=zH (HONE.o (by rw[HLD.o];exact hl1));obtain⟨dn,hdn⟩:∃dn,x.q.den=dn:=⟨_,rfl⟩;have hd2:1<dn:=zO;(have hd3:dn<4294967296:=by have:=HC1.o.1;omega);have HDE:zI (∀ (wx:World) (g:Value),zpb wx g x.q.den->wx.cell? (ptr g 0)=some (.int .u32 dn)):=zH (λ wx g h=>by have:=HC1.o.2 wx g h;rwa[hdn]at this);have hlq:¬1<ld:=zO;clear hz hn0 hd0 hlp hd hdn hl1
      go_wp2_with (first
       |(go_at_call 112;(with_reducible refine(zbd _ x _ HA.o HX.o).mono ?_);rintro e w7 ⟨v,rfl,hv,hb7⟩;obtain⟨xa2,xb2,rfl,hxa2,hxb2⟩:=hv;obtain⟨y1,y2,y3,rfl,_⟩:=id hxa2.v.sl;obtain⟨y4,y5,y6,rfl,_⟩:=id hxb2.v.sl;have e2:y2=_:=hxa2.v.len.trans HLN.o;have e5:y5=_:=hxb2.v.len.trans HLD.o;subst e2 e5;have hb9:=zba w7 (.cells #[.bool (decide (x.q<0)), .slice y1 y2 y3, .slice y4 y5 y6] 53);have hC9:=C3.new w7 53 (.bool (decide (x.q<0))) (.slice y1 y2 y3) (.slice y4 y5 y6);have HC9:=zH hC9;have HXA:=zH (hxa2.bw hb9);have HXB:=zH (hxb2.bw hb9);have sB:=hxb2.v.sl;have hb8:=zaa (zaa hbr hb7) hb9;obtain⟨_,f0,f1,f2,_,_,_⟩:=id hC9;clear hC9 hxa2 hxb2 hb9)
       |(go_at_call 160;first
         |((with_reducible refine(zee _ _ _ HXA.o.nat).mono ?_);rintro e w8 ⟨rfl,hb10⟩;rw[HBN.o]
           have hb8:=zaa hb8 hb10;have HXB:=zH (HXB.o.bw hb10);have hden:=HDE.o _ _ HXB.o;obtain⟨_,f0,f1,f2,_,_,_⟩:=HC9.o.bS hb10)
         |((with_reducible refine(zee _ _ _ HXB.o.nat).mono ?_);rintro e w9 ⟨rfl,hb11⟩;rw[HBD.o]
           have hb8:=zaa hb8 hb11)))
      go_roundw;(case rel=>exact⟨k+1,hkl,by go_num,by rw[HTS.o,HW.o,HBN.o,HBD.o];go_num,hb8⟩);case measure=>simp[intOf];omega
     ·have hl2:1<ld:=zO;clear hz hn0 hd0 hlp hd
      go_wp2_with (first
       |(go_at_call 112;(with_reducible refine(zbd _ x _ HA.o HX.o).mono ?_);rintro e w7 ⟨v,rfl,hv,hb7⟩;obtain⟨xa2,xb2,rfl,hxa2,hxb2⟩:=hv;obtain⟨y1,y2,y3,rfl,_⟩:=id hxa2.v.sl;obtain⟨y4,y5,y6,rfl,_⟩:=id hxb2.v.sl;have e2:y2=_:=hxa2.v.len.trans HLN.o;have e5:y5=_:=hxb2.v.len.trans HLD.o;subst e2 e5;have hb9:=zba w7 (.cells #[.bool (decide (x.q<0)), .slice y1 y2 y3, .slice y4 y5 y6] 53);have hC9:=C3.new w7 53 (.bool (decide (x.q<0))) (.slice y1 y2 y3) (.slice y4 y5 y6);have HC9:=zH hC9;have HXA:=zH (hxa2.bw hb9);have HXB:=zH (hxb2.bw hb9);have sB:=hxb2.v.sl;have hb8:=zaa (zaa hbr hb7) hb9;obtain⟨_,f0,f1,f2,_,_,_⟩:=id hC9;clear hC9 hxa2 hxb2 hb9)
       |(go_at_call 160;first
         |((with_reducible refine(zee _ _ _ HXA.o.nat).mono ?_);rintro e w8 ⟨rfl,hb10⟩;rw[HBN.o]
           have hb8:=zaa hb8 hb10;have HXB:=zH (HXB.o.bw hb10)
           skip
           obtain⟨_,f0,f1,f2,_,_,_⟩:=HC9.o.bS hb10)
         |((with_reducible refine(zee _ _ _ HXB.o.nat).mono ?_);rintro e w9 ⟨rfl,hb11⟩;rw[HBD.o]
           have hb8:=zaa hb8 hb11)))
      go_roundw;(case rel=>exact⟨k+1,hkl,by go_num,by rw[HTS.o,HW.o,HBN.o,HBD.o];go_num,hb8⟩);case measure=>simp[intOf];omega
  ·obtain rfl:k=l.length:=zO;rw[List.take_length]at *
   go_wp2_with fail;go_ret;exact⟨rfl,hbr⟩
end Go.Proofs.YtkpedaflofejnaaGreat
