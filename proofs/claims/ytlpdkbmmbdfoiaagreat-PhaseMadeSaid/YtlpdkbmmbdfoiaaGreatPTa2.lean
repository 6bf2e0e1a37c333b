/- Lemmas. -/
import Derived.Test.YtlpdkbmmbdfoiaaGreatPRa7
set_option linter.unusedVariables false
set_option linter.unusedSimpArgs false
namespace Go.Proofs.YtlpdkbmmbdfoiaaGreat
set_option maxHeartbeats 800000
open Go.RowKit
theorem zan (va vb:Value) (m n:Nat) (w:World) (ha:zcc w va m) (hb:zcc w vb n) (h:n≠0) (hm:zha m<=512) (hn:zha n<=512):
 Calls Tryz.prog 150 #[va,vb] w (RDiv2 w m n):=by
 have HM:=zH hm;have HN:=zH hn;have H0:=zH h;have hnz:zha n≠0:=λ h'=>h (zva.1 h')
 have hnz2:(((zha n:Nat):Int)==0)=false:=by simpa using hnz
 clear hm hn hnz h;have tok1:True:=trivial;go_enter Tryz.func150,Tryz.ntmps150
 go_wp2_with (first
  |(go_at_call 152;first
    |((with_reducible refine(zud va m _ ha HM.o).mono ?_);rintro e wa ⟨rfl,hba⟩)
    |((with_reducible refine(zud vb n _ (hb.bw hba) HN.o).mono ?_);rintro e wb ⟨rfl,hbb⟩;have hbw:=zaa hba hbb))
  |(go_at_call 106;have _t:=tok1;(with_reducible refine(zta vb n _ (hb.bw hbw)).mono ?_);rintro e wc ⟨r0,rfl,hr0,hb0⟩;clear tok1 _t;have sl0:=hr0.v.sl;have ln0:slen r0=zha n:=hr0.v.len;have hbw0:=zaa hbw hb0)
  |(go_at_call 106;first
     |((with_reducible refine(zta va m _ (ha.bw hbw0)).mono ?_);rintro e w1 ⟨ra,rfl,hra,hb1⟩;have hbw1:=zaa hbw0 hb1)
     |((with_reducible refine(zta vb n _ (hb.bw hbw1)).mono ?_);rintro e w2 ⟨rb,rfl,hrb,hb2⟩;have hbw2:=zaa hbw1 hb2;have hra2:=hra.bw hb2))
  |(go_at_call 196;(with_reducible refine(zdo ra rb m n _ hra2 hrb H0.o HM.o).mono ?_);rintro e w3 ⟨q,r,rfl,hq,hr,hb3⟩;have hbw3:=zaa hbw2 hb3))
 go_ret3;exact⟨q,r,rfl,hq,hr,hbw3⟩
theorem zvq (va vb:Value) (m n:Nat) (w:World) (ha:zcc w va m) (hb:zcc w vb n) (hm:zha m<=512) (hn:zha n<=512):
 Calls Tryz.prog 149 #[va,vb] w (RNat0 w (Nat.gcd m n)):=by
 have HM:=zH hm;have HN:=zH hn;clear hm hn;go_enter Tryz.func149,Tryz.ntmps149
 go_wp2_with (first
  |(go_at_call 152;first
    |((with_reducible refine(zud va m _ ha HM.o).mono ?_);rintro e wa ⟨rfl,hba⟩)
    |((with_reducible refine(zud vb n _ (hb.bw hba) HN.o).mono ?_);rintro e wb ⟨rfl,hbb⟩;have hbw0:=zaa hba hbb))
  |(go_at_call 106;first
     |((with_reducible refine(zta va m _ (ha.bw hbw0)).mono ?_);rintro e w1 ⟨ra,rfl,hra,hb1⟩;have hbw1:=zaa hbw0 hb1)
     |((with_reducible refine(zta vb n _ (hb.bw hbw1)).mono ?_);rintro e w2 ⟨rb,rfl,hrb,hb2⟩;have hbw:=zaa hbw1 hb2;have hra2:=hra.bw hb2)))
 go_loopw [6,7] (λ u0 u1 wr=>∃ (x y:Nat),zub wr u0 x/\zub wr u1 y/\zha x<=512/\zha y<=512/\Nat.gcd x y=Nat.gcd m n/\Below w.heap.size w wr) (λ _ u1 wr=>natOf wr u1);case atStart=>exact⟨m,n,hra2,hrb,HM.o,HN.o,rfl,hbw⟩
 case round=>
  obtain⟨x,y,hx,hy,hx5,hy5,hg,hbr⟩:=hrel;clear ha hb hra hrb hra2 hb1 hb2 hbw hbw0 hbw1 hba hbb;obtain⟨sx,lx⟩:zvc u6/\slen u6=zha x:=⟨hx.v.sl,hx.v.len⟩;obtain⟨sy,ly⟩:zvc u7/\slen u7=zha y:=⟨hy.v.sl,hy.v.len⟩;have HX:=zH hx5;have HY:=zH hy5;have HG:=zH hg;have hxb:zha x<=4294967296:=zO;have hyb:zha y<=4294967296:=zO;clear hx5 hy5 hg;by_cases hy0:y=0
  ·have hyz:zha y=0:=zva.2 hy0;(have hfin:x=Nat.gcd m n:=by rw[<-HG.o,hy0,Nat.gcd_zero_right]);have HF:=zH hfin;clear hfin hy0;go_wp2;go_ret2;exact⟨_,rfl,HF.o▸hx,hbr⟩
  ·(have hyz:0<zha y:=by have :zha y≠0:=λ h'=>hy0 (zva.1 h');omega);have HY0:=zH hy0;clear hy0;go_wp2_with (go_at_call 196;(with_reducible refine(zdo _ _ x y _ hx hy HY0.o HX.o).mono ?_);rintro e w3 ⟨q,r,rfl,hq,hr,hbl⟩);have hy3:=hy.bw hbl;have hbr3:=hbr.trans (hbl.mono hbr.size);go_wp2;go_roundw;(case rel=>exact⟨y,x%y,hy3,hr,HY.o,zLT (zob (zLO (zML2 _ (zPZ HY0.o)))) HY.o,by rw[<-HG.o,Nat.gcd_comm y,<-Nat.gcd_rec,Nat.gcd_comm],hbr3⟩);case measure=>rw[zdn hr,zdn hy];exact zML2 _ (zPZ HY0.o)
theorem make_one (w:World):Calls Tryz.prog 187 #[.int .u64 1] w (RNat w 1):=zfn 1 zD w
theorem C3.frac {w:World} {v0 v1 v2:Value} {q:Rat} (h:zia w (.agg #[v0,v1,v2]) q):∃s a1 l1 k1 a2 l2 k2,v0= .bool s/\v1= .slice a1 l1 k1/\v2= .slice a2 l2 k2:=by
 obtain⟨s,x,y,e,⟨a1,l1,k1,rfl,_⟩,⟨a2,l2,k2,rfl,_⟩⟩:=h.isF;injection e with e
 injection e with e
 simp at e;exact⟨s,a1,l1,k1,a2,l2,k2,e.1,e.2.1,e.2.2⟩
theorem C3.set_other {w:World} {b b':Nat} {v0 v1 v2:Value} (h:C3 w b v0 v1 v2) (hb:b≠b') (u0 u1 u2:Value):C3 (((w.setCell ⟨b',0,none⟩ u0).setCell ⟨b',1,none⟩ u1).setCell ⟨b',2,none⟩ u2) b v0 v1 v2:=by
 obtain⟨lt,c0,c1,c2,f0,f1,f2⟩:=h;refine⟨by simpa [World.setCell]using lt,?_,?_,?_,?_,?_,?_⟩<;>go_simp
theorem zvb {q:Rat} (h:fits q):okN q.num.natAbs q.den:=⟨q.den_nz,h.2,h.1⟩
set_option maxHeartbeats 1600000 in
theorem sum_frac (va:Value) (l:List RF) (w:World) (ha:zlg w va l) (hok:∀x∈l,x.ok) (hfit:∀k,k<=l.length->fits (zef (qs (l.take k)))):
 Calls Tryz.prog 137 #[va] w λ e w'=>∃v,e= .returned (.tuple #[v, .int .i64 0])/\zia w' v (zef (qs l))/\Below w.heap.size w w':=by
 have sa:=ha.sl;have la:=ha.len;have hle:=sa.le;rw[la]at hle;have hlb:l.length<=9223372036854775807:=zO;have HOK:=zH hok;have HFIT:=zH hfit;clear hok hfit hle;go_enter Tryz.func137,Tryz.ntmps137;go_wp2_with (go_at_call 187;(with_reducible refine(make_one _).mono ?_);rintro e w1 ⟨r1,rfl,hr1,hb1⟩;obtain⟨a1,l1,k1,rfl,_⟩:=hr1.v.sl);have hb0:=(zca w (.cells #[.bool false, .slice none 0 0, .slice none 0 0] 38));have hbw:=zaa hb0 hb1;have hr:=(C3.new w 38 _ _ _).bS hb1;have hlt:w.heap.size<w1.heap.size:=hr.lt;have hr2:=hr.allocS (.cells #[.bool false, .slice none 0 0, .slice a1 l1 k1] 38);have hs2:=C3.new w1 38 (.bool false) (.slice none 0 0) (.slice a1 l1 k1);have hb2:=zaa hbw (zca w1 (.cells #[.bool false, .slice none 0 0, .slice a1 l1 k1] 38));have hf2:zia (w1.alloc (.cells #[.bool false, .slice none 0 0, .slice a1 l1 k1] 38)) (.agg #[.bool false, .slice none 0 0, .slice a1 l1 k1]) 0:=⟨_,_,rfl,zub.nil _,hr1.bw (zca _ _)⟩;generalize w1.alloc (.cells #[.bool false, .slice none 0 0, .slice a1 l1 k1] 38)=W1 at *
 generalize w1.heap.size=S at *
 clear hb0 hb1 hbw hr hr1;go_loopw [13] (λ u13 wr=>∃ (k:Nat) (v0 v1 v2:Value),k<=l.length/\u13= .int .i64 k/\C3 wr S v0 v1 v2/\zia wr (.agg #[v0,v1,v2]) (zef (qs (l.take k)))/\C3 wr w.heap.size (.bool false) (.slice none 0 0) (.slice none 0 0)/\Below w.heap.size w wr) (λ u13 _=>l.length- (intOf u13).toNat);case atStart=>exact⟨0,_,_,_,zZL _,rfl,hs2,hf2,hr2,hb2⟩
 case round=>
  obtain⟨k,v0,v1,v2,hk,rfl,hs,hf,hr,hb⟩:=hrel;clear hs2 hf2 hr2 hb2;obtain⟨s0,b1,m1,j1,b2,m2,j2,rfl,rfl,rfl⟩:=C3.frac hf;have HS:=zH hs;have HR:=zH hr;have HF:=zH hf;obtain⟨_,s1,s2,s3,s4,s5,s6⟩:=hs;obtain⟨_,q1,q2,q3,q4,q5,q6⟩:=hr;clear hf;by_cases hkl:k<l.length
  ·obtain⟨xa,xb,c1,c2,c3,hxa,hxb⟩:=(ha.bw hb).at' k hkl;obtain⟨c1a,c1l,c1k,rfl,_⟩:=hxa.slen.1;obtain⟨c2a,c2l,c2k,rfl,_⟩:=hxb.slen.1;have hA:zzb (wr.alloc (.cells #[.bool l[k].neg, .slice c1a c1l c1k, .slice c2a c2l c2k] 38)) (.agg #[.bool l[k].neg, .slice c1a c1l c1k, .slice c2a c2l c2k]) l[k].neg l[k].n l[k].d:=⟨_,_,rfl,hxa.bw (zca _ _),hxb.bw (zca _ _)⟩;have hB:=(HF.o.raw).bw (zca wr (.cells #[.bool l[k].neg, .slice c1a c1l c1k, .slice c2a c2l c2k] 38));have hs1:=HS.o.allocS (.cells #[.bool l[k].neg, .slice c1a c1l c1k, .slice c2a c2l c2k] 38);have hr1:=HR.o.allocS (.cells #[.bool l[k].neg, .slice c1a c1l c1k, .slice c2a c2l c2k] 38);have hb1:=zaa hb (zca wr (.cells #[.bool l[k].neg, .slice c1a c1l c1k, .slice c2a c2l c2k] 38));have HO:zI (okN l[k].n l[k].d):=zH (HOK.o l[k] (zGM hkl));have HQ:=zH (zvb (HFIT.o k hk));have HE:zI (fq (decide (zef (qs (l.take k))<0)) (zef (qs (l.take k))).num.natAbs (zef (qs (l.take k))).den+fq l[k].neg l[k].n l[k].d=zef (qs (l.take (k+1)))):=zH (by rw[zmb,lsum_qs l k hkl];rfl);have HF1:=zH (HFIT.o (k+1) hkl);clear hb hxa hxb;go_wp2_with (go_at_call 80;(with_reducible refine(ztr _ _ _ _ _ _ _ _ _ hB hA HQ.o HO.o).mono ?_);rw[HE.o];rintro e w7 ⟨v,er,rfl,hb7,hv7,_⟩;obtain⟨rfl,hv8⟩:=hv7 HF1.o;obtain⟨t9,a1,l91,k1,a2,l92,k2,rfl⟩:=hv8.iF;have hs8:=(hs1.bS hb7).allocS (.cells #[.bool t9, .slice a1 l91 k1, .slice a2 l92 k2] 38);have hr8:=(hr1.bS hb7).allocS (.cells #[.bool t9, .slice a1 l91 k1, .slice a2 l92 k2] 38);have hb8:=zaa (zaa hb1 hb7) (zca w7 (.cells #[.bool t9, .slice a1 l91 k1, .slice a2 l92 k2] 38));have hv9:=hv8.bw (zca w7 (.cells #[.bool t9, .slice a1 l91 k1, .slice a2 l92 k2] 38));have HS8:=zH hs8;obtain⟨_,d1,d2,d3,d4,d5,d6⟩:=hs8);go_roundw;(case rel=>exact⟨k+1,_,_,_,hkl,by go_num,HS8.o.set _ _ _,hv9.set3 HS8.o zZ zZ _ _ _,hr8.set_other zO _ _ _,zga hb8 zO _ _ _⟩);case measure=>simp[intOf];omega
  ·obtain rfl:k=l.length:=zO;have HF2:zI (zia wr (.agg #[.bool s0, .slice b1 m1 j1, .slice b2 m2 j2]) (zef (qs l))):=zH (by have h5:=HF.o;rw[List.take_length]at h5;exact h5);clear HF;go_wp2;refine zla rfl rfl Tryz.aggF Tryz.sizeF (HR.o.set _ _ _) rfl ?_;exact⟨_,rfl,HF2.o.set3 HR.o zZ zZ _ _ _,zga hb (zLR _) _ _ _⟩
end Go.Proofs.YtlpdkbmmbdfoiaaGreat
namespace Go.Proofs.YtlpdkbmmbdfoiaaGreat
theorem zhr (a:Int) (b:Nat) (hb:b≠0):mkRat a b<0↔a<0:=by
 have e:mkRat a b=fq (decide (a<0)) a.natAbs b:=by
  unfold fq sgn
  congr 1
  by_cases h:a<0
  ·rw[zIP (zDT h)];omega
  ·rw[zDF h];simp;omega
 have h:=fq_neg (decide (a<0)) a.natAbs b hb;rw[e];by_cases h0:a<0
 ·rw[zDT h0]at h |-
  have hg:0<a.natAbs/Nat.gcd a.natAbs b:=Nat.div_pos (Nat.le_of_dvd zO (Nat.gcd_dvd_left _ _)) (Nat.gcd_pos_of_pos_left _ zO);rw[zDT hg]at h;simp only[Bool.and_self,decide_eq_true_eq]at h;exact⟨λ _=>h0,λ _=>h⟩
 ·rw[zDF h0]at h |-
  simp only[Bool.false_and,decide_eq_false_iff_not]at h;exact⟨λ h'=>absurd h' h,λ h'=>absurd h' h0⟩
theorem fq_lt (s t:Bool) (n d m e:Nat) (hd:d≠0) (he:e≠0):fq s n d<fq t m e↔sgn s (n*e)<sgn t (m*d):=by
 have h1:fq s n d<fq t m e↔fq s n d-fq t m e<0:=by
  rw[Rat.lt_iff_sub_pos,Rat.lt_iff_sub_pos (fq s n d-fq t m e)];have :(0:Rat)- (fq s n d-fq t m e)=fq t m e-fq s n d:=by grind
  rw[this]
 have h2: -fq t m e=fq (!t) m e:=by
  unfold fq;rw[Rat.neg_mkRat]
  congr 1
  unfold sgn;cases t<;>simp
 rw[h1,Rat.sub_eq_add_neg,h2,fq_add _ _ _ _ _ _ hd he,zhr _ _ (zMZ hd he)];have h3:sgn (!t) (m*d)= -sgn t (m*d):=by unfold sgn;cases t<;>simp
 rw[h3];omega
def zdl (p q:Rat):Int:=if p<q then -1 else if q<p then 1 else 0
theorem cmpR_eq (s t:Bool) (n d m e:Nat) (hd:d≠0) (he:e≠0):
 zdl (fq s n d) (fq t m e)=if s&& !decide (n=0)&&(t&& !decide (m=0))then -zbm (n*e) (m*d)else if s&& !decide (n=0)then -1 else if t&& !decide (m=0)then 1 else zbm (n*e) (m*d):=by
 have hA:n*e=0↔n=0:=by rw[Nat.mul_eq_zero];exact⟨λ h=>h.resolve_right he,Or.inl⟩
 have hB:m*d=0↔m=0:=by rw[Nat.mul_eq_zero];exact⟨λ h=>h.resolve_right hd,Or.inl⟩
 have h1:=fq_lt s t n d m e hd he;have h2:=fq_lt t s m e n d he hd
 have e1:zdl (fq s n d) (fq t m e)=if sgn s (n*e)<sgn t (m*d)then -1 else if sgn t (m*d)<sgn s (n*e)then 1 else 0:=by
  unfold zdl;simp only[h1,h2]
 rw[e1];clear e1 h1 h2;generalize n*e=A at *
 generalize m*d=B at *
 unfold zbm sgn;have c1:decide (n=0)=decide (A=0):=by simp only[hA]
 have c2:decide (m=0)=decide (B=0):=by simp only[hB]
 rw[c1,c2];clear c1 c2 hA hB;by_cases hA:A=0<;>by_cases hB:B=0<;>cases s<;>cases t<;>simp[hA,hB]<;>(repeat' split)<;>omega
end Go.Proofs.YtlpdkbmmbdfoiaaGreat
namespace Go.Proofs.YtlpdkbmmbdfoiaaGreat
open Go.RowKit
theorem fits_ok (s:Bool) {n d:Nat} (h:okN n d):fits (fq s n d):=by
 rw[zap s n d h.1];exact⟨zLT (zdq (Nat.div_le_self _ _)) h.2.2,zLT (zdq (Nat.div_le_self _ _)) h.2.1⟩
def RRed (w0:World) (s:Bool) (n d:Nat) (e:Ending) (w:World):Prop:=
 ∃v er,e= .returned (.tuple #[v, .int .i64 er])/\Below w0.heap.size w0 w/\(okN n d->er=0/\zia w v (fq s n d))/\(¬okN n d->er=1/\v=zeroF)
theorem valid_no (v:Value) (s:Bool) (n d:Nat) (w:World) (h:zzb w v s n d) (hk:¬okN n d):
 Calls Tryz.prog 79 #[v] w λ e w'=>e= .returned (.bool false)/\Below w.heap.size w w':=
 (valid_any v s n d w h).mono λ e w' ⟨h1,h2⟩=>⟨by rw[h1,zDF hk],h2⟩
theorem zsf (w:World) (t:TypeId) (x0 x1 x2 y0 y1 y2:Value) (W:World)
 (hW:W=(w.alloc (.cells #[x0,x1,x2] t)).alloc (.cells #[y0,y1,y2] t)):
 C3 W w.heap.size x0 x1 x2/\C3 W (w.heap.size+1) y0 y1 y2/\Below w.heap.size w W:=by
 subst hW;have e1:(w.alloc (.cells #[x0,x1,x2] t)).heap.size=w.heap.size+1:=by show(w.heap.push _).size=_;simp
 refine⟨(C3.new w t x0 x1 x2).allocS _,?_,?_⟩
 ·rw[<-e1];exact C3.new _ t y0 y1 y2
 ·exact(zca w _).trans ((zca _ _).mono (zca w _).size)
set_option maxHeartbeats 1600000 in
theorem zyg (va:Value) (s:Bool) (n d:Nat) (w:World) (ha:zzb w va s n d):
 Calls Tryz.prog 89 #[va] w (RRed w s n d):=by
 have hA:=ha;obtain⟨xn,xd,rfl,hxn,hxd⟩:=ha;obtain⟨an,ln,kn,rfl,_⟩:=hxn.slen.1;obtain⟨ad,ld,kd,rfl,_⟩:=hxd.slen.1;go_enter Tryz.func89,Tryz.ntmps89;go_wp2_with fail;obtain⟨W,hW⟩:∃W,W=((w.alloc (.cells #[.bool s, .slice an ln kn, .slice ad ld kd] 38)).alloc (.cells #[.bool false, .slice none 0 0, .slice none 0 0] 38)):=⟨_,rfl⟩;obtain⟨bx,bz,hbw⟩:=zsf w 38 _ _ _ _ _ _ W hW;rw[<-hW];clear hW;have HBX:=zH bx;have HBZ:=zH bz;obtain⟨_,q1,q2,q3,q4,q5,q6⟩:=bx;clear bz;by_cases hk:okN n d
 ·have K:=zH hk;have NN:=zH (zLT (zyc (n:=n) (k:=128) hk.2.2) (show 128<=512 by decide));have ND:=zH (zLT (zyc (n:=d) (k:=128) hk.2.1) (show 128<=512 by decide));have FT:=zH (fits_ok s hk);have D0:=zH hk.1;clear hk
  go_wp2_with (first
   |(go_at_call 79;(with_reducible refine(zue _ s n d _ (hA.bw hbw) K.o).mono ?_);rintro e9 w1 ⟨rfl,hv1⟩;obtain⟨_,f1,f2,f3,f4,f5,f6⟩:=HBX.o.bS hv1;have hbw1:=zaa hbw hv1)
   |(go_at_call 142;(with_reducible refine(zlc s _ _ n d _ (hxn.bw hbw1) (hxd.bw hbw1) D0.o NN.o ND.o).mono ?_);rintro e9 w7 ⟨v,er7,rfl,hv5,hv2,hv3⟩;have hv4:=hv2 FT.o;obtain⟨t9,x9,y9,rfl,⟨a1,l91,k1,rfl,_⟩,⟨a2,l92,k2,rfl,_⟩⟩:=zdc (w0:=w) hv2 hv3;have hC:=(HBZ.o.bS hv1).bS hv5;have HC:=zH hC;have hbz:=zaa hbw1 hv5;obtain⟨_,d0,d1,d2,e0,e1,e2⟩:=hC))
  refine zla rfl rfl Tryz.aggF Tryz.sizeF (HC.o.set _ _ _) rfl ?_;exact⟨_,_,rfl,zga hbz zO _ _ _,λ h=>⟨rfl,hv4.2.set3 HC.o zZ zZ _ _ _⟩,λ h=>absurd K.o h⟩
 ·have K:=zH hk;clear hk
  go_wp2_with (first
   |(go_at_call 79;(with_reducible refine(valid_no _ s n d _ (hA.bw hbw) K.o).mono ?_);rintro e9 w1 ⟨rfl,hv1⟩;have hC:=HBZ.o.bS hv1;have HC:=zH hC;have hbz:=zaa hbw hv1;obtain⟨_,d0,d1,d2,e0,e1,e2⟩:=hC))
  refine zla rfl rfl Tryz.aggF Tryz.sizeF (HC.o.set _ _ _) rfl ?_;exact⟨_,_,rfl,zga hbz zO _ _ _,λ h=>absurd h K.o,λ _=>⟨rfl,rfl⟩⟩
theorem zsa {P:Program} {ops:Array Oper} {o:Oper} {a:Act} {w:World} {K:Act->World->Prop} {Q:Exit->Act->World->Prop} {E:Prop} (f:FuncId) (argv:Array Value) (hg:Region.wanted o (yielded ops a.tmps)=true)
 (hrun:(execOp a.eval o).run P w= .ok (.enter f argv) w) {R:Ending->World->Prop} (hc:Calls P f argv w R) (h:∀e w',R e w'->∃v,e= .returned v/\K (a.put o.dst v) w'):
 if Region.wanted o (yielded ops a.tmps)=true then Oper.wp P o a w K Q else E:=by
 rw[zIP hg];unfold Oper.wp;rw[hrun,Oper.upon_enter];refine hc.mono λ e w' hr=> ?_
 obtain⟨v,rfl,hk⟩:=h e w' hr;exact hk
theorem zzo :fits 0:=zD
theorem fits_one :fits 1:=zD
def RF0 (w0:World) (q:Rat) (e:Ending) (w:World):Prop:=∃v,e= .returned (.tuple #[v, .int .i64 0])/\zia w v q/\Below w0.heap.size w0 w
def RF1 (w0:World) (q:Rat) (e:Ending) (w:World):Prop:=∃v,e= .returned v/\zia w v q/\Below w0.heap.size w0 w
theorem zhl.ok {w0:World} {q q':Rat} {e:Ending} {w:World} (h:zhl w0 q e w) (hq:q=q') (hf:fits q'):RF0 w0 q' e w:=by
 subst hq;obtain⟨v,er,rfl,h1,h2,_⟩:=h;obtain⟨rfl,h3⟩:=h2 hf;exact⟨v,rfl,h3,h1⟩
theorem make_01 (w:World):Calls Tryz.prog 67 #[.int .i64 0, .int .i64 1] w (RF0 w 0):=
 (zqo 0 1 w zD zD zD zD zD).mono λ _ _ h=>h.ok zD zzo
theorem make_11 (w:World):Calls Tryz.prog 67 #[.int .i64 1, .int .i64 1] w (RF0 w 1):=
 (zqo 1 1 w zD zD zD zD zD).mono λ _ _ h=>h.ok zD fits_one
theorem zlm {fn:Func} {p:Tmp} {ty:TypeId} (h:fn.results=#[.cell p ty]) (tmps:Array Value) (P:Program) (w:World):
 (results fn tmps).run P w=((asAddr (tmps.getD p undef)).run P w).andThen λ a w=>(loadVar ty a).run P w:=by
 simp[results,h]
theorem zab {P:Program} {fn:Func} {R:Ending->World->Prop} {a:Act} {w:World} {p:Tmp} {ty:TypeId} {b:Nat} {v0 v1 v2:Value} (h:fn.results=#[.cell p ty])
 (hp:a.tmps.getD p undef= .pointer (some ⟨b,0,none⟩)) (hagg:∀w,(isAgg ty).run P w= .ok true w) (hs:∀w,(sizeOf ty).run P w= .ok 3 w) (hc:C3 w b v0 v1 v2) (hd:a.defers= [])
 (hR:R (.returned (.agg #[v0,v1,v2])) w):bodyPost P fn R .ret a w:=by
 refine bodyPost_ret ?_ hd hR;rw[zlm h,hp];simp only[asAddr,Sem.run_pure,Result.andThen_ok,load_c3 hagg hs hc]
theorem Tryz.infoF :(Tryz.prog.info? 38).map (λ i=>(i.zero,i.size,i.bytes))=some (some (.agg #[.bool false, .slice none 0 0, .slice none 0 0]),3,56):=by kernel_rfl
theorem zea {w w1 w2:World} {B:Nat} (h:Below B w w1) (h':Below w1.heap.size w1 w2) (hB:B<=w1.heap.size:=by exact h.size):Below B w w2:=h.trans (h'.mono hB)
theorem zec.fracs {w:World} {e:TypeId} {B n:Nat} {v:Value} (h:zec w e B v n) {l:List Rat} (hl:l.length=n) (he:∀j (hj:j<l.length),zri w v j l[j]):zwa w v l:=
 ⟨h.sl,by rw[h.len,hl],he⟩
theorem Tryz.infoRow :(Tryz.prog.info? 25).map (λ i=>(i.zero,i.size,i.bytes))=some (some (.slice none 0 0),1,24):=by kernel_rfl
theorem Tryz.infoBool :(Tryz.prog.info? 4).map (λ i=>(i.zero,i.size,i.bytes))=some (some (.bool false),1,1):=by kernel_rfl
theorem C3.other {w:World} {b:Nat} {v0 v1 v2:Value} (h:C3 w b v0 v1 v2) (p:Addr) (u:Value) (hp:p.block≠b):C3 (w.setCell p u) b v0 v1 v2:=by
 obtain⟨lt,c0,c1,c2,f0,f1,f2⟩:=h;have hne:∀k,p≠⟨b,k,none⟩:=λ k e=>hp (by rw[e])
 have hf:∀q,(w.setCell p u).frozen? q=w.frozen? q:=λ q=>by simp
 exact⟨by simpa [World.setCell]using lt,by rw[zCO _ _ _ _ (hne _)];exact c0,by rw[zCO _ _ _ _ (hne _)];exact c1,by rw[zCO _ _ _ _ (hne _)];exact c2,
  by rw[hf];exact f0,by rw[hf];exact f1,by rw[hf];exact f2⟩
theorem zsm (w:World):w.drew.heap.size=w.heap.size:=rfl
theorem zgj (w:World) (o:Obj):(w.alloc o).heap.size=w.heap.size+1:=by simp
theorem C3.newB {b:Nat} (w:World) (t:TypeId) (v0 v1 v2:Value) (hb:w.heap.size=b):C3 (w.alloc (.cells #[v0,v1,v2] t)) b v0 v1 v2:=by subst hb;exact C3.new w t v0 v1 v2
theorem C3.grownB {w w':World} {b:Nat} {v0 v1 v2:Value} {r:Option Nat} (h:C3 w b v0 v1 v2) (hg:w.grownBy w' r) (hr:r≠some b):C3 w' b v0 v1 v2:=by
 have e:=hg.block b h.lt (λ h=>hr h.symm);obtain⟨lt,c0,c1,c2,f0,f1,f2⟩:=h;have hc:∀k,w'.cell? ⟨b,k,none⟩=w.cell? ⟨b,k,none⟩:=λ k=>by simp[World.cell?,e]
 have hf:∀k,w'.frozen? ⟨b,k,none⟩=w.frozen? ⟨b,k,none⟩:=λ k=>by simp[World.frozen?,e]
 exact⟨zLM lt hg.size,by rw[hc];exact c0,by rw[hc];exact c1,by rw[hc];exact c2,by rw[hf];exact f0,by rw[hf];exact f1,by rw[hf];exact f2⟩
set_option maxHeartbeats 3200000
theorem zxk :zoa 1= [1]:=by rw[zne zD];simp[zpc]
theorem fq_zero (s:Bool) (d:Nat) (hd:d≠0):fq s 0 d=0:=by
 unfold fq;rw[sgn_zero];simp
set_option maxRecDepth 100000 in
theorem zzq (s:Bool) (va vb:Value) (d:Nat) (w:World) (ha:zcc w va 0) (hb:zcc w vb d) (hd:d≠0):
 Calls Tryz.prog 71 #[.bool s,va,vb] w (RF1 w (fq s 0 d)):=by
 rw[fq_zero s d hd];obtain⟨n,hn⟩:∃n,n=0:=⟨0,rfl⟩;rw[<-hn]at ha;have hz:zha n=0:=zva.2 hn;have HN:=zH hn;clear hn;go_enter Tryz.func71,Tryz.ntmps71
 go_wp2_with (first
  |(go_at_call 106;first
   |((with_reducible refine(zta va n _ (ha.bw (zca _ _))).mono ?_);rintro e w1 ⟨x1,rfl,hx1,hb1⟩;have s1:=hx1.v.sl;have l1:slen x1=zha n:=hx1.v.len)
   |((with_reducible refine(zta vb d _ ((hb.bw (zca _ _)).bw hb1)).mono ?_);rintro e w2 ⟨x2,rfl,hx2,hb2⟩
     have hC2:=(((C3.new w 38 (.bool false) (.slice none 0 0) (.slice none 0 0)).bS hb1).bS hb2).allocS (.cells #[.int .u32 1] 142);have hbw2:=zaa (zaa (zaa (zca w (.cells #[.bool false, .slice none 0 0, .slice none 0 0] 38)) hb1) hb2) (zca w2 (.cells #[.int .u32 1] 142));have HC2:=zH hC2;obtain⟨_,c0,c1,c2,f0,f1,f2⟩:=hC2)))
 have hF:zia (w2.alloc (.cells #[.int .u32 1] 142)) (.agg #[.bool false, .slice none 0 0, .slice (some ⟨w2.heap.size,0,none⟩) 1 1]) 0:=by
  refine⟨_,_,rfl,zub.nil _,?_⟩
  have h1:ztc (w2.alloc (.cells #[.int .u32 1] 142)) (.slice (some ⟨w2.heap.size,0,none⟩) 1 1) [1]:=by
   refine⟨⟨_,1,1,rfl,zLR _,by simp[maxLen],λ e=>by cases e⟩,rfl,λ j hj=> ?_,λ x hx=>by simp at hx;omega⟩;(have hj0:j=0:=by simp at hj;omega);subst hj0;simp[ptr,base,Addr.add]
  show zub _ _ 1
  unfold zub;rw[zxk];exact⟨h1,by unfold zha;rw[zxk];decide⟩
 refine zab rfl rfl Tryz.aggF Tryz.sizeF (HC2.o.set _ _ _) rfl ?_;exact⟨_,rfl,hF.set3 HC2.o zZ zZ _ _ _,zga hbw2 (zLR _) _ _ _⟩
set_option maxRecDepth 100000 in
theorem r2lowest_one (s:Bool) (va vb:Value) (n d:Nat) (w:World) (ha:zcc w va n) (hb:zcc w vb d) (hd:d≠0) (hn0:n≠0) (hn5:zha n<=512) (hd5:zha d<=512) (hg:Nat.gcd n d=1):
 Calls Tryz.prog 71 #[.bool s,va,vb] w (RF1 w (fq s n d)):=by
 have HN5:=zH hn5;have HD5:=zH hd5
 have HF:zI (∀ (wx:World) (xa xb:Value),zub wx xa n->zub wx xb d->zia wx (.agg #[.bool s,xa,xb]) (fq s n d)):=zH (λ wx xa xb h1 h2=>by
  refine zfj hd (by rw[hg,Nat.div_one];exact h1) (by rw[hg,Nat.div_one];exact h2) ?_;rw[hg,Nat.div_one,zDT (zPZ hn0),Bool.and_true])
 have hnz:0<zha n:=by have :zha n≠0:=λ h=>hn0 (zva.1 h);omega
 have hnzb:(((zha n:Nat):Int)==0)=false:=by simp;omega
 have hg1:zha (Nat.gcd n d)=1:=by rw[hg];unfold zha;rw[zxk];rfl
 have HGC:zI (∀ (wx:World) (g:Value),zub wx g (Nat.gcd n d)->wx.cell? (ptr g 0)=some (.int .u32 1)):=zH (λ wx g h=>by
  rw[hg]at h;have h1:=h.v;rw[zxk]at h1;exact h1.cell 0 (by simp))
 have HG1:=zH hg1;clear hn5 hd5 hg hg1 hn0;go_enter Tryz.func71,Tryz.ntmps71
 go_wp2_with (first
  |(go_at_call 106;first
   |((with_reducible refine(zta va n _ (ha.bw (zca _ _))).mono ?_);rintro e w1 ⟨x1,rfl,hx1,hb1⟩;have s1:=hx1.v.sl;have l1:slen x1=zha n:=hx1.v.len)
   |((with_reducible refine(zta vb d _ ((hb.bw (zca _ _)).bw hb1)).mono ?_);rintro e w2 ⟨x2,rfl,hx2,hb2⟩
     have hx12:=hx1.bw hb2;have hC2:=((C3.new w 38 (.bool false) (.slice none 0 0) (.slice none 0 0)).bS hb1).bS hb2;have hbw2:=zaa (zaa (zca w (.cells #[.bool false, .slice none 0 0, .slice none 0 0] 38)) hb1) hb2))
  |(go_at_call 149;(with_reducible refine(zvq x1 x2 n d _ hx12.nat hx2.nat HN5.o HD5.o).mono ?_);rintro e w3 ⟨g,rfl,hg,hb3⟩;have sg:=hg.v.sl;have lg:slen g=1:=hg.v.len.trans HG1.o;have hgc:=HGC.o _ _ hg;have hx13:=hx12.bw hb3;have hx23:=hx2.bw hb3;have hC3:=hC2.bS hb3;have hbw3:=zaa hbw2 hb3;clear hx1 hx2 hx12 hC2 s1 l1;obtain⟨a1,m1,k1,rfl,_⟩:=hx13.v.sl;obtain⟨a2,m2,k2,rfl,_⟩:=hx23.v.sl;have HC3:=zH hC3;obtain⟨_,c0,c1,c2,f0,f1,f2⟩:=hC3))
 have hF:=HF.o _ _ _ hx13 hx23;refine zab rfl rfl Tryz.aggF Tryz.sizeF (HC3.o.set _ _ _) rfl ?_;exact⟨_,rfl,hF.set3 HC3.o zZ zZ _ _ _,zga hbw3 (zLR _) _ _ _⟩
set_option maxRecDepth 100000 in
theorem zar (s:Bool) (va vb:Value) (n d:Nat) (w:World) (ha:zcc w va n) (hb:zcc w vb d) (hd:d≠0) (hn0:n≠0) (hn5:zha n<=512) (hd5:zha d<=512) (hg1:1<Nat.gcd n d):
 Calls Tryz.prog 71 #[.bool s,va,vb] w (RF1 w (fq s n d)):=by
 have HN5:=zH hn5;have HD5:=zH hd5;obtain⟨G,hG⟩:∃G,Nat.gcd n d=G:=⟨_,rfl⟩;have hGn:G∣n:=hG▸Nat.gcd_dvd_left n d
 have HF:zI (∀ (wx:World) (xa xb:Value),zub wx xa (n/G)->zub wx xb (d/G)->zia wx (.agg #[.bool s,xa,xb]) (fq s n d)):=zH (λ wx xa xb h1 h2=>by
  refine zfj hd (by rw[hG];exact h1) (by rw[hG];exact h2) ?_;rw[hG,zDT (Nat.div_pos (Nat.le_of_dvd (zPZ hn0) hGn) zO),Bool.and_true])
 have hnz:0<zha n:=by have :zha n≠0:=λ h=>hn0 (zva.1 h);omega
 have hnzb:(((zha n:Nat):Int)==0)=false:=by simp;omega
 rw[hG]at hg1;have HGE:=zH hG;have HG0:zI (G≠0):=zH zO;have HG5:zI (zha G<=512):=zH (zLT (zob (Nat.le_of_dvd (zPZ hn0) hGn)) hn5);have HG1:=zH hg1;obtain⟨L,hL⟩:∃L,zha G=L:=⟨_,rfl⟩;have HLE:=zH hL;have hL1:1<=L:=by have :zha G≠0:=λ h=>HG0.o (zva.1 h);omega
 have hL5:L<=512:=by have:=HG5.o;omega
 clear hn5 hd5 hG hg1 hn0 hGn hL;by_cases h1:1<L
 ·skip
  go_enter Tryz.func71,Tryz.ntmps71
  go_wp2_with (first
   |(go_at_call 106;first
    |((with_reducible refine(zta va n _ (ha.bw (zca _ _))).mono ?_);rintro e w1 ⟨x1,rfl,hx1,hb1⟩;have s1:=hx1.v.sl;have l1:slen x1=zha n:=hx1.v.len)
    |((with_reducible refine(zta vb d _ ((hb.bw (zca _ _)).bw hb1)).mono ?_);rintro e w2 ⟨x2,rfl,hx2,hb2⟩
      have hx12:=hx1.bw hb2;have hC2:=((C3.new w 38 (.bool false) (.slice none 0 0) (.slice none 0 0)).bS hb1).bS hb2;have hbw2:=zaa (zaa (zca w (.cells #[.bool false, .slice none 0 0, .slice none 0 0] 38)) hb1) hb2))
   |(go_at_call 149;(with_reducible refine(zvq x1 x2 n d _ hx12.nat hx2.nat HN5.o HD5.o).mono ?_);rintro e w3 ⟨g,rfl,hg,hb3⟩;rw[HGE.o]at hg
     have sg:=hg.v.sl;have lg:=(show slen g=zha G from hg.v.len).trans HLE.o
     skip
     have hx13:=hx12.bw hb3;have hx23:=hx2.bw hb3;have hC3:=hC2.bS hb3;have hbw3:=zaa hbw2 hb3;clear hx1 hx2 hx12 hC2 s1 l1)
   |(go_at_call 150;first
     |((with_reducible refine(zan x1 g n G _ hx13.nat hg.nat HG0.o HN5.o HG5.o).mono ?_);rintro e w4 ⟨q1,r1,rfl,hq1,_,hb4⟩
       have hg4:=hg.bw hb4;have hx24:=hx23.bw hb4)
     |((with_reducible refine(zan x2 g d G _ hx24.nat hg4.nat HG0.o HD5.o HG5.o).mono ?_);rintro e w5 ⟨q2,r2,rfl,hq2,_,hb5⟩
       have hq15:=hq1.bw hb5;have hC5:=(hC3.bS hb4).bS hb5;have hbw5:=zaa (zaa hbw3 hb4) hb5;clear hg hg4 hx13 hx23 hx24 hC3 hq1;obtain⟨a1,m1,k1,rfl,_⟩:=hq15.v.sl;obtain⟨a2,m2,k2,rfl,_⟩:=hq2.v.sl;have HC5:=zH hC5;obtain⟨_,c0,c1,c2,f0,f1,f2⟩:=hC5)))
  have hF:=HF.o _ _ _ hq15 hq2;refine zab rfl rfl Tryz.aggF Tryz.sizeF (HC5.o.set _ _ _) rfl ?_;exact⟨_,rfl,hF.set3 HC5.o zZ zZ _ _ _,zga hbw5 (zLR _) _ _ _⟩
 ·obtain rfl:L=1:=zO;have hGb:G<4294967296:=by have:=znc.1 (Nat.le_of_eq HLE.o);simpa [pw]using this
  have HGC:zI (∀ (wx:World) (g:Value),zub wx g G->wx.cell? (ptr g 0)=some (.int .u32 G)):=zH (λ wx g h=>by
   have h1:=h.v;(have e:zoa G= [G]:=by rw[zne HG0.o,Nat.mod_eq_of_lt hGb,Nat.div_eq_of_lt hGb,zpc]);rw[e]at h1;exact h1.cell 0 (by simp))
  have hG2:1<G:=HG1.o;go_enter Tryz.func71,Tryz.ntmps71
  go_wp2_with (first
   |(go_at_call 106;first
    |((with_reducible refine(zta va n _ (ha.bw (zca _ _))).mono ?_);rintro e w1 ⟨x1,rfl,hx1,hb1⟩;have s1:=hx1.v.sl;have l1:slen x1=zha n:=hx1.v.len)
    |((with_reducible refine(zta vb d _ ((hb.bw (zca _ _)).bw hb1)).mono ?_);rintro e w2 ⟨x2,rfl,hx2,hb2⟩
      have hx12:=hx1.bw hb2;have hC2:=((C3.new w 38 (.bool false) (.slice none 0 0) (.slice none 0 0)).bS hb1).bS hb2;have hbw2:=zaa (zaa (zca w (.cells #[.bool false, .slice none 0 0, .slice none 0 0] 38)) hb1) hb2))
   |(go_at_call 149;(with_reducible refine(zvq x1 x2 n d _ hx12.nat hx2.nat HN5.o HD5.o).mono ?_);rintro e w3 ⟨g,rfl,hg,hb3⟩;rw[HGE.o]at hg;have sg:=hg.v.sl;have lg:=(show slen g=zha G from hg.v.len).trans HLE.o;have hgc:=HGC.o _ _ hg;have hx13:=hx12.bw hb3;have hx23:=hx2.bw hb3;have hC3:=hC2.bS hb3;have hbw3:=zaa hbw2 hb3;clear hx1 hx2 hx12 hC2 s1 l1)
   |(go_at_call 150;first
     |((with_reducible refine(zan x1 g n G _ hx13.nat hg.nat HG0.o HN5.o HG5.o).mono ?_);rintro e w4 ⟨q1,r1,rfl,hq1,_,hb4⟩
       have hg4:=hg.bw hb4;have hx24:=hx23.bw hb4)
     |((with_reducible refine(zan x2 g d G _ hx24.nat hg4.nat HG0.o HD5.o HG5.o).mono ?_);rintro e w5 ⟨q2,r2,rfl,hq2,_,hb5⟩
       have hq15:=hq1.bw hb5;have hC5:=(hC3.bS hb4).bS hb5;have hbw5:=zaa (zaa hbw3 hb4) hb5;clear hg hg4 hx13 hx23 hx24 hC3 hq1;obtain⟨a1,m1,k1,rfl,_⟩:=hq15.v.sl;obtain⟨a2,m2,k2,rfl,_⟩:=hq2.v.sl;have HC5:=zH hC5;obtain⟨_,c0,c1,c2,f0,f1,f2⟩:=hC5)))
  have hF:=HF.o _ _ _ hq15 hq2;refine zab rfl rfl Tryz.aggF Tryz.sizeF (HC5.o.set _ _ _) rfl ?_;exact⟨_,rfl,hF.set3 HC5.o zZ zZ _ _ _,zga hbw5 (zLR _) _ _ _⟩
theorem zbd (s:Bool) (va vb:Value) (n d:Nat) (w:World) (ha:zcc w va n) (hb:zcc w vb d) (hd:d≠0) (hn5:zha n<=512) (hd5:zha d<=512):
 Calls Tryz.prog 71 #[.bool s,va,vb] w (RF1 w (fq s n d)):=by
 have h0:Nat.gcd n d≠0:=λ h=>hd (Nat.gcd_eq_zero_iff.1 h).2
 rcases Nat.eq_zero_or_pos n with hn | hn
 ·subst hn;exact zzq s va vb d w ha hb hd
 ·rcases zOG 1 (Nat.gcd n d)with h | h
  ·exact zar s va vb n d w ha hb hd zO hn5 hd5 h
  ·exact r2lowest_one s va vb n d w ha hb hd zO hn5 hd5 zO
theorem ret_u64 {a b:Int} (h:a=b):Ending.returned (.int .u64 a)=Ending.returned (.int .u64 b):=by rw[h]
theorem size_any (z:Int) (w:World) (h1: -9223372036854775808<=z) (h2:z<9223372036854775808):
 Calls Tryz.prog 73 #[.int .i64 z] w λ e w'=>e= .returned (.int .u64 (z.natAbs:Nat))/\w=w':=by
 rcases Int.lt_or_le z 0 with h | h
 ·obtain⟨m,hm⟩:∃m:Nat,z= -((m:Int)+1):=⟨(-(z+1)).toNat,zO⟩;have e:z.natAbs=m+1:=zO;have hmb:m<=9223372036854775807:=zO;rw[e];subst hm;clear e h h2;go_enter Tryz.func73,Tryz.ntmps73;go_wp2_with fail;go_ret;exact⟨ret_u64 zO,rfl⟩
 ·obtain⟨m,rfl⟩:∃m:Nat,z=(m:Int):=⟨z.natAbs,zO⟩;have e:(m:Int).natAbs=m:=zO;rw[e];have hmb:m<=9223372036854775807:=zO;clear e h h1 h2;go_enter Tryz.func73,Tryz.ntmps73;go_wp2_with fail;go_ret;exact⟨ret_u64 zO,rfl⟩
set_option maxHeartbeats 800000
theorem r2make_any (a b:Int) (w:World) (ha1: -9223372036854775808<=a) (ha2:a<9223372036854775808) (hb1: -9223372036854775808<=b) (hb2:b<9223372036854775808) (hb:b≠0):
 Calls Tryz.prog 18 #[.int .i64 a, .int .i64 b] w (RF0 w (fq (!decide (a<0)==decide (b<0)) a.natAbs b.natAbs)):=by
 have HA:=zH (zAI ha1 ha2);have HB:=zH (zAI hb1 hb2);have hbn:b.natAbs≠0:=zO;have HBN:=zH hbn;have h1:∀z:Int,-9223372036854775808<=z->z<9223372036854775808->zha z.natAbs<=512:=λ z _ _=>znc.2 (zLM (show z.natAbs<pw 2 by have :pw 2=18446744073709551616:=rfl;omega) (pw_le zO))
 have H1:=zH (h1 a ha1 ha2);have H2:=zH (h1 b hb1 hb2);have HA6:zI (a.natAbs<18446744073709551616):=zH zO;have HB6:zI (b.natAbs<18446744073709551616):=zH zO;have h9:(b==0)=false:=by simpa using hb
 clear ha1 ha2 hb1 hb2 hbn h1 hb;go_enter Tryz.func18,Tryz.ntmps18
 go_wp2_with (first
  |(go_at_call 73;first
   |((with_reducible refine(size_any a _ HA.o.1 HA.o.2).mono ?_);rintro e w' ⟨rfl,rfl⟩)
   |((with_reducible refine(size_any b _ HB.o.1 HB.o.2).mono ?_);rintro e w' ⟨rfl,rfl⟩))
  |(go_at_call 72;first
   |((with_reducible refine(zke a.natAbs HA6.o _).mono ?_);rintro e w1 ⟨x,rfl,hx,hx1⟩)
   |((with_reducible refine(zke b.natAbs HB6.o _).mono ?_);rintro e w2 ⟨y,rfl,hy,hy1⟩;have hx2:=hx.bw hy1))
  |(go_at_call 71;(with_reducible refine(zbd _ x y a.natAbs b.natAbs _ hx2.nat hy.nat HBN.o H1.o H2.o).mono ?_);rintro e w3 ⟨v,rfl,hv,hv1⟩;obtain⟨t,a1,l1,k1,a2,l2,k2,rfl⟩:=hv.iF;have hC:=(((C3.new w 38 (.bool false) (.slice none 0 0) (.slice none 0 0)).bS hx1).bS hy1).bS hv1;have HC:=zH hC;have hbz:=zaa (zaa (zaa (zca w (.cells #[.bool false, .slice none 0 0, .slice none 0 0] 38)) hx1) hy1) hv1;obtain⟨_,d0,d1,d2,e0,e1,e2⟩:=hC))
 refine zla rfl rfl Tryz.aggF Tryz.sizeF (HC.o.set _ _ _) rfl ?_;exact⟨_,rfl,hv.set3 HC.o zZ zZ _ _ _,zga hbz (zLR _) _ _ _⟩
theorem RF0.eq {w0:World} {q q':Rat} {e:Ending} {w:World} (h:RF0 w0 q e w) (hq:q=q'):RF0 w0 q' e w:=hq▸h
theorem zah (a b:Nat) (w:World) (ha:a<4294967296) (hb:b<4294967296) (hb0:b≠0):
 Calls Tryz.prog 18 #[.int .i64 a, .int .i64 b] w (RF0 w (fq false a b)):=
 (r2make_any a b w zO zO zO zO zO).mono λ _ _ h=>h.eq (by
  rw[zDF (show ¬ ((a:Nat):Int)<0 by omega),zDF (show ¬ ((b:Nat):Int)<0 by omega)];rfl)
theorem r2make_01 (w:World):Calls Tryz.prog 18 #[.int .i64 0, .int .i64 1] w (RF0 w 0):=
 (zah 0 1 w zD zD zD).mono λ _ _ h=>h.eq zD
theorem r2make_11 (w:World):Calls Tryz.prog 18 #[.int .i64 1, .int .i64 1] w (RF0 w 1):=
 (zah 1 1 w zD zD zD).mono λ _ _ h=>h.eq zD
theorem r2make_n1 (n:Nat) (w:World) (hn:n<4294967296):Calls Tryz.prog 18 #[.int .i64 n, .int .i64 1] w (RF0 w (fq false n 1)):=
 zah n 1 w hn zD zD
theorem zof (w:World):Calls Tryz.prog 20 #[.int .i64 0] w (RF1 w 0):=by
 go_enter Tryz.func20,Tryz.ntmps20;go_wp2_with (go_at_call 18;(with_reducible refine(r2make_01 _).mono ?_);rintro e w1 ⟨v,rfl,hv,hb1⟩;obtain⟨t9,a1,l91,k1,a2,l92,k2,rfl⟩:=hv.iF;have hr:=((C3.new w 38 (.bool false) (.slice none 0 0) (.slice none 0 0)).bS hb1).allocS (.cells #[.bool t9, .slice a1 l91 k1, .slice a2 l92 k2] 38);have hv2:=hv.bw (zca w1 (.cells #[.bool t9, .slice a1 l91 k1, .slice a2 l92 k2] 38));have hb2:=zaa (zaa (zca w (.cells #[.bool false, .slice none 0 0, .slice none 0 0] 38)) hb1) (zca w1 (.cells #[.bool t9, .slice a1 l91 k1, .slice a2 l92 k2] 38));have HR:=zH hr;obtain⟨_,d1,d2,d3,d4,d5,d6⟩:=hr);refine zab rfl rfl Tryz.aggF Tryz.sizeF (HR.o.set _ _ _) rfl ?_;exact⟨_,rfl,hv2.set3 HR.o zZ zZ _ _ _,zga hb2 (zLR _) _ _ _⟩
theorem zbh (w:World):Calls Tryz.prog 20 #[.int .i64 1] w (RF1 w 1):=by
 go_enter Tryz.func20,Tryz.ntmps20;go_wp2_with (go_at_call 18;(with_reducible refine(r2make_11 _).mono ?_);rintro e w1 ⟨v,rfl,hv,hb1⟩;obtain⟨t9,a1,l91,k1,a2,l92,k2,rfl⟩:=hv.iF;have hr:=((C3.new w 38 (.bool false) (.slice none 0 0) (.slice none 0 0)).bS hb1).allocS (.cells #[.bool t9, .slice a1 l91 k1, .slice a2 l92 k2] 38);have hv2:=hv.bw (zca w1 (.cells #[.bool t9, .slice a1 l91 k1, .slice a2 l92 k2] 38));have hb2:=zaa (zaa (zca w (.cells #[.bool false, .slice none 0 0, .slice none 0 0] 38)) hb1) (zca w1 (.cells #[.bool t9, .slice a1 l91 k1, .slice a2 l92 k2] 38));have HR:=zH hr;obtain⟨_,d1,d2,d3,d4,d5,d6⟩:=hr);refine zab rfl rfl Tryz.aggF Tryz.sizeF (HR.o.set _ _ _) rfl ?_;exact⟨_,rfl,hv2.set3 HR.o zZ zZ _ _ _,zga hb2 (zLR _) _ _ _⟩
theorem r2int_nat (n:Nat) (w:World) (hn:n<4294967296):Calls Tryz.prog 20 #[.int .i64 n] w (RF1 w (fq false n 1)):=by
 have HN:=zH hn;clear hn;go_enter Tryz.func20,Tryz.ntmps20;go_wp2_with (go_at_call 18;(with_reducible refine(r2make_n1 n _ HN.o).mono ?_);rintro e w1 ⟨v,rfl,hv,hb1⟩;obtain⟨t9,a1,l91,k1,a2,l92,k2,rfl⟩:=hv.iF;have hr:=((C3.new w 38 (.bool false) (.slice none 0 0) (.slice none 0 0)).bS hb1).allocS (.cells #[.bool t9, .slice a1 l91 k1, .slice a2 l92 k2] 38);have hv2:=hv.bw (zca w1 (.cells #[.bool t9, .slice a1 l91 k1, .slice a2 l92 k2] 38));have hb2:=zaa (zaa (zca w (.cells #[.bool false, .slice none 0 0, .slice none 0 0] 38)) hb1) (zca w1 (.cells #[.bool t9, .slice a1 l91 k1, .slice a2 l92 k2] 38));have HR:=zH hr;obtain⟨_,d1,d2,d3,d4,d5,d6⟩:=hr);refine zab rfl rfl Tryz.aggF Tryz.sizeF (HR.o.set _ _ _) rfl ?_;exact⟨_,rfl,hv2.set3 HR.o zZ zZ _ _ _,zga hb2 (zLR _) _ _ _⟩
set_option maxHeartbeats 800000
structure zbc (w:World) (b:Nat) (l:List Nat) (at':Nat):Prop where
 lt:b<w.heap.size
 ex:∃v,w.cell? ⟨b,0,none⟩=some v/\zhd w v (l.map λ x:Nat=>Value.int .u8 (x:Nat))
 c1:w.cell? ⟨b,1,none⟩=some (.int .i64 (at':Nat))
 f1:w.frozen? ⟨b,1,none⟩=false
 len:l.length<=400
 le:at'<=400
 byte:∀x∈l,x<256
def zmp (b:Nat) (w w':World):Prop:=(∃k,w'=w.drewN k)\/∃k k' a,w'=((w.drewN k).setCell ⟨b,1,none⟩ (.int .i64 a)).drewN k'
def RNext (w0:World) (b:Nat) (l:List Nat) (n:Nat) (e:Ending) (w:World):Prop:=∃x a:Nat,e= .returned (.int .i64 (x:Nat))/\x<n/\zbc w b l a/\zmp b w0 w
theorem zbc.drawn {w:World} {b:Nat} {l:List Nat} {a:Nat} (h:zbc w b l a) (k:Nat):zbc (w.drewN k) b l a:=by
 obtain⟨lt,⟨v,e1,e2⟩,c1,f1,h1,h2,h3⟩:=h;have hb:=zna (B:=w.heap.size) w k;exact⟨zLM lt hb.size,⟨v,zba hb e1,e2.bw hb⟩,zba hb c1,by rw[hb.frozen lt];exact f1,h1,h2,h3⟩
theorem next_zero (b:Nat) (l:List Nat) (a n:Nat) (w:World) (h:zbc w b l a) (hn:1<=n) (hn2:n<=65536) (hz:l.length<=a\/n<2):
 Calls Tryz.prog 107 #[.pointer (some ⟨b,0,none⟩), .int .i64 n] w (RNext w b l n):=by
 obtain⟨v,e1,e2⟩:=h.ex;have c1:=h.c1;have f1:=h.f1;have sv:=zhd.sl e2;have lv:slen v=l.length:=by have:=zhd.len e2;simpa using this
 have hll:=h.len;have hle:=h.le;by_cases h1:l.length<=a
 ·have hd:decide (((l.length:Nat):Int)<=(a:Nat))=true:=zDT zO;go_enter Tryz.func107,Tryz.ntmps107;go_wp2;go_quiet (fail);go_wp2;go_ret;exact⟨0,a,rfl,hn,h.drawn _,Or.inl ⟨_,rfl⟩⟩
 ·have hd:decide (((l.length:Nat):Int)<=(a:Nat))=false:=zDF zO;have h2:n<2:=hz.resolve_left h1;have hd2:decide ((n:Int)<2)=true:=zDT zO;go_enter Tryz.func107,Tryz.ntmps107;go_wp2;go_quiet (fail);go_wp2;go_ret;exact⟨0,a,rfl,hn,h.drawn _,Or.inl ⟨_,rfl⟩⟩
theorem cell_tick {w:World} {b:Nat} {a0:Int} {p:Addr} {x:Value} (hc:w.cell? ⟨b,1,none⟩=some (.int .i64 a0)) (hp:w.cell? p=some x) (hx:∀z,x≠ .int .i64 z) (u:Value):(w.setCell ⟨b,1,none⟩ u).cell? p=some x:=by
 rw[zCO]
 ·exact hp
 ·intro e;rw[<-e,hc]at hp;injection hp with hp
  exact hx _ hp.symm
theorem zbc.tick {w:World} {b:Nat} {l:List Nat} {a:Nat} (h:zbc w b l a) (a':Nat) (ha:a'<=400):zbc (w.setCell ⟨b,1,none⟩ (.int .i64 (a':Nat))) b l a':=by
 obtain⟨lt,⟨v,e1,e2⟩,c1,f1,h1,h2,h3⟩:=h;refine⟨by simpa [World.setCell]using lt,⟨v,?_,e2.sl,e2.len,λ j hj=>cell_tick c1 (e2.cell j hj) zZ _⟩,?_,?_,h1,ha,h3⟩
 ·rw[zCO _ _ _ _ (by simp)];exact e1
 ·exact World.cell?_setCell_same _ _ _ c1
 ·go_simp
theorem next_more (b:Nat) (l:List Nat) (a n:Nat) (w:World) (h:zbc w b l a) (hn2:n<=65536) (h1:a<l.length) (h2:2<=n):
 Calls Tryz.prog 107 #[.pointer (some ⟨b,0,none⟩), .int .i64 n] w (RNext w b l n):=by
 obtain⟨v,e1,e2⟩:=h.ex;have c1:=h.c1;have f1:=h.f1;have sv:=zhd.sl e2;have lv:slen v=l.length:=by have:=zhd.len e2;simpa using this
 have hll:=h.len;have hd:decide (((l.length:Nat):Int)<=(a:Nat))=false:=zDF zO;have hd2:decide ((n:Int)<2)=false:=zDF zO;have HT:=zH h;go_enter Tryz.func107,Tryz.ntmps107;go_wp2;go_quiet (fail);have hT1:=HT.o.drawn nq;obtain⟨v2,e11,e12⟩:=hT1.ex;have c2:=hT1.c1;have f2:=hT1.f1;clear hd hd2 c1 f1;go_wp2
 have hT2:zbc ((w.drewN nq).setCell ⟨b,1,none⟩ (.int .i64 ((a:Int)+1))) b l (a+1):=by
  have:=hT1.tick (a+1) zO;rwa[show(((a+1:Nat)):Int)=(a:Int)+1 from zO]at this
 obtain⟨v3,e13,e14⟩:=hT2.ex;have c3:=hT2.c1;have s3:=zhd.sl e14;have l3:slen v3=l.length:=by have:=zhd.len e14;simpa using this
 have hx:=e14.cell a (by simpa using h1);rw[List.getElem_map]at hx;have hxb:=h.byte l[a] (zGM h1);have HTK:zI (∀k,zmp b w (((w.drewN nq).setCell ⟨b,1,none⟩ (.int .i64 ((a:Int)+1))).drewN k)):=zH (λ k=>Or.inr ⟨_,_,_,rfl⟩);generalize l[a]'h1=x at *
 generalize (w.drewN nq).setCell ⟨b,1,none⟩ (.int .i64 ((a:Int)+1))=W2 at *
 have i1:IntKind.i64.wrap ((((a+1:Nat)):Int)-1)=(a:Int):=by rw[IntWalk.i64_in _ zO];omega
 have i2:(0:Int)<=(a:Int):=zO;have i3:(a:Int)<(l.length:Nat):=zO;have i4:Int.tmod (x:Int) (n:Int)=((x%n:Nat):Int):=by rw[Int.tmod_eq_emod_of_nonneg zO];omega
 go_quiet (fail);go_wp2;go_ret;exact⟨x%n,a+1,by first | rfl | (congr 2),zML2 _ zO,hT2.drawn _,HTK.o _⟩
theorem next_any (b:Nat) (l:List Nat) (a n:Nat) (w:World) (h:zbc w b l a) (hn:1<=n) (hn2:n<=65536):
 Calls Tryz.prog 107 #[.pointer (some ⟨b,0,none⟩), .int .i64 n] w (RNext w b l n):=by
 rcases zOG a l.length with h1 | h1
 ·rcases zOG n 2 with h2 | h2
  ·exact next_zero b l a n w h hn hn2 (Or.inr h2)
  ·exact next_more b l a n w h hn2 h1 h2
 ·exact next_zero b l a n w h hn hn2 (Or.inl h1)
theorem zmp.cell {b:Nat} {w w':World} (h:zmp b w w') {a0:Int} (hc:w.cell? ⟨b,1,none⟩=some (.int .i64 a0)) {p:Addr} {x:Value} (hp:w.cell? p=some x) (hx:∀z,x≠ .int .i64 z):w'.cell? p=some x:=by
 rcases h with⟨k,rfl⟩ | ⟨k,k',a,rfl⟩
 ·exact zba (zna w k) hp
 ·refine zba (zna _ k') ?_;exact cell_tick (zba (zna w k) hc) (zba (zna w k) hp) hx _
theorem zmp.size {b:Nat} {w w':World} (h:zmp b w w'):w.heap.size<=w'.heap.size:=by
 rcases h with⟨k,rfl⟩ | ⟨k,k',a,rfl⟩
 ·exact(zna (B:=w.heap.size) w k).size
 ·have h1:=(zna (B:=w.heap.size) w k).size;have h2:=(zna (B:=w.heap.size) ((w.drewN k).setCell ⟨b,1,none⟩ (.int .i64 a)) k').size;have h3:((w.drewN k).setCell ⟨b,1,none⟩ (.int .i64 a)).heap.size=(w.drewN k).heap.size:=by simp[World.setCell]
  omega
theorem zmp.bw {b B:Nat} {w w':World} (h:zmp b w w') (hB:B<=b) (hs:B<=w.heap.size):Below B w w':=by
 rcases h with⟨k,rfl⟩ | ⟨k,k',a,rfl⟩
 ·exact zna w k
 ·exact((zna w k).setCell (p:=⟨b,1,none⟩) hB _).trans (zna _ k')
theorem Tryz.infoU8 :(Tryz.prog.info? 5).map (λ i=>(i.zero,i.size,i.bytes))=some (some (.int .u8 0),1,1):=by kernel_rfl
def bytes (l:List Nat):List Value:=l.map λ x:Nat=>Value.int .u8 (x:Nat)
theorem zhd.tk {w:World} {v:Value} {l:List Value} (h:zhd w v l) (n:Nat) (hn:n<=l.length):zhd w (tk v n) (l.take n):=by
 have e:(l.take n).length=n:=by rw[zTK];omega
 have h1:=h.sl.le;have h2:=h.len;refine⟨h.sl.tk zO,by rw[e];exact h.sl.slen_tk n,λ j hj=> ?_⟩;rw[ptr_tk,List.getElem_take];exact h.cell j zO
def RTape (w0:World) (l:List Nat) (e:Ending) (w:World):Prop:=∃b,e= .returned (.pointer (some ⟨b,0,none⟩))/\w0.heap.size<=b/\zbc w b l 0/\Below w0.heap.size w0 w
theorem tape_new (w w1:World) (v:Value) (l:List Nat) (t e:TypeId) (hl:l.length<=400) (hb:∀x∈l,x<256) (h:zye w1 e w.heap.size v (bytes l)) (hbel:Below w.heap.size w w1):
 RTape w l (.returned (.pointer (some ⟨w1.heap.size,0,none⟩))) (w1.alloc (.cells #[v, .int .i64 0] t)):=by
 refine⟨_,rfl,hbel.size,⟨by simp,⟨v,by simp,?_⟩,by simp,by simp,hl,zO,hb⟩,hbel.alloc hbel.size _⟩;exact⟨h.sl,by rw[h.len];rfl,λ j hj=>(h.alloc _).cell j hj⟩
theorem append_u8 {P:Program} (t e:TypeId) (i:TypeInfo) (ht:P.underlying t=some (.slice e)) (hi:P.info? e=some i) (hz:i.zero=some (.int .u8 0))
 (hsize:i.size=1) (hby:i.bytes=1) (w:World) {ops:Array Oper} {rest:List Oper} {o:Oper} {a:Act} {Q:Exit->Act->World->Prop} (hgd:o.guard=none) (s x:Operand)
 (ho:o.op= .call { callee:= .builtin .append,args:=#[s,x],argTypes:=#[t,t] })
 (hs:a.eval s= .slice none 0 0) (xv:Value) (hxe:a.eval x=xv) (l:List Nat) (hx:zhd w xv (bytes l)) (hb:l.length<=400)
 (h:∀v' w',zye w' e w.heap.size v' (bytes l)->Below w.heap.size w w'->wpList P ops Q rest (a.put o.dst v') w'):wpList P ops Q (o::rest) a w:=by
 have hl:(bytes l).length=l.length:=by simp[bytes]
 refine zrf w hgd s x t ho w.heap.size e i (.int .u8 0) 1 ht hi hz hsize hby rfl _ [] hs (zye.nil _ _ _) xv hxe hx.sl (bytes l) hx.len
  (λ j hj=>hx.cell j hj) (λ u hu=>by obtain⟨x,_,rfl⟩:=List.mem_map.1 hu;rfl)
  (by simp[maxLen,hl];omega) (by simp[hl];omega) (zLR _) ?_
 intro v' w' h2 _ h4;rw[List.nil_append]at h2;exact h v' w' h2 h4
set_option maxHeartbeats 1600000 in
theorem new_any (v:Value) (l:List Nat) (w:World) (h:zhd w v (bytes l)) (hb:∀x∈l,x<256):
 Calls Tryz.prog 41 #[v] w (RTape w (l.take 400)):=by
 obtain⟨i0,hi,hz0,hz1,hz2⟩:=info_parts Tryz.infoU8;have hA:=append_u8 (P:=Tryz.prog) 22 5 i0 Tryz.underlying22 hi hz0 hz1 hz2;clear hi hz0 hz1 hz2;have sv:=h.sl;have lv:slen v=l.length:=by rw[h.len,bytes,zMP]
 have hle:=sv.le;rw[lv]at hle;by_cases hd:400<l.length
 ·have hd1:decide ((400:Int)<(l.length:Nat))=true:=zDT zO;have hcap:(400:Int)<=scap v:=zO;have ht2:zhd w (tk v 400) (bytes (l.take 400)):=by have:=h.tk 400 (by simp[bytes];omega);simpa [bytes,List.map_take]using this
  go_enter Tryz.func41,Tryz.ntmps41;go_wp2_with (at_builtin;refine hA w rfl _ _ rfl rfl _ rfl (l.take 400) ht2 (by simp;omega) ?_;intro v' w1 hown hbel;obtain⟨an,nn,cn,rfl,_⟩:=hown.sl);go_ret;exact tape_new w w1 _ _ _ _ (by simp;omega) (λ x hx=>hb x (List.mem_of_mem_take hx)) hown hbel
 ·have hd1:decide ((400:Int)<(l.length:Nat))=false:=zDF zO;rw[zTL zO];go_enter Tryz.func41,Tryz.ntmps41;go_wp2_with (at_builtin;refine hA w rfl _ _ rfl rfl _ rfl l h zO ?_;intro v' w1 hown hbel;obtain⟨an,nn,cn,rfl,_⟩:=hown.sl);go_ret;exact tape_new w w1 _ _ _ _ zO hb hown hbel
end Go.Proofs.YtlpdkbmmbdfoiaaGreat
