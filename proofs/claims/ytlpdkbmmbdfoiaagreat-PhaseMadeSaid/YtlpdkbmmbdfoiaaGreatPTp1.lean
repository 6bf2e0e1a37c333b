/- Lemmas. -/
import Derived.Test.YtlpdkbmmbdfoiaaGreatPPv6
import Derived.Test.YtlpdkbmmbdfoiaaGreatPPv7
set_option linter.unusedVariables false
set_option linter.unusedSimpArgs false
namespace Go.Proofs.YtlpdkbmmbdfoiaaGreat
open Go.RowKit
theorem zgd.zero (w:World):zgd w zai ⟨[],[],[]⟩:=by
 have h:zwa w (.slice none 0 0) []:=(zua.nil w 38 0).fracs;exact⟨_,_,_,rfl,h,⟨h.sl,rfl,λ j hj=>absurd hj (zNZ j)⟩,h⟩
theorem zgd.slices {w:World} {v:Value} {l:LQ} (h:zgd w v l):∃sa sn sk ra rn rk ea en ek,v= .agg #[.string { data:=#[] }, .slice sa sn sk, .slice ra rn rk, .slice ea en ek]/\zwa w (.slice sa sn sk) l.start/\MatC w (.slice ra rn rk) l.rates/\zwa w (.slice ea en ek) l.exit:=by
 obtain⟨sv,rv,ev,rfl,hs,hr,he⟩:=h;obtain⟨ra,rn,rk,rfl,_⟩:=id hr.sl;obtain⟨sa,sn,sk,rfl,_⟩:=id hs.sl;obtain⟨ea,en,ek,rfl,_⟩:=id he.sl;exact⟨sa,sn,sk,ra,rn,rk,ea,en,ek,rfl,hs,hr,he⟩
set_option maxRecDepth 100000 in
set_option maxHeartbeats 3200000 in
theorem ztq (va vb:Value) (l:LQ) (w:World) (ha:zgd w va l) (hb:zgd w vb l):Calls Tryz.prog 30 #[va,vb] w (λ e w'=>e= .returned (.bool true)/\Below w.heap.size w w'):=by
 obtain⟨sa,sn,sk,ra,rn,rk,ea,en,ek,rfl,hs,hr,he⟩:=ha.slices;obtain⟨sb,sm,sj,rb,rm,rj,eb,em,ej,rfl,hs2,hr2,he2⟩:=hb.slices;have hba:=zca w (.cells #[.string { data:=#[] }, .slice sa sn sk, .slice ra rn rk, .slice ea en ek] 52);have hbb:=zca (w.alloc (.cells #[.string { data:=#[] }, .slice sa sn sk, .slice ra rn rk, .slice ea en ek] 52)) (.cells #[.string { data:=#[] }, .slice sb sm sj, .slice rb rm rj, .slice eb em ej] 52);have hz1:(w.alloc (.cells #[.string { data:=#[] }, .slice sa sn sk, .slice ra rn rk, .slice ea en ek] 52)).heap.size=w.heap.size+1:=by show(w.heap.push _).size=_;rw[Array.size_push]
 have HCA:=zH ((C4.new w 52 (.string { data:=#[] }) (.slice sa sn sk) (.slice ra rn rk) (.slice ea en ek)).bS hbb);have hcb:=C4.new (w.alloc (.cells #[.string { data:=#[] }, .slice sa sn sk, .slice ra rn rk, .slice ea en ek] 52)) 52 (.string { data:=#[] }) (.slice sb sm sj) (.slice rb rm rj) (.slice eb em ej);rw[hz1]at hcb;have HCB:=zH hcb;have HB:=zH (zaa hba hbb);have HS:=zH (zAI (hs.bw HB.o) (hs2.bw HB.o));have HR:=zH (zAI (hr.bw HB.o) (hr2.bw HB.o));have HE:=zH (zAI (he.bw HB.o) (he2.bw HB.o));clear ha hb hs hs2 hr hr2 he he2 hba hbb hz1 hcb;go_enter Tryz.func30,Tryz.ntmps30;go_upto_region 1 with fail;generalize (w.alloc (.cells #[.string { data:=#[] }, .slice sa sn sk, .slice ra rn rk, .slice ea en ek] 52)).alloc (.cells #[.string { data:=#[] }, .slice sb sm sj, .slice rb rm rj, .slice eb em ej] 52)=W2 at *
 obtain⟨-,c0,c1,c2,c3,-,-,-,-⟩:=HCA.o;obtain⟨-,d0,d1,d2,d3,-,-,-,-⟩:=HCB.o;have tok1:True:=trivial
 go_wp2_with (first
  |(go_at_call 23;have _t:=tok1;(with_reducible refine(zkl _ _ l.start l.start _ HS.o.1 HS.o.2).mono ?_);rintro e3 w3 ⟨⟨r3,rfl,h3⟩,hb3⟩;obtain rfl:r3=true:=h3.2 rfl;have HB3:=zH hb3;have c2:=zba hb3 c2;have d2:=zba hb3 d2;have c3:=zba hb3 c3;have d3:=zba hb3 d3;clear hb3 h3 tok1 _t)
  |(go_at_call 93;(with_reducible refine(same_mat _ _ l.rates l.rates _ (HR.o.1.bw HB3.o) (HR.o.2.bw HB3.o)).mono ?_);rintro e4 w4 ⟨⟨r4,rfl,h4⟩,hb4⟩;obtain rfl:r4=true:=h4.2 rfl;have HB4:=zH (zaa HB3.o hb4);have c3:=zba hb4 c3;have d3:=zba hb4 d3;clear hb4 h4)
  |(go_at_call 23;(with_reducible refine(zkl _ _ l.exit l.exit _ (HE.o.1.bw HB4.o) (HE.o.2.bw HB4.o)).mono ?_);rintro e5 w5 ⟨⟨r5,rfl,h5⟩,hb5⟩;obtain rfl:r5=true:=h5.2 rfl;have HB5:=zH (zaa HB4.o hb5);clear hb5 h5))
 go_ret;exact⟨rfl,zaa HB.o HB5.o⟩
def RLE (w0:World) (l:LQ) (er:Int) (e:Ending) (w:World):Prop:=∃v,e= .returned (.tuple #[v, .int .i64 er])/\zgd w v l/\Below w0.heap.size w0 w
theorem RSz.le {c:Prop} [Decidable c] {w0:World} {l:LQ} {e:Ending} {w:World} (h:RSz c w0 l e w):RLE w0 (if c then l else⟨[],[],[]⟩) (if c then 0 else 2) e w:=by
 by_cases hc:c
 ·rw[zIP hc,zIP hc];exact h.1 hc
 ·rw[zIN hc,zIN hc];obtain⟨rfl,hb⟩:=h.2 hc;exact⟨_,rfl,zgd.zero w,hb⟩
structure AgF (a b:LQ) (p:Rat) (n:Nat) (s1:Bool) (x1 z1:List Nat) (e1:Int) (s2:Bool) (x2 z2:List Nat) (l3:LQ) (e3:Int) (l4:LQ) (e4:Int) (l5:LQ) (e5:Int) (s6:Bool) (x6 z6:List Nat):Prop where
 pm:∀w vl,zgd w vl a->Calls Tryz.prog 37 #[vl, .int .i64 (n:Nat)] w (RFX w s1 x1 z1 e1)
 rm:∀w vl,zgd w vl a->Calls Tryz.prog 124 #[vl, .int .i64 (n:Nat)] w (RFX w s1 x1 z1 e1)
 pe:∀w vl,zgd w vl a->Calls Tryz.prog 36 #[vl] w (RFX w s2 x2 z2 0)
 re:∀w vl,zgd w vl a->Calls Tryz.prog 125 #[vl] w (RFX w s2 x2 z2 0)
 ps:∀w va vb,zgd w va a->zgd w vb b->Calls Tryz.prog 35 #[va,vb] w (RLE w l3 e3)
 rs:∀w va vb,zgd w va a->zgd w vb b->Calls Tryz.prog 126 #[va,vb] w (RLE w l3 e3)
 pf:∀w va vb,zgd w va a->zgd w vb b->Calls Tryz.prog 57 #[va,vb] w (RLE w l4 e4)
 rf:∀w va vb,zgd w va a->zgd w vb b->Calls Tryz.prog 127 #[va,vb] w (RLE w l4 e4)
 px:∀w vp va vb,zia w vp p->zgd w va a->zgd w vb b->Calls Tryz.prog 56 #[vp,va,vb] w (RLE w l5 e5)
 rx:∀w vp va vb,zia w vp p->zgd w va a->zgd w vb b->Calls Tryz.prog 128 #[vp,va,vb] w (RLE w l5 e5)
 pb:∀w va vb,zgd w va a->zgd w vb b->Calls Tryz.prog 32 #[va,vb] w (RFX w s6 x6 z6 0)
 rb:∀w va vb,zgd w va a->zgd w vb b->Calls Tryz.prog 129 #[va,vb] w (RFX w s6 x6 z6 0)
theorem pz_bounds {n d:Nat} (h:n<d) (hd:d<=256):0<=fq false n d/\fq false n d<=1/\over d 256 (fq false n d)/\fits (fq false n d)/\fits (1-fq false n d):=by
 have hd0:d≠0:=zO
 have hov:over d 256 (fq false n d):=by
  refine⟨(n:Int),?_,by rw[Int.natAbs_natCast];omega⟩;unfold fq sgn;rw[zIN zD]
 have hq:over d (256+256) (1-fq false n d):=over.sub hd0 ((over.one hd0).mono hd) hov;have h1:¬fq false n d<0:=of_decide_eq_false (fq_neg false n d hd0)
 have h2:1-fq false n d=fq false (d-n) d:=by
  unfold fq sgn;rw[zIN zD,zIN zD,Rat.mkRat_eq_div,Rat.mkRat_eq_div,Rat.div_def,Rat.div_def];have e1:((d:Int):Rat)*((d:Int):Rat)⁻¹=1:=Rat.mul_inv_cancel _ (λ e=>hd0 (by have:=Rat.intCast_eq_zero_iff.1 e;omega))
  have e2:(((d-n:Nat):Int):Rat)=((d:Int):Rat)- ((n:Int):Rat):=by
   have :((d-n:Nat):Int)=(d:Int)- (n:Int):=zO;rw[this];push_cast;rfl
  rw[e2];generalize ((d:Int):Rat)⁻¹=r at *
  grind
 have h3:¬fq false (d-n) d<0:=of_decide_eq_false (fq_neg false (d-n) d hd0);rw[<-h2]at h3;have p1:d<2^4096:=ztb (a:=9) (zLL hd zD) zD;exact⟨Rat.not_lt.1 h1,by have:=Rat.not_lt.1 h3;grind,hov,hov.fits hd0 (ztb (a:=9) zD zD) p1,hq.fits hd0 (ztb (a:=10) zD zD) p1⟩
theorem ag_facts {a b:LQ} {i d n:Nat} (ha:zze 3 a) (hb:zze 3 b) (h:i<d) (hd:d<=256):∃s1 x1 z1 e1 s2 x2 z2 l3 e3 l4 e4 l5 e5 s6 x6 z6,AgF a b (fq false i d) n s1 x1 z1 e1 s2 x2 z2 l3 e3 l4 e4 l5 e5 s6 x6 z6:=by
 obtain⟨h0,h1,hov,hp,hq⟩:=pz_bounds h hd;have hd0:d≠0:=zO;have pa:=ha.law zD;have pb:=hb.law zD;have hs:=λ h4=>sum_lawG ha hb zD h4
 have hf:=λ h4=>fir_lawG ha hb zD h4
 have hm:=λ h4=>mix_lawG ha hb zD h4 hd0 hd hov h0 h1
 have m1:=mom_three ha (n:=1) zD;obtain⟨b1,b2⟩:=bef_three ha hb
 obtain⟨s1,x1,z1,e1,k1,k2⟩:∃s1 x1 z1 e1,(∀w vl,zgd w vl a->Calls Tryz.prog 37 #[vl, .int .i64 (n:Nat)] w (RFX w s1 x1 z1 e1))/\(∀w vl,zgd w vl a->Calls Tryz.prog 124 #[vl, .int .i64 (n:Nat)] w (RFX w s1 x1 z1 e1)):=by
  by_cases hn:n<1\/3<n
  ·exact⟨false,[],[],5,λ w vl h=>pmoment_rng vl a n w h.lawC pa hn,λ w vl h=>rmoment_rng vl a n w h pa hn⟩
  ·have g1:1<=n:=zO;have g3:n<=3:=zO;obtain⟨m2,m3⟩:=mom_three ha g3;exact⟨_,_,_,0,λ w vl h=>(zjo vl a n w h.lawC pa g1 g3 m2).mono λ _ _ h=>h.fx,λ w vl h=>(zao vl a n w h pa g1 g3 m2 m3).mono λ _ _ h=>h.fx⟩
 exact⟨s1,x1,z1,e1,_,_,_,_,_,_,_,_,_,_,_,_,
  ⟨k1,
   k2,
   λ w vl h=>(pmean_any vl a w h.lawC pa m1.1).mono λ _ _ h=>h.fx,
   λ w vl h=>(rmean20_any vl a w h pa m1.1 m1.2).mono λ _ _ h=>h.fx,
   λ w va vb h1 h2=>(psum_sz va vb a b w h1 h2 pa pb hs).mono λ _ _ h=>h.le,
   λ w va vb h1 h2=>(rsum_any va vb a b w h1 h2 pa pb hs).mono λ _ _ h=>h.le,
   λ w va vb h1 h2=>(pfir_sz va vb a b w h1 h2 pa pb hf).mono λ _ _ h=>h.le,
   λ w va vb h1 h2=>(rfirst_any va vb a b w h1 h2 pa pb hf).mono λ _ _ h=>h.le,
   λ w vp va vb h3 h4 h5=>(pmix_sz vp va vb _ a b w h3 h4 h5 pa pb hp hq h0 h1 hm).mono λ _ _ h=>h.le,
   λ w vp va vb h3 h4 h5=>(rmix_any vp va vb _ a b w h3 h4 h5 pa pb hp hq h0 h1 hm).mono λ _ _ h=>h.le,
   λ w va vb h1 h2=>(zko va vb a b w h1.lawC h2.lawC pa pb b1).mono λ _ _ h=>h.fx,
   λ w va vb h1 h2=>(rbefore_any va vb a b w h1 h2 pa pb b1 b2).mono λ _ _ h=>h.fx⟩⟩
def law1 :LQ:=erlQ 1 1
def zvo :LQ:=erlQ 1 2
theorem lim2 :zqf 2:=⟨by decide+kernel,by decide+kernel,by decide+kernel⟩
theorem law1_p :znb law1:=erl_law zD zD limQ_one (by decide+kernel)
theorem law2_p :znb zvo:=erl_law zD zD lim2 (by decide+kernel)
theorem over12 :over 1 2 2:=⟨2,by decide+kernel,zD⟩
theorem law1_s :SmL 1 2 law1:=erl_sm zD (zch.mono zD)
theorem law2_s :SmL 1 2 zvo:=erl_sm zD over12
theorem law2_m :MomP zvo 1 1:=(mom_small law2_p law2_s zD zD zD zD (DS:=1) zD zD (λ i _=>zcp zD i)).1
theorem law12_n :bfN law1 zvo=1:=zD
theorem law12_b :BefP law1 zvo:=bef_small law1_p law2_p law1_s law2_s zD zD zD zD (by rw[law12_n];decide) (DS:=1) zD zD (λ r _=>by
 unfold bfS;have h:=over.mul (zcp (q:=1) (n:=1) zD (r/zvo.start.length)) (zcp (q:=2) (n:=1) zD (r%zvo.start.length))
 have e1:stQ law1 (r/zvo.start.length)=0\/stQ law1 (r/zvo.start.length)=1:=by
  have:=erl_st (q:=1) (n:=1) zD (r/zvo.start.length);unfold law1;rw[this];split
  ·exact Or.inr rfl
  ·exact Or.inl rfl
 have e2:stQ zvo (r%zvo.start.length)=0\/stQ zvo (r%zvo.start.length)=1:=by
  have:=erl_st (q:=2) (n:=1) zD (r%zvo.start.length);rw[show stQ zvo=stQ (erlQ 1 2)from rfl,this];split
  ·exact Or.inr rfl
  ·exact Or.inl rfl
 rcases e1 with e1 | e1<;>rcases e2 with e2 | e2<;>rw[e1,e2]
 ·rw[Rat.zero_mul];exact over.zero _ _
 ·rw[Rat.zero_mul];exact over.zero _ _
 ·rw[Rat.mul_zero];exact over.zero _ _
 ·rw[Rat.mul_one];exact zch.mono zD)
theorem law2_q :momQ zvo 1=mkRat 1 2:=by decide+kernel
theorem law12_q :befQ law1 zvo=mkRat 1 3:=by decide+kernel
theorem pexp_one (va:Value) (w:World) (ha:zia w va 1):Calls Tryz.prog 26 #[va] w (λ e w'=>∃v,e= .returned (.tuple #[v, .int .i64 0])/\zgd w' v law1/\Below w.heap.size w w'):=by
 refine(zoi va _ _ _ w ha.raw).mono ?_;rintro e w' ⟨v,er,rfl,hb,_,_,h⟩;obtain⟨rfl,h2⟩:=h zD (by decide+kernel);have h3:=h2.lawE;rw[zmb]at h3;exact⟨v,rfl,h3,hb⟩
theorem pexp_two (va:Value) (w:World) (ha:zia w va 2):Calls Tryz.prog 26 #[va] w (λ e w'=>∃v,e= .returned (.tuple #[v, .int .i64 0])/\zgd w' v zvo/\Below w.heap.size w w'):=by
 refine(zoi va _ _ _ w ha.raw).mono ?_;rintro e w' ⟨v,er,rfl,hb,_,_,h⟩;obtain⟨rfl,h2⟩:=h zD (by decide+kernel);have h3:=h2.lawE;rw[zmb]at h3;exact⟨v,rfl,h3,hb⟩
theorem pmean_two (va:Value) (w:World) (ha:zxj w va zvo):Calls Tryz.prog 36 #[va] w (RF0 w (mkRat 1 2)):=by
 rw[<-law2_q];exact pmean_any va zvo w ha law2_p law2_m
theorem pbefore_12 (va vb:Value) (w:World) (ha:zxj w va law1) (hb:zxj w vb zvo):Calls Tryz.prog 32 #[va,vb] w (RF0 w (mkRat 1 3)):=by
 rw[<-law12_q];exact zko va vb law1 zvo w ha hb law1_p law2_p law12_b
theorem r2int_2a (w:World):Calls Tryz.prog 20 #[.int .i64 2] w (RF1 w 2):=by
 have h:=r2int_nat 2 w zD;have e:fq false 2 1=2:=by decide+kernel
 rw[e]at h;exact h
theorem zlo (a b:Nat) (y z:Int) (w:World) (hy:y=(a:Int)) (hz:z=(b:Int)) (ha:a<4294967296) (hb:b<4294967296) (hb0:b≠0):
 Calls Tryz.prog 18 #[.int .i64 y, .int .i64 z] w (RF0 w (fq false a b)):=by subst hy;subst hz;exact zah a b w ha hb hb0
theorem r2make_12a (w:World):Calls Tryz.prog 18 #[.int .i64 1, .int .i64 2] w (RF0 w (mkRat 1 2)):=zlo 1 2 1 2 w rfl rfl zD zD zD
theorem r2make_13a (w:World):Calls Tryz.prog 18 #[.int .i64 1, .int .i64 3] w (RF0 w (mkRat 1 3)):=zlo 1 3 1 3 w rfl rfl zD zD zD
theorem zgd.parts2 {w:World} {v:Value} {q:Rat} (h:zgd w v (erlQ 1 q)):∃sa sk ra rk ea ek,v= .agg #[.string { data:=#[] }, .slice sa 1 sk, .slice ra 1 rk, .slice ea 1 ek]/\True:=by
 obtain⟨sv,rv,ev,rfl,hs,hr,he⟩:=h;obtain⟨ra,rn,rk,rfl,_⟩:=id hr.sl;obtain⟨sa,sn,sk,rfl,_⟩:=id hs.sl;obtain⟨ea,en,ek,rfl,_⟩:=id he.sl;have hsn:sn=1:=hs.len;have hrn:rn=1:=hr.len;have hen:en=1:=he.len;subst hsn hrn hen;exact⟨sa,sk,ra,rk,ea,ek,rfl,trivial⟩
set_option maxRecDepth 100000 in
set_option maxHeartbeats 6400000 in
theorem awake20_any (w:World):Calls Tryz.prog 25 #[] w (λ e w'=>e= .returned (.bool true)/\Below w.heap.size w w'):=by
 have HB:=zH (zBR w.heap.size w);have HZM:zI (∀w0,Calls Tryz.prog 36 #[.agg #[.string { data:=#[] }, .slice none 0 0, .slice none 0 0, .slice none 0 0]] w0 (λ e w'=>e= .returned (.tuple #[.agg #[.bool false, .slice none 0 0, .slice none 0 0], .int .i64 1])/\Below w0.heap.size w0 w')):=zH (λ w0=>pmean_zero w0);go_enter Tryz.func25,Tryz.ntmps25
 go_upto_region 2 with(first
  |(go_at_call 20;(with_reducible refine(zbh _).mono ?_);rintro e9 w9 ⟨v9,rfl,hv9,hb9⟩;obtain⟨t9,a91,l91,k91,a92,l92,k92,rfl⟩:=hv9.iF;replace HB:=zH (zaa HB.o hb9))
  |(go_at_call 26;(with_reducible refine(pexp_one _ _ hv9).mono ?_);rintro e1 w1 ⟨v1,rfl,hv1,hb1⟩;clear hv9 hb9;obtain⟨sa1,sk1,ra1,rk1,ea1,ek1,rfl,_⟩:=hv1.parts2;have hba:=zca w1 (.cells #[.string { data:=#[] }, .slice sa1 1 sk1, .slice ra1 1 rk1, .slice ea1 1 ek1] 52);have hbb:=zaa hb1 hba;have HC1:=zH (C4.new w1 52 (.string { data:=#[] }) (.slice sa1 1 sk1) (.slice ra1 1 rk1) (.slice ea1 1 ek1));have HF1:=zH (hv1.bw hba);replace HB:=zH (zaa HB.o hbb);clear hv1 hb1 hba hbb))
 obtain⟨b1,hb1⟩:∃b,w1.heap.size=b:=⟨_,rfl⟩;rw[hb1]at HC1 |-
 clear hb1;generalize w1.alloc (.cells #[.string { data:=#[] }, .slice sa1 1 sk1, .slice ra1 1 rk1, .slice ea1 1 ek1] 52)=W1 at *
 go_upto_region 3 with(first
  |(go_at_call 20;(with_reducible refine(r2int_2a _).mono ?_);rintro e9 w9 ⟨v9,rfl,hv9,hb9⟩;obtain⟨t9,a91,l91,k91,a92,l92,k92,rfl⟩:=hv9.iF;replace HB:=zH (zaa HB.o hb9);replace HC1:=zH (HC1.o.bS hb9);replace HF1:=zH (HF1.o.bw hb9))
  |(go_at_call 26;(with_reducible refine(pexp_two _ _ hv9).mono ?_);rintro e2 w2 ⟨v2,rfl,hv2,hb2⟩;clear hv9 hb9;obtain⟨sa2,sk2,ra2,rk2,ea2,ek2,rfl,_⟩:=hv2.parts2;have hba:=zca w2 (.cells #[.string { data:=#[] }, .slice sa2 1 sk2, .slice ra2 1 rk2, .slice ea2 1 ek2] 52);have hbb:=zaa hb2 hba;have HC2:=zH (C4.new w2 52 (.string { data:=#[] }) (.slice sa2 1 sk2) (.slice ra2 1 rk2) (.slice ea2 1 ek2));have HF2:=zH (hv2.bw hba);replace HB:=zH (zaa HB.o hbb);replace HC1:=zH (HC1.o.bS hbb);replace HF1:=zH (HF1.o.bw hbb);clear hv2 hb2 hba hbb))
 obtain⟨b2,hb2⟩:∃b,w2.heap.size=b:=⟨_,rfl⟩;rw[hb2]at HC2 |-
 clear hb2;generalize w2.alloc (.cells #[.string { data:=#[] }, .slice sa2 1 sk2, .slice ra2 1 rk2, .slice ea2 1 ek2] 52)=W2 at *
 obtain⟨-,c0,c1,c2,c3,-,-,-,-⟩:=HC2.o
 go_upto_region 4 with(first
  |(go_at_call 36;(with_reducible refine(pmean_two _ _ HF2.o.lawC).mono ?_);rintro e3 w3 ⟨v3,rfl,hv3,hb3⟩;clear c0 c1 c2 c3;obtain⟨t3,a31,l31,k31,a32,l32,k32,rfl⟩:=hv3.iF;have hba:=zca w3 (.cells #[.bool t3, .slice a31 l31 k31, .slice a32 l32 k32] 38);have hbb:=zaa hb3 hba;have HC3:=zH (C3.new w3 38 (.bool t3) (.slice a31 l31 k31) (.slice a32 l32 k32));have HF3:=zH (hv3.bw hba);replace HB:=zH (zaa HB.o hbb);replace HC1:=zH (HC1.o.bS hbb);replace HF1:=zH (HF1.o.bw hbb);replace HC2:=zH (HC2.o.bS hbb);replace HF2:=zH (HF2.o.bw hbb);clear hv3 hb3 hba hbb))
 obtain⟨b3,hb3⟩:∃b,w3.heap.size=b:=⟨_,rfl⟩;rw[hb3]at HC3 |-
 clear hb3;generalize w3.alloc (.cells #[.bool t3, .slice a31 l31 k31, .slice a32 l32 k32] 38)=W3 at *
 obtain⟨-,c0,c1,c2,c3,-,-,-,-⟩:=HC1.o;obtain⟨-,d0,d1,d2,d3,-,-,-,-⟩:=HC2.o
 go_upto_region 5 with(first
  |(go_at_call 32;(with_reducible refine(pbefore_12 _ _ _ HF1.o.lawC HF2.o.lawC).mono ?_);rintro e4 w4 ⟨v4,rfl,hv4,hb4⟩;clear c0 c1 c2 c3 d0 d1 d2 d3;obtain⟨t4,a41,l41,k41,a42,l42,k42,rfl⟩:=hv4.iF;have hba:=zca w4 (.cells #[.bool t4, .slice a41 l41 k41, .slice a42 l42 k42] 38);have hbb:=zaa hb4 hba;have HC4:=zH (C3.new w4 38 (.bool t4) (.slice a41 l41 k41) (.slice a42 l42 k42));have HF4:=zH (hv4.bw hba);replace HB:=zH (zaa HB.o hbb);replace HC3:=zH (HC3.o.bS hbb);replace HF3:=zH (HF3.o.bw hbb);clear hv4 hb4 hba hbb))
 obtain⟨b4,hb4⟩:∃b,w4.heap.size=b:=⟨_,rfl⟩;rw[hb4]at HC4 |-
 clear hb4;generalize w4.alloc (.cells #[.bool t4, .slice a41 l41 k41, .slice a42 l42 k42] 38)=W4 at *
 clear HC1 HF1 HC2 HF2
 go_upto_region 6 with(first
  |(go_at_call 36;(with_reducible refine(HZM.o _).mono ?_);rintro e6 w6 ⟨rfl,hb6⟩;have hba:=zca w6 (.cells #[.bool false, .slice none 0 0, .slice none 0 0] 38);have hbb:=zaa hb6 hba;replace HB:=zH (zaa HB.o hbb);replace HC3:=zH (HC3.o.bS hbb);replace HF3:=zH (HF3.o.bw hbb);replace HC4:=zH (HC4.o.bS hbb);replace HF4:=zH (HF4.o.bw hbb);clear hb6 hba hbb))
 generalize w6.alloc (.cells #[.bool false, .slice none 0 0, .slice none 0 0] 38)=W6 at *
 go_upto_region 7 with(first
  |(go_at_call 18;(with_reducible refine(r2make_12a _).mono ?_);rintro e5 w5 ⟨v5,rfl,hv5,hb5⟩;obtain⟨t5,a51,l51,k51,a52,l52,k52,rfl⟩:=hv5.iF;have hba:=zca w5 (.cells #[.bool t5, .slice a51 l51 k51, .slice a52 l52 k52] 38);have hbb:=zaa hb5 hba;have HC5:=zH (C3.new w5 38 (.bool t5) (.slice a51 l51 k51) (.slice a52 l52 k52));have HF5:=zH (hv5.bw hba);replace HB:=zH (zaa HB.o hbb);replace HC3:=zH (HC3.o.bS hbb);replace HF3:=zH (HF3.o.bw hbb);replace HC4:=zH (HC4.o.bS hbb);replace HF4:=zH (HF4.o.bw hbb);clear hv5 hb5 hba hbb))
 obtain⟨b5,hb5⟩:∃b,w5.heap.size=b:=⟨_,rfl⟩;rw[hb5]at HC5 |-
 clear hb5;generalize w5.alloc (.cells #[.bool t5, .slice a51 l51 k51, .slice a52 l52 k52] 38)=W5 at *
 go_upto_region 8 with(first
  |(go_at_call 18;(with_reducible refine(r2make_13a _).mono ?_);rintro e7 w7 ⟨v7,rfl,hv7,hb7⟩;obtain⟨t7,a71,l71,k71,a72,l72,k72,rfl⟩:=hv7.iF;have hba:=zca w7 (.cells #[.bool t7, .slice a71 l71 k71, .slice a72 l72 k72] 38);have hbb:=zaa hb7 hba;have HC7:=zH (C3.new w7 38 (.bool t7) (.slice a71 l71 k71) (.slice a72 l72 k72));have HF7:=zH (hv7.bw hba);replace HB:=zH (zaa HB.o hbb);replace HC3:=zH (HC3.o.bS hbb);replace HF3:=zH (HF3.o.bw hbb);replace HC4:=zH (HC4.o.bS hbb);replace HF4:=zH (HF4.o.bw hbb);replace HC5:=zH (HC5.o.bS hbb);replace HF5:=zH (HF5.o.bw hbb);clear hv7 hb7 hba hbb))
 obtain⟨b7,hb7⟩:∃b,w7.heap.size=b:=⟨_,rfl⟩;rw[hb7]at HC7 |-
 clear hb7;generalize w7.alloc (.cells #[.bool t7, .slice a71 l71 k71, .slice a72 l72 k72] 38)=W7 at *
 obtain⟨-,c0,c1,c2,-,-,-⟩:=HC3.o;obtain⟨-,d0,d1,d2,-,-,-⟩:=HC5.o;obtain⟨-,p0,p1,p2,-,-,-⟩:=HC4.o;obtain⟨-,q0,q1,q2,-,-,-⟩:=HC7.o
 go_wp2_with (first
  |(go_at_call 61;(with_reducible refine(zvn _ _ (mkRat 1 2) (mkRat 1 2) _ HF3.o HF5.o).mono ?_);rintro e10 w10 ⟨⟨z10,rfl,hz10⟩,hb10⟩;obtain rfl:z10=true:=hz10.2 rfl;clear hz10 c0 c1 c2 d0 d1 d2 p0 p1 p2 q0 q1 q2;replace HB:=zH (zaa HB.o hb10);replace HC4:=zH (HC4.o.bS hb10);replace HF4:=zH (HF4.o.bw hb10);replace HC7:=zH (HC7.o.bS hb10);replace HF7:=zH (HF7.o.bw hb10);obtain⟨-,p0,p1,p2,-,-,-⟩:=HC4.o;obtain⟨-,q0,q1,q2,-,-,-⟩:=HC7.o;clear hb10)
  |(go_at_call 61;(with_reducible refine(zvn _ _ (mkRat 1 3) (mkRat 1 3) _ HF4.o HF7.o).mono ?_);rintro e11 w11 ⟨⟨z11,rfl,hz11⟩,hb11⟩;obtain rfl:z11=true:=hz11.2 rfl;clear hz11 p0 p1 p2 q0 q1 q2;replace HB:=zH (zaa HB.o hb11);clear hb11))
 go_ret;exact⟨rfl,HB.o⟩
def LawN (w:World) (B:Nat) (v:Value) (l:LQ):Prop:=∃vs ve vr rs,v= .agg #[.string { data:=#[] },vs,vr,ve]/\zua w 38 B vs l.start/\zua w 38 B ve l.exit/\zkc w 25 B 1 vr rs.length rs/\rs.length=l.rates.length/\∀ (j:Nat) (h:j<rs.length) (h':j<l.rates.length),zua w 38 B rs[j] l.rates[j]
section
variable {w w':World} {B:Nat} {v:Value} {l:LQ}
theorem LawN.lawE (h:LawN w B v l):zgd w v l:=by
 obtain⟨vs,ve,vr,rs,rfl,h1,h2,h3,h4,h5⟩:=h
 exact⟨vs,vr,ve,rfl,h1.fracs,⟨h3.sl,by rw[h3.len];exact h4,λ j hj=>by
  have hj2:j<rs.length:=by rw[h4];exact hj
  exact⟨rs[j],h3.cell j hj2,(h5 j hj2 hj).fracs⟩⟩,h2.fracs⟩
theorem LawN.moves (h:LawN w B v l) (hm:zkb B w w'):LawN w' B v l:=by
 obtain⟨vs,ve,vr,rs,rfl,h1,h2,h3,h4,h5⟩:=h;exact⟨vs,ve,vr,rs,rfl,h1.moves hm (zLR _),h2.moves hm (zLR _),h3.moves hm (zLR _),h4,λ j a b=>(h5 j a b).moves hm (zLR _)⟩
end
def RTLaw (w0:World) (bt:Nat) (l:List Nat) (most:Nat) (e:Ending) (w:World):Prop:=
 ∃v q a,e= .returned v/\LawN w w0.heap.size v q/\zze most q/\zbc w bt l a/\TMv bt w0 w
theorem sz1t (w:World) (o:Obj):(w.alloc o).heap.size=w.heap.size+1:=by simp
theorem LwT.new {w:World} {bt a:Nat} {l:List Nat} (h:zbc w bt l a) (t:TypeId):
 LwT (w.alloc (.cells #[.string { data:=#[] }, .slice none 0 0, .slice none 0 0, .slice none 0 0] t)) bt l (w.heap.size+1) w.heap.size (.slice none 0 0) (.slice none 0 0) (.slice none 0 0) [] [] [] []:=by
 refine⟨⟨a,(h.b.mono (zLS _)).bw (zca w _)⟩,C4.new w t _ _ _ _,zua.nil _ _ _,zua.nil _ _ _,zkc.nil _ _ _ _,rfl,λ j h=>by simp at h,Or.inl rfl,by simp,?_⟩;have:=h.lt;omega
theorem LwT.setLow {w:World} {bt:Nat} {l:List Nat} {B b5:Nat} {vs ve vr:Value} {rs:List Value} {S E:List Rat} {R:List (List Rat)} (h:LwT w bt l B b5 vs ve vr rs S E R) {p:Addr} {x:Value} (hp:p.block<B) (h1:p.block≠bt) (h5:p.block≠b5) (hc:w.cell? p=some x) (hx:∀z,x≠ .int .u32 z) (hx8:∀z,x≠ .int .u8 z) (u:Value):LwT (w.setCell p u) bt l B b5 vs ve vr rs S E R:=by
 obtain⟨a,ht⟩:=h.tape;exact h.of (zkb.set hp hc hx u) ⟨a,ht.set h1 hc hx8 u⟩ (h.box.other h5 u)
theorem LwT.set4 {w:World} {bt:Nat} {l:List Nat} {B b5:Nat} {vs ve vr:Value} {rs:List Value} {S E:List Rat} {R:List (List Rat)} (h:LwT w bt l B b5 vs ve vr rs S E R) {b:Nat} {s:ByteArray} (hC:C4 w b (.string s) (.slice none 0 0) (.slice none 0 0) (.slice none 0 0)) (hp:b<B) (h1:b≠bt) (h5:b≠b5) (u0 u1 u2 u3:Value):
 LwT ((((w.setCell ⟨b,0,none⟩ u0).setCell ⟨b,1,none⟩ u1).setCell ⟨b,2,none⟩ u2).setCell ⟨b,3,none⟩ u3) bt l B b5 vs ve vr rs S E R:=by
 obtain⟨_,c0,c1,c2,c3,_,_,_,_⟩:=hC;have k0:=h.setLow (p:=⟨b,0,none⟩) hp h1 h5 c0 zZ zZ u0;have k1:=k0.setLow (p:=⟨b,1,none⟩) hp h1 h5 (by rw[zCO _ _ _ _ (by simp)];exact c1) zZ zZ u1;have k2:=k1.setLow (p:=⟨b,2,none⟩) hp h1 h5 (by rw[zCO _ _ _ _ (by simp),zCO _ _ _ _ (by simp)];exact c2) zZ zZ u2;exact k2.setLow (p:=⟨b,3,none⟩) hp h1 h5 (by rw[zCO _ _ _ _ (by simp),zCO _ _ _ _ (by simp),zCO _ _ _ _ (by simp)];exact c3) zZ zZ u3
theorem LwT.lawN {w:World} {bt:Nat} {l:List Nat} {B b5 B':Nat} {vs ve vr:Value} {rs:List Value} {S E:List Rat} {R:List (List Rat)} (h:LwT w bt l B b5 vs ve vr rs S E R) (hB:B'<=B):LawN w B' (.agg #[.string { data:=#[] },vs,vr,ve]) ⟨S,E,R⟩:=
 ⟨vs,ve,vr,rs,rfl,h.st.mono hB,h.ex.mono hB,h.ra.lower hB,h.rl,λ j a b=>(h.rows j a b).1.mono hB⟩
set_option maxRecDepth 100000 in
set_option maxHeartbeats 6400000 in
theorem tlaw_any (bt a:Nat) (l:List Nat) (most:Nat) (w:World) (hT:zbc w bt l a) (hm1:1<=most) (hm4:most<=4):
 Calls Tryz.prog 54 #[.pointer (some ⟨bt,0,none⟩), .int .i64 (most:Nat)] w (RTLaw w bt l most):=by
 obtain⟨i1,hi1,hz1,hs1,hy1⟩:=info_parts Tryz.infoRow;have hAR:=zwh (P:=Tryz.prog) 24 25 i1 _ 24 Tryz.underlying24 hi1 hz1 hs1 hy1 zD rfl zZ;obtain⟨i3,hi3,hz3,hs3,hy3⟩:=info_parts Tryz.infoF;have hAF:=zgh (P:=Tryz.prog) 25 38 i3 Tryz.underlying25 hi3 hz3 hs3 hy3;clear hi1 hz1 hs1 hy1 hi3 hz3 hs3 hy3;have hba:=zca w (.cells #[.string { data:=#[] }, .slice none 0 0, .slice none 0 0, .slice none 0 0] 52);have H0:zI (Fr4 w bt (w.alloc (.cells #[.string { data:=#[] }, .slice none 0 0, .slice none 0 0, .slice none 0 0] 52))):=zH ⟨C4.new w 52 _ _ _ _,TMv.of_below hba⟩;have hT0:=hT.bw hba;have HLT:=zH hT.lt;clear hba hT;go_enter Tryz.func54,Tryz.ntmps54;go_upto_region 2 with(go_at_call 107;(with_reducible refine(zjl bt l _ _ most _ rfl hT0 hm1 zO).mono ?_);rintro e1 w1 ⟨x1,a1,rfl,hx1,hT1,hk1⟩);have HF1:=zH (H0.o.tmv hk1);have hw1n:(1:Int)+(x1:Nat)=((x1+1:Nat):Int):=zO;obtain⟨n,hn⟩:∃n,x1+1=n:=⟨_,rfl⟩;have hn4:n<=most:=zO;have hn1:1<=n:=zO;try rw[hw1n]
 rw[hn];clear hw1n hx1;obtain⟨wz,hwz⟩:∃wz,wz=w1:=⟨_,rfl⟩;subst hwz;have HI:=zH (LwT.new hT1 52);have HF5:=zH (HF1.o.tmv (TMv.of_below (bt:=bt) (zca wz (.cells #[.string { data:=#[] }, .slice none 0 0, .slice none 0 0, .slice none 0 0] 52))));have hw4:w.heap.size<wz.heap.size:=HF1.o.1.lt;have HNN:=zH (zAI hn1 hn4);have hn4':n<=4:=zO;clear hk1 hT0 hT1 HF1 hn H0;go_wp2_with fail;go_loopg [7,8] (n) (λ g u7 u8 wr=>∃ (i left:Nat) (vs ve vr:Value) (rs:List Value) (S E:List Rat) (R:List (List Rat)),i<=n/\g=n-i/\u7= .int .i64 left/\u8= .int .i64 i/\LwT wr bt l (wz.heap.size+1) wz.heap.size vs ve vr rs S E R/\LT n i left S E R/\Fr4 w bt wr);case atStart=>exact⟨0,8,_,_,_,_,_,_,_,zZL _,rfl,rfl,rfl,HI.o,LT.zero n hn1,HF5.o⟩
 case round=>
  obtain⟨i,left,vs,ve,vr,rs,S,E,R,hi,hgk,rfl,rfl,hW,hL,hF⟩:=hrel;have HW:=zH hW;have HL:=zH hL;have HF:=zH hF;have HGK:=zH hgk;have hleft:=hL.left8;clear hW hL hF HI HF5 hgk;by_cases hin:i<n
  ·have i2:(i:Int)<(n:Nat):=zO;obtain⟨aT,hTB⟩:=HW.o.tape;have hTA:=hTB.1;go_upto_if 29 with fail;go_cut [9] (λ u9 wx=>∃k:Nat,u9= .int .i64 k/\k<=left/\(i+1=n->k=left)/\LwT wx bt l (wz.heap.size+1) wz.heap.size vs ve vr rs S E R/\Fr4 w bt wx)
   case first =>
    by_cases hlast:i+1<n
    ·have hd2:decide ((i:Int)+1<(n:Nat))=true:=zDT zO;go_wp2_with (go_at_call 107;(with_reducible refine(zjl bt l _ _ (left+1) _ zO hTA zO zO).mono ?_);rintro e6 w6 ⟨x6,a6,rfl,hx6,hT6,hk6⟩);go_meet;case rel=>exact⟨x6,rfl,zO,λ h=>zO,HW.o.tmv hk6 hT6,HF.o.tmv hk6⟩
    ·have hd2:decide ((i:Int)+1<(n:Nat))=false:=zDF zO;go_wp2_with fail;go_meet;case rel=>exact⟨left,rfl,zLR _,λ _=>rfl,HW.o,HF.o⟩
   case rest=>
    obtain⟨k,rfl,hkl,hkn,hW3,hF3⟩:=hcut;have HW3:=zH hW3;have HF3:=zH hF3;have HK:=zH hkn;(have hst1:S.length<=1000:=by rw[HL.o.sl];omega);clear hkn hW3 hF3 hTA hTB HW HF
    go_upto_region 13 with(first
     |(go_at_call 18;(with_reducible refine(t2make_zz k 8 _ 8 _ rfl rfl zO zD zD).mono ?_);rintro e8 w8 ⟨v8,rfl,hv8,hb8⟩;obtain⟨t9,a91,l91,k91,a92,l92,k92,rfl⟩:=hv8.iF;have hbA:=zca w8 (.cells #[.bool t9, .slice a91 l91 k91, .slice a92 l92 k92] 38);have hv9:=hv8.bw hbA;have HW8:=zH ((HW3.o.bw hb8).bw hbA);have HF8:=zH (HF3.o.tmv (TMv.of_below (zaa hb8 hbA)));have hst8:=HW8.o.st;have hsz8:=HW8.o.sz;have ssl8:=hst8.sl;obtain⟨-,c0,c1,c2,c3,f0,f1,f2,f3⟩:=HW8.o.box;obtain⟨-,g0,g1,g2,-,-,-⟩:=C3.new w8 38 (.bool t9) (.slice a91 l91 k91) (.slice a92 l92 k92))
     |(at_builtin;refine hAF _ rfl _ _ rfl (wz.heap.size+1) _ vs S rfl hst8 _ _ _ (fq false k 8) hv9 (by rw[sz1t];rfl) hst1 hsz8 ?_;intro v3' w9 ho9 hg9 hn9 hq9 sv9;have hG:=HW8.o.startG ho9 hg9 hn9 hq9 (zLS _);have hbx9:=HW8.o.box.bw hG.2 (zSS _);have HG:=zH hG;clear c0 c1 c2 c3 f0 f1 f2 f3;obtain⟨-,c0,c1,c2,c3,f0,f1,f2,f3⟩:=id hbx9;clear hG hbx9;obtain⟨an3,nn3,cn3,rfl,_⟩:=id sv9))
    have HFA:=zH ((HF8.o.low HG.o.2 zO).set ⟨wz.heap.size,1,none⟩ hw4 (.slice an3 nn3 cn3));have HWA:=zH HG.o.1;clear HG ho9 hg9 hn9 hq9 c0 c1 c2 c3 f0 f1 f2 f3 g0 g1 g2 hst8 HW8 HF8 HW3 HF3 hb8 hbA hv9 hv8 ssl8 hsz8;generalize w9.setCell ⟨wz.heap.size,1,none⟩ (.slice an3 nn3 cn3)=W9 at *
    obtain⟨aT,hTB⟩:=HWA.o.tape;have hTA:=hTB.1
    go_upto_region 14 with(first
     |(go_at_call 123;(with_reducible refine(tfrac_any bt _ l _ hTA).mono ?_);rintro e12 w12 ⟨v12,q12,a12,rfl,hv12,hq12,hT12,hm12⟩;obtain⟨t12,x12,y12,rfl,⟨a121,l121,k121,rfl,q121⟩,⟨a122,l122,k122,rfl,q122⟩⟩:=hv12.isF;have hba:=zca w12 (.cells #[.bool t12, .slice a121 l121 k121, .slice a122 l122 k122] 38);have hWc:=HWA.o.tmv hm12 hT12;have HAP:=zH (hWc.apart (zLR w12.heap.size));have HSZ:zI (wz.heap.size+1<=w12.heap.size):=zH hWc.sz;have HWB:=zH (hWc.bw hba);have HFB:=zH ((HFA.o.tmv hm12).tmv (TMv.of_below hba));have HC12:=zH (C3.new w12 38 (.bool t12) (.slice a121 l121 k121) (.slice a122 l122 k122));have HV12:=zH (hv12.bw hba);have HT12:=zH (hT12.bw hba);clear hWc hba hv12 hT12 hm12))
    clear hTA hTB HWA HFA;obtain⟨b12,hb12⟩:∃b,w12.heap.size=b:=⟨_,rfl⟩;(rw[hb12]at HC12 HAP HSZ |-);clear hb12;generalize w12.alloc (.cells #[.bool t12, .slice a121 l121 k121, .slice a122 l122 k122] 38)=W12 at *
    have hTA:=HT12.o;go_cut [58] (λ u58 wx=>∃b,u58= .bool b/\(b=true->i+1<n)/\C3 wx b12 (.bool t12) (.slice a121 l121 k121) (.slice a122 l122 k122)/\zia wx (.agg #[.bool t12, .slice a121 l121 k121, .slice a122 l122 k122]) q12/\LwT wx bt l (wz.heap.size+1) wz.heap.size (.slice an3 nn3 cn3) ve vr rs (S++ [fq false k 8]) E R/\Fr4 w bt wx)
    case first =>
     by_cases hlast:i+1<n
     ·have hd2:decide ((i:Int)+1<(n:Nat))=true:=zDT zO;go_wp2_with (go_at_call 107;(with_reducible refine(zjl bt l _ 3 3 _ rfl hTA zD zD).mono ?_);rintro e6 w6 ⟨x6,a6,rfl,hx6,hT6,hk6⟩);go_meet;case rel=>exact⟨_,rfl,λ _=>hlast,HC12.o.tmv hk6 zZ zZ zZ,HV12.o.tmv hk6,HWB.o.tmv hk6 hT6,HFB.o.tmv hk6⟩
     ·have hd2:decide ((i:Int)+1<(n:Nat))=false:=zDF zO;go_wp2_with fail;go_meet;case rel=>exact⟨_,rfl,λ h=>(by cases h),HC12.o,HV12.o,HWB.o,HFB.o⟩
    case rest=>
     obtain⟨b58,rfl,hb58,hC13,hv13,hW13,hF13⟩:=hcut;have HB58:=zH hb58;have HC13:=zH hC13;have HV13:=zH hv13;have HW13:=zH hW13;have HF13:=zH hF13;clear hb58 hC13 hv13 hW13 hF13 HC12 HV12 HWB HFB HT12 hTA;go_upto_if 58 with fail;go_cut [] (λ wx=>∃ (q:Rat) (t':Bool) (a1:Option Addr) (l1 k1:Nat) (a2:Option Addr) (l2 k2:Nat),C3 wx b12 (.bool t') (.slice a1 l1 k1) (.slice a2 l2 k2)/\zia wx (.agg #[.bool t', .slice a1 l1 k1, .slice a2 l2 k2]) q/\(tfQ q\/(q=0/\i+1<n))/\LwT wx bt l (wz.heap.size+1) wz.heap.size (.slice an3 nn3 cn3) ve vr rs (S++ [fq false k 8]) E R/\Fr4 w bt wx)
     case first =>
      cases b58
      ·go_wp2_with fail;go_meet;case rel=>exact⟨q12,_,_,_,_,_,_,_,HC13.o,HV13.o,Or.inl hq12,HW13.o,HF13.o⟩
      ·have hlast:=HB58.o rfl
       go_wp2_with (first
        |(go_at_call 20;(with_reducible refine(zof _).mono ?_);rintro e14 w14 ⟨v14,rfl,hv14,hb14⟩;obtain⟨t14,a141,l141,k141,a142,l142,k142,rfl⟩:=hv14.iF;have HC14:=zH (HC13.o.bS hb14);have HW14:=zH (HW13.o.bw hb14);have HF14:=zH (HF13.o.tmv (TMv.of_below hb14));have HV14:=zH hv14;obtain⟨-,d0,d1,d2,f0,f1,f2⟩:=HC14.o;clear hv14 hb14))
       go_meet;case rel=>exact⟨0,_,_,_,_,_,_,_,HC14.o.set _ _ _,HV14.o.set3 HC14.o zZ zZ _ _ _,Or.inr ⟨rfl,hlast⟩,HW14.o.set3 HC14.o HSZ.o HAP.o.1 HAP.o.2.1 HAP.o.2.2.1 HAP.o.2.2.2 _ _ _,HF14.o.set3 (by have:=HSZ.o;omega) _ _ _⟩
     case rest=>
      obtain⟨q,t15,a151,l151,k151,a152,l152,k152,hC15,hv15,hq15,hW15,hF15⟩:=hcut;have HQ:=zH hq15;have HW15:=zH hW15;have HF15:=zH hF15;have hex:=hW15.ex;have hszx:=hW15.sz;(have hel1:E.length<=1000:=by rw[HL.o.el];omega);have sve:=hex.sl;obtain⟨-,d0,d1,d2,-,-,-⟩:=id hC15;obtain⟨-,c0,c1,c2,c3,f0,f1,f2,f3⟩:=id hW15.box;obtain⟨we,hwe⟩:∃w3,w3=wc:=⟨_,rfl⟩;subst hwe;clear hq15 hW15 hF15 hC15 HC13 HV13 HW13 HF13 HAP HB58
      go_upto_region 18 with(first
       |(at_builtin;refine hAF _ rfl _ _ rfl (wz.heap.size+1) _ ve E rfl hex _ _ _ q hv15 rfl hel1 hszx ?_;intro v16' w16 ho16 hg16 hn16 hq16 sv16;have hG:=HW15.o.exitG ho16 hg16 hn16 hq16 (zLS _);have hbx16:=HW15.o.box.bw hG.2 (zSS _);have HG:=zH hG;clear c0 c1 c2 c3 f0 f1 f2 f3;obtain⟨-,c0,c1,c2,c3,f0,f1,f2,f3⟩:=id hbx16;clear hG hbx16;obtain⟨an6,nn6,cn6,rfl,_⟩:=id sv16))
      have HFA:=zH ((HF15.o.low HG.o.2 zO).set ⟨wz.heap.size,3,none⟩ hw4 (.slice an6 nn6 cn6));have HWA:=zH HG.o.1;clear HG ho16 hg16 hn16 hq16 c0 c1 c2 c3 f0 f1 f2 f3 d0 d1 d2 hex hszx HW15 HF15 hv15 sve;generalize w16.setCell ⟨wz.heap.size,3,none⟩ (.slice an6 nn6 cn6)=WA at *
      go_wp2_with fail
      go_loopg [13,14] (n) (λ m u13 u14 wi=>∃ (j:Nat) (rv:Value) (row:List Rat),j<=n/\m=n-j/\u13=rv/\u14= .int .i64 j/\
       InL w bt l (wz.heap.size+1) wz.heap.size (.slice an3 nn3 cn3) (.slice an6 nn6 cn6) vr WA rv row wi/\RwL i row j)
      case atStart=>exact⟨0,_,_,zZL _,rfl,rfl,rfl,InL.start HWA.o HFA.o zO,RwL.nil _⟩
      case round=>
       obtain⟨j,rv,row,hj,hgm,rfl,rfl,hIn,hRow⟩:=hrel;have HIn:=zH hIn;have HRow:=zH hRow;have HGM:=zH hgm;(have hrl:row.length<=1000:=by rw[hRow.1];omega);clear hIn hRow hgm;by_cases hjn:j<n
       ·have j2:(j:Int)<(n:Nat):=zO
        go_upto_region 22 with(first
         |(go_at_call 20;(with_reducible refine(zof _).mono ?_);rintro e13 w13 ⟨v13,rfl,hv13,hb13⟩;obtain⟨t13,x13,y13,rfl,⟨a131,l131,k131,rfl,q131⟩,⟨a132,l132,k132,rfl,q132⟩⟩:=hv13.isF))
        have hbB:=zca w13 (.cells #[.bool t13, .slice a131 l131 k131, .slice a132 l132 k132] 38);have HI13:=zH ((HIn.o.bw hb13).bw hbB);have hv13b:=hv13.bw hbB;have hC13:=C3.new w13 38 (.bool t13) (.slice a131 l131 k131) (.slice a132 l132 k132)
        have hrb:u13.ownBlock=none\/u13.ownBlock≠some w13.heap.size:=by
         cases ho:u13.ownBlock with
         | none=>exact Or.inl rfl
         | some g=>exact Or.inr (λ e=>by injection e with e;have h1:=(HIn.o.fr.block g ho).2;have h2:=hb13.size;omega)
        have hAb:WA.heap.size<=w13.heap.size:=zLT HIn.o.mv.size hb13.size;have HV13:=zH (zAI hv13b hC13);clear hv13 hv13b hC13 hb13 hbB HIn;generalize w13.alloc (.cells #[.bool t13, .slice a131 l131 k131, .slice a132 l132 k132] 38)=WB at *
        obtain⟨aT,hTB⟩:=HI13.o.tp;have hTA:=hTB.1
        go_cut [85] (λ u85 wx=>∃b,u85= .bool b/\(j=i+1->b=true)/\(j=i->b=false)/\InL w bt l (wz.heap.size+1) wz.heap.size (.slice an3 nn3 cn3) (.slice an6 nn6 cn6) vr WA u13 row wx/\
         C3 wx w13.heap.size (.bool t13) (.slice a131 l131 k131) (.slice a132 l132 k132)/\zia wx (.agg #[.bool t13, .slice a131 l131 k131, .slice a132 l132 k132]) 0)
        case first =>
         by_cases hA:j=i+1
         ·(have hdA:((j:Int)==(i:Int)+1)=true:=by simp;omega);go_wp2_with fail;go_meet;case rel=>exact⟨_,rfl,λ _=>rfl,λ h=>zO,HI13.o,HV13.o.2,HV13.o.1⟩
         ·(have hdA:((j:Int)==(i:Int)+1)=false:=by simp;omega);by_cases hB:j=i
          ·(have hdB:((j:Int) != (i:Int))=false:=by simp[hB]);clear hB;go_wp2_with fail;go_meet;case rel=>exact⟨_,rfl,λ h=>absurd h hA,λ _=>rfl,HI13.o,HV13.o.2,HV13.o.1⟩
          ·(have hdB:((j:Int) != (i:Int))=true:=by simp;omega);go_wp2_with (go_at_call 107;(with_reducible refine(zjl bt l _ 3 3 _ rfl hTA zD zD).mono ?_);rintro e14 w14 ⟨x14,a14,rfl,hx14,hT14,hk14⟩);go_meet;case rel=>exact⟨_,rfl,λ h=>absurd h hA,λ h=>absurd h hB,HI13.o.tmv hk14 hT14,HV13.o.2.tmv hk14 zZ zZ zZ,HV13.o.1.tmv hk14⟩
        case rest=>
         obtain⟨b85,rfl,hb1,hb2,hI14,hC14,hv14⟩:=hcut;have HI14:=zH hI14;have HV14:=zH (zAI hv14 hC14);have HBB:=zH (zAI hb1 hb2);obtain⟨aU,hTU⟩:=HI14.o.tp;have hTU:=hTU.1;clear hI14 hv14 hC14 hTB HI13 HV13 hb1 hb2 hTA;go_upto_if 85 with fail
         go_cut [] (λ wx=>∃ (q:Rat) (t':Bool) (a1:Option Addr) (l1 k1:Nat) (a2:Option Addr) (l2 k2:Nat),C3 wx w13.heap.size (.bool t') (.slice a1 l1 k1) (.slice a2 l2 k2)/\zia wx (.agg #[.bool t', .slice a1 l1 k1, .slice a2 l2 k2]) q/\(j=i+1->tfQ q)/\(j=i->q=0)/\(tfQ q\/q=0)/\
          InL w bt l (wz.heap.size+1) wz.heap.size (.slice an3 nn3 cn3) (.slice an6 nn6 cn6) vr WA u13 row wx)
         case first =>
          cases b85
          ·go_wp2_with fail;go_meet;case rel=>exact⟨0,_,_,_,_,_,_,_,HV14.o.2,HV14.o.1,λ h=>absurd (HBB.o.1 h) (by simp),λ _=>rfl,Or.inr rfl,HI14.o⟩
          ·go_wp2_with (first
            |(go_at_call 123;(with_reducible refine(tfrac_any bt _ l _ hTU).mono ?_);rintro e15 w15 ⟨v15,q15,a15,rfl,hv15,hq15,hT15,hm15⟩;obtain⟨t17,a171,l171,k171,a172,l172,k172,rfl⟩:=hv15.iF;have HC17:=zH (HV14.o.2.tmv hm15 zZ zZ zZ);have HI17:=zH (HI14.o.tmv hm15 hT15);have HV17:=zH hv15;obtain⟨-,d0,d1,d2,d3,d4,d5⟩:=HC17.o;clear hv15 hm15))
           go_meet;case rel=>exact⟨q15,_,_,_,_,_,_,_,HC17.o.set _ _ _,HV17.o.set3 HC17.o zZ zZ _ _ _,λ _=>hq15,λ h=>absurd (HBB.o.2 h) (by simp),Or.inl hq15,HI17.o.set3 HC17.o ⟨_,_,_,rfl,q131⟩ ⟨_,_,_,rfl,q132⟩ hAb hrb _ _ _⟩
         case rest=>
          obtain⟨q,t18,a181,l181,k181,a182,l182,k182,hC18,hv18,hq1,hq2,hq3,hI18⟩:=hcut;have HI18:=zH hI18;have HQ2:=zH (zAI hq1 (zAI hq2 hq3));have hfr:=hI18.fr;have s11:=hfr.sl;have hbs:=hI18.mv.size;obtain⟨-,d0,d1,d2,-,-,-⟩:=id hC18;clear hq1 hq2 hq3 hC18 hI18
          go_wp2_with (first
           |(at_builtin;refine hAF _ rfl _ _ rfl WA.heap.size _ u13 row rfl hfr _ _ _ q hv18 rfl hrl hbs ?_;intro v4' w20 ho20 hg20 hn20 hq20 sv20;have HI20:=zH (HI18.o.grow ho20 hg20 hn20)))
          go_roundg (n- (j+1));(case measure=>(have:=HGM.o;omega));case rel=>exact⟨j+1,_,_,zO,rfl,rfl,by go_num,HI20.o,HRow.o.snoc HQ2.o.1 HQ2.o.2.1 HQ2.o.2.2⟩
       ·obtain rfl:n=j:=zO;obtain⟨hl1,hl2,hl3,hl4⟩:=HIn.o.lwt HWA.o;obtain⟨a11,l11,k11,rfl,_⟩:=hl2.sl;have HLL:=zH (zAI hl1 (zAI hl2 (zAI hl3 hl4)));have HFW:=zH HIn.o.fm;have hra:=hl1.ra;have hrasl:=hra.sl;have hszw:=hl1.sz;(have hrs1:rs.length<=1000:=by rw[hl1.rl,HL.o.rl];omega);obtain⟨-,c0,c1,c2,c3,f0,f1,f2,f3⟩:=id hl1.box;clear hl1 hl2 hl3 hl4
        go_wp2_with (first
         |(at_builtin;refine hAR _ rfl _ _ rfl (wz.heap.size+1) _ vr rs rfl hra (.slice a11 l11 k11) rfl zZ rfl hrs1 hszw ?_;intro v5' w21 ho21 hg21 hn21 hq21 sv21;have hG:=HLL.o.1.ratesG HLL.o.2.1 HLL.o.2.2.1 HLL.o.2.2.2 ho21 hg21 hn21;have hbx21:=HLL.o.1.box.bw hG.2 (zSS _);have HG:=zH hG;clear c0 c1 c2 c3 f0 f1 f2 f3;obtain⟨-,c0,c1,c2,c3,f0,f1,f2,f3⟩:=id hbx21;clear hG hbx21;obtain⟨an5,nn5,cn5,rfl,_⟩:=id sv21))
        have HF21:=zH ((HFW.o.low HG.o.2 zO).set ⟨wz.heap.size,2,none⟩ hw4 (.slice an5 nn5 cn5));have HSUB:zI (((left:Nat):Int)- (k:Nat)=((left-k:Nat):Int)):=zH zO;have HROW:=zH HRow.o;go_roundg (n- (i+1));(case measure=>(have:=HGK.o;omega));case rel=>exact⟨i+1,left-k,_,_,_,_,_,_,_,zO,rfl,congrArg (Value.int .i64) HSUB.o,by go_num,HG.o.1,HL.o.step hkl HK.o HQ.o HROW.o,HF21.o⟩
  ·obtain rfl:n=i:=zO;have hl:=HL.o;have h0:=hl.lf rfl;subst h0;obtain⟨ar,lr,kr,rfl,_⟩:=id HW.o.ra.sl;obtain⟨as',ls,ks,rfl,_⟩:=id HW.o.st.sl;obtain⟨ae,le,ke,rfl,_⟩:=id HW.o.ex.sl;obtain⟨-,c0,c1,c2,c3,-,-,-,-⟩:=id HW.o.box;obtain⟨-,d0,d1,d2,d3,f0,f1,f2,f3⟩:=id HF.o.1;have HLT2:=zH hl;clear hl;go_wp2_with fail;refine zvj rfl rfl Tryz.aggL Tryz.sizeL (HF.o.1.set _ _ _ _) rfl ?_;have hw:=HW.o.set4 HF.o.1 (show w.heap.size<wz.heap.size+1 by omega) (by have:=HLT.o;omega) zO (.string { data:=#[] }) (.slice as' ls ks) (.slice ar lr kr) (.slice ae le ke);obtain⟨a9,ht9⟩:=hw.tape;exact⟨_,⟨S,E,R⟩,a9,rfl,hw.lawN zO,⟨n,HNN.o.1,HNN.o.2,HLT2.o⟩,ht9.1,(((HF.o.2.set (zLR _) _).set (zLR _) _).set (zLR _) _).set (zLR _) _⟩
theorem zgd.slices2 {w:World} {v:Value} {l:LQ} (h:zgd w v l):∃sa sn sk ra rn rk ea en ek,v= .agg #[.string { data:=#[] }, .slice sa sn sk, .slice ra rn rk, .slice ea en ek]:=by
 obtain⟨sv,rv,ev,rfl,hs,hr,he⟩:=h;obtain⟨ra,rn,rk,rfl,_⟩:=id hr.sl;obtain⟨sa,sn,sk,rfl,_⟩:=id hs.sl;obtain⟨ea,en,ek,rfl,_⟩:=id he.sl;exact⟨sa,sn,sk,ra,rn,rk,ea,en,ek,rfl⟩
end Go.Proofs.YtlpdkbmmbdfoiaaGreat
