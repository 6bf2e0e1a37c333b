/-
  package drydocklaw20: awake.
-/
import Derived.Test.YtlpdkbmmbdfoiaaGPh15
import Derived.Test.YtlpdkbmmbdfoiaaGPh16
import Derived.Test.YtlpdkbmmbdfoiaaGPp4
import Derived.Test.YtlpdkbmmbdfoiaaGPp6
import Derived.Test.YtlpdkbmmbdfoiaaGMk1
set_option linter.unusedVariables false
set_option linter.unusedSimpArgs false
namespace Go.Proofs.Ytlpdkbmmbdfoiaa
open Go.RowKit
def law1 :LQ:=zho 1 1
def zil :LQ:=zho 1 2
theorem lim2 :zvg 2:=⟨by decide+kernel,by decide+kernel,by decide+kernel⟩
theorem law1_p :zxb law1:=erl_law (by decide) (by decide) limQ_one (by decide+kernel)
theorem law2_p :zxb zil:=erl_law (by decide) (by decide) lim2 (by decide+kernel)
theorem over12 :over 1 2 2:=⟨2,by decide+kernel,by decide⟩
theorem law1_s :SmL 1 2 law1:=erl_sm (by decide) (zeg.mono (by decide))
theorem law2_s :SmL 1 2 zil:=erl_sm (by decide) over12
theorem law2_m :MomP zil 1 1:=(zto law2_p law2_s (by decide) (by decide) (by decide) (by decide) (DS:=1) (by decide) (by decide) (fun i _=>zml (by decide) i)).1
theorem law12_n :bfN law1 zil=1:=by decide
theorem law12_b :BefP law1 zil:=zyp law1_p law2_p law1_s law2_s (by decide) (by decide) (by decide) (by decide) (by rw[law12_n];decide) (DS:=1) (by decide) (by decide) (fun r _=>by
 unfold bfS
 have h:=over.mul (zml (q:=1) (n:=1) (by decide) (r/zil.start.length)) (zml (q:=2) (n:=1) (by decide) (r%zil.start.length))
 have e1:stQ law1 (r/zil.start.length)=0∨stQ law1 (r/zil.start.length)=1:=by
  have:=erl_st (q:=1) (n:=1) (by decide) (r/zil.start.length)
  unfold law1
  rw[this]
  split
  ·exact Or.inr rfl
  ·exact Or.inl rfl
 have e2:stQ zil (r%zil.start.length)=0∨stQ zil (r%zil.start.length)=1:=by
  have:=erl_st (q:=2) (n:=1) (by decide) (r%zil.start.length)
  rw[show stQ zil=stQ (zho 1 2)from rfl,this]
  split
  ·exact Or.inr rfl
  ·exact Or.inl rfl
 rcases e1 with e1 | e1<;>rcases e2 with e2 | e2<;>rw[e1,e2]
 ·rw[Rat.zero_mul];exact over.zero _ _
 ·rw[Rat.zero_mul];exact over.zero _ _
 ·rw[Rat.mul_zero];exact over.zero _ _
 ·rw[Rat.mul_one];exact zeg.mono (by decide))
theorem law2_q :zfo zil 1=mkRat 1 2:=by decide+kernel
theorem law12_q :befQ law1 zil=mkRat 1 3:=by decide+kernel
theorem pexp_one (va:Value) (w:World) (ha:zqa w va 1):Calls Try.prog 35 #[va] w (fun e w'=>∃v,e= .returned (.tuple #[v, .int .i64 0])∧zgm w' v law1∧Below w.heap.size w w'):=by
 refine(zig va _ _ _ w ha.raw).mono ?_
 rintro e w' ⟨v,er,rfl,hb,_,_,h⟩
 obtain⟨rfl,h2⟩:=h (by decide) (by decide+kernel)
 have h3:=h2.lawE
 rw[zvb]at h3
 exact⟨v,rfl,h3,hb⟩
theorem pexp_two (va:Value) (w:World) (ha:zqa w va 2):Calls Try.prog 35 #[va] w (fun e w'=>∃v,e= .returned (.tuple #[v, .int .i64 0])∧zgm w' v zil∧Below w.heap.size w w'):=by
 refine(zig va _ _ _ w ha.raw).mono ?_
 rintro e w' ⟨v,er,rfl,hb,_,_,h⟩
 obtain⟨rfl,h2⟩:=h (by decide) (by decide+kernel)
 have h3:=h2.lawE
 rw[zvb]at h3
 exact⟨v,rfl,h3,hb⟩
theorem pmean_two (va:Value) (w:World) (ha:zhm w va zil):Calls Try.prog 7 #[va] w (RF0 w (mkRat 1 2)):=by
 rw[←law2_q]
 exact zep va zil w ha law2_p law2_m
theorem pbefore_12 (va vb:Value) (w:World) (ha:zhm w va law1) (hb:zhm w vb zil):Calls Try.prog 8 #[va,vb] w (RF0 w (mkRat 1 3)):=by
 rw[←law12_q]
 exact zof va vb law1 zil w ha hb law1_p law2_p law12_b
theorem r2int_2a (w:World):Calls Try.prog 6 #[.int .i64 2] w (RF1 w 2):=by
 have h:=zdp 2 w (by decide)
 have e:fq false 2 1=2:=by decide+kernel
 rw[e]at h
 exact h
theorem zfp (a b:Nat) (y z:Int) (w:World) (hy:y=(a:Int)) (hz:z=(b:Int)) (ha:a<4294967296) (hb:b<4294967296) (hb0:b≠0):
 Calls Try.prog 15 #[.int .i64 y, .int .i64 z] w (RF0 w (fq false a b)):=by subst hy;subst hz;exact zgf a b w ha hb hb0
theorem zmm (w:World):Calls Try.prog 15 #[.int .i64 1, .int .i64 2] w (RF0 w (mkRat 1 2)):=zfp 1 2 1 2 w rfl rfl (by decide) (by decide) (by decide)
theorem r2make_13a (w:World):Calls Try.prog 15 #[.int .i64 1, .int .i64 3] w (RF0 w (mkRat 1 3)):=zfp 1 3 1 3 w rfl rfl (by decide) (by decide) (by decide)
theorem zgm.parts2 {w:World} {v:Value} {q:Rat} (h:zgm w v (zho 1 q)):∃sa sk ra rk ea ek,v= .agg #[.string { data:=#[] }, .slice sa 1 sk, .slice ra 1 rk, .slice ea 1 ek]∧True:=by
 obtain⟨sv,rv,ev,rfl,hs,hr,he⟩:=h
 obtain⟨ra,rn,rk,rfl,_⟩:=id hr.sl
 obtain⟨sa,sn,sk,rfl,_⟩:=id hs.sl
 obtain⟨ea,en,ek,rfl,_⟩:=id he.sl
 have hsn:sn=1:=hs.len
 have hrn:rn=1:=hr.len
 have hen:en=1:=he.len
 subst hsn hrn hen
 exact⟨sa,sk,ra,rk,ea,ek,rfl,trivial⟩
set_option maxRecDepth 100000 in
set_option maxHeartbeats 6400000 in
theorem awake20_any (w:World):Calls Try.prog 12 #[] w (fun e w'=>e= .returned (.bool true)∧Below w.heap.size w w'):=by
 have HB:=zH (Below.refl w.heap.size w)
 have HZM:Hid (∀w0,Calls Try.prog 7 #[.agg #[.string { data:=#[] }, .slice none 0 0, .slice none 0 0, .slice none 0 0]] w0 (fun e w'=>e= .returned (.tuple #[.agg #[.bool false, .slice none 0 0, .slice none 0 0], .int .i64 1])∧Below w0.heap.size w0 w')):=zH (fun w0=>pmean_zero w0)
 go_enter Try.func12,Try.ntmps12
 go_upto_region 2 with(first
  |(go_at_call 6;(with_reducible refine(r2int_one _).mono ?_);rintro e9 w9 ⟨v9,rfl,hv9,hb9⟩
    obtain⟨t9,x9,y9,rfl,⟨a91,l91,k91,rfl,_⟩,⟨a92,l92,k92,rfl,_⟩⟩:=hv9.isF
    replace HB:=zH (zaa HB.out hb9))
  |(go_at_call 35;(with_reducible refine(pexp_one _ _ hv9).mono ?_);rintro e1 w1 ⟨v1,rfl,hv1,hb1⟩
    clear hv9 hb9
    obtain⟨sa1,sk1,ra1,rk1,ea1,ek1,rfl,_⟩:=hv1.parts2
    have hba:=zca w1 (.cells #[.string { data:=#[] }, .slice sa1 1 sk1, .slice ra1 1 rk1, .slice ea1 1 ek1] 26)
    have hbb:=zaa hb1 hba
    have HC1:=zH (C4.new w1 26 (.string { data:=#[] }) (.slice sa1 1 sk1) (.slice ra1 1 rk1) (.slice ea1 1 ek1))
    have HF1:=zH (hv1.below hba)
    replace HB:=zH (zaa HB.out hbb)
    clear hv1 hb1 hba hbb))
 obtain⟨b1,hb1⟩:∃b,w1.heap.size=b:=⟨_,rfl⟩
 rw[hb1]at HC1 ⊢
 clear hb1
 generalize w1.alloc (.cells #[.string { data:=#[] }, .slice sa1 1 sk1, .slice ra1 1 rk1, .slice ea1 1 ek1] 26)=W1 at *
 go_upto_region 3 with(first
  |(go_at_call 6;(with_reducible refine(r2int_2a _).mono ?_);rintro e9 w9 ⟨v9,rfl,hv9,hb9⟩
    obtain⟨t9,x9,y9,rfl,⟨a91,l91,k91,rfl,_⟩,⟨a92,l92,k92,rfl,_⟩⟩:=hv9.isF
    replace HB:=zH (zaa HB.out hb9);replace HC1:=zH (HC1.out.belowS hb9);replace HF1:=zH (HF1.out.below hb9))
  |(go_at_call 35;(with_reducible refine(pexp_two _ _ hv9).mono ?_);rintro e2 w2 ⟨v2,rfl,hv2,hb2⟩
    clear hv9 hb9
    obtain⟨sa2,sk2,ra2,rk2,ea2,ek2,rfl,_⟩:=hv2.parts2
    have hba:=zca w2 (.cells #[.string { data:=#[] }, .slice sa2 1 sk2, .slice ra2 1 rk2, .slice ea2 1 ek2] 26)
    have hbb:=zaa hb2 hba
    have HC2:=zH (C4.new w2 26 (.string { data:=#[] }) (.slice sa2 1 sk2) (.slice ra2 1 rk2) (.slice ea2 1 ek2))
    have HF2:=zH (hv2.below hba)
    replace HB:=zH (zaa HB.out hbb);replace HC1:=zH (HC1.out.belowS hbb);replace HF1:=zH (HF1.out.below hbb)
    clear hv2 hb2 hba hbb))
 obtain⟨b2,hb2⟩:∃b,w2.heap.size=b:=⟨_,rfl⟩
 rw[hb2]at HC2 ⊢
 clear hb2
 generalize w2.alloc (.cells #[.string { data:=#[] }, .slice sa2 1 sk2, .slice ra2 1 rk2, .slice ea2 1 ek2] 26)=W2 at *
 obtain⟨-,c0,c1,c2,c3,-,-,-,-⟩:=HC2.out
 go_upto_region 4 with(first
  |(go_at_call 7;(with_reducible refine(pmean_two _ _ HF2.out.lawC).mono ?_);rintro e3 w3 ⟨v3,rfl,hv3,hb3⟩
    clear c0 c1 c2 c3
    obtain⟨t3,x3,y3,rfl,⟨a31,l31,k31,rfl,_⟩,⟨a32,l32,k32,rfl,_⟩⟩:=hv3.isF
    have hba:=zca w3 (.cells #[.bool t3, .slice a31 l31 k31, .slice a32 l32 k32] 32)
    have hbb:=zaa hb3 hba
    have HC3:=zH (C3.new w3 32 (.bool t3) (.slice a31 l31 k31) (.slice a32 l32 k32))
    have HF3:=zH (hv3.below hba)
    replace HB:=zH (zaa HB.out hbb);replace HC1:=zH (HC1.out.belowS hbb);replace HF1:=zH (HF1.out.below hbb);replace HC2:=zH (HC2.out.belowS hbb);replace HF2:=zH (HF2.out.below hbb)
    clear hv3 hb3 hba hbb))
 obtain⟨b3,hb3⟩:∃b,w3.heap.size=b:=⟨_,rfl⟩
 rw[hb3]at HC3 ⊢
 clear hb3
 generalize w3.alloc (.cells #[.bool t3, .slice a31 l31 k31, .slice a32 l32 k32] 32)=W3 at *
 obtain⟨-,c0,c1,c2,c3,-,-,-,-⟩:=HC1.out
 obtain⟨-,d0,d1,d2,d3,-,-,-,-⟩:=HC2.out
 go_upto_region 5 with(first
  |(go_at_call 8;(with_reducible refine(pbefore_12 _ _ _ HF1.out.lawC HF2.out.lawC).mono ?_);rintro e4 w4 ⟨v4,rfl,hv4,hb4⟩
    clear c0 c1 c2 c3 d0 d1 d2 d3
    obtain⟨t4,x4,y4,rfl,⟨a41,l41,k41,rfl,_⟩,⟨a42,l42,k42,rfl,_⟩⟩:=hv4.isF
    have hba:=zca w4 (.cells #[.bool t4, .slice a41 l41 k41, .slice a42 l42 k42] 32)
    have hbb:=zaa hb4 hba
    have HC4:=zH (C3.new w4 32 (.bool t4) (.slice a41 l41 k41) (.slice a42 l42 k42))
    have HF4:=zH (hv4.below hba)
    replace HB:=zH (zaa HB.out hbb);replace HC3:=zH (HC3.out.belowS hbb);replace HF3:=zH (HF3.out.below hbb)
    clear hv4 hb4 hba hbb))
 obtain⟨b4,hb4⟩:∃b,w4.heap.size=b:=⟨_,rfl⟩
 rw[hb4]at HC4 ⊢
 clear hb4
 generalize w4.alloc (.cells #[.bool t4, .slice a41 l41 k41, .slice a42 l42 k42] 32)=W4 at *
 clear HC1 HF1 HC2 HF2
 go_upto_region 6 with(first
  |(go_at_call 7;(with_reducible refine(HZM.out _).mono ?_);rintro e6 w6 ⟨rfl,hb6⟩
    have hba:=zca w6 (.cells #[.bool false, .slice none 0 0, .slice none 0 0] 32)
    have hbb:=zaa hb6 hba
    replace HB:=zH (zaa HB.out hbb);replace HC3:=zH (HC3.out.belowS hbb);replace HF3:=zH (HF3.out.below hbb);replace HC4:=zH (HC4.out.belowS hbb);replace HF4:=zH (HF4.out.below hbb)
    clear hb6 hba hbb))
 generalize w6.alloc (.cells #[.bool false, .slice none 0 0, .slice none 0 0] 32)=W6 at *
 go_upto_region 7 with(first
  |(go_at_call 15;(with_reducible refine(zmm _).mono ?_);rintro e5 w5 ⟨v5,rfl,hv5,hb5⟩
    obtain⟨t5,x5,y5,rfl,⟨a51,l51,k51,rfl,_⟩,⟨a52,l52,k52,rfl,_⟩⟩:=hv5.isF
    have hba:=zca w5 (.cells #[.bool t5, .slice a51 l51 k51, .slice a52 l52 k52] 32)
    have hbb:=zaa hb5 hba
    have HC5:=zH (C3.new w5 32 (.bool t5) (.slice a51 l51 k51) (.slice a52 l52 k52))
    have HF5:=zH (hv5.below hba)
    replace HB:=zH (zaa HB.out hbb);replace HC3:=zH (HC3.out.belowS hbb);replace HF3:=zH (HF3.out.below hbb);replace HC4:=zH (HC4.out.belowS hbb);replace HF4:=zH (HF4.out.below hbb)
    clear hv5 hb5 hba hbb))
 obtain⟨b5,hb5⟩:∃b,w5.heap.size=b:=⟨_,rfl⟩
 rw[hb5]at HC5 ⊢
 clear hb5
 generalize w5.alloc (.cells #[.bool t5, .slice a51 l51 k51, .slice a52 l52 k52] 32)=W5 at *
 go_upto_region 8 with(first
  |(go_at_call 15;(with_reducible refine(r2make_13a _).mono ?_);rintro e7 w7 ⟨v7,rfl,hv7,hb7⟩
    obtain⟨t7,x7,y7,rfl,⟨a71,l71,k71,rfl,_⟩,⟨a72,l72,k72,rfl,_⟩⟩:=hv7.isF
    have hba:=zca w7 (.cells #[.bool t7, .slice a71 l71 k71, .slice a72 l72 k72] 32)
    have hbb:=zaa hb7 hba
    have HC7:=zH (C3.new w7 32 (.bool t7) (.slice a71 l71 k71) (.slice a72 l72 k72))
    have HF7:=zH (hv7.below hba)
    replace HB:=zH (zaa HB.out hbb);replace HC3:=zH (HC3.out.belowS hbb);replace HF3:=zH (HF3.out.below hbb);replace HC4:=zH (HC4.out.belowS hbb);replace HF4:=zH (HF4.out.below hbb);replace HC5:=zH (HC5.out.belowS hbb);replace HF5:=zH (HF5.out.below hbb)
    clear hv7 hb7 hba hbb))
 obtain⟨b7,hb7⟩:∃b,w7.heap.size=b:=⟨_,rfl⟩
 rw[hb7]at HC7 ⊢
 clear hb7
 generalize w7.alloc (.cells #[.bool t7, .slice a71 l71 k71, .slice a72 l72 k72] 32)=W7 at *
 obtain⟨-,c0,c1,c2,-,-,-⟩:=HC3.out
 obtain⟨-,d0,d1,d2,-,-,-⟩:=HC5.out
 obtain⟨-,p0,p1,p2,-,-,-⟩:=HC4.out
 obtain⟨-,q0,q1,q2,-,-,-⟩:=HC7.out
 go_wp2_with (first
  |(go_at_call 18;(with_reducible refine(same_frac _ _ (mkRat 1 2) (mkRat 1 2) _ HF3.out HF5.out).mono ?_);rintro e10 w10 ⟨⟨z10,rfl,hz10⟩,hb10⟩;obtain rfl:z10=true:=hz10.2 rfl
    clear hz10 c0 c1 c2 d0 d1 d2 p0 p1 p2 q0 q1 q2
    replace HB:=zH (zaa HB.out hb10);replace HC4:=zH (HC4.out.belowS hb10);replace HF4:=zH (HF4.out.below hb10);replace HC7:=zH (HC7.out.belowS hb10);replace HF7:=zH (HF7.out.below hb10)
    obtain⟨-,p0,p1,p2,-,-,-⟩:=HC4.out
    obtain⟨-,q0,q1,q2,-,-,-⟩:=HC7.out
    clear hb10)
  |(go_at_call 18;(with_reducible refine(same_frac _ _ (mkRat 1 3) (mkRat 1 3) _ HF4.out HF7.out).mono ?_);rintro e11 w11 ⟨⟨z11,rfl,hz11⟩,hb11⟩;obtain rfl:z11=true:=hz11.2 rfl
    clear hz11 p0 p1 p2 q0 q1 q2
    replace HB:=zH (zaa HB.out hb11)
    clear hb11))
 go_ret
 exact⟨rfl,HB.out⟩
end Go.Proofs.Ytlpdkbmmbdfoiaa
