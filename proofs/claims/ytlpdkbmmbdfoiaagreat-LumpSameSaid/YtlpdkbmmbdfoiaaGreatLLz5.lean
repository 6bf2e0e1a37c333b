/-
  package drydocklaw22: LumpSame, the walk.
-/
import Derived.Test.YtlpdkbmmbdfoiaaGreatLLz4
import Derived.Test.YtlpdkbmmbdfoiaaGreatLAw1
import Derived.Test.YtlpdkbmmbdfoiaaGreatLRr8
import Derived.Test.YtlpdkbmmbdfoiaaGreatLLu7
import Derived.Test.YtlpdkbmmbdfoiaaGreatLLu11
import Derived.Test.YtlpdkbmmbdfoiaaGreatLOuw
set_option linter.unusedVariables false
set_option linter.unusedSimpArgs false
namespace Go.Proofs.YtlpdkbmmbdfoiaaGreat
open Go.RowKit
set_option maxRecDepth 100000 in
set_option maxHeartbeats 12800000 in
theorem same_any (v:Value) (l:List Nat) (x:Nat) (w:World) (h:zhc w v (bytes l)) (hb:∀x∈l,x<256) (hx:x<256):
 Calls Tryz.prog 14 #[v, .int .u8 (x:Nat)] w (fun e w'=>e= .returned (.bool true)∧Below w.heap.size w w'):=by
 have HX:=zH hx
 have HB0:=zH (Below.refl w.heap.size w)
 go_enter Tryz.func14,Tryz.ntmps14
 go_upto_region 2 with(first
  |(go_at_call 15;(with_reducible refine(read_any v l _ h hb).mono ?_);rintro e1 w1 ⟨v1,vo,c,of,share,rfl,h1,hof1,ht,hcp,hb1⟩
    have HT:=zH ht
    have HCP:=zH hcp
    clear hof1 ht hcp
    obtain⟨rv1,sv1,lv1,rfl,hr1,hs1,hl1⟩:=id h1
    obtain⟨ra1,rn1,rk1,rfl,_⟩:=id hr1.sl
    obtain⟨sa1,sn1,sk1,rfl,_⟩:=id hs1.sl
    obtain⟨la1,ln1,lk1,rfl,_⟩:=id (zhc.sl hl1)
    have hba:=zca w1 (.cells #[.slice ra1 rn1 rk1, .slice sa1 sn1 sk1, .slice la1 ln1 lk1] 28)
    have hbb:=zaa hb1 hba
    have HC1:=zH (C3.new w1 28 (.slice ra1 rn1 rk1) (.slice sa1 sn1 sk1) (.slice la1 ln1 lk1))
    have HQ1:=zH (h1.below hba)
    clear h hb hx
    replace HB0:=zH (zaa HB0.out hbb)
    clear hr1 hs1 hl1 h1 hb1 hba hbb))
 obtain⟨b1,hb1⟩:∃b,w1.heap.size=b:=⟨_,rfl⟩
 rw[hb1]at HC1 ⊢
 clear hb1
 generalize w1.alloc (.cells #[.slice ra1 rn1 rk1, .slice sa1 sn1 sk1, .slice la1 ln1 lk1] 28)=W1 at *
 have HV:=zH (zcz HT.out HCP.out)
 obtain⟨_,c0,c1,c2,_,_,_⟩:=HC1.out
 go_upto_region 3 with(first
  |(go_at_call 60;(with_reducible refine(zgy _ (zxw c of share).raw _ HQ1.out.raw).mono ?_);rintro e3 w3 ⟨_,hg3,hb3⟩;obtain⟨v3,nx,rfl,hN3,hco⟩:=hg3 HV.out;clear hg3
    have HCO:=zH hco
    have HN3:=zH hN3
    have s3:=zhc.sl hN3
    clear c0 c1 c2
    replace HB0:=zH (zaa HB0.out hb3);replace HC1:=zH (HC1.out.belowS hb3);replace HQ1:=zH (HQ1.out.below hb3)
    clear hco hN3 hb3))
 obtain⟨hck,hqv,hlen,L,ρ,s1,a1,z1,s2,a2,z2,e2,hF⟩:=same_law HT.out HCP.out HCO.out (x%4) (by omega)
 have HCK:=zH hck
 have HQV:=zH hqv
 have emm:(((x%4:Nat)):Int)=((x:Nat):Int)%4:=by omega
 obtain⟨VV,hVV⟩:∃VV,itV (zxw c of share).raw ρ (x%4)=VV:=⟨_,rfl⟩
 obtain⟨SS,hSS⟩:∃SS,ztw nx VV (cnt nx)=SS:=⟨_,rfl⟩
 have HAC:Hid (∀w va vx,zlq w va (zxw c of share)→zqa w vx ρ→Calls Tryz.prog 48 #[va,vx, .int .i64 (((x:Nat):Int)%4)] w (fun e w'=>∃v,e= .returned (.tuple #[v, .int .i64 0])∧zbb w' v VV∧Below w.heap.size w w')):=zH (by
  have k:=hF.ac
  rw[emm,hVV]at k
  exact k)
 have HAQ:Hid (∀w va vx,zlq w va (quo (zxw c of share).raw nx)→zqa w vx ρ→Calls Tryz.prog 48 #[va,vx, .int .i64 (((x:Nat):Int)%4)] w (fun e w'=>∃v,e= .returned (.tuple #[v, .int .i64 0])∧zbb w' v SS∧Below w.heap.size w w')):=zH (by
  have k:=hF.aq
  rw[emm,hVV,hSS]at k
  exact k)
 have HSM:Hid (∀w va vb,zbb w va VV→zgv w vb nx→Calls Tryz.prog 21 #[va,vb] w (fun e w'=>∃v,e= .returned (.tuple #[v, .int .i64 0])∧zbb w' v SS∧Below w.heap.size w w')):=zH (by
  have k:=hF.sm
  rw[hVV,hSS]at k
  exact k)
 have HF:=zH hF
 clear hck hqv hlen emm hVV hSS hF
 obtain⟨_,c0,c1,c2,_,_,_⟩:=HC1.out
 go_upto_region 4 with(first
  |(go_at_call 16;(with_reducible refine(quo_any _ _ (zxw c of share).raw nx _ HQ1.out.raw HN3.out).mono ?_);rintro e2' w2 ⟨v2,er2,rfl,hb2,_,hok2,_⟩
    obtain⟨rfl,h2⟩:=hok2 HCK.out HQV.out
    clear hok2
    obtain⟨rv2,sv2,lv2,rfl,hr2,hs2,hl2⟩:=id h2
    obtain⟨ra2,rn2,rk2,rfl,_⟩:=id hr2.sl
    obtain⟨sa2,sn2,sk2,rfl,_⟩:=id hs2.sl
    obtain⟨la2,ln2,lk2,rfl,_⟩:=id (zhc.sl hl2)
    have hba:=zca w2 (.cells #[.slice ra2 rn2 rk2, .slice sa2 sn2 sk2, .slice la2 ln2 lk2] 28)
    have hbb:=zaa hb2 hba
    have HC2:=zH (C3.new w2 28 (.slice ra2 rn2 rk2) (.slice sa2 sn2 sk2) (.slice la2 ln2 lk2))
    have HQ2:=zH (h2.below hba)
    clear c0 c1 c2
    replace HB0:=zH (zaa HB0.out hbb);replace HC1:=zH (HC1.out.belowS hbb);replace HQ1:=zH (HQ1.out.below hbb);replace HN3:=zH (HN3.out.below hbb)
    clear hr2 hs2 hl2 h2 hb2 hba hbb))
 obtain⟨b2,hb2⟩:∃b,w2.heap.size=b:=⟨_,rfl⟩
 rw[hb2]at HC2 ⊢
 clear hb2
 generalize w2.alloc (.cells #[.slice ra2 rn2 rk2, .slice sa2 sn2 sk2, .slice la2 ln2 lk2] 28)=W2 at *
 clear HV HCK HQV HT HCP HCO
 obtain⟨Q1,hQ1⟩:∃Q1,zxw c of share=Q1:=⟨_,rfl⟩
 rw[hQ1]at HQ1 HQ2 HF HAC HAQ
 clear hQ1
 obtain⟨Q2,hQ2⟩:∃Q2,quo Q1.raw nx=Q2:=⟨_,rfl⟩
 rw[hQ2]at HQ2 HF HAQ
 clear hQ2
 obtain⟨_,c0,c1,c2,_,_,_⟩:=HC1.out
 go_upto_region 7 with(first
  |(go_at_call 43;(with_reducible refine(HF.out.hc _ _ HQ1.out).mono ?_);rintro e4 w4 ⟨v4,rfl,hv4,hb4⟩
    obtain⟨a41,l41,k41,a42,l42,k42,rfl,hx4,hy4⟩:=id hv4
    obtain⟨_,_,_,he4,_⟩:=id hx4.sl
    have hba:=zca w4 (.cells #[.bool s1, .slice a41 l41 k41, .slice a42 l42 k42] 38)
    have hbb:=zaa hb4 hba
    have HC4:=zH (C3.new w4 38 (.bool s1) (.slice a41 l41 k41) (.slice a42 l42 k42))
    have HF4:=zH (hv4.below hba)
    clear c0 c1 c2
    replace HB0:=zH (zaa HB0.out hbb);replace HC1:=zH (HC1.out.belowS hbb);replace HQ1:=zH (HQ1.out.below hbb);replace HN3:=zH (HN3.out.below hbb);replace HC2:=zH (HC2.out.belowS hbb);replace HQ2:=zH (HQ2.out.below hbb)
    clear hv4 hb4 hba hbb hx4 hy4 he4))
 obtain⟨b4,hb4⟩:∃b,w4.heap.size=b:=⟨_,rfl⟩
 rw[hb4]at HC4 ⊢
 clear hb4
 generalize w4.alloc (.cells #[.bool s1, .slice a41 l41 k41, .slice a42 l42 k42] 38)=W4 at *
 obtain⟨_,c0,c1,c2,_,_,_⟩:=HC2.out
 go_upto_region 8 with(first
  |(go_at_call 43;(with_reducible refine(HF.out.hq _ _ HQ2.out).mono ?_);rintro e5 w5 ⟨v5,rfl,hv5,hb5⟩
    obtain⟨a51,l51,k51,a52,l52,k52,rfl,hx5,hy5⟩:=id hv5
    obtain⟨_,_,_,he5,_⟩:=id hx5.sl
    have hba:=zca w5 (.cells #[.bool s1, .slice a51 l51 k51, .slice a52 l52 k52] 38)
    have hbb:=zaa hb5 hba
    have HC5:=zH (C3.new w5 38 (.bool s1) (.slice a51 l51 k51) (.slice a52 l52 k52))
    have HF5:=zH (hv5.below hba)
    clear c0 c1 c2
    replace HB0:=zH (zaa HB0.out hbb);replace HC1:=zH (HC1.out.belowS hbb);replace HQ1:=zH (HQ1.out.below hbb);replace HN3:=zH (HN3.out.below hbb);replace HC2:=zH (HC2.out.belowS hbb);replace HQ2:=zH (HQ2.out.below hbb);replace HC4:=zH (HC4.out.belowS hbb);replace HF4:=zH (HF4.out.below hbb)
    clear hv5 hb5 hba hbb hx5 hy5 he5))
 obtain⟨b5,hb5⟩:∃b,w5.heap.size=b:=⟨_,rfl⟩
 rw[hb5]at HC5 ⊢
 clear hb5
 generalize w5.alloc (.cells #[.bool s1, .slice a51 l51 k51, .slice a52 l52 k52] 38)=W5 at *
 obtain⟨_,c0,c1,c2,_,_,_⟩:=HC1.out
 go_upto_region 9 with(first
  |(go_at_call 45;(with_reducible refine(HF.out.mc _ _ HQ1.out).mono ?_);rintro e6 w6 ⟨v6,rfl,hv6,hb6⟩
    obtain⟨a61,l61,k61,a62,l62,k62,rfl,hx6,hy6⟩:=id hv6
    obtain⟨_,_,_,he6,_⟩:=id hx6.sl
    have hba:=zca w6 (.cells #[.bool s2, .slice a61 l61 k61, .slice a62 l62 k62] 38)
    have hbb:=zaa hb6 hba
    have HC6:=zH (C3.new w6 38 (.bool s2) (.slice a61 l61 k61) (.slice a62 l62 k62))
    have HF6:=zH (hv6.below hba)
    clear c0 c1 c2
    replace HB0:=zH (zaa HB0.out hbb);replace HC1:=zH (HC1.out.belowS hbb);replace HQ1:=zH (HQ1.out.below hbb);replace HN3:=zH (HN3.out.below hbb);replace HC2:=zH (HC2.out.belowS hbb);replace HQ2:=zH (HQ2.out.below hbb);replace HC4:=zH (HC4.out.belowS hbb);replace HF4:=zH (HF4.out.below hbb);replace HC5:=zH (HC5.out.belowS hbb);replace HF5:=zH (HF5.out.below hbb)
    clear hv6 hb6 hba hbb hx6 hy6 he6))
 obtain⟨b6,hb6⟩:∃b,w6.heap.size=b:=⟨_,rfl⟩
 rw[hb6]at HC6 ⊢
 clear hb6
 generalize w6.alloc (.cells #[.bool s2, .slice a61 l61 k61, .slice a62 l62 k62] 38)=W6 at *
 obtain⟨_,c0,c1,c2,_,_,_⟩:=HC2.out
 go_upto_region 10 with(first
  |(go_at_call 45;(with_reducible refine(HF.out.mq _ _ HQ2.out).mono ?_);rintro e7 w7 ⟨v7,rfl,hv7,hb7⟩
    obtain⟨a71,l71,k71,a72,l72,k72,rfl,hx7,hy7⟩:=id hv7
    obtain⟨_,_,_,he7,_⟩:=id hx7.sl
    have hba:=zca w7 (.cells #[.bool s2, .slice a71 l71 k71, .slice a72 l72 k72] 38)
    have hbb:=zaa hb7 hba
    have HC7:=zH (C3.new w7 38 (.bool s2) (.slice a71 l71 k71) (.slice a72 l72 k72))
    have HF7:=zH (hv7.below hba)
    clear c0 c1 c2
    replace HB0:=zH (zaa HB0.out hbb);replace HC1:=zH (HC1.out.belowS hbb);replace HQ1:=zH (HQ1.out.below hbb);replace HN3:=zH (HN3.out.below hbb);replace HC2:=zH (HC2.out.belowS hbb);replace HQ2:=zH (HQ2.out.below hbb);replace HC4:=zH (HC4.out.belowS hbb);replace HF4:=zH (HF4.out.below hbb);replace HC5:=zH (HC5.out.belowS hbb);replace HF5:=zH (HF5.out.below hbb);replace HC6:=zH (HC6.out.belowS hbb);replace HF6:=zH (HF6.out.below hbb)
    clear hv7 hb7 hba hbb hx7 hy7 he7))
 obtain⟨b7,hb7⟩:∃b,w7.heap.size=b:=⟨_,rfl⟩
 rw[hb7]at HC7 ⊢
 clear hb7
 generalize w7.alloc (.cells #[.bool s2, .slice a71 l71 k71, .slice a72 l72 k72] 38)=W7 at *
 have q3:(e2 != e2)=false:=by simp
 obtain⟨_,c0,c1,c2,_,_,_⟩:=HC4.out
 obtain⟨_,d0,d1,d2,_,_,_⟩:=HC5.out
 obtain⟨_,g0,g1,g2,_,_,_⟩:=HC6.out
 obtain⟨_,h0,h1,h2,_,_,_⟩:=HC7.out
 go_upto_region 12 with(first
  |(go_at_call 61;(with_reducible refine(zow _ _ s1 a1 z1 _ HF4.out HF5.out).mono ?_);rintro e9 w9 ⟨rfl,hb9⟩
    clear c0 c1 c2 d0 d1 d2 g0 g1 g2 h0 h1 h2 HC4 HC5 HF4 HF5
    replace HB0:=zH (zaa HB0.out hb9);replace HC1:=zH (HC1.out.belowS hb9);replace HQ1:=zH (HQ1.out.below hb9);replace HN3:=zH (HN3.out.below hb9);replace HC2:=zH (HC2.out.belowS hb9);replace HQ2:=zH (HQ2.out.below hb9);replace HC6:=zH (HC6.out.belowS hb9);replace HF6:=zH (HF6.out.below hb9);replace HC7:=zH (HC7.out.belowS hb9);replace HF7:=zH (HF7.out.below hb9)
    clear hb9
    obtain⟨_,g0,g1,g2,_,_,_⟩:=HC6.out
    obtain⟨_,h0,h1,h2,_,_,_⟩:=HC7.out)
  |(go_at_call 61;(with_reducible refine(zow _ _ s2 a2 z2 _ HF6.out HF7.out).mono ?_);rintro e10 w10 ⟨rfl,hb10⟩
    clear g0 g1 g2 h0 h1 h2 HC6 HC7 HF6 HF7
    replace HB0:=zH (zaa HB0.out hb10);replace HC1:=zH (HC1.out.belowS hb10);replace HQ1:=zH (HQ1.out.below hb10);replace HN3:=zH (HN3.out.below hb10);replace HC2:=zH (HC2.out.belowS hb10);replace HQ2:=zH (HQ2.out.below hb10)
    clear hb10))
 obtain⟨_,c0,c1,c2,_,_,_⟩:=HC1.out
 go_upto_region 13 with(first
  |(go_at_call 17;(with_reducible refine(HF.out.lr _ _ HQ1.out).mono ?_);rintro e11 w11 ⟨v11,rfl,hv11,hb11⟩
    obtain⟨t11,x11,y11,rfl,⟨a111,l111,k111,rfl,_⟩,⟨a112,l112,k112,rfl,_⟩⟩:=hv11.isF
    have hba:=zca w11 (.cells #[.bool t11, .slice a111 l111 k111, .slice a112 l112 k112] 38)
    have hbb:=zaa hb11 hba
    have HC11:=zH (C3.new w11 38 (.bool t11) (.slice a111 l111 k111) (.slice a112 l112 k112))
    have HF11:=zH (hv11.below hba)
    clear c0 c1 c2
    replace HB0:=zH (zaa HB0.out hbb);replace HC1:=zH (HC1.out.belowS hbb);replace HQ1:=zH (HQ1.out.below hbb);replace HN3:=zH (HN3.out.below hbb);replace HC2:=zH (HC2.out.belowS hbb);replace HQ2:=zH (HQ2.out.below hbb)
    clear hv11 hb11 hba hbb))
 obtain⟨b11,hb11⟩:∃b,w11.heap.size=b:=⟨_,rfl⟩
 rw[hb11]at HC11 ⊢
 clear hb11
 generalize w11.alloc (.cells #[.bool t11, .slice a111 l111 k111, .slice a112 l112 k112] 38)=W11 at *
 have HFR:Hid (fits (L+1)):=zH (by rw[HF.out.rs];exact HF.out.fρ)
 have HF1:Hid (fits 1):=zH (fits_ok false (n:=1) (d:=1) ⟨by decide,by decide+kernel,Nat.le_trans (zwb.2 (show 1<2^3 by omega)) (by decide)⟩)
 have HRS:=zH HF.out.rs
 obtain⟨_,g1,g2,g3,_,_,_⟩:=HC11.out
 have S0:=zH (And.intro g1 (And.intro g2 g3))
 clear g1 g2 g3
 go_cut [21,22] (fun u24 u25 wy=>∃ (b':Nat) (t':Bool) (a1:Option Addr) (l1 k1:Nat) (a2:Option Addr) (l2 k2:Nat),u24= .pointer (some ⟨b',0,none⟩)∧u25= .int .i64 0∧C3 wy b' (.bool t') (.slice a1 l1 k1) (.slice a2 l2 k2)∧zqa wy (.agg #[.bool t', .slice a1 l1 k1, .slice a2 l2 k2]) ρ∧Below W11.heap.size W11 wy)
 case first =>
  go_region_held3 (fun w'=>w'.cell? ⟨b11,0,none⟩=some (.bool t11)∧w'.cell? ⟨b11,1,none⟩=some (.slice a111 l111 k111)∧w'.cell? ⟨b11,2,none⟩=some (.slice a112 l112 k112)∧Below W11.heap.size W11 w') (first
   | with_reducible exact kp3a S0.out (zja _)
   | with_reducible exact kp3w (by assumption) (zca _ _)
   | with_reducible exact kp3w (by assumption) (by assumption)
   | with_reducible exact kp3a S0.out (zaa hB51 (zca _ _))
   | with_reducible exact kp3s S0.out hB51 (Nat.le_refl _) _ _ _
   | with_reducible exact kp3s S0.out hB51 hB50.size _ _ _) (first
   |(go_at_call 20;(with_reducible refine(zas _).mono ?_);rintro e50 w50 ⟨v50,rfl,hv50,hb50⟩
     obtain⟨t50,x50,y50,rfl,⟨a501,l501,k501,rfl,_⟩,⟨a502,l502,k502,rfl,_⟩⟩:=hv50.isF
     have hB50:=zaa (kp3c (by assumption)) hb50
     have hc4:=(fun(p:Addr) hp=>hb50.cell (p:=p) hp)
     have hf4:=(fun(p:Addr) hp=>hb50.frozen (p:=p) hp)
     have zp:=hb50.size
     (try simp only[zfk,zvo]at zp)
     (try have z0:W11.heap.size<w50.heap.size:=(by omega)))
   |(go_at_call 19;(with_reducible refine(zhv _ _ L 1 _ (HF11.out.below (kp3c (by assumption))) (hv50.below (by first | exact Below.refl _ _ | exact zca _ _)) HF.out.fL HF1.out HFR.out).mono ?_);rw[HRS.out];rintro e51 w51 ⟨v51,rfl,hv51,hb51⟩
     obtain⟨t51,x51,y51,rfl,⟨a511,l511,k511,rfl,_⟩,⟨a512,l512,k512,rfl,_⟩⟩:=hv51.isF
     have hB51:=zaa (kp3c (by assumption)) hb51
     have hc5:=(fun(p:Addr) hp=>hb51.cell (p:=p) hp)
     have hf5:=(fun(p:Addr) hp=>hb51.frozen (p:=p) hp)
     have zq:=hb51.size
     (try simp only[zfk,zvo]at zq)
     (try have z1:w50.heap.size<w51.heap.size:=(by omega))))
  all_goals
   have hE:=kp3c (by assumption)
   go_wp2_with fail
   go_meet
   case rel=>
    first
     | exact⟨_,_,_,_,_,_,_,_,rfl,rfl,C3.new w51 _ _ _ _,hv51.below (zca _ _),hE⟩
     | exact⟨_,_,_,_,_,_,_,_,rfl,rfl,((C3.newB (b:=w50.heap.size) w50 38 (.bool false) (.slice none 0 0) (.slice none 0 0) rfl).belowS hb51).set _ _ _,hv51.set3 ((C3.newB (b:=w50.heap.size) w50 38 (.bool false) (.slice none 0 0) (.slice none 0 0) rfl).belowS hb51) (fun z=>by simp) (fun z=>by simp) _ _ _,hE⟩
     | exact⟨_,_,_,_,_,_,_,_,rfl,rfl,(((C3.newB (b:=W11.heap.size) W11.drew 38 (.bool false) (.slice none 0 0) (.slice none 0 0) rfl).belowS hb50).belowS hb51).set _ _ _,hv51.set3 (((C3.newB (b:=W11.heap.size) W11.drew 38 (.bool false) (.slice none 0 0) (.slice none 0 0) rfl).belowS hb50).belowS hb51) (fun z=>by simp) (fun z=>by simp) _ _ _,hE⟩
 case rest=>
  obtain⟨b12,t12,a121,l121,k121,a122,l122,k122,rfl,rfl,hc,hf,hb6⟩:=hcut
  obtain⟨W12,hw3⟩:∃w3,w3=wc:=⟨_,rfl⟩
  subst hw3
  have HC12:=zH hc
  have HF12:=zH hf
  clear hc hf S0 HC11 HF11 HFR HF1 HRS
  replace HB0:=zH (zaa HB0.out hb6);replace HC1:=zH (HC1.out.belowS hb6);replace HQ1:=zH (HQ1.out.below hb6);replace HN3:=zH (HN3.out.below hb6);replace HC2:=zH (HC2.out.belowS hb6);replace HQ2:=zH (HQ2.out.below hb6)
  clear hb6
  obtain⟨_,c0,c1,c2,_,_,_⟩:=HC1.out
  obtain⟨_,d0,d1,d2,_,_,_⟩:=HC12.out
  have hx2:=HX.out
  go_upto_region 15 with(first
   |(go_at_call 48;(with_reducible refine(HAC.out _ _ _ HQ1.out HF12.out).mono ?_);rintro e13 w13 ⟨v13,rfl,hv13,hb13⟩
     have HV13:=zH hv13
     have sv13:=hv13.sl
     clear c0 c1 c2 d0 d1 d2
     replace HB0:=zH (zaa HB0.out hb13);replace HN3:=zH (HN3.out.below hb13);replace HC2:=zH (HC2.out.belowS hb13);replace HQ2:=zH (HQ2.out.below hb13);replace HC12:=zH (HC12.out.belowS hb13);replace HF12:=zH (HF12.out.below hb13)
     clear hv13 hb13))
  obtain⟨_,c0,c1,c2,_,_,_⟩:=HC2.out
  obtain⟨_,d0,d1,d2,_,_,_⟩:=HC12.out
  go_upto_region 16 with(first
   |(go_at_call 48;(with_reducible refine(HAQ.out _ _ _ HQ2.out HF12.out).mono ?_);rintro e14 w14 ⟨v14,rfl,hv14,hb14⟩
     have HV14:=zH hv14
     have sv14:=hv14.sl
     clear c0 c1 c2 d0 d1 d2
     replace HB0:=zH (zaa HB0.out hb14);replace HN3:=zH (HN3.out.below hb14);replace HV13:=zH (HV13.out.below hb14)
     clear hv14 hb14))
  go_wp2_with (first
   |(go_at_call 21;(with_reducible refine(HSM.out _ _ _ HV13.out HN3.out).mono ?_);rintro e15 w15 ⟨v15,rfl,hv15,hb15⟩
     have HV15:=zH hv15
     have sv15:=hv15.sl
     replace HB0:=zH (zaa HB0.out hb15);replace HV14:=zH (HV14.out.below hb15)
     clear hv15 hb15)
   |(go_at_call 23;(with_reducible refine(znr _ _ _ _ _ HV15.out HV14.out).mono ?_);rintro e16 w16 ⟨⟨q16,rfl,hq16⟩,hb16⟩;obtain rfl:q16=true:=hq16.2 rfl;clear hq16
     clear HV14 HV15
     replace HB0:=zH (zaa HB0.out hb16)
     clear hb16)
   |(go_at_call 24;(with_reducible refine(awake_any _).mono ?_);rintro e17 w17 ⟨rfl,hb17⟩
     replace HB0:=zH (zaa HB0.out hb17)
     clear hb17))
  go_ret
  exact⟨rfl,HB0.out⟩
end Go.Proofs.YtlpdkbmmbdfoiaaGreat
