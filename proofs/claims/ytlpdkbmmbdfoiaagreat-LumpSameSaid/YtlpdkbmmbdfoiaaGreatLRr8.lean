/-
  package drydocklaw21: agrees, the walk.
-/
import Derived.Test.YtlpdkbmmbdfoiaaGreatLAw1
import Derived.Test.YtlpdkbmmbdfoiaaGreatLLu7
import Derived.Test.YtlpdkbmmbdfoiaaGreatLSa2
import Derived.Test.YtlpdkbmmbdfoiaaGreatLRb5
import Derived.Test.YtlpdkbmmbdfoiaaGreatLQu
import Derived.Test.YtlpdkbmmbdfoiaaGreatLHp8
import Derived.Test.YtlpdkbmmbdfoiaaGreatLMath8
import Derived.Test.YtlpdkbmmbdfoiaaGreatLMath22
import Derived.Test.YtlpdkbmmbdfoiaaGreatLOrd
import Derived.Test.YtlpdkbmmbdfoiaaGreatLMath16
import Derived.Test.YtlpdkbmmbdfoiaaGreatLLu6
import Derived.Test.YtlpdkbmmbdfoiaaGreatLMu1
import Derived.Test.YtlpdkbmmbdfoiaaGreatLKp
import Derived.Test.YtlpdkbmmbdfoiaaGreatLOuw
import Derived.Test.YtlpdkbmmbdfoiaaGreatLLi3
import Derived.Test.YtlpdkbmmbdfoiaaGreatLMath6b
import Derived.Test.YtlpdkbmmbdfoiaaGreatLSz1
import Derived.Test.YtlpdkbmmbdfoiaaGreatLOr2
import Derived.Test.YtlpdkbmmbdfoiaaGreatLHs1
import Derived.Test.YtlpdkbmmbdfoiaaGreatLCp1
set_option linter.unusedVariables false
set_option linter.unusedSimpArgs false
namespace Go.Proofs.YtlpdkbmmbdfoiaaGreat
open Go.RowKit
theorem keep12 {w0 X Y:World} {a1 a2 a3 a4 a5 a6 a7 a8 a9 a10 a11 a12:Addr} {x1 x2 x3 x4 x5 x6 x7 x8 x9 x10 x11 x12:Value}
 (h:X.cell? a1=some x1∧X.cell? a2=some x2∧X.cell? a3=some x3∧X.cell? a4=some x4∧X.cell? a5=some x5∧X.cell? a6=some x6∧X.cell? a7=some x7∧X.cell? a8=some x8∧X.cell? a9=some x9∧X.cell? a10=some x10∧X.cell? a11=some x11∧X.cell? a12=some x12∧Below w0.heap.size w0 X)
 (hb:Below X.heap.size X Y):Y.cell? a1=some x1∧Y.cell? a2=some x2∧Y.cell? a3=some x3∧Y.cell? a4=some x4∧Y.cell? a5=some x5∧Y.cell? a6=some x6∧Y.cell? a7=some x7∧Y.cell? a8=some x8∧Y.cell? a9=some x9∧Y.cell? a10=some x10∧Y.cell? a11=some x11∧Y.cell? a12=some x12∧Below w0.heap.size w0 Y:=by
 obtain⟨k1,k2,k3,k4,k5,k6,k7,k8,k9,k10,k11,k12,k13⟩:=h
 exact⟨zba hb k1,zba hb k2,zba hb k3,zba hb k4,zba hb k5,zba hb k6,zba hb k7,zba hb k8,zba hb k9,zba hb k10,zba hb k11,zba hb k12,zaa k13 hb⟩
theorem zvx {w0 X:World} {a1 a2 a3 a4 a5 a6 a7 a8 a9 a10 a11 a12:Addr} {x1 x2 x3 x4 x5 x6 x7 x8 x9 x10 x11 x12:Value}
 (h:X.cell? a1=some x1∧X.cell? a2=some x2∧X.cell? a3=some x3∧X.cell? a4=some x4∧X.cell? a5=some x5∧X.cell? a6=some x6∧X.cell? a7=some x7∧X.cell? a8=some x8∧X.cell? a9=some x9∧X.cell? a10=some x10∧X.cell? a11=some x11∧X.cell? a12=some x12∧Below w0.heap.size w0 X):Below w0.heap.size w0 X:=h.2.2.2.2.2.2.2.2.2.2.2.2
set_option maxRecDepth 100000 in
set_option maxHeartbeats 3200000 in
theorem awake_any (w:World):Calls Tryz.prog 24 #[] w (fun e w'=>e= .returned (.bool true)∧Below w.heap.size w w'):=by
 go_enter Tryz.func24,Tryz.ntmps24
 go_upto_region 6 with(first
  |(go_at_call 20;(with_reducible refine(zwi _).mono ?_);rintro e1 w1 ⟨v1,rfl,hv1,hb1⟩
    obtain⟨t1,x1,y1,rfl,⟨a11,l11,k11,rfl,q11⟩,⟨a12,l12,k12,rfl,q12⟩⟩:=hv1.isF)
  |(go_at_call 20;(with_reducible refine(zas _).mono ?_);rintro e2 w2 ⟨v2,rfl,hv2,hb2⟩
    obtain⟨t2,x2,y2,rfl,⟨a21,l21,k21,rfl,q21⟩,⟨a22,l22,k22,rfl,q22⟩⟩:=hv2.isF
    have ba1:=zca w2 (.cells #[.bool t1, .slice a11 l11 k11, .slice a12 l12 k12] 38)
    have ba2:=zca (w2.alloc (.cells #[.bool t1, .slice a11 l11 k11, .slice a12 l12 k12] 38)) (.cells #[.bool t2, .slice a21 l21 k21, .slice a22 l22 k22] 38)
    have hL:=zH (cAw_lit' (tF:=38) (tR:=25) (tB:=4) (B:=w2.heap.size+1+1) (w:=(w2.alloc (.cells #[.bool t1, .slice a11 l11 k11, .slice a12 l12 k12] 38)).alloc (.cells #[.bool t2, .slice a21 l21 k21, .slice a22 l22 k22] 38)) (by simp) (((hv1.below hb2).below ba1).below ba2) ((hv2.below ba1).below ba2))
    have hC2:=C3.newB (b:=w2.heap.size+1) (w2.alloc (.cells #[.bool t1, .slice a11 l11 k11, .slice a12 l12 k12] 38)) 38 (.bool t2) (.slice a21 l21 k21) (.slice a22 l22 k22) (by simp)
    have HC2:=zH hC2
    have HB2:=zH (zaa (zaa hb1 hb2) (zaa ba1 ba2))
    have HV2:=zH ((hv2.below ba1).below ba2)
    clear hC2 ba1 ba2 hv1 hv2 hb1 hb2)
  |(go_at_call 60;(with_reducible refine(zgy _ cAw.raw _ ((hL.out _ rfl).1.raw.below (zca _ _))).mono ?_);rintro e4 w4 ⟨_,hgood,hbel4⟩;obtain⟨v4,nx,rfl,hin4,hco⟩:=hgood cAw_tape.valid;obtain rfl:=coarse001 hco;clear hgood hco
    have hCh:=zH (((hL.out _ rfl).1.below (zca _ _)).below hbel4)
    have HB4:=zH (zaa (zaa HB2.out (hL.out _ rfl).2.1) (zaa (zca _ _) hbel4))
    have h2b:=(HC2.out.belowS (hL.out _ rfl).2.1).belowS (zaa (zca _ _) hbel4)
    have h3b:=(C3.newB _ 28 (.slice (some ⟨w2.heap.size+1+1+1+1+1,0,none⟩) 3 3) (.slice (some ⟨w2.heap.size+1+1+1+1+1+1,0,none⟩) 3 3) (.slice (some ⟨w2.heap.size+1+1+1+1+1+1+1,0,none⟩) 3 3) (hL.out _ rfl).2.2).belowS hbel4
    have HV4:=zH ((HV2.out.below (hL.out _ rfl).2.1).below (zaa (zca _ _) hbel4))
    have H2B:=zH h2b
    have H3B:=zH h3b
    have HIN4:=zH hin4
    obtain⟨_,c0,c1,c2,_,_,_⟩:=h3b
    clear h2b hin4 hbel4)
  |(go_at_call 16;(with_reducible refine(quo_any _ _ cAw.raw [0,0,1] _ (hCh.out.raw.below (zca _ _)) (ints3 _ _ 0 0 1)).mono ?_);rintro e5 w5 ⟨v5,er5,rfl,hbel5,_,hg5,_⟩;obtain⟨rfl,hq5⟩:=hg5 check001 (by rw[quo001];exact quo001_tape.valid);rw[quo001]at hq5;clear hg5
    obtain⟨qr,qs5,ql,rfl,hqm,hqs,hql⟩:=hq5
    obtain⟨rA,rN,rK,rfl,_⟩:=id hqm.sl
    obtain⟨sA,sN,sK,rfl,_⟩:=id hqs.sl
    obtain⟨lA,lN,lK,rfl,_⟩:=id (zhc.sl hql)
    obtain rfl:rN=2:=hqm.len
    obtain rfl:sN=2:=hqs.len
    have ba6:=zca w5 (.cells #[.slice rA 2 rK, .slice sA 2 sK, .slice lA lN lK] 28)
    have HB46:=zH (zaa (zaa (zca w4 (.cells #[.int .i64 0, .int .i64 0, .int .i64 1] 3)) hbel5) ba6)
    have HC6:=zH (C3.new w5 28 (.slice rA 2 rK) (.slice sA 2 sK) (.slice lA lN lK))
    have HQM:=zH (hqm.below ba6)
    clear hqm hqs hql ba6 c0 c1 c2)
  |(go_at_call 60;(with_reducible refine(zgy _ ⟨[],[],[]⟩ _ (zero_chain _)).mono ?_);rintro e7 w7 ⟨hbad,_,hbel7⟩;obtain rfl:=hbad zero_bad;clear hbad))
 have b47:=zaa HB46.out hbel7
 have h2w:=H2B.out.belowS b47
 have h3w:=H3B.out.belowS b47
 have h6w:=HC6.out.belowS hbel7
 have HIN:=zH (HIN4.out.below b47)
 have HCH:=zH (hCh.out.below b47)
 have HV7:=zH (HV4.out.below b47)
 have hBW:=zaa HB4.out b47
 have hqm:=HQM.out.below hbel7
 have sR:=hqm.sl
 obtain⟨r0,hr0,hf0⟩:=hqm.at' 0 (by decide)
 have hf0':zbb w7 r0 [0,1]:=hf0
 obtain⟨r0a,r0n,r0k,rfl,_⟩:=id hf0'.sl
 obtain rfl:r0n=2:=hf0'.len
 have s0:=hf0'.sl
 obtain⟨xa,xb,d1,d2,d3,n1,n2⟩:=hf0'.at' 1 (by decide)
 have d1':w7.cell? (ptr (.slice r0a 2 r0k) 3)=some (.bool (decide ((1:Rat)<0))):=d1
 have d2':w7.cell? (ptr (.slice r0a 2 r0k) 4)=some xa:=d2
 have d3':w7.cell? (ptr (.slice r0a 2 r0k) 5)=some xb:=d3
 have HF1:Hid (zqa w7 (.agg #[.bool (decide ((1:Rat)<0)),xa,xb]) 1):=zH ⟨xa,xb,rfl,n1,n2⟩
 obtain⟨_,u0,u1,u2,_,_,_⟩:=id h2w
 obtain⟨_,v0,v1,v2,_,_,_⟩:=id h3w
 obtain⟨_,z0,z1,_,_,_,_⟩:=id h6w
 have S0:=zH (And.intro z0 (And.intro z1 (And.intro hr0 (And.intro d1' (And.intro d2' (And.intro d3' (And.intro u0 (And.intro u1 (And.intro u2 (And.intro v0 (And.intro v1 (And.intro v2 (Below.refl w7.heap.size w7)))))))))))))
 clear h2w h3w h6w hqm hf0 hf0' d1 d2 d3 d1' d2' d3' u0 u1 u2 v0 v1 v2 z0 z1 hr0 n1 n2 b47 hbel7
 go_region_held3 (fun w'=>w'.cell? ⟨w5.heap.size,0,none⟩=some (.slice rA 2 rK)∧w'.cell? ⟨w5.heap.size,1,none⟩=some (.slice sA 2 sK)∧w'.cell? (ptr (.slice rA 2 rK) 0)=some (.slice r0a 2 r0k)∧w'.cell? (ptr (.slice r0a 2 r0k) 3)=some (.bool (decide ((1:Rat)<0)))∧w'.cell? (ptr (.slice r0a 2 r0k) 4)=some xa∧w'.cell? (ptr (.slice r0a 2 r0k) 5)=some xb∧
  w'.cell? ⟨w2.heap.size+1,0,none⟩=some (.bool t2)∧w'.cell? ⟨w2.heap.size+1,1,none⟩=some (.slice a21 l21 k21)∧w'.cell? ⟨w2.heap.size+1,2,none⟩=some (.slice a22 l22 k22)∧
  w'.cell? ⟨w2.heap.size+1+1+1+1+1+1+1+1,0,none⟩=some (.slice (some ⟨w2.heap.size+1+1+1+1+1,0,none⟩) 3 3)∧w'.cell? ⟨w2.heap.size+1+1+1+1+1+1+1+1,1,none⟩=some (.slice (some ⟨w2.heap.size+1+1+1+1+1+1,0,none⟩) 3 3)∧w'.cell? ⟨w2.heap.size+1+1+1+1+1+1+1+1,2,none⟩=some (.slice (some ⟨w2.heap.size+1+1+1+1+1+1+1,0,none⟩) 3 3)∧
  Below w7.heap.size w7 w') (first
  | with_reducible exact keep12 S0.out (zja _)
  | with_reducible exact keep12 (by assumption) (zca _ _)
  | with_reducible exact keep12 (by assumption) (by assumption)) (first
  |(go_at_call 85;(with_reducible refine(same_ints _ _ [0,0,1] [0,0,1] _ (HIN.out.below (zvx (by assumption))) ?_).mono ?_);(first | with_reducible exact ints3 _ _ 0 0 1 | with_reducible exact zgv.below (ints3 _ _ 0 0 1) (zja _));rintro e8 w8 ⟨⟨b8,rfl,hb8⟩,hbel8⟩;obtain rfl:b8=true:=hb8.2 rfl;clear hb8)
  |(go_at_call 61;(with_reducible refine(znt _ _ 1 1 _ (HF1.out.below (zvx (by assumption))) (HV7.out.below (zvx (by assumption)))).mono ?_);rintro e9 w9 ⟨⟨b9,rfl,hb9⟩,hbel9⟩;obtain rfl:b9=true:=hb9.2 rfl;clear hb9)
  |(go_at_call 64;(with_reducible refine(zay _ _ cAw.raw [0,0,1] _ (HCH.out.raw.below (zvx (by assumption))) (HIN.out.below (zvx (by assumption)))).mono ?_);rintro e10 w10 ⟨⟨b10,rfl,hb10⟩,hbel10⟩;obtain rfl:b10=true:=hb10.2 check001;clear hb10)
  |(go_at_call 64;(with_reducible refine(zay _ _ cAw.raw [0,1,1] _ (HCH.out.raw.below (zvx (by assumption))) ?_).mono ?_);(first | with_reducible exact ints3 _ _ 0 1 1 | with_reducible exact zgv.below (ints3 _ _ 0 1 1) (zja _));rintro e11 w11 ⟨⟨b11,rfl,hb11⟩,hbel11⟩;obtain rfl:b11=false:=Bool.eq_false_iff.2 (fun h=>check011 (hb11.1 h));clear hb11))
 all_goals
  have hEnd:=zvx (by assumption)
  go_wp2_with fail
  go_ret
  exact⟨rfl,zaa hBW hEnd⟩
set_option maxHeartbeats 6400000
theorem add_rf (va vb:Value) (p r:Rat) (x:RF) (w:World) (ha:zqa w va p) (hb:zdc w vb x.neg x.n x.d) (hp:fits p) (hx:okN x.n x.d) (hr:p+x.q=r):
 Calls Tryz.prog 80 #[va,vb] w (zmi w r):=by
 refine(zco va vb _ _ _ _ _ _ w ha.raw hb (zuc hp) hx).mono ?_
 rw[zvb,show p+fq x.neg x.n x.d=r from hr]
 exact fun _ _ h=>h
def zfz (w0:World) (row:List RF) (bl:List Int) (e:Ending) (w:World):Prop:=
 ∃v er,e= .returned (.tuple #[v, .int .i64 er])∧Below w0.heap.size w0 w∧(badS row bl→er=1∧v= .slice none 0 0)∧(¬badS row bl→fitS row bl→er=0∧zbb w v (ztw bl (qs row) (cnt bl)))∧(¬badS row bl→¬fitS row bl→er=2∧v= .slice none 0 0)
theorem zfz.bad {w0 w:World} {row:List RF} {bl:List Int} (h:badS row bl) (hb:Below w0.heap.size w0 w):zfz w0 row bl (.returned (.tuple #[.slice none 0 0, .int .i64 1])) w:=
 ⟨_,_,rfl,hb,fun _=>⟨rfl,rfl⟩,fun h'=>absurd h h',fun h'=>absurd h h'⟩
theorem zfz.big {w0 w:World} {row:List RF} {bl:List Int} (h:¬badS row bl) (hf:¬fitS row bl) (hb:Below w0.heap.size w0 w):zfz w0 row bl (.returned (.tuple #[.slice none 0 0, .int .i64 2])) w:=
 ⟨_,_,rfl,hb,fun h'=>absurd h' h,fun _ h'=>absurd h' hf,fun _ _=>⟨rfl,rfl⟩⟩
set_option maxRecDepth 100000 in
theorem lsums_early (va vb:Value) (row:List RF) (bl:List Int) (w:World) (ha:zni w va row) (hb:zgv w vb bl) (h:¬ (okB bl∧0<bl.length∧bl.length=row.length)):
 Calls Tryz.prog 21 #[va,vb] w (zfz w row bl):=by
 have HB:Hid (badS row bl):=zH (fun h'=>h ⟨h'.1,h'.2.1,h'.2.2.1⟩)
 have sa:=ha.sl
 have la:=ha.len
 have sb:=zhc.sl hb
 have lb:=hb.len
 by_cases hk:okB bl∧0<bl.length
 ·have hne:(((row.length:Nat):Int) != (bl.length:Nat))=true:=by
   have :bl.length≠row.length:=fun e=>h ⟨hk.1,hk.2,e⟩
   simp;omega
  have HK:=zH hk
  clear h hk
  go_enter Tryz.func21,Tryz.ntmps21
  go_wp2_with (first
   |(go_at_call 65;(with_reducible refine(zbx _ bl _ hb).mono ?_);rintro e5 w5 ⟨n5,b5,rfl,rfl,hc5,_⟩;obtain⟨hn5,hb5⟩:=hc5 HK.out.1;obtain rfl:b5=true:=hb5.trans (decide_eq_true HK.out.2);clear hc5 hb5 hn5))
  go_ret2
  exact zfz.bad HB.out (Below.refl _ _)
 ·have HK:Hid (∀n b,((okB bl→n=cnt bl∧b=decide (0<bl.length))∧(¬okB bl→b=false∧n=0))→b=false):=zH (fun n b hc=>by
   by_cases h1:okB bl
   ·rw[(hc.1 h1).2];exact decide_eq_false (fun h2=>hk ⟨h1,h2⟩)
   ·exact(hc.2 h1).1)
  clear h hk
  go_enter Tryz.func21,Tryz.ntmps21
  go_wp2_with (first
   |(go_at_call 65;(with_reducible refine(zbx _ bl _ hb).mono ?_);rintro e5 w5 ⟨n5,b5,rfl,rfl,hc5⟩;obtain rfl:b5=false:=HK.out _ _ hc5;clear hc5))
  go_ret2
  exact zfz.bad HB.out (Below.refl _ _)
theorem keep7w {w0 X Y:World} {a1 a2 a3 a4 a5 a6 a7:Addr} {x1 x2 x3 x4 x5 x6 x7:Value} (h:X.cell? a1=some x1∧X.cell? a2=some x2∧X.cell? a3=some x3∧X.cell? a4=some x4∧X.cell? a5=some x5∧X.cell? a6=some x6∧X.cell? a7=some x7∧Below w0.heap.size w0 X) (hb:Below X.heap.size X Y):
 Y.cell? a1=some x1∧Y.cell? a2=some x2∧Y.cell? a3=some x3∧Y.cell? a4=some x4∧Y.cell? a5=some x5∧Y.cell? a6=some x6∧Y.cell? a7=some x7∧Below w0.heap.size w0 Y:=by
 obtain⟨k1,k2,k3,k4,k5,k6,k7,k8⟩:=h
 exact⟨zba hb k1,zba hb k2,zba hb k3,zba hb k4,zba hb k5,zba hb k6,zba hb k7,zaa k8 hb⟩
theorem keep7a {w0 X:World} {a1 a2 a3 a4 a5 a6 a7:Addr} {x1 x2 x3 x4 x5 x6 x7:Value} (h:w0.cell? a1=some x1∧w0.cell? a2=some x2∧w0.cell? a3=some x3∧w0.cell? a4=some x4∧w0.cell? a5=some x5∧w0.cell? a6=some x6∧w0.cell? a7=some x7) (hb:Below w0.heap.size w0 X):
 X.cell? a1=some x1∧X.cell? a2=some x2∧X.cell? a3=some x3∧X.cell? a4=some x4∧X.cell? a5=some x5∧X.cell? a6=some x6∧X.cell? a7=some x7∧Below w0.heap.size w0 X:=by
 obtain⟨k1,k2,k3,k4,k5,k6,k7⟩:=h
 exact⟨zba hb k1,zba hb k2,zba hb k3,zba hb k4,zba hb k5,zba hb k6,zba hb k7,hb⟩
theorem keep7c {w0 X:World} {a1 a2 a3 a4 a5 a6 a7:Addr} {x1 x2 x3 x4 x5 x6 x7:Value} (h:X.cell? a1=some x1∧X.cell? a2=some x2∧X.cell? a3=some x3∧X.cell? a4=some x4∧X.cell? a5=some x5∧X.cell? a6=some x6∧X.cell? a7=some x7∧Below w0.heap.size w0 X):Below w0.heap.size w0 X:=h.2.2.2.2.2.2.2
theorem keep7s {w0 X:World} {a1 a2 a3 a4 a5 a6 a7:Addr} {x1 x2 x3 x4 x5 x6 x7:Value} (h:w0.cell? a1=some x1∧w0.cell? a2=some x2∧w0.cell? a3=some x3∧w0.cell? a4=some x4∧w0.cell? a5=some x5∧w0.cell? a6=some x6∧w0.cell? a7=some x7) (hb:Below w0.heap.size w0 X) {b:Nat} (hB:w0.heap.size≤b) (x y z:Value):
 (((X.setCell ⟨b,0,none⟩ x).setCell ⟨b,1,none⟩ y).setCell ⟨b,2,none⟩ z).cell? a1=some x1∧(((X.setCell ⟨b,0,none⟩ x).setCell ⟨b,1,none⟩ y).setCell ⟨b,2,none⟩ z).cell? a2=some x2∧(((X.setCell ⟨b,0,none⟩ x).setCell ⟨b,1,none⟩ y).setCell ⟨b,2,none⟩ z).cell? a3=some x3∧
 (((X.setCell ⟨b,0,none⟩ x).setCell ⟨b,1,none⟩ y).setCell ⟨b,2,none⟩ z).cell? a4=some x4∧(((X.setCell ⟨b,0,none⟩ x).setCell ⟨b,1,none⟩ y).setCell ⟨b,2,none⟩ z).cell? a5=some x5∧(((X.setCell ⟨b,0,none⟩ x).setCell ⟨b,1,none⟩ y).setCell ⟨b,2,none⟩ z).cell? a6=some x6∧(((X.setCell ⟨b,0,none⟩ x).setCell ⟨b,1,none⟩ y).setCell ⟨b,2,none⟩ z).cell? a7=some x7∧Below w0.heap.size w0 (((X.setCell ⟨b,0,none⟩ x).setCell ⟨b,1,none⟩ y).setCell ⟨b,2,none⟩ z):=
 keep7a h (zga hb hB x y z)
set_option maxRecDepth 100000 in
theorem lsums_main (va vb:Value) (row:List RF) (bl:List Int) (w:World) (ha:zni w va row) (hb:zgv w vb bl) (hok:okB bl) (h0:0<bl.length) (hlen:bl.length=row.length) (hn:bl.length≤128):
 Calls Tryz.prog 21 #[va,vb] w (zfz w row bl):=by
 have sa:=ha.sl
 have la:=ha.len
 have sb:=zhc.sl hb
 have lb:=hb.len
 have HOK:=zH hok
 have HLEN:=zH hlen
 rw[←hlen]at la
 obtain⟨n,hcn⟩:∃n,cnt bl=n:=⟨_,rfl⟩
 have hn2:n≤128:=by have:=cnt_le bl bl.length;rw[List.take_length]at this;omega
 have HN:=zH hcn
 have HNB:Hid ((∀x∈row,x.ok)→¬badS row bl):=zH (fun h h'=>h' ⟨hok,h0,hlen,h⟩)
 have HBD:Hid ((¬ ∀x∈row,x.ok)→badS row bl):=zH (fun h h'=>h h'.2.2.2)
 have HP0:Hid (decide (0<bl.length)=true):=zH (decide_eq_true h0)
 obtain⟨i0,hi,hz0,hz1,hz2⟩:=info_parts Tryz.infoF
 have hM:=zon (P:=Tryz.prog) 25 38 i0 Tryz.underlying25 hi hz0 hz1 (by rw[hz2];decide)
 clear hi hz0 hz1 hz2 hok hcn hlen
 go_enter Tryz.func21,Tryz.ntmps21
 go_wp2_with (first
  |(go_at_call 65;(with_reducible refine(zbx _ bl _ hb).mono ?_);rintro e5 w5 ⟨n5,b5,rfl,rfl,hc5,_⟩;obtain⟨hn5,hb5⟩:=hc5 HOK.out;obtain rfl:b5=true:=hb5.trans HP0.out;obtain rfl:n5=n:=hn5.trans HN.out;clear hc5 hb5 hn5))
 go_loopw [32] (fun u32 wr=>∃ (k:Nat),k≤bl.length∧u32= .int .i64 k∧(∀x∈row.take k,x.ok)∧Below w.heap.size w wr) (fun u32 _=>bl.length- (intOf u32).toNat)
 case atStart=>exact⟨0,Nat.zero_le _,rfl,by simp,Below.refl _ _⟩
 case round=>
  obtain⟨k,hk,rfl,hpl,hbr⟩:=hrel
  have HPL:=zH hpl
  clear hpl
  by_cases hkl:k<bl.length
  ·have hkr:k<row.length:=by rw[←HLEN.out];exact hkl
   obtain⟨xa,xb,c1,c2,c3,hxa,hxb⟩:=(ha.below hbr).at' k hkr
   obtain⟨c1a,c1l,c1k,rfl,_⟩:=hxa.slen.1
   obtain⟨c2a,c2l,c2k,rfl,_⟩:=hxb.slen.1
   have HNX:Hid ((row[k]'hkr).ok→∀x∈row.take (k+1),x.ok):=zH (fun h x hx=>by
    rw[zxc row k hkr,List.mem_append,List.mem_singleton]at hx
    rcases hx with hx | rfl
    ·exact HPL.out x hx
    ·exact h)
   have HNO:Hid (¬ (row[k]'hkr).ok→badS row bl):=zH (fun h=>HBD.out (fun h'=>h (h' _ (List.getElem_mem hkr))))
   generalize row[k]'hkr=x at *
   have hba:=zca wr (.cells #[.bool x.neg, .slice c1a c1l c1k, .slice c2a c2l c2k] 38)
   have HA:Hid (zdc (wr.alloc (.cells #[.bool x.neg, .slice c1a c1l c1k, .slice c2a c2l c2k] 38)) (.agg #[.bool x.neg, .slice c1a c1l c1k, .slice c2a c2l c2k]) x.neg x.n x.d):=zH ⟨_,_,rfl,hxa.below hba,hxb.below hba⟩
   have i1:(0:Int)≤(k:Int):=by omega
   have i2:(k:Int)<(bl.length:Nat):=by omega
   clear hxa hxb hkr
   by_cases hx:x.ok
   ·have HY:=zH (HNX.out hx)
    have HX:Hid (okN x.n x.d):=zH hx
    clear hx
    go_wp2_with (go_at_call 79;(with_reducible refine(zrd _ x.neg x.n x.d _ HA.out HX.out).mono ?_);rintro e9 w9 ⟨rfl,hbel9⟩)
    go_roundw
    case rel=>exact⟨k+1,hkl,by go_num,HY.out,zaa (zaa hbr hba) hbel9⟩
    case measure=>simp[intOf];omega
   ·have HY:=zH (HNO.out hx)
    have HX:Hid (¬okN x.n x.d):=zH hx
    clear hx
    go_wp2_with (go_at_call 79;(with_reducible refine(zys _ x.neg x.n x.d _ HA.out HX.out).mono ?_);rintro e9 w9 ⟨rfl,hbel9⟩)
    go_ret2
    exact zfz.bad HY.out (zaa (zaa hbr hba) hbel9)
  ·obtain rfl:k=bl.length:=by omega
   have HROK:Hid (∀x∈row,x.ok):=zH (by have:=HPL.out;rwa[List.take_of_length_le (by rw[HLEN.out];exact Nat.le_refl _)]at this)
   have HGOOD:=zH (HNB.out HROK.out)
   have HBR:=zH hbr
   obtain⟨W0,hW0⟩:∃W0,W0=wr:=⟨_,rfl⟩
   subst hW0
   go_wp2_with (first
    |(refine hM _ rfl _ _ rfl W0.heap.size _ n5 rfl rfl rfl (by omega) (Nat.le_refl _) ?_;intro v w1 hown hb1 hvb;have sv:=hown.sl;have lv:=hown.len))
   clear hM
   go_loopw [44] (fun u44 wr=>∃ (k:Nat),k≤n5∧u44= .int .i64 k∧zqb wr 38 W0.heap.size v n5∧(∀j,j<k→zlg wr v j 0)∧Below W0.heap.size W0 wr) (fun u44 _=>n5- (intOf u44).toNat)
   case atStart=>exact⟨0,Nat.zero_le _,rfl,hown,fun j h=>by omega,hb1⟩
   case round=>
    obtain⟨k,hk,rfl,ho,he,hbr2⟩:=hrel
    have HE:=zH he
    have HB2:=zH hbr2
    clear he
    by_cases hkn:k<n5
    ·go_wp2_with (go_at_call 67;(with_reducible refine(zwy _).mono ?_);rintro e w2 ⟨r,rfl,hr,hb2⟩
                  obtain⟨t9,x9,y9,rfl,⟨a1,l91,k1,rfl,_⟩,⟨a2,l92,k2,rfl,_⟩⟩:=hr.isF
                  have ho2:=ho.below hb2
                  obtain⟨c0,d0,_⟩:=ho2.cell (k*3) (by omega)
                  obtain⟨c1,d1,_⟩:=ho2.cell (k*3+1) (by omega)
                  obtain⟨c2,d2,_⟩:=ho2.cell (k*3+2) (by omega)
                  have f0:=ho2.frozen (k*3)
                  have f1:=ho2.frozen (k*3+1)
                  have f2:=ho2.frozen (k*3+2)
                  have n01:=ho2.inj (show k*3≠k*3+1 by omega)
                  have n02:=ho2.inj (show k*3≠k*3+2 by omega)
                  have n12:=ho2.inj (show k*3+1≠k*3+2 by omega)
                  have hs3:=ho2.set3 k (.bool t9) (.slice a1 l91 k1) (.slice a2 l92 k2) (fun z=>by simp) (fun z=>by simp) (fun z=>by simp)
                  have HS3:=zH hs3
                  clear hs3)
     go_roundw
     case rel=>
      refine⟨k+1,hkn,by go_num,HS3.out.1,fun j hj=> ?_,(zaa HB2.out hb2).trans HS3.out.2⟩
      rcases Nat.lt_or_ge j k with h6 | h6
      ·exact zlg.set3_other ho2 hkn (by omega) ((HE.out j h6).below hb2) _ _ _ (fun z=>by simp) (fun z=>by simp)
      ·obtain rfl:j=k:=by omega
       exact zlg.set3 ho2 hkn hr
     case measure=>simp[intOf];omega
    ·obtain rfl:k=n5:=by omega
     have HE0:Hid (∀j,j<k→zlg wr v j (bsum (bl.take 0) ((qs row).take 0) (j:Nat))):=zH (fun j hj=>by have:=HE.out j hj;simpa [bsum,zxz,zgg]using this)
     have HO:=zH ho
     go_wp2_with fail
     have HF0:Hid (∀j:Nat,fits (bsum (bl.take 0) ((qs row).take 0) (j:Nat))):=zH (fun j=>by
      have :bsum (bl.take 0) ((qs row).take 0) (j:Nat)=0:=by simp[bsum,zxz,zgg]
      rw[this];exact⟨by decide+kernel,by decide+kernel⟩)
     go_loopg [57] (bl.length) (fun g u57 wr=>∃ (i:Nat),i≤bl.length∧g=bl.length-i∧u57= .int .i64 i∧zqb wr 38 W0.heap.size v k∧(∀j,j<k→zlg wr v j (bsum (bl.take i) ((qs row).take i) (j:Nat)))∧(∀ (y:Nat) (h:y<bl.length),y<i→fits (bsum (bl.take (y+1)) ((qs row).take (y+1)) bl[y]))∧(∀j:Nat,fits (bsum (bl.take i) ((qs row).take i) (j:Nat)))∧Below W0.heap.size W0 wr)
     case atStart=>exact⟨0,Nat.zero_le _,rfl,rfl,HO.out,HE0.out,fun y h h1=>by omega,HF0.out,HB2.out⟩
     case round=>
      obtain⟨i,hi,hg2,rfl,ho3,he3,hf3,hf4,hbr3⟩:=hrel
      have HO3:=zH ho3
      have HE3:=zH he3
      have HF3:=zH hf3
      have HF4:=zH hf4
      have HB3:=zH hbr3
      by_cases hil:i<bl.length
      ·have hir:i<row.length:=by rw[←HLEN.out];exact hil
       obtain⟨xa,xb,e1,e2,e3,hxa,hxb⟩:=((ha.below HBR.out).below hbr3).at' i hir
       obtain⟨c1a,c1l,c1k,rfl,_⟩:=hxa.slen.1
       obtain⟨c2a,c2l,c2k,rfl,_⟩:=hxb.slen.1
       have hbc:=((hb.below HBR.out).below hbr3).at' i hil
       have hblt:=HOK.out.lt (List.getElem?_eq_getElem hil)
       rw[HN.out]at hblt
       have HBT:Hid (∀j:Nat,bsum (bl.take (i+1)) ((qs row).take (i+1)) (j:Nat)=if bl[i]'hil=(j:Nat)then bsum (bl.take i) ((qs row).take i) (j:Nat)+(row[i]'hir).q else bsum (bl.take i) ((qs row).take i) (j:Nat)):=zH (fun j=>by
        rw[zjx bl (qs row) (j:Nat) i hil (by rw[zgq];exact hir),zqt row i hir])
       have HXO:Hid (okN (row[i]'hir).n (row[i]'hir).d):=zH (HROK.out _ (List.getElem_mem hir))
       have HIL:=zH hil
       generalize hbk:bl[i]'hil=bk at *
       obtain⟨b,rfl⟩:∃b:Nat,bk=(b:Int):=⟨bk.toNat,by omega⟩
       have HBK:Hid (∀h:i<bl.length,bl[i]'h=(b:Int)):=zH (fun _=>hbk)
       have hbn:b<k:=by omega
       generalize row[i]'hir=x at *
       have i1:(0:Int)≤(i:Int):=by omega
       have i2:(i:Int)<(bl.length:Nat):=by omega
       have i3:(0:Int)≤(b:Int):=by omega
       have i4:(b:Int)<(k:Nat):=by omega
       have hbx:=zca wr (.cells #[.bool x.neg, .slice c1a c1l c1k, .slice c2a c2l c2k] 38)
       have hc13:=C3.new wr 38 (.bool x.neg) (.slice c1a c1l c1k) (.slice c2a c2l c2k)
       have HXA:=zH (And.intro (hxa.below hbx) (hxb.below hbx))
       go_wp2_with fail
       generalize wr.alloc (.cells #[.bool x.neg, .slice c1a c1l c1k, .slice c2a c2l c2k] 38)=W3 at *
       have hbr4:=zaa hbr3 hbx
       have HO4:=zH (ho3.below hbx)
       have HE4:=zH (fun j hj=>(he3 j hj).below hbx)
       have HB4:=zH hbr4
       obtain⟨ea,eb,g1,g2,g3,g4,g5⟩:=(he3 b hbn).below hbx
       obtain⟨ea1,ea2,ea3,rfl,_⟩:=id g4.v.sl
       obtain⟨eb1,eb2,eb3,rfl,_⟩:=id g5.v.sl
       obtain⟨p,hp⟩:∃p,bsum (bl.take i) ((qs row).take i) ((b:Nat):Int)=p:=⟨_,rfl⟩
       obtain⟨r,hr⟩:∃r,bsum (bl.take (i+1)) ((qs row).take (i+1)) ((b:Nat):Int)=r:=⟨_,rfl⟩
       rw[hp]at g1 g4 g5
       have HP:Hid (zqa W3 (.agg #[.bool (decide (p<0)), .slice ea1 ea2 ea3, .slice eb1 eb2 eb3]) p):=zH ⟨_,_,rfl,g4,g5⟩
       have HX:Hid (zdc W3 (.agg #[.bool x.neg, .slice c1a c1l c1k, .slice c2a c2l c2k]) x.neg x.n x.d):=zH ⟨_,_,rfl,HXA.out.1,HXA.out.2⟩
       have HPF:Hid (fits p):=zH (by rw[←hp];exact HF4.out b)
       have HEQ:Hid (p+x.q=r):=zH (by rw[←hp,←hr,HBT.out,if_pos rfl])
       have HR:=zH hr
       obtain⟨_,q1,q2,q3,_,_,_⟩:=hc13
       have hbc3:=zba hbx hbc
       have S0:=zH (And.intro g1 (And.intro g2 (And.intro g3 (And.intro q1 (And.intro q2 (And.intro q3 hbc3))))))
       generalize hS13:wr.heap.size=S13 at *
       clear g1 g2 g3 g4 g5 hxa hxb e1 e2 e3 he3 hf3 hf4 hp hr hbk hir q1 q2 q3 hbc hbc3 hblt hbx hbr3 hS13
       go_cut [14,15] (fun u14 u15 wy=>∃ (b10:Nat) (t':Bool) (x' y':Value) (er:Int),u14= .pointer (some ⟨b10,0,none⟩)∧u15= .int .i64 er∧C3 wy b10 (.bool t') x' y'∧zgc x'∧zgc y'∧(fits r→er=0∧zqa wy (.agg #[.bool t',x',y']) r)∧(¬fits r→er=2)∧Below W3.heap.size W3 wy∧W3.heap.size≤b10)
       case first =>
        go_region_held3 (fun w'=>w'.cell? (ptr v (b*3))=some (.bool (decide (p<0)))∧w'.cell? (ptr v (b*3+1))=some (.slice ea1 ea2 ea3)∧w'.cell? (ptr v (b*3+2))=some (.slice eb1 eb2 eb3)∧w'.cell? ⟨S13,0,none⟩=some (.bool x.neg)∧w'.cell? ⟨S13,1,none⟩=some (.slice c1a c1l c1k)∧w'.cell? ⟨S13,2,none⟩=some (.slice c2a c2l c2k)∧w'.cell? (ptr vb i)=some (.int .i64 (b:Nat))∧Below W3.heap.size W3 w') (first
         | with_reducible exact keep7a S0.out (zja _)
         | with_reducible exact keep7w (by assumption) (zca _ _)
         | with_reducible exact keep7w (by assumption) (by assumption)
         | with_reducible exact keep7a S0.out (zaa hB31 (zca _ _))
         | with_reducible exact keep7s S0.out hB31 (Nat.le_refl _) _ _ _) (first
         |(go_at_call 80;(with_reducible refine(add_rf _ _ p r x _ (HP.out.below (keep7c (by assumption))) (HX.out.below (keep7c (by assumption))) HPF.out HXO.out HEQ.out).mono ?_);rintro e31 w31 ⟨v31,er31,rfl,hb31,hv31,hv32⟩
           obtain⟨t31,x31,y31,rfl,hsx,hsy⟩:=zpb (w0:=w) hv31 hv32
           have HSX:=zH (And.intro hsx hsy)
           obtain⟨a311,l311,k311,rfl,_⟩:=id hsx
           obtain⟨a312,l312,k312,rfl,_⟩:=id hsy
           clear hsx hsy
           have hB31:=zaa (keep7c (by assumption)) hb31
           have hc5:=(fun(p:Addr) hp=>hb31.cell (p:=p) hp)
           have hf5:=(fun(p:Addr) hp=>hb31.frozen (p:=p) hp)
           have zq:=hb31.size
           (try simp only[zfk,zvo]at zq)
           (try have z1:W3.heap.size<w31.heap.size:=(by omega))))
        all_goals
         have hE:=keep7c (by assumption)
         have HV31:=zH (And.intro hv31 hv32)
         clear hv31 hv32
         go_wp2_with fail
         go_meet
         case rel=>
          first
           | exact⟨_,_,_,_,_,rfl,rfl,C3.new w31 _ _ _ _,HSX.out.1,HSX.out.2,fun h=>⟨(HV31.out.1 h).1,(HV31.out.1 h).2.below (zca _ _)⟩,fun h=>(HV31.out.2 h).1,hE,hB31.size⟩
           | exact⟨_,_,_,_,_,rfl,rfl,(((C3.newB (b:=W3.heap.size) W3 38 (.bool false) (.slice none 0 0) (.slice none 0 0) rfl).belowS (zja _)).belowS hb31).set _ _ _,HSX.out.1,HSX.out.2,fun h=>⟨(HV31.out.1 h).1,(HV31.out.1 h).2.set3 (((C3.newB (b:=W3.heap.size) W3 38 (.bool false) (.slice none 0 0) (.slice none 0 0) rfl).belowS (zja _)).belowS hb31) (fun z=>by simp) (fun z=>by simp) _ _ _⟩,fun h=>(HV31.out.2 h).1,hE,Nat.le_refl _⟩
       case rest=>
        obtain⟨b10,t10,x10,y10,er,rfl,rfl,hC10,hsx10,hsy10,hv10,hv11,hb10,hb10s⟩:=hcut
        obtain⟨W4,hW4⟩:∃W4,W4=wc:=⟨_,rfl⟩
        subst hW4
        obtain⟨a101,l101,k101,rfl,_⟩:=id hsx10
        obtain⟨a102,l102,k102,rfl,_⟩:=id hsy10
        have HB5:=zH (zaa HB4.out hb10)
        by_cases hfit:fits r
        ·obtain⟨rfl,hv12⟩:=hv10 hfit
         have HFT:=zH hfit
         have HF6:Hid (∀ (y:Nat) (h:y<bl.length),y<i+1→fits (bsum (bl.take (y+1)) ((qs row).take (y+1)) bl[y])):=zH (fun y h h1=>by
          rcases Nat.lt_or_ge y i with h6 | h6
          ·exact HF3.out y h h6
          ·obtain rfl:y=i:=by omega
           rw[HBK.out,HR.out];exact HFT.out)
         have HF7:Hid (∀j:Nat,fits (bsum (bl.take (i+1)) ((qs row).take (i+1)) (j:Nat))):=zH (fun j=>by
          by_cases hj:j=b
          ·subst hj;rw[HR.out];exact HFT.out
          ·rw[HBT.out j,if_neg (by omega)];exact HF4.out j)
         have hD:=zja (B:=W4.heap.size) W4
         have hbD:=zaa hb10 hD
         have ho4:=HO4.out.below hb10
         have HC10:=zH hC10
         have HV12:=zH (hv12.below hD)
         have hbc4:=zba hb10 S0.out.2.2.2.2.2.2
         obtain⟨c0,d0,_⟩:=ho4.cell (b*3) (by omega)
         obtain⟨c1,d1,_⟩:=ho4.cell (b*3+1) (by omega)
         obtain⟨c2,d2,_⟩:=ho4.cell (b*3+2) (by omega)
         have f0:=ho4.frozen (b*3)
         have f1:=ho4.frozen (b*3+1)
         have f2:=ho4.frozen (b*3+2)
         have n01:=ho4.inj (show b*3≠b*3+1 by omega)
         have n02:=ho4.inj (show b*3≠b*3+2 by omega)
         have n12:=ho4.inj (show b*3+1≠b*3+2 by omega)
         have HO5:=zH (HO4.out.below hbD)
         have HE5:=zH (fun j hj=>(HE4.out j hj).below hbD)
         have HB6:=zH (zaa HB5.out hD)
         clear hfit hv10 hv11 hv12 hC10 ho4
         obtain⟨_,q0,q1,q2,_,_,_⟩:=HC10.out
         go_wp2_with fail
         go_region_law (fail)
         all_goals
          clear q0 q1 q2 hbc4 d0 d1 d2 f0 f1 f2 n01 n02 n12
          go_wp2
          go_roundg (bl.length- (i+1))
          case measure=>omega
          case rel=>
           have hs4:=HO5.out.set3 b (.bool t10) (.slice a101 l101 k101) (.slice a102 l102 k102) (fun z=>by simp) (fun z=>by simp) (fun z=>by simp)
           refine⟨i+1,hil,rfl,by go_num,hs4.1,fun j hj=> ?_,HF6.out,HF7.out,HB6.out.trans hs4.2⟩
           by_cases hjb:b=j
           ·subst hjb
            rw[HR.out]
            exact zlg.set3 HO5.out hbn HV12.out
           ·rw[HBT.out j,if_neg (by omega)]
            exact zlg.set3_other HO5.out hbn hjb (HE5.out j hj) _ _ _ (fun z=>by simp) (fun z=>by simp)
        ·obtain rfl:=hv11 hfit
         have HNF:Hid (¬fitS row bl):=zH (fun h=>hfit (by
          have:=h i HIL.out
          rw[HBK.out,HR.out]at this
          exact this))
         clear hv10 hv11 hC10 hfit
         go_wp2_with fail
         go_ret2
         exact zfz.big HGOOD.out HNF.out (zaa HBR.out HB5.out)
      ·obtain rfl:i=bl.length:=by omega
       have HFS:Hid (fitS row bl):=zH (fun y h=>HF3.out y h h)
       have HV:Hid (zbb wr v (ztw bl (qs row) (cnt bl))):=zH (HO3.out.fracs (by rw[zsw,HN.out]) (fun j hj=>by
        rw[zsw,HN.out]at hj
        rw[zuw _ _ _ _ (by rw[HN.out];exact hj)]
        have:=HE3.out j hj
        rwa[List.take_length,List.take_of_length_le (by rw[zgq,HLEN.out];exact Nat.le_refl _)]at this))
       clear ho3 he3 hf3 hf4
       go_wp2_with fail
       go_ret2
       exact⟨_,_,rfl,zaa HBR.out HB3.out,fun h=>absurd h HGOOD.out,fun _ _=>⟨rfl,HV.out⟩,fun _ h=>absurd HFS.out h⟩
theorem lsums_any (va vb:Value) (row:List RF) (bl:List Int) (w:World) (ha:zni w va row) (hb:zgv w vb bl) (hn:bl.length≤128):
 Calls Tryz.prog 21 #[va,vb] w (zfz w row bl):=by
 by_cases h:okB bl∧0<bl.length∧bl.length=row.length
 ·exact lsums_main va vb row bl w ha hb h.1 h.2.1 h.2.2 hn
 ·exact lsums_early va vb row bl w ha hb h
theorem zhv (va vb:Value) (p q:Rat) (w:World) (ha:zqa w va p) (hb:zqa w vb q) (hp:fits p) (hq:fits q) (hf:fits (p+q)):Calls Tryz.prog 19 #[va,vb] w (RF0 w (p+q)):=
 (r2add_any va vb _ _ _ _ _ _ w ha.raw hb.raw ⟨p.den_nz,hp.2,hp.1⟩ ⟨q.den_nz,hq.2,hq.1⟩).mono fun _ _ h=>h.ok (by rw[zvb,zvb]) hf
theorem posR_of {q:Rat} (hf:fits q) (hq:0<q):zfr (decide (q<0)) q.num.natAbs q.den:=by
 refine⟨zuc hf,decide_eq_false (fun h=>absurd (Rat.le_of_lt h) (Rat.not_le.2 hq)),fun h=> ?_⟩
 have h3:q=0:=Rat.num_eq_zero.1 (Int.natAbs_eq_zero.1 h)
 rw[h3]at hq;exact absurd hq (by decide)
structure AfG (c:RC) (ρ:Rat):Prop where
 fρ:fits ρ
 pos:0<ρ
 le:zyp c c.rates.length≤ρ
 h1:∀i j,i<c.rates.length→j<c.rates.length→fits ((zaq c i).getD j 0/ρ)
 h2:∀i,i<c.rates.length→fits (zgg (zaq c i)/ρ)∧fits (1-zgg (zaq c i)/ρ)
 hw:∀k,k≤2→wtA c ρ k≤3800
 ov:∀k,k≤3→∃D B,D≠0∧D<2^60∧B<2^80∧∀q∈itV c ρ k,over D B q
theorem itG_over {c:RC} {R X P Q:Nat} (hR0:R≠0) {ρ:Rat} (ho:∀i j,i<c.rates.length→j<c.rates.length→over R X (zfq c ρ i j)) (hs:∀q∈qs c.start,over 144 Q q) (hX:c.rates.length*X≤P):∀k,∀q∈itV c ρ k,over (144*R^k) (Q*P^k) q
 | 0=>fun q hq=>by simpa using hs q hq
 | k+1=>fun q hq=>by
   have ih:=itG_over hR0 ho hs hX k
   have hD:144*R^k≠0:=Nat.mul_ne_zero (by decide) (Nat.ne_of_gt (Nat.pow_pos (Nat.pos_of_ne_zero hR0)))
   have hq2:q∈zqy c ρ (itV c ρ k):=hq
   unfold zqy zib at hq2
   obtain⟨j,hj,rfl⟩:=List.mem_map.1 hq2
   have hj2:=List.mem_range.1 hj
   have h:over (144*R^k*R) (c.rates.length*(Q*P^k*X)) (sg c.rates.length fun i=>(itV c ρ k).getD i 0*zfq c ρ i j):=over.sg (Nat.mul_ne_zero hD hR0) fun i hi=>over.mul (by
    by_cases hi2:i<(itV c ρ k).length
    ·rw[List.getD_eq_getElem?_getD,List.getElem?_eq_getElem hi2];exact ih _ (List.getElem_mem hi2)
    ·rw[List.getD_eq_getElem?_getD,List.getElem?_eq_none (by omega)];exact over.zero _ _) (ho i j hi hj2)
   rw[Nat.pow_succ,←Nat.mul_assoc]
   refine h.mono ?_
   rw[show Q*P^(k+1)=Q*P^k*P by rw[Nat.pow_succ,Nat.mul_assoc],Nat.mul_left_comm _ (Q*P^k) X]
   exact Nat.mul_le_mul_left _ hX
theorem pow_j {R k:Nat} (hR:R≤23184) (hk:k≤3):144*R^k<2^60∧2^15*(2^19)^k<2^80:=by
 have h1:R^k≤23184^k:=Nat.pow_le_pow_left hR k
 have h2:∀k,k<4→144*23184^k<2^60∧2^15*(2^19)^k<2^80:=by decide+kernel
 obtain⟨h3,h4⟩:=h2 k (by omega)
 exact⟨Nat.lt_of_le_of_lt (Nat.mul_le_mul_left _ h1) h3,h4⟩
theorem pow_k {R k:Nat} (hR:R≤23184) (hk:k≤2):144*R^k<2^38∧2^15*(2^19)^k<2^54:=by
 have h1:R^k≤23184^k:=Nat.pow_le_pow_left hR k
 have h2:∀k,k<3→144*23184^k<2^38∧2^15*(2^19)^k<2^54:=by decide+kernel
 obtain⟨h3,h4⟩:=h2 k (by omega)
 exact⟨Nat.lt_of_le_of_lt (Nat.mul_le_mul_left _ h1) h3,h4⟩
theorem afG_of {c:RC} {N P a R:Nat} (hv:zzp c) (hn:c.rates.length≤N) (hN:N≤10) (hr:∀i j,i<c.rates.length→j<c.rates.length→over 144 P (rq c i j)) (hsum:∀i,i<c.rates.length→over 144 23040 (zgg (zaq c i))) (hs:∀q∈qs c.start,over 144 (2^15) q)
 (hP:P≤23040) (ha:P<2^a) (ha12:12≤a) (hX:N*(46224+P)≤2^19) (hw:N*(N*(a+15)+4)+N*92≤3800) (hR0:R≠0) (hR:R≤23184) (hle:zyp c c.rates.length≤mkRat ((R:Nat):Int) 144):AfG c (mkRat ((R:Nat):Int) 144):=by
 have hrn:∀i j,i<c.rates.length→j<c.rates.length→over 144 P ((zaq c i).getD j 0):=hr
 have ho:∀i j,i<c.rates.length→j<c.rates.length→over R (46224+P) (zfq c (mkRat ((R:Nat):Int) 144) i j):=fun i j hi hj=>
  (stepE_over (n:=c.rates.length) (N:=P) (S:=23040) hR0 hrn hsum hi hj).mono (by omega)
 have hXn:c.rates.length*(46224+P)≤2^19:=Nat.le_trans (Nat.mul_le_mul_right _ hn) hX
 have hit:=itG_over (c:=c) (P:=2^19) (Q:=2^15) hR0 ho hs hXn
 have hD:∀k,144*R^k≠0:=fun k=>Nat.mul_ne_zero (by decide) (Nat.ne_of_gt (Nat.pow_pos (Nat.pos_of_ne_zero hR0)))
 refine⟨?_,?_,hle,step_fits1 (N:=P) hR0 (by omega) (by omega) hrn,step_fits2 (S:=23040) hR0 (by omega) (by decide) hsum,fun k hk=> ?_,fun k hk=> ?_⟩
 ·exact over.fits (D:=144) (B:=R) (by decide) ⟨R,rfl,by simp⟩ (Nat.lt_of_le_of_lt hR (Nat.lt_trans (show 23184<2^15 by decide) (zcu (by decide)))) (Nat.lt_trans (show 144<2^8 by decide) (zcu (by decide)))
 ·have h1:¬fq false R 144<0:=of_decide_eq_false (zqu false R 144 (by decide))
  have h2:fq false R 144≠0:=fq_ne _ hR0 (by decide)
  rw[mk_fq]at h1 h2
  grind
 ·obtain⟨p1,p2⟩:=pow_k hR hk
  have h1:wtF c.rates.length c.rates.length (zfq c (mkRat ((R:Nat):Int) 144))≤N*(N*(a+15)+4):=by
   refine Nat.le_trans (wtF_diag (K:=a+15) (X:=4) fun i j hi hj=> ?_) (Nat.mul_le_mul hn (Nat.add_le_add_right (Nat.mul_le_mul_right _ hn) _))
   unfold zfq
   by_cases e:i=j
   ·rw[if_pos e,if_pos e]
    have h3:over R (R+23040) (1-zgg (zaq c i)/mkRat ((R:Nat):Int) 144):=by
     rw[Rat.sub_eq_add_neg]
     exact over.add hR0 (over.one hR0) (over.neg (over.div (by decide) hR0 (hsum i hi)))
    have h4:=h3.wt (a:=16) (b:=15) hR0 (by omega) (by omega)
    omega
   ·rw[if_neg e,if_neg e]
    exact(over.div (by decide) hR0 (hrn i j hi hj)).wt (a:=a) (b:=15) hR0 ha (by omega)
  have h3:wts (itV c (mkRat ((R:Nat):Int) 144) k)≤_:=ztu (K:=92) fun q hq=>(hit k q hq).wt (a:=54) (b:=38) (hD k) p2 p1
  rw[znq hv]at h3
  unfold wtA
  omega
 ·obtain⟨p1,p2⟩:=pow_j hR hk
  exact⟨_,_,hD k,p1,p2,hit k⟩
theorem AfG.fit {c:RC} {ρ:Rat} (h:AfG c ρ) {k:Nat} (hk:k≤3):∀q∈itV c ρ k,fits q:=fun q hq=>by
 obtain⟨D,B,h1,h2,h3,h4⟩:=h.ov k hk
 exact(h4 q hq).fits h1 (Nat.lt_trans h3 (zcu (by decide))) (Nat.lt_trans h2 (zcu (by decide)))
theorem AfG.sum {c:RC} {ρ:Rat} (h:AfG c ρ) (hv:zzp c) (hn:c.rates.length≤10) {k:Nat} (hk:k≤3) (bl:List Int):fitS ((itV c ρ k).map RF.of) bl:=by
 obtain⟨D,B,h1,h2,h3,h4⟩:=h.ov k hk
 have h5:10*B<2^84:=Nat.lt_of_lt_of_le (Nat.mul_lt_mul_of_pos_left h3 (by decide)) (by decide+kernel)
 exact fitS_of h1 (by rw[znq hv];exact hn) h4 (Nat.lt_trans h5 (zcu (by decide))) (Nat.lt_trans h2 (zcu (by decide)))
theorem AfG.after {c:RC} {ρ:Rat} (h:AfG c ρ) (hv:zzp c) {va vx:Value} {w:World} (ha:zdq w va c) (hx:zqa w vx ρ) {m:Nat} (hm:m≤3):
 Calls Tryz.prog 48 #[va,vx, .int .i64 (m:Nat)] w (fun e w'=>∃v,e= .returned (.tuple #[v, .int .i64 0])∧zbb w' v (itV c ρ m)∧Below w.heap.size w w'):=
 after_ok va vx c _ _ _ ρ m w ha hv hx.raw (posR_of h.fρ h.pos) (zvb ρ) (by omega) h.le h.h1 h.h2 (fun i hi=>h.hw i (by omega))
theorem it_lump {c:RC} {bl:List Int} (h:zex c bl) (hq:zzp (quo c bl).raw) (ρ:Rat):∀k,itV (quo c bl).raw ρ k=ztw bl (itV c ρ k) (cnt bl)
 | 0=>zbu _
 | k+1=>by
   have hv:=h.2.2.2.1
   have hn:c.rates.length=bl.length:=by have:=hv.2.2.2.1;have:=h.2.2.1;omega
   show zqy _ ρ (itV (quo c bl).raw ρ k)=ztw bl (zqy c ρ (itV c ρ k)) (cnt bl)
   rw[it_lump h hq ρ k,zpy hq,zpy hv,zlx,hn,lump_lists h ρ⁻¹ (by rw[znq hv];exact hn)]
theorem inj_le :∀ (m n:Nat) (f:Nat→Nat),(∀i,i<n→f i<m)→(∀i j,i<n→j<n→f i=f j→i=j)→n≤m
 | 0,n,f,h1,_=>by
   by_cases h:0<n
   ·exact absurd (h1 0 h) (by omega)
   ·omega
 | m+1,0,f,_,_=>Nat.zero_le _
 | m+1,n+1,f,h1,h2=>by
   have k:=inj_le m n (fun i=>if f i=m then f n else f i) (fun i hi=>by
    show(if f i=m then f n else f i)<m
    by_cases e:f i=m
    ·rw[if_pos e]
     have a1:=h1 n (Nat.lt_succ_self n)
     have a2:f n≠m:=fun e2=>by have:=h2 i n (by omega) (by omega) (e.trans e2.symm);omega
     omega
    ·rw[if_neg e]
     have a1:=h1 i (by omega)
     omega) (fun i j hi hj e=>by
    have e':(if f i=m then f n else f i)=(if f j=m then f n else f j):=e
    by_cases e1:f i=m
    ·by_cases e2:f j=m
     ·exact h2 i j (by omega) (by omega) (e1.trans e2.symm)
     ·rw[if_pos e1,if_neg e2]at e'
      have:=h2 n j (by omega) (by omega) e'
      omega
    ·by_cases e2:f j=m
     ·rw[if_neg e1,if_pos e2]at e'
      have:=h2 i n (by omega) (by omega) e'
      omega
     ·rw[if_neg e1,if_neg e2]at e'
      exact h2 i j (by omega) (by omega) e')
   omega
theorem cnt_le_of {a b:List Int} (ha:okB a) (hb:okB b) (hl:a.length=b.length) (h:∀i j:Nat,b[i]? =b[j]? →a[i]? =a[j]?):cnt a≤cnt b:=by
 refine inj_le (cnt b) (cnt a) (fun x=>blkN b (zvw a x)) (fun x hx=> ?_) (fun x y hx hy e=> ?_)
 ·obtain⟨f1,f2⟩:=zax ha hx
  have hg:b[zvw a x]? =some (b.getD (zvw a x) 0):=by simp[List.getD,List.getElem?_eq_getElem (show zvw a x<b.length by omega)]
  obtain⟨h1,h2⟩:=hb.lt hg
  show(b.getD (zvw a x) 0).toNat<cnt b
  omega
 ·obtain⟨f1,f2⟩:=zax ha hx
  obtain⟨g1,g2⟩:=zax ha hy
  have hg:b[zvw a x]? =some (b.getD (zvw a x) 0):=by simp[List.getD,List.getElem?_eq_getElem (show zvw a x<b.length by omega)]
  have hg2:b[zvw a y]? =some (b.getD (zvw a y) 0):=by simp[List.getD,List.getElem?_eq_getElem (show zvw a y<b.length by omega)]
  have e':(b.getD (zvw a x) 0).toNat=(b.getD (zvw a y) 0).toNat:=e
  have h1:=(hb.lt hg).1
  have h2:=(hb.lt hg2).1
  have k:=h (zvw a x) (zvw a y) (by rw[hg,hg2];congr 1;omega)
  rw[f2,g2]at k
  injection k with k
  omega
def cols (a:List (List RF)):Nat:=(a.headD []).length
def mulP (a b:List (List RF)):Prop:=zqh a∧zqh b∧cols a=b.length
instance (a b:List (List RF)):Decidable (mulP a b):=inferInstanceAs (Decidable (_∧_∧_))
def appP (a:List (List RF)) (v:List RF):Prop:=zqh a∧vecP v (cols a)
instance (a :List (List RF)) (v:List RF):Decidable (appP a v):=inferInstanceAs (Decidable (_∧_))
def LimV (w:World) (v:Value) (s:Bool) (a b:List Nat):Prop:=
 ∃ (xa:Option Addr) (xn xk:Nat) (ya:Option Addr) (yn yk:Nat),v= .agg #[.bool s, .slice xa xn xk, .slice ya yn yk]∧zfc w (.slice xa xn xk) a∧zfc w (.slice ya yn yk) b
theorem LimV.below {w w':World} {v:Value} {s:Bool} {a b:List Nat} (h:LimV w v s a b) (hb:Below w.heap.size w w'):LimV w' v s a b:=by
 obtain⟨xa,xn,xk,ya,yn,yk,h1,h2,h3⟩:=h
 exact⟨xa,xn,xk,ya,yn,yk,h1,h2.below hb,h3.below hb⟩
def RLim (w0:World) (s:Bool) (a b:List Nat) (er:Int) (e:Ending) (w:World):Prop:=∃v,e= .returned (.tuple #[v, .int .i64 er])∧LimV w v s a b∧Below w0.heap.size w0 w
theorem zqa.lim {w:World} {v:Value} {q:Rat} (h:zqa w v q):LimV w v (decide (q<0)) (zla q.num.natAbs) (zla q.den):=by
 obtain⟨a,b,rfl,h1,h2⟩:=h
 obtain⟨a1,a2,a3,rfl,_⟩:=h1.v.sl
 obtain⟨b1,b2,b3,rfl,_⟩:=h2.v.sl
 exact⟨_,_,_,_,_,_,rfl,h1.v,h2.v⟩
theorem RF0.lim {w0:World} {q:Rat} {e:Ending} {w:World} (h:RF0 w0 q e w):RLim w0 (decide (q<0)) (zla q.num.natAbs) (zla q.den) 0 e w:=by
 obtain⟨v,h1,h2,h3⟩:=h
 exact⟨v,h1,h2.lim,h3⟩
theorem LimV.zero (w:World):LimV w (.agg #[.bool false, .slice none 0 0, .slice none 0 0]) false [] []:=⟨_,_,_,_,_,_,rfl,⟨zgc.nil,rfl,fun j h=>by simp at h,by simp[Lm]⟩,⟨zgc.nil,rfl,fun j h=>by simp at h,by simp[Lm]⟩⟩
theorem zjy.lim {w0:World} {P:Prop} {R:Rat} {e:Ending} {w:World} (h:zjy w0 P R e w):(P→RLim w0 (decide (R<0)) (zla R.num.natAbs) (zla R.den) 0 e w)∧(¬P→RLim w0 false [] [] 14 e w):=by
 rcases h with⟨h1,h2⟩ | ⟨h1,rfl,h3⟩
 ·exact⟨fun _=>h2.lim,fun h=>absurd h1 h⟩
 ·exact⟨fun h=>absurd h h1,fun _=>⟨_,rfl,LimV.zero _,h3⟩⟩
set_option maxRecDepth 100000 in
set_option maxHeartbeats 1600000 in
theorem zow (va vb:Value) (s:Bool) (x z:List Nat) (w:World) (ha:LimV w va s x z) (hb:LimV w vb s x z):
 Calls Tryz.prog 61 #[va,vb] w (fun e w'=>e= .returned (.bool true)∧Below w.heap.size w w'):=by
 obtain⟨a1a,a1n,a1c,a2a,a2n,a2c,rfl,n1,n2⟩:=ha
 obtain⟨b1a,b1n,b1c,b2a,b2n,b2c,rfl,m1,m2⟩:=hb
 have hbx:=zca w (.cells #[.bool s, .slice a1a a1n a1c, .slice a2a a2n a2c] 38)
 have hbx:=(hbx.alloc hbx.size (.cells #[.bool s, .slice b1a b1n b1c, .slice b2a b2n b2c] 38))
 have n1:=n1.below hbx
 have n2:=n2.below hbx
 have m1:=m1.below hbx
 have m2:=m2.below hbx
 have hC:=(C3.new w 38 (.bool s) (.slice a1a a1n a1c) (.slice a2a a2n a2c)).allocS (.cells #[.bool s, .slice b1a b1n b1c, .slice b2a b2n b2c] 38)
 have hD:=C3.new (w.alloc (.cells #[.bool s, .slice a1a a1n a1c, .slice a2a a2n a2c] 38)) 38 (.bool s) (.slice b1a b1n b1c) (.slice b2a b2n b2c)
 rw[show(w.alloc (.cells #[.bool s, .slice a1a a1n a1c, .slice a2a a2n a2c] 38)).heap.size=w.heap.size+1 from by simp]at hD
 have tok:True:=trivial
 go_enter Tryz.func61,Tryz.ntmps61
 go_wp2_with (first
  |(go_at_call 140;have _t:=tok;(with_reducible refine(zrh _ _ x x _ n1 m1).mono ?_);rintro e1 w1 ⟨⟨r1,rfl,h1⟩,hbel1⟩;obtain rfl:r1=true:=h1.2 rfl;clear h1 tok _t
    have n3:=n2.below hbel1
    have m3:=m2.below hbel1
    obtain⟨_,c0,c1,c2,_,_,_⟩:=hC.belowS hbel1
    obtain⟨_,d0,d1,d2,_,_,_⟩:=hD.belowS hbel1)
  |(go_at_call 140;(with_reducible refine(zrh _ _ z z _ n3 m3).mono ?_);rintro e2 w2 ⟨⟨r2,rfl,h2⟩,hbel2⟩;obtain rfl:r2=true:=h2.2 rfl;clear h2))
 go_ret
 exact⟨rfl,(hbx.trans (hbel1.mono hbx.size)).trans (hbel2.mono (hbx.trans (hbel1.mono hbx.size)).size)⟩
end Go.Proofs.YtlpdkbmmbdfoiaaGreat
