/-
  package linear: square, Det, Rank, of matrices in canonical form that elimination keeps small.
-/
import Derived.Test.YtlpdkbmmbdfoiaaGLi7
import Derived.Test.YtlpdkbmmbdfoiaaGCh2
import Derived.Test.YtlpdkbmmbdfoiaaGTa6
set_option linter.unusedVariables false
set_option linter.unusedSimpArgs false
namespace Go.Proofs.Ytlpdkbmmbdfoiaa
open Go.RowKit
set_option maxRecDepth 100000 in
set_option maxHeartbeats 3200000 in
theorem begin_two (va:Value) (bd:Addr) (bn bc:Nat) (n m m2:Nat) (A A2:Mx) (w:World) (ha:zam w va n m A) (hb:zam w (.slice (some bd) bn bc) n m2 A2) (hn1:1≤n) (hn:n≤100) (hm1:1≤m) (hm:m≤100) (hm21:1≤m2) (hm2:m2≤100):
 Calls Try.prog 99 #[va, .slice (some bd) bn bc] w (RBeg w n (m+m2) (zpa m A A2) m):=by
 obtain⟨i3,hi3,hz3,hs3,hy3⟩:=info_parts Try.infoF
 have hAP:=append_fr (P:=Try.prog) 23 32 i3 Try.underlying23 hi3 hz3 hs3 hy3
 obtain⟨i4,hi4,hz4,hs4,hy4⟩:=info_parts Try.infoRow
 have hAR:=zxl (P:=Try.prog) 24 23 i4 _ 24 Try.underlying24 hi4 hz4 hs4 hy4 (by decide) rfl (fun z=>by simp)
 clear hi3 hz3 hs3 hy3 hi4 hz4 hs4 hy4
 have sa:=ha.sl
 have la:=ha.len
 obtain⟨r0,hc0,hr0⟩:=ha.row 0 (by omega)
 have sl0:=hr0.sl
 have ln0:slen r0=m:=by rw[hr0.len,zea]
 have HA:=zH ha
 have S0:=zH hc0
 have sb:=hb.sl
 have lb:=hb.len
 have HB0:=zH hb
 clear hb
 have i0:(0:Int)<(n:Nat):=by omega
 have i00:0<n:=by omega
 clear ha hr0
 go_enter Try.func99,Try.ntmps99
 go_wp2_with fail
 go_region_held3 (fun w'=>w'.cell? (ptr va 0)=some r0∧Below w.heap.size w w') (first
  | with_reducible exact kp1a S0.out (zja _)
  | with_reducible exact kp1w (by assumption) (zca _ _)
  | with_reducible exact kp1w (by assumption) (by assumption)) (first
  |(go_at_call 116;(with_reducible refine(lnumber_one _).mono ?_);rintro e1 w1 ⟨v1,rfl,hv1,hb1⟩
    obtain⟨t9,x9,y9,rfl,⟨a1,l91,k91,rfl,_⟩,⟨a2,l92,k92,rfl,_⟩⟩:=hv1.isF
    have hB1:=zaa (kp1c (by assumption)) hb1))
 all_goals
  have hBZ:=kp1c (by assumption)
  have hI:=znd.init (w:=w1.alloc (.cells #[.slice none 0 0, .int .i64 m, .int .i64 (0:Nat), .bool t9, .slice a1 l91 k91, .slice a2 l92 k92, .int .i64 0] 119)) (m:=(m+m2)) (zpa m A A2) (by omega) (zjf.new w1 _ _) (hv1.below (zca _ _))
  have HI:=zH hI
  have HBZ:=zH hBZ
  have hTw:w.heap.size≤w1.heap.size:=hB1.size
  clear hI hBZ hv1 hb1 hB1 hc0
  go_wp2_with fail
  obtain⟨T,hT⟩:∃T,w1.heap.size=T:=⟨_,rfl⟩
  rw[hT]at HI hTw
  rw[hT]
  have HT:=zH hT
  clear hT
  go_loopg [18] (n) (fun g u18 wr=>∃ (k:Nat) (vR:Value) (rs:List Value),k≤n∧g=n-k∧u18= .int .i64 k∧znd wr T vR rs k (m+m2) (zpa m A A2) m 0 1∧Below w.heap.size w wr)
  case atStart=>exact⟨0,_,[],Nat.zero_le _,rfl,rfl,HI.out,HBZ.out⟩
  case round=>
   obtain⟨k,vR,rs,hk,hg,rfl,hTab,hbr⟩:=hrel
   obtain⟨w2,hw2⟩:∃w2,w2=wr:=⟨_,rfl⟩
   subst hw2
   have HTAB:=zH hTab
   have HBR:=zH hbr
   have HG:=zH hg
   clear HI HBZ
   by_cases hkn:k<n
   ·obtain⟨rv,hrc,hrv⟩:=(HA.out.below hbr).row k hkn
    have hrlen:=hrv.len
    rw[zea]at hrlen
    obtain⟨ra,rn,rc,rfl,hs1,hs2,hs3⟩:=id hrv.sl
    obtain⟨ad,rfl⟩:∃ad,ra=some ad:=by
     cases ra with
     | none=>exfalso;have h5:=hs3 rfl;have h6:rn=m:=hrlen;omega
     | some ad=>exact⟨ad,rfl⟩
    have hle1:([]:List Rat).length+(zib m (A k)).length≤1000:=by rw[zea];simp;omega
    have hTle:T+1≤w2.heap.size:=hTab.lt
    have hnil:=zya.nil w2 32 (T+1)
    have HRV:=zH hrv
    obtain⟨rv2,hrc2,hrv2⟩:=(HB0.out.below hbr).row k hkn
    have hrlen2:=hrv2.len
    rw[zea]at hrlen2
    obtain⟨ra2,rn2,rc2,rfl,ht1,ht2,ht3⟩:=id hrv2.sl
    obtain⟨ad2,rfl⟩:∃ad2,ra2=some ad2:=by
     cases ra2 with
     | none=>exfalso;have h5:=ht3 rfl;have h6:rn2=m2:=hrlen2;omega
     | some ad2=>exact⟨ad2,rfl⟩
    have hle2:([]++zib m (A k)).length+(zib m2 (A2 k)).length≤1000:=by rw[List.nil_append,zea,zea];omega
    have HRV2:=zH hrv2
    clear hrv2 hrlen2 ht1 ht2 ht3
    clear hTab hbr hg hs1 hs2 hs3 hrlen
    go_wp2_with (first
     |(at_builtin;refine hAP w2 rfl _ _ rfl (T+1) _ [] rfl hnil ad rn rc (zib m (A k)) rfl HRV.out hle1 hTle ?_;intro v5 w5 hf5 hg5 hn5 ho5 sv5
       obtain⟨u1,u2,u3,rfl,_⟩:=id sv5
       have hb5:Below w2.heap.size w2 w5:=zna hg5 (Nat.le_refl _) (fun k hk=>by cases hk)
       have hT5:=HTAB.out.below hb5
       have hfl5:([]++zib m (A k)).length=m:=by rw[List.nil_append,zea]
       have HT5:=zH hT5
       have HF5:=zH hf5
       have HO5:=zH ho5
       have HB5:=zH (zaa HBR.out hb5)
       have hle5:T+1≤w5.heap.size:=hT5.lt
       have HRV5:=zH (HRV2.out.below hb5)
       have hrc5:=zba hb5 hrc2
       have hsf5:=hf5
       clear hT5 hf5 hg5 hn5 ho5)
     |(at_builtin;refine hAP w5 rfl _ _ rfl (T+1) (.slice u1 u2 u3) ([]++zib m (A k)) rfl hsf5 ad2 rn2 rc2 (zib m2 (A2 k)) rfl HRV5.out hle2 hle5 ?_;intro v6 w6 hf6 hg6 hn6 ho6 sv6
       obtain⟨z1,z2,z3,rfl,_⟩:=id sv6
       have hgb:=HF5.out.blk (by rw[List.nil_append,zea];omega)
       have hT6:=HT5.out.grownR hg6 hn6 (by obtain⟨g,e1,_,e2,_⟩:=hgb;rw[e1];intro e;injection e with e;omega) (by
        obtain⟨ys,y1,y2⟩:=HF5.out
        exact HT5.out.own.kinds y1 (by decide)) (fun i hi=>by
        obtain⟨g,e1,e2⟩:=HTAB.out.old hi
        rw[e1];rcases HO5.out with h | h<;>rw[h]
        ·exact fun e=>by cases e
        ·intro e;injection e with e;omega)
       have hap6:∀i (hi:i<rs.length),rs[i].ownBlock≠(Value.slice z1 z2 z3).ownBlock:=fun i hi=>by
        obtain⟨g,e1,e2⟩:=HTAB.out.old hi
        have h52:w2.heap.size≤w5.heap.size:=hb5.size
        rw[e1];rcases ho6 with h | h<;>rw[h]
        ·rcases HO5.out with h | h<;>rw[h]
         ·exact fun e=>by cases e
         ·intro e;injection e with e;omega
        ·intro e;injection e with e;omega
       have HT6:=zH hT6
       have HF6:=zH hf6
       have HAP6:=zH hap6
       have HB6:=zH (HB5.out.trans (zna hg6 (by have:=HT5.out.lt;omega) (fun k hk=>by obtain⟨g,e1,_,e2,_⟩:=hgb;rw[e1]at hk;injection hk with hk;omega)))
       obtain⟨_,_,_,_,_,_,t5,_⟩:=hT6.cells
       have hown6:=hT6.own
       have hlen5:rs.length≤1000:=by rw[hT6.rl];omega
       have hle6:T+1≤w6.heap.size:=hT6.lt
       clear hT6 hf6 hg6 hn6 ho6 hap6 hgb hsf5)
     |(at_builtin;refine hAR w6 rfl _ _ rfl (T+1) _ vR rs rfl hown6 (.slice z1 z2 z3) rfl (fun z=>by simp) rfl hlen5 hle6 ?_;intro v7 w7 ho7 hg7 hn7 hq7 sv7
       obtain⟨y1,y2,y3,rfl,_⟩:=id sv7
       have hpush:=HT6.out.push (r:= .slice z1 z2 z3) (by have h:=HF6.out;rw[List.nil_append,rowL_app]at h;exact h) HAP6.out ho7 hg7
       have HP:=zH hpush
       have HB7:=zH (HB6.out.trans (hpush.2.mono hTw))
       obtain⟨_,_,_,_,_,_,t0,_,_,_,_,_,_,_,tf⟩:=HT6.out.cells
       have t7:=(zjf.cell (show zjf w7 T _ from(HT6.out.box.choose_spec.choose_spec.1).grown hg7 (fun e=>by have:=(HT6.out.own.block T e).1;omega)) 0 rfl)
       have f7:=(zjf.frozen (show zjf w7 T _ from(HT6.out.box.choose_spec.choose_spec.1).grown hg7 (fun e=>by have:=(HT6.out.own.block T e).1;omega)) 0)
       clear ho7 hg7 hn7 hq7 hpush t0 tf))
    go_roundg (n- (k+1))
    case measure=>(have:=HG.out;omega)
    case rel=>exact⟨k+1,_,_,by omega,rfl,by go_num,HP.out.1,HB7.out⟩
   ·obtain rfl:k=n:=by omega
    clear hTab hbr hg
    go_wp2_with fail
    go_ret
    exact⟨T,vR,rs,rfl,HBR.out,HTAB.out,hTw⟩
set_option maxHeartbeats 3200000
set_option maxRecDepth 100000 in
theorem zfl (va:Value) (m:List (List RF)) (w:World) (ha:MatN w va m) (hok:∀l∈m,∀x∈l,x.ok) (hl:∀l∈m,l.length≤65536) (hm:m.length≤65536):
 Calls Try.prog 63 #[va] w fun e w'=>e= .returned (.int .i64 (wtsM m))∧Below w.heap.size w w':=by
 have sa:=ha.sl
 have la:=ha.len
 have HOK:=zH hok
 have HL:=zH hl
 clear hok hl
 go_enter Try.func63,Try.ntmps63
 go_wp2_with fail
 go_loopw [3,13] (fun u3 u13 wr=>∃ (k:Nat),k≤m.length∧u13= .int .i64 k∧u3= .int .i64 (wtsM (m.take k))∧Below w.heap.size w wr) (fun _ u13 _=>m.length- (intOf u13).toNat)
 case atStart=>exact⟨0,Nat.zero_le _,rfl,rfl,Below.refl _ _⟩
 case round=>
  obtain⟨k,hk,rfl,rfl,hb⟩:=hrel
  by_cases hkm:k<m.length
  ·obtain⟨rv,hrc,hrv⟩:=(ha.below hb).at' k hkm
   have hW:wtsM (m.take k)≤536870912*65536:=by
    have h1:=wtsM_le (m.take k) (fun l h=>HOK.out l (List.mem_of_mem_take h)) (fun l h=>HL.out l (List.mem_of_mem_take h))
    rw[List.length_take]at h1;omega
   have hlk:=HL.out m[k] (List.getElem_mem hkm)
   have HOKL:=zH (HOK.out m[k] (List.getElem_mem hkm))
   have HTM:=zH (wtsM_take m k hkm)
   generalize m[k]'hkm=l at *
   generalize wtsM (m.take k)=W0 at *
   have srv:=hrv.sl
   have lrv:=hrv.len
   obtain⟨wo,rfl⟩:∃wo:World,wo=wr:=⟨_,rfl⟩
   go_wp2_with fail
   go_loopw [3,19] (fun u3 u19 wi=>∃ (j:Nat),j≤l.length∧u19= .int .i64 j∧u3= .int .i64 ((W0+wts (qs (l.take j)):Nat):Int)∧Below wo.heap.size wo wi) (fun _ u19 _=>l.length- (intOf u19).toNat)
   case atStart=>exact⟨0,Nat.zero_le _,rfl,by simp[qs,wts],Below.refl _ _⟩
   case round=>
    obtain⟨j,hj,rfl,rfl,hbi⟩:=hrel
    by_cases hjl:j<l.length
    ·obtain⟨xa,xb,c1,c2,c3,hxa,hxb⟩:=(hrv.below hbi).at' j hjl
     obtain⟨c1a,c1l,c1k,rfl,_⟩:=hxa.slen.1
     obtain⟨c2a,c2l,c2k,rfl,_⟩:=hxb.slen.1
     have HX:=zH (HOKL.out l[j] (List.getElem_mem hjl))
     have HTS:=zH (wts_qs l j hjl)
     have hWj:wts (qs (l.take j))≤8192*65536:=by
      have h1:=wts_le (l.take j) (fun x h=>HOKL.out x (List.mem_of_mem_take h))
      rw[List.length_take]at h1;omega
     generalize l[j]'hjl=x at *
     generalize wts (qs (l.take j))=W1 at *
     have hA:zdc (wr.alloc (.cells #[.bool x.neg, .slice c1a c1l c1k, .slice c2a c2l c2k] 32)) (.agg #[.bool x.neg, .slice c1a c1l c1k, .slice c2a c2l c2k]) x.neg x.n x.d:=⟨_,_,rfl,hxa.below (zca _ _),hxb.below (zca _ _)⟩
     have hb1:=zaa hbi (zca wr (.cells #[.bool x.neg, .slice c1a c1l c1k, .slice c2a c2l c2k] 32))
     obtain⟨hf1,hf2⟩:=RF.fits HX.out
     have hn0:=zld (n:=x.q.num.natAbs)
     have hd1:=zse (n:=x.q.den)
     have hd0:=x.q.den_nz
     obtain⟨bn,hbn⟩:∃bn,zua x.q.num.natAbs=bn:=⟨_,rfl⟩
     obtain⟨bd,hbd⟩:∃bd,zua x.q.den=bd:=⟨_,rfl⟩
     rw[hbn]at hf1 hn0
     rw[hbd]at hf2 hd1
     have HBN:=zH hbn
     have HBD:=zH hbd
     clear hbn hbd hxa hxb
     by_cases hz:x.q.num=0
     ·have hbz:bn=0:=by have:=hn0.1;omega
      have HW:=zH (wt_zero hz)
      subst hbz
      clear hz hn0 hd1 hd0
      go_wp2_with (first
       |(go_at_call 88;(with_reducible refine(zok _ x _ hA HX.out).mono ?_);rintro e w7 ⟨v,rfl,hv,hb7⟩
         obtain⟨xa2,xb2,rfl,hxa2,hxb2⟩:=hv
         obtain⟨y1,y2,y3,rfl,_⟩:=hxa2.v.sl
         obtain⟨y4,y5,y6,rfl,_⟩:=hxb2.v.sl
         have hxa3:=(hxa2.below (zca w7 (.cells #[.bool (decide (x.q<0)), .slice y1 y2 y3, .slice y4 y5 y6] 32))).nat
         have hxb3:=(hxb2.below (zca w7 (.cells #[.bool (decide (x.q<0)), .slice y1 y2 y3, .slice y4 y5 y6] 32))).nat
         have hb8:=zaa (zaa hb1 hb7) (zca w7 (.cells #[.bool (decide (x.q<0)), .slice y1 y2 y3, .slice y4 y5 y6] 32)))
       |(go_at_call 91;first
         |((with_reducible refine(zva _ _ _ hxa3).mono ?_);rintro e w' ⟨rfl,rfl⟩;rw[HBN.out])
         |((with_reducible refine(zva _ _ _ hxb3).mono ?_);rintro e w' ⟨rfl,rfl⟩;rw[HBD.out])))
      go_roundw
      case rel=>exact⟨j+1,hjl,by go_num,by rw[HTS.out,HW.out];go_num,hb8⟩
      case measure=>simp[intOf];omega
     ·have hbz:0<bn:=hn0.2 (by omega)
      have hbz2:(((bn:Nat):Int)==0)=false:=by simp;omega
      by_cases hd:x.q.den=1
      ·have HW:=zH (wt_int hz hd)
       have hbd1:¬1<bd:=fun h=>by have:=hd1.1 h;omega
       clear hz hn0 hd1 hd0 hd
       go_wp2_with (first
        |(go_at_call 88;(with_reducible refine(zok _ x _ hA HX.out).mono ?_);rintro e w7 ⟨v,rfl,hv,hb7⟩
          obtain⟨xa2,xb2,rfl,hxa2,hxb2⟩:=hv
          obtain⟨y1,y2,y3,rfl,_⟩:=hxa2.v.sl
          obtain⟨y4,y5,y6,rfl,_⟩:=hxb2.v.sl
          have hxa3:=(hxa2.below (zca w7 (.cells #[.bool (decide (x.q<0)), .slice y1 y2 y3, .slice y4 y5 y6] 32))).nat
          have hxb3:=(hxb2.below (zca w7 (.cells #[.bool (decide (x.q<0)), .slice y1 y2 y3, .slice y4 y5 y6] 32))).nat
          have hb8:=zaa (zaa hb1 hb7) (zca w7 (.cells #[.bool (decide (x.q<0)), .slice y1 y2 y3, .slice y4 y5 y6] 32)))
        |(go_at_call 91;first
          |((with_reducible refine(zva _ _ _ hxa3).mono ?_);rintro e w' ⟨rfl,rfl⟩;rw[HBN.out])
          |((with_reducible refine(zva _ _ _ hxb3).mono ?_);rintro e w' ⟨rfl,rfl⟩;rw[HBD.out])))
       go_roundw
       case rel=>exact⟨j+1,hjl,by go_num,by rw[HTS.out,HW.out,HBN.out];go_num,hb8⟩
       case measure=>simp[intOf];omega
      ·have HW:=zH (wt_frac hz hd)
       have hbd1:1<bd:=hd1.2 (by omega)
       clear hz hn0 hd1 hd0 hd
       go_wp2_with (first
        |(go_at_call 88;(with_reducible refine(zok _ x _ hA HX.out).mono ?_);rintro e w7 ⟨v,rfl,hv,hb7⟩
          obtain⟨xa2,xb2,rfl,hxa2,hxb2⟩:=hv
          obtain⟨y1,y2,y3,rfl,_⟩:=hxa2.v.sl
          obtain⟨y4,y5,y6,rfl,_⟩:=hxb2.v.sl
          have hxa3:=(hxa2.below (zca w7 (.cells #[.bool (decide (x.q<0)), .slice y1 y2 y3, .slice y4 y5 y6] 32))).nat
          have hxb3:=(hxb2.below (zca w7 (.cells #[.bool (decide (x.q<0)), .slice y1 y2 y3, .slice y4 y5 y6] 32))).nat
          have hb8:=zaa (zaa hb1 hb7) (zca w7 (.cells #[.bool (decide (x.q<0)), .slice y1 y2 y3, .slice y4 y5 y6] 32)))
        |(go_at_call 91;first
          |((with_reducible refine(zva _ _ _ hxa3).mono ?_);rintro e w' ⟨rfl,rfl⟩;rw[HBN.out])
          |((with_reducible refine(zva _ _ _ hxb3).mono ?_);rintro e w' ⟨rfl,rfl⟩;rw[HBD.out])))
       go_roundw
       case rel=>exact⟨j+1,hjl,by go_num,by rw[HTS.out,HW.out,HBN.out,HBD.out];go_num,hb8⟩
       case measure=>simp[intOf];omega
    ·obtain rfl:j=l.length:=by omega
     rw[List.take_length]
     go_wp2_with fail
     go_roundw
     case rel=>exact⟨k+1,hkm,by go_num,by rw[HTM.out],hb.trans (hbi.mono hb.size)⟩
     case measure=>simp[intOf];omega
  ·obtain rfl:k=m.length:=by omega
   rw[List.take_length]
   go_wp2_with fail
   go_ret
   exact⟨rfl,hb⟩
def vecP (l:List RF) (n:Nat):Prop:=(∀x∈l,x.ok)∧l.length=n
instance (l :List RF) (n:Nat):Decidable (vecP l n):=inferInstanceAs (Decidable (_∧_))
set_option maxRecDepth 100000 in
theorem zfh (va:Value) (l:List RF) (n:Nat) (w:World) (ha:zni w va l) (hn:n≤65536):
 Calls Try.prog 62 #[va, .int .i64 n] w fun e w'=>e= .returned (.bool (decide (vecP l n)))∧Below w.heap.size w w':=by
 have sa:=ha.sl
 have la:=ha.len
 have hle:=sa.le
 rw[la]at hle
 have hlb:l.length≤9223372036854775807:=by omega
 clear hle
 go_enter Try.func62,Try.ntmps62
 go_wp2_with fail
 go_loopw [9] (fun u9 wr=>∃ (k:Nat),k≤l.length∧u9= .int .i64 k∧(∀x∈l.take k,x.ok)∧Below w.heap.size w wr) (fun u9 _=>l.length- (intOf u9).toNat)
 case atStart=>exact⟨0,Nat.zero_le _,rfl,fun x h=>by simp at h,Below.refl _ _⟩
 case round=>
  obtain⟨k,hk,rfl,hok,hb⟩:=hrel
  have HOK:=zH hok
  clear hok
  by_cases hkl:k<l.length
  ·obtain⟨xa,xb,c1,c2,c3,hxa,hxb⟩:=(ha.below hb).at' k hkl
   obtain⟨c1a,c1l,c1k,rfl,_⟩:=hxa.slen.1
   obtain⟨c2a,c2l,c2k,rfl,_⟩:=hxb.slen.1
   obtain⟨x,hx⟩:∃x,l[k]'hkl=x:=⟨_,rfl⟩
   rw[hx]at c1 hxa hxb
   have HMEM:Hid (x∈l):=zH (by rw[←hx];exact List.getElem_mem hkl)
   have HTK:Hid (l.take (k+1)=l.take k++ [x]):=zH (by rw[zxc l k hkl,hx])
   have hA:zdc (wr.alloc (.cells #[.bool x.neg, .slice c1a c1l c1k, .slice c2a c2l c2k] 32)) (.agg #[.bool x.neg, .slice c1a c1l c1k, .slice c2a c2l c2k]) x.neg x.n x.d:=⟨_,_,rfl,hxa.below (zca _ _),hxb.below (zca _ _)⟩
   have hb1:=zaa hb (zca wr (.cells #[.bool x.neg, .slice c1a c1l c1k, .slice c2a c2l c2k] 32))
   clear hxa hxb hx
   by_cases hko:x.ok
   ·have HX:Hid (okN x.n x.d):=zH hko
    clear hko
    go_wp2_with (go_at_call 76;(with_reducible refine(zrd _ x.neg x.n x.d _ hA HX.out).mono ?_);rintro e w7 ⟨rfl,hb7⟩)
    go_roundw
    case rel=>exact⟨k+1,hkl,by go_num,fun y hy=>by
     rw[HTK.out]at hy
     rcases List.mem_append.1 hy with h | h
     ·exact HOK.out y h
     ·have :y=x:=by simpa using h
      rw[this];exact HX.out,zaa hb1 hb7⟩
    case measure=>simp[intOf];omega
   ·have HX:Hid (¬okN x.n x.d):=zH hko
    have HBAD:Hid (¬vecP l n):=zH (fun h=>hko (h.1 x HMEM.out))
    clear hko
    go_wp2_with (go_at_call 76;(with_reducible refine(valid_no _ x.neg x.n x.d _ hA HX.out).mono ?_);rintro e w7 ⟨rfl,hb7⟩)
    go_ret
    exact⟨by rw[decide_eq_false HBAD.out];rfl,zaa hb1 hb7⟩
  ·obtain rfl:k=l.length:=by omega
   have HD:Hid (decide (vecP l n)=decide (l.length=n)):=zH (by
    have h:=HOK.out
    rw[List.take_length]at h
    by_cases h2:l.length=n
    ·rw[decide_eq_true h2,decide_eq_true (show vecP l n from⟨h,h2⟩)]
    ·rw[decide_eq_false h2,decide_eq_false (fun h3=>h2 h3.2)])
   go_wp2_with fail
   go_ret
   refine⟨?_,hb⟩
   rw[HD.out]
   by_cases h2:l.length=n
   ·subst h2;simp
   ·have h3:¬ ((l.length:Int)=(n:Int)):=by omega
    simp[h2,h3]
def zqh (m:List (List RF)):Prop:=1≤m.length∧m.length≤24∧1≤(m.headD []).length∧(m.headD []).length≤24∧∀l∈m,vecP l (m.headD []).length
instance (m :List (List RF)):Decidable (zqh m):=inferInstanceAs (Decidable (_∧_∧_∧_∧_))
def RShape (w0:World) (m:List (List RF)) (e:Ending) (w:World):Prop:=
 e= .returned (if zqh m then .tuple #[.int .i64 m.length, .int .i64 (m.headD []).length, .bool true]else .tuple #[.int .i64 0, .int .i64 0, .bool false])∧Below w0.heap.size w0 w
set_option maxRecDepth 100000 in
set_option maxHeartbeats 3200000 in
theorem shape_any (va:Value) (m:List (List RF)) (w:World) (ha:MatN w va m):
 Calls Try.prog 98 #[va] w (RShape w m):=by
 have sa:=ha.sl
 have la:=ha.len
 have hle:=sa.le
 rw[la]at hle
 have hlb:m.length≤9223372036854775807:=by omega
 clear hle
 by_cases h1:m.length<1
 ·have HBAD:Hid (¬zqh m):=zH (fun h=>by have:=h.1;omega)
  go_enter Try.func98,Try.ntmps98
  go_wp2_with fail
  refine bodyPost_ret (v:= .tuple #[.int .i64 0, .int .i64 0, .bool false]) (by simp[results,Try.results98,go_sem]) rfl ⟨?_,Below.refl _ _⟩
  rw[if_neg HBAD.out]
 ·by_cases h2:24<m.length
  ·have HBAD:Hid (¬zqh m):=zH (fun h=>by have:=h.2.1;omega)
   go_enter Try.func98,Try.ntmps98
   go_wp2_with fail
   refine bodyPost_ret (v:= .tuple #[.int .i64 0, .int .i64 0, .bool false]) (by simp[results,Try.results98,go_sem]) rfl ⟨?_,Below.refl _ _⟩
   rw[if_neg HBAD.out]
  ·obtain⟨r0,hc0,hr0⟩:=ha.at' 0 (by omega)
   have hd0:m.headD []=m[0]'(by omega):=by
    cases m with
    | nil=>simp at h1
    | cons a m=>rfl
   rw[←hd0]at hr0
   have sl0:=hr0.sl
   have ln0:=hr0.len
   obtain⟨x,hx⟩:∃x,m.headD []=x:=⟨_,rfl⟩
   rw[hx]at hr0 ln0 hd0
   have HX:=zH hx
   have i0:0<m.length:=by omega
   clear hd0 hr0 hx h1
   by_cases h3:x.length<1
   ·have HBAD:Hid (¬zqh m):=zH (fun h=>by have:=h.2.2.1;rw[HX.out]at this;omega)
    go_enter Try.func98,Try.ntmps98
    go_wp2_with fail
    refine bodyPost_ret (v:= .tuple #[.int .i64 0, .int .i64 0, .bool false]) (by simp[results,Try.results98,go_sem]) rfl ⟨?_,Below.refl _ _⟩
    rw[if_neg HBAD.out]
   ·by_cases h4:24<x.length
    ·have HBAD:Hid (¬zqh m):=zH (fun h=>by have:=h.2.2.2.1;rw[HX.out]at this;omega)
     go_enter Try.func98,Try.ntmps98
     go_wp2_with fail
     refine bodyPost_ret (v:= .tuple #[.int .i64 0, .int .i64 0, .bool false]) (by simp[results,Try.results98,go_sem]) rfl ⟨?_,Below.refl _ _⟩
     rw[if_neg HBAD.out]
    ·go_enter Try.func98,Try.ntmps98
     go_wp2_with fail
     go_loopw [31] (fun u31 wr=>∃ (k:Nat),k≤m.length∧u31= .int .i64 k∧(∀l∈m.take k,vecP l x.length)∧Below w.heap.size w wr) (fun u31 _=>m.length- (intOf u31).toNat)
     case atStart=>exact⟨0,Nat.zero_le _,rfl,fun l h=>by simp at h,Below.refl _ _⟩
     case round=>
      obtain⟨k,hk,rfl,hok,hb⟩:=hrel
      have HOK:=zH hok
      have hc0:=zba hb hc0
      clear hok
      by_cases hkl:k<m.length
      ·obtain⟨rk,hrc,hrk⟩:=(ha.below hb).at' k hkl
       obtain⟨l,hl⟩:∃l,m[k]'hkl=l:=⟨_,rfl⟩
       rw[hl]at hrk
       have HMEM:Hid (l∈m):=zH (by rw[←hl];exact List.getElem_mem hkl)
       have HTK:Hid (m.take (k+1)=m.take k++ [l]):=zH (by rw[zxc m k hkl,hl])
       have i1:x.length≤65536:=by omega
       clear hl
       by_cases hv:vecP l x.length
       ·have HV:=zH hv
        clear hv
        go_wp2_with (go_at_call 62;(with_reducible refine(zfh _ l x.length _ hrk i1).mono ?_);rw[decide_eq_true HV.out];rintro e w7 ⟨rfl,hb7⟩)
        go_roundw
        case rel=>exact⟨k+1,hkl,by go_num,fun y hy=>by
         rw[HTK.out]at hy
         rcases List.mem_append.1 hy with h | h
         ·exact HOK.out y h
         ·have :y=l:=by simpa using h
          rw[this];exact HV.out,zaa hb hb7⟩
        case measure=>simp[intOf];omega
       ·have HV:=zH hv
        have HBAD:Hid (¬zqh m):=zH (fun h=>hv (by have:=h.2.2.2.2 l HMEM.out;rw[HX.out]at this;exact this))
        clear hv
        go_wp2_with (go_at_call 62;(with_reducible refine(zfh _ l x.length _ hrk i1).mono ?_);rw[decide_eq_false HV.out];rintro e w7 ⟨rfl,hb7⟩)
        refine bodyPost_ret (v:= .tuple #[.int .i64 0, .int .i64 0, .bool false]) (by simp[results,Try.results98,go_sem]) rfl ⟨?_,zaa hb hb7⟩
        rw[if_neg HBAD.out]
      ·obtain rfl:k=m.length:=by omega
       have HG:Hid (zqh m):=zH (by
        have h:=HOK.out
        rw[List.take_length]at h
        exact⟨by omega,by omega,by rw[HX.out];omega,by rw[HX.out];omega,by rw[HX.out];exact h⟩)
       go_wp2_with fail
       go_quiet (fail)
       have hbN:=zka (B:=wr.heap.size) wr nq
       go_wp2_with fail
       refine bodyPost_ret (v:= .tuple #[.int .i64 m.length, .int .i64 x.length, .bool true]) (by simp[results,Try.results98,go_sem]) rfl ⟨?_,zaa hb hbN⟩
       rw[if_pos HG.out,HX.out]
theorem rawM_shape {n m:Nat} {A:Mx} (hn1:1≤n) (hn:n≤24) (hm1:1≤m) (hm:m≤24) (hf:fitM n m A):zqh (rawM n m A):=
 ⟨by rw[zpc];exact hn1,by rw[zpc];exact hn,by rw[zth hn1];exact hm1,by rw[zth hn1];exact hm,fun l hl=>⟨rawM_ok hf l hl,by rw[zth hn1];exact zhn l hl⟩⟩
theorem shape_lin (va:Value) (n m:Nat) (A:Mx) (w:World) (ha:zam w va n m A) (hn1:1≤n) (hn:n≤24) (hm1:1≤m) (hm:m≤24) (hf:fitM n m A):
 Calls Try.prog 98 #[va] w fun e w'=>e= .returned (.tuple #[.int .i64 n, .int .i64 m, .bool true])∧Below w.heap.size w w':=by
 refine(shape_any va _ w ha.raw).mono ?_
 rintro e w' ⟨rfl,hb⟩
 rw[if_pos (rawM_shape hn1 hn hm1 hm hf),zpc,zth hn1]
 exact⟨rfl,hb⟩
theorem weight_lin (va:Value) (n m:Nat) (A:Mx) (w:World) (ha:zam w va n m A) (hn:n≤24) (hm:m≤24) (hf:fitM n m A):
 Calls Try.prog 63 #[va] w fun e w'=>e= .returned (.int .i64 (wtF n m A))∧Below w.heap.size w w':=
 zfl va _ w ha.raw (rawM_ok hf) (fun l hl=>by rw[zhn l hl];omega) (by rw[zpc];omega)
set_option maxHeartbeats 800000 in
theorem square_lin (va:Value) (n m:Nat) (A:Mx) (w:World) (ha:zam w va n m A) (hn1:1≤n) (hn:n≤24) (hm1:1≤m) (hm:m≤24) (hf:fitM n m A) (hnm:n=m):
 Calls Try.prog 61 #[va] w fun e w'=>e= .returned (.bool true)∧Below w.heap.size w w':=by
 subst hnm
 have HF:=zH hf
 clear hf
 go_enter Try.func61,Try.ntmps61
 go_wp2_with (go_at_call 98;(with_reducible refine(shape_lin va n n A _ ha hn1 hn hm1 hm HF.out).mono ?_);rintro e1 w1 ⟨rfl,hb1⟩)
 go_ret
 exact⟨by simp,hb1⟩
end Go.Proofs.Ytlpdkbmmbdfoiaa
