/-
  Sizes for the theorem of lumping: the rate, an element of the matrix of steps, a step, sums of a step. No code is walked here.
-/
import Derived.Test.YtlpdkbmmbdfoiaaGreatLMath6b
import Derived.Test.YtlpdkbmmbdfoiaaGreatLRa3
import Derived.Test.YtlpdkbmmbdfoiaaGreatLFr2
import Derived.Test.YtlpdkbmmbdfoiaaGreatLMu1
import Derived.Deep.RegionHeld3
set_option linter.unusedVariables false
set_option linter.unusedSimpArgs false
namespace Go.Proofs.YtlpdkbmmbdfoiaaGreat
set_option maxHeartbeats 3200000
open Go.RowKit
theorem zat (va:Value) (x:RF) (w:World) (ha:zdc w va x.neg x.n x.d) (h1:x.ok):
 Calls Tryz.prog 34 #[va] w fun en w'=>en= .returned (.int .i64 (zsr x.q 0))∧Below w.heap.size w w':=zns va x.neg x.n x.d w ha h1
theorem zet (q:Rat):zsr q 0=0↔q.num=0:=by rw[zji,Rat.num_eq_zero]
theorem wts_all {l:List RF}:wts (qs l)=0↔∀x∈l,x.q.num=0:=by
 constructor
 ·intro h x hx
  have:=zoz h x.q (List.mem_map.2 ⟨x,hx,rfl⟩)
  rw[this];rfl
 ·intro h
  exact zny (fun q hq=>by
   obtain⟨x,hx,rfl⟩:=List.mem_map.1 hq
   exact Rat.num_eq_zero.1 (h x hx))
theorem zxu (va:Value) (c:RC) (w:World) (ha:zdq w va c) (h:c.start.length<1∨128<c.start.length∨c.lost.length≠c.start.length∨c.rates.length≠c.start.length∨¬zlr c.start c.start.length):
 Calls Tryz.prog 69 #[va] w fun e w'=>e= .returned (.bool false)∧Below w.heap.size w w':=by
 obtain⟨rv,sv,lv,rfl,hr,hs,hl⟩:=ha
 obtain⟨ra,rn,rk,rfl,r1,r2,r3⟩:=hr.sl
 obtain⟨sa,sn,sk,rfl,s1,s2,s3⟩:=hs.sl
 obtain⟨la,ln,lk,rfl,l1,l2,l3⟩:=zhc.sl hl
 have hrl:rn=c.rates.length:=hr.len
 have hsl:sn=c.start.length:=hs.len
 have hll:ln=c.lost.length:=hl.len
 subst hrl hsl hll
 unfold maxLen at r2 s2 l2
 have hbx:=zca w (.cells #[.slice ra c.rates.length rk, .slice sa c.start.length sk, .slice la c.lost.length lk] 28)
 have hs':=hs.below hbx
 have hC:=C3.new w 28 (.slice ra c.rates.length rk) (.slice sa c.start.length sk) (.slice la c.lost.length lk)
 generalize c.start.length=n at *
 generalize c.lost.length=nl at *
 generalize c.rates.length=nr at *
 obtain⟨_,b0,b1,b2,_,_,_⟩:=hC
 by_cases h1:n<1
 ·go_enter Tryz.func69,Tryz.ntmps69
  go_wp2_with fail
  go_ret
  exact⟨rfl,hbx⟩
 ·by_cases h2:128<n
  ·go_enter Tryz.func69,Tryz.ntmps69
   go_wp2_with fail
   go_ret
   exact⟨rfl,hbx⟩
  ·by_cases h3:nl=n
   ·by_cases h4:nr=n
    ·have h5:¬zlr c.start n:=by
      rcases h with h | h | h | h | h
      ·omega
      ·omega
      ·omega
      ·omega
      ·exact h
     have H5:=zH h5
     subst h3 h4
     clear h h5
     go_enter Tryz.func69,Tryz.ntmps69
     go_wp2_with (go_at_call 147;(with_reducible refine(zbr _ c.start nr _ hs' (by omega)).mono ?_);rintro e9 w9 ⟨⟨b9,rfl,hb9⟩,hbel9⟩;obtain rfl:b9=false:=Bool.eq_false_iff.2 (fun h=>H5.out (hb9.1 h));clear hb9)
     go_ret
     exact⟨rfl,zaa hbx hbel9⟩
    ·have h4b:(((nr:Nat):Int) != (n:Nat))=true:=by simp;omega
     subst h3
     clear h
     go_enter Tryz.func69,Tryz.ntmps69
     go_wp2_with fail
     go_ret
     exact⟨rfl,hbx⟩
   ·have h3b:(((nl:Nat):Int) != (n:Nat))=true:=by simp;omega
    clear h
    go_enter Tryz.func69,Tryz.ntmps69
    go_wp2_with fail
    go_ret
    exact⟨rfl,hbx⟩
set_option maxRecDepth 100000 in
theorem rvalid_rest (va:Value) (c:RC) (w:World) (ha:zdq w va c) (h1:1≤c.start.length) (h2:c.start.length≤128) (h3:c.lost.length=c.start.length) (h4:c.rates.length=c.start.length) (h5:zlr c.start c.start.length):
 Calls Tryz.prog 69 #[va] w (zgr w c):=by
 obtain⟨rv,sv,lv,rfl,hr,hs,hl⟩:=ha
 obtain⟨ra,rn,rk,rfl,r1,r2,r3⟩:=hr.sl
 obtain⟨sa,sn,sk,rfl,s1,s2,s3⟩:=hs.sl
 obtain⟨la,ln,lk,rfl,l1,l2,l3⟩:=zhc.sl hl
 have hrl:rn=c.start.length:=hr.len.trans h4
 have hsl:sn=c.start.length:=hs.len
 have hll:ln=c.start.length:=hl.len.trans h3
 subst hrl hsl hll
 clear r1 r2 r3 s1 s2 s3 l1 l2 l3
 have hbx:=zca w (.cells #[.slice ra c.start.length rk, .slice sa c.start.length sk, .slice la c.start.length lk] 28)
 have hs':=hs.below hbx
 have hr':=hr.below hbx
 have hl':=hl.below hbx
 have hc3:=C3.new w 28 (.slice ra c.start.length rk) (.slice sa c.start.length sk) (.slice la c.start.length lk)
 have H3:=zH h3
 have H4:=zH h4
 have H5:=zH h5
 have HVAL:Hid (zzp c↔(∀i r,c.rates[i]? =some r→ztq c i r)∧zgg (qs c.start)=1):=zH ⟨fun h=>⟨h.2.2.2.2.2.1,h.2.2.2.2.2.2⟩,fun h=>⟨h1,h2,h3,h4,h5,h.1,h.2⟩⟩
 clear h3 h4 h5 hs hr hl
 generalize hn:c.start.length=n at *
 have HSTP:Hid (∀i r,(zlr r n∧(∀x,r[i]? =some x→x.q.num=0)∧(c.lost[i]? =some true→∀x∈r,x.q.num=0))↔ztq c i r):=zH (fun i r=>by unfold ztq;rw[hn,wts_all])
 have HN6:Hid (n≤65536):=zH (by omega)
 clear hn
 go_enter Tryz.func69,Tryz.ntmps69
 go_wp2_with fail
 have hd1:decide ((n:Int)<1)=false:=decide_eq_false (by omega)
 have hd2:decide ((128:Int)<(n:Int))=false:=decide_eq_false (by omega)
 generalize hW:w.alloc (.cells #[.slice ra n rk, .slice sa n sk, .slice la n lk] 28)=W at *
 clear hW
 have HC3:=zH hc3
 obtain⟨_,b0,b1,b2,b3,b4,b5⟩:=hc3
 go_wp2_with (go_at_call 147;(with_reducible refine(zbr _ c.start n _ hs' HN6.out).mono ?_);rintro e9 w1 ⟨⟨b9,rfl,hb9⟩,hb1⟩;obtain rfl:b9=true:=hb9.2 H5.out;clear hb9;obtain⟨_,f0,f1,f2,f3,f4,f5⟩:=HC3.out.belowS hb1)
 clear b0 b1 b2 b3 b4 b5 f0 f1 f2 f3 f4 f5 hd1 hd2
 have slR:=hr'.sl
 have slS:=hs'.sl
 have slL:zgc (.slice la n lk):=zhc.sl hl'
 go_loopw [4] (fun u4 wr=>∃ (k:Nat),k≤n∧u4= .int .i64 k∧(∀i r,i<k→c.rates[i]? =some r→ztq c i r)∧Below W.heap.size W wr) (fun u4 _=>n- (intOf u4).toNat)
 case atStart=>exact⟨0,Nat.zero_le _,rfl,fun i r h=>by omega,hb1⟩
 case round=>
  obtain⟨k,hk,rfl,hst,hb⟩:=hrel
  clear hb1
  have HST:=zH hst
  have HBW:=zH hb
  clear hst
  have HC:=zH (HC3.out.belowS hb)
  obtain⟨_,b0,b1,b2,b3,b4,b5⟩:=HC3.out.belowS hb
  by_cases hkn:k<n
  ·have hkr:k<c.rates.length:=by rw[H4.out];exact hkn
   have hkl:k<c.lost.length:=by rw[H3.out];exact hkn
   obtain⟨rv,hrc,hrw⟩:=(hr'.below hb).at' k hkr
   have hlc:=(hl'.below hb).at' k hkl
   have HRK:Hid (c.rates[k]? =some (c.rates[k]'hkr)):=zH (List.getElem?_eq_getElem hkr)
   have HLK:Hid (c.lost[k]? =some (c.lost[k]'hkl)):=zH (List.getElem?_eq_getElem hkl)
   generalize c.rates[k]'hkr=l at *
   generalize c.lost[k]'hkl=lo at *
   have HNO:Hid (¬ztq c k l→¬zzp c):=zH (fun h h'=>h ((HVAL.out.1 h').1 k l HRK.out))
   have HYES:Hid (ztq c k l→∀i r,i<k+1→c.rates[i]? =some r→ztq c i r):=zH (fun h i r hi hr=>by
    rcases Nat.lt_or_ge i k with h6 | h6
    ·exact HST.out i r h6 hr
    ·obtain rfl:i=k:=by omega
     rw[HRK.out]at hr
     injection hr with hr
     subst hr
     exact h)
   clear hkr hkl
   obtain⟨ea,en,ek,rfl,e1,e2,e3⟩:=hrw.sl
   have slW:=hrw.sl
   have hen:en=l.length:=hrw.len
   subst hen
   have i1:(0:Int)≤(k:Int):=by omega
   have i2:(k:Int)<(n:Int):=by omega
   by_cases hrow:zlr l n
   ·have hll:l.length=n:=hrow.2.1
    have hkl:k<l.length:=by omega
    obtain⟨xa,xb,c1,c2,c3,hxa,hxb⟩:=hrw.at' k hkl
    obtain⟨c1a,c1l,c1k,rfl,_⟩:=hxa.slen.1
    obtain⟨c2a,c2l,c2k,rfl,_⟩:=hxb.slen.1
    have HXK:Hid (l[k]? =some (l[k]'hkl)):=zH (List.getElem?_eq_getElem hkl)
    have HXO:Hid ((l[k]'hkl).ok):=zH ((hrow.1 _ (List.getElem_mem hkl)).1)
    have HROW:=zH hrow
    have HLL:=zH hll
    have HRW:=zH hrw
    generalize l[k]'hkl=x at *
    have HXN:Hid (zdc wr (.agg #[.bool x.neg, .slice c1a c1l c1k, .slice c2a c2l c2k]) x.neg x.n x.d):=zH ⟨_,_,rfl,hxa,hxb⟩
    rw[hll]at hrc slW c1 c2 c3
    clear hrow hll hxa hxb hkl hrw
    have HRW2:Hid (zni wr (.slice ea n ek) l):=zH (by rw[←HLL.out];exact HRW.out)
    by_cases hz:x.q.num=0
    ·have HSG:=zH ((zet x.q).2 hz)
     have HXZ:Hid (∀y,l[k]? =some y→y.q.num=0):=zH (fun y hy=>by rw[HXK.out]at hy;injection hy with hy;rw[←hy];exact hz)
     clear hz
     go_wp2_with (first
      |(go_at_call 147;(with_reducible refine(zbr _ l n _ HRW2.out HN6.out).mono ?_);rintro e9 w1 ⟨⟨b9,rfl,hb9⟩,hb1⟩;obtain rfl:b9=true:=hb9.2 HROW.out;clear hb9
        have hrc:=zba hb1 hrc
        have c1:=zba hb1 c1
        have c2:=zba hb1 c2
        have c3:=zba hb1 c3
        obtain⟨_,b0,b1,b2,b3,b4,b5⟩:=HC.out.belowS hb1
        )
      |(go_at_call 34;(with_reducible refine(zat _ x _ (HXN.out.below hb1) HXO.out).mono ?_);rintro e w2 ⟨rfl,hb2⟩;rw[HSG.out]
        have hb12:=zaa hb1 hb2
        have hrc:=zba hb2 hrc
        have hlc:=zba hb12 hlc
        obtain⟨_,b0,b1,b2,b3,b4,b5⟩:=HC.out.belowS hb12
        ))
     have HB12:=zH hb12
     have HRW3:=zH (HRW2.out.below hb12)
     have HC2:=zH (HC.out.belowS hb12)
     clear b0 b1 b2 b3 b4 b5 c1 c2 c3 hb1 hb2 hb12 hb
     go_loopw [5] (fun u5 wi=>∃ (j:Nat),j≤n∧u5= .int .i64 j∧(∀y,y<j→∀z,l[y]? =some z→z.q.num=0)∧Below w2.heap.size w2 wi) (fun u5 _=>n- (intOf u5).toNat)
     case atStart=>exact⟨0,Nat.zero_le _,rfl,fun y h=>by omega,Below.refl _ _⟩
     case round=>
      obtain⟨j,hj,rfl,hjz,hbi⟩:=hrel
      have HJZ:=zH hjz
      have HBI:=zH hbi
      clear hjz
      have hrc2:=zba hbi hrc
      have hlc2:=zba hbi hlc
      obtain⟨_,b0,b1,b2,_,_,_⟩:=HC2.out.belowS hbi
      rcases lo with _ | _
      ·have HOK:=zH (HYES.out ((HSTP.out k l).1 ⟨HROW.out,HXZ.out,fun h=>by rw[HLK.out]at h;injection h with h;cases h⟩))
       have hbE:=HBW.out.trans ((HB12.out.trans (hbi.mono HB12.out.size)).mono HBW.out.size)
       by_cases hjn:j<n
       ·go_wp2_with fail
        go_roundw
        case rel=>exact⟨k+1,hkn,by go_num,HOK.out,hbE⟩
        case measure=>simp[intOf];omega
       ·obtain rfl:j=n:=by omega
        go_wp2_with fail
        go_roundw
        case rel=>exact⟨k+1,hkn,by go_num,HOK.out,hbE⟩
        case measure=>simp[intOf];omega
      ·by_cases hjn:j<n
       ·have hjl:j<l.length:=by rw[HLL.out];exact hjn
        obtain⟨za,zb,d1,d2,d3,hza,hzb⟩:=(HRW3.out.below hbi).at' j hjl
        obtain⟨d1a,d1l,d1k,rfl,_⟩:=hza.slen.1
        obtain⟨d2a,d2l,d2k,rfl,_⟩:=hzb.slen.1
        have HYK:Hid (l[j]? =some (l[j]'hjl)):=zH (List.getElem?_eq_getElem hjl)
        have HYM:Hid ((l[j]'hjl)∈l):=zH (List.getElem_mem hjl)
        have HYO:Hid ((l[j]'hjl).ok):=zH ((HROW.out.1 _ (List.getElem_mem hjl)).1)
        generalize l[j]'hjl=y at *
        have HYN:Hid (zdc wr (.agg #[.bool y.neg, .slice d1a d1l d1k, .slice d2a d2l d2k]) y.neg y.n y.d):=zH ⟨_,_,rfl,hza,hzb⟩
        have i3:(0:Int)≤(j:Int):=by omega
        have i4:(j:Int)<(n:Int):=by omega
        clear hza hzb hjl
        by_cases hy:y.q.num=0
        ·have HSY:=zH ((zet y.q).2 hy)
         have HJ1:Hid (∀y',y'<j+1→∀z,l[y']? =some z→z.q.num=0):=zH (fun y' hy' z hz=>by
          rcases Nat.lt_or_ge y' j with h6 | h6
          ·exact HJZ.out y' h6 z hz
          ·obtain rfl:y'=j:=by omega
           rw[HYK.out]at hz
           injection hz with hz
           subst hz
           exact hy)
         clear hy
         go_wp2_with (first
          |(go_at_call 34;(with_reducible refine(zat _ y _ HYN.out HYO.out).mono ?_);rintro e w3 ⟨rfl,hb3⟩;rw[HSY.out]))
         go_roundw
         case rel=>exact⟨j+1,hjn,by go_num,HJ1.out,zaa hbi hb3⟩
         case measure=>simp[intOf];omega
        ·have HN:=zH (HNO.out (fun h=>hy (((HSTP.out k l).2 h).2.2 HLK.out y HYM.out)))
         obtain⟨sg,hsg⟩:∃sg,zsr y.q 0=sg:=⟨_,rfl⟩
         have hsb:(sg != 0)=true:=by
          have :sg≠0:=fun h=>hy ((zet y.q).1 (hsg.trans h))
          simpa using this
         have HSY:=zH hsg
         clear hy hsg
         go_wp2_with (first
          |(go_at_call 34;(with_reducible refine(zat _ y _ HYN.out HYO.out).mono ?_);rintro e w3 ⟨rfl,hb3⟩;rw[HSY.out]))
         go_ret
         exact zgr.no HN.out (hbx.trans ((HBW.out.trans ((HB12.out.trans ((zaa hbi hb3).mono HB12.out.size)).mono HBW.out.size)).mono hbx.size))
       ·obtain rfl:j=n:=by omega
        have HOK:=zH (HYES.out ((HSTP.out k l).1 ⟨HROW.out,HXZ.out,fun _ z hz=>by
         obtain⟨y,hy,rfl⟩:=List.getElem_of_mem hz
         exact HJZ.out y (by rw[←HLL.out];exact hy) _ (List.getElem?_eq_getElem hy)⟩))
        have hbE:=HBW.out.trans ((HB12.out.trans (hbi.mono HB12.out.size)).mono HBW.out.size)
        go_wp2_with fail
        go_roundw
        case rel=>exact⟨k+1,hkn,by go_num,HOK.out,hbE⟩
        case measure=>simp[intOf];omega
    ·have HN:=zH (HNO.out (fun h=>hz (((HSTP.out k l).2 h).2.1 x HXK.out)))
     obtain⟨sg,hsg⟩:∃sg,zsr x.q 0=sg:=⟨_,rfl⟩
     have hsb:(sg != 0)=true:=by
      have :sg≠0:=fun h=>hz ((zet x.q).1 (hsg.trans h))
      simpa using this
     have HSG:=zH hsg
     clear hz hsg
     go_wp2_with (first
      |(go_at_call 147;(with_reducible refine(zbr _ l n _ HRW2.out HN6.out).mono ?_);rintro e9 w1 ⟨⟨b9,rfl,hb9⟩,hb1⟩;obtain rfl:b9=true:=hb9.2 HROW.out;clear hb9
        have hrc:=zba hb1 hrc
        have c1:=zba hb1 c1
        have c2:=zba hb1 c2
        have c3:=zba hb1 c3
        obtain⟨_,b0,b1,b2,b3,b4,b5⟩:=HC.out.belowS hb1
        )
      |(go_at_call 34;(with_reducible refine(zat _ x _ (HXN.out.below hb1) HXO.out).mono ?_);rintro e w2 ⟨rfl,hb2⟩;rw[HSG.out]
        have hb12:=zaa hb1 hb2))
     go_ret
     exact zgr.no HN.out (hbx.trans ((zaa HBW.out hb12).mono hbx.size))
   ·have HB:=zH (HNO.out (fun h=>hrow ((HSTP.out k l).2 h).1))
    have HR:=zH hrow
    clear hrow
    go_wp2_with (go_at_call 147;(with_reducible refine(zbr _ l n _ hrw HN6.out).mono ?_);rintro e9 w1 ⟨⟨b9,rfl,hb9⟩,hb1⟩;obtain rfl:b9=false:=Bool.eq_false_iff.2 (fun h=>HR.out (hb9.1 h));clear hb9)
    go_ret
    exact zgr.no HB.out (hbx.trans ((zaa hb hb1).mono hbx.size))
  ·obtain rfl:k=n:=by omega
   have HALL:Hid (∀i r,c.rates[i]? =some r→ztq c i r):=zH (fun i r h=>HST.out i r (by
    obtain⟨h6,_⟩:=List.getElem?_eq_some_iff.1 h
    have:=H4.out;omega) h)
   have HOKS:Hid (∀x∈c.start,x.ok):=zH H5.out.ok
   have HFIT:Hid (∀j,j≤c.start.length→fits (zgg (qs (c.start.take j)))):=zH (fun j _=>H5.out.fits j)
   have HFS:Hid (fits (zgg (qs c.start))):=zH (by have h6:=H5.out.fits c.start.length;rw[List.take_length]at h6;exact h6)
   go_wp2_with (go_at_call 148;(with_reducible refine(r2sum_fit _ c.start _ (hs'.below hb) HOKS.out HFIT.out).mono ?_);rintro e w1 ⟨v,rfl,hv,hb1⟩
                obtain⟨t9,x9,y9,rfl,⟨a1,l91,k1,rfl,_⟩,⟨a2,l92,k2,rfl,_⟩⟩:=hv.isF)
   have hv6:=hv.below (zca w1 (.cells #[.bool t9, .slice a1 l91 k1, .slice a2 l92 k2] 38))
   have hc6:=C3.new w1 38 (.bool t9) (.slice a1 l91 k1) (.slice a2 l92 k2)
   have hb6:=zaa (zaa hb hb1) (zca w1 (.cells #[.bool t9, .slice a1 l91 k1, .slice a2 l92 k2] 38))
   generalize w1.alloc (.cells #[.bool t9, .slice a1 l91 k1, .slice a2 l92 k2] 38)=W6 at *
   have hdr:=zja (B:=W6.heap.size) W6
   have hv7:=hv6.below hdr
   have HC7:=zH (hc6.belowS hdr)
   have hb7:=zaa hb6 hdr
   clear hv hv6 hb1 hb6 hb b0 b1 b2 b3 b4 b5 hs' hr' hl'
   obtain⟨_,q1,q2,q3,q4,q5,q6⟩:=hc6.belowS hdr
   clear hc6
   generalize w1.heap.size=B6 at *
   have HF1:=zH zdt
   have tok1:True:=trivial
   go_region_held3 (fun w'=>w'.cell? ⟨B6,0,none⟩=some (.bool t9)∧w'.cell? ⟨B6,1,none⟩=some (.slice a1 l91 k1)∧w'.cell? ⟨B6,2,none⟩=some (.slice a2 l92 k2)) (exact⟨q1,q2,q3⟩) (first
    |(go_at_call 49;(with_reducible refine(zlo _ _ _ hv7 HFS.out).mono ?_);rintro e8 w7 ⟨rfl,hb8a⟩
      obtain⟨_,q1,q2,q3,q4,q5,q6⟩:=HC7.out.belowS hb8a
      have HC8:=zH (HC7.out.belowS hb8a)
      have hv8a:=hv7.below hb8a)
    |(go_at_call 20;(with_reducible refine(zas _).mono ?_);rintro e8 w8 ⟨v1,rfl,hv1,hb8⟩
      obtain⟨_,q1,q2,q3,q4,q5,q6⟩:=HC8.out.belowS hb8
      have HC9:=zH (HC8.out.belowS hb8)
      have hv8:=hv8a.below hb8)
    |(go_at_call 33;(with_reducible refine(zqa.same hv8 hv1 HFS.out HF1.out).mono ?_);rintro e9 w9 ⟨rfl,hb9⟩
      obtain⟨_,q1,q2,q3,q4,q5,q6⟩:=HC9.out.belowS hb9))
   go_wp2
   go_ret
   refine⟨⟨_,rfl,?_⟩,hbx.trans ((zaa (zaa (zaa hb7 hb8a) hb8) hb9).mono hbx.size)⟩
   rw[HVAL.out]
   exact⟨fun h=>⟨HALL.out,by simpa using h⟩,fun h=>by simpa using h.2⟩
theorem zjq (va:Value) (c:RC) (w:World) (ha:zdq w va c):Calls Tryz.prog 69 #[va] w (zgr w c):=by
 by_cases h:c.start.length<1∨128<c.start.length∨c.lost.length≠c.start.length∨c.rates.length≠c.start.length∨¬zlr c.start c.start.length
 ·refine(zxu va c w ha h).mono fun e w' ⟨h1,h2⟩=> ?_
  rw[h1]
  refine zgr.no (fun hv=> ?_) h2
  obtain⟨v1,v2,v3,v4,v5,_⟩:=hv
  rcases h with h | h | h | h | h
  ·omega
  ·omega
  ·exact h v3
  ·exact h v4
  ·exact h v5
 ·exact rvalid_rest va c w ha (Nat.le_of_not_lt fun h1=>h (Or.inl h1)) (Nat.le_of_not_lt fun h1=>h (Or.inr (Or.inl h1))) (Decidable.of_not_not fun h1=>h (Or.inr (Or.inr (Or.inl h1)))) (Decidable.of_not_not fun h1=>h (Or.inr (Or.inr (Or.inr (Or.inl h1))))) (Decidable.of_not_not fun h1=>h (Or.inr (Or.inr (Or.inr (Or.inr h1)))))
def zaq (c:RC) (i:Nat):List Rat:=qs (c.rates.getD i [])
theorem zzp.row {c:RC} (h:zzp c) {i:Nat} (hi:i<c.lost.length):∃h2:i<c.rates.length,(c.rates[i]).length=c.lost.length∧zlr c.rates[i] (c.rates[i]).length∧zaq c i=qs c.rates[i]:=by
 obtain⟨h1,h2,h3,h4,h5,h6,h7⟩:=h
 have hi2:i<c.rates.length:=by omega
 obtain⟨r1,_⟩:=h6 i _ (List.getElem?_eq_getElem hi2)
 have hl:(c.rates[i]).length=c.start.length:=r1.2.1
 refine⟨hi2,by rw[hl,h3],by rw[hl];exact r1,?_⟩
 unfold zaq
 simp only[List.getD,List.getElem?_eq_getElem hi2,Option.getD_some]
set_option maxHeartbeats 3200000
set_option maxRecDepth 100000 in
theorem zav (va:Value) (c:RC) (i:Nat) (w:World) (ha:zdq w va c) (hi:i<c.rates.length) (hrow:zlr c.rates[i] (c.rates[i]).length):
 Calls Tryz.prog 162 #[va, .int .i64 i] w (RF1 w (zgg (qs c.rates[i]))):=by
 obtain⟨rv,sv,lv,rfl,hr,hs,hl⟩:=id ha
 obtain⟨ra,rn,rk,rfl,_⟩:=id hr.sl
 obtain⟨sa,sn,sk,rfl,_⟩:=id hs.sl
 obtain⟨la,ln,lk,rfl,_⟩:=id (zhc.sl hl)
 have hrn:rn=c.rates.length:=hr.len
 subst hrn
 have sr:=hr.sl
 obtain⟨rw',hrw,hrf⟩:=hr.at' i hi
 obtain⟨ea,en,ek,rfl,_⟩:=id hrf.sl
 have HOK:Hid (∀x∈c.rates[i],x.ok):=zH hrow.ok
 have HFT:Hid (∀k,k≤(c.rates[i]).length→fits (zgg (qs ((c.rates[i]).take k)))):=zH fun k _=>hrow.fits k
 generalize c.rates[i]'hi=row at *
 have hbx:=zca w (.cells #[.slice ra c.rates.length rk, .slice sa sn sk, .slice la ln lk] 28)
 have hb2:=zca (w.alloc (.cells #[.slice ra c.rates.length rk, .slice sa sn sk, .slice la ln lk] 28)) (.cells #[.bool false, .slice none 0 0, .slice none 0 0] 38)
 have hC:=(C3.new w 28 (.slice ra c.rates.length rk) (.slice sa sn sk) (.slice la ln lk)).belowS hb2
 have hR:=C3.newB (b:=w.heap.size+1) (w.alloc (.cells #[.slice ra c.rates.length rk, .slice sa sn sk, .slice la ln lk] 28)) 38 (.bool false) (.slice none 0 0) (.slice none 0 0) (by simp)
 have hbw:=zaa hbx hb2
 have hrw2:=zba hbw hrw
 have HF:=zH (hrf.below hbw)
 have HR:=zH hR
 have HBW:=zH hbw
 have i1:(0:Int)≤(i:Int):=by omega
 have i2:(i:Int)<(c.rates.length:Nat):=by omega
 clear hR hr hs hl hrf hrw ha hrow hbx hb2 hbw
 go_enter Tryz.func162,Tryz.ntmps162
 go_upto_region 1 with fail
 generalize (w.alloc (.cells #[.slice ra c.rates.length rk, .slice sa sn sk, .slice la ln lk] 28)).alloc (.cells #[.bool false, .slice none 0 0, .slice none 0 0] 38)=W2 at *
 obtain⟨_,c0,c1,c2,_,_,_⟩:=hC
 go_wp2_with (go_at_call 137;(with_reducible refine(sum_frac _ row _ HF.out HOK.out HFT.out).mono ?_);rintro e3 w3 ⟨v3,rfl,hv3,hb3⟩
              obtain⟨t3,x3,y3,rfl,⟨a31,l31,k31,rfl,_⟩,⟨a32,l32,k32,rfl,_⟩⟩:=hv3.isF
              have hba:=zca w3 (.cells #[.bool t3, .slice a31 l31 k31, .slice a32 l32 k32] 38)
              have HV3:=zH (hv3.below hba)
              have HB3:=zH (zaa HBW.out (zaa hb3 hba))
              have HR3:=zH (HR.out.belowS (zaa hb3 hba))
              obtain⟨_,d0,d1,d2,f0,f1,f2⟩:=HR3.out
              obtain⟨_,g0,g1,g2,_,_,_⟩:=C3.new w3 38 (.bool t3) (.slice a31 l31 k31) (.slice a32 l32 k32)
              clear hv3 hba hb3)
 refine zab rfl rfl Tryz.aggF Tryz.sizeF (HR3.out.set _ _ _) rfl ?_
 exact⟨_,rfl,HV3.out.set3 HR3.out (fun z=>by simp) (fun z=>by simp) _ _ _,zga HB3.out (by omega) _ _ _⟩
set_option maxRecDepth 100000 in
theorem zps (va:Value) (c:RC) (i:Nat) (w:World) (ha:zdq w va c) (hi:i<c.rates.length) (hrow:zlr c.rates[i] (c.rates[i]).length):
 Calls Tryz.prog 70 #[va, .int .i64 i] w (RF1 w (zgg (qs c.rates[i]))):=by
 obtain⟨rv,sv,lv,rfl,hr,hs,hl⟩:=id ha
 obtain⟨ra,rn,rk,rfl,_⟩:=id hr.sl
 obtain⟨sa,sn,sk,rfl,_⟩:=id hs.sl
 obtain⟨la,ln,lk,rfl,_⟩:=id (zhc.sl hl)
 have hrn:rn=c.rates.length:=hr.len
 subst hrn
 have sr:=hr.sl
 obtain⟨rw',hrw,hrf⟩:=hr.at' i hi
 obtain⟨ea,en,ek,rfl,_⟩:=id hrf.sl
 have HOK:Hid (∀x∈c.rates[i],x.ok):=zH hrow.ok
 have HFT:Hid (∀k,k≤(c.rates[i]).length→fits (zgg (qs ((c.rates[i]).take k)))):=zH fun k _=>hrow.fits k
 generalize c.rates[i]'hi=row at *
 have hbx:=zca w (.cells #[.slice ra c.rates.length rk, .slice sa sn sk, .slice la ln lk] 28)
 have hb2:=zca (w.alloc (.cells #[.slice ra c.rates.length rk, .slice sa sn sk, .slice la ln lk] 28)) (.cells #[.bool false, .slice none 0 0, .slice none 0 0] 38)
 have hC:=(C3.new w 28 (.slice ra c.rates.length rk) (.slice sa sn sk) (.slice la ln lk)).belowS hb2
 have hR:=C3.newB (b:=w.heap.size+1) (w.alloc (.cells #[.slice ra c.rates.length rk, .slice sa sn sk, .slice la ln lk] 28)) 38 (.bool false) (.slice none 0 0) (.slice none 0 0) (by simp)
 have hbw:=zaa hbx hb2
 have hrw2:=zba hbw hrw
 have HF:=zH (hrf.below hbw)
 have HR:=zH hR
 have HBW:=zH hbw
 have i1:(0:Int)≤(i:Int):=by omega
 have i2:(i:Int)<(c.rates.length:Nat):=by omega
 clear hR hr hs hl hrf hrw ha hrow hbx hb2 hbw
 go_enter Tryz.func70,Tryz.ntmps70
 go_upto_region 1 with fail
 generalize (w.alloc (.cells #[.slice ra c.rates.length rk, .slice sa sn sk, .slice la ln lk] 28)).alloc (.cells #[.bool false, .slice none 0 0, .slice none 0 0] 38)=W2 at *
 obtain⟨_,c0,c1,c2,_,_,_⟩:=hC
 go_wp2_with (go_at_call 148;(with_reducible refine(r2sum_fit _ row _ HF.out HOK.out HFT.out).mono ?_);rintro e3 w3 ⟨v3,rfl,hv3,hb3⟩
              obtain⟨t3,x3,y3,rfl,⟨a31,l31,k31,rfl,_⟩,⟨a32,l32,k32,rfl,_⟩⟩:=hv3.isF
              have hba:=zca w3 (.cells #[.bool t3, .slice a31 l31 k31, .slice a32 l32 k32] 38)
              have HV3:=zH (hv3.below hba)
              have HB3:=zH (zaa HBW.out (zaa hb3 hba))
              have HR3:=zH (HR.out.belowS (zaa hb3 hba))
              obtain⟨_,d0,d1,d2,f0,f1,f2⟩:=HR3.out
              obtain⟨_,g0,g1,g2,_,_,_⟩:=C3.new w3 38 (.bool t3) (.slice a31 l31 k31) (.slice a32 l32 k32)
              clear hv3 hba hb3)
 refine zab rfl rfl Tryz.aggF Tryz.sizeF (HR3.out.set _ _ _) rfl ?_
 exact⟨_,rfl,HV3.out.set3 HR3.out (fun z=>by simp) (fun z=>by simp) _ _ _,zga HB3.out (by omega) _ _ _⟩
theorem r2order_can (va vb:Value) (p q:Rat) (w:World) (ha:zqa w va p) (hb:zqa w vb q) (hp:fits p) (hq:fits q):
 Calls Tryz.prog 100 #[va,vb] w fun en w'=>en= .returned (.int .i64 (zsr p q))∧Below w.heap.size w w':=by
 have h:=ztk va vb _ _ _ _ _ _ w ha.raw hb.raw (zuc hp) (zuc hq)
 rw[zvb,zvb]at h
 exact h
theorem znu (va vb:Value) (p q:Rat) (w:World) (ha:zqa w va p) (hb:zqa w vb q) (hp:fits p) (hq:fits q):
 Calls Tryz.prog 50 #[va,vb] w fun en w'=>en= .returned (.bool (decide (zsr p q<0)))∧Below w.heap.size w w':=by
 obtain⟨t1,x1,y1,rfl,⟨a11,l11,k11,rfl,_⟩,⟨a12,l12,k12,rfl,_⟩⟩:=ha.isF
 obtain⟨t2,x2,y2,rfl,⟨a21,l21,k21,rfl,_⟩,⟨a22,l22,k22,rfl,_⟩⟩:=hb.isF
 have b1:=zca w (.cells #[.bool t1, .slice a11 l11 k11, .slice a12 l12 k12] 38)
 have b2:=zca (w.alloc (.cells #[.bool t1, .slice a11 l11 k11, .slice a12 l12 k12] 38)) (.cells #[.bool t2, .slice a21 l21 k21, .slice a22 l22 k22] 38)
 have HB:=zH (zaa b1 b2)
 have HX:=zH (ha.below HB.out)
 have HY:=zH (hb.below HB.out)
 have HP:=zH hp
 have HQ:=zH hq
 clear ha hb hp hq b1 b2
 go_enter Tryz.func50,Tryz.ntmps50
 go_wp2_with (go_at_call 100;(with_reducible refine(r2order_can _ _ p q _ HX.out HY.out HP.out HQ.out).mono ?_);rintro e3 w3 ⟨rfl,hb3⟩)
 go_ret
 exact⟨rfl,zaa HB.out hb3⟩
def oth (y:Int) (n:Nat):Int:=if n%2=0 then y+((n/2+1:Nat):Int)else y- ((n/2+1:Nat):Int)
theorem oth_ne (y:Int) (n:Nat):oth y n≠y:=by unfold oth;split<;>omega
@[go_sem] theorem oth_beq (y : Int) (n : Nat) : (oth y n == y) = false := by simpa using oth_ne y n
@[go_sem] theorem beq_oth (y : Int) (n : Nat) : (y == oth y n) = false := by simpa using fun h => oth_ne y n h.symm
@[go_sem] theorem oth_bne (y : Int) (n : Nat) : (oth y n != y) = true := by simpa using oth_ne y n
@[go_sem] theorem bne_oth (y : Int) (n : Nat) : (y != oth y n) = true := by simpa using fun h => oth_ne y n h.symm
@[go_sem] theorem int_beq_self (y : Int) : (y == y) = true := by simp
@[go_sem] theorem int_bne_self (y : Int) : (y != y) = false := by simp
set_option maxHeartbeats 6400000
def zyp (c:RC):Nat→Rat
 | 0=>0
 | k+1=>if zyp c k<zgg (zaq c k)then zgg (zaq c k)else zyp c k
theorem C3.far {w:World} {b b':Nat} {v0 v1 v2:Value} (h:C3 w b v0 v1 v2) (hb:b'≠b) (x y z:Value):C3 (((w.setCell ⟨b',0,none⟩ x).setCell ⟨b',1,none⟩ y).setCell ⟨b',2,none⟩ z) b v0 v1 v2:=
 ((h.other ⟨b',0,none⟩ x hb).other ⟨b',1,none⟩ y hb).other ⟨b',2,none⟩ z hb
theorem zrw (p q:Rat):0<zsr p q↔q<p:=by
 unfold zsr
 by_cases h1:p<q
 ·rw[if_pos h1]
  exact⟨fun h=>absurd h (by decide),fun h=>absurd h1 (Rat.not_lt.2 (Rat.le_of_lt h))⟩
 ·rw[if_neg h1]
  by_cases h2:q<p
  ·rw[if_pos h2];exact⟨fun _=>h2,fun _=>by decide⟩
  ·rw[if_neg h2];exact⟨fun h=>absurd h (by decide),fun h=>absurd h h2⟩
theorem cmpR_lt (p q:Rat):zsr p q<0↔p<q:=by
 unfold zsr
 by_cases h1:p<q
 ·rw[if_pos h1];exact⟨fun _=>h1,fun _=>by decide⟩
 ·rw[if_neg h1]
  by_cases h2:q<p
  ·rw[if_pos h2];exact⟨fun h=>absurd h (by decide),fun h=>absurd h h1⟩
  ·rw[if_neg h2];exact⟨fun h=>absurd h (by decide),fun h=>absurd h h1⟩
theorem zes {c:RC} (hv:zzp c) {k:Nat} (hk:k<c.rates.length):zlr c.rates[k] (c.rates[k]).length∧zaq c k=qs c.rates[k]:=by
 obtain⟨h2,h3,h4,h5⟩:=hv.row (i:=k) (by have:=hv.2.2.1;have:=hv.2.2.2.1;omega)
 exact⟨h4,h5⟩
theorem zwq {c:RC} (hv:zzp c):∀k,k≤c.rates.length→fits (zyp c k)
 | 0,_=>by unfold zyp;exact zkl
 | k+1,hk=>by
   unfold zyp
   split
   ·obtain⟨h4,h5⟩:=zes hv (show k<c.rates.length by omega)
    rw[h5]
    have h:=h4.fits (c.rates[k]).length
    rwa[List.take_length]at h
   ·exact zwq hv k (by omega)
set_option maxRecDepth 100000 in
theorem zvv (va:Value) (c:RC) (w:World) (ha:zdq w va c) (hv:zzp c):Calls Tryz.prog 114 #[va] w (RF1 w (zyp c c.rates.length)):=by
 obtain⟨rv,sv,lv,rfl,hr,hs,hl⟩:=id ha
 obtain⟨ra,rn,rk,rfl,_⟩:=id hr.sl
 obtain⟨sa,sn,sk,rfl,_⟩:=id hs.sl
 obtain⟨la,ln,lk,rfl,_⟩:=id (zhc.sl hl)
 have hrn:rn=c.rates.length:=hr.len
 subst hrn
 have hsn:sn=c.start.length:=hs.len
 have hlen:c.rates.length=c.start.length:=hv.2.2.2.1
 rw[←hlen]at hsn
 subst hsn
 have HV:=zH hv
 have hn:c.rates.length≤128:=by have:=hv.2.1;omega
 have hbx:=zca w (.cells #[.slice ra c.rates.length rk, .slice sa c.rates.length sk, .slice la ln lk] 28)
 have hb2:=zca (w.alloc (.cells #[.slice ra c.rates.length rk, .slice sa c.rates.length sk, .slice la ln lk] 28)) (.cells #[.bool false, .slice none 0 0, .slice none 0 0] 38)
 have HC:=zH ((C3.new w 28 (.slice ra c.rates.length rk) (.slice sa c.rates.length sk) (.slice la ln lk)).belowS hb2)
 have HR:=zH (C3.newB (b:=w.heap.size+1) (w.alloc (.cells #[.slice ra c.rates.length rk, .slice sa c.rates.length sk, .slice la ln lk] 28)) 38 (.bool false) (.slice none 0 0) (.slice none 0 0) (by simp))
 have HBW:=zH (zaa hbx hb2)
 have HA0:=zH ha
 clear hr hs hl ha hv hbx hb2 hlen
 go_enter Tryz.func114,Tryz.ntmps114
 go_upto_region 1 with fail
 generalize (w.alloc (.cells #[.slice ra c.rates.length rk, .slice sa c.rates.length sk, .slice la ln lk] 28)).alloc (.cells #[.bool false, .slice none 0 0, .slice none 0 0] 38)=W2 at *
 obtain⟨n,hnl⟩:∃n,c.rates.length=n:=⟨_,rfl⟩
 have HNL:=zH hnl
 rw[hnl]at HC HA0 hn ⊢
 clear hnl
 go_wp2_with (go_at_call 109;(with_reducible refine(zdr _).mono ?_);rintro e3 w3 ⟨v3,rfl,hv3,hb3⟩
              obtain⟨t3,x3,y3,rfl,⟨a31,l31,k31,rfl,_⟩,⟨a32,l32,k32,rfl,_⟩⟩:=hv3.isF
              have hba:=zaa hb3 (zca w3 (.cells #[.bool t3, .slice a31 l31 k31, .slice a32 l32 k32] 38))
              have HV3:=zH (hv3.below (zca w3 (.cells #[.bool t3, .slice a31 l31 k31, .slice a32 l32 k32] 38)))
              have HB3:=zH (zaa HBW.out hba)
              have HR3:=zH (HR.out.belowS hba)
              have HC3:=zH (HC.out.belowS hba)
              have HM3:=zH (C3.new w3 38 (.bool t3) (.slice a31 l31 k31) (.slice a32 l32 k32))
              have HSZ:Hid (w.heap.size+1<w3.heap.size):=zH (by have:=HR.out.lt;have:=hb3.size;omega)
              obtain⟨_,c0,c1,c2,_,_,_⟩:=HC3.out
              clear hv3 hb3 hba HC HR HBW)
 obtain⟨b3,hb3⟩:∃b,w3.heap.size=b:=⟨_,rfl⟩
 rw[hb3]at HM3 HSZ
 rw[hb3]
 clear hb3 c0 c1 c2
 go_loopg [12] (n) (fun g u12 wr=>∃ (k:Nat) (t':Bool) (a1 a2:Option Addr) (l1 k1 l2 k2:Nat),k≤n∧g=n-k∧u12= .int .i64 k∧C3 wr b3 (.bool t') (.slice a1 l1 k1) (.slice a2 l2 k2)∧zqa wr (.agg #[.bool t', .slice a1 l1 k1, .slice a2 l2 k2]) (zyp c k)∧C3 wr w.heap.size (.slice ra n rk) (.slice sa n sk) (.slice la ln lk)∧C3 wr (w.heap.size+1) (.bool false) (.slice none 0 0) (.slice none 0 0)∧Below w.heap.size w wr)
 case atStart=>exact⟨0,_,_,_,_,_,_,_,Nat.zero_le _,rfl,rfl,HM3.out,HV3.out,HC3.out,HR3.out,HB3.out⟩
 case round=>
  obtain⟨k,t',a1,a2,l1,k1,l2,k2,hk,hg,rfl,hM,hV,hC,hR,hbr⟩:=hrel
  obtain⟨w4,hw4⟩:∃w4,w4=wr:=⟨_,rfl⟩
  subst hw4
  have HG:=zH hg
  have HM:=zH hM
  have HV4:=zH hV
  have HC:=zH hC
  have HR:=zH hR
  have HA:=zH (HA0.out.below hbr)
  have HBR:=zH hbr
  clear hg hV hR hbr HM3 HV3 HC3 HR3 HB3
  by_cases hkn:k<n
  ·have hk2:k<c.rates.length:=by rw[HNL.out];exact hkn
   obtain⟨hr1,hr2⟩:=zes HV.out hk2
   have HROW:=zH hr1
   have HQ:Hid (qs (c.rates[k]'hk2)=zaq c k):=zH hr2.symm
   have HFX:Hid (fits (zgg (zaq c k))):=zH (by
    have h:=hr1.fits (c.rates[k]'hk2).length
    rw[List.take_length]at h
    rw[hr2];exact h)
   have HFM:=zH (zwq HV.out k (by omega))
   have HSTEP:Hid (zyp c (k+1)=if zyp c k<zgg (zaq c k)then zgg (zaq c k)else zyp c k):=zH rfl
   have HCMP:Hid (0<zsr (zgg (zaq c k)) (zyp c k)↔zyp c k<zgg (zaq c k)):=zH (zrw _ _)
   obtain⟨X,hX⟩:∃X,zgg (zaq c k)=X:=⟨_,rfl⟩
   obtain⟨M,hM2⟩:∃M,zyp c k=M:=⟨_,rfl⟩
   obtain⟨z,hz⟩:∃z,zsr X M=z:=⟨_,rfl⟩
   have HXE:=zH hX
   have HZ:=zH hz
   rw[hX]at HFX HSTEP HCMP
   rw[hM2]at HFM HSTEP HCMP HV4
   rw[hz]at HCMP
   obtain⟨_,c0,c1,c2,_,_,_⟩:=hC
   obtain⟨_,m0,m1,m2,_,_,_⟩:=hM
   clear hr1 hr2 hX hM2 hz
   have i1:(0:Int)≤(k:Int):=by omega
   have i2:(k:Int)<(n:Nat):=by omega
   by_cases hzp:0<z
   ·go_wp2_with (first
     |(go_at_call 162;(with_reducible refine(zav _ c k _ HA.out hk2 HROW.out).mono ?_);rw[HQ.out,HXE.out];rintro e5 w5 ⟨v5,rfl,hv5,hb5⟩
       obtain⟨t5,x5,y5,rfl,⟨a51,l51,k51,rfl,_⟩,⟨a52,l52,k52,rfl,_⟩⟩:=hv5.isF
       have hba:=zaa hb5 (zca w5 (.cells #[.bool t5, .slice a51 l51 k51, .slice a52 l52 k52] 38))
       have HX5:=zH (hv5.below (zca w5 (.cells #[.bool t5, .slice a51 l51 k51, .slice a52 l52 k52] 38)))
       have HN5:=zH (C3.new w5 38 (.bool t5) (.slice a51 l51 k51) (.slice a52 l52 k52))
       have HM5:=zH (HM.out.belowS hba)
       have HV5:=zH (HV4.out.below hba)
       have HC5:=zH (HC.out.belowS hba)
       have HR5:=zH (HR.out.belowS hba)
       have HB5:=zH (zfa HBR.out hba HBR.out.size)
       obtain⟨_,n0,n1,n2,_,_,_⟩:=HN5.out
       obtain⟨_,m0,m1,m2,_,_,_⟩:=HM5.out
       clear hv5 hb5 hba HM HV4 HC HR HA c0 c1 c2)
     |(go_at_call 130;(with_reducible refine(zvz _ _ X M _ HX5.out HV5.out HFX.out HFM.out).mono ?_);rw[HZ.out];rintro e6 w6 ⟨rfl,hb6⟩
       have HX6:=zH (HX5.out.below hb6)
       have HN6:=zH (HN5.out.belowS hb6)
       have HM6:=zH (HM5.out.belowS hb6)
       have HV6:=zH (HV5.out.below hb6)
       have HC6:=zH (HC5.out.belowS hb6)
       have HR6:=zH (HR5.out.belowS hb6)
       have HB6:=zH (zfa HB5.out hb6 HB5.out.size)
       clear HX5 HN5 HM5 HV5 HC5 HR5 HB5 hb6 n0 n1 n2 m0 m1 m2
       obtain⟨_,n0,n1,n2,_,_,_⟩:=HN6.out
       obtain⟨_,m0,m1,m2,f0,f1,f2⟩:=HM6.out))
    go_roundg (n- (k+1))
    case measure=>(have:=HG.out;omega)
    case rel=>
     refine⟨k+1,t5,a51,a52,l51,k51,l52,k52,by omega,rfl,by go_num,HM6.out.set _ _ _,?_,HC6.out.far (by have:=HSZ.out;omega) _ _ _,HR6.out.far (by have:=HSZ.out;omega) _ _ _,zga HB6.out (by have:=HSZ.out;omega) _ _ _⟩
     rw[HSTEP.out,if_pos (HCMP.out.1 hzp)]
     exact HX6.out.set3 HM6.out (fun z=>by simp) (fun z=>by simp) _ _ _
   ·go_wp2_with (first
     |(go_at_call 162;(with_reducible refine(zav _ c k _ HA.out hk2 HROW.out).mono ?_);rw[HQ.out,HXE.out];rintro e5 w5 ⟨v5,rfl,hv5,hb5⟩
       obtain⟨t5,x5,y5,rfl,⟨a51,l51,k51,rfl,_⟩,⟨a52,l52,k52,rfl,_⟩⟩:=hv5.isF
       have hba:=zaa hb5 (zca w5 (.cells #[.bool t5, .slice a51 l51 k51, .slice a52 l52 k52] 38))
       have HX5:=zH (hv5.below (zca w5 (.cells #[.bool t5, .slice a51 l51 k51, .slice a52 l52 k52] 38)))
       have HN5:=zH (C3.new w5 38 (.bool t5) (.slice a51 l51 k51) (.slice a52 l52 k52))
       have HM5:=zH (HM.out.belowS hba)
       have HV5:=zH (HV4.out.below hba)
       have HC5:=zH (HC.out.belowS hba)
       have HR5:=zH (HR.out.belowS hba)
       have HB5:=zH (zfa HBR.out hba HBR.out.size)
       obtain⟨_,n0,n1,n2,_,_,_⟩:=HN5.out
       obtain⟨_,m0,m1,m2,_,_,_⟩:=HM5.out
       clear hv5 hb5 hba HM HV4 HC HR HA c0 c1 c2)
     |(go_at_call 130;(with_reducible refine(zvz _ _ X M _ HX5.out HV5.out HFX.out HFM.out).mono ?_);rw[HZ.out];rintro e6 w6 ⟨rfl,hb6⟩
       have HX6:=zH (HX5.out.below hb6)
       have HN6:=zH (HN5.out.belowS hb6)
       have HM6:=zH (HM5.out.belowS hb6)
       have HV6:=zH (HV5.out.below hb6)
       have HC6:=zH (HC5.out.belowS hb6)
       have HR6:=zH (HR5.out.belowS hb6)
       have HB6:=zH (zfa HB5.out hb6 HB5.out.size)
       clear HX5 HN5 HM5 HV5 HC5 HR5 HB5 hb6 n0 n1 n2 m0 m1 m2
       obtain⟨_,n0,n1,n2,_,_,_⟩:=HN6.out
       obtain⟨_,m0,m1,m2,f0,f1,f2⟩:=HM6.out))
    go_roundg (n- (k+1))
    case measure=>(have:=HG.out;omega)
    case rel=>
     refine⟨k+1,t',a1,a2,l1,k1,l2,k2,by omega,rfl,by go_num,HM6.out,?_,HC6.out,HR6.out,HB6.out⟩
     rw[HSTEP.out,if_neg (fun h=>absurd (HCMP.out.2 h) (by omega))]
     exact HV6.out
  ·obtain rfl:k=n:=by omega
   obtain⟨_,m0,m1,m2,_,_,_⟩:=hM
   obtain⟨_,f0,f1,f2,f3,f4,f5⟩:=HR.out
   clear hC
   go_wp2_with fail
   refine zab rfl rfl Tryz.aggF Tryz.sizeF (HR.out.set _ _ _) rfl ?_
   refine⟨_,rfl,?_,zga HBR.out (by omega) _ _ _⟩
   rw[HNL.out]
   exact HV4.out.set3 HR.out (fun z=>by simp) (fun z=>by simp) _ _ _
set_option maxRecDepth 100000 in
theorem zqq (va:Value) (c:RC) (w:World) (ha:zdq w va c) (hv:zzp c):Calls Tryz.prog 17 #[va] w (RF0 w (zyp c c.rates.length)):=by
 obtain⟨rv,sv,lv,rfl,hr,hs,hl⟩:=id ha
 obtain⟨ra,rn,rk,rfl,_⟩:=id hr.sl
 obtain⟨sa,sn,sk,rfl,_⟩:=id hs.sl
 obtain⟨la,ln,lk,rfl,_⟩:=id (zhc.sl hl)
 have hrn:rn=c.rates.length:=hr.len
 subst hrn
 have hsn:sn=c.start.length:=hs.len
 have hlen:c.rates.length=c.start.length:=hv.2.2.2.1
 rw[←hlen]at hsn
 subst hsn
 have HV:=zH hv
 have hn:c.rates.length≤128:=by have:=hv.2.1;omega
 have hbx:=zca w (.cells #[.slice ra c.rates.length rk, .slice sa c.rates.length sk, .slice la ln lk] 28)
 have hb2:=zca (w.alloc (.cells #[.slice ra c.rates.length rk, .slice sa c.rates.length sk, .slice la ln lk] 28)) (.cells #[.bool false, .slice none 0 0, .slice none 0 0] 38)
 have HC:=zH ((C3.new w 28 (.slice ra c.rates.length rk) (.slice sa c.rates.length sk) (.slice la ln lk)).belowS hb2)
 have HR:=zH (C3.newB (b:=w.heap.size+1) (w.alloc (.cells #[.slice ra c.rates.length rk, .slice sa c.rates.length sk, .slice la ln lk] 28)) 38 (.bool false) (.slice none 0 0) (.slice none 0 0) (by simp))
 have HBW:=zH (zaa hbx hb2)
 have HA0:=zH ha
 clear hr hs hl ha hv hbx hb2 hlen
 go_enter Tryz.func17,Tryz.ntmps17
 go_upto_region 1 with fail
 generalize (w.alloc (.cells #[.slice ra c.rates.length rk, .slice sa c.rates.length sk, .slice la ln lk] 28)).alloc (.cells #[.bool false, .slice none 0 0, .slice none 0 0] 38)=W2 at *
 obtain⟨n,hnl⟩:∃n,c.rates.length=n:=⟨_,rfl⟩
 have HNL:=zH hnl
 rw[hnl]at HC HA0 hn ⊢
 clear hnl
 have HAW:=zH (HA0.out.below HBW.out)
 obtain⟨_,c0,c1,c2,_,_,_⟩:=HC.out
 go_wp2_with (first
              |(go_at_call 69;(with_reducible refine(zjq _ c _ HAW.out).mono ?_);rintro e1 w1 ⟨⟨bv,rfl,hbv⟩,hbv1⟩;obtain rfl:bv=true:=hbv.2 HV.out;clear hbv
                have HBV:=zH hbv1
                clear hbv1)
              |(go_at_call 20;(with_reducible refine(zwi _).mono ?_);rintro e3 w3 ⟨v3,rfl,hv3,hb3⟩
                obtain⟨t3,x3,y3,rfl,⟨a31,l31,k31,rfl,_⟩,⟨a32,l32,k32,rfl,_⟩⟩:=hv3.isF
                have hba:=zaa (zaa HBV.out hb3) (zca w3 (.cells #[.bool t3, .slice a31 l31 k31, .slice a32 l32 k32] 38))
                have HV3:=zH (hv3.below (zca w3 (.cells #[.bool t3, .slice a31 l31 k31, .slice a32 l32 k32] 38)))
                have HB3:=zH (zaa HBW.out hba)
                have HR3:=zH (HR.out.belowS hba)
                have HC3:=zH (HC.out.belowS hba)
                have HM3:=zH (C3.new w3 38 (.bool t3) (.slice a31 l31 k31) (.slice a32 l32 k32))
                have HSZ:Hid (w.heap.size+1<w3.heap.size):=zH (by have:=HR.out.lt;have:=hb3.size;have:=HBV.out.size;omega)
                clear hv3 hb3 hba HC HR HBW c0 c1 c2))
 obtain⟨b3,hb3⟩:∃b,w3.heap.size=b:=⟨_,rfl⟩
 rw[hb3]at HM3 HSZ
 rw[hb3]
 clear hb3
 go_loopg [5] (n) (fun g u5 wr=>∃ (k:Nat) (t':Bool) (a1 a2:Option Addr) (l1 k1 l2 k2:Nat),k≤n∧g=n-k∧u5= .int .i64 k∧C3 wr b3 (.bool t') (.slice a1 l1 k1) (.slice a2 l2 k2)∧zqa wr (.agg #[.bool t', .slice a1 l1 k1, .slice a2 l2 k2]) (zyp c k)∧C3 wr w.heap.size (.slice ra n rk) (.slice sa n sk) (.slice la ln lk)∧C3 wr (w.heap.size+1) (.bool false) (.slice none 0 0) (.slice none 0 0)∧Below w.heap.size w wr)
 case atStart=>exact⟨0,_,_,_,_,_,_,_,Nat.zero_le _,rfl,rfl,HM3.out,HV3.out,HC3.out,HR3.out,HB3.out⟩
 case round=>
  obtain⟨k,t',a1,a2,l1,k1,l2,k2,hk,hg,rfl,hM,hV,hC,hR,hbr⟩:=hrel
  obtain⟨w4,hw4⟩:∃w4,w4=wr:=⟨_,rfl⟩
  subst hw4
  have HG:=zH hg
  have HM:=zH hM
  have HV4:=zH hV
  have HC:=zH hC
  have HR:=zH hR
  have HA:=zH (HA0.out.below hbr)
  have HBR:=zH hbr
  clear hg hV hR hbr HM3 HV3 HC3 HR3 HB3
  by_cases hkn:k<n
  ·have hk2:k<c.rates.length:=by rw[HNL.out];exact hkn
   obtain⟨hr1,hr2⟩:=zes HV.out hk2
   have HROW:=zH hr1
   have HQ:Hid (qs (c.rates[k]'hk2)=zaq c k):=zH hr2.symm
   have HFX:Hid (fits (zgg (zaq c k))):=zH (by
    have h:=hr1.fits (c.rates[k]'hk2).length
    rw[List.take_length]at h
    rw[hr2];exact h)
   have HFM:=zH (zwq HV.out k (by omega))
   have HSTEP:Hid (zyp c (k+1)=if zyp c k<zgg (zaq c k)then zgg (zaq c k)else zyp c k):=zH rfl
   have HCMP:Hid (zsr (zyp c k) (zgg (zaq c k))<0↔zyp c k<zgg (zaq c k)):=zH (cmpR_lt _ _)
   obtain⟨X,hX⟩:∃X,zgg (zaq c k)=X:=⟨_,rfl⟩
   obtain⟨M,hM2⟩:∃M,zyp c k=M:=⟨_,rfl⟩
   obtain⟨z,hz⟩:∃z,zsr M X=z:=⟨_,rfl⟩
   have HXE:=zH hX
   have HZ:=zH hz
   rw[hX]at HFX HSTEP HCMP
   rw[hM2]at HFM HSTEP HCMP HV4
   rw[hz]at HCMP
   obtain⟨_,c0,c1,c2,_,_,_⟩:=hC
   obtain⟨_,m0,m1,m2,_,_,_⟩:=hM
   clear hr1 hr2 hX hM2 hz
   have i1:(0:Int)≤(k:Int):=by omega
   have i2:(k:Int)<(n:Nat):=by omega
   by_cases hzp:z<0
   ·go_wp2_with (first
     |(go_at_call 70;(with_reducible refine(zps _ c k _ HA.out hk2 HROW.out).mono ?_);rw[HQ.out,HXE.out];rintro e5 w5 ⟨v5,rfl,hv5,hb5⟩
       obtain⟨t5,x5,y5,rfl,⟨a51,l51,k51,rfl,_⟩,⟨a52,l52,k52,rfl,_⟩⟩:=hv5.isF
       have hba:=zaa hb5 (zca w5 (.cells #[.bool t5, .slice a51 l51 k51, .slice a52 l52 k52] 38))
       have HX5:=zH (hv5.below (zca w5 (.cells #[.bool t5, .slice a51 l51 k51, .slice a52 l52 k52] 38)))
       have HN5:=zH (C3.new w5 38 (.bool t5) (.slice a51 l51 k51) (.slice a52 l52 k52))
       have HM5:=zH (HM.out.belowS hba)
       have HV5:=zH (HV4.out.below hba)
       have HC5:=zH (HC.out.belowS hba)
       have HR5:=zH (HR.out.belowS hba)
       have HB5:=zH (zfa HBR.out hba HBR.out.size)
       obtain⟨_,n0,n1,n2,_,_,_⟩:=HN5.out
       obtain⟨_,m0,m1,m2,_,_,_⟩:=HM5.out
       clear hv5 hb5 hba HM HV4 HC HR HA c0 c1 c2)
     |(go_at_call 50;(with_reducible refine(znu _ _ M X _ HV5.out HX5.out HFM.out HFX.out).mono ?_);rw[HZ.out];rintro e6 w6 ⟨rfl,hb6⟩
       have HX6:=zH (HX5.out.below hb6)
       have HN6:=zH (HN5.out.belowS hb6)
       have HM6:=zH (HM5.out.belowS hb6)
       have HV6:=zH (HV5.out.below hb6)
       have HC6:=zH (HC5.out.belowS hb6)
       have HR6:=zH (HR5.out.belowS hb6)
       have HB6:=zH (zfa HB5.out hb6 HB5.out.size)
       clear HX5 HN5 HM5 HV5 HC5 HR5 HB5 hb6 n0 n1 n2 m0 m1 m2
       obtain⟨_,n0,n1,n2,_,_,_⟩:=HN6.out
       obtain⟨_,m0,m1,m2,f0,f1,f2⟩:=HM6.out))
    go_roundg (n- (k+1))
    case measure=>(have:=HG.out;omega)
    case rel=>
     refine⟨k+1,t5,a51,a52,l51,k51,l52,k52,by omega,rfl,by go_num,HM6.out.set _ _ _,?_,HC6.out.far (by have:=HSZ.out;omega) _ _ _,HR6.out.far (by have:=HSZ.out;omega) _ _ _,zga HB6.out (by have:=HSZ.out;omega) _ _ _⟩
     rw[HSTEP.out,if_pos (HCMP.out.1 hzp)]
     exact HX6.out.set3 HM6.out (fun z=>by simp) (fun z=>by simp) _ _ _
   ·go_wp2_with (first
     |(go_at_call 70;(with_reducible refine(zps _ c k _ HA.out hk2 HROW.out).mono ?_);rw[HQ.out,HXE.out];rintro e5 w5 ⟨v5,rfl,hv5,hb5⟩
       obtain⟨t5,x5,y5,rfl,⟨a51,l51,k51,rfl,_⟩,⟨a52,l52,k52,rfl,_⟩⟩:=hv5.isF
       have hba:=zaa hb5 (zca w5 (.cells #[.bool t5, .slice a51 l51 k51, .slice a52 l52 k52] 38))
       have HX5:=zH (hv5.below (zca w5 (.cells #[.bool t5, .slice a51 l51 k51, .slice a52 l52 k52] 38)))
       have HN5:=zH (C3.new w5 38 (.bool t5) (.slice a51 l51 k51) (.slice a52 l52 k52))
       have HM5:=zH (HM.out.belowS hba)
       have HV5:=zH (HV4.out.below hba)
       have HC5:=zH (HC.out.belowS hba)
       have HR5:=zH (HR.out.belowS hba)
       have HB5:=zH (zfa HBR.out hba HBR.out.size)
       obtain⟨_,n0,n1,n2,_,_,_⟩:=HN5.out
       obtain⟨_,m0,m1,m2,_,_,_⟩:=HM5.out
       clear hv5 hb5 hba HM HV4 HC HR HA c0 c1 c2)
     |(go_at_call 50;(with_reducible refine(znu _ _ M X _ HV5.out HX5.out HFM.out HFX.out).mono ?_);rw[HZ.out];rintro e6 w6 ⟨rfl,hb6⟩
       have HX6:=zH (HX5.out.below hb6)
       have HN6:=zH (HN5.out.belowS hb6)
       have HM6:=zH (HM5.out.belowS hb6)
       have HV6:=zH (HV5.out.below hb6)
       have HC6:=zH (HC5.out.belowS hb6)
       have HR6:=zH (HR5.out.belowS hb6)
       have HB6:=zH (zfa HB5.out hb6 HB5.out.size)
       clear HX5 HN5 HM5 HV5 HC5 HR5 HB5 hb6 n0 n1 n2 m0 m1 m2
       obtain⟨_,n0,n1,n2,_,_,_⟩:=HN6.out
       obtain⟨_,m0,m1,m2,f0,f1,f2⟩:=HM6.out))
    go_roundg (n- (k+1))
    case measure=>(have:=HG.out;omega)
    case rel=>
     refine⟨k+1,t',a1,a2,l1,k1,l2,k2,by omega,rfl,by go_num,HM6.out,?_,HC6.out,HR6.out,HB6.out⟩
     rw[HSTEP.out,if_neg (fun h=>absurd (HCMP.out.2 h) (by omega))]
     exact HV6.out
  ·obtain rfl:k=n:=by omega
   obtain⟨_,m0,m1,m2,_,_,_⟩:=hM
   obtain⟨_,f0,f1,f2,f3,f4,f5⟩:=HR.out
   obtain⟨_,c0,c1,c2,_,_,_⟩:=hC
   go_wp2_with fail
   refine zoa rfl rfl Tryz.aggF Tryz.sizeF (HR.out.set _ _ _) rfl ?_
   refine⟨_,rfl,?_,zga HBR.out (by omega) _ _ _⟩
   rw[HNL.out]
   exact HV4.out.set3 HR.out (fun z=>by simp) (fun z=>by simp) _ _ _
end Go.Proofs.YtlpdkbmmbdfoiaaGreat
namespace Go.Proofs.YtlpdkbmmbdfoiaaGreat
def zfq (c:RC) (ρ:Rat):Nat→Nat→Rat:=fun i j=>if i=j then 1-zgg (zaq c i)/ρ else(zaq c i).getD j 0/ρ
theorem over.div {D R N:Nat} (hD:D≠0) (hR:R≠0) {q:Rat} (h:over D N q):over R N (q/mkRat ((R:Nat):Int) D):=by
 obtain⟨z,rfl,hz⟩:=h
 refine⟨z,?_,hz⟩
 rw[Rat.div_def,inv_mk hR hD,Rat.mkRat_mul_mkRat,Nat.mul_comm D R]
 exact Rat.mkRat_mul_right hD
theorem zyy {P:Rat→Prop} {c:RC} (h0:P 0):∀ {n:Nat},(∀i,i<n→P (zgg (zaq c i)))→P (zyp c n)
 | 0,_=>h0
 | n+1,h=>by
   unfold zyp
   split
   ·exact h n (by omega)
   ·exact zyy h0 fun i hi=>h i (by omega)
theorem leave_ge {c:RC}:∀ {n i:Nat},i<n→zgg (zaq c i)≤zyp c n
 | n+1,i,h=>by
   unfold zyp
   by_cases hi:i=n
   ·subst hi
    split
    ·exact Rat.le_refl
    ·next h2=>exact Rat.not_lt.1 h2
   ·have h1:=leave_ge (c:=c) (show i<n by omega)
    split
    ·next h2=>exact Rat.le_trans h1 (Rat.le_of_lt h2)
    ·exact h1
theorem zqx {c:RC}:∀n:Nat,0≤zyp c n
 | 0=>Rat.le_refl
 | n+1=>by
   unfold zyp
   split
   ·next h=>exact Rat.le_trans (zqx n) (Rat.le_of_lt h)
   ·exact zqx n
theorem leave_le {c:RC} {x:Rat} (hx:0≤x):∀ {n:Nat},(∀i,i<n→zgg (zaq c i)≤x)→zyp c n≤x:=
 fun{n} h=>zyy (P:=fun q=>q≤x) hx h
section
variable {c:RC} {n N S R:Nat}
theorem stepE_over (hR:R≠0) (hr:∀i j,i<n→j<n→over 144 N ((zaq c i).getD j 0)) (hs:∀i,i<n→over 144 S (zgg (zaq c i))) {i j:Nat} (hi:i<n) (hj:j<n):
 over R (R+S+N) (zfq c (mkRat ((R:Nat):Int) 144) i j):=by
 unfold zfq
 split
 ·rw[Rat.sub_eq_add_neg]
  exact(over.add hR (over.one hR) (over.neg (over.div (by decide) hR (hs i hi)))).mono (by omega)
 ·exact(over.div (by decide) hR (hr i j hi hj)).mono (by omega)
theorem step_fits1 (hR:R≠0) (hRb:R≤30000) (hNb:N≤30000) (hr:∀i j,i<n→j<n→over 144 N ((zaq c i).getD j 0)):∀i j,i<n→j<n→fits ((zaq c i).getD j 0/mkRat ((R:Nat):Int) 144):=
 fun i j hi hj=>(over.div (by decide) hR (hr i j hi hj)).fits hR (Nat.lt_of_le_of_lt hNb (by decide+kernel)) (Nat.lt_of_le_of_lt hRb (by decide+kernel))
theorem step_fits2 (hR:R≠0) (hRb:R≤30000) (hSb:S≤30000) (hs:∀i,i<n→over 144 S (zgg (zaq c i))):∀i,i<n→fits (zgg (zaq c i)/mkRat ((R:Nat):Int) 144)∧fits (1-zgg (zaq c i)/mkRat ((R:Nat):Int) 144):=
 fun i hi=>by
  have h1:=over.div (by decide) hR (hs i hi)
  refine⟨h1.fits hR (Nat.lt_of_le_of_lt hSb (by decide+kernel)) (Nat.lt_of_le_of_lt hRb (by decide+kernel)),?_⟩
  rw[Rat.sub_eq_add_neg]
  exact(over.add hR (over.one hR) (over.neg h1)).fits hR (Nat.lt_of_le_of_lt (show R+S≤60000 by omega) (by decide+kernel)) (Nat.lt_of_le_of_lt hRb (by decide+kernel))
end
theorem stepE_stepM (c:RC) (n:Nat) (ρ:Rat) {i:Nat} (hl:(zaq c i).length=n) (j:Nat):zfq c ρ i j=zkx n (fun i j=>(zaq c i).getD j 0) ρ⁻¹ i j:=by
 unfold zfq zkx
 rw[zup,hl]
 simp only[Rat.div_def]
end Go.Proofs.YtlpdkbmmbdfoiaaGreat
