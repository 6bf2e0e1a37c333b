/-
  package drydockref01: times, Add, Sub, Mul.
-/
import Derived.Test.YtlpdkbmmbdfoiaaGreatLKp
import Derived.Test.YtlpdkbmmbdfoiaaGreatLNa7
import Derived.Test.YtlpdkbmmbdfoiaaGreatLFr2
import Derived.IntWalk
set_option linter.unusedVariables false
set_option linter.unusedSimpArgs false
namespace Go.Proofs.YtlpdkbmmbdfoiaaGreat
open Go.RowKit
def ztq (c:RC) (i:Nat) (r:List RF):Prop:=zlr r c.start.length∧(∀x,r[i]? =some x→x.q.num=0)∧(c.lost[i]? =some true→wts (qs r)=0)
def zzp (c:RC):Prop:=1≤c.start.length∧c.start.length≤128∧c.lost.length=c.start.length∧c.rates.length=c.start.length∧zlr c.start c.start.length∧
 (∀i r,c.rates[i]? =some r→ztq c i r)∧zgg (qs c.start)=1
theorem zlr.fits {l:List RF} {n:Nat} (h:zlr l n) (k:Nat):fits (zgg (qs (l.take k))):=by
 have h1:∀q∈qs l,0≤q:=fun q hq=>by
  obtain⟨x,hx,rfl⟩:=List.mem_map.1 hq
  exact Rat.not_lt.1 (h.1 x hx).2.1
 rw[←qs_take]
 exact lsum_fits (List.take_sublist k _) h1 h.2.2
theorem zlr.ok {l:List RF} {n:Nat} (h:zlr l n):∀x∈l,x.ok:=fun x hx=>(h.1 x hx).1
theorem zvz (va vb:Value) (p q:Rat) (w:World) (ha:zqa w va p) (hb:zqa w vb q) (hp:fits p) (hq:fits q):
 Calls Tryz.prog 130 #[va,vb] w fun en w'=>en= .returned (.tuple #[.int .i64 (zsr p q), .int .i64 0])∧Below w.heap.size w w':=by
 have h:=cmp_frac va vb _ _ _ _ _ _ w ha.raw hb.raw (zuc hp) (zuc hq)
 rw[zvb,zvb]at h
 exact h
set_option maxHeartbeats 1600000 in
theorem valid_false1 (va:Value) (c:RC) (w:World) (ha:zdq w va c) (h:c.start.length<1∨128<c.start.length∨c.lost.length≠c.start.length∨c.rates.length≠c.start.length∨¬zlr c.start c.start.length):
 Calls Tryz.prog 68 #[va] w fun e w'=>e= .returned (.bool false)∧Below w.heap.size w w':=by
 obtain⟨rv,sv,lv,rfl,hr,hs,hl⟩:=ha
 obtain⟨ra,rn,rk,rfl,r1,r2,r3⟩:=hr.sl
 obtain⟨sa,sn,sk,rfl,s1,s2,s3⟩:=hs.sl
 obtain⟨la,ln,lk,rfl,l1,l2,l3⟩:=zhc.sl hl
 have hrl:rn=c.rates.length:=hr.len
 have hsl:sn=c.start.length:=hs.len
 have hll:ln=c.lost.length:=hl.len
 subst hrl hsl hll
 unfold maxLen at r2 s2 l2
 have hbx:=zca w (.cells #[.slice ra c.rates.length rk, .slice sa c.start.length sk, .slice la c.lost.length lk] 28)
 have hs':=hs.below hbx
 generalize c.start.length=n at *
 generalize c.lost.length=nl at *
 generalize c.rates.length=nr at *
 by_cases h1:n<1
 ·go_enter Tryz.func68,Tryz.ntmps68
  go_wp2_with fail
  go_ret
  exact⟨rfl,hbx⟩
 ·by_cases h2:128<n
  ·go_enter Tryz.func68,Tryz.ntmps68
   go_wp2_with fail
   go_ret
   exact⟨rfl,hbx⟩
  ·by_cases h3:nl=n
   ·by_cases h4:nr=n
    ·have h5:¬zlr c.start n:=by
      rcases h with h | h | h | h | h
      ·omega
      ·omega
      ·omega
      ·omega
      ·exact h
     have H5:=zH h5
     subst h3 h4
     clear h h5
     go_enter Tryz.func68,Tryz.ntmps68
     go_wp2_with (go_at_call 144;(with_reducible refine(zks _ c.start nr _ hs' (by omega)).mono ?_);rintro e w1 ⟨rfl,hb1⟩;rw[decide_eq_false H5.out])
     go_ret
     exact⟨rfl,zaa hbx hb1⟩
    ·have h4b:(((nr:Nat):Int) != (n:Nat))=true:=by simp;omega
     subst h3
     clear h
     go_enter Tryz.func68,Tryz.ntmps68
     go_wp2_with fail
     go_ret
     exact⟨rfl,hbx⟩
   ·have h3b:(((nl:Nat):Int) != (n:Nat))=true:=by simp;omega
    clear h
    go_enter Tryz.func68,Tryz.ntmps68
    go_wp2_with fail
    go_ret
    exact⟨rfl,hbx⟩
@[go_sem] theorem slen_slice (a : Option Addr) (n c : Nat) : slen (.slice a n c) = n := rfl
theorem RF.num_zero {x:RF} (h:x.ok):x.q.num=0↔x.n=0:=by
 have e:x.q.num.natAbs=x.n/Nat.gcd x.n x.d:=zif _ _ _ h.1
 constructor
 ·intro h0
  have h1:x.n/Nat.gcd x.n x.d=0:=by rw[←e,h0];rfl
  rcases Nat.eq_zero_or_pos x.n with h2 | h2
  ·exact h2
  ·have:=Nat.div_pos (Nat.le_of_dvd h2 (Nat.gcd_dvd_left x.n x.d)) (Nat.gcd_pos_of_pos_left _ h2)
   omega
 ·intro h0
  rw[h0,Nat.zero_div]at e
  omega
theorem RF.above_pos {x:RF} (h:x.ok) (h0:¬x.q<0) (hn:x.q.num≠0):(!x.neg&& !decide (x.n=0))=true:=by
 have hn2:x.n≠0:=fun e=>hn ((RF.num_zero h).2 e)
 have e:decide (x.q<0)=(x.neg&&decide (0<x.n/Nat.gcd x.n x.d)):=zqu _ _ _ h.1
 have h1:0<x.n/Nat.gcd x.n x.d:=Nat.div_pos (Nat.le_of_dvd (Nat.pos_of_ne_zero hn2) (Nat.gcd_dvd_left _ _)) (Nat.gcd_pos_of_pos_left _ (Nat.pos_of_ne_zero hn2))
 rw[decide_eq_false h0,decide_eq_true h1,Bool.and_true]at e
 rw[←e,decide_eq_false hn2];rfl
theorem RF.above_zero {x:RF} (h:x.ok) (hn:x.q.num=0):(!x.neg&& !decide (x.n=0))=false:=by
 rw[decide_eq_true ((RF.num_zero h).1 hn)];simp
def zgr (w0:World) (c:RC) (e:Ending) (w:World):Prop:=(∃b,e= .returned (.bool b)∧(b=true↔zzp c))∧Below w0.heap.size w0 w
theorem zgr.no {w0 w:World} {c:RC} (h:¬zzp c) (hb:Below w0.heap.size w0 w):zgr w0 c (.returned (.bool false)) w:=⟨⟨false,rfl,by simp[h]⟩,hb⟩
theorem matN_one (w:World) (ea:Option Addr) (ek:Nat) (l:List RF) (h:zni w (.slice ea l.length ek) l):
 zlw (w.alloc (.cells #[.slice ea l.length ek] 25)) (.slice (some ⟨w.heap.size,0,none⟩) 1 1) [l]:=
 ⟨⟨_,1,1,rfl,Nat.le_refl _,by simp[maxLen],fun e=>by cases e⟩,rfl,fun j hj=>by
   have hj0:j=0:=by simp at hj;omega
   subst hj0
   exact⟨_,by simp[ptr,base,Addr.add],h.below (zca _ _)⟩⟩
set_option maxRecDepth 100000 in
set_option maxHeartbeats 3200000 in
theorem valid_rest (va:Value) (c:RC) (w:World) (ha:zdq w va c) (h1:1≤c.start.length) (h2:c.start.length≤128) (h3:c.lost.length=c.start.length) (h4:c.rates.length=c.start.length) (h5:zlr c.start c.start.length):
 Calls Tryz.prog 68 #[va] w (zgr w c):=by
 obtain⟨rv,sv,lv,rfl,hr,hs,hl⟩:=ha
 obtain⟨ra,rn,rk,rfl,r1,r2,r3⟩:=hr.sl
 obtain⟨sa,sn,sk,rfl,s1,s2,s3⟩:=hs.sl
 obtain⟨la,ln,lk,rfl,l1,l2,l3⟩:=zhc.sl hl
 have hrl:rn=c.start.length:=hr.len.trans h4
 have hsl:sn=c.start.length:=hs.len
 have hll:ln=c.start.length:=hl.len.trans h3
 subst hrl hsl hll
 clear r1 r2 r3 s1 s2 s3 l1 l2 l3
 have hbx:=zca w (.cells #[.slice ra c.start.length rk, .slice sa c.start.length sk, .slice la c.start.length lk] 28)
 have hs':=hs.below hbx
 have hr':=hr.below hbx
 have hl':=hl.below hbx
 have hc3:=C3.new w 28 (.slice ra c.start.length rk) (.slice sa c.start.length sk) (.slice la c.start.length lk)
 have H3:=zH h3
 have H4:=zH h4
 have H5:=zH h5
 have HVAL:Hid (zzp c↔(∀i r,c.rates[i]? =some r→ztq c i r)∧zgg (qs c.start)=1):=zH ⟨fun h=>⟨h.2.2.2.2.2.1,h.2.2.2.2.2.2⟩,fun h=>⟨h1,h2,h3,h4,h5,h.1,h.2⟩⟩
 clear h3 h4 h5 hs hr hl
 generalize hn:c.start.length=n at *
 have HSTP:Hid (∀i r,(zlr r n∧(∀x,r[i]? =some x→x.q.num=0)∧(c.lost[i]? =some true→wts (qs r)=0))↔ztq c i r):=zH (fun i r=>by unfold ztq;rw[hn])
 have HNE:=zH hn
 have HN6:Hid (n≤65536):=zH (by omega)
 clear hn
 go_enter Tryz.func68,Tryz.ntmps68
 go_wp2_with fail
 have hd1:decide ((n:Int)<1)=false:=decide_eq_false (by omega)
 have hd2:decide ((128:Int)<(n:Int))=false:=decide_eq_false (by omega)
 generalize hW:w.alloc (.cells #[.slice ra n rk, .slice sa n sk, .slice la n lk] 28)=W at *
 clear hW
 have HC3:=zH hc3
 obtain⟨_,b0,b1,b2,b3,b4,b5⟩:=hc3
 go_wp2_with (go_at_call 144;(with_reducible refine(zks _ c.start n _ hs' HN6.out).mono ?_);rintro e w1 ⟨rfl,hb1⟩;rw[decide_eq_true H5.out];obtain⟨_,f0,f1,f2,f3,f4,f5⟩:=HC3.out.belowS hb1)
 clear b0 b1 b2 b3 b4 b5 f0 f1 f2 f3 f4 f5 hd1 hd2
 have slR:=hr'.sl
 have slS:=hs'.sl
 have slL:zgc (.slice la n lk):=zhc.sl hl'
 go_loopw [43] (fun u43 wr=>∃ (k:Nat),k≤n∧u43= .int .i64 k∧(∀i r,i<k→c.rates[i]? =some r→ztq c i r)∧Below W.heap.size W wr) (fun u43 _=>n- (intOf u43).toNat)
 case atStart=>exact⟨0,Nat.zero_le _,rfl,fun i r h=>by omega,hb1⟩
 case round=>
  obtain⟨k,hk,rfl,hst,hb⟩:=hrel
  clear hb1
  have HST:=zH hst
  clear hst
  have HC:=zH (HC3.out.belowS hb)
  obtain⟨_,b0,b1,b2,b3,b4,b5⟩:=HC3.out.belowS hb
  by_cases hkn:k<n
  ·have hkr:k<c.rates.length:=by rw[H4.out];exact hkn
   have hkl:k<c.lost.length:=by rw[H3.out];exact hkn
   obtain⟨rv,hrc,hrw⟩:=(hr'.below hb).at' k hkr
   have hlc:=(hl'.below hb).at' k hkl
   have HRK:Hid (c.rates[k]? =some (c.rates[k]'hkr)):=zH (List.getElem?_eq_getElem hkr)
   have HLK:Hid (c.lost[k]? =some (c.lost[k]'hkl)):=zH (List.getElem?_eq_getElem hkl)
   generalize c.rates[k]'hkr=l at *
   generalize c.lost[k]'hkl=lo at *
   have HNO:Hid (¬ztq c k l→¬zzp c):=zH (fun h h'=>h ((HVAL.out.1 h').1 k l HRK.out))
   have HYES:Hid (ztq c k l→∀i r,i<k+1→c.rates[i]? =some r→ztq c i r):=zH (fun h i r hi hr=>by
    rcases Nat.lt_or_ge i k with h6 | h6
    ·exact HST.out i r h6 hr
    ·obtain rfl:i=k:=by omega
     rw[HRK.out]at hr
     injection hr with hr
     subst hr
     exact h)
   clear hkr hkl
   obtain⟨ea,en,ek,rfl,e1,e2,e3⟩:=hrw.sl
   have slW:=hrw.sl
   have hen:en=l.length:=hrw.len
   subst hen
   by_cases hrow:zlr l n
   ·have hll:l.length=n:=hrow.2.1
    have hkl:k<l.length:=by omega
    obtain⟨xa,xb,c1,c2,c3,hxa,hxb⟩:=hrw.at' k hkl
    obtain⟨c1a,c1l,c1k,rfl,_⟩:=hxa.slen.1
    obtain⟨c2a,c2l,c2k,rfl,_⟩:=hxb.slen.1
    have HXK:Hid (l[k]? =some (l[k]'hkl)):=zH (List.getElem?_eq_getElem hkl)
    have HXP:=zH (hrow.1 _ (List.getElem_mem hkl))
    have HROW:=zH hrow
    have HLL:=zH hll
    generalize l[k]'hkl=x at *
    have hxN:zdc wr (.agg #[.bool x.neg, .slice c1a c1l c1k, .slice c2a c2l c2k]) x.neg x.n x.d:=⟨_,_,rfl,hxa,hxb⟩
    clear hrow hll hxa hxb
    by_cases hz:x.q.num=0
    ·have HAB:=zH (RF.above_zero HXP.out.1 hz)
     have HXZ:Hid (∀y,l[k]? =some y→y.q.num=0):=zH (fun y hy=>by rw[HXK.out]at hy;injection hy with hy;rw[←hy];exact hz)
     clear hz
     rcases lo with _ | _
     ·have HOK:=zH (HYES.out ((HSTP.out k l).1 ⟨HROW.out,HXZ.out,fun h=>by rw[HLK.out]at h;injection h with h;cases h⟩))
      go_wp2_with (first
       |(go_at_call 144;(with_reducible refine(zks _ l n _ hrw HN6.out).mono ?_);rintro e w1 ⟨rfl,hb1⟩;rw[decide_eq_true HROW.out]
         have d1:=zba hb1 c1
         have d2:=zba hb1 c2
         have d3:=zba hb1 c3
         )
       |(go_at_call 145;(with_reducible refine(zer _ x.neg x.n x.d _ (hxN.below hb1)).mono ?_);rintro e w2 ⟨rfl,hb2⟩;rw[HAB.out]
         obtain⟨_,f0,f1,f2,f3,f4,f5⟩:=(HC.out.belowS hb1).belowS hb2
         have hlc2:=zba (zaa hb1 hb2) hlc
         ))
      go_roundw
      case rel=>exact⟨k+1,hkn,by go_num,HOK.out,zaa (zaa hb hb1) hb2⟩
      case measure=>simp[intOf];omega
     ·have HWT:Hid (wts (qs l)=0→∀i r,i<k+1→c.rates[i]? =some r→ztq c i r):=zH (fun h=>HYES.out ((HSTP.out k l).1 ⟨HROW.out,HXZ.out,fun _=>h⟩))
      have HWF:Hid (0<wts (qs l)→¬zzp c):=zH (fun h=>HNO.out (fun h'=>by have:=((HSTP.out k l).2 h').2.2 HLK.out;omega))
      have HOKS:Hid (∀l'∈ [l],∀x∈l',x.ok):=zH (fun l' h x hx=>by simp at h;subst h;exact(HROW.out.1 x hx).1)
      have HLLS:Hid (∀l'∈ [l],l'.length≤65536):=zH (fun l' h=>by simp at h;subst h;have:=HLL.out;omega)
      have HLEN:Hid ([l].length≤65536):=zH (by simp)
      have HW1:=zH (zhr l)
      go_wp2_with (first
       |(go_at_call 144;(with_reducible refine(zks _ l n _ hrw HN6.out).mono ?_);rintro e w1 ⟨rfl,hb1⟩;rw[decide_eq_true HROW.out]
         have d1:=zba hb1 c1
         have d2:=zba hb1 c2
         have d3:=zba hb1 c3
         )
       |(go_at_call 145;(with_reducible refine(zer _ x.neg x.n x.d _ (hxN.below hb1)).mono ?_);rintro e w2 ⟨rfl,hb2⟩;rw[HAB.out]
         obtain⟨_,f0,f1,f2,f3,f4,f5⟩:=(HC.out.belowS hb1).belowS hb2
         have hlc2:=zba (zaa hb1 hb2) hlc
         have hb4:=zaa (zaa hb1 hb2) (zca w2 (.cells #[.slice ea l.length ek] 25))
         have HM:=zH (matN_one w2 ea ek l (hrw.below (zaa hb1 hb2)))
         )
       |(go_at_call 146;(with_reducible refine(zzq _ [l] _ HM.out HOKS.out HLLS.out HLEN.out).mono ?_);rintro e w3 ⟨rfl,hb3⟩;rw[HW1.out]))
      ·go_ret
       exact zgr.no (HWF.out (by assumption)) (hbx.trans ((zaa (zaa hb hb4) hb3).mono hbx.size))
      ·go_roundw
       case rel=>exact⟨k+1,hkn,by go_num,HWT.out (by omega),zaa (zaa hb hb4) hb3⟩
       case measure=>simp[intOf];omega
    ·have HB:=zH (HNO.out (fun h=>hz (h.2.1 x HXK.out)))
     have HAB:=zH (RF.above_pos HXP.out.1 HXP.out.2.1 hz)
     clear hz
     go_wp2_with (first
      |(go_at_call 144;(with_reducible refine(zks _ l n _ hrw HN6.out).mono ?_);rintro e w1 ⟨rfl,hb1⟩;rw[decide_eq_true HROW.out]
        have d1:=zba hb1 c1
        have d2:=zba hb1 c2
        have d3:=zba hb1 c3)
      |(go_at_call 145;(with_reducible refine(zer _ x.neg x.n x.d _ (hxN.below hb1)).mono ?_);rintro e w2 ⟨rfl,hb2⟩;rw[HAB.out]))
     go_ret
     exact zgr.no HB.out (hbx.trans ((zaa (zaa hb hb1) hb2).mono hbx.size))
   ·have HB:=zH (HNO.out (fun h=>hrow ((HSTP.out k l).2 h).1))
    have HR:=zH hrow
    clear hrow
    go_wp2_with (go_at_call 144;(with_reducible refine(zks _ l n _ hrw HN6.out).mono ?_);rintro e w1 ⟨rfl,hb1⟩;rw[decide_eq_false HR.out])
    go_ret
    exact zgr.no HB.out (hbx.trans ((zaa hb hb1).mono hbx.size))
  ·obtain rfl:k=n:=by omega
   have HALL:Hid (∀i r,c.rates[i]? =some r→ztq c i r):=zH (fun i r h=>HST.out i r (by
    obtain⟨h6,_⟩:=List.getElem?_eq_some_iff.1 h
    have:=H4.out;omega) h)
   have HOKS:Hid (∀x∈c.start,x.ok):=zH H5.out.ok
   have HFIT:Hid (∀j,j≤c.start.length→fits (zgg (qs (c.start.take j)))):=zH (fun j _=>H5.out.fits j)
   have HFS:Hid (fits (zgg (qs c.start))):=zH (by have h6:=H5.out.fits c.start.length;rw[List.take_length]at h6;exact h6)
   go_wp2_with (go_at_call 137;(with_reducible refine(sum_frac _ c.start _ (hs'.below hb) HOKS.out HFIT.out).mono ?_);rintro e w1 ⟨v,rfl,hv,hb1⟩
                obtain⟨t9,x9,y9,rfl,⟨a1,l91,k1,rfl,_⟩,⟨a2,l92,k2,rfl,_⟩⟩:=hv.isF)
   have hv6:=hv.below (zca w1 (.cells #[.bool t9, .slice a1 l91 k1, .slice a2 l92 k2] 38))
   have hc6:=C3.new w1 38 (.bool t9) (.slice a1 l91 k1) (.slice a2 l92 k2)
   have hb6:=zaa (zaa hb hb1) (zca w1 (.cells #[.bool t9, .slice a1 l91 k1, .slice a2 l92 k2] 38))
   generalize w1.alloc (.cells #[.bool t9, .slice a1 l91 k1, .slice a2 l92 k2] 38)=W6 at *
   have hdr:=zja (B:=W6.heap.size) W6
   have hv7:=hv6.below hdr
   have HC7:=zH (hc6.belowS hdr)
   have hb7:=zaa hb6 hdr
   clear hv hv6 hb1 hb6 hb b0 b1 b2 b3 b4 b5 hs' hr' hl'
   obtain⟨_,q1,q2,q3,q4,q5,q6⟩:=hc6.belowS hdr
   clear hc6
   generalize w1.heap.size=B6 at *
   have HF1:=zH zdt
   go_region_held3 (fun w'=>w'.cell? ⟨B6,0,none⟩=some (.bool t9)∧w'.cell? ⟨B6,1,none⟩=some (.slice a1 l91 k1)∧w'.cell? ⟨B6,2,none⟩=some (.slice a2 l92 k2)) (exact⟨q1,q2,q3⟩) (first
    |(go_at_call 109;(with_reducible refine(zqs _).mono ?_);rintro e8 w8 ⟨v1,rfl,hv1,hb8⟩
      obtain⟨_,q1,q2,q3,q4,q5,q6⟩:=HC7.out.belowS hb8
      have HC8:=zH (HC7.out.belowS hb8)
      have hv8:=hv7.below hb8)
    |(go_at_call 130;(with_reducible refine(zvz _ v1 _ _ _ hv8 hv1 HFS.out HF1.out).mono ?_);rintro e9 w9 ⟨rfl,hb9⟩
      obtain⟨_,q1,q2,q3,q4,q5,q6⟩:=HC8.out.belowS hb9))
   go_wp2
   go_ret
   refine⟨⟨_,rfl,?_⟩,hbx.trans ((zaa (zaa hb7 hb8) hb9).mono hbx.size)⟩
   rw[HVAL.out]
   have h9:=zji (zgg (qs c.start)) 1
   exact⟨fun h=>⟨HALL.out,h9.1 (by simpa using h)⟩,fun h=>by simpa using h9.2 h.2⟩
theorem zar (va:Value) (c:RC) (w:World) (ha:zdq w va c):Calls Tryz.prog 68 #[va] w (zgr w c):=by
 by_cases h:c.start.length<1∨128<c.start.length∨c.lost.length≠c.start.length∨c.rates.length≠c.start.length∨¬zlr c.start c.start.length
 ·refine(valid_false1 va c w ha h).mono fun e w' ⟨h1,h2⟩=> ?_
  rw[h1]
  refine zgr.no (fun hv=> ?_) h2
  obtain⟨v1,v2,v3,v4,v5,_⟩:=hv
  rcases h with h | h | h | h | h
  ·omega
  ·omega
  ·exact h v3
  ·exact h v4
  ·exact h v5
 ·exact valid_rest va c w ha (Nat.le_of_not_lt fun h1=>h (Or.inl h1)) (Nat.le_of_not_lt fun h1=>h (Or.inr (Or.inl h1))) (Decidable.of_not_not fun h1=>h (Or.inr (Or.inr (Or.inl h1)))) (Decidable.of_not_not fun h1=>h (Or.inr (Or.inr (Or.inr (Or.inl h1))))) (Decidable.of_not_not fun h1=>h (Or.inr (Or.inr (Or.inr (Or.inr h1)))))
set_option maxHeartbeats 800000
def RNatO (w0:World) (n:Nat) (e:Ending) (w:World):Prop:=∃r,e= .returned r∧zcc w 142 w0.heap.size r (zla n)∧zda n≤4294967296∧Below w0.heap.size w0 w
theorem RNatO.nat {w0:World} {n:Nat} {e:Ending} {w:World} (h:RNatO w0 n e w):RNat w0 n e w:=by
 obtain⟨r,h1,h2,h3,h4⟩:=h;exact⟨r,h1,⟨h2.nat,h3⟩,h4⟩
theorem zaf (l:List Nat) (j:Nat) (hj:j<l.length):l.getD j 0=l[j]:=by simp[List.getD,hj]
theorem zjk (v:Value) (n:Nat) (w:World) (h:zob w v n):
 Calls Tryz.prog 106 #[v] w (RNatO w n):=by
 obtain⟨l,hl,HE,hll⟩:=h
 have hs:=hl.sl
 have hlen:=hl.len
 have hle:=hs.le
 have hcan:=hl.can hll
 rw[HE]at hcan
 have hce:clen l=zda n:=by rw[zhj hl.lm,HE]
 have hcl:=zsb hl.lm
 rw[HE]at hcl
 have HCE:=zH hce
 clear HE hce
 have HLL:=zH hll
 clear hll
 have hcs:zda n≤scap v:=by omega
 obtain⟨i0,hi,hz0,hz1,hz2⟩:=info_parts Tryz.info102
 have hroom:([]:List Nat).length+(zla n).length≤35184372088832:=by have:=hcan.2;unfold zda at this;simp;omega
 have hA:=zkj (P:=Tryz.prog) 36 142 i0 Tryz.underlying36 hi hz0 hz1 hz2
 have HR:=zH hroom
 have HN:=zH hcan
 clear hroom hcan hi hz0 hz1 hz2
 go_enter Tryz.func106,Tryz.ntmps106
 go_wp2
 go_loop [3] (fun i=>∃k:Nat,k≤l.length∧i= .int .i64 k∧clen (l.take k)=clen l) (fun i=>(intOf i).toNat)
 case atStart=>exact⟨l.length,Nat.le_refl _,by simp[hlen],by rw[List.take_length]⟩
 case round=>
  obtain⟨k,hk,rfl,hce⟩:=hrel
  have HC:=zH hce;clear hce
  by_cases h1:0<k∧l.getD (k-1) 0=0
  ·obtain⟨h0,hx⟩:=h1
   obtain⟨j,rfl⟩:∃j,k=j+1:=⟨k-1,by omega⟩
   have hj:j<l.length:=by omega
   rw[Nat.add_sub_cancel,zaf _ _ hj]at hx
   have hc:=hl.cell j hj
   have HZ:=zH (zbf l j hj hx)
   rw[hx]at hc
   clear hx
   go_wp2_with fail
   go_round
   case rel=>exact⟨j,by omega,rfl,by rw[←HC.out,HZ.out]⟩
   case measure=>simp[intOf]
  ·have e:zda n=k:=by
    rw[←HCE.out,←HC.out]
    by_cases h0:0<k
    ·obtain⟨j,rfl⟩:∃j,k=j+1:=⟨k-1,by omega⟩
     have hj:j<l.length:=by omega
     exact zki l j hj (fun hx=>h1 ⟨h0,by rw[Nat.add_sub_cancel,zaf _ _ hj,hx]⟩)
    ·obtain rfl:k=0:=by omega
     rfl
   rw[e]at HN hcs hcl
   have hc:0<k→∃x:Nat,w.cell? (ptr v (k-1))=some (.int .u32 x)∧(((x:Nat):Int)==0)=false:=fun h0=>by
    have hj:k-1<l.length:=by omega
    refine⟨_,hl.cell (k-1) hj,?_⟩
    have :l[k-1]≠0:=fun hx=>h1 ⟨h0,by rw[zaf _ _ hj,hx]⟩
    have :((l[k-1]:Nat):Int)≠0:=by omega
    simpa using this
   clear h1 e
   rcases Nat.eq_zero_or_pos k with h0 | h0
   ·clear hc
    subst h0
    go_wp2_with (at_builtin;refine hA w rfl _ _ rfl w.heap.size _ [] rfl (zcc.nil _ _ _) _ rfl (zla n) HN.out.1 HR.out (Nat.le_refl _) ?_;intro v' w1 hown _ hbel)
    go_ret
    exact⟨v',rfl,by simpa using hown,HN.out.2,hbel⟩
   ·obtain⟨x,hx,hx3⟩:=hc h0
    clear hc
    go_wp2_with (at_builtin;refine hA w rfl _ _ rfl w.heap.size _ [] rfl (zcc.nil _ _ _) _ rfl (zla n) HN.out.1 HR.out (Nat.le_refl _) ?_;intro v' w1 hown _ hbel)
    go_ret
    exact⟨v',rfl,by simpa using hown,HN.out.2,hbel⟩
theorem zra (v:Value) (n:Nat) (w:World) (h:zob w v n):
 Calls Tryz.prog 106 #[v] w (RNat w n):=(zjk v n w h).mono fun _ _ h=>h.nat
theorem zkd (n:Nat) (hn:n<18446744073709551616) (w:World):
 Calls Tryz.prog 72 #[.int .u64 n] w (RNat w n):=by
 have HN:=zal w 142 (n%4294967296) (n/4294967296) (by omega) (by omega)
 rw[show((n%4294967296:Nat):Int)=(n:Int)%4294967296 from by omega,show((n/4294967296:Nat):Int)=(n:Int)/4294967296 from by omega]at HN
 have hv:val [n%4294967296,n/4294967296]=n:=by simp[val];omega
 have HL:=HN.natN (by simp)
 rw[hv]at HL
 have HT:=zH (zra _ _ _ HL)
 have HB:=zH ((Below.refl w.heap.size w).alloc (Nat.le_refl _) (.cells #[.int .u32 ((n:Int)%4294967296), .int .u32 ((n:Int)/4294967296)] 142))
 clear HN hv HL
 go_enter Tryz.func72,Tryz.ntmps72
 go_wp2_with (go_at_call 106;refine HT.out.mono ?_;rintro e w1 ⟨r,rfl,hr,hb⟩)
 go_ret
 exact⟨_,rfl,hr,HB.out.trans (hb.mono HB.out.size)⟩
theorem zti (v:Value) (n:Nat) (w:World) (h:zob w v n):
 Calls Tryz.prog 152 #[v] w fun e w'=>e= .returned (.bool (decide (512<zda n)))∧Below w.heap.size w w':=by
 go_enter Tryz.func152,Tryz.ntmps152
 go_wp2_with (go_at_call 106;refine(zra v n _ h).mono ?_;rintro e w1 ⟨r,rfl,hr,hb⟩;have h1:=hr.1.sl;have h2:slen r=zda n:=hr.1.len)
 go_ret
 exact⟨by congr 2;simp;omega,hb⟩
theorem zyc (v:Value) (n:Nat) (w:World) (h:zob w v n) (hn:zda n≤512):
 Calls Tryz.prog 152 #[v] w fun e w'=>e= .returned (.bool false)∧Below w.heap.size w w':=
 (zti v n w h).mono fun e w' ⟨h1,h2⟩=>⟨by rw[h1,decide_eq_false (by omega)],h2⟩
theorem zee (va vb:Value) (m n:Nat) (w:World) (ha:zob w va m) (hb:zob w vb n):
 Calls Tryz.prog 77 #[va,vb] w fun e w'=>e= .returned (.int .i64 (zfj m n))∧Below w.heap.size w w':=by
 go_enter Tryz.func77,Tryz.ntmps77
 go_wp2_with (go_at_call 106;first
  |((with_reducible refine(zra va m _ ha).mono ?_);rintro e w1 ⟨ra,rfl,hra,hb1⟩)
  |((with_reducible refine(zra vb n _ (hb.below hb1)).mono ?_);rintro e w2 ⟨rb,rfl,hrb,hb2⟩
    have h1:=(hra.below hb2).1.sl
    have h2:slen ra=zda m:=(hra.below hb2).1.len
    have h3:=hrb.1.sl
    have h4:slen rb=zda n:=hrb.1.len
    have h5:zda m≤4294967296:=hra.2))
 ·go_ret
  exact⟨by rw[zkg (zug (by assumption))];rfl,hb1.trans (hb2.mono hb1.size)⟩
 ·have hne:((zda m:Nat):Int)≠zda n:=by simpa using ‹((zda m:Int) != (zda n:Int))=true›
  have hlt:¬zda m<zda n:=by assumption
  go_ret
  exact⟨by rw[zul (zug (by omega))];rfl,hb1.trans (hb2.mono hb1.size)⟩
 ·have he:zda m=zda n:=by
   have :((zda m:Nat):Int)=zda n:=by simpa using ‹((zda m:Int) != (zda n:Int))=false›
   omega
  have HB:=zH (hb1.trans (hb2.mono hb1.size))
  have ca:=(hra.below hb2).1.cell
  have cb:=hrb.1.cell
  have hln:=hrb.2
  clear ha hb hb1 hb2 hra hrb
  have HE:=zH he
  rw[←he]at hln
  clear he
  go_loopw [5] (fun i wr=>∃k q:Nat,k≤zda m∧i= .int .i64 ((k:Int)-1)∧(zla m).drop k=(zla n).drop k∧wr=w2.drewN q) (fun i _=>(intOf i+1).toNat)
  case atStart=>exact⟨zda m,0,Nat.le_refl _,by simp,by rw[List.drop_of_length_le (show zda m≤zda m from Nat.le_refl _),List.drop_of_length_le (show zda n≤zda m by have:=HE.out;omega)],rfl⟩
  case round=>
   obtain⟨k,q,hk,rfl,hd,rfl⟩:=hrel
   have HD:=zH hd
   clear hd
   by_cases hk0:0<k
   ·obtain⟨j,rfl⟩:∃j,k=j+1:=⟨k-1,by omega⟩
    have hj1:j<zda m:=by omega
    have hj2:j<zda n:=by have:=HE.out;omega
    have h7:=ca j hj1
    have h8:=cb j hj2
    have hlt:=zde (zrb m) j hj1 hj2 HD.out
    have hgt:=zde (zrb n) j hj2 hj1 HD.out.symm
    have heq:=zvm j hj1 hj2 HD.out
    rw[zha,zha]at hlt hgt
    clear ca cb HD
    generalize (zla m)[j]'hj1=x at *
    generalize (zla n)[j]'hj2=y at *
    have HL:=zH hlt
    have HG:=zH hgt
    have HQ:=zH heq
    clear hlt hgt heq
    by_cases hxy:x<y
    ·go_wp2
     go_quiet (fail)
     go_wp2
     go_ret
     exact⟨by rw[zkg (HL.out hxy)];rfl,by first | exact HB.out.trans ((zka _ _).mono HB.out.size) | (simp only[World.drewN_drewN];exact HB.out.trans ((zka _ _).mono HB.out.size))⟩
    ·by_cases hyx:y<x
     ·go_wp2
      go_quiet (fail)
      go_wp2
      go_quiet (fail)
      go_wp2
      go_ret
      exact⟨by rw[zul (HG.out hyx)];rfl,by first | exact HB.out.trans ((zka _ _).mono HB.out.size) | (simp only[World.drewN_drewN];exact HB.out.trans ((zka _ _).mono HB.out.size))⟩
     ·go_wp2
      go_quiet (fail)
      go_wp2
      go_quiet (fail)
      go_wp2
      go_roundw
      case rel=>exact⟨j,_,by omega,by go_num,HQ.out (by omega),by first | rfl | (simp only[World.drewN_drewN];rfl)⟩
      case measure=>simp[intOf]
   ·obtain rfl:k=0:=by omega
    have hmn:m=n:=zhg (by simpa using HD.out)
    have HM:=zH hmn
    clear hmn
    go_wp2
    go_ret
    exact⟨by rw[cmpN_eq HM.out];rfl,HB.out.trans ((zka _ _).mono HB.out.size)⟩
set_option maxHeartbeats 1000000
theorem zmf (l:List Nat) (k:Nat):val (l.take (k+1))=val (l.take k)+pw k*l.getD k 0:=by
 by_cases h:k<l.length
 ·rw[zia l k h,zaf l k h]
 ·rw[zza l (k+1) (by omega),zza l k (by omega)]
  have :l.getD k 0=0:=by simp[List.getD,List.getElem?_eq_none (Nat.le_of_not_lt h)]
  rw[this,Nat.mul_zero,Nat.add_zero]
theorem zmh (o:List Nat) (z:Nat):val (o++ [z])=val o+pw o.length*z:=by rw[zac];simp[val]
theorem zwh {o a b:List Nat} {k c x y:Nat} (ho:o.length=k) (ha:val (a.take (k+1))=val (a.take k)+pw k*x) (hb:val (b.take (k+1))=val (b.take k)+pw k*y)
 (hv:val o+pw k*c=val (a.take k)+val (b.take k)):
 val (o++ [(c+x+y)%4294967296])+pw (k+1)*((c+x+y)/4294967296)=val (a.take (k+1))+val (b.take (k+1)):=by
 rw[zmh,ha,hb,zmb,ho]
 have h:(c+x+y)%4294967296+4294967296*((c+x+y)/4294967296)=c+x+y:=by omega
 generalize (c+x+y)%4294967296=z at *
 generalize (c+x+y)/4294967296=d at *
 grind
theorem plus_any (va vb:Value) (a b:List Nat) (w:World) (ha:zfc w va a) (hb:zfc w vb b) (hla:a.length≤65536) (hlb:b.length≤65536):
 Calls Tryz.prog 153 #[va,vb] w (RNat w (val a+val b)):=by
 obtain⟨i0,hi,hz0,hz1,hz2⟩:=info_parts Tryz.info102
 have hA1:=zuf (P:=Tryz.prog) 36 142 i0 Tryz.underlying36 hi hz0 hz1 hz2
 clear hi hz0 hz1 hz2
 have sa:=ha.sl
 have sb:=hb.sl
 have la:=ha.len
 have lb:=hb.len
 go_enter Tryz.func153,Tryz.ntmps153
 go_wp2_with fail
 go_loopw [5,6,7] (fun u5 u6 u7 wr=>∃ (k c:Nat) (o:List Nat),k≤65537∧(c=0∨k≤a.length∨k≤b.length)∧u7= .int .i64 k∧u6= .int .u64 c∧c≤1∧zcc wr 142 w.heap.size u5 o∧o.length=k∧
  val o+pw k*c=val (a.take k)+val (b.take k)∧Below w.heap.size w wr) (fun _ u6 u7 _=>2*(a.length+b.length+1- (intOf u7).toNat)+(intOf u6).toNat)
 case atStart=>exact⟨0,0,[],by omega,Or.inl rfl,rfl,rfl,by omega,zcc.nil _ _ _,rfl,by simp[val],Below.refl _ _⟩
 case round=>
  obtain⟨k,c,o,hkb,hk,rfl,rfl,hc,hownr,hol,hval,hbr⟩:=hrel
  have HOL:=zH hol
  have HV:=zH hval
  have HK:=zH hk
  have HO:Hid (o.length+1≤4294967296):=zH (by omega)
  clear hol hval hk
  by_cases h1:k<a.length
  ·have hx:=(ha.below hbr).cell k h1
   have hx1:=ha.lt k h1
   have HX:=zH (zia a k h1)
   generalize a[k]=x at *
   have HK1:Hid ((c+x+0)/4294967296=0∨k+1≤a.length∨k+1≤b.length):=zH (by omega)
   by_cases h2:k<b.length
   ·have hy:=(hb.below hbr).cell k h2
    have hy1:=hb.lt k h2
    have HY:=zH (zia b k h2)
    generalize b[k]=y at *
    have HS:=zH (zwh HOL.out HX.out HY.out HV.out)
    have HK1:Hid ((c+x+y)/4294967296=0∨k+1≤a.length∨k+1≤b.length):=zH (by omega)
    go_wp2_with (at_builtin;refine hA1 wr rfl _ _ rfl w.heap.size _ u5 o rfl (by exact hownr) _ ((c+x+y)%4294967296) (by omega) (by omega) rfl (Nat.le_trans HO.out (by decide)) hbr.size ?_;intro v' w1 hown1 hbel1)
    go_roundw
    case rel=>exact⟨k+1,(c+x+y)/4294967296,_,by have:=HK.out;omega,HK1.out,by go_num,by go_num,by omega,hown1,by simp[HOL.out],HS.out,hbr.trans (hbel1.mono (Nat.le_refl _))⟩
    case measure=>simp[intOf];omega
   ·have HS:=zH (zwh (y:=0) HOL.out HX.out (by rw[zza b (k+1) (by omega),zza b k (by omega)];simp) HV.out)
    go_wp2_with (at_builtin;refine hA1 wr rfl _ _ rfl w.heap.size _ u5 o rfl (by exact hownr) _ ((c+x+0)%4294967296) (by omega) (by omega) rfl (Nat.le_trans HO.out (by decide)) hbr.size ?_;intro v' w1 hown1 hbel1)
    go_roundw
    case rel=>exact⟨k+1,(c+x+0)/4294967296,_,by have:=HK.out;omega,HK1.out,by go_num,by go_num,by omega,hown1,by simp[HOL.out],HS.out,hbr.trans (hbel1.mono (Nat.le_refl _))⟩
    case measure=>simp[intOf];omega
  ·by_cases h2:k<b.length
   ·have hy:=(hb.below hbr).cell k h2
    have hy1:=hb.lt k h2
    have HY:=zH (zia b k h2)
    generalize b[k]=y at *
    have HS:=zH (zwh (x:=0) HOL.out (by rw[zza a (k+1) (by omega),zza a k (by omega)];simp) HY.out HV.out)
    have HK1:Hid ((c+0+y)/4294967296=0∨k+1≤a.length∨k+1≤b.length):=zH (by omega)
    go_wp2_with (at_builtin;refine hA1 wr rfl _ _ rfl w.heap.size _ u5 o rfl (by exact hownr) _ ((c+0+y)%4294967296) (by omega) (by omega) rfl (Nat.le_trans HO.out (by decide)) hbr.size ?_;intro v' w1 hown1 hbel1)
    go_roundw
    case rel=>exact⟨k+1,(c+0+y)/4294967296,_,by have:=HK.out;omega,HK1.out,by go_num,by go_num,by omega,hown1,by simp[HOL.out],HS.out,hbr.trans (hbel1.mono (Nat.le_refl _))⟩
    case measure=>simp[intOf];omega
   ·have e1:=zza a k (by omega)
    have e2:=zza b k (by omega)
    have f1:=zza a (k+1) (by omega)
    have f2:=zza b (k+1) (by omega)
    by_cases hc0:0<c
    ·obtain rfl:c=1:=by omega
     have HS:=zH (zwh (x:=0) (y:=0) HOL.out (by rw[e1,f1];simp) (by rw[e2,f2];simp) HV.out)
     have HK1:Hid ((1+0+0)/4294967296=0∨k+1≤a.length∨k+1≤b.length):=zH (Or.inl rfl)
     clear e1 e2 f1 f2
     go_wp2_with (at_builtin;refine hA1 wr rfl _ _ rfl w.heap.size _ u5 o rfl (by exact hownr) _ ((1+0+0)%4294967296) (by omega) (by omega) rfl (Nat.le_trans HO.out (by decide)) hbr.size ?_;intro v' w1 hown1 hbel1)
     go_roundw
     case rel=>exact⟨k+1,(1+0+0)/4294967296,_,by have:=HK.out;omega,HK1.out,by go_num,by go_num,by omega,hown1,by simp[HOL.out],HS.out,hbr.trans (hbel1.mono (Nat.le_refl _))⟩
     case measure=>simp[intOf];omega
    ·obtain rfl:c=0:=by omega
     have hv:val o=val a+val b:=by have:=HV.out;rw[e1,e2]at this;omega
     have HT:=zra _ _ wr (hownr.nat.natN (by have:=HO.out;omega))
     rw[hv]at HT
     have HT2:=zH HT
     clear HT hv e1 e2 f1 f2
     go_wp2_with (go_at_call 106;refine HT2.out.mono ?_;rintro e w1 ⟨r,rfl,hr,hb⟩)
     go_ret
     exact⟨r,rfl,hr,hbr.trans (hb.mono hbr.size)⟩
theorem ztg {o a b:List Nat} {k bo x y z bo':Nat} (ho:o.length=k) (ha:val (a.take (k+1))=val (a.take k)+pw k*x) (hb:val (b.take (k+1))=val (b.take k)+pw k*y)
 (hz:z+bo+y=x+4294967296*bo') (hv:val o+val (b.take k)=val (a.take k)+pw k*bo):
 val (o++ [z])+val (b.take (k+1))=val (a.take (k+1))+pw (k+1)*bo':=by
 rw[zmh,ha,hb,zmb,ho]
 grind
theorem minus_end {o a b:List Nat} {bo:Nat} (hb:val b≤val a) (ho:Lm o) (hol:o.length=a.length) (hbo:bo≤1) (hv:val o+val b=val a+pw a.length*bo):val o=val a-val b:=by
 have h1:=zoe ho
 rw[hol]at h1
 rcases Nat.eq_zero_or_pos bo with h | h
 ·subst h;omega
 ·obtain rfl:bo=1:=by omega
  omega
theorem zdl (va vb:Value) (a b:List Nat) (w:World) (ha:zfc w va a) (hb:zfc w vb b) (hla:a.length≤65536) (hlb:b.length≤a.length) (hba:val b≤val a):
 Calls Tryz.prog 155 #[va,vb] w (RNatO w (val a-val b)):=by
 obtain⟨i0,hi,hz0,hz1,hz2⟩:=info_parts Tryz.info102
 have hA1:=zuf (P:=Tryz.prog) 36 142 i0 Tryz.underlying36 hi hz0 hz1 hz2
 clear hi hz0 hz1 hz2
 have HBA:=zH hba
 clear hba
 have sa:=ha.sl
 have sb:=hb.sl
 have la:=ha.len
 have lb:=hb.len
 go_enter Tryz.func155,Tryz.ntmps155
 go_wp2_with fail
 go_loopw [5,6,7] (fun u5 u6 u7 wr=>∃ (k bo:Nat) (o:List Nat),k≤a.length∧u7= .int .i64 k∧u6= .int .u64 bo∧bo≤1∧zcc wr 142 w.heap.size u5 o∧o.length=k∧
  val o+val (b.take k)=val (a.take k)+pw k*bo∧Below w.heap.size w wr) (fun _ _ u7 _=>a.length- (intOf u7).toNat)
 case atStart=>exact⟨0,0,[],by omega,rfl,rfl,by omega,zcc.nil _ _ _,rfl,by simp[val],Below.refl _ _⟩
 case round=>
  obtain⟨k,bo,o,hk,rfl,rfl,hc,hownr,hol,hval,hbr⟩:=hrel
  have HOL:=zH hol
  have HV:=zH hval
  have HO:Hid (o.length+1≤4294967296):=zH (by omega)
  clear hol hval
  by_cases h1:k<a.length
  ·have hx:=(ha.below hbr).cell k h1
   have hx1:=ha.lt k h1
   have HX:=zH (zia a k h1)
   generalize a[k]=x at *
   by_cases h2:k<b.length
   ·have hy:=(hb.below hbr).cell k h2
    have hy1:=hb.lt k h2
    have HY:=zH (zia b k h2)
    generalize b[k]=y at *
    by_cases h3:x<bo+y
    ·have HS:=zH (ztg (z:=x+4294967296- (bo+y)) (bo':=1) HOL.out HX.out HY.out (by omega) HV.out)
     go_wp2_with (at_builtin;refine hA1 wr rfl _ _ rfl w.heap.size _ u5 o rfl (by exact hownr) _ (x+4294967296- (bo+y)) (by omega) (by omega) rfl (Nat.le_trans HO.out (by decide)) hbr.size ?_;intro v' w1 hown1 hbel1)
     go_roundw
     case rel=>exact⟨k+1,1,_,by omega,by go_num,by go_num,by omega,hown1,by simp[HOL.out],HS.out,hbr.trans (hbel1.mono (Nat.le_refl _))⟩
     case measure=>simp[intOf];omega
    ·have HS:=zH (ztg (z:=x- (bo+y)) (bo':=0) HOL.out HX.out HY.out (by omega) HV.out)
     go_wp2_with (at_builtin;refine hA1 wr rfl _ _ rfl w.heap.size _ u5 o rfl (by exact hownr) _ (x- (bo+y)) (by omega) (by omega) rfl (Nat.le_trans HO.out (by decide)) hbr.size ?_;intro v' w1 hown1 hbel1)
     go_roundw
     case rel=>exact⟨k+1,0,_,by omega,by go_num,by go_num,by omega,hown1,by simp[HOL.out],HS.out,hbr.trans (hbel1.mono (Nat.le_refl _))⟩
     case measure=>simp[intOf];omega
   ·have HY:Hid (val (b.take (k+1))=val (b.take k)+pw k*0):=zH (by rw[zza b (k+1) (by omega),zza b k (by omega)];simp)
    by_cases h3:x<bo+0
    ·have HS:=zH (ztg (z:=x+4294967296- (bo+0)) (bo':=1) HOL.out HX.out HY.out (by omega) HV.out)
     go_wp2_with (at_builtin;refine hA1 wr rfl _ _ rfl w.heap.size _ u5 o rfl (by exact hownr) _ (x+4294967296- (bo+0)) (by omega) (by omega) rfl (Nat.le_trans HO.out (by decide)) hbr.size ?_;intro v' w1 hown1 hbel1)
     go_roundw
     case rel=>exact⟨k+1,1,_,by omega,by go_num,by go_num,by omega,hown1,by simp[HOL.out],HS.out,hbr.trans (hbel1.mono (Nat.le_refl _))⟩
     case measure=>simp[intOf];omega
    ·have HS:=zH (ztg (z:=x- (bo+0)) (bo':=0) HOL.out HX.out HY.out (by omega) HV.out)
     go_wp2_with (at_builtin;refine hA1 wr rfl _ _ rfl w.heap.size _ u5 o rfl (by exact hownr) _ (x- (bo+0)) (by omega) (by omega) rfl (Nat.le_trans HO.out (by decide)) hbr.size ?_;intro v' w1 hown1 hbel1)
     go_roundw
     case rel=>exact⟨k+1,0,_,by omega,by go_num,by go_num,by omega,hown1,by simp[HOL.out],HS.out,hbr.trans (hbel1.mono (Nat.le_refl _))⟩
     case measure=>simp[intOf];omega
  ·obtain rfl:k=a.length:=by omega
   have hv:val o=val a-val b:=minus_end HBA.out hownr.lm HOL.out hc (by have:=HV.out;rw[zza a a.length (Nat.le_refl _),zza b a.length (by omega)]at this;exact this)
   have HT:=zjk _ _ wr (hownr.nat.natN (by have:=HO.out;omega))
   rw[hv]at HT
   have HT2:=zH HT
   clear HT hv
   go_wp2_with (go_at_call 106;refine HT2.out.mono ?_;rintro e w1 ⟨r,rfl,hr,hr2,hb⟩)
   go_ret
   exact⟨r,rfl,⟨hr.own.mono hbr.size,hr.lm⟩,hr2,hbr.trans (hb.mono hbr.size)⟩
theorem minus_any (va vb:Value) (a b:List Nat) (w:World) (ha:zfc w va a) (hb:zfc w vb b) (hla:a.length≤65536) (hlb:b.length≤a.length) (hba:val b≤val a):
 Calls Tryz.prog 155 #[va,vb] w (RNat w (val a-val b)):=(zdl va vb a b w ha hb hla hlb hba).mono fun _ _ h=>h.nat
set_option maxHeartbeats 1600000
theorem zcc.drawn {w:World} {e:TypeId} {B:Nat} {v:Value} {o:List Nat} (h:zcc w e B v o) (k:Nat):zcc (w.drewN k) e B v o:=h.below (zka w k)
theorem zim (c x y q:Nat):(x:Int)*y+q+c=((x*y+q+c:Nat):Int):=by
 rw[Int.natCast_add,Int.natCast_add,Int.natCast_mul]
theorem zod (va vb:Value) (a b:List Nat) (w:World) (ha:zfc w va a) (hb:zfc w vb b) (hla:a.length≤65536) (hlb:b.length≤65536):
 Calls Tryz.prog 197 #[va,vb] w (RNat w (val a*val b)):=by
 obtain⟨i0,hi,hz0,hz1,hz2⟩:=info_parts Tryz.info102
 have hM:=zmd (P:=Tryz.prog) 36 142 i0 Tryz.underlying36 hi hz0 hz1 hz2
 clear hi hz0 hz1 hz2
 have s1:=ha.sl
 have s2:=hb.sl
 have l1:=ha.len
 have l2:=hb.len
 have hroom:a.length+b.length≤35184372088832:=by omega
 go_enter Tryz.func197,Tryz.ntmps197
 go_wp2_with (refine hM _ rfl _ _ rfl w.heap.size _ (a.length+b.length) rfl rfl rfl hroom (Nat.le_refl _) ?_;intro v w1 hown hb1 hvb)
 clear hM hroom
 go_loopw [6] (fun u6 wr=>∃ (k:Nat) (o:List Nat),k≤a.length∧u6= .int .i64 k∧zcc wr 142 w.heap.size v o∧o.length=a.length+b.length∧
  val (o.take (k+b.length))=val (a.take k)*val b∧Below w.heap.size w wr) (fun u6 _=>a.length- (intOf u6).toNat)
 case atStart=>exact⟨0,_,Nat.zero_le _,rfl,hown,by simp,by simp[val,znf],hb1⟩
 case round=>
  obtain⟨k,o,hk,rfl,hownr,hol,hval,hbr⟩:=hrel
  obtain⟨wo,rfl⟩:∃wo:World,wo=wr:=⟨_,rfl⟩
  have HV:=zH hval
  have HOL:=zH hol
  clear hval hol
  by_cases hkp:k<a.length
  ·have HX:=zH (zia a k hkp)
   have hx1:=ha.lt k hkp
   have hca:=fun(wi:World) (h:Below w.heap.size w wi)=>zH ((ha.below h).cell k hkp)
   generalize a[k]=x at *
   go_wp2
   go_loopw [7,8] (fun u7 u8 wi=>∃ (j c:Nat) (o:List Nat),j≤b.length∧u8= .int .i64 j∧u7= .int .u64 c∧c<4294967296∧zcc wi 142 w.heap.size v o∧o.length=a.length+b.length∧
    val (o.take (k+b.length))+pw (k+j)*c=val (a.take k)*val b+pw k*x*val (b.take j)∧Below w.heap.size w wi) (fun _ u8 _=>b.length- (intOf u8).toNat)
   case atStart=>exact⟨0,0,o,Nat.zero_le _,rfl,rfl,by omega,hownr,HOL.out,by rw[HV.out];simp[val],hbr⟩
   case round=>
    obtain⟨j,c,p,hj,rfl,rfl,hc,hownp,hpl,hvp,hbi⟩:=hrel
    have HP:=zH hvp
    have HPL:=zH hpl
    clear hvp
    have sv:=hownp.nat.sl
    have lv:slen v=a.length+b.length:=by rw[hownp.nat.len,hpl]
    clear hpl
    by_cases hjn:j<b.length
    ·have hkj:k+j<p.length:=by rw[HPL.out];omega
     have hx:=(hca _ hbi).out
     have hy:=(hb.below hbi).cell j hjn
     have hy1:=hb.lt j hjn
     have HY:=zH (zia b j hjn)
     have hfz:=hownp.frozen (k+j) hkj
     have hco:=hownp.nat.cell (k+j) hkj
     have hq1:p[k+j]<4294967296:=hownp.lm _ (List.getElem_mem _)
     have HST:=fun(z c':Nat)=>zH (mul_step (o:=p) (b:=b) (k:=k) (j:=j) (N:=k+b.length) (R:=val (a.take k)*val b) (c:=c) (x:=x) (z:=z) (c':=c') (by omega) (by have:=HPL.out;omega) HY.out HP.out)
     generalize b[j]=y at *
     generalize hqe:p[k+j]=q at *
     obtain⟨h0',hxy'⟩:=zsg hx1 hy1
     have hT:=(zcl hx1 hy1 hq1 hc).1
     have hset:=hownp.set (k+j) hkj
     have HT:=zH hT
     have HKJ:=zH hkj
     clear hqe hT hkj
     have e1:IntKind.i64.wrap ((k:Int)+j)=(k:Int)+j:=IntWalk.i64_in _ (by omega)
     have e2:((k:Int)+j).toNat=k+j:=by omega
     have e2b:(0:Int)≤(k:Int)+j:=by omega
     have e3:IntKind.u64.wrap ((x:Int)*y)=(x:Int)*y:=by rw[zyb];omega
     have e4:IntKind.u64.wrap ((x:Int)*y+q)=(x:Int)*y+q:=by rw[zyb];omega
     have e5:IntKind.u64.wrap ((x:Int)*y+q+c)=(x:Int)*y+q+c:=by rw[zyb,zim];have:=HT.out;omega
     go_wp2
     go_quiet (fail)
     clear e1 e2 e2b e3 e4 e5 hset hfz hco hx hy h0' hxy'
     have hownd:=hownp.drawn nq
     have hbd:=hbi.trans ((zka wr nq).mono hbi.size)
     have hco:(wr.drewN nq).cell? (ptr v (k+j))=some (.int .u32 (p[k+j]'HKJ.out:Nat)):=hownd.nat.cell (k+j) HKJ.out
     have hfz:=hownd.frozen (k+j) HKJ.out
     have hset:=hownd.set (k+j) HKJ.out
     generalize wr.drewN nq=W at *
     rw[zim]
     have HT2:=HT.out
     generalize x*y+q+c=t at *
     generalize (p[k+j]'HKJ.out)=q0 at *
     have hset2:=hset (t%4294967296) (by omega)
     clear hset
     go_wp2
     go_roundw
     case rel=>
      have e2:((t:Nat):Int)/4294967296=((t/4294967296:Nat):Int):=rfl
      rw[e2]
      exact⟨j+1,t/4294967296,_,by omega,by go_num,rfl,div_lt_32 HT2,hset2.1,by simp[HPL.out],(HST (t%4294967296) (t/4294967296)).out (by omega),hbd.trans hset2.2⟩
     case measure=>simp[intOf];omega
    ·obtain rfl:j=b.length:=by omega
     have hkj:k+b.length<p.length:=by rw[HPL.out];omega
     have hfz:=hownp.frozen (k+b.length) hkj
     have hco:=hownp.nat.cell (k+b.length) hkj
     have hset:=hownp.set (k+b.length) hkj c hc
     have hv2:=mul_end (o:=p) (a:=a) (b:=b) (k:=k) (n:=val b) (N:=k+b.length) (c:=c) (x:=x) hkj HX.out rfl rfl HP.out
     have HV2:=zH hv2
     clear hv2
     generalize p[k+b.length]=q0 at *
     clear hkj
     go_wp2
     go_roundw
     case rel=>exact⟨k+1,_,by omega,by go_num,hset.1,by simp[HPL.out],by rw[show k+1+b.length=k+b.length+1 from by omega];exact HV2.out,hbi.trans hset.2⟩
     case measure=>simp[intOf];omega
  ·obtain rfl:k=a.length:=by omega
   have hv2:val o=val a*val b:=by
    have e:=HV.out
    rw[List.take_of_length_le (by have:=HOL.out;omega),List.take_of_length_le (show a.length≤a.length from Nat.le_refl _)]at e
    exact e
   have HT:=zra _ _ wo (hownr.nat.natN (by have:=HOL.out;omega))
   rw[hv2]at HT
   have HT2:=zH HT
   clear HT hv2
   go_wp2_with (go_at_call 106;refine HT2.out.mono ?_;rintro e w1 ⟨r,rfl,hr,hb⟩)
   go_ret
   exact⟨r,rfl,hr,hbr.trans (hb.mono hbr.size)⟩
theorem zob.of_eq {w:World} {v:Value} {m n:Nat} (h:zob w v m) (e:m=n):zob w v n:=e▸h
theorem radd_any (va vb:Value) (m n:Nat) (w:World) (ha:zob w va m) (hb:zob w vb n) (hm:zda m≤512) (hn:zda n≤512):
 Calls Tryz.prog 75 #[va,vb] w (zxm w (m+n)):=by
 have HM:=zH hm
 have HN:=zH hn
 have HM2:Hid ((zla m).length≤65536):=zH (Nat.le_trans hm (by decide))
 have HN2:Hid ((zla n).length≤65536):=zH (Nat.le_trans hn (by decide))
 clear hm hn
 go_enter Tryz.func75,Tryz.ntmps75
 go_wp2_with (first
  |(go_at_call 152;first
    |((with_reducible refine(zyc va m _ ha HM.out).mono ?_);rintro e wa ⟨rfl,hba⟩)
    |((with_reducible refine(zyc vb n _ (hb.below hba) HN.out).mono ?_);rintro e wb ⟨rfl,hbb⟩;have hbw:=zaa hba hbb;have ha2:=ha.below hbw;have hb2:=hb.below hbw))
  |(go_at_call 106;first
     |((with_reducible refine(zra va m _ ha2).mono ?_);rintro e w1 ⟨ra,rfl,hra,hb1⟩;have hbw1:=zaa hbw hb1)
     |((with_reducible refine(zra vb n _ (hb2.below hb1)).mono ?_);rintro e w2 ⟨rb,rfl,hrb,hb2⟩;have hbw2:=zaa hbw1 hb2;have hra2:=hra.below hb2))
  |(go_at_call 153;(with_reducible refine(plus_any ra rb (zla m) (zla n) _ hra2.v hrb.v HM2.out HN2.out).mono ?_);rw[zha,zha];rintro e w3 ⟨r,rfl,hr,hb3⟩;have hbw3:=zaa hbw2 hb3)
  |(go_at_call 152;(with_reducible refine(zti r (m+n) _ hr.nat).mono ?_);rintro e w4 ⟨rfl,hb4⟩;have hbw4:=zaa hbw3 hb4;have hr4:=hr.below hb4))
 ·go_ret2
  have hbig:¬zda (m+n)≤512:=by have h5:512<zda (m+n):= ‹_›;omega
  exact⟨_,2,rfl,⟨fun h=>absurd h hbig,fun _=>⟨rfl,zjb.nil _⟩⟩,hbw4⟩
 ·go_ret2
  have hbig:¬512<zda (m+n):=by assumption
  exact⟨_,0,rfl,⟨fun _=>⟨rfl,hr4⟩,fun h=>absurd h hbig⟩,hbw4⟩
theorem rmul_any (va vb:Value) (m n:Nat) (w:World) (ha:zob w va m) (hb:zob w vb n) (hm:zda m≤512) (hn:zda n≤512):
 Calls Tryz.prog 151 #[va,vb] w (zxm w (m*n)):=by
 have HM:=zH hm
 have HN:=zH hn
 have HM2:Hid ((zla m).length≤65536):=zH (Nat.le_trans hm (by decide))
 have HN2:Hid ((zla n).length≤65536):=zH (Nat.le_trans hn (by decide))
 clear hm hn
 go_enter Tryz.func151,Tryz.ntmps151
 go_wp2_with (first
  |(go_at_call 152;first
    |((with_reducible refine(zyc va m _ ha HM.out).mono ?_);rintro e wa ⟨rfl,hba⟩)
    |((with_reducible refine(zyc vb n _ (hb.below hba) HN.out).mono ?_);rintro e wb ⟨rfl,hbb⟩;have hbw:=zaa hba hbb;have ha2:=ha.below hbw;have hb2:=hb.below hbw))
  |(go_at_call 106;first
     |((with_reducible refine(zra va m _ ha2).mono ?_);rintro e w1 ⟨ra,rfl,hra,hb1⟩;have hbw1:=zaa hbw hb1)
     |((with_reducible refine(zra vb n _ (hb2.below hb1)).mono ?_);rintro e w2 ⟨rb,rfl,hrb,hb2⟩;have hbw2:=zaa hbw1 hb2;have hra2:=hra.below hb2))
  |(go_at_call 197;(with_reducible refine(zod ra rb (zla m) (zla n) _ hra2.v hrb.v HM2.out HN2.out).mono ?_);rw[zha,zha];rintro e w3 ⟨r,rfl,hr,hb3⟩;have hbw3:=zaa hbw2 hb3)
  |(go_at_call 152;(with_reducible refine(zti r (m*n) _ hr.nat).mono ?_);rintro e w4 ⟨rfl,hb4⟩;have hbw4:=zaa hbw3 hb4;have hr4:=hr.below hb4))
 ·go_ret2
  have hbig:¬zda (m*n)≤512:=by have h5:512<zda (m*n):= ‹_›;omega
  exact⟨_,2,rfl,⟨fun h=>absurd h hbig,fun _=>⟨rfl,zjb.nil _⟩⟩,hbw4⟩
 ·go_ret2
  have hbig:¬512<zda (m*n):=by assumption
  exact⟨_,0,rfl,⟨fun _=>⟨rfl,hr4⟩,fun h=>absurd h hbig⟩,hbw4⟩
/-- b is at most a. -/
theorem rsub_le (va vb:Value) (m n:Nat) (w:World) (ha:zob w va m) (hb:zob w vb n) (hm:zda m≤512) (hn:n≤m):
 Calls Tryz.prog 78 #[va,vb] w (RNat0 w (m-n)):=by
 have HM:=zH hm
 have HN:=zH (Nat.le_trans (zfb hn) hm)
 have HL:=zH hn
 have HM2:Hid ((zla m).length≤65536):=zH (Nat.le_trans hm (by decide))
 have HN2:Hid ((zla n).length≤(zla m).length):=zH (zfb hn)
 have HL2:Hid (val (zla n)≤val (zla m)):=zH (by rw[zha,zha];exact hn)
 have hc:(zfj m n<0)=False:=by unfold zfj;rw[if_neg (by omega)];split<;>simp
 have hc2:¬zfj m n<0:=by rw[hc];simp
 clear hm hn hc
 generalize hg:zfj m n=g at *
 have HG:=zH hg
 clear hg
 go_enter Tryz.func78,Tryz.ntmps78
 go_wp2_with (first
  |(go_at_call 152;first
    |((with_reducible refine(zyc va m _ ha HM.out).mono ?_);rintro e wa ⟨rfl,hba⟩)
    |((with_reducible refine(zyc vb n _ (hb.below hba) HN.out).mono ?_);rintro e wb ⟨rfl,hbb⟩;have hbw0:=zaa hba hbb;have ha0:=ha.below hbw0;have hb0:=hb.below hbw0))
  |(go_at_call 77;(with_reducible refine(zee va vb m n _ ha0 hb0).mono ?_);rintro e wc ⟨rfl,hbc⟩;rw[HG.out];have hbw:=zaa hbw0 hbc;have ha2:=ha.below hbw;have hb2:=hb.below hbw)
  |(go_at_call 106;first
     |((with_reducible refine(zra va m _ ha2).mono ?_);rintro e w1 ⟨ra,rfl,hra,hb1⟩;have hbw1:=zaa hbw hb1)
     |((with_reducible refine(zra vb n _ (hb2.below hb1)).mono ?_);rintro e w2 ⟨rb,rfl,hrb,hb2⟩;have hbw2:=zaa hbw1 hb2;have hra2:=hra.below hb2))
  |(go_at_call 155;(with_reducible refine(minus_any ra rb (zla m) (zla n) _ hra2.v hrb.v HM2.out HN2.out HL2.out).mono ?_);rw[zha,zha];rintro e w3 ⟨r,rfl,hr,hb3⟩;have hbw3:=zaa hbw2 hb3))
 go_ret2
 exact⟨_,rfl,hr,hbw3⟩
end Go.Proofs.YtlpdkbmmbdfoiaaGreat
