/- Lemmas. -/
import Derived.Test.YtlpdkbmmbdfoiaaGreatECh2
set_option linter.unusedVariables false
set_option linter.unusedSimpArgs false
namespace Go.Proofs.YtlpdkbmmbdfoiaaGreat
set_option maxRecDepth 100000
open Go.RowKit
def ztq (c:RC) (i:Nat) (r:List RF):Prop:=zlr r c.start.length/\(∀x,r[i]? =some x->x.q.num=0)/\(c.lost[i]? =some true->wts (qs r)=0)
def zzp (c:RC):Prop:=1<=c.start.length/\c.start.length<=128/\c.lost.length=c.start.length/\c.rates.length=c.start.length/\zlr c.start c.start.length/\
 (∀i r,c.rates[i]? =some r->ztq c i r)/\zgg (qs c.start)=1
theorem zlr.fits {l:List RF} {n:Nat} (h:zlr l n) (k:Nat):fits (zgg (qs (l.take k))):=by
 have h1:∀q∈qs l,0<=q:=fun q hq=>by
  obtain⟨x,hx,rfl⟩:=List.mem_map.1 hq
  exact Rat.not_lt.1 (h.1 x hx).2.1
 rw[<-qs_take]
 exact lsum_fits (List.take_sublist k _) h1 h.2.2
theorem zlr.ok {l:List RF} {n:Nat} (h:zlr l n):∀x∈l,x.ok:=fun x hx=>(h.1 x hx).1
theorem zvz (va vb:Value) (p q:Rat) (w:World) (ha:zqa w va p) (hb:zqa w vb q) (hp:fits p) (hq:fits q):
 Calls Tryz.prog 130 #[va,vb] w fun en w'=>en= .returned (.tuple #[.int .i64 (zsr p q), .int .i64 0])/\Below w.heap.size w w':=by
 have h:=cmp_frac va vb _ _ _ _ _ _ w ha.raw hb.raw (zuc hp) (zuc hq)
 rw[zvb,zvb]at h
 exact h
set_option maxHeartbeats 1600000 in
theorem valid_false1 (va:Value) (c:RC) (w:World) (ha:zdq w va c) (h:c.start.length<1\/128<c.start.length\/c.lost.length≠c.start.length\/c.rates.length≠c.start.length\/¬zlr c.start c.start.length):
 Calls Tryz.prog 68 #[va] w fun e w'=>e= .returned (.bool false)/\Below w.heap.size w w':=by
 obtain⟨rv,sv,lv,rfl,hr,hs,hl⟩:=ha
 obtain⟨ra,rn,rk,rfl,r1,r2,r3⟩:=hr.sl
 obtain⟨sa,sn,sk,rfl,s1,s2,s3⟩:=hs.sl
 obtain⟨la,ln,lk,rfl,l1,l2,l3⟩:=zhc.sl hl
 have hrl:rn=c.rates.length:=hr.len
 have hsl:sn=c.start.length:=hs.len
 have hll:ln=c.lost.length:=hl.len
 subst hrl hsl hll
 unfold maxLen at r2 s2 l2
 have hbx:=zca w (.cells #[.slice ra c.rates.length rk, .slice sa c.start.length sk, .slice la c.lost.length lk] 28)
 have hs':=hs.below hbx
 generalize c.start.length=n at *
 generalize c.lost.length=nl at *
 generalize c.rates.length=nr at *
 by_cases h1:n<1
 ·go_enter Tryz.func68,Tryz.ntmps68
  go_wp2_with fail
  go_ret
  exact⟨rfl,hbx⟩
 ·by_cases h2:128<n
  ·go_enter Tryz.func68,Tryz.ntmps68
   go_wp2_with fail
   go_ret
   exact⟨rfl,hbx⟩
  ·by_cases h3:nl=n
   ·by_cases h4:nr=n
    ·have h5:¬zlr c.start n:=by
      rcases h with h | h | h | h | h
      ·omega
      ·omega
      ·omega
      ·omega
      ·exact h
     have H5:=zH h5
     subst h3 h4
     clear h h5
     go_enter Tryz.func68,Tryz.ntmps68
     go_wp2_with (go_at_call 144;(with_reducible refine(zks _ c.start nr _ hs' (by omega)).mono ?_);rintro e w1 ⟨rfl,hb1⟩;rw[decide_eq_false H5.out])
     go_ret
     exact⟨rfl,zaa hbx hb1⟩
    ·have h4b:(((nr:Nat):Int) != (n:Nat))=true:=by simp;omega
     subst h3
     clear h
     go_enter Tryz.func68,Tryz.ntmps68
     go_wp2_with fail
     go_ret
     exact⟨rfl,hbx⟩
   ·have h3b:(((nl:Nat):Int) != (n:Nat))=true:=by simp;omega
    clear h
    go_enter Tryz.func68,Tryz.ntmps68
    go_wp2_with fail
    go_ret
    exact⟨rfl,hbx⟩
@[go_sem] theorem slen_slice (a : Option Addr) (n c : Nat) : slen (.slice a n c) = n := rfl
theorem RF.num_zero {x:RF} (h:x.ok):x.q.num=0↔x.n=0:=by
 have e:x.q.num.natAbs=x.n/Nat.gcd x.n x.d:=zif _ _ _ h.1
 constructor
 ·intro h0
  have h1:x.n/Nat.gcd x.n x.d=0:=by rw[<-e,h0];rfl
  rcases Nat.eq_zero_or_pos x.n with h2 | h2
  ·exact h2
  ·have:=Nat.div_pos (Nat.le_of_dvd h2 (Nat.gcd_dvd_left x.n x.d)) (Nat.gcd_pos_of_pos_left _ h2)
   omega
 ·intro h0
  rw[h0,Nat.zero_div]at e
  omega
theorem RF.above_pos {x:RF} (h:x.ok) (h0:¬x.q<0) (hn:x.q.num≠0):(!x.neg&& !decide (x.n=0))=true:=by
 have hn2:x.n≠0:=fun e=>hn ((RF.num_zero h).2 e)
 have e:decide (x.q<0)=(x.neg&&decide (0<x.n/Nat.gcd x.n x.d)):=zqu _ _ _ h.1
 have h1:0<x.n/Nat.gcd x.n x.d:=Nat.div_pos (Nat.le_of_dvd (Nat.pos_of_ne_zero hn2) (Nat.gcd_dvd_left _ _)) (Nat.gcd_pos_of_pos_left _ (Nat.pos_of_ne_zero hn2))
 rw[decide_eq_false h0,decide_eq_true h1,Bool.and_true]at e
 rw[<-e,decide_eq_false hn2];rfl
theorem RF.above_zero {x:RF} (h:x.ok) (hn:x.q.num=0):(!x.neg&& !decide (x.n=0))=false:=by
 rw[decide_eq_true ((RF.num_zero h).1 hn)];simp
def zgr (w0:World) (c:RC) (e:Ending) (w:World):Prop:=(∃b,e= .returned (.bool b)/\(b=true↔zzp c))/\Below w0.heap.size w0 w
theorem zgr.no {w0 w:World} {c:RC} (h:¬zzp c) (hb:Below w0.heap.size w0 w):zgr w0 c (.returned (.bool false)) w:=⟨⟨false,rfl,by simp[h]⟩,hb⟩
theorem matN_one (w:World) (ea:Option Addr) (ek:Nat) (l:List RF) (h:zni w (.slice ea l.length ek) l):
 zlw (w.alloc (.cells #[.slice ea l.length ek] 25)) (.slice (some ⟨w.heap.size,0,none⟩) 1 1) [l]:=
 ⟨⟨_,1,1,rfl,zLR _,by simp[maxLen],fun e=>by cases e⟩,rfl,fun j hj=>by
   have hj0:j=0:=by simp at hj;omega
   subst hj0
   exact⟨_,by simp[ptr,base,Addr.add],h.below (zca _ _)⟩⟩
set_option maxHeartbeats 3200000 in
theorem valid_rest (va:Value) (c:RC) (w:World) (ha:zdq w va c) (h1:1<=c.start.length) (h2:c.start.length<=128) (h3:c.lost.length=c.start.length) (h4:c.rates.length=c.start.length) (h5:zlr c.start c.start.length):
 Calls Tryz.prog 68 #[va] w (zgr w c):=by
 obtain⟨rv,sv,lv,rfl,hr,hs,hl⟩:=ha
 obtain⟨ra,rn,rk,rfl,r1,r2,r3⟩:=hr.sl
 obtain⟨sa,sn,sk,rfl,s1,s2,s3⟩:=hs.sl
 obtain⟨la,ln,lk,rfl,l1,l2,l3⟩:=zhc.sl hl
 have hrl:rn=c.start.length:=hr.len.trans h4
 have hsl:sn=c.start.length:=hs.len
 have hll:ln=c.start.length:=hl.len.trans h3
 subst hrl hsl hll
 clear r1 r2 r3 s1 s2 s3 l1 l2 l3
 have hbx:=zca w (.cells #[.slice ra c.start.length rk, .slice sa c.start.length sk, .slice la c.start.length lk] 28)
 have hs':=hs.below hbx
 have hr':=hr.below hbx
 have hl':=hl.below hbx
 have hc3:=C3.new w 28 (.slice ra c.start.length rk) (.slice sa c.start.length sk) (.slice la c.start.length lk)
 have H3:=zH h3
 have H4:=zH h4
 have H5:=zH h5
 have HVAL:Hid (zzp c↔(∀i r,c.rates[i]? =some r->ztq c i r)/\zgg (qs c.start)=1):=zH ⟨fun h=>⟨h.2.2.2.2.2.1,h.2.2.2.2.2.2⟩,fun h=>⟨h1,h2,h3,h4,h5,h.1,h.2⟩⟩
 clear h3 h4 h5 hs hr hl
 generalize hn:c.start.length=n at *
 have HSTP:Hid (∀i r,(zlr r n/\(∀x,r[i]? =some x->x.q.num=0)/\(c.lost[i]? =some true->wts (qs r)=0))↔ztq c i r):=zH (fun i r=>by unfold ztq;rw[hn])
 have HNE:=zH hn
 have HN6:Hid (n<=65536):=zH (by omega)
 clear hn
 go_enter Tryz.func68,Tryz.ntmps68
 go_wp2_with fail
 have hd1:decide ((n:Int)<1)=false:=decide_eq_false (by omega)
 have hd2:decide ((128:Int)<(n:Int))=false:=decide_eq_false (by omega)
 generalize hW:w.alloc (.cells #[.slice ra n rk, .slice sa n sk, .slice la n lk] 28)=W at *
 clear hW
 have HC3:=zH hc3
 obtain⟨_,b0,b1,b2,b3,b4,b5⟩:=hc3
 go_wp2_with (go_at_call 144;(with_reducible refine(zks _ c.start n _ hs' HN6.out).mono ?_);rintro e w1 ⟨rfl,hb1⟩;rw[decide_eq_true H5.out];obtain⟨_,f0,f1,f2,f3,f4,f5⟩:=HC3.out.belowS hb1)
 clear b0 b1 b2 b3 b4 b5 f0 f1 f2 f3 f4 f5 hd1 hd2
 have slR:=hr'.sl
 have slS:=hs'.sl
 have slL:zgc (.slice la n lk):=zhc.sl hl'
 go_loopw [43] (fun u43 wr=>∃ (k:Nat),k<=n/\u43= .int .i64 k/\(∀i r,i<k->c.rates[i]? =some r->ztq c i r)/\Below W.heap.size W wr) (fun u43 _=>n- (intOf u43).toNat)
 case atStart=>exact⟨0,zZL _,rfl,fun i r h=>by omega,hb1⟩
 case round=>
  obtain⟨k,hk,rfl,hst,hb⟩:=hrel
  clear hb1
  have HST:=zH hst
  clear hst
  have HC:=zH (HC3.out.belowS hb)
  obtain⟨_,b0,b1,b2,b3,b4,b5⟩:=HC3.out.belowS hb
  by_cases hkn:k<n
  ·have hkr:k<c.rates.length:=by rw[H4.out];exact hkn
   have hkl:k<c.lost.length:=by rw[H3.out];exact hkn
   obtain⟨rv,hrc,hrw⟩:=(hr'.below hb).at' k hkr
   have hlc:=(hl'.below hb).at' k hkl
   have HRK:Hid (c.rates[k]? =some (c.rates[k]'hkr)):=zH (zGE hkr)
   have HLK:Hid (c.lost[k]? =some (c.lost[k]'hkl)):=zH (zGE hkl)
   generalize c.rates[k]'hkr=l at *
   generalize c.lost[k]'hkl=lo at *
   have HNO:Hid (¬ztq c k l->¬zzp c):=zH (fun h h'=>h ((HVAL.out.1 h').1 k l HRK.out))
   have HYES:Hid (ztq c k l->∀i r,i<k+1->c.rates[i]? =some r->ztq c i r):=zH (fun h i r hi hr=>by
    rcases Nat.lt_or_ge i k with h6 | h6
    ·exact HST.out i r h6 hr
    ·obtain rfl:i=k:=by omega
     rw[HRK.out]at hr
     injection hr with hr
     subst hr
     exact h)
   clear hkr hkl
   obtain⟨ea,en,ek,rfl,e1,e2,e3⟩:=hrw.sl
   have slW:=hrw.sl
   have hen:en=l.length:=hrw.len
   subst hen
   by_cases hrow:zlr l n
   ·have hll:l.length=n:=hrow.2.1
    have hkl:k<l.length:=by omega
    obtain⟨xa,xb,c1,c2,c3,hxa,hxb⟩:=hrw.at' k hkl
    obtain⟨c1a,c1l,c1k,rfl,_⟩:=hxa.slen.1
    obtain⟨c2a,c2l,c2k,rfl,_⟩:=hxb.slen.1
    have HXK:Hid (l[k]? =some (l[k]'hkl)):=zH (zGE hkl)
    have HXP:=zH (hrow.1 _ (zGM hkl))
    have HROW:=zH hrow
    have HLL:=zH hll
    generalize l[k]'hkl=x at *
    have hxN:zdc wr (.agg #[.bool x.neg, .slice c1a c1l c1k, .slice c2a c2l c2k]) x.neg x.n x.d:=⟨_,_,rfl,hxa,hxb⟩
    clear hrow hll hxa hxb
    by_cases hz:x.q.num=0
    ·have HAB:=zH (RF.above_zero HXP.out.1 hz)
     have HXZ:Hid (∀y,l[k]? =some y->y.q.num=0):=zH (fun y hy=>by rw[HXK.out]at hy;injection hy with hy;rw[<-hy];exact hz)
     clear hz
     rcases lo with _ | _
     ·have HOK:=zH (HYES.out ((HSTP.out k l).1 ⟨HROW.out,HXZ.out,fun h=>by rw[HLK.out]at h;injection h with h;cases h⟩))
      go_wp2_with (first
       |(go_at_call 144;(with_reducible refine(zks _ l n _ hrw HN6.out).mono ?_);rintro e w1 ⟨rfl,hb1⟩;rw[decide_eq_true HROW.out]
         have d1:=zba hb1 c1
         have d2:=zba hb1 c2
         have d3:=zba hb1 c3
         )
       |(go_at_call 145;(with_reducible refine(zer _ x.neg x.n x.d _ (hxN.below hb1)).mono ?_);rintro e w2 ⟨rfl,hb2⟩;rw[HAB.out]
         obtain⟨_,f0,f1,f2,f3,f4,f5⟩:=(HC.out.belowS hb1).belowS hb2
         have hlc2:=zba (zaa hb1 hb2) hlc
         ))
      go_roundw
      case rel=>exact⟨k+1,hkn,by go_num,HOK.out,zaa (zaa hb hb1) hb2⟩
      case measure=>simp[intOf];omega
     ·have HWT:Hid (wts (qs l)=0->∀i r,i<k+1->c.rates[i]? =some r->ztq c i r):=zH (fun h=>HYES.out ((HSTP.out k l).1 ⟨HROW.out,HXZ.out,fun _=>h⟩))
      have HWF:Hid (0<wts (qs l)->¬zzp c):=zH (fun h=>HNO.out (fun h'=>by have:=((HSTP.out k l).2 h').2.2 HLK.out;omega))
      have HOKS:Hid (∀l'∈ [l],∀x∈l',x.ok):=zH (fun l' h x hx=>by simp at h;subst h;exact(HROW.out.1 x hx).1)
      have HLLS:Hid (∀l'∈ [l],l'.length<=65536):=zH (fun l' h=>by simp at h;subst h;have:=HLL.out;omega)
      have HLEN:Hid ([l].length<=65536):=zH (by simp)
      have HW1:=zH (zhr l)
      go_wp2_with (first
       |(go_at_call 144;(with_reducible refine(zks _ l n _ hrw HN6.out).mono ?_);rintro e w1 ⟨rfl,hb1⟩;rw[decide_eq_true HROW.out]
         have d1:=zba hb1 c1
         have d2:=zba hb1 c2
         have d3:=zba hb1 c3
         )
       |(go_at_call 145;(with_reducible refine(zer _ x.neg x.n x.d _ (hxN.below hb1)).mono ?_);rintro e w2 ⟨rfl,hb2⟩;rw[HAB.out]
         obtain⟨_,f0,f1,f2,f3,f4,f5⟩:=(HC.out.belowS hb1).belowS hb2
         have hlc2:=zba (zaa hb1 hb2) hlc
         have hb4:=zaa (zaa hb1 hb2) (zca w2 (.cells #[.slice ea l.length ek] 25))
         have HM:=zH (matN_one w2 ea ek l (hrw.below (zaa hb1 hb2)))
         )
       |(go_at_call 146;(with_reducible refine(zzq _ [l] _ HM.out HOKS.out HLLS.out HLEN.out).mono ?_);rintro e w3 ⟨rfl,hb3⟩;rw[HW1.out]))
      ·go_ret
       exact zgr.no (HWF.out (by assumption)) (hbx.trans ((zaa (zaa hb hb4) hb3).mono hbx.size))
      ·go_roundw
       case rel=>exact⟨k+1,hkn,by go_num,HWT.out (by omega),zaa (zaa hb hb4) hb3⟩
       case measure=>simp[intOf];omega
    ·have HB:=zH (HNO.out (fun h=>hz (h.2.1 x HXK.out)))
     have HAB:=zH (RF.above_pos HXP.out.1 HXP.out.2.1 hz)
     clear hz
     go_wp2_with (first
      |(go_at_call 144;(with_reducible refine(zks _ l n _ hrw HN6.out).mono ?_);rintro e w1 ⟨rfl,hb1⟩;rw[decide_eq_true HROW.out]
        have d1:=zba hb1 c1
        have d2:=zba hb1 c2
        have d3:=zba hb1 c3)
      |(go_at_call 145;(with_reducible refine(zer _ x.neg x.n x.d _ (hxN.below hb1)).mono ?_);rintro e w2 ⟨rfl,hb2⟩;rw[HAB.out]))
     go_ret
     exact zgr.no HB.out (hbx.trans ((zaa (zaa hb hb1) hb2).mono hbx.size))
   ·have HB:=zH (HNO.out (fun h=>hrow ((HSTP.out k l).2 h).1))
    have HR:=zH hrow
    clear hrow
    go_wp2_with (go_at_call 144;(with_reducible refine(zks _ l n _ hrw HN6.out).mono ?_);rintro e w1 ⟨rfl,hb1⟩;rw[decide_eq_false HR.out])
    go_ret
    exact zgr.no HB.out (hbx.trans ((zaa hb hb1).mono hbx.size))
  ·obtain rfl:k=n:=by omega
   have HALL:Hid (∀i r,c.rates[i]? =some r->ztq c i r):=zH (fun i r h=>HST.out i r (by
    obtain⟨h6,_⟩:=List.getElem?_eq_some_iff.1 h
    have:=H4.out;omega) h)
   have HOKS:Hid (∀x∈c.start,x.ok):=zH H5.out.ok
   have HFIT:Hid (∀j,j<=c.start.length->fits (zgg (qs (c.start.take j)))):=zH (fun j _=>H5.out.fits j)
   have HFS:Hid (fits (zgg (qs c.start))):=zH (by have h6:=H5.out.fits c.start.length;rw[List.take_length]at h6;exact h6)
   go_wp2_with (go_at_call 137;(with_reducible refine(sum_frac _ c.start _ (hs'.below hb) HOKS.out HFIT.out).mono ?_);rintro e w1 ⟨v,rfl,hv,hb1⟩
                obtain⟨t9,x9,y9,rfl,⟨a1,l91,k1,rfl,_⟩,⟨a2,l92,k2,rfl,_⟩⟩:=hv.isF)
   have hv6:=hv.below (zca w1 (.cells #[.bool t9, .slice a1 l91 k1, .slice a2 l92 k2] 38))
   have hc6:=C3.new w1 38 (.bool t9) (.slice a1 l91 k1) (.slice a2 l92 k2)
   have hb6:=zaa (zaa hb hb1) (zca w1 (.cells #[.bool t9, .slice a1 l91 k1, .slice a2 l92 k2] 38))
   generalize w1.alloc (.cells #[.bool t9, .slice a1 l91 k1, .slice a2 l92 k2] 38)=W6 at *
   have hdr:=zja (B:=W6.heap.size) W6
   have hv7:=hv6.below hdr
   have HC7:=zH (hc6.belowS hdr)
   have hb7:=zaa hb6 hdr
   clear hv hv6 hb1 hb6 hb b0 b1 b2 b3 b4 b5 hs' hr' hl'
   obtain⟨_,q1,q2,q3,q4,q5,q6⟩:=hc6.belowS hdr
   clear hc6
   generalize w1.heap.size=B6 at *
   have HF1:=zH zdt
   go_region_held3 (fun w'=>w'.cell? ⟨B6,0,none⟩=some (.bool t9)/\w'.cell? ⟨B6,1,none⟩=some (.slice a1 l91 k1)/\w'.cell? ⟨B6,2,none⟩=some (.slice a2 l92 k2)) (exact⟨q1,q2,q3⟩) (first
    |(go_at_call 109;(with_reducible refine(zqs _).mono ?_);rintro e8 w8 ⟨v1,rfl,hv1,hb8⟩
      obtain⟨_,q1,q2,q3,q4,q5,q6⟩:=HC7.out.belowS hb8
      have HC8:=zH (HC7.out.belowS hb8)
      have hv8:=hv7.below hb8)
    |(go_at_call 130;(with_reducible refine(zvz _ v1 _ _ _ hv8 hv1 HFS.out HF1.out).mono ?_);rintro e9 w9 ⟨rfl,hb9⟩
      obtain⟨_,q1,q2,q3,q4,q5,q6⟩:=HC8.out.belowS hb9))
   go_wp2
   go_ret
   refine⟨⟨_,rfl,?_⟩,hbx.trans ((zaa (zaa hb7 hb8) hb9).mono hbx.size)⟩
   rw[HVAL.out]
   have h9:=zji (zgg (qs c.start)) 1
   exact⟨fun h=>⟨HALL.out,h9.1 (by simpa using h)⟩,fun h=>by simpa using h9.2 h.2⟩
theorem zar (va:Value) (c:RC) (w:World) (ha:zdq w va c):Calls Tryz.prog 68 #[va] w (zgr w c):=by
 by_cases h:c.start.length<1\/128<c.start.length\/c.lost.length≠c.start.length\/c.rates.length≠c.start.length\/¬zlr c.start c.start.length
 ·refine(valid_false1 va c w ha h).mono fun e w' ⟨h1,h2⟩=> ?_
  rw[h1]
  refine zgr.no (fun hv=> ?_) h2
  obtain⟨v1,v2,v3,v4,v5,_⟩:=hv
  rcases h with h | h | h | h | h
  ·omega
  ·omega
  ·exact h v3
  ·exact h v4
  ·exact h v5
 ·exact valid_rest va c w ha (Nat.le_of_not_lt fun h1=>h (Or.inl h1)) (Nat.le_of_not_lt fun h1=>h (Or.inr (Or.inl h1))) (Decidable.of_not_not fun h1=>h (Or.inr (Or.inr (Or.inl h1)))) (Decidable.of_not_not fun h1=>h (Or.inr (Or.inr (Or.inr (Or.inl h1))))) (Decidable.of_not_not fun h1=>h (Or.inr (Or.inr (Or.inr (Or.inr h1)))))
set_option maxHeartbeats 1600000
theorem zku (va:Value) (x:RF) (w:World) (ha:zdc w va x.neg x.n x.d):Calls Tryz.prog 195 #[va] w (zyz w (zyq x)):=by
 obtain⟨xn,xd,rfl,hxn,hxd⟩:=id ha
 obtain⟨an,an1,kn,rfl,_⟩:=hxn.slen.1
 obtain⟨ad,ad1,kd,rfl,_⟩:=hxd.slen.1
 have hbx:=zca w (.cells #[.bool x.neg, .slice an an1 kn, .slice ad ad1 kd] 38)
 have HA:=zH (ha.below hbx)
 have hC:=C3.new w 38 (.bool x.neg) (.slice an an1 kn) (.slice ad ad1 kd)
 obtain⟨_,c0,c1,c2,_,_,_⟩:=hC
 obtain⟨ln,hln⟩:∃ln,zda x.q.num.natAbs=ln:=⟨_,rfl⟩
 obtain⟨ld,hld⟩:∃ld,zda x.q.den=ld:=⟨_,rfl⟩
 have HP:Hid (x.ok->(zyq x↔¬x.q<0/\ln<=4/\ld<=4)):=zH (fun h=>by
  unfold zyq
  rw[hln,hld]
  exact⟨fun h1=>h1.2,fun h1=>⟨h,h1⟩⟩)
 have HLN:=zH hln
 have HLD:=zH hld
 clear ha hxn hxd hln hld
 by_cases hx:x.ok
 ·have HX:=zH hx
  clear hx
  by_cases h1:x.q<0
  ·have hd1:decide (x.q<0)=true:=decide_eq_true h1
   have HB:=zH (fun h=>((HP.out HX.out).1 h).1 h1)
   clear h1
   go_enter Tryz.func195,Tryz.ntmps195
   go_wp2_with (first
    |(go_at_call 116;(with_reducible refine(zmq _ x _ HA.out HX.out).mono ?_);rintro e w7 ⟨v,rfl,hv,hb7⟩
      obtain⟨xa2,xb2,rfl,hxa2,hxb2⟩:=hv
      obtain⟨y1,y2,y3,rfl,_⟩:=id hxa2.v.sl
      obtain⟨y4,y5,y6,rfl,_⟩:=id hxb2.v.sl
      have e2:y2=ln:=hxa2.v.len.trans HLN.out
      have e5:y5=ld:=hxb2.v.len.trans HLD.out
      subst e2 e5
      have hb9:=zca w7 (.cells #[.bool (decide (x.q<0)), .slice y1 y2 y3, .slice y4 y5 y6] 38)
      have hC9:=C3.new w7 38 (.bool (decide (x.q<0))) (.slice y1 y2 y3) (.slice y4 y5 y6)
      have hb8:=fun(b:Bool)=>zaa (zaa hbx hb7) (zca w7 (.cells #[.bool b, .slice y1 y2 y3, .slice y4 y5 y6] 38))
      obtain⟨_,f0,f1,f2,_,_,_⟩:=hC9))
   go_ret
   exact⟨⟨_,rfl,by simp,fun h=>absurd h HB.out⟩,hb8 _⟩
  ·have hd1:decide (x.q<0)=false:=decide_eq_false h1
   have HPP:=zH (HP.out HX.out)
   have H1:=zH h1
   clear h1
   by_cases g2:ln<=4
   ·by_cases g3:ld<=4
    ·have HG:=zH (HPP.out.2 ⟨H1.out,g2,g3⟩)
     go_enter Tryz.func195,Tryz.ntmps195
     go_wp2_with (first
      |(go_at_call 116;(with_reducible refine(zmq _ x _ HA.out HX.out).mono ?_);rintro e w7 ⟨v,rfl,hv,hb7⟩
        obtain⟨xa2,xb2,rfl,hxa2,hxb2⟩:=hv
        obtain⟨y1,y2,y3,rfl,_⟩:=id hxa2.v.sl
        obtain⟨y4,y5,y6,rfl,_⟩:=id hxb2.v.sl
        have e2:y2=ln:=hxa2.v.len.trans HLN.out
        have e5:y5=ld:=hxb2.v.len.trans HLD.out
        subst e2 e5
        have hb9:=zca w7 (.cells #[.bool (decide (x.q<0)), .slice y1 y2 y3, .slice y4 y5 y6] 38)
        have hC9:=C3.new w7 38 (.bool (decide (x.q<0))) (.slice y1 y2 y3) (.slice y4 y5 y6)
        have hb8:=fun(b:Bool)=>zaa (zaa hbx hb7) (zca w7 (.cells #[.bool b, .slice y1 y2 y3, .slice y4 y5 y6] 38))
        obtain⟨_,f0,f1,f2,_,_,_⟩:=hC9))
     go_ret
     exact⟨⟨_,rfl,fun _=>HG.out,fun _=>by simp;omega⟩,hb8 _⟩
    ·have HB:=zH (fun h=>g3 (HPP.out.1 h).2.2)
     go_enter Tryz.func195,Tryz.ntmps195
     go_wp2_with (first
      |(go_at_call 116;(with_reducible refine(zmq _ x _ HA.out HX.out).mono ?_);rintro e w7 ⟨v,rfl,hv,hb7⟩
        obtain⟨xa2,xb2,rfl,hxa2,hxb2⟩:=hv
        obtain⟨y1,y2,y3,rfl,_⟩:=id hxa2.v.sl
        obtain⟨y4,y5,y6,rfl,_⟩:=id hxb2.v.sl
        have e2:y2=ln:=hxa2.v.len.trans HLN.out
        have e5:y5=ld:=hxb2.v.len.trans HLD.out
        subst e2 e5
        have hb9:=zca w7 (.cells #[.bool (decide (x.q<0)), .slice y1 y2 y3, .slice y4 y5 y6] 38)
        have hC9:=C3.new w7 38 (.bool (decide (x.q<0))) (.slice y1 y2 y3) (.slice y4 y5 y6)
        have hb8:=fun(b:Bool)=>zaa (zaa hbx hb7) (zca w7 (.cells #[.bool b, .slice y1 y2 y3, .slice y4 y5 y6] 38))
        obtain⟨_,f0,f1,f2,_,_,_⟩:=hC9))
     go_ret
     exact⟨⟨_,rfl,by simp;omega,fun h=>absurd h HB.out⟩,hb8 _⟩
   ·have HB:=zH (fun h=>g2 (HPP.out.1 h).2.1)
    go_enter Tryz.func195,Tryz.ntmps195
    go_wp2_with (first
     |(go_at_call 116;(with_reducible refine(zmq _ x _ HA.out HX.out).mono ?_);rintro e w7 ⟨v,rfl,hv,hb7⟩
       obtain⟨xa2,xb2,rfl,hxa2,hxb2⟩:=hv
       obtain⟨y1,y2,y3,rfl,_⟩:=id hxa2.v.sl
       obtain⟨y4,y5,y6,rfl,_⟩:=id hxb2.v.sl
       have e2:y2=ln:=hxa2.v.len.trans HLN.out
       have e5:y5=ld:=hxb2.v.len.trans HLD.out
       subst e2 e5
       have hb9:=zca w7 (.cells #[.bool (decide (x.q<0)), .slice y1 y2 y3, .slice y4 y5 y6] 38)
       have hC9:=C3.new w7 38 (.bool (decide (x.q<0))) (.slice y1 y2 y3) (.slice y4 y5 y6)
       have hb8:=fun(b:Bool)=>zaa (zaa hbx hb7) (zca w7 (.cells #[.bool b, .slice y1 y2 y3, .slice y4 y5 y6] 38))
       obtain⟨_,f0,f1,f2,_,_,_⟩:=hC9))
    go_ret
    exact⟨⟨_,rfl,by simp,fun h=>absurd h HB.out⟩,hb8 _⟩
 ·have HX:=zH hx
  have HB:Hid (¬zyq x):=zH (fun h=>hx h.1)
  clear hx
  go_enter Tryz.func195,Tryz.ntmps195
  go_wp2_with (go_at_call 116;(with_reducible refine(zus _ x.neg x.n x.d _ HA.out).mono ?_);rintro e w7 ⟨v,er,rfl,hb7,_,hv⟩
               obtain⟨rfl,rfl⟩:=hv HX.out
               unfold zeroF
               have hb8:=zaa (zaa hbx hb7) (zca w7 (.cells #[.bool false, .slice none 0 0, .slice none 0 0] 38)))
  go_ret
  exact⟨⟨_,rfl,by simp,fun h=>absurd h HB.out⟩,hb8⟩
theorem zbr (va:Value) (l:List RF) (n:Nat) (w:World) (ha:zni w va l) (hn:n<=65536):
 Calls Tryz.prog 147 #[va, .int .i64 n] w (zyz w (zlr l n)):=by
 have sa:=ha.sl
 have la:=ha.len
 have hle:=sa.le
 rw[la]at hle
 have hlb:l.length<=9223372036854775807:=by omega
 clear hle
 by_cases hln:l.length=n
 ·subst hln
  go_enter Tryz.func147,Tryz.ntmps147
  go_wp2_with fail
  go_loopw [5] (fun u5 wr=>∃ (k:Nat),k<=l.length/\u5= .int .i64 k/\(∀x∈l.take k,zyq x)/\Below w.heap.size w wr) (fun u5 _=>l.length- (intOf u5).toNat)
  case atStart=>exact⟨0,zZL _,rfl,by simp,Below.refl _ _⟩
  case round=>
   obtain⟨k,hk,rfl,hpl,hb⟩:=hrel
   have HPL:=zH hpl
   clear hpl
   by_cases hkl:k<l.length
   ·obtain⟨xa,xb,c1,c2,c3,hxa,hxb⟩:=(ha.below hb).at' k hkl
    obtain⟨c1a,c1l,c1k,rfl,_⟩:=hxa.slen.1
    obtain⟨c2a,c2l,c2k,rfl,_⟩:=hxb.slen.1
    have HBADx:Hid (¬zyq l[k]->¬zlr l l.length):=zH (fun h h'=>h (h'.1 _ (zGM hkl)))
    have HNEXT:Hid (zyq l[k]->∀x∈l.take (k+1),zyq x):=zH (fun h x hx=>by
     rw[zxc l k hkl,List.mem_append,List.mem_singleton]at hx
     rcases hx with hx | rfl
     ·exact HPL.out x hx
     ·exact h)
    generalize l[k]'hkl=x at *
    have HA:Hid (zdc wr (.agg #[.bool x.neg, .slice c1a c1l c1k, .slice c2a c2l c2k]) x.neg x.n x.d):=zH ⟨_,_,rfl,hxa,hxb⟩
    have i1:(0:Int)<=(k:Int):=by omega
    have i2:(k:Int)<(l.length:Nat):=by omega
    clear hxa hxb
    by_cases hp:zyq x
    ·have HGOOD:=zH (HNEXT.out hp)
     have HP:=zH hp
     clear hp
     go_wp2_with (go_at_call 195;(with_reducible refine(zku _ x _ HA.out).mono ?_);rintro e9 w9 ⟨⟨b9,rfl,hb9⟩,hbel9⟩;obtain rfl:b9=true:=hb9.2 HP.out;clear hb9)
     go_roundw
     case rel=>exact⟨k+1,hkl,by go_num,HGOOD.out,zaa hb hbel9⟩
     case measure=>simp[intOf];omega
    ·have HBAD:=zH (HBADx.out hp)
     have HP:=zH hp
     clear hp
     go_wp2_with (go_at_call 195;(with_reducible refine(zku _ x _ HA.out).mono ?_);rintro e9 w9 ⟨⟨b9,rfl,hb9⟩,hbel9⟩;obtain rfl:b9=false:=Bool.eq_false_iff.2 (fun h=>HP.out (hb9.1 h));clear hb9)
     go_ret
     exact⟨⟨_,rfl,by simp,fun h=>absurd h HBAD.out⟩,zaa hb hbel9⟩
   ·obtain rfl:k=l.length:=by omega
    have HALL:Hid (∀x∈l,zyq x):=zH (by have:=HPL.out;rwa[List.take_length]at this)
    have HOK9:Hid (∀x∈l,x.ok):=zH (fun x hx=>(HALL.out x hx).1)
    go_wp2_with (go_at_call 175;(with_reducible refine(zvr _ l _ (ha.below hb) HOK9.out hn).mono ?_);rintro e9 w9 ⟨rfl,hbel9⟩)
    go_ret
    refine⟨⟨_,rfl,?_⟩,zaa hb hbel9⟩
    unfold zlr
    have h9:=HALL.out
    simp
    exact⟨fun h=>⟨h9,by omega⟩,fun h=>by omega⟩
 ·have hb:(((l.length:Nat):Int) != (n:Nat))=true:=by simp;omega
  have HB:Hid (¬zlr l n):=zH (fun h=>hln h.2.1)
  clear hln
  go_enter Tryz.func147,Tryz.ntmps147
  go_wp2_with fail
  go_ret
  exact⟨⟨_,rfl,by simp,fun h=>absurd h HB.out⟩,Below.refl _ _⟩
end Go.Proofs.YtlpdkbmmbdfoiaaGreat
namespace Go.Proofs.YtlpdkbmmbdfoiaaGreat
theorem zoz :∀ {l:List Rat},wts l=0->∀q∈l,q=0:=by
 intro l
 induction l with
 | nil=>intro _ q hq;simp at hq
 | cons x l ih=>
   intro h q hq
   rw[zmg]at h
   rcases List.mem_cons.1 hq with rfl | hq
   ·have h1:wt q=0:=by omega
    have h2:q.num=0:=by
     unfold Go.Proofs.YtlpdkbmmbdfoiaaGreat.wt at h1
     by_cases h3:q.num=0
     ·exact h3
     ·rw[if_neg h3]at h1
      have h4:zua q.num.natAbs<=0:=by omega
      have:=zwb.1 h4
      omega
    exact Rat.num_eq_zero.1 h2
   ·exact ih (by omega) q hq
theorem zny :∀ {l:List Rat},(∀q∈l,q=0)->wts l=0:=by
 intro l
 induction l with
 | nil=>intro _;rfl
 | cons x l ih=>
   intro h
   rw[zmg,ih (fun q hq=>h q (by simp[hq])),h x (by simp)]
   decide
end Go.Proofs.YtlpdkbmmbdfoiaaGreat
namespace Go.Proofs.YtlpdkbmmbdfoiaaGreat
set_option maxHeartbeats 3200000
open Go.RowKit
theorem zat (va:Value) (x:RF) (w:World) (ha:zdc w va x.neg x.n x.d) (h1:x.ok):
 Calls Tryz.prog 34 #[va] w fun en w'=>en= .returned (.int .i64 (zsr x.q 0))/\Below w.heap.size w w':=zns va x.neg x.n x.d w ha h1
theorem zet (q:Rat):zsr q 0=0↔q.num=0:=by rw[zji,Rat.num_eq_zero]
theorem wts_all {l:List RF}:wts (qs l)=0↔∀x∈l,x.q.num=0:=by
 constructor
 ·intro h x hx
  have:=zoz h x.q (List.mem_map.2 ⟨x,hx,rfl⟩)
  rw[this];rfl
 ·intro h
  exact zny (fun q hq=>by
   obtain⟨x,hx,rfl⟩:=List.mem_map.1 hq
   exact Rat.num_eq_zero.1 (h x hx))
theorem zxu (va:Value) (c:RC) (w:World) (ha:zdq w va c) (h:c.start.length<1\/128<c.start.length\/c.lost.length≠c.start.length\/c.rates.length≠c.start.length\/¬zlr c.start c.start.length):
 Calls Tryz.prog 69 #[va] w fun e w'=>e= .returned (.bool false)/\Below w.heap.size w w':=by
 obtain⟨rv,sv,lv,rfl,hr,hs,hl⟩:=ha
 obtain⟨ra,rn,rk,rfl,r1,r2,r3⟩:=hr.sl
 obtain⟨sa,sn,sk,rfl,s1,s2,s3⟩:=hs.sl
 obtain⟨la,ln,lk,rfl,l1,l2,l3⟩:=zhc.sl hl
 have hrl:rn=c.rates.length:=hr.len
 have hsl:sn=c.start.length:=hs.len
 have hll:ln=c.lost.length:=hl.len
 subst hrl hsl hll
 unfold maxLen at r2 s2 l2
 have hbx:=zca w (.cells #[.slice ra c.rates.length rk, .slice sa c.start.length sk, .slice la c.lost.length lk] 28)
 have hs':=hs.below hbx
 have hC:=C3.new w 28 (.slice ra c.rates.length rk) (.slice sa c.start.length sk) (.slice la c.lost.length lk)
 generalize c.start.length=n at *
 generalize c.lost.length=nl at *
 generalize c.rates.length=nr at *
 obtain⟨_,b0,b1,b2,_,_,_⟩:=hC
 by_cases h1:n<1
 ·go_enter Tryz.func69,Tryz.ntmps69
  go_wp2_with fail
  go_ret
  exact⟨rfl,hbx⟩
 ·by_cases h2:128<n
  ·go_enter Tryz.func69,Tryz.ntmps69
   go_wp2_with fail
   go_ret
   exact⟨rfl,hbx⟩
  ·by_cases h3:nl=n
   ·by_cases h4:nr=n
    ·have h5:¬zlr c.start n:=by
      rcases h with h | h | h | h | h
      ·omega
      ·omega
      ·omega
      ·omega
      ·exact h
     have H5:=zH h5
     subst h3 h4
     clear h h5
     go_enter Tryz.func69,Tryz.ntmps69
     go_wp2_with (go_at_call 147;(with_reducible refine(zbr _ c.start nr _ hs' (by omega)).mono ?_);rintro e9 w9 ⟨⟨b9,rfl,hb9⟩,hbel9⟩;obtain rfl:b9=false:=Bool.eq_false_iff.2 (fun h=>H5.out (hb9.1 h));clear hb9)
     go_ret
     exact⟨rfl,zaa hbx hbel9⟩
    ·have h4b:(((nr:Nat):Int) != (n:Nat))=true:=by simp;omega
     subst h3
     clear h
     go_enter Tryz.func69,Tryz.ntmps69
     go_wp2_with fail
     go_ret
     exact⟨rfl,hbx⟩
   ·have h3b:(((nl:Nat):Int) != (n:Nat))=true:=by simp;omega
    clear h
    go_enter Tryz.func69,Tryz.ntmps69
    go_wp2_with fail
    go_ret
    exact⟨rfl,hbx⟩
theorem rvalid_rest (va:Value) (c:RC) (w:World) (ha:zdq w va c) (h1:1<=c.start.length) (h2:c.start.length<=128) (h3:c.lost.length=c.start.length) (h4:c.rates.length=c.start.length) (h5:zlr c.start c.start.length):
 Calls Tryz.prog 69 #[va] w (zgr w c):=by
 obtain⟨rv,sv,lv,rfl,hr,hs,hl⟩:=ha
 obtain⟨ra,rn,rk,rfl,r1,r2,r3⟩:=hr.sl
 obtain⟨sa,sn,sk,rfl,s1,s2,s3⟩:=hs.sl
 obtain⟨la,ln,lk,rfl,l1,l2,l3⟩:=zhc.sl hl
 have hrl:rn=c.start.length:=hr.len.trans h4
 have hsl:sn=c.start.length:=hs.len
 have hll:ln=c.start.length:=hl.len.trans h3
 subst hrl hsl hll
 clear r1 r2 r3 s1 s2 s3 l1 l2 l3
 have hbx:=zca w (.cells #[.slice ra c.start.length rk, .slice sa c.start.length sk, .slice la c.start.length lk] 28)
 have hs':=hs.below hbx
 have hr':=hr.below hbx
 have hl':=hl.below hbx
 have hc3:=C3.new w 28 (.slice ra c.start.length rk) (.slice sa c.start.length sk) (.slice la c.start.length lk)
 have H3:=zH h3
 have H4:=zH h4
 have H5:=zH h5
 have HVAL:Hid (zzp c↔(∀i r,c.rates[i]? =some r->ztq c i r)/\zgg (qs c.start)=1):=zH ⟨fun h=>⟨h.2.2.2.2.2.1,h.2.2.2.2.2.2⟩,fun h=>⟨h1,h2,h3,h4,h5,h.1,h.2⟩⟩
 clear h3 h4 h5 hs hr hl
 generalize hn:c.start.length=n at *
 have HSTP:Hid (∀i r,(zlr r n/\(∀x,r[i]? =some x->x.q.num=0)/\(c.lost[i]? =some true->∀x∈r,x.q.num=0))↔ztq c i r):=zH (fun i r=>by unfold ztq;rw[hn,wts_all])
 have HN6:Hid (n<=65536):=zH (by omega)
 clear hn
 go_enter Tryz.func69,Tryz.ntmps69
 go_wp2_with fail
 have hd1:decide ((n:Int)<1)=false:=decide_eq_false (by omega)
 have hd2:decide ((128:Int)<(n:Int))=false:=decide_eq_false (by omega)
 generalize hW:w.alloc (.cells #[.slice ra n rk, .slice sa n sk, .slice la n lk] 28)=W at *
 clear hW
 have HC3:=zH hc3
 obtain⟨_,b0,b1,b2,b3,b4,b5⟩:=hc3
 go_wp2_with (go_at_call 147;(with_reducible refine(zbr _ c.start n _ hs' HN6.out).mono ?_);rintro e9 w1 ⟨⟨b9,rfl,hb9⟩,hb1⟩;obtain rfl:b9=true:=hb9.2 H5.out;clear hb9;obtain⟨_,f0,f1,f2,f3,f4,f5⟩:=HC3.out.belowS hb1)
 clear b0 b1 b2 b3 b4 b5 f0 f1 f2 f3 f4 f5 hd1 hd2
 have slR:=hr'.sl
 have slS:=hs'.sl
 have slL:zgc (.slice la n lk):=zhc.sl hl'
 go_loopw [4] (fun u4 wr=>∃ (k:Nat),k<=n/\u4= .int .i64 k/\(∀i r,i<k->c.rates[i]? =some r->ztq c i r)/\Below W.heap.size W wr) (fun u4 _=>n- (intOf u4).toNat)
 case atStart=>exact⟨0,zZL _,rfl,fun i r h=>by omega,hb1⟩
 case round=>
  obtain⟨k,hk,rfl,hst,hb⟩:=hrel
  clear hb1
  have HST:=zH hst
  have HBW:=zH hb
  clear hst
  have HC:=zH (HC3.out.belowS hb)
  obtain⟨_,b0,b1,b2,b3,b4,b5⟩:=HC3.out.belowS hb
  by_cases hkn:k<n
  ·have hkr:k<c.rates.length:=by rw[H4.out];exact hkn
   have hkl:k<c.lost.length:=by rw[H3.out];exact hkn
   obtain⟨rv,hrc,hrw⟩:=(hr'.below hb).at' k hkr
   have hlc:=(hl'.below hb).at' k hkl
   have HRK:Hid (c.rates[k]? =some (c.rates[k]'hkr)):=zH (zGE hkr)
   have HLK:Hid (c.lost[k]? =some (c.lost[k]'hkl)):=zH (zGE hkl)
   generalize c.rates[k]'hkr=l at *
   generalize c.lost[k]'hkl=lo at *
   have HNO:Hid (¬ztq c k l->¬zzp c):=zH (fun h h'=>h ((HVAL.out.1 h').1 k l HRK.out))
   have HYES:Hid (ztq c k l->∀i r,i<k+1->c.rates[i]? =some r->ztq c i r):=zH (fun h i r hi hr=>by
    rcases Nat.lt_or_ge i k with h6 | h6
    ·exact HST.out i r h6 hr
    ·obtain rfl:i=k:=by omega
     rw[HRK.out]at hr
     injection hr with hr
     subst hr
     exact h)
   clear hkr hkl
   obtain⟨ea,en,ek,rfl,e1,e2,e3⟩:=hrw.sl
   have slW:=hrw.sl
   have hen:en=l.length:=hrw.len
   subst hen
   have i1:(0:Int)<=(k:Int):=by omega
   have i2:(k:Int)<(n:Int):=by omega
   by_cases hrow:zlr l n
   ·have hll:l.length=n:=hrow.2.1
    have hkl:k<l.length:=by omega
    obtain⟨xa,xb,c1,c2,c3,hxa,hxb⟩:=hrw.at' k hkl
    obtain⟨c1a,c1l,c1k,rfl,_⟩:=hxa.slen.1
    obtain⟨c2a,c2l,c2k,rfl,_⟩:=hxb.slen.1
    have HXK:Hid (l[k]? =some (l[k]'hkl)):=zH (zGE hkl)
    have HXO:Hid ((l[k]'hkl).ok):=zH ((hrow.1 _ (zGM hkl)).1)
    have HROW:=zH hrow
    have HLL:=zH hll
    have HRW:=zH hrw
    generalize l[k]'hkl=x at *
    have HXN:Hid (zdc wr (.agg #[.bool x.neg, .slice c1a c1l c1k, .slice c2a c2l c2k]) x.neg x.n x.d):=zH ⟨_,_,rfl,hxa,hxb⟩
    rw[hll]at hrc slW c1 c2 c3
    clear hrow hll hxa hxb hkl hrw
    have HRW2:Hid (zni wr (.slice ea n ek) l):=zH (by rw[<-HLL.out];exact HRW.out)
    by_cases hz:x.q.num=0
    ·have HSG:=zH ((zet x.q).2 hz)
     have HXZ:Hid (∀y,l[k]? =some y->y.q.num=0):=zH (fun y hy=>by rw[HXK.out]at hy;injection hy with hy;rw[<-hy];exact hz)
     clear hz
     go_wp2_with (first
      |(go_at_call 147;(with_reducible refine(zbr _ l n _ HRW2.out HN6.out).mono ?_);rintro e9 w1 ⟨⟨b9,rfl,hb9⟩,hb1⟩;obtain rfl:b9=true:=hb9.2 HROW.out;clear hb9
        have hrc:=zba hb1 hrc
        have c1:=zba hb1 c1
        have c2:=zba hb1 c2
        have c3:=zba hb1 c3
        obtain⟨_,b0,b1,b2,b3,b4,b5⟩:=HC.out.belowS hb1
        )
      |(go_at_call 34;(with_reducible refine(zat _ x _ (HXN.out.below hb1) HXO.out).mono ?_);rintro e w2 ⟨rfl,hb2⟩;rw[HSG.out]
        have hb12:=zaa hb1 hb2
        have hrc:=zba hb2 hrc
        have hlc:=zba hb12 hlc
        obtain⟨_,b0,b1,b2,b3,b4,b5⟩:=HC.out.belowS hb12
        ))
     have HB12:=zH hb12
     have HRW3:=zH (HRW2.out.below hb12)
     have HC2:=zH (HC.out.belowS hb12)
     clear b0 b1 b2 b3 b4 b5 c1 c2 c3 hb1 hb2 hb12 hb
     go_loopw [5] (fun u5 wi=>∃ (j:Nat),j<=n/\u5= .int .i64 j/\(∀y,y<j->∀z,l[y]? =some z->z.q.num=0)/\Below w2.heap.size w2 wi) (fun u5 _=>n- (intOf u5).toNat)
     case atStart=>exact⟨0,zZL _,rfl,fun y h=>by omega,Below.refl _ _⟩
     case round=>
      obtain⟨j,hj,rfl,hjz,hbi⟩:=hrel
      have HJZ:=zH hjz
      have HBI:=zH hbi
      clear hjz
      have hrc2:=zba hbi hrc
      have hlc2:=zba hbi hlc
      obtain⟨_,b0,b1,b2,_,_,_⟩:=HC2.out.belowS hbi
      rcases lo with _ | _
      ·have HOK:=zH (HYES.out ((HSTP.out k l).1 ⟨HROW.out,HXZ.out,fun h=>by rw[HLK.out]at h;injection h with h;cases h⟩))
       have hbE:=HBW.out.trans ((HB12.out.trans (hbi.mono HB12.out.size)).mono HBW.out.size)
       by_cases hjn:j<n
       ·go_wp2_with fail
        go_roundw
        case rel=>exact⟨k+1,hkn,by go_num,HOK.out,hbE⟩
        case measure=>simp[intOf];omega
       ·obtain rfl:j=n:=by omega
        go_wp2_with fail
        go_roundw
        case rel=>exact⟨k+1,hkn,by go_num,HOK.out,hbE⟩
        case measure=>simp[intOf];omega
      ·by_cases hjn:j<n
       ·have hjl:j<l.length:=by rw[HLL.out];exact hjn
        obtain⟨za,zb,d1,d2,d3,hza,hzb⟩:=(HRW3.out.below hbi).at' j hjl
        obtain⟨d1a,d1l,d1k,rfl,_⟩:=hza.slen.1
        obtain⟨d2a,d2l,d2k,rfl,_⟩:=hzb.slen.1
        have HYK:Hid (l[j]? =some (l[j]'hjl)):=zH (zGE hjl)
        have HYM:Hid ((l[j]'hjl)∈l):=zH (zGM hjl)
        have HYO:Hid ((l[j]'hjl).ok):=zH ((HROW.out.1 _ (zGM hjl)).1)
        generalize l[j]'hjl=y at *
        have HYN:Hid (zdc wr (.agg #[.bool y.neg, .slice d1a d1l d1k, .slice d2a d2l d2k]) y.neg y.n y.d):=zH ⟨_,_,rfl,hza,hzb⟩
        have i3:(0:Int)<=(j:Int):=by omega
        have i4:(j:Int)<(n:Int):=by omega
        clear hza hzb hjl
        by_cases hy:y.q.num=0
        ·have HSY:=zH ((zet y.q).2 hy)
         have HJ1:Hid (∀y',y'<j+1->∀z,l[y']? =some z->z.q.num=0):=zH (fun y' hy' z hz=>by
          rcases Nat.lt_or_ge y' j with h6 | h6
          ·exact HJZ.out y' h6 z hz
          ·obtain rfl:y'=j:=by omega
           rw[HYK.out]at hz
           injection hz with hz
           subst hz
           exact hy)
         clear hy
         go_wp2_with (first
          |(go_at_call 34;(with_reducible refine(zat _ y _ HYN.out HYO.out).mono ?_);rintro e w3 ⟨rfl,hb3⟩;rw[HSY.out]))
         go_roundw
         case rel=>exact⟨j+1,hjn,by go_num,HJ1.out,zaa hbi hb3⟩
         case measure=>simp[intOf];omega
        ·have HN:=zH (HNO.out (fun h=>hy (((HSTP.out k l).2 h).2.2 HLK.out y HYM.out)))
         obtain⟨sg,hsg⟩:∃sg,zsr y.q 0=sg:=⟨_,rfl⟩
         have hsb:(sg != 0)=true:=by
          have :sg≠0:=fun h=>hy ((zet y.q).1 (hsg.trans h))
          simpa using this
         have HSY:=zH hsg
         clear hy hsg
         go_wp2_with (first
          |(go_at_call 34;(with_reducible refine(zat _ y _ HYN.out HYO.out).mono ?_);rintro e w3 ⟨rfl,hb3⟩;rw[HSY.out]))
         go_ret
         exact zgr.no HN.out (hbx.trans ((HBW.out.trans ((HB12.out.trans ((zaa hbi hb3).mono HB12.out.size)).mono HBW.out.size)).mono hbx.size))
       ·obtain rfl:j=n:=by omega
        have HOK:=zH (HYES.out ((HSTP.out k l).1 ⟨HROW.out,HXZ.out,fun _ z hz=>by
         obtain⟨y,hy,rfl⟩:=List.getElem_of_mem hz
         exact HJZ.out y (by rw[<-HLL.out];exact hy) _ (zGE hy)⟩))
        have hbE:=HBW.out.trans ((HB12.out.trans (hbi.mono HB12.out.size)).mono HBW.out.size)
        go_wp2_with fail
        go_roundw
        case rel=>exact⟨k+1,hkn,by go_num,HOK.out,hbE⟩
        case measure=>simp[intOf];omega
    ·have HN:=zH (HNO.out (fun h=>hz (((HSTP.out k l).2 h).2.1 x HXK.out)))
     obtain⟨sg,hsg⟩:∃sg,zsr x.q 0=sg:=⟨_,rfl⟩
     have hsb:(sg != 0)=true:=by
      have :sg≠0:=fun h=>hz ((zet x.q).1 (hsg.trans h))
      simpa using this
     have HSG:=zH hsg
     clear hz hsg
     go_wp2_with (first
      |(go_at_call 147;(with_reducible refine(zbr _ l n _ HRW2.out HN6.out).mono ?_);rintro e9 w1 ⟨⟨b9,rfl,hb9⟩,hb1⟩;obtain rfl:b9=true:=hb9.2 HROW.out;clear hb9
        have hrc:=zba hb1 hrc
        have c1:=zba hb1 c1
        have c2:=zba hb1 c2
        have c3:=zba hb1 c3
        obtain⟨_,b0,b1,b2,b3,b4,b5⟩:=HC.out.belowS hb1
        )
      |(go_at_call 34;(with_reducible refine(zat _ x _ (HXN.out.below hb1) HXO.out).mono ?_);rintro e w2 ⟨rfl,hb2⟩;rw[HSG.out]
        have hb12:=zaa hb1 hb2))
     go_ret
     exact zgr.no HN.out (hbx.trans ((zaa HBW.out hb12).mono hbx.size))
   ·have HB:=zH (HNO.out (fun h=>hrow ((HSTP.out k l).2 h).1))
    have HR:=zH hrow
    clear hrow
    go_wp2_with (go_at_call 147;(with_reducible refine(zbr _ l n _ hrw HN6.out).mono ?_);rintro e9 w1 ⟨⟨b9,rfl,hb9⟩,hb1⟩;obtain rfl:b9=false:=Bool.eq_false_iff.2 (fun h=>HR.out (hb9.1 h));clear hb9)
    go_ret
    exact zgr.no HB.out (hbx.trans ((zaa hb hb1).mono hbx.size))
  ·obtain rfl:k=n:=by omega
   have HALL:Hid (∀i r,c.rates[i]? =some r->ztq c i r):=zH (fun i r h=>HST.out i r (by
    obtain⟨h6,_⟩:=List.getElem?_eq_some_iff.1 h
    have:=H4.out;omega) h)
   have HOKS:Hid (∀x∈c.start,x.ok):=zH H5.out.ok
   have HFIT:Hid (∀j,j<=c.start.length->fits (zgg (qs (c.start.take j)))):=zH (fun j _=>H5.out.fits j)
   have HFS:Hid (fits (zgg (qs c.start))):=zH (by have h6:=H5.out.fits c.start.length;rw[List.take_length]at h6;exact h6)
   go_wp2_with (go_at_call 148;(with_reducible refine(r2sum_fit _ c.start _ (hs'.below hb) HOKS.out HFIT.out).mono ?_);rintro e w1 ⟨v,rfl,hv,hb1⟩
                obtain⟨t9,x9,y9,rfl,⟨a1,l91,k1,rfl,_⟩,⟨a2,l92,k2,rfl,_⟩⟩:=hv.isF)
   have hv6:=hv.below (zca w1 (.cells #[.bool t9, .slice a1 l91 k1, .slice a2 l92 k2] 38))
   have hc6:=C3.new w1 38 (.bool t9) (.slice a1 l91 k1) (.slice a2 l92 k2)
   have hb6:=zaa (zaa hb hb1) (zca w1 (.cells #[.bool t9, .slice a1 l91 k1, .slice a2 l92 k2] 38))
   generalize w1.alloc (.cells #[.bool t9, .slice a1 l91 k1, .slice a2 l92 k2] 38)=W6 at *
   have hdr:=zja (B:=W6.heap.size) W6
   have hv7:=hv6.below hdr
   have HC7:=zH (hc6.belowS hdr)
   have hb7:=zaa hb6 hdr
   clear hv hv6 hb1 hb6 hb b0 b1 b2 b3 b4 b5 hs' hr' hl'
   obtain⟨_,q1,q2,q3,q4,q5,q6⟩:=hc6.belowS hdr
   clear hc6
   generalize w1.heap.size=B6 at *
   have HF1:=zH zdt
   have tok1:True:=trivial
   go_region_held3 (fun w'=>w'.cell? ⟨B6,0,none⟩=some (.bool t9)/\w'.cell? ⟨B6,1,none⟩=some (.slice a1 l91 k1)/\w'.cell? ⟨B6,2,none⟩=some (.slice a2 l92 k2)) (exact⟨q1,q2,q3⟩) (first
    |(go_at_call 49;(with_reducible refine(zlo _ _ _ hv7 HFS.out).mono ?_);rintro e8 w7 ⟨rfl,hb8a⟩
      obtain⟨_,q1,q2,q3,q4,q5,q6⟩:=HC7.out.belowS hb8a
      have HC8:=zH (HC7.out.belowS hb8a)
      have hv8a:=hv7.below hb8a)
    |(go_at_call 20;(with_reducible refine(zas _).mono ?_);rintro e8 w8 ⟨v1,rfl,hv1,hb8⟩
      obtain⟨_,q1,q2,q3,q4,q5,q6⟩:=HC8.out.belowS hb8
      have HC9:=zH (HC8.out.belowS hb8)
      have hv8:=hv8a.below hb8)
    |(go_at_call 33;(with_reducible refine(zqa.same hv8 hv1 HFS.out HF1.out).mono ?_);rintro e9 w9 ⟨rfl,hb9⟩
      obtain⟨_,q1,q2,q3,q4,q5,q6⟩:=HC9.out.belowS hb9))
   go_wp2
   go_ret
   refine⟨⟨_,rfl,?_⟩,hbx.trans ((zaa (zaa (zaa hb7 hb8a) hb8) hb9).mono hbx.size)⟩
   rw[HVAL.out]
   exact⟨fun h=>⟨HALL.out,by simpa using h⟩,fun h=>by simpa using h.2⟩
theorem zjq (va:Value) (c:RC) (w:World) (ha:zdq w va c):Calls Tryz.prog 69 #[va] w (zgr w c):=by
 by_cases h:c.start.length<1\/128<c.start.length\/c.lost.length≠c.start.length\/c.rates.length≠c.start.length\/¬zlr c.start c.start.length
 ·refine(zxu va c w ha h).mono fun e w' ⟨h1,h2⟩=> ?_
  rw[h1]
  refine zgr.no (fun hv=> ?_) h2
  obtain⟨v1,v2,v3,v4,v5,_⟩:=hv
  rcases h with h | h | h | h | h
  ·omega
  ·omega
  ·exact h v3
  ·exact h v4
  ·exact h v5
 ·exact rvalid_rest va c w ha (Nat.le_of_not_lt fun h1=>h (Or.inl h1)) (Nat.le_of_not_lt fun h1=>h (Or.inr (Or.inl h1))) (Decidable.of_not_not fun h1=>h (Or.inr (Or.inr (Or.inl h1)))) (Decidable.of_not_not fun h1=>h (Or.inr (Or.inr (Or.inr (Or.inl h1))))) (Decidable.of_not_not fun h1=>h (Or.inr (Or.inr (Or.inr (Or.inr h1)))))
def zaq (c:RC) (i:Nat):List Rat:=qs (c.rates.getD i [])
theorem zzp.row {c:RC} (h:zzp c) {i:Nat} (hi:i<c.lost.length):∃h2:i<c.rates.length,(c.rates[i]).length=c.lost.length/\zlr c.rates[i] (c.rates[i]).length/\zaq c i=qs c.rates[i]:=by
 obtain⟨h1,h2,h3,h4,h5,h6,h7⟩:=h
 have hi2:i<c.rates.length:=by omega
 obtain⟨r1,_⟩:=h6 i _ (zGE hi2)
 have hl:(c.rates[i]).length=c.start.length:=r1.2.1
 refine⟨hi2,by rw[hl,h3],by rw[hl];exact r1,?_⟩
 unfold zaq
 simp only[List.getD,zGE hi2,Option.getD_some]
set_option maxHeartbeats 3200000
theorem zav (va:Value) (c:RC) (i:Nat) (w:World) (ha:zdq w va c) (hi:i<c.rates.length) (hrow:zlr c.rates[i] (c.rates[i]).length):
 Calls Tryz.prog 162 #[va, .int .i64 i] w (RF1 w (zgg (qs c.rates[i]))):=by
 obtain⟨rv,sv,lv,rfl,hr,hs,hl⟩:=id ha
 obtain⟨ra,rn,rk,rfl,_⟩:=id hr.sl
 obtain⟨sa,sn,sk,rfl,_⟩:=id hs.sl
 obtain⟨la,ln,lk,rfl,_⟩:=id (zhc.sl hl)
 have hrn:rn=c.rates.length:=hr.len
 subst hrn
 have sr:=hr.sl
 obtain⟨rw',hrw,hrf⟩:=hr.at' i hi
 obtain⟨ea,en,ek,rfl,_⟩:=id hrf.sl
 have HOK:Hid (∀x∈c.rates[i],x.ok):=zH hrow.ok
 have HFT:Hid (∀k,k<=(c.rates[i]).length->fits (zgg (qs ((c.rates[i]).take k)))):=zH fun k _=>hrow.fits k
 generalize c.rates[i]'hi=row at *
 have hbx:=zca w (.cells #[.slice ra c.rates.length rk, .slice sa sn sk, .slice la ln lk] 28)
 have hb2:=zca (w.alloc (.cells #[.slice ra c.rates.length rk, .slice sa sn sk, .slice la ln lk] 28)) (.cells #[.bool false, .slice none 0 0, .slice none 0 0] 38)
 have hC:=(C3.new w 28 (.slice ra c.rates.length rk) (.slice sa sn sk) (.slice la ln lk)).belowS hb2
 have hR:=C3.newB (b:=w.heap.size+1) (w.alloc (.cells #[.slice ra c.rates.length rk, .slice sa sn sk, .slice la ln lk] 28)) 38 (.bool false) (.slice none 0 0) (.slice none 0 0) (by simp)
 have hbw:=zaa hbx hb2
 have hrw2:=zba hbw hrw
 have HF:=zH (hrf.below hbw)
 have HR:=zH hR
 have HBW:=zH hbw
 have i1:(0:Int)<=(i:Int):=by omega
 have i2:(i:Int)<(c.rates.length:Nat):=by omega
 clear hR hr hs hl hrf hrw ha hrow hbx hb2 hbw
 go_enter Tryz.func162,Tryz.ntmps162
 go_upto_region 1 with fail
 generalize (w.alloc (.cells #[.slice ra c.rates.length rk, .slice sa sn sk, .slice la ln lk] 28)).alloc (.cells #[.bool false, .slice none 0 0, .slice none 0 0] 38)=W2 at *
 obtain⟨_,c0,c1,c2,_,_,_⟩:=hC
 go_wp2_with (go_at_call 137;(with_reducible refine(sum_frac _ row _ HF.out HOK.out HFT.out).mono ?_);rintro e3 w3 ⟨v3,rfl,hv3,hb3⟩
              obtain⟨t3,x3,y3,rfl,⟨a31,l31,k31,rfl,_⟩,⟨a32,l32,k32,rfl,_⟩⟩:=hv3.isF
              have hba:=zca w3 (.cells #[.bool t3, .slice a31 l31 k31, .slice a32 l32 k32] 38)
              have HV3:=zH (hv3.below hba)
              have HB3:=zH (zaa HBW.out (zaa hb3 hba))
              have HR3:=zH (HR.out.belowS (zaa hb3 hba))
              obtain⟨_,d0,d1,d2,f0,f1,f2⟩:=HR3.out
              obtain⟨_,g0,g1,g2,_,_,_⟩:=C3.new w3 38 (.bool t3) (.slice a31 l31 k31) (.slice a32 l32 k32)
              clear hv3 hba hb3)
 refine zab rfl rfl Tryz.aggF Tryz.sizeF (HR3.out.set _ _ _) rfl ?_
 exact⟨_,rfl,HV3.out.set3 HR3.out (fun z=>by simp) (fun z=>by simp) _ _ _,zga HB3.out (by omega) _ _ _⟩
theorem zps (va:Value) (c:RC) (i:Nat) (w:World) (ha:zdq w va c) (hi:i<c.rates.length) (hrow:zlr c.rates[i] (c.rates[i]).length):
 Calls Tryz.prog 70 #[va, .int .i64 i] w (RF1 w (zgg (qs c.rates[i]))):=by
 obtain⟨rv,sv,lv,rfl,hr,hs,hl⟩:=id ha
 obtain⟨ra,rn,rk,rfl,_⟩:=id hr.sl
 obtain⟨sa,sn,sk,rfl,_⟩:=id hs.sl
 obtain⟨la,ln,lk,rfl,_⟩:=id (zhc.sl hl)
 have hrn:rn=c.rates.length:=hr.len
 subst hrn
 have sr:=hr.sl
 obtain⟨rw',hrw,hrf⟩:=hr.at' i hi
 obtain⟨ea,en,ek,rfl,_⟩:=id hrf.sl
 have HOK:Hid (∀x∈c.rates[i],x.ok):=zH hrow.ok
 have HFT:Hid (∀k,k<=(c.rates[i]).length->fits (zgg (qs ((c.rates[i]).take k)))):=zH fun k _=>hrow.fits k
 generalize c.rates[i]'hi=row at *
 have hbx:=zca w (.cells #[.slice ra c.rates.length rk, .slice sa sn sk, .slice la ln lk] 28)
 have hb2:=zca (w.alloc (.cells #[.slice ra c.rates.length rk, .slice sa sn sk, .slice la ln lk] 28)) (.cells #[.bool false, .slice none 0 0, .slice none 0 0] 38)
 have hC:=(C3.new w 28 (.slice ra c.rates.length rk) (.slice sa sn sk) (.slice la ln lk)).belowS hb2
 have hR:=C3.newB (b:=w.heap.size+1) (w.alloc (.cells #[.slice ra c.rates.length rk, .slice sa sn sk, .slice la ln lk] 28)) 38 (.bool false) (.slice none 0 0) (.slice none 0 0) (by simp)
 have hbw:=zaa hbx hb2
 have hrw2:=zba hbw hrw
 have HF:=zH (hrf.below hbw)
 have HR:=zH hR
 have HBW:=zH hbw
 have i1:(0:Int)<=(i:Int):=by omega
 have i2:(i:Int)<(c.rates.length:Nat):=by omega
 clear hR hr hs hl hrf hrw ha hrow hbx hb2 hbw
 go_enter Tryz.func70,Tryz.ntmps70
 go_upto_region 1 with fail
 generalize (w.alloc (.cells #[.slice ra c.rates.length rk, .slice sa sn sk, .slice la ln lk] 28)).alloc (.cells #[.bool false, .slice none 0 0, .slice none 0 0] 38)=W2 at *
 obtain⟨_,c0,c1,c2,_,_,_⟩:=hC
 go_wp2_with (go_at_call 148;(with_reducible refine(r2sum_fit _ row _ HF.out HOK.out HFT.out).mono ?_);rintro e3 w3 ⟨v3,rfl,hv3,hb3⟩
              obtain⟨t3,x3,y3,rfl,⟨a31,l31,k31,rfl,_⟩,⟨a32,l32,k32,rfl,_⟩⟩:=hv3.isF
              have hba:=zca w3 (.cells #[.bool t3, .slice a31 l31 k31, .slice a32 l32 k32] 38)
              have HV3:=zH (hv3.below hba)
              have HB3:=zH (zaa HBW.out (zaa hb3 hba))
              have HR3:=zH (HR.out.belowS (zaa hb3 hba))
              obtain⟨_,d0,d1,d2,f0,f1,f2⟩:=HR3.out
              obtain⟨_,g0,g1,g2,_,_,_⟩:=C3.new w3 38 (.bool t3) (.slice a31 l31 k31) (.slice a32 l32 k32)
              clear hv3 hba hb3)
 refine zab rfl rfl Tryz.aggF Tryz.sizeF (HR3.out.set _ _ _) rfl ?_
 exact⟨_,rfl,HV3.out.set3 HR3.out (fun z=>by simp) (fun z=>by simp) _ _ _,zga HB3.out (by omega) _ _ _⟩
theorem r2order_can (va vb:Value) (p q:Rat) (w:World) (ha:zqa w va p) (hb:zqa w vb q) (hp:fits p) (hq:fits q):
 Calls Tryz.prog 100 #[va,vb] w fun en w'=>en= .returned (.int .i64 (zsr p q))/\Below w.heap.size w w':=by
 have h:=ztk va vb _ _ _ _ _ _ w ha.raw hb.raw (zuc hp) (zuc hq)
 rw[zvb,zvb]at h
 exact h
theorem znu (va vb:Value) (p q:Rat) (w:World) (ha:zqa w va p) (hb:zqa w vb q) (hp:fits p) (hq:fits q):
 Calls Tryz.prog 50 #[va,vb] w fun en w'=>en= .returned (.bool (decide (zsr p q<0)))/\Below w.heap.size w w':=by
 obtain⟨t1,x1,y1,rfl,⟨a11,l11,k11,rfl,_⟩,⟨a12,l12,k12,rfl,_⟩⟩:=ha.isF
 obtain⟨t2,x2,y2,rfl,⟨a21,l21,k21,rfl,_⟩,⟨a22,l22,k22,rfl,_⟩⟩:=hb.isF
 have b1:=zca w (.cells #[.bool t1, .slice a11 l11 k11, .slice a12 l12 k12] 38)
 have b2:=zca (w.alloc (.cells #[.bool t1, .slice a11 l11 k11, .slice a12 l12 k12] 38)) (.cells #[.bool t2, .slice a21 l21 k21, .slice a22 l22 k22] 38)
 have HB:=zH (zaa b1 b2)
 have HX:=zH (ha.below HB.out)
 have HY:=zH (hb.below HB.out)
 have HP:=zH hp
 have HQ:=zH hq
 clear ha hb hp hq b1 b2
 go_enter Tryz.func50,Tryz.ntmps50
 go_wp2_with (go_at_call 100;(with_reducible refine(r2order_can _ _ p q _ HX.out HY.out HP.out HQ.out).mono ?_);rintro e3 w3 ⟨rfl,hb3⟩)
 go_ret
 exact⟨rfl,zaa HB.out hb3⟩
def oth (y:Int) (n:Nat):Int:=if n%2=0 then y+((n/2+1:Nat):Int)else y- ((n/2+1:Nat):Int)
theorem oth_ne (y:Int) (n:Nat):oth y n≠y:=by unfold oth;split<;>omega
@[go_sem] theorem oth_beq (y : Int) (n : Nat) : (oth y n == y) = false := by simpa using oth_ne y n
@[go_sem] theorem beq_oth (y : Int) (n : Nat) : (y == oth y n) = false := by simpa using fun h => oth_ne y n h.symm
@[go_sem] theorem oth_bne (y : Int) (n : Nat) : (oth y n != y) = true := by simpa using oth_ne y n
@[go_sem] theorem bne_oth (y : Int) (n : Nat) : (y != oth y n) = true := by simpa using fun h => oth_ne y n h.symm
@[go_sem] theorem int_beq_self (y : Int) : (y == y) = true := by simp
@[go_sem] theorem int_bne_self (y : Int) : (y != y) = false := by simp
end Go.Proofs.YtlpdkbmmbdfoiaaGreat
