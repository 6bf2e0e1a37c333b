/- Lemmas. -/
import Derived.Test.YtkpedaflofejnaaGreatMWt
set_option linter.unusedVariables false
set_option linter.unusedSimpArgs false
namespace Go.Proofs.YtkpedaflofejnaaGreat
set_option maxHeartbeats 3200000
open Go.RowKit
set_option maxRecDepth 100000 in
theorem zxo (va:Value) (m:List (List RF)) (w:World) (ha:MatN w va m) (hok:∀l∈m,∀x∈l,x.ok) (hl:∀l∈m,l.length<=65536) (hm:m.length<=65536):
 Calls Tryz.prog 76 #[va] w λ e w'=>e= .returned (.int .i64 (wtsM m))/\Below w.heap.size w w':=by
 have sa:=ha.sl;have la:=ha.len;have HOK:=zH hok;have HL:=zH hl;clear hok hl;go_enter Tryz.func76,Tryz.ntmps76;go_wp2_with fail;go_loopw [3,13] (λ u3 u13 wr=>∃ (k:Nat),k<=m.length/\u13= .int .i64 k/\u3= .int .i64 (wtsM (m.take k))/\Below w.heap.size w wr) (λ _ u13 _=>m.length- (intOf u13).toNat);case atStart=>exact⟨0,zZL _,rfl,rfl,zBR _ _⟩
 case round=>
  obtain⟨k,hk,rfl,rfl,hb⟩:=hrel;by_cases hkm:k<m.length
  ·obtain⟨rv,hrc,hrv⟩:=(ha.bw hb).at' k hkm
   have hW:wtsM (m.take k)<=536870912*65536:=by
    have h1:=wtsM_le (m.take k) (λ l h=>HOK.o l (List.mem_of_mem_take h)) (λ l h=>HL.o l (List.mem_of_mem_take h));rw[zTK]at h1;omega
   have hlk:=HL.o m[k] (zGM hkm);have HOKL:=zH (HOK.o m[k] (zGM hkm));have HTM:=zH (wtsM_take m k hkm);generalize m[k]'hkm=l at *
   generalize wtsM (m.take k)=W0 at *
   have srv:=hrv.sl;have lrv:=hrv.len;obtain⟨wo,rfl⟩:∃wo:World,wo=wr:=⟨_,rfl⟩;go_wp2_with fail;go_loopw [3,19] (λ u3 u19 wi=>∃ (j:Nat),j<=l.length/\u19= .int .i64 j/\u3= .int .i64 ((W0+wts (qs (l.take j)):Nat):Int)/\Below wo.heap.size wo wi) (λ _ u19 _=>l.length- (intOf u19).toNat);case atStart=>exact⟨0,zZL _,rfl,by simp[qs,wts],zBR _ _⟩
   case round=>
    obtain⟨j,hj,rfl,rfl,hbi⟩:=hrel;by_cases hjl:j<l.length
    ·obtain⟨xa,xb,c1,c2,c3,hxa,hxb⟩:=(hrv.bw hbi).at' j hjl;obtain⟨c1a,c1l,c1k,rfl,_⟩:=hxa.slen.1;obtain⟨c2a,c2l,c2k,rfl,_⟩:=hxb.slen.1;have HX:=zH (HOKL.o l[j] (zGM hjl));have HTS:=zH (wts_qs l j hjl)
     have hWj:wts (qs (l.take j))<=8192*65536:=by
      have h1:=wts_le (l.take j) (λ x h=>HOKL.o x (List.mem_of_mem_take h));rw[zTK]at h1;omega
     generalize l[j]'hjl=x at *
     generalize wts (qs (l.take j))=W1 at *
     have hA:zjc (wr.alloc (.cells #[.bool x.neg, .slice c1a c1l c1k, .slice c2a c2l c2k] 53)) (.agg #[.bool x.neg, .slice c1a c1l c1k, .slice c2a c2l c2k]) x.neg x.n x.d:=⟨_,_,rfl,hxa.bw (zba _ _),hxb.bw (zba _ _)⟩;have hb1:=zaa hbi (zba wr (.cells #[.bool x.neg, .slice c1a c1l c1k, .slice c2a c2l c2k] 53));obtain⟨hf1,hf2⟩:=RF.fits HX.o;have hn0:=zld (n:=x.q.num.natAbs);have hd1:=zwh (n:=x.q.den);have hd0:=x.q.den_nz;obtain⟨bn,hbn⟩:∃bn,zsa x.q.num.natAbs=bn:=⟨_,rfl⟩;obtain⟨bd,hbd⟩:∃bd,zsa x.q.den=bd:=⟨_,rfl⟩;rw[hbn]at hf1 hn0;rw[hbd]at hf2 hd1;have HBN:=zH hbn;have HBD:=zH hbd;clear hbn hbd hxa hxb;by_cases hz:x.q.num=0
     ·(have hbz:bn=0:=by have:=hn0.1;omega);have HW:=zH (wt_zero hz);subst hbz;clear hz hn0 hd1 hd0
      go_wp2_with (first
       |(go_at_call 116;(with_reducible refine(zhf _ x _ hA HX.o).mono ?_);rintro e w7 ⟨v,rfl,hv,hb7⟩;obtain⟨xa2,xb2,rfl,hxa2,hxb2⟩:=hv;obtain⟨y1,y2,y3,rfl,_⟩:=hxa2.v.sl;obtain⟨y4,y5,y6,rfl,_⟩:=hxb2.v.sl;have hxa3:=(hxa2.bw (zba w7 (.cells #[.bool (decide (x.q<0)), .slice y1 y2 y3, .slice y4 y5 y6] 53))).nat;have hxb3:=(hxb2.bw (zba w7 (.cells #[.bool (decide (x.q<0)), .slice y1 y2 y3, .slice y4 y5 y6] 53))).nat;have hb8:=zaa (zaa hb1 hb7) (zba w7 (.cells #[.bool (decide (x.q<0)), .slice y1 y2 y3, .slice y4 y5 y6] 53)))
       |(go_at_call 106;first
         |((with_reducible refine(zua _ _ _ hxa3).mono ?_);rintro e w' ⟨rfl,rfl⟩;rw[HBN.o])
         |((with_reducible refine(zua _ _ _ hxb3).mono ?_);rintro e w' ⟨rfl,rfl⟩;rw[HBD.o])))
      go_roundw;(case rel=>exact⟨j+1,hjl,by go_num,by rw[HTS.o,HW.o];go_num,hb8⟩);case measure=>simp[intOf];omega
     ·have hbz:0<bn:=hn0.2 zO;(have hbz2:(((bn:Nat):Int)==0)=false:=by simp;omega);by_cases hd:x.q.den=1
      ·have HW:=zH (wt_int hz hd);(have hbd1:¬1<bd:=λ h=>by have:=hd1.1 h;omega);clear hz hn0 hd1 hd0 hd
       go_wp2_with (first
        |(go_at_call 116;(with_reducible refine(zhf _ x _ hA HX.o).mono ?_);rintro e w7 ⟨v,rfl,hv,hb7⟩;obtain⟨xa2,xb2,rfl,hxa2,hxb2⟩:=hv;obtain⟨y1,y2,y3,rfl,_⟩:=hxa2.v.sl;obtain⟨y4,y5,y6,rfl,_⟩:=hxb2.v.sl;have hxa3:=(hxa2.bw (zba w7 (.cells #[.bool (decide (x.q<0)), .slice y1 y2 y3, .slice y4 y5 y6] 53))).nat;have hxb3:=(hxb2.bw (zba w7 (.cells #[.bool (decide (x.q<0)), .slice y1 y2 y3, .slice y4 y5 y6] 53))).nat;have hb8:=zaa (zaa hb1 hb7) (zba w7 (.cells #[.bool (decide (x.q<0)), .slice y1 y2 y3, .slice y4 y5 y6] 53)))
        |(go_at_call 106;first
          |((with_reducible refine(zua _ _ _ hxa3).mono ?_);rintro e w' ⟨rfl,rfl⟩;rw[HBN.o])
          |((with_reducible refine(zua _ _ _ hxb3).mono ?_);rintro e w' ⟨rfl,rfl⟩;rw[HBD.o])))
       go_roundw;(case rel=>exact⟨j+1,hjl,by go_num,by rw[HTS.o,HW.o,HBN.o];go_num,hb8⟩);case measure=>simp[intOf];omega
      ·have HW:=zH (wt_frac hz hd);have hbd1:1<bd:=hd1.2 zO;clear hz hn0 hd1 hd0 hd
       go_wp2_with (first
        |(go_at_call 116;(with_reducible refine(zhf _ x _ hA HX.o).mono ?_);rintro e w7 ⟨v,rfl,hv,hb7⟩;obtain⟨xa2,xb2,rfl,hxa2,hxb2⟩:=hv;obtain⟨y1,y2,y3,rfl,_⟩:=hxa2.v.sl;obtain⟨y4,y5,y6,rfl,_⟩:=hxb2.v.sl;have hxa3:=(hxa2.bw (zba w7 (.cells #[.bool (decide (x.q<0)), .slice y1 y2 y3, .slice y4 y5 y6] 53))).nat;have hxb3:=(hxb2.bw (zba w7 (.cells #[.bool (decide (x.q<0)), .slice y1 y2 y3, .slice y4 y5 y6] 53))).nat;have hb8:=zaa (zaa hb1 hb7) (zba w7 (.cells #[.bool (decide (x.q<0)), .slice y1 y2 y3, .slice y4 y5 y6] 53)))
        |(go_at_call 106;first
          |((with_reducible refine(zua _ _ _ hxa3).mono ?_);rintro e w' ⟨rfl,rfl⟩;rw[HBN.o])
          |((with_reducible refine(zua _ _ _ hxb3).mono ?_);rintro e w' ⟨rfl,rfl⟩;rw[HBD.o])))
       go_roundw;(case rel=>exact⟨j+1,hjl,by go_num,by rw[HTS.o,HW.o,HBN.o,HBD.o];go_num,hb8⟩);case measure=>simp[intOf];omega
    ·obtain rfl:j=l.length:=zO;rw[List.take_length];go_wp2_with fail;go_roundw;(case rel=>exact⟨k+1,hkm,by go_num,by rw[HTM.o],hb.trans (hbi.mono hb.size)⟩);case measure=>simp[intOf];omega
  ·obtain rfl:k=m.length:=zO;rw[List.take_length];go_wp2_with fail;go_ret;exact⟨rfl,hb⟩
def zre (x:RF):Prop:=x.ok/\¬x.q<0/\zda x.q.num.natAbs<=4/\zda x.q.den<=4
instance (x :RF):Decidable (zre x):=inferInstanceAs (Decidable (_/\_/\_/\_))
def zoj (l:List RF) (n:Nat):Prop:=(∀x∈l,zre x)/\l.length=n/\wts (qs l)<=3800
instance (l :List RF) (n:Nat):Decidable (zoj l n):=inferInstanceAs (Decidable (_/\_/\_))
set_option maxRecDepth 100000 in
theorem zvk (va:Value) (l:List RF) (n:Nat) (w:World) (ha:zte w va l) (hn:n<=65536):
 Calls Tryz.prog 74 #[va, .int .i64 n] w λ e w'=>e= .returned (.bool (decide (zoj l n)))/\Below w.heap.size w w':=by
 have sa:=ha.sl;have la:=ha.len;have hle:=sa.le;rw[la]at hle;have hlb:l.length<=9223372036854775807:=zO;clear hle;go_enter Tryz.func74,Tryz.ntmps74;go_wp2_with fail;go_loopw [11] (λ u11 wr=>∃ (k:Nat),k<=l.length/\u11= .int .i64 k/\(∀x∈l.take k,zre x)/\Below w.heap.size w wr) (λ u11 _=>l.length- (intOf u11).toNat);case atStart=>exact⟨0,zZL _,rfl,by simp,zBR _ _⟩
 case round=>
  obtain⟨k,hk,rfl,hpl,hb⟩:=hrel;have HPL:=zH hpl;clear hpl;by_cases hkl:k<l.length
  ·obtain⟨xa,xb,c1,c2,c3,hxa,hxb⟩:=(ha.bw hb).at' k hkl;obtain⟨c1a,c1l,c1k,rfl,_⟩:=hxa.slen.1;obtain⟨c2a,c2l,c2k,rfl,_⟩:=hxb.slen.1;have HBADx:zI (¬zre l[k]->¬zoj l n):=zH (λ h h'=>h (h'.1 _ (zGM hkl)))
   have HNEXT:zI (zre l[k]->∀x∈l.take (k+1),zre x):=zH (λ h x hx=>by
    rw[zce l k hkl,List.mem_append,List.mem_singleton]at hx;rcases hx with hx | rfl
    ·exact HPL.o x hx
    ·exact h)
   generalize l[k]'hkl=x at *
   have hA:zjc (wr.alloc (.cells #[.bool x.neg, .slice c1a c1l c1k, .slice c2a c2l c2k] 53)) (.agg #[.bool x.neg, .slice c1a c1l c1k, .slice c2a c2l c2k]) x.neg x.n x.d:=⟨_,_,rfl,hxa.bw (zba _ _),hxb.bw (zba _ _)⟩;have hb1:=zaa hb (zba wr (.cells #[.bool x.neg, .slice c1a c1l c1k, .slice c2a c2l c2k] 53));clear hxa hxb;by_cases hx:x.ok
   ·have HX:=zH hx;clear hx;by_cases h1:x.q<0
    ·have HBAD:=zH (HBADx.o (λ h=>h.2.1 h1));have hd1:decide (x.q<0)=true:=zDT h1;clear h1;go_wp2_with (go_at_call 116;(with_reducible refine(zhf _ x _ hA HX.o).mono ?_);rintro e w7 ⟨v,rfl,hv,hb7⟩;obtain⟨xa2,xb2,rfl,hxa2,hxb2⟩:=hv;have z1:slen xa2=zda x.q.num.natAbs:=hxa2.v.len;have z2:slen xb2=zda x.q.den:=hxb2.v.len;obtain⟨y1,y2,y3,rfl,_⟩:=hxa2.v.sl;obtain⟨y4,y5,y6,rfl,_⟩:=hxb2.v.sl;have z3:y2=zda x.q.num.natAbs:=z1;have z4:y5=zda x.q.den:=z2;subst z3 z4;clear z1 z2;have hb8:=λ o=>zaa (zaa hb1 hb7) (zba w7 o));go_ret;exact⟨by rw[zDF HBAD.o];rfl,hb8 _⟩
    ·have hd1:decide (x.q<0)=false:=zDF h1;have H1:=zH h1;clear h1;by_cases h2:4<zda x.q.num.natAbs
     ·have HBAD:=zH (HBADx.o (λ h=>by have:=h.2.2.1;omega));go_wp2_with (go_at_call 116;(with_reducible refine(zhf _ x _ hA HX.o).mono ?_);rintro e w7 ⟨v,rfl,hv,hb7⟩;obtain⟨xa2,xb2,rfl,hxa2,hxb2⟩:=hv;have z1:slen xa2=zda x.q.num.natAbs:=hxa2.v.len;have z2:slen xb2=zda x.q.den:=hxb2.v.len;obtain⟨y1,y2,y3,rfl,_⟩:=hxa2.v.sl;obtain⟨y4,y5,y6,rfl,_⟩:=hxb2.v.sl;have z3:y2=zda x.q.num.natAbs:=z1;have z4:y5=zda x.q.den:=z2;subst z3 z4;clear z1 z2;have hb8:=λ o=>zaa (zaa hb1 hb7) (zba w7 o));go_ret;exact⟨by rw[zDF HBAD.o];rfl,hb8 _⟩
     ·by_cases h3:4<zda x.q.den
      ·have HBAD:=zH (HBADx.o (λ h=>by have:=h.2.2.2;omega));go_wp2_with (go_at_call 116;(with_reducible refine(zhf _ x _ hA HX.o).mono ?_);rintro e w7 ⟨v,rfl,hv,hb7⟩;obtain⟨xa2,xb2,rfl,hxa2,hxb2⟩:=hv;have z1:slen xa2=zda x.q.num.natAbs:=hxa2.v.len;have z2:slen xb2=zda x.q.den:=hxb2.v.len;obtain⟨y1,y2,y3,rfl,_⟩:=hxa2.v.sl;obtain⟨y4,y5,y6,rfl,_⟩:=hxb2.v.sl;have z3:y2=zda x.q.num.natAbs:=z1;have z4:y5=zda x.q.den:=z2;subst z3 z4;clear z1 z2;have hb8:=λ o=>zaa (zaa hb1 hb7) (zba w7 o));go_ret;exact⟨by rw[zDF HBAD.o];rfl,hb8 _⟩
      ·have HGOOD:=zH (HNEXT.o ⟨HX.o,H1.o,zO,zO⟩);go_wp2_with (go_at_call 116;(with_reducible refine(zhf _ x _ hA HX.o).mono ?_);rintro e w7 ⟨v,rfl,hv,hb7⟩;obtain⟨xa2,xb2,rfl,hxa2,hxb2⟩:=hv;have z1:slen xa2=zda x.q.num.natAbs:=hxa2.v.len;have z2:slen xb2=zda x.q.den:=hxb2.v.len;obtain⟨y1,y2,y3,rfl,_⟩:=hxa2.v.sl;obtain⟨y4,y5,y6,rfl,_⟩:=hxb2.v.sl;have z3:y2=zda x.q.num.natAbs:=z1;have z4:y5=zda x.q.den:=z2;subst z3 z4;clear z1 z2;have hb8:=λ o=>zaa (zaa hb1 hb7) (zba w7 o));go_roundw;(case rel=>exact⟨k+1,hkl,by go_num,HGOOD.o,hb8 _⟩);case measure=>simp[intOf];omega
   ·have HX:=zH hx;have HBAD:=zH (HBADx.o (λ h=>hx h.1));clear hx;go_wp2_with (go_at_call 116;(with_reducible refine(zli _ x.neg x.n x.d _ hA).mono ?_);rintro e w7 ⟨v,er,rfl,hb7,_,hv⟩;obtain⟨rfl,hvz⟩:=hv HX.o;have hvz2:v= .agg #[.bool false, .slice none 0 0, .slice none 0 0]:=hvz;clear hvz;subst hvz2;have hb8:=λ o=>zaa (zaa hb1 hb7) (zba w7 o));go_ret;exact⟨by rw[zDF HBAD.o];rfl,hb8 _⟩
  ·obtain rfl:k=l.length:=zO;have hpl:=HPL.o;rw[List.take_length]at hpl;by_cases hln:l.length=n
   ·have hlb2:l.length<=65536:=zO;obtain⟨av,al,ak,rfl,_⟩:=ha.sl;have e9:al=l.length:=la;subst e9
    have HD:zI (decide (zoj l n)=decide (((wts (qs l):Nat):Int)<=3800)):=zH (by
     by_cases h:wts (qs l)<=3800
     ·rw[zDT (show zoj l n from⟨hpl,hln,h⟩),zDT zO]
     ·rw[zDF (λ h':zoj l n=>h h'.2.2),zDF zO])
    have HOK:zI (∀l'∈ [l],∀x∈l',x.ok):=zH (λ l' h x hx=>by simp at h;subst h;exact(hpl x hx).1);have HLL:zI (∀l'∈ [l],l'.length<=65536):=zH (λ l' h=>by simp at h;subst h;exact hlb2)
    have HM:zI (MatN (wr.alloc (.cells #[.slice av l.length ak] 23)) (.slice (some ⟨wr.heap.size,0,none⟩) 1 1) [l]):=zH ⟨⟨_,1,1,rfl,zLR _,by simp[maxLen],λ e=>by cases e⟩,rfl,λ j hj=>by
     (have hj0:j=0:=by simp at hj;omega);subst hj0;exact⟨_,by simp[ptr,base,Addr.add],(ha.bw hb).bw (zba _ _)⟩⟩
    have hb2:=zaa hb (zba wr (.cells #[.slice av l.length ak] 23));(have hlnb:(((l.length:Nat):Int)==(n:Nat))=true:=by simp[hln]);have HW1:=zH (wtsM_one l);have HLEN:zI ([l].length<=65536):=zH (by simp);clear hpl hln;go_wp2_with (go_at_call 76;(with_reducible refine(zxo _ [l] _ HM.o HOK.o HLL.o HLEN.o).mono ?_);rintro e w3 ⟨rfl,hb3⟩;rw[HW1.o]);go_ret;exact⟨by rw[HD.o];rfl,zaa hb2 hb3⟩
   ·have HBAD:zI (¬zoj l n):=zH (λ h=>hln h.2.1);(have hlnb:(((l.length:Nat):Int)==(n:Nat))=false:=by simp;omega);clear hln hpl;go_wp2_with fail;go_ret;exact⟨by rw[zDF HBAD.o];rfl,hb⟩
def zje (c:RC) (i:Nat) (r:List RF):Prop:=zoj r c.start.length/\(∀x,r[i]? =some x->x.q.num=0)/\(c.lost[i]? =some true->wts (qs r)=0)
def zic (c:RC):Prop:=1<=c.start.length/\c.start.length<=128/\c.lost.length=c.start.length/\c.rates.length=c.start.length/\zoj c.start c.start.length/\
 (∀i r,c.rates[i]? =some r->zje c i r)/\zof (qs c.start)=1
theorem zoj.fits {l:List RF} {n:Nat} (h:zoj l n) (k:Nat):fits (zof (qs (l.take k))):=by
 have h1:∀q∈qs l,0<=q:=λ q hq=>by
  obtain⟨x,hx,rfl⟩:=List.mem_map.1 hq;exact Rat.not_lt.1 (h.1 x hx).2.1
 rw[<-qs_take];exact lsum_fits (List.take_sublist k _) h1 h.2.2
theorem zoj.ok {l:List RF} {n:Nat} (h:zoj l n):∀x∈l,x.ok:=λ x hx=>(h.1 x hx).1
theorem cmp_can (va vb:Value) (p q:Rat) (w:World) (ha:zna w va p) (hb:zna w vb q) (hp:fits p) (hq:fits q):
 Calls Tryz.prog 78 #[va,vb] w λ en w'=>en= .returned (.tuple #[.int .i64 (zto p q), .int .i64 0])/\Below w.heap.size w w':=by
 have h:=cmp_frac va vb _ _ _ _ _ _ w ha.raw hb.raw (zpd hp) (zpd hq);rw[zrc,zrc]at h;exact h
set_option maxHeartbeats 1600000 in
theorem valid_false1 (va:Value) (c:RC) (w:World) (ha:zso w va c) (h:c.start.length<1\/128<c.start.length\/c.lost.length≠c.start.length\/c.rates.length≠c.start.length\/¬zoj c.start c.start.length):
 Calls Tryz.prog 19 #[va] w λ e w'=>e= .returned (.bool false)/\Below w.heap.size w w':=by
 obtain⟨rv,sv,lv,rfl,hr,hs,hl⟩:=ha;obtain⟨ra,rn,rk,rfl,r1,r2,r3⟩:=hr.sl;obtain⟨sa,sn,sk,rfl,s1,s2,s3⟩:=hs.sl;obtain⟨la,ln,lk,rfl,l1,l2,l3⟩:=zta.sl hl;have hrl:rn=c.rates.length:=hr.len;have hsl:sn=c.start.length:=hs.len;have hll:ln=c.lost.length:=hl.len;subst hrl hsl hll;unfold maxLen at r2 s2 l2;have hbx:=zba w (.cells #[.slice ra c.rates.length rk, .slice sa c.start.length sk, .slice la c.lost.length lk] 34);have hs':=hs.bw hbx;generalize c.start.length=n at *
 generalize c.lost.length=nl at *
 generalize c.rates.length=nr at *
 by_cases h1:n<1
 ·go_enter Tryz.func19,Tryz.ntmps19;go_wp2_with fail;go_ret;exact⟨rfl,hbx⟩
 ·by_cases h2:128<n
  ·go_enter Tryz.func19,Tryz.ntmps19;go_wp2_with fail;go_ret;exact⟨rfl,hbx⟩
  ·by_cases h3:nl=n
   ·by_cases h4:nr=n
    ·have h5:¬zoj c.start n:=by
      rcases h with h | h | h | h | h
      ·omega
      ·omega
      ·omega
      ·omega
      ·exact h
     have H5:=zH h5;subst h3 h4;clear h h5;go_enter Tryz.func19,Tryz.ntmps19;go_wp2_with (go_at_call 74;(with_reducible refine(zvk _ c.start nr _ hs' zO).mono ?_);rintro e w1 ⟨rfl,hb1⟩;rw[zDF H5.o]);go_ret;exact⟨rfl,zaa hbx hb1⟩
    ·(have h4b:(((nr:Nat):Int) != (n:Nat))=true:=by simp;omega);subst h3;clear h;go_enter Tryz.func19,Tryz.ntmps19;go_wp2_with fail;go_ret;exact⟨rfl,hbx⟩
   ·(have h3b:(((nl:Nat):Int) != (n:Nat))=true:=by simp;omega);clear h;go_enter Tryz.func19,Tryz.ntmps19;go_wp2_with fail;go_ret;exact⟨rfl,hbx⟩
@[go_sem] theorem slen_slice (a : Option Addr) (n c : Nat) : slen (.slice a n c) = n := rfl
theorem RF.num_zero {x:RF} (h:x.ok):x.q.num=0↔x.n=0:=by
 have e:x.q.num.natAbs=x.n/Nat.gcd x.n x.d:=zzh _ _ _ h.1;constructor
 ·intro h0;have h1:x.n/Nat.gcd x.n x.d=0:=by rw[<-e,h0];rfl
  rcases Nat.eq_zero_or_pos x.n with h2 | h2
  ·exact h2
  ·have:=Nat.div_pos (Nat.le_of_dvd h2 (Nat.gcd_dvd_left x.n x.d)) (Nat.gcd_pos_of_pos_left _ h2);omega
 ·intro h0;rw[h0,Nat.zero_div]at e;omega
theorem RF.above_pos {x:RF} (h:x.ok) (h0:¬x.q<0) (hn:x.q.num≠0):(!x.neg&& !decide (x.n=0))=true:=by
 have hn2:x.n≠0:=λ e=>hn ((RF.num_zero h).2 e)
 have e:decide (x.q<0)=(x.neg&&decide (0<x.n/Nat.gcd x.n x.d)):=fq_neg _ _ _ h.1;have h1:0<x.n/Nat.gcd x.n x.d:=Nat.div_pos (Nat.le_of_dvd (zPZ hn2) (Nat.gcd_dvd_left _ _)) (Nat.gcd_pos_of_pos_left _ (zPZ hn2));rw[zDF h0,zDT h1,Bool.and_true]at e;rw[<-e,zDF hn2];rfl
theorem RF.above_zero {x:RF} (h:x.ok) (hn:x.q.num=0):(!x.neg&& !decide (x.n=0))=false:=by
 rw[zDT ((RF.num_zero h).1 hn)];simp
def zsf (w0:World) (c:RC) (e:Ending) (w:World):Prop:=(∃b,e= .returned (.bool b)/\(b=true↔zic c))/\Below w0.heap.size w0 w
theorem zsf.no {w0 w:World} {c:RC} (h:¬zic c) (hb:Below w0.heap.size w0 w):zsf w0 c (.returned (.bool false)) w:=⟨⟨false,rfl,by simp[h]⟩,hb⟩
theorem kp3w {w0 X Y:World} {a1 a2 a3:Addr} {x1 x2 x3:Value} (h:X.cell? a1=some x1/\X.cell? a2=some x2/\X.cell? a3=some x3/\Below w0.heap.size w0 X) (hb:Below X.heap.size X Y):Y.cell? a1=some x1/\Y.cell? a2=some x2/\Y.cell? a3=some x3/\Below w0.heap.size w0 Y:=by
 obtain⟨k1,k2,k3,k0⟩:=h;exact⟨zca hb k1,zca hb k2,zca hb k3,zaa k0 hb⟩
theorem kp3a {w0 X:World} {a1 a2 a3:Addr} {x1 x2 x3:Value} (h:w0.cell? a1=some x1/\w0.cell? a2=some x2/\w0.cell? a3=some x3) (hb:Below w0.heap.size w0 X):X.cell? a1=some x1/\X.cell? a2=some x2/\X.cell? a3=some x3/\Below w0.heap.size w0 X:=by
 obtain⟨k1,k2,k3⟩:=h;exact⟨zca hb k1,zca hb k2,zca hb k3,hb⟩
theorem kp3c {w0 X:World} {a1 a2 a3:Addr} {x1 x2 x3:Value} (h:X.cell? a1=some x1/\X.cell? a2=some x2/\X.cell? a3=some x3/\Below w0.heap.size w0 X):Below w0.heap.size w0 X:=by
 obtain⟨k1,k2,k3,k0⟩:=h;exact k0
theorem step_app_frB {P:Program} (t e:TypeId) (i:TypeInfo) (ht:P.underlying t=some (.slice e)) (hi:P.info? e=some i) (hz:i.zero=some (.agg #[.bool false, .slice none 0 0, .slice none 0 0])) (hsize:i.size=3) (hby:i.bytes=56)
 {ops:Array Oper} {o:Oper} {a:Act} {w:World} {K:Act->World->Prop} {Q:Exit->Act->World->Prop} {E:Prop} (hgd:o.guard=none) (s x:Operand)
 (ho:o.op= .call { callee:= .builtin .append,args:=#[s,x],argTypes:=#[t,t] }) (B:Nat) (v:Value) (q:List Rat) (hs:a.eval s=v) (hown:zra w e B v q) (c0 c1 c2:Value) (r:Rat) (hf:zna w (.agg #[c0,c1,c2]) r) (g:Nat) (hxe:a.eval x= .slice (some ⟨g,0,none⟩) 1 1)
 (hc:zwc w g #[c0,c1,c2]) (hn:q.length<=1000) (hbase:B<=w.heap.size)
 (h:∀v' w',zra w' e B v' (q++ [r])->w.grownBy w' v.ownBlock->zdc w v->(v'.ownBlock=v.ownBlock\/v'.ownBlock=some w.heap.size)->K (a.put o.dst v') w'):
 if Region.wanted o (yielded ops a.tmps)=true then Oper.wp P o a w K Q else E:=by
 obtain⟨xs,h1,h2⟩:=hown;have hl:xs.length=q.length*3:=h1.clen;obtain⟨a1,b1,ha,h4,h5⟩:=id hf;injection ha with ha
 injection ha with ha
 simp only[List.cons.injEq,and_true]at ha;obtain⟨rfl,rfl,rfl⟩:=ha;obtain⟨p1,p2,p3,rfl,_⟩:=h4.v.sl;obtain⟨s1,s2,s3,rfl,_⟩:=h5.v.sl;rw[zIP (by simp[Region.wanted,hgd])]
 obtain⟨v',w',hr,k2,k3,k4,k5⟩:=zqe (P:=P) w B t o.type e i _ 3 56 ht hi hz hsize hby rfl zD v q.length xs h1.own ⟨g,0,none⟩ 1 1 [.bool (decide (r<0)), .slice p1 p2 p3, .slice s1 s2 s3] rfl
  (λ j u hu=>by
   rw[Addr.add_lit,Nat.zero_add];exact hc.cell j (by simpa using hu)) (λ u hu=>by simp at hu;rcases hu with rfl | rfl | rfl<;>rfl) (by simp[maxLen];omega) zO hbase h1.nl (λ u hu z=>by simp at hu;rcases hu with rfl | rfl | rfl<;>simp) (λ c hc z=>by
   have hc2:c∈ [Value.bool false, .slice none 0 0, .slice none 0 0]:=hc;simp at hc2;rcases hc2 with rfl | rfl<;>simp)
 unfold Oper.wp execOp;simp only[ho,resolve,invoke,builtin,Sem.run_bind,Sem.run_pure,Result.andThen_ok,List.map_toArray,List.map_cons,List.map_nil,hs,hxe,hr];refine h v' w' ⟨_,?_,(zrk.snoc (r:=r) h2 hl hf).grown k3 h1.nl⟩ k3 h1.nl k4;rw[zLA];exact⟨k2,k5⟩
section
variable {w w':World} {B n:Nat} {vO:Value} {rs:List Value} {qs:Nat->List Rat}
end
@[go_sem ↓] theorem zvo {P : Program} (w : World) {t : TypeId} {v : Value} {lo : Int} (h : zlb v) (ht : P.underlying t = some (.slice (P.elem t))) (h0 : 0 <= lo) (h1 : lo <= (slen v : Int)) :
 (Instr.slice t v (some (.int .i64 lo)) none none).run P w=((sizeOf (P.elem t)).run P w).andThen λ s w=> .ok (cut s v lo.toNat (slen v)) w:=by
  obtain⟨a,n,cap,rfl,hn,_,h3⟩:=h;simp only[slen]at h1;have h00:(n:Int)<=cap:=zO;simp[Instr.slice,run_underlying ht,Instr.sliceBounds,Instr.sliceBound,asIntOf,h0,h1,h00,cut,slen]
theorem zxa {w:World} {b:Nat} {x y z:Value} {r:Rat} (hb:zwc w b #[x,y,z]) (hf:zna w (.agg #[x,y,z]) r):zpa w (.slice (some ⟨b,0,none⟩) 1 1) [r]:=by
 obtain⟨a1,b1,ha,h4,h5⟩:=hf;injection ha with ha
 injection ha with ha
 simp only[List.cons.injEq,and_true]at ha;obtain⟨rfl,rfl,rfl⟩:=ha;refine⟨⟨_,1,1,rfl,zLR _,by simp[maxLen],λ e=>by cases e⟩,rfl,λ j hj=> ?_⟩;obtain rfl:j=0:=by simp at hj;omega
 have hp:∀k,ptr (.slice (some ⟨b,0,none⟩) 1 1) k=⟨b,k,none⟩:=λ k=>by simp only[ptr,base,Addr.add_lit,Nat.zero_add]
 exact⟨y,z,by rw[hp];exact hb.cell 0 rfl,by rw[hp];exact hb.cell 1 rfl,by rw[hp];exact hb.cell 2 rfl,h4,h5⟩
theorem zck (l:List Rat):qs (l.map RF.of)=l:=by
 unfold qs;rw[List.map_map];have :(RF.q∘RF.of)=id:=by funext q;exact RF.of_q q
 rw[this,List.map_id]
end Go.Proofs.YtkpedaflofejnaaGreat
