/-
  package drydocksame: Nat, Ints, Bools.
-/
import Derived.Test.YtlpdkbmmbdfoiaaGreatHWt
import Derived.Test.YtlpdkbmmbdfoiaaGreatHRb8
import Derived.Test.YtlpdkbmmbdfoiaaGreatHGn
import Derived.Deep.CutRange
import Derived.Deep.DeepCutAuto
import Derived.Deep.LoopGhost
set_option linter.unusedVariables false
set_option linter.unusedSimpArgs false
namespace Go.Proofs.YtlpdkbmmbdfoiaaGreat
set_option maxHeartbeats 3200000
open Go.RowKit
set_option maxRecDepth 100000 in
theorem zzq (va:Value) (m:List (List RF)) (w:World) (ha:MatN w va m) (hok:∀l∈m,∀x∈l,x.ok) (hl:∀l∈m,l.length≤65536) (hm:m.length≤65536):
 Calls Tryz.prog 146 #[va] w fun e w'=>e= .returned (.int .i64 (zxr m))∧Below w.heap.size w w':=by
 have sa:=ha.sl
 have la:=ha.len
 have HOK:=zH hok
 have HL:=zH hl
 clear hok hl
 go_enter Tryz.func146,Tryz.ntmps146
 go_wp2_with fail
 go_loopw [3,13] (fun u3 u13 wr=>∃ (k:Nat),k≤m.length∧u13= .int .i64 k∧u3= .int .i64 (zxr (m.take k))∧Below w.heap.size w wr) (fun _ u13 _=>m.length- (intOf u13).toNat)
 case atStart=>exact⟨0,Nat.zero_le _,rfl,rfl,Below.refl _ _⟩
 case round=>
  obtain⟨k,hk,rfl,rfl,hb⟩:=hrel
  by_cases hkm:k<m.length
  ·obtain⟨rv,hrc,hrv⟩:=(ha.below hb).at' k hkm
   have hW:zxr (m.take k)≤536870912*65536:=by
    have h1:=zit (m.take k) (fun l h=>HOK.out l (List.mem_of_mem_take h)) (fun l h=>HL.out l (List.mem_of_mem_take h))
    rw[List.length_take]at h1;omega
   have hlk:=HL.out m[k] (List.getElem_mem hkm)
   have HOKL:=zH (HOK.out m[k] (List.getElem_mem hkm))
   have HTM:=zH (zht m k hkm)
   generalize m[k]'hkm=l at *
   generalize zxr (m.take k)=W0 at *
   have srv:=hrv.sl
   have lrv:=hrv.len
   obtain⟨wo,rfl⟩:∃wo:World,wo=wr:=⟨_,rfl⟩
   go_wp2_with fail
   go_loopw [3,19] (fun u3 u19 wi=>∃ (j:Nat),j≤l.length∧u19= .int .i64 j∧u3= .int .i64 ((W0+wts (qs (l.take j)):Nat):Int)∧Below wo.heap.size wo wi) (fun _ u19 _=>l.length- (intOf u19).toNat)
   case atStart=>exact⟨0,Nat.zero_le _,rfl,by simp[qs,wts],Below.refl _ _⟩
   case round=>
    obtain⟨j,hj,rfl,rfl,hbi⟩:=hrel
    by_cases hjl:j<l.length
    ·obtain⟨xa,xb,c1,c2,c3,hxa,hxb⟩:=(hrv.below hbi).at' j hjl
     obtain⟨c1a,c1l,c1k,rfl,_⟩:=hxa.slen.1
     obtain⟨c2a,c2l,c2k,rfl,_⟩:=hxb.slen.1
     have HX:=zH (HOKL.out l[j] (List.getElem_mem hjl))
     have HTS:=zH (wts_qs l j hjl)
     have hWj:wts (qs (l.take j))≤8192*65536:=by
      have h1:=zgt (l.take j) (fun x h=>HOKL.out x (List.mem_of_mem_take h))
      rw[List.length_take]at h1;omega
     generalize l[j]'hjl=x at *
     generalize wts (qs (l.take j))=W1 at *
     have hA:zdc (wr.alloc (.cells #[.bool x.neg, .slice c1a c1l c1k, .slice c2a c2l c2k] 38)) (.agg #[.bool x.neg, .slice c1a c1l c1k, .slice c2a c2l c2k]) x.neg x.n x.d:=⟨_,_,rfl,hxa.below (zca _ _),hxb.below (zca _ _)⟩
     have hb1:=zaa hbi (zca wr (.cells #[.bool x.neg, .slice c1a c1l c1k, .slice c2a c2l c2k] 38))
     obtain⟨hf1,hf2⟩:=RF.fits HX.out
     have hn0:=zld (n:=x.q.num.natAbs)
     have hd1:=zse (n:=x.q.den)
     have hd0:=x.q.den_nz
     obtain⟨bn,hbn⟩:∃bn,zua x.q.num.natAbs=bn:=⟨_,rfl⟩
     obtain⟨bd,hbd⟩:∃bd,zua x.q.den=bd:=⟨_,rfl⟩
     rw[hbn]at hf1 hn0
     rw[hbd]at hf2 hd1
     have HBN:=zH hbn
     have HBD:=zH hbd
     clear hbn hbd hxa hxb
     by_cases hz:x.q.num=0
     ·have hbz:bn=0:=by have:=hn0.1;omega
      have HW:=zH (wt_zero hz)
      subst hbz
      clear hz hn0 hd1 hd0
      go_wp2_with (first
       |(go_at_call 89;(with_reducible refine(zok _ x _ hA HX.out).mono ?_);rintro e w7 ⟨v,rfl,hv,hb7⟩
         obtain⟨xa2,xb2,rfl,hxa2,hxb2⟩:=hv
         obtain⟨y1,y2,y3,rfl,_⟩:=hxa2.v.sl
         obtain⟨y4,y5,y6,rfl,_⟩:=hxb2.v.sl
         have hxa3:=(hxa2.below (zca w7 (.cells #[.bool (decide (x.q<0)), .slice y1 y2 y3, .slice y4 y5 y6] 38))).nat
         have hxb3:=(hxb2.below (zca w7 (.cells #[.bool (decide (x.q<0)), .slice y1 y2 y3, .slice y4 y5 y6] 38))).nat
         have hb8:=zaa (zaa hb1 hb7) (zca w7 (.cells #[.bool (decide (x.q<0)), .slice y1 y2 y3, .slice y4 y5 y6] 38)))
       |(go_at_call 156;first
         |((with_reducible refine(zva _ _ _ hxa3).mono ?_);rintro e w' ⟨rfl,rfl⟩;rw[HBN.out])
         |((with_reducible refine(zva _ _ _ hxb3).mono ?_);rintro e w' ⟨rfl,rfl⟩;rw[HBD.out])))
      go_roundw
      case rel=>exact⟨j+1,hjl,by go_num,by rw[HTS.out,HW.out];go_num,hb8⟩
      case measure=>simp[intOf];omega
     ·have hbz:0<bn:=hn0.2 (by omega)
      have hbz2:(((bn:Nat):Int)==0)=false:=by simp;omega
      by_cases hd:x.q.den=1
      ·have HW:=zH (wt_int hz hd)
       have hbd1:¬1<bd:=fun h=>by have:=hd1.1 h;omega
       clear hz hn0 hd1 hd0 hd
       go_wp2_with (first
        |(go_at_call 89;(with_reducible refine(zok _ x _ hA HX.out).mono ?_);rintro e w7 ⟨v,rfl,hv,hb7⟩
          obtain⟨xa2,xb2,rfl,hxa2,hxb2⟩:=hv
          obtain⟨y1,y2,y3,rfl,_⟩:=hxa2.v.sl
          obtain⟨y4,y5,y6,rfl,_⟩:=hxb2.v.sl
          have hxa3:=(hxa2.below (zca w7 (.cells #[.bool (decide (x.q<0)), .slice y1 y2 y3, .slice y4 y5 y6] 38))).nat
          have hxb3:=(hxb2.below (zca w7 (.cells #[.bool (decide (x.q<0)), .slice y1 y2 y3, .slice y4 y5 y6] 38))).nat
          have hb8:=zaa (zaa hb1 hb7) (zca w7 (.cells #[.bool (decide (x.q<0)), .slice y1 y2 y3, .slice y4 y5 y6] 38)))
        |(go_at_call 156;first
          |((with_reducible refine(zva _ _ _ hxa3).mono ?_);rintro e w' ⟨rfl,rfl⟩;rw[HBN.out])
          |((with_reducible refine(zva _ _ _ hxb3).mono ?_);rintro e w' ⟨rfl,rfl⟩;rw[HBD.out])))
       go_roundw
       case rel=>exact⟨j+1,hjl,by go_num,by rw[HTS.out,HW.out,HBN.out];go_num,hb8⟩
       case measure=>simp[intOf];omega
      ·have HW:=zH (wt_frac hz hd)
       have hbd1:1<bd:=hd1.2 (by omega)
       clear hz hn0 hd1 hd0 hd
       go_wp2_with (first
        |(go_at_call 89;(with_reducible refine(zok _ x _ hA HX.out).mono ?_);rintro e w7 ⟨v,rfl,hv,hb7⟩
          obtain⟨xa2,xb2,rfl,hxa2,hxb2⟩:=hv
          obtain⟨y1,y2,y3,rfl,_⟩:=hxa2.v.sl
          obtain⟨y4,y5,y6,rfl,_⟩:=hxb2.v.sl
          have hxa3:=(hxa2.below (zca w7 (.cells #[.bool (decide (x.q<0)), .slice y1 y2 y3, .slice y4 y5 y6] 38))).nat
          have hxb3:=(hxb2.below (zca w7 (.cells #[.bool (decide (x.q<0)), .slice y1 y2 y3, .slice y4 y5 y6] 38))).nat
          have hb8:=zaa (zaa hb1 hb7) (zca w7 (.cells #[.bool (decide (x.q<0)), .slice y1 y2 y3, .slice y4 y5 y6] 38)))
        |(go_at_call 156;first
          |((with_reducible refine(zva _ _ _ hxa3).mono ?_);rintro e w' ⟨rfl,rfl⟩;rw[HBN.out])
          |((with_reducible refine(zva _ _ _ hxb3).mono ?_);rintro e w' ⟨rfl,rfl⟩;rw[HBD.out])))
       go_roundw
       case rel=>exact⟨j+1,hjl,by go_num,by rw[HTS.out,HW.out,HBN.out,HBD.out];go_num,hb8⟩
       case measure=>simp[intOf];omega
    ·obtain rfl:j=l.length:=by omega
     rw[List.take_length]
     go_wp2_with fail
     go_roundw
     case rel=>exact⟨k+1,hkm,by go_num,by rw[HTM.out],hb.trans (hbi.mono hb.size)⟩
     case measure=>simp[intOf];omega
  ·obtain rfl:k=m.length:=by omega
   rw[List.take_length]
   go_wp2_with fail
   go_ret
   exact⟨rfl,hb⟩
def zyq (x:RF):Prop:=x.ok∧¬x.q<0∧zda x.q.num.natAbs≤4∧zda x.q.den≤4
instance (x :RF):Decidable (zyq x):=inferInstanceAs (Decidable (_∧_∧_∧_))
def zlr (l:List RF) (n:Nat):Prop:=(∀x∈l,zyq x)∧l.length=n∧wts (qs l)≤3800
instance (l :List RF) (n:Nat):Decidable (zlr l n):=inferInstanceAs (Decidable (_∧_∧_))
set_option maxRecDepth 100000 in
theorem zks (va:Value) (l:List RF) (n:Nat) (w:World) (ha:zni w va l) (hn:n≤65536):
 Calls Tryz.prog 144 #[va, .int .i64 n] w fun e w'=>e= .returned (.bool (decide (zlr l n)))∧Below w.heap.size w w':=by
 have sa:=ha.sl
 have la:=ha.len
 have hle:=sa.le
 rw[la]at hle
 have hlb:l.length≤9223372036854775807:=by omega
 clear hle
 go_enter Tryz.func144,Tryz.ntmps144
 go_wp2_with fail
 go_loopw [11] (fun u11 wr=>∃ (k:Nat),k≤l.length∧u11= .int .i64 k∧(∀x∈l.take k,zyq x)∧Below w.heap.size w wr) (fun u11 _=>l.length- (intOf u11).toNat)
 case atStart=>exact⟨0,Nat.zero_le _,rfl,by simp,Below.refl _ _⟩
 case round=>
  obtain⟨k,hk,rfl,hpl,hb⟩:=hrel
  have HPL:=zH hpl
  clear hpl
  by_cases hkl:k<l.length
  ·obtain⟨xa,xb,c1,c2,c3,hxa,hxb⟩:=(ha.below hb).at' k hkl
   obtain⟨c1a,c1l,c1k,rfl,_⟩:=hxa.slen.1
   obtain⟨c2a,c2l,c2k,rfl,_⟩:=hxb.slen.1
   have HBADx:Hid (¬zyq l[k]→¬zlr l n):=zH (fun h h'=>h (h'.1 _ (List.getElem_mem hkl)))
   have HNEXT:Hid (zyq l[k]→∀x∈l.take (k+1),zyq x):=zH (fun h x hx=>by
    rw[zxc l k hkl,List.mem_append,List.mem_singleton]at hx
    rcases hx with hx | rfl
    ·exact HPL.out x hx
    ·exact h)
   generalize l[k]'hkl=x at *
   have hA:zdc (wr.alloc (.cells #[.bool x.neg, .slice c1a c1l c1k, .slice c2a c2l c2k] 38)) (.agg #[.bool x.neg, .slice c1a c1l c1k, .slice c2a c2l c2k]) x.neg x.n x.d:=⟨_,_,rfl,hxa.below (zca _ _),hxb.below (zca _ _)⟩
   have hb1:=zaa hb (zca wr (.cells #[.bool x.neg, .slice c1a c1l c1k, .slice c2a c2l c2k] 38))
   clear hxa hxb
   by_cases hx:x.ok
   ·have HX:=zH hx
    clear hx
    by_cases h1:x.q<0
    ·have HBAD:=zH (HBADx.out (fun h=>h.2.1 h1))
     have hd1:decide (x.q<0)=true:=decide_eq_true h1
     clear h1
     go_wp2_with (go_at_call 89;(with_reducible refine(zok _ x _ hA HX.out).mono ?_);rintro e w7 ⟨v,rfl,hv,hb7⟩
                  obtain⟨xa2,xb2,rfl,hxa2,hxb2⟩:=hv
                  have z1:slen xa2=zda x.q.num.natAbs:=hxa2.v.len
                  have z2:slen xb2=zda x.q.den:=hxb2.v.len
                  obtain⟨y1,y2,y3,rfl,_⟩:=hxa2.v.sl
                  obtain⟨y4,y5,y6,rfl,_⟩:=hxb2.v.sl
                  have z3:y2=zda x.q.num.natAbs:=z1
                  have z4:y5=zda x.q.den:=z2
                  subst z3 z4
                  clear z1 z2
                  have hb8:=fun o=>zaa (zaa hb1 hb7) (zca w7 o))
     go_ret
     exact⟨by rw[decide_eq_false HBAD.out];rfl,hb8 _⟩
    ·have hd1:decide (x.q<0)=false:=decide_eq_false h1
     have H1:=zH h1
     clear h1
     by_cases h2:4<zda x.q.num.natAbs
     ·have HBAD:=zH (HBADx.out (fun h=>by have:=h.2.2.1;omega))
      go_wp2_with (go_at_call 89;(with_reducible refine(zok _ x _ hA HX.out).mono ?_);rintro e w7 ⟨v,rfl,hv,hb7⟩
                   obtain⟨xa2,xb2,rfl,hxa2,hxb2⟩:=hv
                   have z1:slen xa2=zda x.q.num.natAbs:=hxa2.v.len
                   have z2:slen xb2=zda x.q.den:=hxb2.v.len
                   obtain⟨y1,y2,y3,rfl,_⟩:=hxa2.v.sl
                   obtain⟨y4,y5,y6,rfl,_⟩:=hxb2.v.sl
                   have z3:y2=zda x.q.num.natAbs:=z1
                   have z4:y5=zda x.q.den:=z2
                   subst z3 z4
                   clear z1 z2
                   have hb8:=fun o=>zaa (zaa hb1 hb7) (zca w7 o))
      go_ret
      exact⟨by rw[decide_eq_false HBAD.out];rfl,hb8 _⟩
     ·by_cases h3:4<zda x.q.den
      ·have HBAD:=zH (HBADx.out (fun h=>by have:=h.2.2.2;omega))
       go_wp2_with (go_at_call 89;(with_reducible refine(zok _ x _ hA HX.out).mono ?_);rintro e w7 ⟨v,rfl,hv,hb7⟩
                    obtain⟨xa2,xb2,rfl,hxa2,hxb2⟩:=hv
                    have z1:slen xa2=zda x.q.num.natAbs:=hxa2.v.len
                    have z2:slen xb2=zda x.q.den:=hxb2.v.len
                    obtain⟨y1,y2,y3,rfl,_⟩:=hxa2.v.sl
                    obtain⟨y4,y5,y6,rfl,_⟩:=hxb2.v.sl
                    have z3:y2=zda x.q.num.natAbs:=z1
                    have z4:y5=zda x.q.den:=z2
                    subst z3 z4
                    clear z1 z2
                    have hb8:=fun o=>zaa (zaa hb1 hb7) (zca w7 o))
       go_ret
       exact⟨by rw[decide_eq_false HBAD.out];rfl,hb8 _⟩
      ·have HGOOD:=zH (HNEXT.out ⟨HX.out,H1.out,by omega,by omega⟩)
       go_wp2_with (go_at_call 89;(with_reducible refine(zok _ x _ hA HX.out).mono ?_);rintro e w7 ⟨v,rfl,hv,hb7⟩
                    obtain⟨xa2,xb2,rfl,hxa2,hxb2⟩:=hv
                    have z1:slen xa2=zda x.q.num.natAbs:=hxa2.v.len
                    have z2:slen xb2=zda x.q.den:=hxb2.v.len
                    obtain⟨y1,y2,y3,rfl,_⟩:=hxa2.v.sl
                    obtain⟨y4,y5,y6,rfl,_⟩:=hxb2.v.sl
                    have z3:y2=zda x.q.num.natAbs:=z1
                    have z4:y5=zda x.q.den:=z2
                    subst z3 z4
                    clear z1 z2
                    have hb8:=fun o=>zaa (zaa hb1 hb7) (zca w7 o))
       go_roundw
       case rel=>exact⟨k+1,hkl,by go_num,HGOOD.out,hb8 _⟩
       case measure=>simp[intOf];omega
   ·have HX:=zH hx
    have HBAD:=zH (HBADx.out (fun h=>hx h.1))
    clear hx
    go_wp2_with (go_at_call 89;(with_reducible refine(zef _ x.neg x.n x.d _ hA).mono ?_);rintro e w7 ⟨v,er,rfl,hb7,_,hv⟩
                 obtain⟨rfl,hvz⟩:=hv HX.out
                 have hvz2:v= .agg #[.bool false, .slice none 0 0, .slice none 0 0]:=hvz
                 clear hvz
                 subst hvz2
                 have hb8:=fun o=>zaa (zaa hb1 hb7) (zca w7 o))
    go_ret
    exact⟨by rw[decide_eq_false HBAD.out];rfl,hb8 _⟩
  ·obtain rfl:k=l.length:=by omega
   have hpl:=HPL.out
   rw[List.take_length]at hpl
   by_cases hln:l.length=n
   ·have hlb2:l.length≤65536:=by omega
    obtain⟨av,al,ak,rfl,_⟩:=ha.sl
    have e9:al=l.length:=la
    subst e9
    have HD:Hid (decide (zlr l n)=decide (((wts (qs l):Nat):Int)≤3800)):=zH (by
     by_cases h:wts (qs l)≤3800
     ·rw[decide_eq_true (show zlr l n from⟨hpl,hln,h⟩),decide_eq_true (by omega)]
     ·rw[decide_eq_false (fun h':zlr l n=>h h'.2.2),decide_eq_false (by omega)])
    have HOK:Hid (∀l'∈ [l],∀x∈l',x.ok):=zH (fun l' h x hx=>by simp at h;subst h;exact(hpl x hx).1)
    have HLL:Hid (∀l'∈ [l],l'.length≤65536):=zH (fun l' h=>by simp at h;subst h;exact hlb2)
    have HM:Hid (MatN (wr.alloc (.cells #[.slice av l.length ak] 25)) (.slice (some ⟨wr.heap.size,0,none⟩) 1 1) [l]):=zH ⟨⟨_,1,1,rfl,Nat.le_refl _,by simp[maxLen],fun e=>by cases e⟩,rfl,fun j hj=>by
     have hj0:j=0:=by simp at hj;omega
     subst hj0
     exact⟨_,by simp[ptr,base,Addr.add],(ha.below hb).below (zca _ _)⟩⟩
    have hb2:=zaa hb (zca wr (.cells #[.slice av l.length ak] 25))
    have hlnb:(((l.length:Nat):Int)==(n:Nat))=true:=by simp[hln]
    have HW1:=zH (zhr l)
    have HLEN:Hid ([l].length≤65536):=zH (by simp)
    clear hpl hln
    go_wp2_with (go_at_call 146;(with_reducible refine(zzq _ [l] _ HM.out HOK.out HLL.out HLEN.out).mono ?_);rintro e w3 ⟨rfl,hb3⟩;rw[HW1.out])
    go_ret
    exact⟨by rw[HD.out];rfl,zaa hb2 hb3⟩
   ·have HBAD:Hid (¬zlr l n):=zH (fun h=>hln h.2.1)
    have hlnb:(((l.length:Nat):Int)==(n:Nat))=false:=by simp;omega
    clear hln hpl
    go_wp2_with fail
    go_ret
    exact⟨by rw[decide_eq_false HBAD.out];rfl,hb⟩
def ztq (c:RC) (i:Nat) (r:List RF):Prop:=zlr r c.start.length∧(∀x,r[i]? =some x→x.q.num=0)∧(c.lost[i]? =some true→wts (qs r)=0)
def zzp (c:RC):Prop:=1≤c.start.length∧c.start.length≤128∧c.lost.length=c.start.length∧c.rates.length=c.start.length∧zlr c.start c.start.length∧
 (∀i r,c.rates[i]? =some r→ztq c i r)∧zgg (qs c.start)=1
theorem zlr.fits {l:List RF} {n:Nat} (h:zlr l n) (k:Nat):fits (zgg (qs (l.take k))):=by
 have h1:∀q∈qs l,0≤q:=fun q hq=>by
  obtain⟨x,hx,rfl⟩:=List.mem_map.1 hq
  exact Rat.not_lt.1 (h.1 x hx).2.1
 rw[←qs_take]
 exact lsum_fits (List.take_sublist k _) h1 h.2.2
theorem zlr.ok {l:List RF} {n:Nat} (h:zlr l n):∀x∈l,x.ok:=fun x hx=>(h.1 x hx).1
theorem cmp_can (va vb:Value) (p q:Rat) (w:World) (ha:zqa w va p) (hb:zqa w vb q) (hp:fits p) (hq:fits q):
 Calls Tryz.prog 130 #[va,vb] w fun en w'=>en= .returned (.tuple #[.int .i64 (zsr p q), .int .i64 0])∧Below w.heap.size w w':=by
 have h:=cmp_frac va vb _ _ _ _ _ _ w ha.raw hb.raw (zuc hp) (zuc hq)
 rw[zvb,zvb]at h
 exact h
set_option maxHeartbeats 1600000 in
theorem valid_false1 (va:Value) (c:RC) (w:World) (ha:zdq w va c) (h:c.start.length<1∨128<c.start.length∨c.lost.length≠c.start.length∨c.rates.length≠c.start.length∨¬zlr c.start c.start.length):
 Calls Tryz.prog 68 #[va] w fun e w'=>e= .returned (.bool false)∧Below w.heap.size w w':=by
 obtain⟨rv,sv,lv,rfl,hr,hs,hl⟩:=ha
 obtain⟨ra,rn,rk,rfl,r1,r2,r3⟩:=hr.sl
 obtain⟨sa,sn,sk,rfl,s1,s2,s3⟩:=hs.sl
 obtain⟨la,ln,lk,rfl,l1,l2,l3⟩:=zhc.sl hl
 have hrl:rn=c.rates.length:=hr.len
 have hsl:sn=c.start.length:=hs.len
 have hll:ln=c.lost.length:=hl.len
 subst hrl hsl hll
 unfold maxLen at r2 s2 l2
 have hbx:=zca w (.cells #[.slice ra c.rates.length rk, .slice sa c.start.length sk, .slice la c.lost.length lk] 28)
 have hs':=hs.below hbx
 generalize c.start.length=n at *
 generalize c.lost.length=nl at *
 generalize c.rates.length=nr at *
 by_cases h1:n<1
 ·go_enter Tryz.func68,Tryz.ntmps68
  go_wp2_with fail
  go_ret
  exact⟨rfl,hbx⟩
 ·by_cases h2:128<n
  ·go_enter Tryz.func68,Tryz.ntmps68
   go_wp2_with fail
   go_ret
   exact⟨rfl,hbx⟩
  ·by_cases h3:nl=n
   ·by_cases h4:nr=n
    ·have h5:¬zlr c.start n:=by
      rcases h with h | h | h | h | h
      ·omega
      ·omega
      ·omega
      ·omega
      ·exact h
     have H5:=zH h5
     subst h3 h4
     clear h h5
     go_enter Tryz.func68,Tryz.ntmps68
     go_wp2_with (go_at_call 144;(with_reducible refine(zks _ c.start nr _ hs' (by omega)).mono ?_);rintro e w1 ⟨rfl,hb1⟩;rw[decide_eq_false H5.out])
     go_ret
     exact⟨rfl,zaa hbx hb1⟩
    ·have h4b:(((nr:Nat):Int) != (n:Nat))=true:=by simp;omega
     subst h3
     clear h
     go_enter Tryz.func68,Tryz.ntmps68
     go_wp2_with fail
     go_ret
     exact⟨rfl,hbx⟩
   ·have h3b:(((nl:Nat):Int) != (n:Nat))=true:=by simp;omega
    clear h
    go_enter Tryz.func68,Tryz.ntmps68
    go_wp2_with fail
    go_ret
    exact⟨rfl,hbx⟩
@[go_sem] theorem slen_slice (a : Option Addr) (n c : Nat) : slen (.slice a n c) = n := rfl
theorem RF.num_zero {x:RF} (h:x.ok):x.q.num=0↔x.n=0:=by
 have e:x.q.num.natAbs=x.n/Nat.gcd x.n x.d:=zif _ _ _ h.1
 constructor
 ·intro h0
  have h1:x.n/Nat.gcd x.n x.d=0:=by rw[←e,h0];rfl
  rcases Nat.eq_zero_or_pos x.n with h2 | h2
  ·exact h2
  ·have:=Nat.div_pos (Nat.le_of_dvd h2 (Nat.gcd_dvd_left x.n x.d)) (Nat.gcd_pos_of_pos_left _ h2)
   omega
 ·intro h0
  rw[h0,Nat.zero_div]at e
  omega
theorem RF.above_pos {x:RF} (h:x.ok) (h0:¬x.q<0) (hn:x.q.num≠0):(!x.neg&& !decide (x.n=0))=true:=by
 have hn2:x.n≠0:=fun e=>hn ((RF.num_zero h).2 e)
 have e:decide (x.q<0)=(x.neg&&decide (0<x.n/Nat.gcd x.n x.d)):=zqu _ _ _ h.1
 have h1:0<x.n/Nat.gcd x.n x.d:=Nat.div_pos (Nat.le_of_dvd (Nat.pos_of_ne_zero hn2) (Nat.gcd_dvd_left _ _)) (Nat.gcd_pos_of_pos_left _ (Nat.pos_of_ne_zero hn2))
 rw[decide_eq_false h0,decide_eq_true h1,Bool.and_true]at e
 rw[←e,decide_eq_false hn2];rfl
theorem RF.above_zero {x:RF} (h:x.ok) (hn:x.q.num=0):(!x.neg&& !decide (x.n=0))=false:=by
 rw[decide_eq_true ((RF.num_zero h).1 hn)];simp
def zgr (w0:World) (c:RC) (e:Ending) (w:World):Prop:=(∃b,e= .returned (.bool b)∧(b=true↔zzp c))∧Below w0.heap.size w0 w
theorem zgr.no {w0 w:World} {c:RC} (h:¬zzp c) (hb:Below w0.heap.size w0 w):zgr w0 c (.returned (.bool false)) w:=⟨⟨false,rfl,by simp[h]⟩,hb⟩
theorem matN_one (w:World) (ea:Option Addr) (ek:Nat) (l:List RF) (h:zni w (.slice ea l.length ek) l):
 MatN (w.alloc (.cells #[.slice ea l.length ek] 25)) (.slice (some ⟨w.heap.size,0,none⟩) 1 1) [l]:=
 ⟨⟨_,1,1,rfl,Nat.le_refl _,by simp[maxLen],fun e=>by cases e⟩,rfl,fun j hj=>by
   have hj0:j=0:=by simp at hj;omega
   subst hj0
   exact⟨_,by simp[ptr,base,Addr.add],h.below (zca _ _)⟩⟩
set_option maxRecDepth 100000 in
set_option maxHeartbeats 3200000 in
theorem valid_rest (va:Value) (c:RC) (w:World) (ha:zdq w va c) (h1:1≤c.start.length) (h2:c.start.length≤128) (h3:c.lost.length=c.start.length) (h4:c.rates.length=c.start.length) (h5:zlr c.start c.start.length):
 Calls Tryz.prog 68 #[va] w (zgr w c):=by
 obtain⟨rv,sv,lv,rfl,hr,hs,hl⟩:=ha
 obtain⟨ra,rn,rk,rfl,r1,r2,r3⟩:=hr.sl
 obtain⟨sa,sn,sk,rfl,s1,s2,s3⟩:=hs.sl
 obtain⟨la,ln,lk,rfl,l1,l2,l3⟩:=zhc.sl hl
 have hrl:rn=c.start.length:=hr.len.trans h4
 have hsl:sn=c.start.length:=hs.len
 have hll:ln=c.start.length:=hl.len.trans h3
 subst hrl hsl hll
 clear r1 r2 r3 s1 s2 s3 l1 l2 l3
 have hbx:=zca w (.cells #[.slice ra c.start.length rk, .slice sa c.start.length sk, .slice la c.start.length lk] 28)
 have hs':=hs.below hbx
 have hr':=hr.below hbx
 have hl':=hl.below hbx
 have hc3:=C3.new w 28 (.slice ra c.start.length rk) (.slice sa c.start.length sk) (.slice la c.start.length lk)
 have H3:=zH h3
 have H4:=zH h4
 have H5:=zH h5
 have HVAL:Hid (zzp c↔(∀i r,c.rates[i]? =some r→ztq c i r)∧zgg (qs c.start)=1):=zH ⟨fun h=>⟨h.2.2.2.2.2.1,h.2.2.2.2.2.2⟩,fun h=>⟨h1,h2,h3,h4,h5,h.1,h.2⟩⟩
 clear h3 h4 h5 hs hr hl
 generalize hn:c.start.length=n at *
 have HSTP:Hid (∀i r,(zlr r n∧(∀x,r[i]? =some x→x.q.num=0)∧(c.lost[i]? =some true→wts (qs r)=0))↔ztq c i r):=zH (fun i r=>by unfold ztq;rw[hn])
 have HNE:=zH hn
 have HN6:Hid (n≤65536):=zH (by omega)
 clear hn
 go_enter Tryz.func68,Tryz.ntmps68
 go_wp2_with fail
 have hd1:decide ((n:Int)<1)=false:=decide_eq_false (by omega)
 have hd2:decide ((128:Int)<(n:Int))=false:=decide_eq_false (by omega)
 generalize hW:w.alloc (.cells #[.slice ra n rk, .slice sa n sk, .slice la n lk] 28)=W at *
 clear hW
 have HC3:=zH hc3
 obtain⟨_,b0,b1,b2,b3,b4,b5⟩:=hc3
 go_wp2_with (go_at_call 144;(with_reducible refine(zks _ c.start n _ hs' HN6.out).mono ?_);rintro e w1 ⟨rfl,hb1⟩;rw[decide_eq_true H5.out];obtain⟨_,f0,f1,f2,f3,f4,f5⟩:=HC3.out.belowS hb1)
 clear b0 b1 b2 b3 b4 b5 f0 f1 f2 f3 f4 f5 hd1 hd2
 have slR:=hr'.sl
 have slS:=hs'.sl
 have slL:zgc (.slice la n lk):=zhc.sl hl'
 go_loopw [43] (fun u43 wr=>∃ (k:Nat),k≤n∧u43= .int .i64 k∧(∀i r,i<k→c.rates[i]? =some r→ztq c i r)∧Below W.heap.size W wr) (fun u43 _=>n- (intOf u43).toNat)
 case atStart=>exact⟨0,Nat.zero_le _,rfl,fun i r h=>by omega,hb1⟩
 case round=>
  obtain⟨k,hk,rfl,hst,hb⟩:=hrel
  clear hb1
  have HST:=zH hst
  clear hst
  have HC:=zH (HC3.out.belowS hb)
  obtain⟨_,b0,b1,b2,b3,b4,b5⟩:=HC3.out.belowS hb
  by_cases hkn:k<n
  ·have hkr:k<c.rates.length:=by rw[H4.out];exact hkn
   have hkl:k<c.lost.length:=by rw[H3.out];exact hkn
   obtain⟨rv,hrc,hrw⟩:=(hr'.below hb).at' k hkr
   have hlc:=(hl'.below hb).at' k hkl
   have HRK:Hid (c.rates[k]? =some (c.rates[k]'hkr)):=zH (List.getElem?_eq_getElem hkr)
   have HLK:Hid (c.lost[k]? =some (c.lost[k]'hkl)):=zH (List.getElem?_eq_getElem hkl)
   generalize c.rates[k]'hkr=l at *
   generalize c.lost[k]'hkl=lo at *
   have HNO:Hid (¬ztq c k l→¬zzp c):=zH (fun h h'=>h ((HVAL.out.1 h').1 k l HRK.out))
   have HYES:Hid (ztq c k l→∀i r,i<k+1→c.rates[i]? =some r→ztq c i r):=zH (fun h i r hi hr=>by
    rcases Nat.lt_or_ge i k with h6 | h6
    ·exact HST.out i r h6 hr
    ·obtain rfl:i=k:=by omega
     rw[HRK.out]at hr
     injection hr with hr
     subst hr
     exact h)
   clear hkr hkl
   obtain⟨ea,en,ek,rfl,e1,e2,e3⟩:=hrw.sl
   have slW:=hrw.sl
   have hen:en=l.length:=hrw.len
   subst hen
   by_cases hrow:zlr l n
   ·have hll:l.length=n:=hrow.2.1
    have hkl:k<l.length:=by omega
    obtain⟨xa,xb,c1,c2,c3,hxa,hxb⟩:=hrw.at' k hkl
    obtain⟨c1a,c1l,c1k,rfl,_⟩:=hxa.slen.1
    obtain⟨c2a,c2l,c2k,rfl,_⟩:=hxb.slen.1
    have HXK:Hid (l[k]? =some (l[k]'hkl)):=zH (List.getElem?_eq_getElem hkl)
    have HXP:=zH (hrow.1 _ (List.getElem_mem hkl))
    have HROW:=zH hrow
    have HLL:=zH hll
    generalize l[k]'hkl=x at *
    have hxN:zdc wr (.agg #[.bool x.neg, .slice c1a c1l c1k, .slice c2a c2l c2k]) x.neg x.n x.d:=⟨_,_,rfl,hxa,hxb⟩
    clear hrow hll hxa hxb
    by_cases hz:x.q.num=0
    ·have HAB:=zH (RF.above_zero HXP.out.1 hz)
     have HXZ:Hid (∀y,l[k]? =some y→y.q.num=0):=zH (fun y hy=>by rw[HXK.out]at hy;injection hy with hy;rw[←hy];exact hz)
     clear hz
     rcases lo with _ | _
     ·have HOK:=zH (HYES.out ((HSTP.out k l).1 ⟨HROW.out,HXZ.out,fun h=>by rw[HLK.out]at h;injection h with h;cases h⟩))
      go_wp2_with (first
       |(go_at_call 144;(with_reducible refine(zks _ l n _ hrw HN6.out).mono ?_);rintro e w1 ⟨rfl,hb1⟩;rw[decide_eq_true HROW.out]
         have d1:=zba hb1 c1
         have d2:=zba hb1 c2
         have d3:=zba hb1 c3
         )
       |(go_at_call 145;(with_reducible refine(zer _ x.neg x.n x.d _ (hxN.below hb1)).mono ?_);rintro e w2 ⟨rfl,hb2⟩;rw[HAB.out]
         obtain⟨_,f0,f1,f2,f3,f4,f5⟩:=(HC.out.belowS hb1).belowS hb2
         have hlc2:=zba (zaa hb1 hb2) hlc
         ))
      go_roundw
      case rel=>exact⟨k+1,hkn,by go_num,HOK.out,zaa (zaa hb hb1) hb2⟩
      case measure=>simp[intOf];omega
     ·have HWT:Hid (wts (qs l)=0→∀i r,i<k+1→c.rates[i]? =some r→ztq c i r):=zH (fun h=>HYES.out ((HSTP.out k l).1 ⟨HROW.out,HXZ.out,fun _=>h⟩))
      have HWF:Hid (0<wts (qs l)→¬zzp c):=zH (fun h=>HNO.out (fun h'=>by have:=((HSTP.out k l).2 h').2.2 HLK.out;omega))
      have HOKS:Hid (∀l'∈ [l],∀x∈l',x.ok):=zH (fun l' h x hx=>by simp at h;subst h;exact(HROW.out.1 x hx).1)
      have HLLS:Hid (∀l'∈ [l],l'.length≤65536):=zH (fun l' h=>by simp at h;subst h;have:=HLL.out;omega)
      have HLEN:Hid ([l].length≤65536):=zH (by simp)
      have HW1:=zH (zhr l)
      go_wp2_with (first
       |(go_at_call 144;(with_reducible refine(zks _ l n _ hrw HN6.out).mono ?_);rintro e w1 ⟨rfl,hb1⟩;rw[decide_eq_true HROW.out]
         have d1:=zba hb1 c1
         have d2:=zba hb1 c2
         have d3:=zba hb1 c3
         )
       |(go_at_call 145;(with_reducible refine(zer _ x.neg x.n x.d _ (hxN.below hb1)).mono ?_);rintro e w2 ⟨rfl,hb2⟩;rw[HAB.out]
         obtain⟨_,f0,f1,f2,f3,f4,f5⟩:=(HC.out.belowS hb1).belowS hb2
         have hlc2:=zba (zaa hb1 hb2) hlc
         have hb4:=zaa (zaa hb1 hb2) (zca w2 (.cells #[.slice ea l.length ek] 25))
         have HM:=zH (matN_one w2 ea ek l (hrw.below (zaa hb1 hb2)))
         )
       |(go_at_call 146;(with_reducible refine(zzq _ [l] _ HM.out HOKS.out HLLS.out HLEN.out).mono ?_);rintro e w3 ⟨rfl,hb3⟩;rw[HW1.out]))
      ·go_ret
       exact zgr.no (HWF.out (by assumption)) (hbx.trans ((zaa (zaa hb hb4) hb3).mono hbx.size))
      ·go_roundw
       case rel=>exact⟨k+1,hkn,by go_num,HWT.out (by omega),zaa (zaa hb hb4) hb3⟩
       case measure=>simp[intOf];omega
    ·have HB:=zH (HNO.out (fun h=>hz (h.2.1 x HXK.out)))
     have HAB:=zH (RF.above_pos HXP.out.1 HXP.out.2.1 hz)
     clear hz
     go_wp2_with (first
      |(go_at_call 144;(with_reducible refine(zks _ l n _ hrw HN6.out).mono ?_);rintro e w1 ⟨rfl,hb1⟩;rw[decide_eq_true HROW.out]
        have d1:=zba hb1 c1
        have d2:=zba hb1 c2
        have d3:=zba hb1 c3)
      |(go_at_call 145;(with_reducible refine(zer _ x.neg x.n x.d _ (hxN.below hb1)).mono ?_);rintro e w2 ⟨rfl,hb2⟩;rw[HAB.out]))
     go_ret
     exact zgr.no HB.out (hbx.trans ((zaa (zaa hb hb1) hb2).mono hbx.size))
   ·have HB:=zH (HNO.out (fun h=>hrow ((HSTP.out k l).2 h).1))
    have HR:=zH hrow
    clear hrow
    go_wp2_with (go_at_call 144;(with_reducible refine(zks _ l n _ hrw HN6.out).mono ?_);rintro e w1 ⟨rfl,hb1⟩;rw[decide_eq_false HR.out])
    go_ret
    exact zgr.no HB.out (hbx.trans ((zaa hb hb1).mono hbx.size))
  ·obtain rfl:k=n:=by omega
   have HALL:Hid (∀i r,c.rates[i]? =some r→ztq c i r):=zH (fun i r h=>HST.out i r (by
    obtain⟨h6,_⟩:=List.getElem?_eq_some_iff.1 h
    have:=H4.out;omega) h)
   have HOKS:Hid (∀x∈c.start,x.ok):=zH H5.out.ok
   have HFIT:Hid (∀j,j≤c.start.length→fits (zgg (qs (c.start.take j)))):=zH (fun j _=>H5.out.fits j)
   have HFS:Hid (fits (zgg (qs c.start))):=zH (by have h6:=H5.out.fits c.start.length;rw[List.take_length]at h6;exact h6)
   go_wp2_with (go_at_call 137;(with_reducible refine(sum_frac _ c.start _ (hs'.below hb) HOKS.out HFIT.out).mono ?_);rintro e w1 ⟨v,rfl,hv,hb1⟩
                obtain⟨t9,x9,y9,rfl,⟨a1,l91,k1,rfl,_⟩,⟨a2,l92,k2,rfl,_⟩⟩:=hv.isF)
   have hv6:=hv.below (zca w1 (.cells #[.bool t9, .slice a1 l91 k1, .slice a2 l92 k2] 38))
   have hc6:=C3.new w1 38 (.bool t9) (.slice a1 l91 k1) (.slice a2 l92 k2)
   have hb6:=zaa (zaa hb hb1) (zca w1 (.cells #[.bool t9, .slice a1 l91 k1, .slice a2 l92 k2] 38))
   generalize w1.alloc (.cells #[.bool t9, .slice a1 l91 k1, .slice a2 l92 k2] 38)=W6 at *
   have hdr:=zja (B:=W6.heap.size) W6
   have hv7:=hv6.below hdr
   have HC7:=zH (hc6.belowS hdr)
   have hb7:=zaa hb6 hdr
   clear hv hv6 hb1 hb6 hb b0 b1 b2 b3 b4 b5 hs' hr' hl'
   obtain⟨_,q1,q2,q3,q4,q5,q6⟩:=hc6.belowS hdr
   clear hc6
   generalize w1.heap.size=B6 at *
   have HF1:=zH zdt
   go_region_held3 (fun w'=>w'.cell? ⟨B6,0,none⟩=some (.bool t9)∧w'.cell? ⟨B6,1,none⟩=some (.slice a1 l91 k1)∧w'.cell? ⟨B6,2,none⟩=some (.slice a2 l92 k2)) (exact⟨q1,q2,q3⟩) (first
    |(go_at_call 109;(with_reducible refine(zqs _).mono ?_);rintro e8 w8 ⟨v1,rfl,hv1,hb8⟩
      obtain⟨_,q1,q2,q3,q4,q5,q6⟩:=HC7.out.belowS hb8
      have HC8:=zH (HC7.out.belowS hb8)
      have hv8:=hv7.below hb8)
    |(go_at_call 130;(with_reducible refine(cmp_can _ v1 _ _ _ hv8 hv1 HFS.out HF1.out).mono ?_);rintro e9 w9 ⟨rfl,hb9⟩
      obtain⟨_,q1,q2,q3,q4,q5,q6⟩:=HC8.out.belowS hb9))
   go_wp2
   go_ret
   refine⟨⟨_,rfl,?_⟩,hbx.trans ((zaa (zaa hb7 hb8) hb9).mono hbx.size)⟩
   rw[HVAL.out]
   have h9:=zji (zgg (qs c.start)) 1
   exact⟨fun h=>⟨HALL.out,h9.1 (by simpa using h)⟩,fun h=>by simpa using h9.2 h.2⟩
theorem zar (va:Value) (c:RC) (w:World) (ha:zdq w va c):Calls Tryz.prog 68 #[va] w (zgr w c):=by
 by_cases h:c.start.length<1∨128<c.start.length∨c.lost.length≠c.start.length∨c.rates.length≠c.start.length∨¬zlr c.start c.start.length
 ·refine(valid_false1 va c w ha h).mono fun e w' ⟨h1,h2⟩=> ?_
  rw[h1]
  refine zgr.no (fun hv=> ?_) h2
  obtain⟨v1,v2,v3,v4,v5,_⟩:=hv
  rcases h with h | h | h | h | h
  ·omega
  ·omega
  ·exact h v3
  ·exact h v4
  ·exact h v5
 ·exact valid_rest va c w ha (Nat.le_of_not_lt fun h1=>h (Or.inl h1)) (Nat.le_of_not_lt fun h1=>h (Or.inr (Or.inl h1))) (Decidable.of_not_not fun h1=>h (Or.inr (Or.inr (Or.inl h1)))) (Decidable.of_not_not fun h1=>h (Or.inr (Or.inr (Or.inr (Or.inl h1))))) (Decidable.of_not_not fun h1=>h (Or.inr (Or.inr (Or.inr (Or.inr h1)))))
theorem zpu {w0 X Y:World} {a1 a2 a3 a4 a5 a6:Addr} {x1 x2 x3 x4 x5 x6:Value} (h:X.cell? a1=some x1∧X.cell? a2=some x2∧X.cell? a3=some x3∧X.cell? a4=some x4∧X.cell? a5=some x5∧X.cell? a6=some x6∧Below w0.heap.size w0 X) (hb:Below X.heap.size X Y):
 Y.cell? a1=some x1∧Y.cell? a2=some x2∧Y.cell? a3=some x3∧Y.cell? a4=some x4∧Y.cell? a5=some x5∧Y.cell? a6=some x6∧Below w0.heap.size w0 Y:=by
 obtain⟨k1,k2,k3,k4,k5,k6,k7⟩:=h
 exact⟨zba hb k1,zba hb k2,zba hb k3,zba hb k4,zba hb k5,zba hb k6,zaa k7 hb⟩
theorem zvt {w0 X:World} {a1 a2 a3 a4 a5 a6:Addr} {x1 x2 x3 x4 x5 x6:Value} (h:w0.cell? a1=some x1∧w0.cell? a2=some x2∧w0.cell? a3=some x3∧w0.cell? a4=some x4∧w0.cell? a5=some x5∧w0.cell? a6=some x6) (hb:Below w0.heap.size w0 X):
 X.cell? a1=some x1∧X.cell? a2=some x2∧X.cell? a3=some x3∧X.cell? a4=some x4∧X.cell? a5=some x5∧X.cell? a6=some x6∧Below w0.heap.size w0 X:=by
 obtain⟨k1,k2,k3,k4,k5,k6⟩:=h
 exact⟨zba hb k1,zba hb k2,zba hb k3,zba hb k4,zba hb k5,zba hb k6,hb⟩
theorem zgi {w0 X:World} {a1 a2 a3 a4 a5 a6:Addr} {x1 x2 x3 x4 x5 x6:Value} (h:X.cell? a1=some x1∧X.cell? a2=some x2∧X.cell? a3=some x3∧X.cell? a4=some x4∧X.cell? a5=some x5∧X.cell? a6=some x6∧Below w0.heap.size w0 X):Below w0.heap.size w0 X:=h.2.2.2.2.2.2
theorem zut {w0 X:World} {a1 a2 a3 a4 a5 a6:Addr} {x1 x2 x3 x4 x5 x6:Value} (h:w0.cell? a1=some x1∧w0.cell? a2=some x2∧w0.cell? a3=some x3∧w0.cell? a4=some x4∧w0.cell? a5=some x5∧w0.cell? a6=some x6) (hb:Below w0.heap.size w0 X) {b:Nat} (hB:w0.heap.size≤b) (x y z:Value):
 (((X.setCell ⟨b,0,none⟩ x).setCell ⟨b,1,none⟩ y).setCell ⟨b,2,none⟩ z).cell? a1=some x1∧(((X.setCell ⟨b,0,none⟩ x).setCell ⟨b,1,none⟩ y).setCell ⟨b,2,none⟩ z).cell? a2=some x2∧(((X.setCell ⟨b,0,none⟩ x).setCell ⟨b,1,none⟩ y).setCell ⟨b,2,none⟩ z).cell? a3=some x3∧
 (((X.setCell ⟨b,0,none⟩ x).setCell ⟨b,1,none⟩ y).setCell ⟨b,2,none⟩ z).cell? a4=some x4∧(((X.setCell ⟨b,0,none⟩ x).setCell ⟨b,1,none⟩ y).setCell ⟨b,2,none⟩ z).cell? a5=some x5∧(((X.setCell ⟨b,0,none⟩ x).setCell ⟨b,1,none⟩ y).setCell ⟨b,2,none⟩ z).cell? a6=some x6∧Below w0.heap.size w0 (((X.setCell ⟨b,0,none⟩ x).setCell ⟨b,1,none⟩ y).setCell ⟨b,2,none⟩ z):=
 zvt h (zga hb hB x y z)
theorem zqa.same {w:World} {va vb:Value} {p q:Rat} (ha:zqa w va p) (hb:zqa w vb q) (hp:fits p) (hq:fits q):
 Calls Tryz.prog 33 #[va,vb] w fun en w'=>en= .returned (.bool (decide (p=q)))∧Below w.heap.size w w':=by
 have:=r2same_any va vb _ _ _ _ _ _ w ha.raw hb.raw (zuc hp) (zuc hq)
 rwa[zvb,zvb]at this
theorem r2add_acc (va vb:Value) (p r:Rat) (x:RF) (w:World) (ha:zqa w va p) (hb:zdc w vb x.neg x.n x.d) (hp:fits p) (hx:okN x.n x.d) (hr:p+x.q=r) (hf:fits r):
 Calls Tryz.prog 19 #[va,vb] w (RF0 w r):=by
 refine(r2add_any va vb _ _ _ _ _ _ w ha.raw hb (zuc hp) hx).mono ?_
 rw[zvb,show p+fq x.neg x.n x.d=r from hr]
 rintro e w' ⟨v,er,rfl,h1,h2,_⟩
 obtain⟨rfl,h3⟩:=h2 hf
 exact⟨v,rfl,h3,h1⟩
set_option maxRecDepth 100000 in
set_option maxHeartbeats 3200000 in
theorem r2sum_fit (va:Value) (l:List RF) (w:World) (ha:zni w va l) (hok:∀x∈l,x.ok) (hfit:∀k,k≤l.length→fits (zgg (qs (l.take k)))):
 Calls Tryz.prog 148 #[va] w (RF0 w (zgg (qs l))):=by
 have sa:=ha.sl
 have la:=ha.len
 have hle:=sa.le
 rw[la]at hle
 have hlb:l.length≤9223372036854775807:=by omega
 have HOK:=zH hok
 have HFIT:=zH hfit
 clear hok hfit hle
 have hb0:=(zca w (.cells #[.bool false, .slice none 0 0, .slice none 0 0] 38))
 have HR0:=zH (C3.new w 38 (.bool false) (.slice none 0 0) (.slice none 0 0))
 go_enter Tryz.func148,Tryz.ntmps148
 go_wp2_with (go_at_call 20;(with_reducible refine(zwi _).mono ?_);rintro e1 w1 ⟨v1,rfl,hv1,hb1⟩
              obtain⟨t9,x9,y9,rfl,⟨a1,l91,k1,rfl,_⟩,⟨a2,l92,k2,rfl,_⟩⟩:=hv1.isF
              have hT:=C3.new w1 38 (.bool t9) (.slice a1 l91 k1) (.slice a2 l92 k2)
              have hb3:=zca w1 (.cells #[.bool t9, .slice a1 l91 k1, .slice a2 l92 k2] 38)
              have HV:=zH (hv1.below hb3)
              have HB:=zH (zaa (zaa hb0 hb1) hb3)
              have HR3:=zH ((HR0.out.belowS hb1).belowS hb3)
              have hS:w.heap.size<w1.heap.size:=(HR0.out.belowS hb1).lt)
 generalize w1.alloc (.cells #[.bool t9, .slice a1 l91 k1, .slice a2 l92 k2] 38)=W1 at *
 generalize w1.heap.size=S at *
 clear hb0 hb1 hb3 hv1
 go_loopg [5] (l.length) (fun g u5 wr=>∃ (k:Nat) (v0 v1 v2:Value),k≤l.length∧g=l.length-k∧u5= .int .i64 k∧C3 wr S v0 v1 v2∧zqa wr (.agg #[v0,v1,v2]) (zgg (qs (l.take k)))∧C3 wr w.heap.size (.bool false) (.slice none 0 0) (.slice none 0 0)∧Below w.heap.size w wr)
 case atStart=>exact⟨0,_,_,_,Nat.zero_le _,rfl,rfl,hT,HV.out,HR3.out,HB.out⟩
 case round=>
  obtain⟨k,v0,v1,v2,hk,hg,rfl,hs,hf,hr,hbr⟩:=hrel
  obtain⟨s0,b1,m1,j1,b2,m2,j2,rfl,rfl,rfl⟩:=C3.frac hf
  obtain⟨w2,hw2⟩:∃w2,w2=wr:=⟨_,rfl⟩
  subst hw2
  have HS:=zH hs
  have HR:=zH hr
  have HF:=zH hf
  have HBR:=zH hbr
  clear hT HV HR3 HB hf
  obtain⟨_,s1,s2,s3,s4,s5,s6⟩:=hs
  obtain⟨_,q1,q2,q3,q4,q5,q6⟩:=hr
  by_cases hkl:k<l.length
  ·obtain⟨xa,xb,c1,c2,c3,hxa,hxb⟩:=(ha.below hbr).at' k hkl
   obtain⟨c1a,c1l,c1k,rfl,_⟩:=hxa.slen.1
   obtain⟨c2a,c2l,c2k,rfl,_⟩:=hxb.slen.1
   have HO:Hid (okN l[k].n l[k].d):=zH (HOK.out l[k] (List.getElem_mem hkl))
   have HQ:=zH (HFIT.out k hk)
   have HE:Hid (zgg (qs (l.take k))+(l[k]'hkl).q=zgg (qs (l.take (k+1)))):=zH (lsum_qs l k hkl).symm
   have HF1:=zH (HFIT.out (k+1) hkl)
   generalize l[k]'hkl=x at *
   have HA:Hid (zdc w2 (.agg #[.bool x.neg, .slice c1a c1l c1k, .slice c2a c2l c2k]) x.neg x.n x.d):=zH ⟨_,_,rfl,hxa,hxb⟩
   have S0:=zH (And.intro s1 (And.intro s2 (And.intro s3 (And.intro c1 (And.intro c2 c3)))))
   have i1:(0:Int)≤(k:Int):=by omega
   have i2:(k:Int)<(l.length:Nat):=by omega
   clear hxa hxb s1 s2 s3 s4 s5 s6 q1 q2 q3 q4 q5 q6 c1 c2 c3 hbr
   go_wp2_with fail
   go_cut [6,7] (fun u6 u7 wy=>∃ (b6:Nat) (t':Bool) (x' y':Value),u6= .pointer (some ⟨b6,0,none⟩)∧u7= .int .i64 0∧C3 wy b6 (.bool t') x' y'∧zqa wy (.agg #[.bool t',x',y']) (zgg (qs (l.take (k+1))))∧Below w2.heap.size w2 wy)
   case first =>
    go_region_held3 (fun w'=>w'.cell? ⟨S,0,none⟩=some (.bool s0)∧w'.cell? ⟨S,1,none⟩=some (.slice b1 m1 j1)∧w'.cell? ⟨S,2,none⟩=some (.slice b2 m2 j2)∧w'.cell? (ptr va (k*3))=some (.bool x.neg)∧w'.cell? (ptr va (k*3+1))=some (.slice c1a c1l c1k)∧w'.cell? (ptr va (k*3+2))=some (.slice c2a c2l c2k)∧Below w2.heap.size w2 w') (first
     | with_reducible exact zvt S0.out (zja _)
     | with_reducible exact zpu (by assumption) (zca _ _)
     | with_reducible exact zpu (by assumption) (by assumption)
     | with_reducible exact zvt S0.out (zaa hB31 (zca _ _))
     | with_reducible exact zut S0.out hB31 (Nat.le_refl _) _ _ _) (first
     |(go_at_call 19;(with_reducible refine(r2add_acc _ _ (zgg (qs (l.take k))) (zgg (qs (l.take (k+1)))) x _ (HF.out.below (zgi (by assumption))) (HA.out.below (zgi (by assumption))) HQ.out HO.out HE.out HF1.out).mono ?_);rintro e31 w31 ⟨v31,rfl,hv31,hb31⟩
       obtain⟨t31,x31,y31,rfl,⟨a311,l311,k311,rfl,_⟩,⟨a312,l312,k312,rfl,_⟩⟩:=hv31.isF
       have hB31:=zaa (zgi (by assumption)) hb31
       have hc5:=(fun(p:Addr) hp=>hb31.cell (p:=p) hp)
       have hf5:=(fun(p:Addr) hp=>hb31.frozen (p:=p) hp)
       have zq:=hb31.size
       (try simp only[zfk,zvo]at zq)
       (try have z1:w2.heap.size<w31.heap.size:=(by omega))))
    all_goals
     have hE:=zgi (by assumption)
     go_wp2_with fail
     go_meet
     case rel=>
      first
       | exact⟨_,_,_,_,rfl,rfl,C3.new w31 _ _ _ _,hv31.below (zca _ _),hE⟩
       | exact⟨_,_,_,_,rfl,rfl,(((C3.newB (b:=w2.heap.size) w2 38 (.bool false) (.slice none 0 0) (.slice none 0 0) rfl).belowS (zja _)).belowS hb31).set _ _ _,hv31.set3 (((C3.newB (b:=w2.heap.size) w2 38 (.bool false) (.slice none 0 0) (.slice none 0 0) rfl).belowS (zja _)).belowS hb31) (fun z=>by simp) (fun z=>by simp) _ _ _,hE⟩
   case rest=>
    obtain⟨b6,t6,x6,y6,rfl,rfl,hC6,hv6,hb6⟩:=hcut
    obtain⟨w3,hw3⟩:∃w3,w3=wc:=⟨_,rfl⟩
    subst hw3
    have hv6':=hv6
    obtain⟨_,_,_,hF6,⟨a61,l61,k61,rfl,_⟩,⟨a62,l62,k62,rfl,_⟩⟩:=hv6'.isF
    injection hF6 with hF6
    injection hF6 with hF6
    simp only[List.cons.injEq,and_true,Value.bool.injEq]at hF6
    obtain⟨rfl,rfl,rfl⟩:=hF6
    have HS3:=zH (HS.out.belowS hb6)
    have HR3:=zH (HR.out.belowS hb6)
    have HB3:=zH (zaa HBR.out hb6)
    obtain⟨_,e1,e2,e3,_,_,_⟩:=id hC6
    obtain⟨_,s1,s2,s3,s4,s5,s6⟩:=HS3.out
    go_wp2_with fail
    go_roundg (l.length- (k+1))
    case measure=>omega
    case rel=>exact⟨k+1,_,_,_,hkl,rfl,by go_num,HS3.out.set _ _ _,hv6.set3 HS3.out (fun z=>by simp) (fun z=>by simp) _ _ _,HR3.out.set_other (by omega) _ _ _,zga HB3.out (by omega) _ _ _⟩
  ·obtain rfl:k=l.length:=by omega
   have HF2:Hid (zqa w2 (.agg #[.bool s0, .slice b1 m1 j1, .slice b2 m2 j2]) (zgg (qs l))):=zH (by have h5:=HF.out;rw[List.take_length]at h5;exact h5)
   clear HF
   go_wp2
   refine zoa rfl rfl Tryz.aggF Tryz.sizeF (HR.out.set _ _ _) rfl ?_
   exact⟨_,rfl,HF2.out.set3 HR.out (fun z=>by simp) (fun z=>by simp) _ _ _,zga hbr (Nat.le_refl _) _ _ _⟩
def RSame (w0:World) (p:Prop) (e:Ending) (w:World):Prop:=(∃b,e= .returned (.bool b)∧(b=true↔p))∧Below w0.heap.size w0 w
theorem ztt {α:Type _} {a b:List α} (hl:a.length=b.length) (h:∀ (j:Nat) (h1:j<a.length) (h2:j<b.length),a[j]=b[j]):a=b:=List.ext_getElem hl h
theorem zfc.at' {w:World} {v:Value} {l:List Nat} (h:zfc w v l) (j:Nat) (hj:j<l.length):w.cell? (ptr v j)=some (.int .u32 (l[j]:Nat)):=h.cell j hj
set_option maxHeartbeats 1600000 in
theorem zrh (va vb:Value) (a b:List Nat) (w:World) (ha:zfc w va a) (hb:zfc w vb b):
 Calls Tryz.prog 140 #[va,vb] w (RSame w (a=b)):=by
 have sa:=ha.sl
 have la:=ha.len
 have sb:=hb.sl
 have lb:=hb.len
 have hle:=sa.le
 have hle2:=sb.le
 rw[la]at hle
 rw[lb]at hle2
 have hlb:a.length≤9223372036854775807:=by omega
 have hlb2:b.length≤9223372036854775807:=by omega
 clear hle hle2
 have hw:w.heap.size≤w.heap.size:=Nat.le_refl _
 by_cases hlen:a.length=b.length
 ·skip
  have hL:=zH hlen
  rw[←hlen]at lb
  clear hlen
  go_enter Tryz.func140,Tryz.ntmps140
  go_wp2_with fail
  go_loopw [5] (fun u5 wr=>∃ (k:Nat),k≤a.length∧u5= .int .i64 k∧(∀ (j:Nat) (h1:j<a.length) (h2:j<b.length),j<k→a[j]=b[j])∧Below w.heap.size w wr) (fun u5 _=>a.length- (intOf u5).toNat)
  case atStart=>exact⟨0,Nat.zero_le _,rfl,fun j _ _ h=>by omega,Below.refl _ _⟩
  case round=>
   obtain⟨k,hk,rfl,hst,hbr⟩:=hrel
   have HST:=zH hst
   clear hst
   by_cases hkl:k<a.length
   ·have hkb:k<b.length:=by rw[←hL.out];exact hkl
    have hc:=(ha.below hbr).at' k hkl
    have hd:=(hb.below hbr).at' k hkb
    have HX:Hid (∀ (h1:k<a.length) (h2:k<b.length),a[k]=b[k]↔a[k]'hkl=b[k]'hkb):=zH (fun _ _=>Iff.rfl)
    have i1:(0:Int)≤(k:Int):=by omega
    have i2:(k:Int)<(a.length:Nat):=by omega
    generalize ha':a[k]'hkl=x at *
    generalize hb':b[k]'hkb=y at *
    have HA:=zH ha'
    have HB:=zH hb'
    clear ha' hb'
    by_cases hxy:x=y
    ·subst hxy
     have HST2:Hid (∀ (j:Nat) (h1:j<a.length) (h2:j<b.length),j<k+1→a[j]=b[j]):=zH (fun j h1 h2 h3=>by
      rcases Nat.lt_or_ge j k with h4 | h4
      ·exact HST.out j h1 h2 h4
      ·obtain rfl:j=k:=by omega
       rw[HA.out,HB.out])
     go_wp2_with fail
     go_quiet (fail)
     have hbd:=zaa hbr (zka (B:=wr.heap.size) wr nq)
     go_wp2_with fail
     go_roundw
     case rel=>exact⟨k+1,by omega,by go_num,HST2.out,hbd⟩
     case measure=>simp[intOf];omega
    ·skip
     have hxy2:((x:Int)==(y:Int))=false:=by first | (simp;omega) | simpa using hxy
     go_wp2_with fail
     go_quiet (fail)
     have hbd:=zaa hbr (zka (B:=wr.heap.size) wr nq)
     go_wp2_with fail
     go_ret
     exact⟨⟨false,rfl,by simp;intro h;subst h;exact hxy (HA.out.symm.trans HB.out)⟩,hbd⟩
   ·go_wp2_with fail
    go_ret
    refine⟨⟨true,rfl,by simp;exact ztt hL.out (fun j h1 h2=>HST.out j h1 h2 (by omega))⟩,hbr⟩
 ·have hne:((a.length:Int)==(b.length:Int))=false:=by simp;omega
  go_enter Tryz.func140,Tryz.ntmps140
  go_wp2_with fail
  go_ret
  exact⟨⟨false,rfl,by simp;intro h;exact hlen (by rw[h])⟩,Below.refl _ _⟩
end Go.Proofs.YtlpdkbmmbdfoiaaGreat
