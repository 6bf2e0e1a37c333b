/-
  package linear: square, Det, Rank, of matrices in canonical form that elimination keeps small.
-/
import Derived.Test.YtlpdkbmmbdfoiaaGreatHWt
import Derived.Test.YtlpdkbmmbdfoiaaGreatHLi8
import Derived.Test.YtlpdkbmmbdfoiaaGreatHSz2
set_option linter.unusedVariables false
set_option linter.unusedSimpArgs false
namespace Go.Proofs.YtlpdkbmmbdfoiaaGreat
set_option maxHeartbeats 3200000
open Go.RowKit
set_option maxRecDepth 100000 in
theorem zfl (va:Value) (m:List (List RF)) (w:World) (ha:MatN w va m) (hok:∀l∈m,∀x∈l,x.ok) (hl:∀l∈m,l.length≤65536) (hm:m.length≤65536):
 Calls Tryz.prog 168 #[va] w fun e w'=>e= .returned (.int .i64 (zxr m))∧Below w.heap.size w w':=by
 have sa:=ha.sl
 have la:=ha.len
 have HOK:=zH hok
 have HL:=zH hl
 clear hok hl
 go_enter Tryz.func168,Tryz.ntmps168
 go_wp2_with fail
 go_loopw [3,13] (fun u3 u13 wr=>∃ (k:Nat),k≤m.length∧u13= .int .i64 k∧u3= .int .i64 (zxr (m.take k))∧Below w.heap.size w wr) (fun _ u13 _=>m.length- (intOf u13).toNat)
 case atStart=>exact⟨0,Nat.zero_le _,rfl,rfl,Below.refl _ _⟩
 case round=>
  obtain⟨k,hk,rfl,rfl,hb⟩:=hrel
  by_cases hkm:k<m.length
  ·obtain⟨rv,hrc,hrv⟩:=(ha.below hb).at' k hkm
   have hW:zxr (m.take k)≤536870912*65536:=by
    have h1:=zit (m.take k) (fun l h=>HOK.out l (List.mem_of_mem_take h)) (fun l h=>HL.out l (List.mem_of_mem_take h))
    rw[List.length_take]at h1;omega
   have hlk:=HL.out m[k] (List.getElem_mem hkm)
   have HOKL:=zH (HOK.out m[k] (List.getElem_mem hkm))
   have HTM:=zH (zht m k hkm)
   generalize m[k]'hkm=l at *
   generalize zxr (m.take k)=W0 at *
   have srv:=hrv.sl
   have lrv:=hrv.len
   obtain⟨wo,rfl⟩:∃wo:World,wo=wr:=⟨_,rfl⟩
   go_wp2_with fail
   go_loopw [3,19] (fun u3 u19 wi=>∃ (j:Nat),j≤l.length∧u19= .int .i64 j∧u3= .int .i64 ((W0+wts (qs (l.take j)):Nat):Int)∧Below wo.heap.size wo wi) (fun _ u19 _=>l.length- (intOf u19).toNat)
   case atStart=>exact⟨0,Nat.zero_le _,rfl,by simp[qs,wts],Below.refl _ _⟩
   case round=>
    obtain⟨j,hj,rfl,rfl,hbi⟩:=hrel
    by_cases hjl:j<l.length
    ·obtain⟨xa,xb,c1,c2,c3,hxa,hxb⟩:=(hrv.below hbi).at' j hjl
     obtain⟨c1a,c1l,c1k,rfl,_⟩:=hxa.slen.1
     obtain⟨c2a,c2l,c2k,rfl,_⟩:=hxb.slen.1
     have HX:=zH (HOKL.out l[j] (List.getElem_mem hjl))
     have HTS:=zH (wts_qs l j hjl)
     have hWj:wts (qs (l.take j))≤8192*65536:=by
      have h1:=zgt (l.take j) (fun x h=>HOKL.out x (List.mem_of_mem_take h))
      rw[List.length_take]at h1;omega
     generalize l[j]'hjl=x at *
     generalize wts (qs (l.take j))=W1 at *
     have hA:zdc (wr.alloc (.cells #[.bool x.neg, .slice c1a c1l c1k, .slice c2a c2l c2k] 38)) (.agg #[.bool x.neg, .slice c1a c1l c1k, .slice c2a c2l c2k]) x.neg x.n x.d:=⟨_,_,rfl,hxa.below (zca _ _),hxb.below (zca _ _)⟩
     have hb1:=zaa hbi (zca wr (.cells #[.bool x.neg, .slice c1a c1l c1k, .slice c2a c2l c2k] 38))
     obtain⟨hf1,hf2⟩:=RF.fits HX.out
     have hn0:=zld (n:=x.q.num.natAbs)
     have hd1:=zse (n:=x.q.den)
     have hd0:=x.q.den_nz
     obtain⟨bn,hbn⟩:∃bn,zua x.q.num.natAbs=bn:=⟨_,rfl⟩
     obtain⟨bd,hbd⟩:∃bd,zua x.q.den=bd:=⟨_,rfl⟩
     rw[hbn]at hf1 hn0
     rw[hbd]at hf2 hd1
     have HBN:=zH hbn
     have HBD:=zH hbd
     clear hbn hbd hxa hxb
     by_cases hz:x.q.num=0
     ·have hbz:bn=0:=by have:=hn0.1;omega
      have HW:=zH (wt_zero hz)
      subst hbz
      clear hz hn0 hd1 hd0
      go_wp2_with (first
       |(go_at_call 89;(with_reducible refine(zok _ x _ hA HX.out).mono ?_);rintro e w7 ⟨v,rfl,hv,hb7⟩
         obtain⟨xa2,xb2,rfl,hxa2,hxb2⟩:=hv
         obtain⟨y1,y2,y3,rfl,_⟩:=hxa2.v.sl
         obtain⟨y4,y5,y6,rfl,_⟩:=hxb2.v.sl
         have hxa3:=(hxa2.below (zca w7 (.cells #[.bool (decide (x.q<0)), .slice y1 y2 y3, .slice y4 y5 y6] 38))).nat
         have hxb3:=(hxb2.below (zca w7 (.cells #[.bool (decide (x.q<0)), .slice y1 y2 y3, .slice y4 y5 y6] 38))).nat
         have hb8:=zaa (zaa hb1 hb7) (zca w7 (.cells #[.bool (decide (x.q<0)), .slice y1 y2 y3, .slice y4 y5 y6] 38)))
       |(go_at_call 156;first
         |((with_reducible refine(zva _ _ _ hxa3).mono ?_);rintro e w' ⟨rfl,rfl⟩;rw[HBN.out])
         |((with_reducible refine(zva _ _ _ hxb3).mono ?_);rintro e w' ⟨rfl,rfl⟩;rw[HBD.out])))
      go_roundw
      case rel=>exact⟨j+1,hjl,by go_num,by rw[HTS.out,HW.out];go_num,hb8⟩
      case measure=>simp[intOf];omega
     ·have hbz:0<bn:=hn0.2 (by omega)
      have hbz2:(((bn:Nat):Int)==0)=false:=by simp;omega
      by_cases hd:x.q.den=1
      ·have HW:=zH (wt_int hz hd)
       have hbd1:¬1<bd:=fun h=>by have:=hd1.1 h;omega
       clear hz hn0 hd1 hd0 hd
       go_wp2_with (first
        |(go_at_call 89;(with_reducible refine(zok _ x _ hA HX.out).mono ?_);rintro e w7 ⟨v,rfl,hv,hb7⟩
          obtain⟨xa2,xb2,rfl,hxa2,hxb2⟩:=hv
          obtain⟨y1,y2,y3,rfl,_⟩:=hxa2.v.sl
          obtain⟨y4,y5,y6,rfl,_⟩:=hxb2.v.sl
          have hxa3:=(hxa2.below (zca w7 (.cells #[.bool (decide (x.q<0)), .slice y1 y2 y3, .slice y4 y5 y6] 38))).nat
          have hxb3:=(hxb2.below (zca w7 (.cells #[.bool (decide (x.q<0)), .slice y1 y2 y3, .slice y4 y5 y6] 38))).nat
          have hb8:=zaa (zaa hb1 hb7) (zca w7 (.cells #[.bool (decide (x.q<0)), .slice y1 y2 y3, .slice y4 y5 y6] 38)))
        |(go_at_call 156;first
          |((with_reducible refine(zva _ _ _ hxa3).mono ?_);rintro e w' ⟨rfl,rfl⟩;rw[HBN.out])
          |((with_reducible refine(zva _ _ _ hxb3).mono ?_);rintro e w' ⟨rfl,rfl⟩;rw[HBD.out])))
       go_roundw
       case rel=>exact⟨j+1,hjl,by go_num,by rw[HTS.out,HW.out,HBN.out];go_num,hb8⟩
       case measure=>simp[intOf];omega
      ·have HW:=zH (wt_frac hz hd)
       have hbd1:1<bd:=hd1.2 (by omega)
       clear hz hn0 hd1 hd0 hd
       go_wp2_with (first
        |(go_at_call 89;(with_reducible refine(zok _ x _ hA HX.out).mono ?_);rintro e w7 ⟨v,rfl,hv,hb7⟩
          obtain⟨xa2,xb2,rfl,hxa2,hxb2⟩:=hv
          obtain⟨y1,y2,y3,rfl,_⟩:=hxa2.v.sl
          obtain⟨y4,y5,y6,rfl,_⟩:=hxb2.v.sl
          have hxa3:=(hxa2.below (zca w7 (.cells #[.bool (decide (x.q<0)), .slice y1 y2 y3, .slice y4 y5 y6] 38))).nat
          have hxb3:=(hxb2.below (zca w7 (.cells #[.bool (decide (x.q<0)), .slice y1 y2 y3, .slice y4 y5 y6] 38))).nat
          have hb8:=zaa (zaa hb1 hb7) (zca w7 (.cells #[.bool (decide (x.q<0)), .slice y1 y2 y3, .slice y4 y5 y6] 38)))
        |(go_at_call 156;first
          |((with_reducible refine(zva _ _ _ hxa3).mono ?_);rintro e w' ⟨rfl,rfl⟩;rw[HBN.out])
          |((with_reducible refine(zva _ _ _ hxb3).mono ?_);rintro e w' ⟨rfl,rfl⟩;rw[HBD.out])))
       go_roundw
       case rel=>exact⟨j+1,hjl,by go_num,by rw[HTS.out,HW.out,HBN.out,HBD.out];go_num,hb8⟩
       case measure=>simp[intOf];omega
    ·obtain rfl:j=l.length:=by omega
     rw[List.take_length]
     go_wp2_with fail
     go_roundw
     case rel=>exact⟨k+1,hkm,by go_num,by rw[HTM.out],hb.trans (hbi.mono hb.size)⟩
     case measure=>simp[intOf];omega
  ·obtain rfl:k=m.length:=by omega
   rw[List.take_length]
   go_wp2_with fail
   go_ret
   exact⟨rfl,hb⟩
def vecP (l:List RF) (n:Nat):Prop:=(∀x∈l,x.ok)∧l.length=n
instance (l :List RF) (n:Nat):Decidable (vecP l n):=inferInstanceAs (Decidable (_∧_))
set_option maxRecDepth 100000 in
theorem zfh (va:Value) (l:List RF) (n:Nat) (w:World) (ha:zni w va l) (hn:n≤65536):
 Calls Tryz.prog 167 #[va, .int .i64 n] w fun e w'=>e= .returned (.bool (decide (vecP l n)))∧Below w.heap.size w w':=by
 have sa:=ha.sl
 have la:=ha.len
 have hle:=sa.le
 rw[la]at hle
 have hlb:l.length≤9223372036854775807:=by omega
 clear hle
 go_enter Tryz.func167,Tryz.ntmps167
 go_wp2_with fail
 go_loopw [9] (fun u9 wr=>∃ (k:Nat),k≤l.length∧u9= .int .i64 k∧(∀x∈l.take k,x.ok)∧Below w.heap.size w wr) (fun u9 _=>l.length- (intOf u9).toNat)
 case atStart=>exact⟨0,Nat.zero_le _,rfl,fun x h=>by simp at h,Below.refl _ _⟩
 case round=>
  obtain⟨k,hk,rfl,hok,hb⟩:=hrel
  have HOK:=zH hok
  clear hok
  by_cases hkl:k<l.length
  ·obtain⟨xa,xb,c1,c2,c3,hxa,hxb⟩:=(ha.below hb).at' k hkl
   obtain⟨c1a,c1l,c1k,rfl,_⟩:=hxa.slen.1
   obtain⟨c2a,c2l,c2k,rfl,_⟩:=hxb.slen.1
   obtain⟨x,hx⟩:∃x,l[k]'hkl=x:=⟨_,rfl⟩
   rw[hx]at c1 hxa hxb
   have HMEM:Hid (x∈l):=zH (by rw[←hx];exact List.getElem_mem hkl)
   have HTK:Hid (l.take (k+1)=l.take k++ [x]):=zH (by rw[zxc l k hkl,hx])
   have hA:zdc (wr.alloc (.cells #[.bool x.neg, .slice c1a c1l c1k, .slice c2a c2l c2k] 38)) (.agg #[.bool x.neg, .slice c1a c1l c1k, .slice c2a c2l c2k]) x.neg x.n x.d:=⟨_,_,rfl,hxa.below (zca _ _),hxb.below (zca _ _)⟩
   have hb1:=zaa hb (zca wr (.cells #[.bool x.neg, .slice c1a c1l c1k, .slice c2a c2l c2k] 38))
   clear hxa hxb hx
   by_cases hko:x.ok
   ·have HX:Hid (okN x.n x.d):=zH hko
    clear hko
    go_wp2_with (go_at_call 79;(with_reducible refine(zrd _ x.neg x.n x.d _ hA HX.out).mono ?_);rintro e w7 ⟨rfl,hb7⟩)
    go_roundw
    case rel=>exact⟨k+1,hkl,by go_num,fun y hy=>by
     rw[HTK.out]at hy
     rcases List.mem_append.1 hy with h | h
     ·exact HOK.out y h
     ·have :y=x:=by simpa using h
      rw[this];exact HX.out,zaa hb1 hb7⟩
    case measure=>simp[intOf];omega
   ·have HX:Hid (¬okN x.n x.d):=zH hko
    have HBAD:Hid (¬vecP l n):=zH (fun h=>hko (h.1 x HMEM.out))
    clear hko
    go_wp2_with (go_at_call 79;(with_reducible refine(zys _ x.neg x.n x.d _ hA HX.out).mono ?_);rintro e w7 ⟨rfl,hb7⟩)
    go_ret
    exact⟨by rw[decide_eq_false HBAD.out];rfl,zaa hb1 hb7⟩
  ·obtain rfl:k=l.length:=by omega
   have HD:Hid (decide (vecP l n)=decide (l.length=n)):=zH (by
    have h:=HOK.out
    rw[List.take_length]at h
    by_cases h2:l.length=n
    ·rw[decide_eq_true h2,decide_eq_true (show vecP l n from⟨h,h2⟩)]
    ·rw[decide_eq_false h2,decide_eq_false (fun h3=>h2 h3.2)])
   go_wp2_with fail
   go_ret
   refine⟨?_,hb⟩
   rw[HD.out]
   by_cases h2:l.length=n
   ·subst h2;simp
   ·have h3:¬ ((l.length:Int)=(n:Int)):=by omega
    simp[h2,h3]
def zqh (m:List (List RF)):Prop:=1≤m.length∧m.length≤24∧1≤(m.headD []).length∧(m.headD []).length≤24∧∀l∈m,vecP l (m.headD []).length
instance (m :List (List RF)):Decidable (zqh m):=inferInstanceAs (Decidable (_∧_∧_∧_∧_))
def RShape (w0:World) (m:List (List RF)) (e:Ending) (w:World):Prop:=
 e= .returned (if zqh m then .tuple #[.int .i64 m.length, .int .i64 (m.headD []).length, .bool true]else .tuple #[.int .i64 0, .int .i64 0, .bool false])∧Below w0.heap.size w0 w
set_option maxRecDepth 100000 in
set_option maxHeartbeats 3200000 in
theorem shape_any (va:Value) (m:List (List RF)) (w:World) (ha:MatN w va m):
 Calls Tryz.prog 203 #[va] w (RShape w m):=by
 have sa:=ha.sl
 have la:=ha.len
 have hle:=sa.le
 rw[la]at hle
 have hlb:m.length≤9223372036854775807:=by omega
 clear hle
 by_cases h1:m.length<1
 ·have HBAD:Hid (¬zqh m):=zH (fun h=>by have:=h.1;omega)
  go_enter Tryz.func203,Tryz.ntmps203
  go_wp2_with fail
  refine bodyPost_ret (v:= .tuple #[.int .i64 0, .int .i64 0, .bool false]) (by simp[results,Tryz.results203,go_sem]) rfl ⟨?_,Below.refl _ _⟩
  rw[if_neg HBAD.out]
 ·by_cases h2:24<m.length
  ·have HBAD:Hid (¬zqh m):=zH (fun h=>by have:=h.2.1;omega)
   go_enter Tryz.func203,Tryz.ntmps203
   go_wp2_with fail
   refine bodyPost_ret (v:= .tuple #[.int .i64 0, .int .i64 0, .bool false]) (by simp[results,Tryz.results203,go_sem]) rfl ⟨?_,Below.refl _ _⟩
   rw[if_neg HBAD.out]
  ·obtain⟨r0,hc0,hr0⟩:=ha.at' 0 (by omega)
   have hd0:m.headD []=m[0]'(by omega):=by
    cases m with
    | nil=>simp at h1
    | cons a m=>rfl
   rw[←hd0]at hr0
   have sl0:=hr0.sl
   have ln0:=hr0.len
   obtain⟨x,hx⟩:∃x,m.headD []=x:=⟨_,rfl⟩
   rw[hx]at hr0 ln0 hd0
   have HX:=zH hx
   have i0:0<m.length:=by omega
   clear hd0 hr0 hx h1
   by_cases h3:x.length<1
   ·have HBAD:Hid (¬zqh m):=zH (fun h=>by have:=h.2.2.1;rw[HX.out]at this;omega)
    go_enter Tryz.func203,Tryz.ntmps203
    go_wp2_with fail
    refine bodyPost_ret (v:= .tuple #[.int .i64 0, .int .i64 0, .bool false]) (by simp[results,Tryz.results203,go_sem]) rfl ⟨?_,Below.refl _ _⟩
    rw[if_neg HBAD.out]
   ·by_cases h4:24<x.length
    ·have HBAD:Hid (¬zqh m):=zH (fun h=>by have:=h.2.2.2.1;rw[HX.out]at this;omega)
     go_enter Tryz.func203,Tryz.ntmps203
     go_wp2_with fail
     refine bodyPost_ret (v:= .tuple #[.int .i64 0, .int .i64 0, .bool false]) (by simp[results,Tryz.results203,go_sem]) rfl ⟨?_,Below.refl _ _⟩
     rw[if_neg HBAD.out]
    ·go_enter Tryz.func203,Tryz.ntmps203
     go_wp2_with fail
     go_loopw [31] (fun u31 wr=>∃ (k:Nat),k≤m.length∧u31= .int .i64 k∧(∀l∈m.take k,vecP l x.length)∧Below w.heap.size w wr) (fun u31 _=>m.length- (intOf u31).toNat)
     case atStart=>exact⟨0,Nat.zero_le _,rfl,fun l h=>by simp at h,Below.refl _ _⟩
     case round=>
      obtain⟨k,hk,rfl,hok,hb⟩:=hrel
      have HOK:=zH hok
      have hc0:=zba hb hc0
      clear hok
      by_cases hkl:k<m.length
      ·obtain⟨rk,hrc,hrk⟩:=(ha.below hb).at' k hkl
       obtain⟨l,hl⟩:∃l,m[k]'hkl=l:=⟨_,rfl⟩
       rw[hl]at hrk
       have HMEM:Hid (l∈m):=zH (by rw[←hl];exact List.getElem_mem hkl)
       have HTK:Hid (m.take (k+1)=m.take k++ [l]):=zH (by rw[zxc m k hkl,hl])
       have i1:x.length≤65536:=by omega
       clear hl
       by_cases hv:vecP l x.length
       ·have HV:=zH hv
        clear hv
        go_wp2_with (go_at_call 167;(with_reducible refine(zfh _ l x.length _ hrk i1).mono ?_);rw[decide_eq_true HV.out];rintro e w7 ⟨rfl,hb7⟩)
        go_roundw
        case rel=>exact⟨k+1,hkl,by go_num,fun y hy=>by
         rw[HTK.out]at hy
         rcases List.mem_append.1 hy with h | h
         ·exact HOK.out y h
         ·have :y=l:=by simpa using h
          rw[this];exact HV.out,zaa hb hb7⟩
        case measure=>simp[intOf];omega
       ·have HV:=zH hv
        have HBAD:Hid (¬zqh m):=zH (fun h=>hv (by have:=h.2.2.2.2 l HMEM.out;rw[HX.out]at this;exact this))
        clear hv
        go_wp2_with (go_at_call 167;(with_reducible refine(zfh _ l x.length _ hrk i1).mono ?_);rw[decide_eq_false HV.out];rintro e w7 ⟨rfl,hb7⟩)
        refine bodyPost_ret (v:= .tuple #[.int .i64 0, .int .i64 0, .bool false]) (by simp[results,Tryz.results203,go_sem]) rfl ⟨?_,zaa hb hb7⟩
        rw[if_neg HBAD.out]
      ·obtain rfl:k=m.length:=by omega
       have HG:Hid (zqh m):=zH (by
        have h:=HOK.out
        rw[List.take_length]at h
        exact⟨by omega,by omega,by rw[HX.out];omega,by rw[HX.out];omega,by rw[HX.out];exact h⟩)
       go_wp2_with fail
       go_quiet (fail)
       have hbN:=zka (B:=wr.heap.size) wr nq
       go_wp2_with fail
       refine bodyPost_ret (v:= .tuple #[.int .i64 m.length, .int .i64 x.length, .bool true]) (by simp[results,Tryz.results203,go_sem]) rfl ⟨?_,zaa hb hbN⟩
       rw[if_pos HG.out,HX.out]
theorem zls {n m:Nat} {A:Mx} (hn1:1≤n) (hn:n≤24) (hm1:1≤m) (hm:m≤24) (hf:zau n m A):zqh (rawM n m A):=
 ⟨by rw[zpc];exact hn1,by rw[zpc];exact hn,by rw[zth hn1];exact hm1,by rw[zth hn1];exact hm,fun l hl=>⟨zyu hf l hl,by rw[zth hn1];exact zhn l hl⟩⟩
theorem shape_lin (va:Value) (n m:Nat) (A:Mx) (w:World) (ha:zam w va n m A) (hn1:1≤n) (hn:n≤24) (hm1:1≤m) (hm:m≤24) (hf:zau n m A):
 Calls Tryz.prog 203 #[va] w fun e w'=>e= .returned (.tuple #[.int .i64 n, .int .i64 m, .bool true])∧Below w.heap.size w w':=by
 refine(shape_any va _ w ha.raw).mono ?_
 rintro e w' ⟨rfl,hb⟩
 rw[if_pos (zls hn1 hn hm1 hm hf),zpc,zth hn1]
 exact⟨rfl,hb⟩
theorem weight_lin (va:Value) (n m:Nat) (A:Mx) (w:World) (ha:zam w va n m A) (hn:n≤24) (hm:m≤24) (hf:zau n m A):
 Calls Tryz.prog 168 #[va] w fun e w'=>e= .returned (.int .i64 (wtF n m A))∧Below w.heap.size w w':=
 zfl va _ w ha.raw (zyu hf) (fun l hl=>by rw[zhn l hl];omega) (by rw[zpc];omega)
set_option maxHeartbeats 800000 in
theorem square_lin (va:Value) (n m:Nat) (A:Mx) (w:World) (ha:zam w va n m A) (hn1:1≤n) (hn:n≤24) (hm1:1≤m) (hm:m≤24) (hf:zau n m A) (hnm:n=m):
 Calls Tryz.prog 166 #[va] w fun e w'=>e= .returned (.bool true)∧Below w.heap.size w w':=by
 subst hnm
 have HF:=zH hf
 clear hf
 go_enter Tryz.func166,Tryz.ntmps166
 go_wp2_with (go_at_call 203;(with_reducible refine(shape_lin va n n A _ ha hn1 hn hm1 hm HF.out).mono ?_);rintro e1 w1 ⟨rfl,hb1⟩)
 go_ret
 exact⟨by simp,hb1⟩
end Go.Proofs.YtlpdkbmmbdfoiaaGreat
