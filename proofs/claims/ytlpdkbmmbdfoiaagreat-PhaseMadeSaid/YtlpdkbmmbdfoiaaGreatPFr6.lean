/- Lemmas. -/
import Derived.Test.YtlpdkbmmbdfoiaaGreatPTa2
set_option linter.unusedVariables false
set_option linter.unusedSimpArgs false
namespace Go.Proofs.YtlpdkbmmbdfoiaaGreat
open Go.RowKit
def RSame (w0:World) (p:Prop) (e:Ending) (w:World):Prop:=(∃b,e= .returned (.bool b)/\(b=true↔p))/\Below w0.heap.size w0 w
theorem zsj {α:Type _} {a b:List α} (hl:a.length=b.length) (h:∀ (j:Nat) (h1:j<a.length) (h2:j<b.length),a[j]=b[j]):a=b:=List.ext_getElem hl h
theorem ztc.at' {w:World} {v:Value} {l:List Nat} (h:ztc w v l) (j:Nat) (hj:j<l.length):w.cell? (ptr v j)=some (.int .u32 (l[j]:Nat)):=h.cell j hj
set_option maxHeartbeats 1600000 in
theorem zlh (va vb:Value) (a b:List Nat) (w:World) (ha:ztc w va a) (hb:ztc w vb b):
 Calls Tryz.prog 140 #[va,vb] w (RSame w (a=b)):=by
 have sa:=ha.sl;have la:=ha.len;have sb:=hb.sl;have lb:=hb.len;have hle:=sa.le;have hle2:=sb.le;rw[la]at hle;rw[lb]at hle2;have hlb:a.length<=9223372036854775807:=zO;have hlb2:b.length<=9223372036854775807:=zO;clear hle hle2;have hw:w.heap.size<=w.heap.size:=zLR _;by_cases hlen:a.length=b.length
 ·skip
  have hL:=zH hlen;rw[<-hlen]at lb;clear hlen;go_enter Tryz.func140,Tryz.ntmps140;go_wp2_with fail;go_loopw [5] (λ u5 wr=>∃ (k:Nat),k<=a.length/\u5= .int .i64 k/\(∀ (j:Nat) (h1:j<a.length) (h2:j<b.length),j<k->a[j]=b[j])/\Below w.heap.size w wr) (λ u5 _=>a.length- (intOf u5).toNat);case atStart=>exact⟨0,zZL _,rfl,λ j _ _ h=>zO,zBR _ _⟩
  case round=>
   obtain⟨k,hk,rfl,hst,hbr⟩:=hrel;have HST:=zH hst;clear hst;by_cases hkl:k<a.length
   ·(have hkb:k<b.length:=by rw[<-hL.o];exact hkl);have hc:=(ha.bw hbr).at' k hkl;have hd:=(hb.bw hbr).at' k hkb;have HX:zI (∀ (h1:k<a.length) (h2:k<b.length),a[k]=b[k]↔a[k]'hkl=b[k]'hkb):=zH (λ _ _=>Iff.rfl);have i1:(0:Int)<=(k:Int):=zO;have i2:(k:Int)<(a.length:Nat):=zO;generalize ha':a[k]'hkl=x at *
    generalize hb':b[k]'hkb=y at *
    have HA:=zH ha';have HB:=zH hb';clear ha' hb';by_cases hxy:x=y
    ·subst hxy
     have HST2:zI (∀ (j:Nat) (h1:j<a.length) (h2:j<b.length),j<k+1->a[j]=b[j]):=zH (λ j h1 h2 h3=>by
      rcases zOG j k with h4 | h4
      ·exact HST.o j h1 h2 h4
      ·obtain rfl:j=k:=zO;rw[HA.o,HB.o])
     go_wp2_with fail;go_quiet (fail);have hbd:=zaa hbr (zna (B:=wr.heap.size) wr nq);go_wp2_with fail;go_roundw;(case rel=>exact⟨k+1,zO,by go_num,HST2.o,hbd⟩);case measure=>simp[intOf];omega
    ·skip
     (have hxy2:((x:Int)==(y:Int))=false:=by first | (simp;omega) | simpa using hxy);go_wp2_with fail;go_quiet (fail);have hbd:=zaa hbr (zna (B:=wr.heap.size) wr nq);go_wp2_with fail;go_ret;exact⟨⟨false,rfl,by simp;intro h;subst h;exact hxy (HA.o.symm.trans HB.o)⟩,hbd⟩
   ·go_wp2_with fail;go_ret;refine⟨⟨true,rfl,by simp;exact zsj hL.o (λ j h1 h2=>HST.o j h1 h2 zO)⟩,hbr⟩
 ·have hne:((a.length:Int)==(b.length:Int))=false:=by simp;omega
  go_enter Tryz.func140,Tryz.ntmps140;go_wp2_with fail;go_ret;exact⟨⟨false,rfl,by simp;intro h;exact hlen (by rw[h])⟩,zBR _ _⟩
theorem rat_parts {p q:Rat}:p=q↔decide (p<0)=decide (q<0)/\zoa p.num.natAbs=zoa q.num.natAbs/\zoa p.den=zoa q.den:=by
 constructor
 ·rintro rfl;exact⟨rfl,rfl,rfl⟩
 ·rintro⟨h1,h2,h3⟩;have e2:=zmi h2;have e3:=zmi h3;rw[<-zmb p,<-zmb q,h1,e2,e3]
set_option maxRecDepth 100000 in
set_option maxHeartbeats 1600000 in
theorem zvn (va vb:Value) (p q:Rat) (w:World) (ha:zia w va p) (hb:zia w vb q):
 Calls Tryz.prog 61 #[va,vb] w (RSame w (p=q)):=by
 obtain⟨a1,a2,rfl,n1,n2⟩:=ha;obtain⟨b1,b2,rfl,m1,m2⟩:=hb;have HP:=zH (@rat_parts p q);have n1:=n1.1;have n2:=n2.1;have m1:=m1.1;have m2:=m2.1;obtain⟨a1a,a1n,a1c,rfl,_⟩:=n1.sl;obtain⟨a2a,a2n,a2c,rfl,_⟩:=n2.sl;obtain⟨b1a,b1n,b1c,rfl,_⟩:=m1.sl;obtain⟨b2a,b2n,b2c,rfl,_⟩:=m2.sl;generalize decide (p<0)=s at *
 generalize decide (q<0)=t at *
 generalize zoa p.num.natAbs=x at *
 generalize zoa q.num.natAbs=y at *
 generalize zoa p.den=z at *
 generalize zoa q.den=u at *
 have hbx:=zca w (.cells #[.bool s, .slice a1a a1n a1c, .slice a2a a2n a2c] 38);have hbx:=(hbx.alloc hbx.size (.cells #[.bool t, .slice b1a b1n b1c, .slice b2a b2n b2c] 38));have n1:=n1.bw hbx;have n2:=n2.bw hbx;have m1:=m1.bw hbx;have m2:=m2.bw hbx;have hC:=(C3.new w 38 (.bool s) (.slice a1a a1n a1c) (.slice a2a a2n a2c)).allocS (.cells #[.bool t, .slice b1a b1n b1c, .slice b2a b2n b2c] 38);have hD:=C3.new (w.alloc (.cells #[.bool s, .slice a1a a1n a1c, .slice a2a a2n a2c] 38)) 38 (.bool t) (.slice b1a b1n b1c) (.slice b2a b2n b2c);rw[show(w.alloc (.cells #[.bool s, .slice a1a a1n a1c, .slice a2a a2n a2c] 38)).heap.size=w.heap.size+1 from by simp]at hD;by_cases h1:s=t
 ·subst h1;by_cases hxy:x=y
  ·by_cases hzu:z=u
   ·have tok:True:=trivial;go_enter Tryz.func61,Tryz.ntmps61
    go_wp2_with (first
     |(go_at_call 140;have _t:=tok;(with_reducible refine(zlh _ _ x y _ n1 m1).mono ?_);rintro e1 w1 ⟨⟨r1,rfl,h1⟩,hbel1⟩;obtain rfl:r1=true:=h1.2 hxy;clear h1 tok _t;have n3:=n2.bw hbel1;have m3:=m2.bw hbel1;obtain⟨_,c0,c1,c2,_,_,_⟩:=hC.bS hbel1;obtain⟨_,d0,d1,d2,_,_,_⟩:=hD.bS hbel1)
     |(go_at_call 140;(with_reducible refine(zlh _ _ z u _ n3 m3).mono ?_);rintro e2 w2 ⟨⟨r2,rfl,h2⟩,hbel2⟩;obtain rfl:r2=true:=h2.2 hzu;clear h2))
    go_ret;exact⟨⟨true,rfl,by simp;exact HP.o.2 ⟨by first | rfl | trivial,hxy,hzu⟩⟩,(hbx.trans (hbel1.mono hbx.size)).trans (hbel2.mono (hbx.trans (hbel1.mono hbx.size)).size)⟩
   ·have tok:True:=trivial;go_enter Tryz.func61,Tryz.ntmps61
    go_wp2_with (first
     |(go_at_call 140;have _t:=tok;(with_reducible refine(zlh _ _ x y _ n1 m1).mono ?_);rintro e1 w1 ⟨⟨r1,rfl,h1⟩,hbel1⟩;obtain rfl:r1=true:=h1.2 hxy;clear h1 tok _t;have n3:=n2.bw hbel1;have m3:=m2.bw hbel1;obtain⟨_,c0,c1,c2,_,_,_⟩:=hC.bS hbel1;obtain⟨_,d0,d1,d2,_,_,_⟩:=hD.bS hbel1)
     |(go_at_call 140;(with_reducible refine(zlh _ _ z u _ n3 m3).mono ?_);rintro e2 w2 ⟨⟨r2,rfl,h2⟩,hbel2⟩;obtain rfl:r2=false:=Bool.eq_false_iff.2 (λ h=>hzu (h2.1 h));clear h2))
    go_ret;exact⟨⟨false,rfl,by simp;exact λ h=>hzu (HP.o.1 h).2.2⟩,(hbx.trans (hbel1.mono hbx.size)).trans (hbel2.mono (hbx.trans (hbel1.mono hbx.size)).size)⟩
  ·go_enter Tryz.func61,Tryz.ntmps61;go_wp2_with (go_at_call 140;(with_reducible refine(zlh _ _ x y _ n1 m1).mono ?_);rintro e1 w1 ⟨⟨r1,rfl,h1⟩,hbel1⟩;obtain rfl:r1=false:=Bool.eq_false_iff.2 (λ h=>hxy (h1.1 h));clear h1);go_ret;exact⟨⟨false,rfl,by simp;exact λ h=>hxy (HP.o.1 h).2.1⟩,hbx.trans (hbel1.mono hbx.size)⟩
 ·have h2:(s==t)=false:=by simpa using h1
  go_enter Tryz.func61,Tryz.ntmps61;go_wp2_with fail;go_ret;exact⟨⟨false,rfl,by simp;exact λ h=>h1 (HP.o.1 h).1⟩,hbx⟩
set_option maxHeartbeats 1600000
set_option maxRecDepth 100000 in
theorem zkl (va vb:Value) (a b:List Rat) (w:World) (ha:zwa w va a) (hb:zwa w vb b):
 Calls Tryz.prog 23 #[va,vb] w (RSame w (a=b)):=by
 have sa:=ha.sl;have la:=ha.len;have sb:=hb.sl;have lb:=hb.len;have hle:=sa.le;have hle2:=sb.le;rw[la]at hle;rw[lb]at hle2;have hlb:a.length<=9223372036854775807:=zO;have hlb2:b.length<=9223372036854775807:=zO;clear hle hle2;by_cases hlen:a.length=b.length
 ·skip
  have hL:=zH hlen;rw[<-hlen]at lb;clear hlen;go_enter Tryz.func23,Tryz.ntmps23;go_wp2_with fail;go_loopw [5] (λ u5 wr=>∃ (k:Nat),k<=a.length/\u5= .int .i64 k/\(∀ (j:Nat) (h1:j<a.length) (h2:j<b.length),j<k->a[j]=b[j])/\Below w.heap.size w wr) (λ u5 _=>a.length- (intOf u5).toNat);case atStart=>exact⟨0,zZL _,rfl,λ j _ _ h=>zO,zBR _ _⟩
  case round=>
   obtain⟨k,hk,rfl,hst,hbr⟩:=hrel;have HST:=zH hst;clear hst;by_cases hkl:k<a.length
   ·(have hkb:k<b.length:=by rw[<-hL.o];exact hkl);have hdr:=zfa (B:=wr.heap.size) wr;have hbd:=zaa hbr hdr;obtain⟨a1,a2,c1,c2,c3,n1,n2⟩:=(ha.bw hbd).at' k hkl;obtain⟨b1,b2,d1,d2,d3,m1,m2⟩:=(hb.bw hbd).at' k hkb;have i1:(0:Int)<=(k:Int):=zO;have i2:(k:Int)<(a.length:Nat):=zO;generalize ha':a[k]'hkl=x at *
    generalize hb':b[k]'hkb=y at *
    have HA:=zH ha';have HB:=zH hb';clear ha' hb';have hX:zia wr.drew (.agg #[.bool (decide (x<0)),a1,a2]) x:=⟨_,_,rfl,n1,n2⟩;have hY:zia wr.drew (.agg #[.bool (decide (y<0)),b1,b2]) y:=⟨_,_,rfl,m1,m2⟩;clear n1 n2 m1 m2;go_wp2_with fail
    go_region_held3 (λ w'=>w'.cell? (ptr va (k*3))=some (.bool (decide (x<0)))/\w'.cell? (ptr va (k*3+1))=some a1/\w'.cell? (ptr va (k*3+2))=some a2/\w'.cell? (ptr vb (k*3))=some (.bool (decide (y<0)))/\w'.cell? (ptr vb (k*3+1))=some b1/\w'.cell? (ptr vb (k*3+2))=some b2) (exact⟨c1,c2,c3,d1,d2,d3⟩) (first
     |(go_at_call 61;(with_reducible refine(zvn _ _ x y _ hX hY).mono ?_);rintro e9 w9 ⟨⟨r9,rfl,h9⟩,hb9⟩;have c1:=zba hb9 c1;have c2:=zba hb9 c2;have c3:=zba hb9 c3;have d1:=zba hb9 d1;have d2:=zba hb9 d2;have d3:=zba hb9 d3))
    clear c1 c2 c3 d1 d2 d3 hX hY;have hbr2:=zaa hbd hb9;by_cases hxy:x=y
    ·obtain rfl:r9=true:=h9.2 hxy
     have HST2:zI (∀ (j:Nat) (h1:j<a.length) (h2:j<b.length),j<k+1->a[j]=b[j]):=zH (λ j h1 h2 h3=>by
      rcases zOG j k with h4 | h4
      ·exact HST.o j h1 h2 h4
      ·obtain rfl:j=k:=zO;rw[HA.o,HB.o,hxy])
     clear hxy h9;go_wp2;go_roundw;(case rel=>exact⟨k+1,zO,by go_num,HST2.o,hbr2⟩);case measure=>simp[intOf];omega
    ·obtain rfl:r9=false:=Bool.eq_false_iff.2 (λ h=>hxy (h9.1 h));have HXY:=zH hxy;clear hxy h9;go_wp2;go_ret;exact⟨⟨false,rfl,by simp;intro h;subst h;exact HXY.o (HA.o.symm.trans HB.o)⟩,hbr2⟩
   ·go_wp2_with fail;go_ret;refine⟨⟨true,rfl,by simp;exact zsj hL.o (λ j h1 h2=>HST.o j h1 h2 zO)⟩,hbr⟩
 ·skip
  have hne:((a.length:Int)==(b.length:Int))=false:=by simp;omega
  go_enter Tryz.func23,Tryz.ntmps23;go_wp2_with fail;go_ret;exact⟨⟨false,rfl,by simp;intro h;exact hlen (by rw[h])⟩,zBR _ _⟩
structure MatC (w:World) (v:Value) (m:List (List Rat)):Prop where
 sl:zvc v
 len:slen v=m.length
 at':∀ (j:Nat) (h:j<m.length),∃r,w.cell? (ptr v j)=some r/\zwa w r m[j]
theorem MatC.bw {w w':World} {v:Value} {m:List (List Rat)} (h:MatC w v m) (hb:Below w.heap.size w w'):MatC w' v m:=
 ⟨h.sl,h.len,λ j hj=>by obtain⟨r,h1,h2⟩:=h.at' j hj;exact⟨r,zba hb h1,h2.bw hb⟩⟩
set_option maxRecDepth 100000 in
theorem same_mat (va vb:Value) (a b:List (List Rat)) (w:World) (ha:MatC w va a) (hb:MatC w vb b):
 Calls Tryz.prog 93 #[va,vb] w (RSame w (a=b)):=by
 have sa:=ha.sl;have la:=ha.len;have sb:=hb.sl;have lb:=hb.len;have hle:=sa.le;have hle2:=sb.le;rw[la]at hle;rw[lb]at hle2;have hlb:a.length<=9223372036854775807:=zO;have hlb2:b.length<=9223372036854775807:=zO;clear hle hle2;by_cases hlen:a.length=b.length
 ·skip
  have hL:=zH hlen;rw[<-hlen]at lb;clear hlen;go_enter Tryz.func93,Tryz.ntmps93;go_wp2_with fail;go_loopw [5] (λ u5 wr=>∃ (k:Nat),k<=a.length/\u5= .int .i64 k/\(∀ (j:Nat) (h1:j<a.length) (h2:j<b.length),j<k->a[j]=b[j])/\Below w.heap.size w wr) (λ u5 _=>a.length- (intOf u5).toNat);case atStart=>exact⟨0,zZL _,rfl,λ j _ _ h=>zO,zBR _ _⟩
  case round=>
   obtain⟨k,hk,rfl,hst,hbr⟩:=hrel;have HST:=zH hst;clear hst;by_cases hkl:k<a.length
   ·(have hkb:k<b.length:=by rw[<-hL.o];exact hkl);have hdr:=zfa (B:=wr.heap.size) wr;have hbd:=zaa hbr hdr;obtain⟨r1,c1,hX⟩:=(ha.bw hbd).at' k hkl;obtain⟨r2,d1,hY⟩:=(hb.bw hbd).at' k hkb;have i1:(0:Int)<=(k:Int):=zO;have i2:(k:Int)<(a.length:Nat):=zO;generalize ha':a[k]'hkl=x at *
    generalize hb':b[k]'hkb=y at *
    have HA:=zH ha';have HB:=zH hb';clear ha' hb';go_wp2_with fail
    go_region_held3 (λ w'=>w'.cell? (ptr va k)=some r1/\w'.cell? (ptr vb k)=some r2) (exact⟨c1,d1⟩) (first
     |(go_at_call 23;(with_reducible refine(zkl _ _ x y _ hX hY).mono ?_);rintro e9 w9 ⟨⟨r9,rfl,h9⟩,hb9⟩;have c1:=zba hb9 c1;have d1:=zba hb9 d1))
    clear c1 d1 hX hY;have hbr2:=zaa hbd hb9;by_cases hxy:x=y
    ·obtain rfl:r9=true:=h9.2 hxy
     have HST2:zI (∀ (j:Nat) (h1:j<a.length) (h2:j<b.length),j<k+1->a[j]=b[j]):=zH (λ j h1 h2 h3=>by
      rcases zOG j k with h4 | h4
      ·exact HST.o j h1 h2 h4
      ·obtain rfl:j=k:=zO;rw[HA.o,HB.o,hxy])
     clear hxy h9;go_wp2;go_roundw;(case rel=>exact⟨k+1,zO,by go_num,HST2.o,hbr2⟩);case measure=>simp[intOf];omega
    ·obtain rfl:r9=false:=Bool.eq_false_iff.2 (λ h=>hxy (h9.1 h));have HXY:=zH hxy;clear hxy h9;go_wp2;go_ret;exact⟨⟨false,rfl,by simp;intro h;subst h;exact HXY.o (HA.o.symm.trans HB.o)⟩,hbr2⟩
   ·go_wp2_with fail;go_ret;refine⟨⟨true,rfl,by simp;exact zsj hL.o (λ j h1 h2=>HST.o j h1 h2 zO)⟩,hbr⟩
 ·skip
  have hne:((a.length:Int)==(b.length:Int))=false:=by simp;omega
  go_enter Tryz.func93,Tryz.ntmps93;go_wp2_with fail;go_ret;exact⟨⟨false,rfl,by simp;intro h;exact hlen (by rw[h])⟩,zBR _ _⟩
structure CQ where
 rates:List (List Rat)
 start:List Rat
 lost:List Bool
theorem zbc.bw {w w':World} {l:List Nat} {b a:Nat} (h:zbc w b l a) (hb:Below w.heap.size w w'):zbc w' b l a:=by
 obtain⟨lt,⟨v,e1,e2⟩,c1,f1,h1,h2,h3⟩:=h;exact⟨zLM lt hb.size,⟨v,zba hb e1,e2.bw hb⟩,zba hb c1,by rw[hb.frozen lt];exact f1,h1,h2,h3⟩
def zyh (w:World) (b:Nat) (l:List Nat) (B a:Nat):Prop:=zbc w b l a/\∀v,w.cell? ⟨b,0,none⟩=some v->∀j,j<l.length->(ptr v j).block<B
theorem zbc.b {w:World} {b a:Nat} {l:List Nat} (h:zbc w b l a):zyh w b l w.heap.size a:=by
 refine⟨h,λ v hv j hj=> ?_⟩;obtain⟨v',e1,e2⟩:=h.ex;rw[e1]at hv;injection hv with hv
 subst hv;exact World.block_lt_of_cell? w _ (e2.cell j (by simpa using hj))
theorem zyh.mono {w:World} {b a B B':Nat} {l:List Nat} (h:zyh w b l B a) (hB:B<=B'):zyh w b l B' a:=⟨h.1,λ v hv j hj=>zLM (h.2 v hv j hj) hB⟩
theorem zyh.bw {w w':World} {b a B:Nat} {l:List Nat} (h:zyh w b l B a) (hb:Below w.heap.size w w'):zyh w' b l B a:=by
 obtain⟨h1,h2⟩:=h;refine⟨h1.bw hb,λ v hv j hj=> ?_⟩;rw[hb.cell h1.lt]at hv;exact h2 v hv j hj
theorem zyh.low {w w':World} {b a B:Nat} {l:List Nat} (h:zyh w b l B a) (hb:Below B w w') (hB:b<B):zyh w' b l B a:=by
 obtain⟨⟨lt,⟨v,e1,e2⟩,c1,f1,h1,h2,h3⟩,h4⟩:=h;have hl:=h4 v e1;refine⟨⟨zLM lt hb.size,⟨v,by rw[hb.cell (by exact hB)];exact e1,e2.sl,e2.len,λ j hj=> ?_⟩,by rw[hb.cell (by exact hB)];exact c1,by rw[hb.frozen (by exact hB)];exact f1,h1,h2,h3⟩,λ u hu j hj=> ?_⟩
 ·rw[hb.cell (hl j (by simpa using hj))];exact e2.cell j hj
 ·rw[hb.cell (by exact hB)]at hu;exact h4 u hu j hj
theorem zyh.set {w:World} {b a B:Nat} {l:List Nat} (h:zyh w b l B a) {p:Addr} {x:Value} (hp:p.block≠b) (hc:w.cell? p=some x) (hx:∀z,x≠ .int .u8 z) (u:Value):zyh (w.setCell p u) b l B a:=by
 obtain⟨⟨lt,⟨v,e1,e2⟩,c1,f1,h1,h2,h3⟩,h4⟩:=h;have hne:∀k,p≠⟨b,k,none⟩:=λ k e=>hp (by rw[e])
 refine⟨⟨by simpa [World.setCell]using lt,⟨v,by rw[zCO _ _ _ _ (hne _)];exact e1,e2.sl,e2.len,λ j hj=> ?_⟩,by rw[zCO _ _ _ _ (hne _)];exact c1,by rw[World.frozen?_setCell];exact f1,h1,h2,h3⟩,λ u' hu j hj=> ?_⟩
 ·rw[zCO]
  ·exact e2.cell j hj
  ·intro e;have h6:=e2.cell j hj;rw[<-e,hc]at h6;(injection h6 with h6);rw[List.getElem_map]at h6;exact hx _ h6
 ·rw[zCO _ _ _ _ (hne _)]at hu;exact h4 u' hu j hj
theorem zmp.frozen {w w':World} {b:Nat} (h:zmp b w w') {p:Addr} (hp:p.block<w.heap.size):w'.frozen? p=w.frozen? p:=by
 rcases h with⟨k,rfl⟩ | ⟨k,k',a,rfl⟩
 ·exact(zna (B:=w.heap.size) w k).frozen hp
 ·have h1:=(zna (B:=w.heap.size) w k);rw[(zna (B:=((w.drewN k).setCell ⟨b,1,none⟩ (.int .i64 a)).heap.size) _ k').frozen (by simp[World.setCell];have:=h1.size;omega)];rw[World.frozen?_setCell];exact h1.frozen hp
theorem zvc.noInt {v:Value} (h:zvc v):∀z,v≠ .int .i64 z:=λ z e=>by obtain⟨a,n,c,rfl,_⟩:=h;cases e
theorem zvc.noLimb {v:Value} (h:zvc v):∀z,v≠ .int .u32 z:=λ z e=>by obtain⟨a,n,c,rfl,_⟩:=h;cases e
theorem zvc.noByte {v:Value} (h:zvc v):∀z,v≠ .int .u8 z:=λ z e=>by obtain⟨a,n,c,rfl,_⟩:=h;cases e
theorem zqd {w w':World} {B:Nat} {u:Value} (hg:w.grownBy w' u.ownBlock) (hB:B<=w.heap.size) (hu:∀k,u.ownBlock=some k->B<=k/\k<w.heap.size):Below B w w':=zja hg hB (λ k hk=>(hu k hk).1)
section
variable {w w':World} {bt:Nat} {l:List Nat} {B b5:Nat} {vr vs vl:Value} {rs:List Value} {rates:List (List Rat)} {start:List Rat} {lost:List Bool}
end
set_option maxHeartbeats 1600000
theorem fq_scale2 (s:Bool) {n d k:Nat} (hk:k≠0):fq s (n*k) (d*k)=fq s n d:=by
 unfold fq;have e:sgn s (n*k)=sgn s n*k:=by unfold sgn;split<;>simp[Int.neg_mul]
 rw[e];exact Rat.mkRat_mul_right hk
theorem fq_ne (s:Bool) {n d:Nat} (hn:n≠0) (hd:d≠0):fq s n d≠0:=λ h=>by
 unfold fq at h;have:=(Rat.mkRat_eq_zero hd).1 h;have h2:=zvi s n;rw[this]at h2;exact hn h2.symm
theorem fq_quo (s t:Bool) {n d m e:Nat} (hm:m≠0) (he:e≠0):fq s n d/fq t m e=fq (s != t) (n*e) (d*m):=by
 have h1:fq s n d=fq (s != t) (n*e) (d*m)*fq t m e:=by
  rw[fq_mul,<-fq_scale2 s (n:=n) (d:=d) (zMZ he hm)]
  congr 1
  ·cases s<;>cases t<;>rfl
  ·rw[Nat.mul_assoc]
  ·rw[Nat.mul_assoc,Nat.mul_comm e m]
 rw[h1,Rat.mul_div_cancel (fq_ne t hm he)]
theorem fq_sub (s t:Bool) (n d m e:Nat) (he:e≠0):fq s n d-fq t m e=fq s n d+fq (!t) m e:=by
 rw[Rat.sub_eq_add_neg]
 congr 1
 unfold fq;rw[Rat.neg_mkRat]
 congr 1
 unfold sgn;cases t<;>simp
theorem zcc.over {w:World} {v:Value} {n:Nat} (h:zcc w v n) {p:Addr} {x:Value} (hp:w.cell? p=some x) (hx:∀z,x≠ .int .u32 z) (u:Value):zcc (w.setCell p u) v n:=by
 obtain⟨l,h1,h2⟩:=h;exact⟨l,h1.over hp hx u,h2⟩
theorem zcc.set3 {w:World} {v:Value} {n:Nat} {b:Nat} {s:Bool} {x y:Value} (h:zcc w v n) (hc:C3 w b (.bool s) x y) (hx:∀z,x≠ .int .u32 z) (hy:∀z,y≠ .int .u32 z) (u0 u1 u2:Value):
 zcc (((w.setCell ⟨b,0,none⟩ u0).setCell ⟨b,1,none⟩ u1).setCell ⟨b,2,none⟩ u2) v n:=by
 obtain⟨l,h1,h2⟩:=h;exact⟨l,h1.set3 hc zZ hx hy u0 u1 u2,h2⟩
theorem fminus_any (va:Value) (s:Bool) (n d:Nat) (w:World) (ha:zzb w va s n d):
 Calls Tryz.prog 202 #[va] w λ e w'=>∃v,e= .returned v/\zzb w' v (!s) n d/\Below w.heap.size w w':=by
 obtain⟨xn,xd,rfl,hxn,hxd⟩:=ha;obtain⟨an,ln,kn,rfl,_⟩:=hxn.slen.1;obtain⟨ad,ld,kd,rfl,_⟩:=hxd.slen.1;obtain⟨bx,bz,hbw⟩:=zsf w 38 (.bool s) (.slice an ln kn) (.slice ad ld kd) (.bool false) (.slice none 0 0) (.slice none 0 0) _ rfl;have hxn2:=(hxn.bw hbw).over bx.c0 zZ (.bool (!s));have hxd2:=(hxd.bw hbw).over bx.c0 zZ (.bool (!s));have hZ2:=bz.other ⟨w.heap.size,0,none⟩ (.bool (!s)) (by simp);have hbs:=hbw.setCell (p:=⟨w.heap.size,0,none⟩) (zLR _) (.bool (!s));have HF:=zH (zAI (zAI hxn2 hxd2) (zAI hZ2 hbs));obtain⟨_,x0,x1,x2,f0,f1,f2⟩:=bx;obtain⟨_,z0,z1,z2,g0,g1,g2⟩:=bz;clear hxn2 hxd2 hZ2 hbs hxn hxd hbw;go_enter Tryz.func202,Tryz.ntmps202;go_upto_region 1 with fail;generalize (w.alloc (.cells #[.bool s, .slice an ln kn, .slice ad ld kd] 38)).alloc (.cells #[.bool false, .slice none 0 0, .slice none 0 0] 38)=W at *
 go_wp2_with fail;refine zab rfl rfl Tryz.aggF Tryz.sizeF (HF.o.2.1.set _ _ _) rfl ?_;exact⟨_,rfl,⟨_,_,rfl,HF.o.1.1.set3 HF.o.2.1 zZ zZ _ _ _,HF.o.1.2.set3 HF.o.2.1 zZ zZ _ _ _⟩,zga HF.o.2.2 zO _ _ _⟩
set_option maxRecDepth 100000 in
theorem mul_frac (va vb:Value) (s t:Bool) (n d m e:Nat) (w:World) (ha:zzb w va s n d) (hb:zzb w vb t m e) (h1:okN n d) (h2:okN m e):
 Calls Tryz.prog 131 #[va,vb] w (zhl w (fq s n d*fq t m e)):=by
 have hA:=ha;have hB:=hb;obtain⟨xn,xd,rfl,hxn,hxd⟩:=ha;obtain⟨yn,yd,rfl,hyn,hyd⟩:=hb;obtain⟨an,ln,kn,rfl,_⟩:=hxn.slen.1;obtain⟨ad,ld,kd,rfl,_⟩:=hxd.slen.1;obtain⟨am,lm,km,rfl,_⟩:=hyn.slen.1;obtain⟨ae,le,ke,rfl,_⟩:=hyd.slen.1;have HQ:=zH (fq_mul s t n d m e);have K1:=zH h1;have K2:=zH h2;clear h1 h2;go_enter Tryz.func131,Tryz.ntmps131;go_wp2_with fail;obtain⟨W,hW⟩:∃W,W=(((w.alloc (.cells #[.bool s, .slice an ln kn, .slice ad ld kd] 38)).alloc (.cells #[.bool t, .slice am lm km, .slice ae le ke] 38)).alloc (.cells #[.bool false, .slice none 0 0, .slice none 0 0] 38)):=⟨_,rfl⟩;obtain⟨bx,byy,bz,hbw⟩:=zpb w 38 _ _ _ _ _ _ _ _ _ W hW;rw[<-hW];clear hW;have HBX:=zH bx;have HBY:=zH byy;have HBZ:=zH bz;obtain⟨_,q1,q2,q3,q4,q5,q6⟩:=bx;obtain⟨_,r1,r2,r3,r4,r5,r6⟩:=byy
 go_wp2_with (first
  |(go_at_call 79;first
    |((with_reducible refine(zue _ s n d _ (hA.bw hbw) K1.o).mono ?_);rintro e9 w1 ⟨rfl,hv1⟩
      obtain⟨_,f1,f2,f3,f4,f5,f6⟩:=HBY.o.bS hv1;have hbw1:=hbw.trans (hv1.mono hbw.size))
    |((with_reducible refine(zue _ t m e _ (hB.bw hbw1) K2.o).mono ?_);rintro e9 w2 ⟨rfl,hv2⟩
      have hbx2:=(HBX.o.bS hv1).bS hv2;have hby2:=(HBY.o.bS hv1).bS hv2;have hbz2:=(HBZ.o.bS hv1).bS hv2;have hbw2:=hbw1.trans (hv2.mono hbw1.size))))
 clear q1 q2 q3 q4 q5 q6 r1 r2 r3 r4 r5 r6 f1 f2 f3 f4 f5 f6;have hd2:=zfa (B:=w2.heap.size) w2;have hD:=hbw2.trans (hd2.mono hbw2.size);have hbx3:=hbx2.bS hd2;have hby3:=hby2.bS hd2;have hbz3:=hbz2.bS hd2;have HX3:=zH hbx3;have HY3:=zH hby3;have HZ3:=zH hbz3;clear hbx2 hby2 hbz2 hbw2 hv1 hv2 hbw hbw1 HBX HBY HBZ bz hd2;obtain⟨_,q1,q2,q3,q4,q5,q6⟩:=hbx3;obtain⟨_,r1,r2,r3,r4,r5,r6⟩:=hby3;obtain⟨_,z1,z2,z3,z4,z5,z6⟩:=hbz3;have g1:=hxn.bw hD;have g2:=hxd.bw hD;have g3:=hyn.bw hD;have g4:=hyd.bw hD;have l1:=zH (zfc K1.o);have l2:=zH (zfc K2.o);have T1:=zH (zLT l1.o.1 (show 128<=256 by decide));have T2:=zH (zLT l2.o.2 (show 128<=256 by decide));have T3:=zH (zLT l2.o.1 (show 128<=256 by decide));have T4:=zH (zLT l1.o.2 (show 128<=256 by decide));have N1:=zH (zLT (zuc l1.o.1 l2.o.1) (show 128+128<=512 by decide));have N2:=zH (zLT (zuc l1.o.2 l2.o.2) (show 128+128<=512 by decide));have HDE:zI (d*e≠0):=zH (zMZ K1.o.1 K2.o.1);have tok1:True:=trivial;rcases s with _ | _<;>rcases t with _ | _
 ·go_region_held3 (λ w'=>w'.cell? ⟨w.heap.size,0,none⟩=some (.bool false)/\w'.cell? ⟨w.heap.size,1,none⟩=some (.slice an ln kn)/\w'.cell? ⟨w.heap.size,2,none⟩=some (.slice ad ld kd)/\w'.cell? ⟨w.heap.size+1,0,none⟩=some (.bool false)/\w'.cell? ⟨w.heap.size+1,1,none⟩=some (.slice am lm km)/\w'.cell? ⟨w.heap.size+1,2,none⟩=some (.slice ae le ke)) (first | with_reducible exact⟨q1,q2,q3,r1,r2,r3⟩ | (refine⟨?_,?_,?_,?_,?_,?_⟩<;>go_simp)) (first
   |(go_at_call 157;have _t:=tok1;clear tok1 _t;(with_reducible refine(zsb _ _ n m _ g1 g3 T1.o T3.o).mono ?_);rintro e9 w3 ⟨p1,rfl,hp1,hp2⟩;have X4:=HX3.o.bS hp2;have Y4:=HY3.o.bS hp2;have HX4:=zH X4;have HY4:=zH Y4;obtain⟨_,q1,q2,q3,q4,q5,q6⟩:=X4;obtain⟨_,r1,r2,r3,r4,r5,r6⟩:=Y4)
   |(go_at_call 157;(with_reducible refine(zsb _ _ d e _ (g2.bw hp2) (g4.bw hp2) T4.o T2.o).mono ?_);rintro e9 w4 ⟨p3,rfl,hp3,hp4⟩;have hp24:=zaa hp2 hp4;have hp14:=hp1.bw hp4;have X5:=HX4.o.bS hp4;have Y5:=HY4.o.bS hp4;have HX5:=zH X5;have HY5:=zH Y5;obtain⟨_,q1,q2,q3,q4,q5,q6⟩:=X5;obtain⟨_,r1,r2,r3,r4,r5,r6⟩:=Y5)
   |(go_at_call 142;(with_reducible refine(zlc _ p1 p3 (n*m) (d*e) _ hp14.nat hp3.nat HDE.o N1.o N2.o).mono ?_);rintro e9 w5 ⟨v,er,rfl,hv1,hv2,hv3⟩;obtain⟨t9,x9,y9,rfl,⟨a1,l91,k1,rfl,_⟩,⟨a2,l92,k2,rfl,_⟩⟩:=zdc (w0:=w) hv2 hv3;have hp26:=zaa hp24 hv1;have X6:=HX5.o.bS hv1;have Y6:=HY5.o.bS hv1;have Z6:=HZ3.o.bS hp26;have HZ6:=zH Z6;obtain⟨_,q1,q2,q3,q4,q5,q6⟩:=X6;obtain⟨_,r1,r2,r3,r4,r5,r6⟩:=Y6;obtain⟨_,z1,z2,z3,z4,z5,z6⟩:=Z6))
  all_goals
   go_wp2_with fail;refine zla rfl rfl Tryz.aggF Tryz.sizeF (HZ6.o.set _ _ _) rfl ?_;rw[HQ.o];exact⟨_,_,rfl,zga (hD.trans (hp26.mono hD.size)) zO _ _ _,λ h=>⟨(hv2 h).1,(hv2 h).2.set3 HZ6.o zZ zZ _ _ _⟩,hv3⟩
 ·go_region_held3 (λ w'=>w'.cell? ⟨w.heap.size,0,none⟩=some (.bool false)/\w'.cell? ⟨w.heap.size,1,none⟩=some (.slice an ln kn)/\w'.cell? ⟨w.heap.size,2,none⟩=some (.slice ad ld kd)/\w'.cell? ⟨w.heap.size+1,0,none⟩=some (.bool true)/\w'.cell? ⟨w.heap.size+1,1,none⟩=some (.slice am lm km)/\w'.cell? ⟨w.heap.size+1,2,none⟩=some (.slice ae le ke)) (first | with_reducible exact⟨q1,q2,q3,r1,r2,r3⟩ | (refine⟨?_,?_,?_,?_,?_,?_⟩<;>go_simp)) (first
   |(go_at_call 157;have _t:=tok1;clear tok1 _t;(with_reducible refine(zsb _ _ n m _ g1 g3 T1.o T3.o).mono ?_);rintro e9 w3 ⟨p1,rfl,hp1,hp2⟩;have X4:=HX3.o.bS hp2;have Y4:=HY3.o.bS hp2;have HX4:=zH X4;have HY4:=zH Y4;obtain⟨_,q1,q2,q3,q4,q5,q6⟩:=X4;obtain⟨_,r1,r2,r3,r4,r5,r6⟩:=Y4)
   |(go_at_call 157;(with_reducible refine(zsb _ _ d e _ (g2.bw hp2) (g4.bw hp2) T4.o T2.o).mono ?_);rintro e9 w4 ⟨p3,rfl,hp3,hp4⟩;have hp24:=zaa hp2 hp4;have hp14:=hp1.bw hp4;have X5:=HX4.o.bS hp4;have Y5:=HY4.o.bS hp4;have HX5:=zH X5;have HY5:=zH Y5;obtain⟨_,q1,q2,q3,q4,q5,q6⟩:=X5;obtain⟨_,r1,r2,r3,r4,r5,r6⟩:=Y5)
   |(go_at_call 142;(with_reducible refine(zlc _ p1 p3 (n*m) (d*e) _ hp14.nat hp3.nat HDE.o N1.o N2.o).mono ?_);rintro e9 w5 ⟨v,er,rfl,hv1,hv2,hv3⟩;obtain⟨t9,x9,y9,rfl,⟨a1,l91,k1,rfl,_⟩,⟨a2,l92,k2,rfl,_⟩⟩:=zdc (w0:=w) hv2 hv3;have hp26:=zaa hp24 hv1;have X6:=HX5.o.bS hv1;have Y6:=HY5.o.bS hv1;have Z6:=HZ3.o.bS hp26;have HZ6:=zH Z6;obtain⟨_,q1,q2,q3,q4,q5,q6⟩:=X6;obtain⟨_,r1,r2,r3,r4,r5,r6⟩:=Y6;obtain⟨_,z1,z2,z3,z4,z5,z6⟩:=Z6))
  all_goals
   go_wp2_with fail;refine zla rfl rfl Tryz.aggF Tryz.sizeF (HZ6.o.set _ _ _) rfl ?_;rw[HQ.o];exact⟨_,_,rfl,zga (hD.trans (hp26.mono hD.size)) zO _ _ _,λ h=>⟨(hv2 h).1,(hv2 h).2.set3 HZ6.o zZ zZ _ _ _⟩,hv3⟩
 ·go_region_held3 (λ w'=>w'.cell? ⟨w.heap.size,0,none⟩=some (.bool true)/\w'.cell? ⟨w.heap.size,1,none⟩=some (.slice an ln kn)/\w'.cell? ⟨w.heap.size,2,none⟩=some (.slice ad ld kd)/\w'.cell? ⟨w.heap.size+1,0,none⟩=some (.bool false)/\w'.cell? ⟨w.heap.size+1,1,none⟩=some (.slice am lm km)/\w'.cell? ⟨w.heap.size+1,2,none⟩=some (.slice ae le ke)) (first | with_reducible exact⟨q1,q2,q3,r1,r2,r3⟩ | (refine⟨?_,?_,?_,?_,?_,?_⟩<;>go_simp)) (first
   |(go_at_call 157;have _t:=tok1;clear tok1 _t;(with_reducible refine(zsb _ _ n m _ g1 g3 T1.o T3.o).mono ?_);rintro e9 w3 ⟨p1,rfl,hp1,hp2⟩;have X4:=HX3.o.bS hp2;have Y4:=HY3.o.bS hp2;have HX4:=zH X4;have HY4:=zH Y4;obtain⟨_,q1,q2,q3,q4,q5,q6⟩:=X4;obtain⟨_,r1,r2,r3,r4,r5,r6⟩:=Y4)
   |(go_at_call 157;(with_reducible refine(zsb _ _ d e _ (g2.bw hp2) (g4.bw hp2) T4.o T2.o).mono ?_);rintro e9 w4 ⟨p3,rfl,hp3,hp4⟩;have hp24:=zaa hp2 hp4;have hp14:=hp1.bw hp4;have X5:=HX4.o.bS hp4;have Y5:=HY4.o.bS hp4;have HX5:=zH X5;have HY5:=zH Y5;obtain⟨_,q1,q2,q3,q4,q5,q6⟩:=X5;obtain⟨_,r1,r2,r3,r4,r5,r6⟩:=Y5)
   |(go_at_call 142;(with_reducible refine(zlc _ p1 p3 (n*m) (d*e) _ hp14.nat hp3.nat HDE.o N1.o N2.o).mono ?_);rintro e9 w5 ⟨v,er,rfl,hv1,hv2,hv3⟩;obtain⟨t9,x9,y9,rfl,⟨a1,l91,k1,rfl,_⟩,⟨a2,l92,k2,rfl,_⟩⟩:=zdc (w0:=w) hv2 hv3;have hp26:=zaa hp24 hv1;have X6:=HX5.o.bS hv1;have Y6:=HY5.o.bS hv1;have Z6:=HZ3.o.bS hp26;have HZ6:=zH Z6;obtain⟨_,q1,q2,q3,q4,q5,q6⟩:=X6;obtain⟨_,r1,r2,r3,r4,r5,r6⟩:=Y6;obtain⟨_,z1,z2,z3,z4,z5,z6⟩:=Z6))
  all_goals
   go_wp2_with fail;refine zla rfl rfl Tryz.aggF Tryz.sizeF (HZ6.o.set _ _ _) rfl ?_;rw[HQ.o];exact⟨_,_,rfl,zga (hD.trans (hp26.mono hD.size)) zO _ _ _,λ h=>⟨(hv2 h).1,(hv2 h).2.set3 HZ6.o zZ zZ _ _ _⟩,hv3⟩
 ·go_region_held3 (λ w'=>w'.cell? ⟨w.heap.size,0,none⟩=some (.bool true)/\w'.cell? ⟨w.heap.size,1,none⟩=some (.slice an ln kn)/\w'.cell? ⟨w.heap.size,2,none⟩=some (.slice ad ld kd)/\w'.cell? ⟨w.heap.size+1,0,none⟩=some (.bool true)/\w'.cell? ⟨w.heap.size+1,1,none⟩=some (.slice am lm km)/\w'.cell? ⟨w.heap.size+1,2,none⟩=some (.slice ae le ke)) (first | with_reducible exact⟨q1,q2,q3,r1,r2,r3⟩ | (refine⟨?_,?_,?_,?_,?_,?_⟩<;>go_simp)) (first
   |(go_at_call 157;have _t:=tok1;clear tok1 _t;(with_reducible refine(zsb _ _ n m _ g1 g3 T1.o T3.o).mono ?_);rintro e9 w3 ⟨p1,rfl,hp1,hp2⟩;have X4:=HX3.o.bS hp2;have Y4:=HY3.o.bS hp2;have HX4:=zH X4;have HY4:=zH Y4;obtain⟨_,q1,q2,q3,q4,q5,q6⟩:=X4;obtain⟨_,r1,r2,r3,r4,r5,r6⟩:=Y4)
   |(go_at_call 157;(with_reducible refine(zsb _ _ d e _ (g2.bw hp2) (g4.bw hp2) T4.o T2.o).mono ?_);rintro e9 w4 ⟨p3,rfl,hp3,hp4⟩;have hp24:=zaa hp2 hp4;have hp14:=hp1.bw hp4;have X5:=HX4.o.bS hp4;have Y5:=HY4.o.bS hp4;have HX5:=zH X5;have HY5:=zH Y5;obtain⟨_,q1,q2,q3,q4,q5,q6⟩:=X5;obtain⟨_,r1,r2,r3,r4,r5,r6⟩:=Y5)
   |(go_at_call 142;(with_reducible refine(zlc _ p1 p3 (n*m) (d*e) _ hp14.nat hp3.nat HDE.o N1.o N2.o).mono ?_);rintro e9 w5 ⟨v,er,rfl,hv1,hv2,hv3⟩;obtain⟨t9,x9,y9,rfl,⟨a1,l91,k1,rfl,_⟩,⟨a2,l92,k2,rfl,_⟩⟩:=zdc (w0:=w) hv2 hv3;have hp26:=zaa hp24 hv1;have X6:=HX5.o.bS hv1;have Y6:=HY5.o.bS hv1;have Z6:=HZ3.o.bS hp26;have HZ6:=zH Z6;obtain⟨_,q1,q2,q3,q4,q5,q6⟩:=X6;obtain⟨_,r1,r2,r3,r4,r5,r6⟩:=Y6;obtain⟨_,z1,z2,z3,z4,z5,z6⟩:=Z6))
  all_goals
   go_wp2_with fail;refine zla rfl rfl Tryz.aggF Tryz.sizeF (HZ6.o.set _ _ _) rfl ?_;rw[HQ.o];exact⟨_,_,rfl,zga (hD.trans (hp26.mono hD.size)) zO _ _ _,λ h=>⟨(hv2 h).1,(hv2 h).2.set3 HZ6.o zZ zZ _ _ _⟩,hv3⟩
set_option maxRecDepth 100000 in
theorem quo_frac (va vb:Value) (s t:Bool) (n d m e:Nat) (w:World) (ha:zzb w va s n d) (hb:zzb w vb t m e) (h1:okN n d) (h2:okN m e) (hm:m≠0):
 Calls Tryz.prog 161 #[va,vb] w (zhl w (fq s n d/fq t m e)):=by
 have hA:=ha;have hB:=hb;obtain⟨xn,xd,rfl,hxn,hxd⟩:=ha;obtain⟨yn,yd,rfl,hyn,hyd⟩:=hb;obtain⟨an,ln,kn,rfl,_⟩:=hxn.slen.1;obtain⟨ad,ld,kd,rfl,_⟩:=hxd.slen.1;obtain⟨am,lm,km,rfl,_⟩:=hyn.slen.1;obtain⟨ae,le,ke,rfl,_⟩:=hyd.slen.1;have HQ:=zH (fq_quo s t (n:=n) (d:=d) (m:=m) (e:=e) hm h2.1);have K1:=zH h1;have K2:=zH h2;have HM:=zH hm;clear h1 h2;go_enter Tryz.func161,Tryz.ntmps161;go_wp2_with fail;obtain⟨W,hW⟩:∃W,W=(((w.alloc (.cells #[.bool s, .slice an ln kn, .slice ad ld kd] 38)).alloc (.cells #[.bool t, .slice am lm km, .slice ae le ke] 38)).alloc (.cells #[.bool false, .slice none 0 0, .slice none 0 0] 38)):=⟨_,rfl⟩;obtain⟨bx,byy,bz,hbw⟩:=zpb w 38 _ _ _ _ _ _ _ _ _ W hW;rw[<-hW];clear hW;have HBX:=zH bx;have HBY:=zH byy;have HBZ:=zH bz;obtain⟨_,q1,q2,q3,q4,q5,q6⟩:=bx;obtain⟨_,r1,r2,r3,r4,r5,r6⟩:=byy
 go_wp2_with (first
  |(go_at_call 79;first
    |((with_reducible refine(zue _ s n d _ (hA.bw hbw) K1.o).mono ?_);rintro e9 w1 ⟨rfl,hv1⟩
      obtain⟨_,f1,f2,f3,f4,f5,f6⟩:=HBY.o.bS hv1;have hbw1:=hbw.trans (hv1.mono hbw.size))
    |((with_reducible refine(zue _ t m e _ (hB.bw hbw1) K2.o).mono ?_);rintro e9 w2 ⟨rfl,hv2⟩
      have hbx2:=(HBX.o.bS hv1).bS hv2;have hby2:=(HBY.o.bS hv1).bS hv2;have hbz2:=(HBZ.o.bS hv1).bS hv2;have hbw2:=hbw1.trans (hv2.mono hbw1.size);clear f1 f2 f3 f4 f5 f6;obtain⟨_,f1,f2,f3,f4,f5,f6⟩:=id hby2))
  |(go_at_call 186;(with_reducible refine(zzj _ t m e _ (hB.bw hbw2)).mono ?_);rw[zDF HM.o];rintro e9 w2z ⟨rfl,hvz⟩;have hbx2:=hbx2.bS hvz;have hby2:=hby2.bS hvz;have hbz2:=hbz2.bS hvz;have hbw2:=hbw2.trans (hvz.mono hbw2.size)))
 clear q1 q2 q3 q4 q5 q6 r1 r2 r3 r4 r5 r6 f1 f2 f3 f4 f5 f6 hvz;have hd2:=zfa (B:=w2z.heap.size) w2z;have hD:=hbw2.trans (hd2.mono hbw2.size);have hbx3:=hbx2.bS hd2;have hby3:=hby2.bS hd2;have hbz3:=hbz2.bS hd2;have HX3:=zH hbx3;have HY3:=zH hby3;have HZ3:=zH hbz3;clear hbx2 hby2 hbz2 hbw2 hv1 hv2 hbw hbw1 HBX HBY HBZ bz hd2;obtain⟨_,q1,q2,q3,q4,q5,q6⟩:=hbx3;obtain⟨_,r1,r2,r3,r4,r5,r6⟩:=hby3;obtain⟨_,z1,z2,z3,z4,z5,z6⟩:=hbz3;have g1:=hxn.bw hD;have g2:=hxd.bw hD;have g3:=hyn.bw hD;have g4:=hyd.bw hD;have l1:=zH (zfc K1.o);have l2:=zH (zfc K2.o);have T1:=zH (zLT l1.o.1 (show 128<=256 by decide));have T2:=zH (zLT l2.o.2 (show 128<=256 by decide));have T3:=zH (zLT l2.o.1 (show 128<=256 by decide));have T4:=zH (zLT l1.o.2 (show 128<=256 by decide));have N1:=zH (zLT (zuc l1.o.1 l2.o.2) (show 128+128<=512 by decide));have N2:=zH (zLT (zuc l1.o.2 l2.o.1) (show 128+128<=512 by decide));have HDE:zI (d*m≠0):=zH (zMZ K1.o.1 HM.o);have tok1:True:=trivial;rcases s with _ | _<;>rcases t with _ | _
 ·go_region_held3 (λ w'=>w'.cell? ⟨w.heap.size,0,none⟩=some (.bool false)/\w'.cell? ⟨w.heap.size,1,none⟩=some (.slice an ln kn)/\w'.cell? ⟨w.heap.size,2,none⟩=some (.slice ad ld kd)/\w'.cell? ⟨w.heap.size+1,0,none⟩=some (.bool false)/\w'.cell? ⟨w.heap.size+1,1,none⟩=some (.slice am lm km)/\w'.cell? ⟨w.heap.size+1,2,none⟩=some (.slice ae le ke)) (first | with_reducible exact⟨q1,q2,q3,r1,r2,r3⟩ | (refine⟨?_,?_,?_,?_,?_,?_⟩<;>go_simp)) (first
   |(go_at_call 157;have _t:=tok1;clear tok1 _t;(with_reducible refine(zsb _ _ n e _ g1 g4 T1.o T2.o).mono ?_);rintro e9 w3 ⟨p1,rfl,hp1,hp2⟩;have X4:=HX3.o.bS hp2;have Y4:=HY3.o.bS hp2;have HX4:=zH X4;have HY4:=zH Y4;obtain⟨_,q1,q2,q3,q4,q5,q6⟩:=X4;obtain⟨_,r1,r2,r3,r4,r5,r6⟩:=Y4)
   |(go_at_call 157;(with_reducible refine(zsb _ _ d m _ (g2.bw hp2) (g3.bw hp2) T4.o T3.o).mono ?_);rintro e9 w4 ⟨p3,rfl,hp3,hp4⟩;have hp24:=zaa hp2 hp4;have hp14:=hp1.bw hp4;have X5:=HX4.o.bS hp4;have Y5:=HY4.o.bS hp4;have HX5:=zH X5;have HY5:=zH Y5;obtain⟨_,q1,q2,q3,q4,q5,q6⟩:=X5;obtain⟨_,r1,r2,r3,r4,r5,r6⟩:=Y5)
   |(go_at_call 142;(with_reducible refine(zlc _ p1 p3 (n*e) (d*m) _ hp14.nat hp3.nat HDE.o N1.o N2.o).mono ?_);rintro e9 w5 ⟨v,er,rfl,hv1,hv2,hv3⟩;obtain⟨t9,x9,y9,rfl,⟨a1,l91,k1,rfl,_⟩,⟨a2,l92,k2,rfl,_⟩⟩:=zdc (w0:=w) hv2 hv3;have hp26:=zaa hp24 hv1;have X6:=HX5.o.bS hv1;have Y6:=HY5.o.bS hv1;have Z6:=HZ3.o.bS hp26;have HZ6:=zH Z6;obtain⟨_,q1,q2,q3,q4,q5,q6⟩:=X6;obtain⟨_,r1,r2,r3,r4,r5,r6⟩:=Y6;obtain⟨_,z1,z2,z3,z4,z5,z6⟩:=Z6))
  all_goals
   go_wp2_with fail;refine zla rfl rfl Tryz.aggF Tryz.sizeF (HZ6.o.set _ _ _) rfl ?_;rw[HQ.o];exact⟨_,_,rfl,zga (hD.trans (hp26.mono hD.size)) zO _ _ _,λ h=>⟨(hv2 h).1,(hv2 h).2.set3 HZ6.o zZ zZ _ _ _⟩,hv3⟩
 ·go_region_held3 (λ w'=>w'.cell? ⟨w.heap.size,0,none⟩=some (.bool false)/\w'.cell? ⟨w.heap.size,1,none⟩=some (.slice an ln kn)/\w'.cell? ⟨w.heap.size,2,none⟩=some (.slice ad ld kd)/\w'.cell? ⟨w.heap.size+1,0,none⟩=some (.bool true)/\w'.cell? ⟨w.heap.size+1,1,none⟩=some (.slice am lm km)/\w'.cell? ⟨w.heap.size+1,2,none⟩=some (.slice ae le ke)) (first | with_reducible exact⟨q1,q2,q3,r1,r2,r3⟩ | (refine⟨?_,?_,?_,?_,?_,?_⟩<;>go_simp)) (first
   |(go_at_call 157;have _t:=tok1;clear tok1 _t;(with_reducible refine(zsb _ _ n e _ g1 g4 T1.o T2.o).mono ?_);rintro e9 w3 ⟨p1,rfl,hp1,hp2⟩;have X4:=HX3.o.bS hp2;have Y4:=HY3.o.bS hp2;have HX4:=zH X4;have HY4:=zH Y4;obtain⟨_,q1,q2,q3,q4,q5,q6⟩:=X4;obtain⟨_,r1,r2,r3,r4,r5,r6⟩:=Y4)
   |(go_at_call 157;(with_reducible refine(zsb _ _ d m _ (g2.bw hp2) (g3.bw hp2) T4.o T3.o).mono ?_);rintro e9 w4 ⟨p3,rfl,hp3,hp4⟩;have hp24:=zaa hp2 hp4;have hp14:=hp1.bw hp4;have X5:=HX4.o.bS hp4;have Y5:=HY4.o.bS hp4;have HX5:=zH X5;have HY5:=zH Y5;obtain⟨_,q1,q2,q3,q4,q5,q6⟩:=X5;obtain⟨_,r1,r2,r3,r4,r5,r6⟩:=Y5)
   |(go_at_call 142;(with_reducible refine(zlc _ p1 p3 (n*e) (d*m) _ hp14.nat hp3.nat HDE.o N1.o N2.o).mono ?_);rintro e9 w5 ⟨v,er,rfl,hv1,hv2,hv3⟩;obtain⟨t9,x9,y9,rfl,⟨a1,l91,k1,rfl,_⟩,⟨a2,l92,k2,rfl,_⟩⟩:=zdc (w0:=w) hv2 hv3;have hp26:=zaa hp24 hv1;have X6:=HX5.o.bS hv1;have Y6:=HY5.o.bS hv1;have Z6:=HZ3.o.bS hp26;have HZ6:=zH Z6;obtain⟨_,q1,q2,q3,q4,q5,q6⟩:=X6;obtain⟨_,r1,r2,r3,r4,r5,r6⟩:=Y6;obtain⟨_,z1,z2,z3,z4,z5,z6⟩:=Z6))
  all_goals
   go_wp2_with fail;refine zla rfl rfl Tryz.aggF Tryz.sizeF (HZ6.o.set _ _ _) rfl ?_;rw[HQ.o];exact⟨_,_,rfl,zga (hD.trans (hp26.mono hD.size)) zO _ _ _,λ h=>⟨(hv2 h).1,(hv2 h).2.set3 HZ6.o zZ zZ _ _ _⟩,hv3⟩
 ·go_region_held3 (λ w'=>w'.cell? ⟨w.heap.size,0,none⟩=some (.bool true)/\w'.cell? ⟨w.heap.size,1,none⟩=some (.slice an ln kn)/\w'.cell? ⟨w.heap.size,2,none⟩=some (.slice ad ld kd)/\w'.cell? ⟨w.heap.size+1,0,none⟩=some (.bool false)/\w'.cell? ⟨w.heap.size+1,1,none⟩=some (.slice am lm km)/\w'.cell? ⟨w.heap.size+1,2,none⟩=some (.slice ae le ke)) (first | with_reducible exact⟨q1,q2,q3,r1,r2,r3⟩ | (refine⟨?_,?_,?_,?_,?_,?_⟩<;>go_simp)) (first
   |(go_at_call 157;have _t:=tok1;clear tok1 _t;(with_reducible refine(zsb _ _ n e _ g1 g4 T1.o T2.o).mono ?_);rintro e9 w3 ⟨p1,rfl,hp1,hp2⟩;have X4:=HX3.o.bS hp2;have Y4:=HY3.o.bS hp2;have HX4:=zH X4;have HY4:=zH Y4;obtain⟨_,q1,q2,q3,q4,q5,q6⟩:=X4;obtain⟨_,r1,r2,r3,r4,r5,r6⟩:=Y4)
   |(go_at_call 157;(with_reducible refine(zsb _ _ d m _ (g2.bw hp2) (g3.bw hp2) T4.o T3.o).mono ?_);rintro e9 w4 ⟨p3,rfl,hp3,hp4⟩;have hp24:=zaa hp2 hp4;have hp14:=hp1.bw hp4;have X5:=HX4.o.bS hp4;have Y5:=HY4.o.bS hp4;have HX5:=zH X5;have HY5:=zH Y5;obtain⟨_,q1,q2,q3,q4,q5,q6⟩:=X5;obtain⟨_,r1,r2,r3,r4,r5,r6⟩:=Y5)
   |(go_at_call 142;(with_reducible refine(zlc _ p1 p3 (n*e) (d*m) _ hp14.nat hp3.nat HDE.o N1.o N2.o).mono ?_);rintro e9 w5 ⟨v,er,rfl,hv1,hv2,hv3⟩;obtain⟨t9,x9,y9,rfl,⟨a1,l91,k1,rfl,_⟩,⟨a2,l92,k2,rfl,_⟩⟩:=zdc (w0:=w) hv2 hv3;have hp26:=zaa hp24 hv1;have X6:=HX5.o.bS hv1;have Y6:=HY5.o.bS hv1;have Z6:=HZ3.o.bS hp26;have HZ6:=zH Z6;obtain⟨_,q1,q2,q3,q4,q5,q6⟩:=X6;obtain⟨_,r1,r2,r3,r4,r5,r6⟩:=Y6;obtain⟨_,z1,z2,z3,z4,z5,z6⟩:=Z6))
  all_goals
   go_wp2_with fail;refine zla rfl rfl Tryz.aggF Tryz.sizeF (HZ6.o.set _ _ _) rfl ?_;rw[HQ.o];exact⟨_,_,rfl,zga (hD.trans (hp26.mono hD.size)) zO _ _ _,λ h=>⟨(hv2 h).1,(hv2 h).2.set3 HZ6.o zZ zZ _ _ _⟩,hv3⟩
 ·go_region_held3 (λ w'=>w'.cell? ⟨w.heap.size,0,none⟩=some (.bool true)/\w'.cell? ⟨w.heap.size,1,none⟩=some (.slice an ln kn)/\w'.cell? ⟨w.heap.size,2,none⟩=some (.slice ad ld kd)/\w'.cell? ⟨w.heap.size+1,0,none⟩=some (.bool true)/\w'.cell? ⟨w.heap.size+1,1,none⟩=some (.slice am lm km)/\w'.cell? ⟨w.heap.size+1,2,none⟩=some (.slice ae le ke)) (first | with_reducible exact⟨q1,q2,q3,r1,r2,r3⟩ | (refine⟨?_,?_,?_,?_,?_,?_⟩<;>go_simp)) (first
   |(go_at_call 157;have _t:=tok1;clear tok1 _t;(with_reducible refine(zsb _ _ n e _ g1 g4 T1.o T2.o).mono ?_);rintro e9 w3 ⟨p1,rfl,hp1,hp2⟩;have X4:=HX3.o.bS hp2;have Y4:=HY3.o.bS hp2;have HX4:=zH X4;have HY4:=zH Y4;obtain⟨_,q1,q2,q3,q4,q5,q6⟩:=X4;obtain⟨_,r1,r2,r3,r4,r5,r6⟩:=Y4)
   |(go_at_call 157;(with_reducible refine(zsb _ _ d m _ (g2.bw hp2) (g3.bw hp2) T4.o T3.o).mono ?_);rintro e9 w4 ⟨p3,rfl,hp3,hp4⟩;have hp24:=zaa hp2 hp4;have hp14:=hp1.bw hp4;have X5:=HX4.o.bS hp4;have Y5:=HY4.o.bS hp4;have HX5:=zH X5;have HY5:=zH Y5;obtain⟨_,q1,q2,q3,q4,q5,q6⟩:=X5;obtain⟨_,r1,r2,r3,r4,r5,r6⟩:=Y5)
   |(go_at_call 142;(with_reducible refine(zlc _ p1 p3 (n*e) (d*m) _ hp14.nat hp3.nat HDE.o N1.o N2.o).mono ?_);rintro e9 w5 ⟨v,er,rfl,hv1,hv2,hv3⟩;obtain⟨t9,x9,y9,rfl,⟨a1,l91,k1,rfl,_⟩,⟨a2,l92,k2,rfl,_⟩⟩:=zdc (w0:=w) hv2 hv3;have hp26:=zaa hp24 hv1;have X6:=HX5.o.bS hv1;have Y6:=HY5.o.bS hv1;have Z6:=HZ3.o.bS hp26;have HZ6:=zH Z6;obtain⟨_,q1,q2,q3,q4,q5,q6⟩:=X6;obtain⟨_,r1,r2,r3,r4,r5,r6⟩:=Y6;obtain⟨_,z1,z2,z3,z4,z5,z6⟩:=Z6))
  all_goals
   go_wp2_with fail;refine zla rfl rfl Tryz.aggF Tryz.sizeF (HZ6.o.set _ _ _) rfl ?_;rw[HQ.o];exact⟨_,_,rfl,zga (hD.trans (hp26.mono hD.size)) zO _ _ _,λ h=>⟨(hv2 h).1,(hv2 h).2.set3 HZ6.o zZ zZ _ _ _⟩,hv3⟩
set_option maxRecDepth 100000 in
set_option maxHeartbeats 1600000 in
theorem sub_frac (va vb:Value) (s t:Bool) (n d m e:Nat) (w:World) (ha:zzb w va s n d) (hb:zzb w vb t m e) (h1:okN n d) (h2:okN m e):
 Calls Tryz.prog 163 #[va,vb] w (zhl w (fq s n d-fq t m e)):=by
 have hA:=ha;have hB:=hb;obtain⟨xn,xd,rfl,hxn,hxd⟩:=ha;obtain⟨yn,yd,rfl,hyn,hyd⟩:=hb;obtain⟨an,ln,kn,rfl,_⟩:=hxn.slen.1;obtain⟨ad,ld,kd,rfl,_⟩:=hxd.slen.1;obtain⟨am,lm,km,rfl,_⟩:=hyn.slen.1;obtain⟨ae,le,ke,rfl,_⟩:=hyd.slen.1;have HQ:=zH (fq_sub s t n d m e h2.1);have K1:=zH h1;have K2:=zH h2;clear h1 h2 hxn hxd hyn hyd;go_enter Tryz.func163,Tryz.ntmps163;go_wp2_with fail;obtain⟨W,hW⟩:∃W,W=(((w.alloc (.cells #[.bool s, .slice an ln kn, .slice ad ld kd] 38)).alloc (.cells #[.bool t, .slice am lm km, .slice ae le ke] 38)).alloc (.cells #[.bool false, .slice none 0 0, .slice none 0 0] 38)):=⟨_,rfl⟩;obtain⟨bx,byy,bz,hbw⟩:=zpb w 38 _ _ _ _ _ _ _ _ _ W hW;rw[<-hW];clear hW;have hd2:=zfa (B:=W.heap.size) W;have hD:=hbw.trans (hd2.mono hbw.size);have hbx3:=bx.bS hd2;have hby3:=byy.bS hd2;have hbz3:=bz.bS hd2;have HX3:=zH hbx3;have HY3:=zH hby3;have HZ3:=zH hbz3;have gA:=hA.bw hD;have gB:=hB.bw hD;clear bx byy bz hbw hA hB hd2;obtain⟨_,q1,q2,q3,q4,q5,q6⟩:=hbx3;obtain⟨_,r1,r2,r3,r4,r5,r6⟩:=hby3;obtain⟨_,z1,z2,z3,z4,z5,z6⟩:=hbz3
 go_region_held3 (λ w'=>w'.cell? ⟨w.heap.size,0,none⟩=some (.bool s)/\w'.cell? ⟨w.heap.size,1,none⟩=some (.slice an ln kn)/\w'.cell? ⟨w.heap.size,2,none⟩=some (.slice ad ld kd)/\w'.cell? ⟨w.heap.size+1,0,none⟩=some (.bool t)/\w'.cell? ⟨w.heap.size+1,1,none⟩=some (.slice am lm km)/\w'.cell? ⟨w.heap.size+1,2,none⟩=some (.slice ae le ke)) (first | with_reducible exact⟨q1,q2,q3,r1,r2,r3⟩ | (refine⟨?_,?_,?_,?_,?_,?_⟩<;>go_simp)) (first
  |(go_at_call 202;(with_reducible refine(fminus_any _ t m e _ gB).mono ?_);rintro e9 w3 ⟨v3,rfl,hv3,hb3⟩;have gA3:=gA.bw hb3;have X4:=HX3.o.bS hb3;have Y4:=HY3.o.bS hb3;have HX4:=zH X4;have HY4:=zH Y4;obtain⟨_,q1,q2,q3,q4,q5,q6⟩:=X4;obtain⟨_,r1,r2,r3,r4,r5,r6⟩:=Y4)
  |(go_at_call 80;(with_reducible refine(ztr _ _ s (!t) n d m e _ gA3 hv3 K1.o K2.o).mono ?_);rintro e9 w5 ⟨v,er,rfl,hv1,hv2,hv4⟩;obtain⟨t9,x9,y9,rfl,⟨a1,l91,k1,rfl,_⟩,⟨a2,l92,k2,rfl,_⟩⟩:=zdc (w0:=w) hv2 hv4;have hp26:=zaa hb3 hv1;have X6:=HX4.o.bS hv1;have Y6:=HY4.o.bS hv1;have Z6:=HZ3.o.bS hp26;have HZ6:=zH Z6;obtain⟨_,q1,q2,q3,q4,q5,q6⟩:=X6;obtain⟨_,r1,r2,r3,r4,r5,r6⟩:=Y6;obtain⟨_,z1,z2,z3,z4,z5,z6⟩:=Z6))
 all_goals
  go_wp2_with fail;refine zla rfl rfl Tryz.aggF Tryz.sizeF (HZ6.o.set _ _ _) rfl ?_;rw[HQ.o];exact⟨_,_,rfl,zga (hD.trans (hp26.mono hD.size)) zO _ _ _,λ h=>⟨(hv2 h).1,(hv2 h).2.set3 HZ6.o zZ zZ _ _ _⟩,hv4⟩
theorem sub_can (va vb:Value) (p q:Rat) (w:World) (ha:zia w va p) (hb:zia w vb q) (hp:fits p) (hq:fits q) (hr:fits (p-q)):Calls Tryz.prog 163 #[va,vb] w (RF0 w (p-q)):=by
 have:=sub_frac va vb _ _ _ _ _ _ w ha.raw hb.raw (zvb hp) (zvb hq);rw[zmb,zmb]at this;exact this.mono λ _ _ h=>h.ok rfl hr
theorem zqj (va vb:Value) (p q:Rat) (w:World) (ha:zia w va p) (hb:zia w vb q) (hp:fits p) (hq:fits q) (hr:fits (p*q)):Calls Tryz.prog 131 #[va,vb] w (RF0 w (p*q)):=by
 have:=mul_frac va vb _ _ _ _ _ _ w ha.raw hb.raw (zvb hp) (zvb hq);rw[zmb,zmb]at this;exact this.mono λ _ _ h=>h.ok rfl hr
theorem add_can (va vb:Value) (p q:Rat) (w:World) (ha:zia w va p) (hb:zia w vb q) (hp:fits p) (hq:fits q) (hr:fits (p+q)):Calls Tryz.prog 80 #[va,vb] w (RF0 w (p+q)):=by
 have:=ztr va vb _ _ _ _ _ _ w ha.raw hb.raw (zvb hp) (zvb hq);rw[zmb,zmb]at this;exact this.mono λ _ _ h=>h.ok rfl hr
theorem quo_can (va vb:Value) (p q:Rat) (w:World) (ha:zia w va p) (hb:zia w vb q) (hp:fits p) (hq:fits q) (hq0:q≠0) (hr:fits (p/q)):Calls Tryz.prog 161 #[va,vb] w (RF0 w (p/q)):=by
 have:=quo_frac va vb _ _ _ _ _ _ w ha.raw hb.raw (zvb hp) (zvb hq) (λ h=>hq0 (Rat.num_eq_zero.1 zO));rw[zmb,zmb]at this;exact this.mono λ _ _ h=>h.ok rfl hr
end Go.Proofs.YtlpdkbmmbdfoiaaGreat
