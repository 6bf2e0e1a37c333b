/- Lemmas. -/
import Derived.Test.YtkpedaflofejnaaGreatMRw2
set_option linter.unusedVariables false
set_option linter.unusedSimpArgs false
namespace Go.Proofs.YtkpedaflofejnaaGreat
set_option maxHeartbeats 1600000
open Go.RowKit
set_option maxRecDepth 100000 in
theorem zep (va:Value) (x:RF) (w:World) (ha:zjc w va x.neg x.n x.d):Calls Tryz.prog 158 #[va] w (RSame w (zre x)):=by
 obtain⟨xn,xd,rfl,hxn,hxd⟩:=id ha;obtain⟨an,an1,kn,rfl,_⟩:=hxn.slen.1;obtain⟨ad,ad1,kd,rfl,_⟩:=hxd.slen.1;have hbx:=zba w (.cells #[.bool x.neg, .slice an an1 kn, .slice ad ad1 kd] 53);have HA:=zH (ha.bw hbx);have hC:=C3.new w 53 (.bool x.neg) (.slice an an1 kn) (.slice ad ad1 kd);obtain⟨_,c0,c1,c2,_,_,_⟩:=hC;obtain⟨ln,hln⟩:∃ln,zda x.q.num.natAbs=ln:=⟨_,rfl⟩;obtain⟨ld,hld⟩:∃ld,zda x.q.den=ld:=⟨_,rfl⟩
 have HP:zI (x.ok->(zre x↔¬x.q<0/\ln<=4/\ld<=4)):=zH (λ h=>by
  unfold zre;rw[hln,hld];exact⟨λ h1=>h1.2,λ h1=>⟨h,h1⟩⟩)
 have HLN:=zH hln;have HLD:=zH hld;clear ha hxn hxd hln hld;by_cases hx:x.ok
 ·have HX:=zH hx;clear hx;by_cases h1:x.q<0
  ·have hd1:decide (x.q<0)=true:=zDT h1;have HB:=zH (λ h=>((HP.o HX.o).1 h).1 h1);clear h1;go_enter Tryz.func158,Tryz.ntmps158
   go_wp2_with (first
    |(go_at_call 112;(with_reducible refine(zbd _ x _ HA.o HX.o).mono ?_);rintro e w7 ⟨v,rfl,hv,hb7⟩;obtain⟨xa2,xb2,rfl,hxa2,hxb2⟩:=hv;obtain⟨y1,y2,y3,rfl,_⟩:=id hxa2.v.sl;obtain⟨y4,y5,y6,rfl,_⟩:=id hxb2.v.sl;have e2:y2=ln:=hxa2.v.len.trans HLN.o;have e5:y5=ld:=hxb2.v.len.trans HLD.o;subst e2 e5;have hb9:=zba w7 (.cells #[.bool (decide (x.q<0)), .slice y1 y2 y3, .slice y4 y5 y6] 53);have hC9:=C3.new w7 53 (.bool (decide (x.q<0))) (.slice y1 y2 y3) (.slice y4 y5 y6);(have hb8:=fun(b:Bool)=>zaa (zaa hbx hb7) (zba w7 (.cells #[.bool b, .slice y1 y2 y3, .slice y4 y5 y6] 53)));obtain⟨_,f0,f1,f2,_,_,_⟩:=hC9))
   go_ret;exact⟨⟨_,rfl,by simp,λ h=>absurd h HB.o⟩,hb8 _⟩
  ·have hd1:decide (x.q<0)=false:=zDF h1;have HPP:=zH (HP.o HX.o);have H1:=zH h1;clear h1;by_cases g2:ln<=4
   ·by_cases g3:ld<=4
    ·have HG:=zH (HPP.o.2 ⟨H1.o,g2,g3⟩);go_enter Tryz.func158,Tryz.ntmps158
     go_wp2_with (first
      |(go_at_call 112;(with_reducible refine(zbd _ x _ HA.o HX.o).mono ?_);rintro e w7 ⟨v,rfl,hv,hb7⟩;obtain⟨xa2,xb2,rfl,hxa2,hxb2⟩:=hv;obtain⟨y1,y2,y3,rfl,_⟩:=id hxa2.v.sl;obtain⟨y4,y5,y6,rfl,_⟩:=id hxb2.v.sl;have e2:y2=ln:=hxa2.v.len.trans HLN.o;have e5:y5=ld:=hxb2.v.len.trans HLD.o;subst e2 e5;have hb9:=zba w7 (.cells #[.bool (decide (x.q<0)), .slice y1 y2 y3, .slice y4 y5 y6] 53);have hC9:=C3.new w7 53 (.bool (decide (x.q<0))) (.slice y1 y2 y3) (.slice y4 y5 y6);(have hb8:=fun(b:Bool)=>zaa (zaa hbx hb7) (zba w7 (.cells #[.bool b, .slice y1 y2 y3, .slice y4 y5 y6] 53)));obtain⟨_,f0,f1,f2,_,_,_⟩:=hC9))
     go_ret;exact⟨⟨_,rfl,λ _=>HG.o,λ _=>by simp;omega⟩,hb8 _⟩
    ·have HB:=zH (λ h=>g3 (HPP.o.1 h).2.2);go_enter Tryz.func158,Tryz.ntmps158
     go_wp2_with (first
      |(go_at_call 112;(with_reducible refine(zbd _ x _ HA.o HX.o).mono ?_);rintro e w7 ⟨v,rfl,hv,hb7⟩;obtain⟨xa2,xb2,rfl,hxa2,hxb2⟩:=hv;obtain⟨y1,y2,y3,rfl,_⟩:=id hxa2.v.sl;obtain⟨y4,y5,y6,rfl,_⟩:=id hxb2.v.sl;have e2:y2=ln:=hxa2.v.len.trans HLN.o;have e5:y5=ld:=hxb2.v.len.trans HLD.o;subst e2 e5;have hb9:=zba w7 (.cells #[.bool (decide (x.q<0)), .slice y1 y2 y3, .slice y4 y5 y6] 53);have hC9:=C3.new w7 53 (.bool (decide (x.q<0))) (.slice y1 y2 y3) (.slice y4 y5 y6);(have hb8:=fun(b:Bool)=>zaa (zaa hbx hb7) (zba w7 (.cells #[.bool b, .slice y1 y2 y3, .slice y4 y5 y6] 53)));obtain⟨_,f0,f1,f2,_,_,_⟩:=hC9))
     go_ret;exact⟨⟨_,rfl,by simp;omega,λ h=>absurd h HB.o⟩,hb8 _⟩
   ·have HB:=zH (λ h=>g2 (HPP.o.1 h).2.1);go_enter Tryz.func158,Tryz.ntmps158
    go_wp2_with (first
     |(go_at_call 112;(with_reducible refine(zbd _ x _ HA.o HX.o).mono ?_);rintro e w7 ⟨v,rfl,hv,hb7⟩;obtain⟨xa2,xb2,rfl,hxa2,hxb2⟩:=hv;obtain⟨y1,y2,y3,rfl,_⟩:=id hxa2.v.sl;obtain⟨y4,y5,y6,rfl,_⟩:=id hxb2.v.sl;have e2:y2=ln:=hxa2.v.len.trans HLN.o;have e5:y5=ld:=hxb2.v.len.trans HLD.o;subst e2 e5;have hb9:=zba w7 (.cells #[.bool (decide (x.q<0)), .slice y1 y2 y3, .slice y4 y5 y6] 53);have hC9:=C3.new w7 53 (.bool (decide (x.q<0))) (.slice y1 y2 y3) (.slice y4 y5 y6);(have hb8:=fun(b:Bool)=>zaa (zaa hbx hb7) (zba w7 (.cells #[.bool b, .slice y1 y2 y3, .slice y4 y5 y6] 53)));obtain⟨_,f0,f1,f2,_,_,_⟩:=hC9))
    go_ret;exact⟨⟨_,rfl,by simp,λ h=>absurd h HB.o⟩,hb8 _⟩
 ·have HX:=zH hx;have HB:zI (¬zre x):=zH (λ h=>hx h.1);clear hx;go_enter Tryz.func158,Tryz.ntmps158;go_wp2_with (go_at_call 112;(with_reducible refine(zuh _ x.neg x.n x.d _ HA.o).mono ?_);rintro e w7 ⟨v,er,rfl,hb7,_,hv⟩;obtain⟨rfl,rfl⟩:=hv HX.o;unfold zeroF;have hb8:=zaa (zaa hbx hb7) (zba w7 (.cells #[.bool false, .slice none 0 0, .slice none 0 0] 53)));go_ret;exact⟨⟨_,rfl,by simp,λ h=>absurd h HB.o⟩,hb8⟩
set_option maxRecDepth 100000 in
theorem zff (va:Value) (l:List RF) (n:Nat) (w:World) (ha:zte w va l) (hn:n<=65536):
 Calls Tryz.prog 143 #[va, .int .i64 n] w (RSame w (zoj l n)):=by
 have sa:=ha.sl;have la:=ha.len;have hle:=sa.le;rw[la]at hle;have hlb:l.length<=9223372036854775807:=zO;clear hle;by_cases hln:l.length=n
 ·subst hln;go_enter Tryz.func143,Tryz.ntmps143;go_wp2_with fail;go_loopw [5] (λ u5 wr=>∃ (k:Nat),k<=l.length/\u5= .int .i64 k/\(∀x∈l.take k,zre x)/\Below w.heap.size w wr) (λ u5 _=>l.length- (intOf u5).toNat);case atStart=>exact⟨0,zZL _,rfl,by simp,zBR _ _⟩
  case round=>
   obtain⟨k,hk,rfl,hpl,hb⟩:=hrel;have HPL:=zH hpl;clear hpl;by_cases hkl:k<l.length
   ·obtain⟨xa,xb,c1,c2,c3,hxa,hxb⟩:=(ha.bw hb).at' k hkl;obtain⟨c1a,c1l,c1k,rfl,_⟩:=hxa.slen.1;obtain⟨c2a,c2l,c2k,rfl,_⟩:=hxb.slen.1;have HBADx:zI (¬zre l[k]->¬zoj l l.length):=zH (λ h h'=>h (h'.1 _ (zGM hkl)))
    have HNEXT:zI (zre l[k]->∀x∈l.take (k+1),zre x):=zH (λ h x hx=>by
     rw[zce l k hkl,List.mem_append,List.mem_singleton]at hx;rcases hx with hx | rfl
     ·exact HPL.o x hx
     ·exact h)
    generalize l[k]'hkl=x at *
    have HA:zI (zjc wr (.agg #[.bool x.neg, .slice c1a c1l c1k, .slice c2a c2l c2k]) x.neg x.n x.d):=zH ⟨_,_,rfl,hxa,hxb⟩;have i1:(0:Int)<=(k:Int):=zO;have i2:(k:Int)<(l.length:Nat):=zO;clear hxa hxb;by_cases hp:zre x
    ·have HGOOD:=zH (HNEXT.o hp);have HP:=zH hp;clear hp;go_wp2_with (go_at_call 158;(with_reducible refine(zep _ x _ HA.o).mono ?_);rintro e9 w9 ⟨⟨b9,rfl,hb9⟩,hbel9⟩;obtain rfl:b9=true:=hb9.2 HP.o;clear hb9);go_roundw;(case rel=>exact⟨k+1,hkl,by go_num,HGOOD.o,zaa hb hbel9⟩);case measure=>simp[intOf];omega
    ·have HBAD:=zH (HBADx.o hp);have HP:=zH hp;clear hp;go_wp2_with (go_at_call 158;(with_reducible refine(zep _ x _ HA.o).mono ?_);rintro e9 w9 ⟨⟨b9,rfl,hb9⟩,hbel9⟩;obtain rfl:b9=false:=Bool.eq_false_iff.2 (λ h=>HP.o (hb9.1 h));clear hb9);go_ret;exact⟨⟨_,rfl,by simp,λ h=>absurd h HBAD.o⟩,zaa hb hbel9⟩
   ·obtain rfl:k=l.length:=zO;have HALL:zI (∀x∈l,zre x):=zH (by have:=HPL.o;rwa[List.take_length]at this);have HOK9:zI (∀x∈l,x.ok):=zH (λ x hx=>(HALL.o x hx).1);go_wp2_with (go_at_call 159;(with_reducible refine(rweight_any _ l _ (ha.bw hb) HOK9.o hn).mono ?_);rintro e9 w9 ⟨rfl,hbel9⟩);go_ret;refine⟨⟨_,rfl,?_⟩,zaa hb hbel9⟩;unfold zoj;have h9:=HALL.o;simp;exact⟨λ h=>⟨h9,zO⟩,λ h=>zO⟩
 ·have hb:(((l.length:Nat):Int) != (n:Nat))=true:=by simp;omega
  have HB:zI (¬zoj l n):=zH (λ h=>hln h.2.1);clear hln;go_enter Tryz.func143,Tryz.ntmps143;go_wp2_with fail;go_ret;exact⟨⟨_,rfl,by simp,λ h=>absurd h HB.o⟩,zBR _ _⟩
end Go.Proofs.YtkpedaflofejnaaGreat
namespace Go.Proofs.YtkpedaflofejnaaGreat
theorem wts_zero :∀ {l:List Rat},wts l=0->∀q∈l,q=0:=by
 intro l
 induction l with
 | nil=>intro _ q hq;simp at hq
 | cons x l ih=>
   intro h q hq;rw[zpf]at h;rcases List.mem_cons.1 hq with rfl | hq
   ·have h1:wt q=0:=zO
    have h2:q.num=0:=by
     unfold Go.Proofs.YtkpedaflofejnaaGreat.wt at h1;by_cases h3:q.num=0
     ·exact h3
     ·rw[zIN h3]at h1;have h4:zsa q.num.natAbs<=0:=zO;have:=ztb.1 h4;omega
    exact Rat.num_eq_zero.1 h2
   ·exact ih zO q hq
theorem wts_of_zero :∀ {l:List Rat},(∀q∈l,q=0)->wts l=0:=by
 intro l
 induction l with
 | nil=>intro _;rfl
 | cons x l ih=>
   intro h;rw[zpf,ih (λ q hq=>h q (by simp[hq])),h x (by simp)];decide
end Go.Proofs.YtkpedaflofejnaaGreat
namespace Go.Proofs.YtkpedaflofejnaaGreat
set_option maxHeartbeats 3200000
open Go.RowKit
theorem zim (va:Value) (x:RF) (w:World) (ha:zjc w va x.neg x.n x.d) (h1:x.ok):
 Calls Tryz.prog 110 #[va] w λ en w'=>en= .returned (.int .i64 (zto x.q 0))/\Below w.heap.size w w':=zgp va x.neg x.n x.d w ha h1
theorem zsm (q:Rat):zto q 0=0↔q.num=0:=by rw[zhe,Rat.num_eq_zero]
theorem wts_all {l:List RF}:wts (qs l)=0↔∀x∈l,x.q.num=0:=by
 constructor
 ·intro h x hx;have:=wts_zero h x.q (List.mem_map.2 ⟨x,hx,rfl⟩);rw[this];rfl
 ·intro h
  exact wts_of_zero (λ q hq=>by
   obtain⟨x,hx,rfl⟩:=List.mem_map.1 hq;exact Rat.num_eq_zero.1 (h x hx))
theorem zjq (va:Value) (c:RC) (w:World) (ha:zso w va c) (h:c.start.length<1\/128<c.start.length\/c.lost.length≠c.start.length\/c.rates.length≠c.start.length\/¬zoj c.start c.start.length):
 Calls Tryz.prog 113 #[va] w λ e w'=>e= .returned (.bool false)/\Below w.heap.size w w':=by
 obtain⟨rv,sv,lv,rfl,hr,hs,hl⟩:=ha;obtain⟨ra,rn,rk,rfl,r1,r2,r3⟩:=hr.sl;obtain⟨sa,sn,sk,rfl,s1,s2,s3⟩:=hs.sl;obtain⟨la,ln,lk,rfl,l1,l2,l3⟩:=zta.sl hl;have hrl:rn=c.rates.length:=hr.len;have hsl:sn=c.start.length:=hs.len;have hll:ln=c.lost.length:=hl.len;subst hrl hsl hll;unfold maxLen at r2 s2 l2;have hbx:=zba w (.cells #[.slice ra c.rates.length rk, .slice sa c.start.length sk, .slice la c.lost.length lk] 34);have hs':=hs.bw hbx;have hC:=C3.new w 34 (.slice ra c.rates.length rk) (.slice sa c.start.length sk) (.slice la c.lost.length lk);generalize c.start.length=n at *
 generalize c.lost.length=nl at *
 generalize c.rates.length=nr at *
 obtain⟨_,b0,b1,b2,_,_,_⟩:=hC;by_cases h1:n<1
 ·go_enter Tryz.func113,Tryz.ntmps113;go_wp2_with fail;go_ret;exact⟨rfl,hbx⟩
 ·by_cases h2:128<n
  ·go_enter Tryz.func113,Tryz.ntmps113;go_wp2_with fail;go_ret;exact⟨rfl,hbx⟩
  ·by_cases h3:nl=n
   ·by_cases h4:nr=n
    ·have h5:¬zoj c.start n:=by
      rcases h with h | h | h | h | h
      ·omega
      ·omega
      ·omega
      ·omega
      ·exact h
     have H5:=zH h5;subst h3 h4;clear h h5;go_enter Tryz.func113,Tryz.ntmps113;go_wp2_with (go_at_call 143;(with_reducible refine(zff _ c.start nr _ hs' zO).mono ?_);rintro e9 w9 ⟨⟨b9,rfl,hb9⟩,hbel9⟩;obtain rfl:b9=false:=Bool.eq_false_iff.2 (λ h=>H5.o (hb9.1 h));clear hb9);go_ret;exact⟨rfl,zaa hbx hbel9⟩
    ·(have h4b:(((nr:Nat):Int) != (n:Nat))=true:=by simp;omega);subst h3;clear h;go_enter Tryz.func113,Tryz.ntmps113;go_wp2_with fail;go_ret;exact⟨rfl,hbx⟩
   ·(have h3b:(((nl:Nat):Int) != (n:Nat))=true:=by simp;omega);clear h;go_enter Tryz.func113,Tryz.ntmps113;go_wp2_with fail;go_ret;exact⟨rfl,hbx⟩
set_option maxRecDepth 100000 in
theorem rvalid_rest (va:Value) (c:RC) (w:World) (ha:zso w va c) (h1:1<=c.start.length) (h2:c.start.length<=128) (h3:c.lost.length=c.start.length) (h4:c.rates.length=c.start.length) (h5:zoj c.start c.start.length):
 Calls Tryz.prog 113 #[va] w (zsf w c):=by
 obtain⟨rv,sv,lv,rfl,hr,hs,hl⟩:=ha;obtain⟨ra,rn,rk,rfl,r1,r2,r3⟩:=hr.sl;obtain⟨sa,sn,sk,rfl,s1,s2,s3⟩:=hs.sl;obtain⟨la,ln,lk,rfl,l1,l2,l3⟩:=zta.sl hl;have hrl:rn=c.start.length:=hr.len.trans h4;have hsl:sn=c.start.length:=hs.len;have hll:ln=c.start.length:=hl.len.trans h3;subst hrl hsl hll;clear r1 r2 r3 s1 s2 s3 l1 l2 l3;have hbx:=zba w (.cells #[.slice ra c.start.length rk, .slice sa c.start.length sk, .slice la c.start.length lk] 34);have hs':=hs.bw hbx;have hr':=hr.bw hbx;have hl':=hl.bw hbx;have hc3:=C3.new w 34 (.slice ra c.start.length rk) (.slice sa c.start.length sk) (.slice la c.start.length lk);have H3:=zH h3;have H4:=zH h4;have H5:=zH h5;have HVAL:zI (zic c↔(∀i r,c.rates[i]? =some r->zje c i r)/\zof (qs c.start)=1):=zH ⟨λ h=>⟨h.2.2.2.2.2.1,h.2.2.2.2.2.2⟩,λ h=>⟨h1,h2,h3,h4,h5,h.1,h.2⟩⟩;clear h3 h4 h5 hs hr hl;generalize hn:c.start.length=n at *
 have HSTP:zI (∀i r,(zoj r n/\(∀x,r[i]? =some x->x.q.num=0)/\(c.lost[i]? =some true->∀x∈r,x.q.num=0))↔zje c i r):=zH (λ i r=>by unfold zje;rw[hn,wts_all]);have HN6:zI (n<=65536):=zH zO;clear hn;go_enter Tryz.func113,Tryz.ntmps113;go_wp2_with fail;have hd1:decide ((n:Int)<1)=false:=zDF zO;have hd2:decide ((128:Int)<(n:Int))=false:=zDF zO;generalize hW:w.alloc (.cells #[.slice ra n rk, .slice sa n sk, .slice la n lk] 34)=W at *
 clear hW;have HC3:=zH hc3;obtain⟨_,b0,b1,b2,b3,b4,b5⟩:=hc3;go_wp2_with (go_at_call 143;(with_reducible refine(zff _ c.start n _ hs' HN6.o).mono ?_);rintro e9 w1 ⟨⟨b9,rfl,hb9⟩,hb1⟩;obtain rfl:b9=true:=hb9.2 H5.o;clear hb9;obtain⟨_,f0,f1,f2,f3,f4,f5⟩:=HC3.o.bS hb1);clear b0 b1 b2 b3 b4 b5 f0 f1 f2 f3 f4 f5 hd1 hd2;have slR:=hr'.sl;have slS:=hs'.sl;have slL:zlb (.slice la n lk):=zta.sl hl';go_loopw [4] (λ u4 wr=>∃ (k:Nat),k<=n/\u4= .int .i64 k/\(∀i r,i<k->c.rates[i]? =some r->zje c i r)/\Below W.heap.size W wr) (λ u4 _=>n- (intOf u4).toNat);case atStart=>exact⟨0,zZL _,rfl,λ i r h=>zO,hb1⟩
 case round=>
  obtain⟨k,hk,rfl,hst,hb⟩:=hrel;clear hb1;have HST:=zH hst;have HBW:=zH hb;clear hst;have HC:=zH (HC3.o.bS hb);obtain⟨_,b0,b1,b2,b3,b4,b5⟩:=HC3.o.bS hb;by_cases hkn:k<n
  ·(have hkr:k<c.rates.length:=by rw[H4.o];exact hkn);(have hkl:k<c.lost.length:=by rw[H3.o];exact hkn);obtain⟨rv,hrc,hrw⟩:=(hr'.bw hb).at' k hkr;have hlc:=(hl'.bw hb).at' k hkl;have HRK:zI (c.rates[k]? =some (c.rates[k]'hkr)):=zH (zGE hkr);have HLK:zI (c.lost[k]? =some (c.lost[k]'hkl)):=zH (zGE hkl);generalize c.rates[k]'hkr=l at *
   generalize c.lost[k]'hkl=lo at *
   have HNO:zI (¬zje c k l->¬zic c):=zH (λ h h'=>h ((HVAL.o.1 h').1 k l HRK.o))
   have HYES:zI (zje c k l->∀i r,i<k+1->c.rates[i]? =some r->zje c i r):=zH (λ h i r hi hr=>by
    rcases zOG i k with h6 | h6
    ·exact HST.o i r h6 hr
    ·obtain rfl:i=k:=zO;rw[HRK.o]at hr;(injection hr with hr);subst hr;exact h)
   clear hkr hkl;obtain⟨ea,en,ek,rfl,e1,e2,e3⟩:=hrw.sl;have slW:=hrw.sl;have hen:en=l.length:=hrw.len;subst hen;have i1:(0:Int)<=(k:Int):=zO;have i2:(k:Int)<(n:Int):=zO;by_cases hrow:zoj l n
   ·have hll:l.length=n:=hrow.2.1;have hkl:k<l.length:=zO;obtain⟨xa,xb,c1,c2,c3,hxa,hxb⟩:=hrw.at' k hkl;obtain⟨c1a,c1l,c1k,rfl,_⟩:=hxa.slen.1;obtain⟨c2a,c2l,c2k,rfl,_⟩:=hxb.slen.1;have HXK:zI (l[k]? =some (l[k]'hkl)):=zH (zGE hkl);have HXO:zI ((l[k]'hkl).ok):=zH ((hrow.1 _ (zGM hkl)).1);have HROW:=zH hrow;have HLL:=zH hll;have HRW:=zH hrw;generalize l[k]'hkl=x at *
    have HXN:zI (zjc wr (.agg #[.bool x.neg, .slice c1a c1l c1k, .slice c2a c2l c2k]) x.neg x.n x.d):=zH ⟨_,_,rfl,hxa,hxb⟩;rw[hll]at hrc slW c1 c2 c3;clear hrow hll hxa hxb hkl hrw;have HRW2:zI (zte wr (.slice ea n ek) l):=zH (by rw[<-HLL.o];exact HRW.o);by_cases hz:x.q.num=0
    ·have HSG:=zH ((zsm x.q).2 hz);have HXZ:zI (∀y,l[k]? =some y->y.q.num=0):=zH (λ y hy=>by rw[HXK.o]at hy;injection hy with hy;rw[<-hy];exact hz);clear hz
     go_wp2_with (first
      |(go_at_call 143;(with_reducible refine(zff _ l n _ HRW2.o HN6.o).mono ?_);rintro e9 w1 ⟨⟨b9,rfl,hb9⟩,hb1⟩;obtain rfl:b9=true:=hb9.2 HROW.o;clear hb9;have hrc:=zca hb1 hrc;have c1:=zca hb1 c1;have c2:=zca hb1 c2;have c3:=zca hb1 c3;obtain⟨_,b0,b1,b2,b3,b4,b5⟩:=HC.o.bS hb1;)
      |(go_at_call 110;(with_reducible refine(zim _ x _ (HXN.o.bw hb1) HXO.o).mono ?_);rintro e w2 ⟨rfl,hb2⟩;rw[HSG.o];have hb12:=zaa hb1 hb2;have hrc:=zca hb2 hrc;have hlc:=zca hb12 hlc;obtain⟨_,b0,b1,b2,b3,b4,b5⟩:=HC.o.bS hb12;))
     have HB12:=zH hb12;have HRW3:=zH (HRW2.o.bw hb12);have HC2:=zH (HC.o.bS hb12);clear b0 b1 b2 b3 b4 b5 c1 c2 c3 hb1 hb2 hb12 hb;go_loopw [5] (λ u5 wi=>∃ (j:Nat),j<=n/\u5= .int .i64 j/\(∀y,y<j->∀z,l[y]? =some z->z.q.num=0)/\Below w2.heap.size w2 wi) (λ u5 _=>n- (intOf u5).toNat);case atStart=>exact⟨0,zZL _,rfl,λ y h=>zO,zBR _ _⟩
     case round=>
      obtain⟨j,hj,rfl,hjz,hbi⟩:=hrel;have HJZ:=zH hjz;have HBI:=zH hbi;clear hjz;have hrc2:=zca hbi hrc;have hlc2:=zca hbi hlc;obtain⟨_,b0,b1,b2,_,_,_⟩:=HC2.o.bS hbi;rcases lo with _ | _
      ·have HOK:=zH (HYES.o ((HSTP.o k l).1 ⟨HROW.o,HXZ.o,λ h=>by rw[HLK.o]at h;injection h with h;cases h⟩));have hbE:=HBW.o.trans ((HB12.o.trans (hbi.mono HB12.o.size)).mono HBW.o.size);by_cases hjn:j<n
       ·go_wp2_with fail;go_roundw;(case rel=>exact⟨k+1,hkn,by go_num,HOK.o,hbE⟩);case measure=>simp[intOf];omega
       ·obtain rfl:j=n:=zO;go_wp2_with fail;go_roundw;(case rel=>exact⟨k+1,hkn,by go_num,HOK.o,hbE⟩);case measure=>simp[intOf];omega
      ·by_cases hjn:j<n
       ·(have hjl:j<l.length:=by rw[HLL.o];exact hjn);obtain⟨za,zb,d1,d2,d3,hza,hzb⟩:=(HRW3.o.bw hbi).at' j hjl;obtain⟨d1a,d1l,d1k,rfl,_⟩:=hza.slen.1;obtain⟨d2a,d2l,d2k,rfl,_⟩:=hzb.slen.1;have HYK:zI (l[j]? =some (l[j]'hjl)):=zH (zGE hjl);have HYM:zI ((l[j]'hjl)∈l):=zH (zGM hjl);have HYO:zI ((l[j]'hjl).ok):=zH ((HROW.o.1 _ (zGM hjl)).1);generalize l[j]'hjl=y at *
        have HYN:zI (zjc wr (.agg #[.bool y.neg, .slice d1a d1l d1k, .slice d2a d2l d2k]) y.neg y.n y.d):=zH ⟨_,_,rfl,hza,hzb⟩;have i3:(0:Int)<=(j:Int):=zO;have i4:(j:Int)<(n:Int):=zO;clear hza hzb hjl;by_cases hy:y.q.num=0
        ·have HSY:=zH ((zsm y.q).2 hy)
         have HJ1:zI (∀y',y'<j+1->∀z,l[y']? =some z->z.q.num=0):=zH (λ y' hy' z hz=>by
          rcases zOG y' j with h6 | h6
          ·exact HJZ.o y' h6 z hz
          ·obtain rfl:y'=j:=zO;rw[HYK.o]at hz;(injection hz with hz);subst hz;exact hy)
         clear hy
         go_wp2_with (first
          |(go_at_call 110;(with_reducible refine(zim _ y _ HYN.o HYO.o).mono ?_);rintro e w3 ⟨rfl,hb3⟩;rw[HSY.o]))
         go_roundw;(case rel=>exact⟨j+1,hjn,by go_num,HJ1.o,zaa hbi hb3⟩);case measure=>simp[intOf];omega
        ·have HN:=zH (HNO.o (λ h=>hy (((HSTP.o k l).2 h).2.2 HLK.o y HYM.o)));obtain⟨sg,hsg⟩:∃sg,zto y.q 0=sg:=⟨_,rfl⟩
         have hsb:(sg != 0)=true:=by
          (have :sg≠0:=λ h=>hy ((zsm y.q).1 (hsg.trans h)));simpa using this
         have HSY:=zH hsg;clear hy hsg
         go_wp2_with (first
          |(go_at_call 110;(with_reducible refine(zim _ y _ HYN.o HYO.o).mono ?_);rintro e w3 ⟨rfl,hb3⟩;rw[HSY.o]))
         go_ret;exact zsf.no HN.o (hbx.trans ((HBW.o.trans ((HB12.o.trans ((zaa hbi hb3).mono HB12.o.size)).mono HBW.o.size)).mono hbx.size))
       ·obtain rfl:j=n:=zO
        have HOK:=zH (HYES.o ((HSTP.o k l).1 ⟨HROW.o,HXZ.o,λ _ z hz=>by
         obtain⟨y,hy,rfl⟩:=List.getElem_of_mem hz;exact HJZ.o y (by rw[<-HLL.o];exact hy) _ (zGE hy)⟩))
        have hbE:=HBW.o.trans ((HB12.o.trans (hbi.mono HB12.o.size)).mono HBW.o.size);go_wp2_with fail;go_roundw;(case rel=>exact⟨k+1,hkn,by go_num,HOK.o,hbE⟩);case measure=>simp[intOf];omega
    ·have HN:=zH (HNO.o (λ h=>hz (((HSTP.o k l).2 h).2.1 x HXK.o)));obtain⟨sg,hsg⟩:∃sg,zto x.q 0=sg:=⟨_,rfl⟩
     have hsb:(sg != 0)=true:=by
      (have :sg≠0:=λ h=>hz ((zsm x.q).1 (hsg.trans h)));simpa using this
     have HSG:=zH hsg;clear hz hsg
     go_wp2_with (first
      |(go_at_call 143;(with_reducible refine(zff _ l n _ HRW2.o HN6.o).mono ?_);rintro e9 w1 ⟨⟨b9,rfl,hb9⟩,hb1⟩;obtain rfl:b9=true:=hb9.2 HROW.o;clear hb9;have hrc:=zca hb1 hrc;have c1:=zca hb1 c1;have c2:=zca hb1 c2;have c3:=zca hb1 c3;obtain⟨_,b0,b1,b2,b3,b4,b5⟩:=HC.o.bS hb1;)
      |(go_at_call 110;(with_reducible refine(zim _ x _ (HXN.o.bw hb1) HXO.o).mono ?_);rintro e w2 ⟨rfl,hb2⟩;rw[HSG.o];have hb12:=zaa hb1 hb2))
     go_ret;exact zsf.no HN.o (hbx.trans ((zaa HBW.o hb12).mono hbx.size))
   ·have HB:=zH (HNO.o (λ h=>hrow ((HSTP.o k l).2 h).1));have HR:=zH hrow;clear hrow;go_wp2_with (go_at_call 143;(with_reducible refine(zff _ l n _ hrw HN6.o).mono ?_);rintro e9 w1 ⟨⟨b9,rfl,hb9⟩,hb1⟩;obtain rfl:b9=false:=Bool.eq_false_iff.2 (λ h=>HR.o (hb9.1 h));clear hb9);go_ret;exact zsf.no HB.o (hbx.trans ((zaa hb hb1).mono hbx.size))
  ·obtain rfl:k=n:=zO
   have HALL:zI (∀i r,c.rates[i]? =some r->zje c i r):=zH (λ i r h=>HST.o i r (by
    obtain⟨h6,_⟩:=List.getElem?_eq_some_iff.1 h;have:=H4.o;omega) h)
   have HOKS:zI (∀x∈c.start,x.ok):=zH H5.o.ok;have HFIT:zI (∀j,j<=c.start.length->fits (zof (qs (c.start.take j)))):=zH (λ j _=>H5.o.fits j);have HFS:zI (fits (zof (qs c.start))):=zH (by have h6:=H5.o.fits c.start.length;rw[List.take_length]at h6;exact h6);go_wp2_with (go_at_call 111;(with_reducible refine(r2sum_fit _ c.start _ (hs'.bw hb) HOKS.o HFIT.o).mono ?_);rintro e w1 ⟨v,rfl,hv,hb1⟩;obtain⟨t9,a1,l91,k1,a2,l92,k2,rfl⟩:=hv.iF);have hv6:=hv.bw (zba w1 (.cells #[.bool t9, .slice a1 l91 k1, .slice a2 l92 k2] 53));have hc6:=C3.new w1 53 (.bool t9) (.slice a1 l91 k1) (.slice a2 l92 k2);have hb6:=zaa (zaa hb hb1) (zba w1 (.cells #[.bool t9, .slice a1 l91 k1, .slice a2 l92 k2] 53));generalize w1.alloc (.cells #[.bool t9, .slice a1 l91 k1, .slice a2 l92 k2] 53)=W6 at *
   have hdr:=zha (B:=W6.heap.size) W6;have hv7:=hv6.bw hdr;have HC7:=zH (hc6.bS hdr);have hb7:=zaa hb6 hdr;clear hv hv6 hb1 hb6 hb b0 b1 b2 b3 b4 b5 hs' hr' hl';obtain⟨_,q1,q2,q3,q4,q5,q6⟩:=hc6.bS hdr;clear hc6;generalize w1.heap.size=B6 at *
   have HF1:=zH zer;have tok1:True:=trivial
   go_region_held3 (λ w'=>w'.cell? ⟨B6,0,none⟩=some (.bool t9)/\w'.cell? ⟨B6,1,none⟩=some (.slice a1 l91 k1)/\w'.cell? ⟨B6,2,none⟩=some (.slice a2 l92 k2)) (exact⟨q1,q2,q3⟩) (first
    |(go_at_call 34;(with_reducible refine(zbj _ _ _ hv7 HFS.o).mono ?_);rintro e8 w7 ⟨rfl,hb8a⟩;obtain⟨_,q1,q2,q3,q4,q5,q6⟩:=HC7.o.bS hb8a;have HC8:=zH (HC7.o.bS hb8a);have hv8a:=hv7.bw hb8a)
    |(go_at_call 23;(with_reducible refine(zif _).mono ?_);rintro e8 w8 ⟨v1,rfl,hv1,hb8⟩;obtain⟨_,q1,q2,q3,q4,q5,q6⟩:=HC8.o.bS hb8;have HC9:=zH (HC8.o.bS hb8);have hv8:=hv8a.bw hb8)
    |(go_at_call 29;(with_reducible refine(zna.same hv8 hv1 HFS.o HF1.o).mono ?_);rintro e9 w9 ⟨rfl,hb9⟩;obtain⟨_,q1,q2,q3,q4,q5,q6⟩:=HC9.o.bS hb9))
   go_wp2;go_ret;refine⟨⟨_,rfl,?_⟩,hbx.trans ((zaa (zaa (zaa hb7 hb8a) hb8) hb9).mono hbx.size)⟩;rw[HVAL.o];exact⟨λ h=>⟨HALL.o,by simpa using h⟩,λ h=>by simpa using h.2⟩
theorem zrl (va:Value) (c:RC) (w:World) (ha:zso w va c):Calls Tryz.prog 113 #[va] w (zsf w c):=by
 by_cases h:c.start.length<1\/128<c.start.length\/c.lost.length≠c.start.length\/c.rates.length≠c.start.length\/¬zoj c.start c.start.length
 ·refine(zjq va c w ha h).mono λ e w' ⟨h1,h2⟩=> ?_
  rw[h1];refine zsf.no (λ hv=> ?_) h2;obtain⟨v1,v2,v3,v4,v5,_⟩:=hv;rcases h with h | h | h | h | h
  ·omega
  ·omega
  ·exact h v3
  ·exact h v4
  ·exact h v5
 ·exact rvalid_rest va c w ha (Nat.le_of_not_lt λ h1=>h (Or.inl h1)) (Nat.le_of_not_lt λ h1=>h (Or.inr (Or.inl h1))) (Decidable.of_not_not λ h1=>h (Or.inr (Or.inr (Or.inl h1)))) (Decidable.of_not_not λ h1=>h (Or.inr (Or.inr (Or.inr (Or.inl h1))))) (Decidable.of_not_not λ h1=>h (Or.inr (Or.inr (Or.inr (Or.inr h1)))))
def oth (y:Int) (n:Nat):Int:=if n%2=0 then y+((n/2+1:Nat):Int)else y- ((n/2+1:Nat):Int)
theorem oth_ne (y:Int) (n:Nat):oth y n≠y:=by unfold oth;split<;>omega
@[go_sem] theorem oth_beq (y : Int) (n : Nat) : (oth y n == y) = false := by simpa using oth_ne y n
@[go_sem] theorem beq_oth (y : Int) (n : Nat) : (y == oth y n) = false := by simpa using λ h => oth_ne y n h.symm
@[go_sem] theorem oth_bne (y : Int) (n : Nat) : (oth y n != y) = true := by simpa using oth_ne y n
@[go_sem] theorem bne_oth (y : Int) (n : Nat) : (y != oth y n) = true := by simpa using λ h => oth_ne y n h.symm
@[go_sem] theorem int_beq_self (y : Int) : (y == y) = true := by simp
@[go_sem] theorem int_bne_self (y : Int) : (y != y) = false := by simp
structure CQ where
 rates:List (List Rat)
 start:List Rat
 lost:List Bool
theorem CQ.ext_iff' {a b:CQ}:a=b↔a.rates=b.rates/\a.start=b.start/\a.lost=b.lost:=by
 cases a;cases b;simp
def zkc (w:World) (v:Value) (c:CQ):Prop:=∃r s l,v= .agg #[r,s,l]/\MatC w r c.rates/\zpa w s c.start/\zjg w l c.lost
theorem zkc.bw {w w':World} {v:Value} {c:CQ} (h:zkc w v c) (hb:Below w.heap.size w w'):zkc w' v c:=by
 obtain⟨r,s,l,rfl,h1,h2,h3⟩:=h;exact⟨r,s,l,rfl,h1.bw hb,h2.bw hb,h3.bw hb⟩
def CQ.raw (c:CQ):RC:=⟨c.rates.map λ r=>r.map RF.of,c.start.map RF.of,c.lost⟩
theorem MatC.raw {w:World} {v:Value} {m:List (List Rat)} (h:MatC w v m):MatN w v (m.map λ r=>r.map RF.of):=
 ⟨h.sl,by rw[h.len,zMP],λ j hj=>by
  obtain⟨r,h1,h2⟩:=h.at' j (by simpa using hj);rw[List.getElem_map];exact⟨r,h1,h2.raw⟩⟩
theorem zkc.raw {w:World} {v:Value} {c:CQ} (h:zkc w v c):zso w v c.raw:=by
 obtain⟨r,s,l,rfl,h1,h2,h3⟩:=h;exact⟨r,s,l,rfl,h1.raw,h2.raw,h3⟩
set_option maxRecDepth 100000 in
set_option maxHeartbeats 3200000 in
theorem zbp (va vb:Value) (a b:CQ) (w:World) (ha:zkc w va a) (hb:zkc w vb b):
 Calls Tryz.prog 13 #[va,vb] w (RSame w (a=b)):=by
 obtain⟨a1,a2,a3,rfl,n1,n2,n3⟩:=ha;obtain⟨b1,b2,b3,rfl,m1,m2,m3⟩:=hb;have HP:=zH (@CQ.ext_iff' a b);obtain⟨a1a,a1n,a1c,rfl,_⟩:=n1.sl;obtain⟨a2a,a2n,a2c,rfl,_⟩:=n2.sl;obtain⟨a3a,a3n,a3c,rfl,_⟩:=n3.sl;obtain⟨b1a,b1n,b1c,rfl,_⟩:=m1.sl;obtain⟨b2a,b2n,b2c,rfl,_⟩:=m2.sl;obtain⟨b3a,b3n,b3c,rfl,_⟩:=m3.sl;generalize a.rates=x1 at *
 generalize a.start=x2 at *
 generalize a.lost=x3 at *
 generalize b.rates=y1 at *
 generalize b.start=y2 at *
 generalize b.lost=y3 at *
 have hbx:=zba w (.cells #[.slice a1a a1n a1c, .slice a2a a2n a2c, .slice a3a a3n a3c] 34);have hbx:=(hbx.alloc hbx.size (.cells #[.slice b1a b1n b1c, .slice b2a b2n b2c, .slice b3a b3n b3c] 34));have n1:=n1.bw hbx;have n2:=n2.bw hbx;have n3:=n3.bw hbx;have m1:=m1.bw hbx;have m2:=m2.bw hbx;have m3:=m3.bw hbx;have hC:=(C3.new w 34 (.slice a1a a1n a1c) (.slice a2a a2n a2c) (.slice a3a a3n a3c)).allocS (.cells #[.slice b1a b1n b1c, .slice b2a b2n b2c, .slice b3a b3n b3c] 34);have hD:=C3.new (w.alloc (.cells #[.slice a1a a1n a1c, .slice a2a a2n a2c, .slice a3a a3n a3c] 34)) 34 (.slice b1a b1n b1c) (.slice b2a b2n b2c) (.slice b3a b3n b3c);rw[show(w.alloc (.cells #[.slice a1a a1n a1c, .slice a2a a2n a2c, .slice a3a a3n a3c] 34)).heap.size=w.heap.size+1 from by simp]at hD;by_cases h1:x1=y1
 ·by_cases h2:x2=y2
  ·by_cases h3:x3=y3
   ·have HQ:=zH (HP.o.2 ⟨h1,h2,h3⟩);go_enter Tryz.func13,Tryz.ntmps13
    go_wp2_with (first
     |(go_at_call 64;(with_reducible refine(zgm _ _ x1 y1 _ n1 m1).mono ?_);rintro e7 w7 ⟨⟨r7,rfl,h7⟩,hb7⟩;obtain rfl:r7=true:=h7.2 h1;clear h7;have n2:=n2.bw hb7;have m2:=m2.bw hb7;have n3:=n3.bw hb7;have m3:=m3.bw hb7;have hC:=hC.bS hb7;have hD:=hD.bS hb7;have hb7:=zaa hbx hb7;obtain⟨_,c0,c1,c2,_,_,_⟩:=id hC;obtain⟨_,d0,d1,d2,_,_,_⟩:=id hD)
     |(go_at_call 65;(with_reducible refine(zji _ _ x2 y2 _ n2 m2).mono ?_);rintro e8 w8 ⟨⟨r8,rfl,h8⟩,hb8⟩;obtain rfl:r8=true:=h8.2 h2;clear h8;have n3:=n3.bw hb8;have m3:=m3.bw hb8;have hC:=hC.bS hb8;have hD:=hD.bS hb8;have hb8:=zaa hb7 hb8;obtain⟨_,c0,c1,c2,_,_,_⟩:=id hC;obtain⟨_,d0,d1,d2,_,_,_⟩:=id hD)
     |(go_at_call 66;(with_reducible refine(zcp _ _ x3 y3 _ n3 m3).mono ?_);rintro e9 w9 ⟨⟨r9,rfl,h9⟩,hb9⟩;obtain rfl:r9=true:=h9.2 h3;clear h9;have hb9:=zaa hb8 hb9))
    go_ret;exact⟨⟨true,rfl,by simp;exact HQ.o⟩,hb9⟩
   ·have HQ:zI (¬a=b):=zH (λ h=>h3 (HP.o.1 h).2.2);go_enter Tryz.func13,Tryz.ntmps13
    go_wp2_with (first
     |(go_at_call 64;(with_reducible refine(zgm _ _ x1 y1 _ n1 m1).mono ?_);rintro e7 w7 ⟨⟨r7,rfl,h7⟩,hb7⟩;obtain rfl:r7=true:=h7.2 h1;clear h7;have n2:=n2.bw hb7;have m2:=m2.bw hb7;have n3:=n3.bw hb7;have m3:=m3.bw hb7;have hC:=hC.bS hb7;have hD:=hD.bS hb7;have hb7:=zaa hbx hb7;obtain⟨_,c0,c1,c2,_,_,_⟩:=id hC;obtain⟨_,d0,d1,d2,_,_,_⟩:=id hD)
     |(go_at_call 65;(with_reducible refine(zji _ _ x2 y2 _ n2 m2).mono ?_);rintro e8 w8 ⟨⟨r8,rfl,h8⟩,hb8⟩;obtain rfl:r8=true:=h8.2 h2;clear h8;have n3:=n3.bw hb8;have m3:=m3.bw hb8;have hC:=hC.bS hb8;have hD:=hD.bS hb8;have hb8:=zaa hb7 hb8;obtain⟨_,c0,c1,c2,_,_,_⟩:=id hC;obtain⟨_,d0,d1,d2,_,_,_⟩:=id hD)
     |(go_at_call 66;(with_reducible refine(zcp _ _ x3 y3 _ n3 m3).mono ?_);rintro e9 w9 ⟨⟨r9,rfl,h9⟩,hb9⟩;obtain rfl:r9=false:=Bool.eq_false_iff.2 (λ h=>h3 (h9.1 h));clear h9;have hb9:=zaa hb8 hb9))
    go_ret;exact⟨⟨false,rfl,by simp;exact HQ.o⟩,hb9⟩
  ·have HQ:zI (¬a=b):=zH (λ h=>h2 (HP.o.1 h).2.1);go_enter Tryz.func13,Tryz.ntmps13
   go_wp2_with (first
    |(go_at_call 64;(with_reducible refine(zgm _ _ x1 y1 _ n1 m1).mono ?_);rintro e7 w7 ⟨⟨r7,rfl,h7⟩,hb7⟩;obtain rfl:r7=true:=h7.2 h1;clear h7;have n2:=n2.bw hb7;have m2:=m2.bw hb7;have n3:=n3.bw hb7;have m3:=m3.bw hb7;have hC:=hC.bS hb7;have hD:=hD.bS hb7;have hb7:=zaa hbx hb7;obtain⟨_,c0,c1,c2,_,_,_⟩:=id hC;obtain⟨_,d0,d1,d2,_,_,_⟩:=id hD)
    |(go_at_call 65;(with_reducible refine(zji _ _ x2 y2 _ n2 m2).mono ?_);rintro e8 w8 ⟨⟨r8,rfl,h8⟩,hb8⟩;obtain rfl:r8=false:=Bool.eq_false_iff.2 (λ h=>h2 (h8.1 h));clear h8;have n3:=n3.bw hb8;have m3:=m3.bw hb8;have hC:=hC.bS hb8;have hD:=hD.bS hb8;have hb8:=zaa hb7 hb8;obtain⟨_,c0,c1,c2,_,_,_⟩:=id hC;obtain⟨_,d0,d1,d2,_,_,_⟩:=id hD)
    )
   go_ret;exact⟨⟨false,rfl,by simp;exact HQ.o⟩,hb8⟩
 ·have HQ:zI (¬a=b):=zH (λ h=>h1 (HP.o.1 h).1);go_enter Tryz.func13,Tryz.ntmps13;go_wp2_with (go_at_call 64;(with_reducible refine(zgm _ _ x1 y1 _ n1 m1).mono ?_);rintro e7 w7 ⟨⟨r7,rfl,h7⟩,hb7⟩;obtain rfl:r7=false:=Bool.eq_false_iff.2 (λ h=>h1 (h7.1 h));clear h7;have hb7:=zaa hbx hb7);go_ret;exact⟨⟨false,rfl,by simp;exact HQ.o⟩,hb7⟩
theorem zpa.over {w:World} {r:Value} {q:List Rat} {p:Addr} {x u:Value} (h:zpa w r q) (hp:p.block≠(base r).block) (hc:w.cell? p=some x) (hx:∀z,x≠ .int .u32 z):zpa (w.setCell p u) r q:=
 ⟨h.sl,h.len,λ j hj=>by
  obtain⟨a,b,h1,h2,h3,h4,h5⟩:=h.at' j hj;have hne:∀k,p≠ptr r k:=λ k e=>hp (by rw[e];exact zma r k)
  exact⟨a,b,by rw[zCO _ _ _ _ (hne _)];exact h1,by rw[zCO _ _ _ _ (hne _)];exact h2,by rw[zCO _ _ _ _ (hne _)];exact h3,⟨h4.1.over hc hx u,h4.2⟩,⟨h5.1.over hc hx u,h5.2⟩⟩⟩
end Go.Proofs.YtkpedaflofejnaaGreat
