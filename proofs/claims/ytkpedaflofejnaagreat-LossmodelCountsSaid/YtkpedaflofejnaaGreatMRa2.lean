/- Lemmas. -/
import Derived.Test.YtkpedaflofejnaaGreatMSa1
set_option linter.unusedVariables false
set_option linter.unusedSimpArgs false
namespace Go.Proofs.YtkpedaflofejnaaGreat
open Go.RowKit
theorem rat_parts {p q:Rat}:p=q↔decide (p<0)=decide (q<0)/\zja p.num.natAbs=zja q.num.natAbs/\zja p.den=zja q.den:=by
 constructor
 ·rintro rfl;exact⟨rfl,rfl,rfl⟩
 ·rintro⟨h1,h2,h3⟩;have e2:=zxh h2;have e3:=zxh h3;rw[<-zrc p,<-zrc q,h1,e2,e3]
set_option maxRecDepth 100000 in
set_option maxHeartbeats 1600000 in
theorem same_frac (va vb:Value) (p q:Rat) (w:World) (ha:zna w va p) (hb:zna w vb q):
 Calls Tryz.prog 36 #[va,vb] w (RSame w (p=q)):=by
 obtain⟨a1,a2,rfl,n1,n2⟩:=ha;obtain⟨b1,b2,rfl,m1,m2⟩:=hb;have HP:=zH (@rat_parts p q);have n1:=n1.1;have n2:=n2.1;have m1:=m1.1;have m2:=m2.1;obtain⟨a1a,a1n,a1c,rfl,_⟩:=n1.sl;obtain⟨a2a,a2n,a2c,rfl,_⟩:=n2.sl;obtain⟨b1a,b1n,b1c,rfl,_⟩:=m1.sl;obtain⟨b2a,b2n,b2c,rfl,_⟩:=m2.sl;generalize decide (p<0)=s at *
 generalize decide (q<0)=t at *
 generalize zja p.num.natAbs=x at *
 generalize zja q.num.natAbs=y at *
 generalize zja p.den=z at *
 generalize zja q.den=u at *
 have hbx:=zba w (.cells #[.bool s, .slice a1a a1n a1c, .slice a2a a2n a2c] 53);have hbx:=(hbx.alloc hbx.size (.cells #[.bool t, .slice b1a b1n b1c, .slice b2a b2n b2c] 53));have n1:=n1.bw hbx;have n2:=n2.bw hbx;have m1:=m1.bw hbx;have m2:=m2.bw hbx;have hC:=(C3.new w 53 (.bool s) (.slice a1a a1n a1c) (.slice a2a a2n a2c)).allocS (.cells #[.bool t, .slice b1a b1n b1c, .slice b2a b2n b2c] 53);have hD:=C3.new (w.alloc (.cells #[.bool s, .slice a1a a1n a1c, .slice a2a a2n a2c] 53)) 53 (.bool t) (.slice b1a b1n b1c) (.slice b2a b2n b2c);rw[show(w.alloc (.cells #[.bool s, .slice a1a a1n a1c, .slice a2a a2n a2c] 53)).heap.size=w.heap.size+1 from by simp]at hD;by_cases h1:s=t
 ·subst h1;by_cases hxy:x=y
  ·by_cases hzu:z=u
   ·have tok:True:=trivial;go_enter Tryz.func36,Tryz.ntmps36
    go_wp2_with (first
     |(go_at_call 94;have _t:=tok;(with_reducible refine(zyj _ _ x y _ n1 m1).mono ?_);rintro e1 w1 ⟨⟨r1,rfl,h1⟩,hbel1⟩;obtain rfl:r1=true:=h1.2 hxy;clear h1 tok _t;have n3:=n2.bw hbel1;have m3:=m2.bw hbel1;obtain⟨_,c0,c1,c2,_,_,_⟩:=hC.bS hbel1;obtain⟨_,d0,d1,d2,_,_,_⟩:=hD.bS hbel1)
     |(go_at_call 94;(with_reducible refine(zyj _ _ z u _ n3 m3).mono ?_);rintro e2 w2 ⟨⟨r2,rfl,h2⟩,hbel2⟩;obtain rfl:r2=true:=h2.2 hzu;clear h2))
    go_ret;exact⟨⟨true,rfl,by simp;exact HP.o.2 ⟨by first | rfl | trivial,hxy,hzu⟩⟩,(hbx.trans (hbel1.mono hbx.size)).trans (hbel2.mono (hbx.trans (hbel1.mono hbx.size)).size)⟩
   ·have tok:True:=trivial;go_enter Tryz.func36,Tryz.ntmps36
    go_wp2_with (first
     |(go_at_call 94;have _t:=tok;(with_reducible refine(zyj _ _ x y _ n1 m1).mono ?_);rintro e1 w1 ⟨⟨r1,rfl,h1⟩,hbel1⟩;obtain rfl:r1=true:=h1.2 hxy;clear h1 tok _t;have n3:=n2.bw hbel1;have m3:=m2.bw hbel1;obtain⟨_,c0,c1,c2,_,_,_⟩:=hC.bS hbel1;obtain⟨_,d0,d1,d2,_,_,_⟩:=hD.bS hbel1)
     |(go_at_call 94;(with_reducible refine(zyj _ _ z u _ n3 m3).mono ?_);rintro e2 w2 ⟨⟨r2,rfl,h2⟩,hbel2⟩;obtain rfl:r2=false:=Bool.eq_false_iff.2 (λ h=>hzu (h2.1 h));clear h2))
    go_ret;exact⟨⟨false,rfl,by simp;exact λ h=>hzu (HP.o.1 h).2.2⟩,(hbx.trans (hbel1.mono hbx.size)).trans (hbel2.mono (hbx.trans (hbel1.mono hbx.size)).size)⟩
  ·go_enter Tryz.func36,Tryz.ntmps36;go_wp2_with (go_at_call 94;(with_reducible refine(zyj _ _ x y _ n1 m1).mono ?_);rintro e1 w1 ⟨⟨r1,rfl,h1⟩,hbel1⟩;obtain rfl:r1=false:=Bool.eq_false_iff.2 (λ h=>hxy (h1.1 h));clear h1);go_ret;exact⟨⟨false,rfl,by simp;exact λ h=>hxy (HP.o.1 h).2.1⟩,hbx.trans (hbel1.mono hbx.size)⟩
 ·have h2:(s==t)=false:=by simpa using h1
  go_enter Tryz.func36,Tryz.ntmps36;go_wp2_with fail;go_ret;exact⟨⟨false,rfl,by simp;exact λ h=>h1 (HP.o.1 h).1⟩,hbx⟩
set_option maxHeartbeats 1600000
set_option maxRecDepth 100000 in
theorem zji (va vb:Value) (a b:List Rat) (w:World) (ha:zpa w va a) (hb:zpa w vb b):
 Calls Tryz.prog 65 #[va,vb] w (RSame w (a=b)):=by
 have sa:=ha.sl;have la:=ha.len;have sb:=hb.sl;have lb:=hb.len;have hle:=sa.le;have hle2:=sb.le;rw[la]at hle;rw[lb]at hle2;have hlb:a.length<=9223372036854775807:=zO;have hlb2:b.length<=9223372036854775807:=zO;clear hle hle2;by_cases hlen:a.length=b.length
 ·skip
  have hL:=zH hlen;rw[<-hlen]at lb;clear hlen;go_enter Tryz.func65,Tryz.ntmps65;go_wp2_with fail;go_loopw [5] (λ u5 wr=>∃ (k:Nat),k<=a.length/\u5= .int .i64 k/\(∀ (j:Nat) (h1:j<a.length) (h2:j<b.length),j<k->a[j]=b[j])/\Below w.heap.size w wr) (λ u5 _=>a.length- (intOf u5).toNat);case atStart=>exact⟨0,zZL _,rfl,λ j _ _ h=>zO,zBR _ _⟩
  case round=>
   obtain⟨k,hk,rfl,hst,hbr⟩:=hrel;have HST:=zH hst;clear hst;by_cases hkl:k<a.length
   ·(have hkb:k<b.length:=by rw[<-hL.o];exact hkl);have hdr:=zha (B:=wr.heap.size) wr;have hbd:=zaa hbr hdr;obtain⟨a1,a2,c1,c2,c3,n1,n2⟩:=(ha.bw hbd).at' k hkl;obtain⟨b1,b2,d1,d2,d3,m1,m2⟩:=(hb.bw hbd).at' k hkb;have i1:(0:Int)<=(k:Int):=zO;have i2:(k:Int)<(a.length:Nat):=zO;generalize ha':a[k]'hkl=x at *
    generalize hb':b[k]'hkb=y at *
    have HA:=zH ha';have HB:=zH hb';clear ha' hb';have hX:zna wr.drew (.agg #[.bool (decide (x<0)),a1,a2]) x:=⟨_,_,rfl,n1,n2⟩;have hY:zna wr.drew (.agg #[.bool (decide (y<0)),b1,b2]) y:=⟨_,_,rfl,m1,m2⟩;clear n1 n2 m1 m2;go_wp2_with fail
    go_region_held3 (λ w'=>w'.cell? (ptr va (k*3))=some (.bool (decide (x<0)))/\w'.cell? (ptr va (k*3+1))=some a1/\w'.cell? (ptr va (k*3+2))=some a2/\w'.cell? (ptr vb (k*3))=some (.bool (decide (y<0)))/\w'.cell? (ptr vb (k*3+1))=some b1/\w'.cell? (ptr vb (k*3+2))=some b2) (exact⟨c1,c2,c3,d1,d2,d3⟩) (first
     |(go_at_call 36;(with_reducible refine(same_frac _ _ x y _ hX hY).mono ?_);rintro e9 w9 ⟨⟨r9,rfl,h9⟩,hb9⟩;have c1:=zca hb9 c1;have c2:=zca hb9 c2;have c3:=zca hb9 c3;have d1:=zca hb9 d1;have d2:=zca hb9 d2;have d3:=zca hb9 d3))
    clear c1 c2 c3 d1 d2 d3 hX hY;have hbr2:=zaa hbd hb9;by_cases hxy:x=y
    ·obtain rfl:r9=true:=h9.2 hxy
     have HST2:zI (∀ (j:Nat) (h1:j<a.length) (h2:j<b.length),j<k+1->a[j]=b[j]):=zH (λ j h1 h2 h3=>by
      rcases zOG j k with h4 | h4
      ·exact HST.o j h1 h2 h4
      ·obtain rfl:j=k:=zO;rw[HA.o,HB.o,hxy])
     clear hxy h9;go_wp2;go_roundw;(case rel=>exact⟨k+1,zO,by go_num,HST2.o,hbr2⟩);case measure=>simp[intOf];omega
    ·obtain rfl:r9=false:=Bool.eq_false_iff.2 (λ h=>hxy (h9.1 h));have HXY:=zH hxy;clear hxy h9;go_wp2;go_ret;exact⟨⟨false,rfl,by simp;intro h;subst h;exact HXY.o (HA.o.symm.trans HB.o)⟩,hbr2⟩
   ·go_wp2_with fail;go_ret;refine⟨⟨true,rfl,by simp;exact zug hL.o (λ j h1 h2=>HST.o j h1 h2 zO)⟩,hbr⟩
 ·skip
  have hne:((a.length:Int)==(b.length:Int))=false:=by simp;omega
  go_enter Tryz.func65,Tryz.ntmps65;go_wp2_with fail;go_ret;exact⟨⟨false,rfl,by simp;intro h;exact hlen (by rw[h])⟩,zBR _ _⟩
structure MatC (w:World) (v:Value) (m:List (List Rat)):Prop where
 sl:zlb v
 len:slen v=m.length
 at':∀ (j:Nat) (h:j<m.length),∃r,w.cell? (ptr v j)=some r/\zpa w r m[j]
theorem MatC.bw {w w':World} {v:Value} {m:List (List Rat)} (h:MatC w v m) (hb:Below w.heap.size w w'):MatC w' v m:=
 ⟨h.sl,h.len,λ j hj=>by obtain⟨r,h1,h2⟩:=h.at' j hj;exact⟨r,zca hb h1,h2.bw hb⟩⟩
set_option maxRecDepth 100000 in
theorem zgm (va vb:Value) (a b:List (List Rat)) (w:World) (ha:MatC w va a) (hb:MatC w vb b):
 Calls Tryz.prog 64 #[va,vb] w (RSame w (a=b)):=by
 have sa:=ha.sl;have la:=ha.len;have sb:=hb.sl;have lb:=hb.len;have hle:=sa.le;have hle2:=sb.le;rw[la]at hle;rw[lb]at hle2;have hlb:a.length<=9223372036854775807:=zO;have hlb2:b.length<=9223372036854775807:=zO;clear hle hle2;by_cases hlen:a.length=b.length
 ·skip
  have hL:=zH hlen;rw[<-hlen]at lb;clear hlen;go_enter Tryz.func64,Tryz.ntmps64;go_wp2_with fail;go_loopw [5] (λ u5 wr=>∃ (k:Nat),k<=a.length/\u5= .int .i64 k/\(∀ (j:Nat) (h1:j<a.length) (h2:j<b.length),j<k->a[j]=b[j])/\Below w.heap.size w wr) (λ u5 _=>a.length- (intOf u5).toNat);case atStart=>exact⟨0,zZL _,rfl,λ j _ _ h=>zO,zBR _ _⟩
  case round=>
   obtain⟨k,hk,rfl,hst,hbr⟩:=hrel;have HST:=zH hst;clear hst;by_cases hkl:k<a.length
   ·(have hkb:k<b.length:=by rw[<-hL.o];exact hkl);have hdr:=zha (B:=wr.heap.size) wr;have hbd:=zaa hbr hdr;obtain⟨r1,c1,hX⟩:=(ha.bw hbd).at' k hkl;obtain⟨r2,d1,hY⟩:=(hb.bw hbd).at' k hkb;have i1:(0:Int)<=(k:Int):=zO;have i2:(k:Int)<(a.length:Nat):=zO;generalize ha':a[k]'hkl=x at *
    generalize hb':b[k]'hkb=y at *
    have HA:=zH ha';have HB:=zH hb';clear ha' hb';go_wp2_with fail
    go_region_held3 (λ w'=>w'.cell? (ptr va k)=some r1/\w'.cell? (ptr vb k)=some r2) (exact⟨c1,d1⟩) (first
     |(go_at_call 65;(with_reducible refine(zji _ _ x y _ hX hY).mono ?_);rintro e9 w9 ⟨⟨r9,rfl,h9⟩,hb9⟩;have c1:=zca hb9 c1;have d1:=zca hb9 d1))
    clear c1 d1 hX hY;have hbr2:=zaa hbd hb9;by_cases hxy:x=y
    ·obtain rfl:r9=true:=h9.2 hxy
     have HST2:zI (∀ (j:Nat) (h1:j<a.length) (h2:j<b.length),j<k+1->a[j]=b[j]):=zH (λ j h1 h2 h3=>by
      rcases zOG j k with h4 | h4
      ·exact HST.o j h1 h2 h4
      ·obtain rfl:j=k:=zO;rw[HA.o,HB.o,hxy])
     clear hxy h9;go_wp2;go_roundw;(case rel=>exact⟨k+1,zO,by go_num,HST2.o,hbr2⟩);case measure=>simp[intOf];omega
    ·obtain rfl:r9=false:=Bool.eq_false_iff.2 (λ h=>hxy (h9.1 h));have HXY:=zH hxy;clear hxy h9;go_wp2;go_ret;exact⟨⟨false,rfl,by simp;intro h;subst h;exact HXY.o (HA.o.symm.trans HB.o)⟩,hbr2⟩
   ·go_wp2_with fail;go_ret;refine⟨⟨true,rfl,by simp;exact zug hL.o (λ j h1 h2=>HST.o j h1 h2 zO)⟩,hbr⟩
 ·skip
  have hne:((a.length:Int)==(b.length:Int))=false:=by simp;omega
  go_enter Tryz.func64,Tryz.ntmps64;go_wp2_with fail;go_ret;exact⟨⟨false,rfl,by simp;intro h;exact hlen (by rw[h])⟩,zBR _ _⟩
set_option maxHeartbeats 800000
def RNatO (w0:World) (n:Nat) (e:Ending) (w:World):Prop:=∃r,e= .returned r/\zsc w 134 w0.heap.size r (zja n)/\zda n<=4294967296/\Below w0.heap.size w0 w
theorem RNatO.nat {w0:World} {n:Nat} {e:Ending} {w:World} (h:RNatO w0 n e w):RNat w0 n e w:=by
 obtain⟨r,h1,h2,h3,h4⟩:=h;exact⟨r,h1,⟨h2.nat,h3⟩,h4⟩
theorem zyf (l:List Nat) (j:Nat) (hj:j<l.length):l.getD j 0=l[j]:=by simp[List.getD,hj]
theorem zen (v:Value) (n:Nat) (w:World) (h:zwb w v n):
 Calls Tryz.prog 89 #[v] w (RNatO w n):=by
 obtain⟨l,hl,HE,hll⟩:=h;have hs:=hl.sl;have hlen:=hl.len;have hle:=hs.le;have hcan:=hl.can hll;rw[HE]at hcan;have hce:clen l=zda n:=by rw[zll hl.lm,HE]
 have hcl:=zxb hl.lm;rw[HE]at hcl;have HCE:=zH hce;clear HE hce;have HLL:=zH hll;clear hll;have hcs:zda n<=scap v:=zO;obtain⟨i0,hi,hz0,hz1,hz2⟩:=info_parts Tryz.info102;have hroom:([]:List Nat).length+(zja n).length<=35184372088832:=by have:=hcan.2;unfold zda at this;simp;omega
 have hA:=zml (P:=Tryz.prog) 51 134 i0 Tryz.underlying51 hi hz0 hz1 hz2;have HR:=zH hroom;have HN:=zH hcan;clear hroom hcan hi hz0 hz1 hz2;go_enter Tryz.func89,Tryz.ntmps89;go_wp2;go_loop [3] (λ i=>∃k:Nat,k<=l.length/\i= .int .i64 k/\clen (l.take k)=clen l) (λ i=>(intOf i).toNat);case atStart=>exact⟨l.length,zLR _,by simp[hlen],by rw[List.take_length]⟩
 case round=>
  obtain⟨k,hk,rfl,hce⟩:=hrel;have HC:=zH hce;clear hce;by_cases h1:0<k/\l.getD (k-1) 0=0
  ·obtain⟨h0,hx⟩:=h1;obtain⟨j,rfl⟩:∃j,k=j+1:=⟨k-1,zO⟩;have hj:j<l.length:=zO;rw[Nat.add_sub_cancel,zyf _ _ hj]at hx;have hc:=hl.cell j hj;have HZ:=zH (zbg l j hj hx);rw[hx]at hc;clear hx;go_wp2_with fail;go_round;(case rel=>exact⟨j,zO,rfl,by rw[<-HC.o,HZ.o]⟩);case measure=>simp[intOf]
  ·have e:zda n=k:=by
    rw[<-HCE.o,<-HC.o];by_cases h0:0<k
    ·obtain⟨j,rfl⟩:∃j,k=j+1:=⟨k-1,zO⟩;have hj:j<l.length:=zO;exact znk l j hj (λ hx=>h1 ⟨h0,by rw[Nat.add_sub_cancel,zyf _ _ hj,hx]⟩)
    ·obtain rfl:k=0:=zO;rfl
   rw[e]at HN hcs hcl
   have hc:0<k->∃x:Nat,w.cell? (ptr v (k-1))=some (.int .u32 x)/\(((x:Nat):Int)==0)=false:=λ h0=>by
    have hj:k-1<l.length:=zO;refine⟨_,hl.cell (k-1) hj,?_⟩;(have :l[k-1]≠0:=λ hx=>h1 ⟨h0,by rw[zyf _ _ hj,hx]⟩);have :((l[k-1]:Nat):Int)≠0:=zO;simpa using this
   clear h1 e;rcases Nat.eq_zero_or_pos k with h0 | h0
   ·clear hc;subst h0;go_wp2_with (at_builtin;refine hA w rfl _ _ rfl w.heap.size _ [] rfl (zsc.nil _ _ _) _ rfl (zja n) HN.o.1 HR.o (zLR _) ?_;intro v' w1 hown _ hbel);go_ret;exact⟨v',rfl,by simpa using hown,HN.o.2,hbel⟩
   ·obtain⟨x,hx,hx3⟩:=hc h0;clear hc;go_wp2_with (at_builtin;refine hA w rfl _ _ rfl w.heap.size _ [] rfl (zsc.nil _ _ _) _ rfl (zja n) HN.o.1 HR.o (zLR _) ?_;intro v' w1 hown _ hbel);go_ret;exact⟨v',rfl,by simpa using hown,HN.o.2,hbel⟩
theorem zoa (v:Value) (n:Nat) (w:World) (h:zwb w v n):
 Calls Tryz.prog 89 #[v] w (RNat w n):=(zen v n w h).mono λ _ _ h=>h.nat
theorem zde (n:Nat) (hn:n<18446744073709551616) (w:World):
 Calls Tryz.prog 81 #[.int .u64 n] w (RNat w n):=by
 have HN:=ztn w 134 (n%4294967296) (n/4294967296) zO zO;rw[show((n%4294967296:Nat):Int)=(n:Int)%4294967296 from zO,show((n/4294967296:Nat):Int)=(n:Int)/4294967296 from zO]at HN;have hv:val [n%4294967296,n/4294967296]=n:=by simp[val];omega
 have HL:=HN.natN (by simp);rw[hv]at HL;have HT:=zH (zoa _ _ _ HL);have HB:=zH ((zBR w.heap.size w).alloc (zLR _) (.cells #[.int .u32 ((n:Int)%4294967296), .int .u32 ((n:Int)/4294967296)] 134));clear HN hv HL;go_enter Tryz.func81,Tryz.ntmps81;go_wp2_with (go_at_call 89;refine HT.o.mono ?_;rintro e w1 ⟨r,rfl,hr,hb⟩);go_ret;exact⟨_,rfl,hr,HB.o.trans (hb.mono HB.o.size)⟩
theorem zwk (v:Value) (n:Nat) (w:World) (h:zwb w v n):
 Calls Tryz.prog 132 #[v] w λ e w'=>e= .returned (.bool (decide (512<zda n)))/\Below w.heap.size w w':=by
 go_enter Tryz.func132,Tryz.ntmps132;go_wp2_with (go_at_call 89;refine(zoa v n _ h).mono ?_;rintro e w1 ⟨r,rfl,hr,hb⟩;have h1:=hr.1.sl;have h2:slen r=zda n:=hr.1.len);go_ret;exact⟨by congr 2;simp;omega,hb⟩
theorem zjd (v:Value) (n:Nat) (w:World) (h:zwb w v n) (hn:zda n<=512):
 Calls Tryz.prog 132 #[v] w λ e w'=>e= .returned (.bool false)/\Below w.heap.size w w':=
 (zwk v n w h).mono λ e w' ⟨h1,h2⟩=>⟨by rw[h1,zDF zO],h2⟩
theorem zye (va vb:Value) (m n:Nat) (w:World) (ha:zwb w va m) (hb:zwb w vb n):
 Calls Tryz.prog 91 #[va,vb] w λ e w'=>e= .returned (.int .i64 (zjl m n))/\Below w.heap.size w w':=by
 go_enter Tryz.func91,Tryz.ntmps91
 go_wp2_with (go_at_call 89;first
  |((with_reducible refine(zoa va m _ ha).mono ?_);rintro e w1 ⟨ra,rfl,hra,hb1⟩)
  |((with_reducible refine(zoa vb n _ (hb.bw hb1)).mono ?_);rintro e w2 ⟨rb,rfl,hrb,hb2⟩
    have h1:=(hra.bw hb2).1.sl;have h2:slen ra=zda m:=(hra.bw hb2).1.len;have h3:=hrb.1.sl;have h4:slen rb=zda n:=hrb.1.len;have h5:zda m<=4294967296:=hra.2))
 ·go_ret;exact⟨by rw[zdi (zqi (by assumption))];rfl,hb1.trans (hb2.mono hb1.size)⟩
 ·have hne:((zda m:Nat):Int)≠zda n:=by simpa using ‹((zda m:Int) != (zda n:Int))=true›
  have hlt:¬zda m<zda n:=by assumption
  go_ret;exact⟨by rw[zmo (zqi zO)];rfl,hb1.trans (hb2.mono hb1.size)⟩
 ·have he:zda m=zda n:=by
   (have :((zda m:Nat):Int)=zda n:=by simpa using ‹((zda m:Int) != (zda n:Int))=false›);omega
  have HB:=zH (hb1.trans (hb2.mono hb1.size));have ca:=(hra.bw hb2).1.cell;have cb:=hrb.1.cell;have hln:=hrb.2;clear ha hb hb1 hb2 hra hrb;have HE:=zH he;rw[<-he]at hln;clear he;go_loopw [5] (λ i wr=>∃k q:Nat,k<=zda m/\i= .int .i64 ((k:Int)-1)/\(zja m).drop k=(zja n).drop k/\wr=w2.drewN q) (λ i _=>(intOf i+1).toNat);case atStart=>exact⟨zda m,0,zLR _,by simp,by rw[List.drop_of_length_le (show zda m<=zda m from zLR _),List.drop_of_length_le (show zda n<=zda m by have:=HE.o;omega)],rfl⟩
  case round=>
   obtain⟨k,q,hk,rfl,hd,rfl⟩:=hrel;have HD:=zH hd;clear hd;by_cases hk0:0<k
   ·obtain⟨j,rfl⟩:∃j,k=j+1:=⟨k-1,zO⟩;have hj1:j<zda m:=zO;(have hj2:j<zda n:=by have:=HE.o;omega);have h7:=ca j hj1;have h8:=cb j hj2;have hlt:=zwe (zvb m) j hj1 hj2 HD.o;have hgt:=zwe (zvb n) j hj2 hj1 HD.o.symm;have heq:=ztp j hj1 hj2 HD.o;rw[zfa,zfa]at hlt hgt;clear ca cb HD;generalize (zja m)[j]'hj1=x at *
    generalize (zja n)[j]'hj2=y at *
    have HL:=zH hlt;have HG:=zH hgt;have HQ:=zH heq;clear hlt hgt heq;by_cases hxy:x<y
    ·go_wp2;go_quiet (fail);go_wp2;go_ret;exact⟨by rw[zdi (HL.o hxy)];rfl,by first | exact HB.o.trans ((zia _ _).mono HB.o.size) | (simp only[World.drewN_drewN];exact HB.o.trans ((zia _ _).mono HB.o.size))⟩
    ·by_cases hyx:y<x
     ·go_wp2;go_quiet (fail);go_wp2;go_quiet (fail);go_wp2;go_ret;exact⟨by rw[zmo (HG.o hyx)];rfl,by first | exact HB.o.trans ((zia _ _).mono HB.o.size) | (simp only[World.drewN_drewN];exact HB.o.trans ((zia _ _).mono HB.o.size))⟩
     ·go_wp2;go_quiet (fail);go_wp2;go_quiet (fail);go_wp2;go_roundw;(case rel=>exact⟨j,_,zO,by go_num,HQ.o zO,by first | rfl | (simp only[World.drewN_drewN];rfl)⟩);case measure=>simp[intOf]
   ·obtain rfl:k=0:=zO;have hmn:m=n:=zxh (by simpa using HD.o);have HM:=zH hmn;clear hmn;go_wp2;go_ret;exact⟨by rw[cmpN_eq HM.o];rfl,HB.o.trans ((zia _ _).mono HB.o.size)⟩
set_option maxHeartbeats 1000000
theorem zng (l:List Nat) (k:Nat):val (l.take (k+1))=val (l.take k)+pw k*l.getD k 0:=by
 by_cases h:k<l.length
 ·rw[zga l k h,zyf l k h]
 ·rw[zza l (k+1) zO,zza l k zO];have :l.getD k 0=0:=by simp[List.getD,List.getElem?_eq_none (Nat.le_of_not_lt h)]
  rw[this,Nat.mul_zero,Nat.add_zero]
theorem zrj (o:List Nat) (z:Nat):val (o++ [z])=val o+pw o.length*z:=by rw[zoc];simp[val]
theorem zdk {o a b:List Nat} {k c x y:Nat} (ho:o.length=k) (ha:val (a.take (k+1))=val (a.take k)+pw k*x) (hb:val (b.take (k+1))=val (b.take k)+pw k*y)
 (hv:val o+pw k*c=val (a.take k)+val (b.take k)):
 val (o++ [(c+x+y)%4294967296])+pw (k+1)*((c+x+y)/4294967296)=val (a.take (k+1))+val (b.take (k+1)):=by
 rw[zrj,ha,hb,zrb,ho];have h:(c+x+y)%4294967296+4294967296*((c+x+y)/4294967296)=c+x+y:=zO;generalize (c+x+y)%4294967296=z at *
 generalize (c+x+y)/4294967296=d at *
 grind
theorem plus_any (va vb:Value) (a b:List Nat) (w:World) (ha:ztc w va a) (hb:ztc w vb b) (hla:a.length<=65536) (hlb:b.length<=65536):
 Calls Tryz.prog 133 #[va,vb] w (RNat w (val a+val b)):=by
 obtain⟨i0,hi,hz0,hz1,hz2⟩:=info_parts Tryz.info102;have hA1:=zah (P:=Tryz.prog) 51 134 i0 Tryz.underlying51 hi hz0 hz1 hz2;clear hi hz0 hz1 hz2;have sa:=ha.sl;have sb:=hb.sl;have la:=ha.len;have lb:=hb.len;go_enter Tryz.func133,Tryz.ntmps133;go_wp2_with fail
 go_loopw [5,6,7] (λ u5 u6 u7 wr=>∃ (k c:Nat) (o:List Nat),k<=65537/\(c=0\/k<=a.length\/k<=b.length)/\u7= .int .i64 k/\u6= .int .u64 c/\c<=1/\zsc wr 134 w.heap.size u5 o/\o.length=k/\
  val o+pw k*c=val (a.take k)+val (b.take k)/\Below w.heap.size w wr) (λ _ u6 u7 _=>2*(a.length+b.length+1- (intOf u7).toNat)+(intOf u6).toNat)
 case atStart=>exact⟨0,0,[],zO,Or.inl rfl,rfl,rfl,zO,zsc.nil _ _ _,rfl,by simp[val],zBR _ _⟩
 case round=>
  obtain⟨k,c,o,hkb,hk,rfl,rfl,hc,hownr,hol,hval,hbr⟩:=hrel;have HOL:=zH hol;have HV:=zH hval;have HK:=zH hk;have HO:zI (o.length+1<=4294967296):=zH zO;clear hol hval hk;by_cases h1:k<a.length
  ·have hx:=(ha.bw hbr).cell k h1;have hx1:=ha.lt k h1;have HX:=zH (zga a k h1);generalize a[k]=x at *
   have HK1:zI ((c+x+0)/4294967296=0\/k+1<=a.length\/k+1<=b.length):=zH zO;by_cases h2:k<b.length
   ·have hy:=(hb.bw hbr).cell k h2;have hy1:=hb.lt k h2;have HY:=zH (zga b k h2);generalize b[k]=y at *
    have HS:=zH (zdk HOL.o HX.o HY.o HV.o);have HK1:zI ((c+x+y)/4294967296=0\/k+1<=a.length\/k+1<=b.length):=zH zO;go_wp2_with (at_builtin;refine hA1 wr rfl _ _ rfl w.heap.size _ u5 o rfl (by exact hownr) _ ((c+x+y)%4294967296) zO zO rfl (zLT HO.o zD) hbr.size ?_;intro v' w1 hown1 hbel1);go_roundw;(case rel=>exact⟨k+1,(c+x+y)/4294967296,_,by have:=HK.o;omega,HK1.o,by go_num,by go_num,zO,hown1,by simp[HOL.o],HS.o,hbr.trans (hbel1.mono (zLR _))⟩);case measure=>simp[intOf];omega
   ·have HS:=zH (zdk (y:=0) HOL.o HX.o (by rw[zza b (k+1) zO,zza b k zO];simp) HV.o);go_wp2_with (at_builtin;refine hA1 wr rfl _ _ rfl w.heap.size _ u5 o rfl (by exact hownr) _ ((c+x+0)%4294967296) zO zO rfl (zLT HO.o zD) hbr.size ?_;intro v' w1 hown1 hbel1);go_roundw;(case rel=>exact⟨k+1,(c+x+0)/4294967296,_,by have:=HK.o;omega,HK1.o,by go_num,by go_num,zO,hown1,by simp[HOL.o],HS.o,hbr.trans (hbel1.mono (zLR _))⟩);case measure=>simp[intOf];omega
  ·by_cases h2:k<b.length
   ·have hy:=(hb.bw hbr).cell k h2;have hy1:=hb.lt k h2;have HY:=zH (zga b k h2);generalize b[k]=y at *
    have HS:=zH (zdk (x:=0) HOL.o (by rw[zza a (k+1) zO,zza a k zO];simp) HY.o HV.o);have HK1:zI ((c+0+y)/4294967296=0\/k+1<=a.length\/k+1<=b.length):=zH zO;go_wp2_with (at_builtin;refine hA1 wr rfl _ _ rfl w.heap.size _ u5 o rfl (by exact hownr) _ ((c+0+y)%4294967296) zO zO rfl (zLT HO.o zD) hbr.size ?_;intro v' w1 hown1 hbel1);go_roundw;(case rel=>exact⟨k+1,(c+0+y)/4294967296,_,by have:=HK.o;omega,HK1.o,by go_num,by go_num,zO,hown1,by simp[HOL.o],HS.o,hbr.trans (hbel1.mono (zLR _))⟩);case measure=>simp[intOf];omega
   ·have e1:=zza a k zO;have e2:=zza b k zO;have f1:=zza a (k+1) zO;have f2:=zza b (k+1) zO;by_cases hc0:0<c
    ·obtain rfl:c=1:=zO;have HS:=zH (zdk (x:=0) (y:=0) HOL.o (by rw[e1,f1];simp) (by rw[e2,f2];simp) HV.o);have HK1:zI ((1+0+0)/4294967296=0\/k+1<=a.length\/k+1<=b.length):=zH (Or.inl rfl);clear e1 e2 f1 f2;go_wp2_with (at_builtin;refine hA1 wr rfl _ _ rfl w.heap.size _ u5 o rfl (by exact hownr) _ ((1+0+0)%4294967296) zO zO rfl (zLT HO.o zD) hbr.size ?_;intro v' w1 hown1 hbel1);go_roundw;(case rel=>exact⟨k+1,(1+0+0)/4294967296,_,by have:=HK.o;omega,HK1.o,by go_num,by go_num,zO,hown1,by simp[HOL.o],HS.o,hbr.trans (hbel1.mono (zLR _))⟩);case measure=>simp[intOf];omega
    ·obtain rfl:c=0:=zO;(have hv:val o=val a+val b:=by have:=HV.o;rw[e1,e2]at this;omega);have HT:=zoa _ _ wr (hownr.nat.natN (by have:=HO.o;omega));rw[hv]at HT;have HT2:=zH HT;clear HT hv e1 e2 f1 f2;go_wp2_with (go_at_call 89;refine HT2.o.mono ?_;rintro e w1 ⟨r,rfl,hr,hb⟩);go_ret;exact⟨r,rfl,hr,hbr.trans (hb.mono hbr.size)⟩
theorem zpi {o a b:List Nat} {k bo x y z bo':Nat} (ho:o.length=k) (ha:val (a.take (k+1))=val (a.take k)+pw k*x) (hb:val (b.take (k+1))=val (b.take k)+pw k*y)
 (hz:z+bo+y=x+4294967296*bo') (hv:val o+val (b.take k)=val (a.take k)+pw k*bo):
 val (o++ [z])+val (b.take (k+1))=val (a.take (k+1))+pw (k+1)*bo':=by
 rw[zrj,ha,hb,zrb,ho];grind
theorem minus_end {o a b:List Nat} {bo:Nat} (hb:val b<=val a) (ho:Lm o) (hol:o.length=a.length) (hbo:bo<=1) (hv:val o+val b=val a+pw a.length*bo):val o=val a-val b:=by
 have h1:=zqf ho;rw[hol]at h1;rcases Nat.eq_zero_or_pos bo with h | h
 ·subst h;omega
 ·obtain rfl:bo=1:=zO;omega
theorem zyn (va vb:Value) (a b:List Nat) (w:World) (ha:ztc w va a) (hb:ztc w vb b) (hla:a.length<=65536) (hlb:b.length<=a.length) (hba:val b<=val a):
 Calls Tryz.prog 134 #[va,vb] w (RNatO w (val a-val b)):=by
 obtain⟨i0,hi,hz0,hz1,hz2⟩:=info_parts Tryz.info102;have hA1:=zah (P:=Tryz.prog) 51 134 i0 Tryz.underlying51 hi hz0 hz1 hz2;clear hi hz0 hz1 hz2;have HBA:=zH hba;clear hba;have sa:=ha.sl;have sb:=hb.sl;have la:=ha.len;have lb:=hb.len;go_enter Tryz.func134,Tryz.ntmps134;go_wp2_with fail
 go_loopw [5,6,7] (λ u5 u6 u7 wr=>∃ (k bo:Nat) (o:List Nat),k<=a.length/\u7= .int .i64 k/\u6= .int .u64 bo/\bo<=1/\zsc wr 134 w.heap.size u5 o/\o.length=k/\
  val o+val (b.take k)=val (a.take k)+pw k*bo/\Below w.heap.size w wr) (λ _ _ u7 _=>a.length- (intOf u7).toNat)
 case atStart=>exact⟨0,0,[],zO,rfl,rfl,zO,zsc.nil _ _ _,rfl,by simp[val],zBR _ _⟩
 case round=>
  obtain⟨k,bo,o,hk,rfl,rfl,hc,hownr,hol,hval,hbr⟩:=hrel;have HOL:=zH hol;have HV:=zH hval;have HO:zI (o.length+1<=4294967296):=zH zO;clear hol hval;by_cases h1:k<a.length
  ·have hx:=(ha.bw hbr).cell k h1;have hx1:=ha.lt k h1;have HX:=zH (zga a k h1);generalize a[k]=x at *
   by_cases h2:k<b.length
   ·have hy:=(hb.bw hbr).cell k h2;have hy1:=hb.lt k h2;have HY:=zH (zga b k h2);generalize b[k]=y at *
    by_cases h3:x<bo+y
    ·have HS:=zH (zpi (z:=x+4294967296- (bo+y)) (bo':=1) HOL.o HX.o HY.o zO HV.o);go_wp2_with (at_builtin;refine hA1 wr rfl _ _ rfl w.heap.size _ u5 o rfl (by exact hownr) _ (x+4294967296- (bo+y)) zO zO rfl (zLT HO.o zD) hbr.size ?_;intro v' w1 hown1 hbel1);go_roundw;(case rel=>exact⟨k+1,1,_,zO,by go_num,by go_num,zO,hown1,by simp[HOL.o],HS.o,hbr.trans (hbel1.mono (zLR _))⟩);case measure=>simp[intOf];omega
    ·have HS:=zH (zpi (z:=x- (bo+y)) (bo':=0) HOL.o HX.o HY.o zO HV.o);go_wp2_with (at_builtin;refine hA1 wr rfl _ _ rfl w.heap.size _ u5 o rfl (by exact hownr) _ (x- (bo+y)) zO zO rfl (zLT HO.o zD) hbr.size ?_;intro v' w1 hown1 hbel1);go_roundw;(case rel=>exact⟨k+1,0,_,zO,by go_num,by go_num,zO,hown1,by simp[HOL.o],HS.o,hbr.trans (hbel1.mono (zLR _))⟩);case measure=>simp[intOf];omega
   ·have HY:zI (val (b.take (k+1))=val (b.take k)+pw k*0):=zH (by rw[zza b (k+1) zO,zza b k zO];simp);by_cases h3:x<bo+0
    ·have HS:=zH (zpi (z:=x+4294967296- (bo+0)) (bo':=1) HOL.o HX.o HY.o zO HV.o);go_wp2_with (at_builtin;refine hA1 wr rfl _ _ rfl w.heap.size _ u5 o rfl (by exact hownr) _ (x+4294967296- (bo+0)) zO zO rfl (zLT HO.o zD) hbr.size ?_;intro v' w1 hown1 hbel1);go_roundw;(case rel=>exact⟨k+1,1,_,zO,by go_num,by go_num,zO,hown1,by simp[HOL.o],HS.o,hbr.trans (hbel1.mono (zLR _))⟩);case measure=>simp[intOf];omega
    ·have HS:=zH (zpi (z:=x- (bo+0)) (bo':=0) HOL.o HX.o HY.o zO HV.o);go_wp2_with (at_builtin;refine hA1 wr rfl _ _ rfl w.heap.size _ u5 o rfl (by exact hownr) _ (x- (bo+0)) zO zO rfl (zLT HO.o zD) hbr.size ?_;intro v' w1 hown1 hbel1);go_roundw;(case rel=>exact⟨k+1,0,_,zO,by go_num,by go_num,zO,hown1,by simp[HOL.o],HS.o,hbr.trans (hbel1.mono (zLR _))⟩);case measure=>simp[intOf];omega
  ·obtain rfl:k=a.length:=zO;have hv:val o=val a-val b:=minus_end HBA.o hownr.lm HOL.o hc (by have:=HV.o;rw[zza a a.length (zLR _),zza b a.length zO]at this;exact this);have HT:=zen _ _ wr (hownr.nat.natN (by have:=HO.o;omega));rw[hv]at HT;have HT2:=zH HT;clear HT hv;go_wp2_with (go_at_call 89;refine HT2.o.mono ?_;rintro e w1 ⟨r,rfl,hr,hr2,hb⟩);go_ret;exact⟨r,rfl,⟨hr.own.mono hbr.size,hr.lm⟩,hr2,hbr.trans (hb.mono hbr.size)⟩
theorem minus_any (va vb:Value) (a b:List Nat) (w:World) (ha:ztc w va a) (hb:ztc w vb b) (hla:a.length<=65536) (hlb:b.length<=a.length) (hba:val b<=val a):
 Calls Tryz.prog 134 #[va,vb] w (RNat w (val a-val b)):=(zyn va vb a b w ha hb hla hlb hba).mono λ _ _ h=>h.nat
end Go.Proofs.YtkpedaflofejnaaGreat
