/- Lemmas. -/
import Derived.Test.YtkpedaflofejnaaGreatMBits
set_option linter.unusedVariables false
set_option linter.unusedSimpArgs false
namespace Go.Proofs.YtkpedaflofejnaaGreat
open Go.RowKit
theorem cmp_ge (va vb:Value) (m n:Nat) (w:World) (ha:zwb w va m) (hb:zwb w vb n) (h:n<=m):
 Calls Tryz.prog 119 #[va,vb] w λ e w'=>(∃c:Int,e= .returned (.int .i64 c)/\decide (c<0)=false)/\∃k,w'=w.drewN k:=
 (zlo va vb m n w ha hb).mono λ _ _ ⟨a,b⟩=>⟨⟨_,a,zDF (by unfold zjl;rw[zIN zO];split<;>omega)⟩,b⟩
theorem sub_wrap (x y c:Nat) (hx:x<4294967296) (hy:y<4294967296) (hc:c<=1):∃z b:Nat,z<4294967296/\b<=1/\
 IntKind.u64.wrap (IntKind.u64.wrap ((x:Int)-c)-y)%4294967296=z/\IntKind.u64.wrap (IntKind.u64.wrap ((x:Int)-c)-y)/9223372036854775808=b/\z+c+y=x+4294967296*b:=by
 rw[zhc,zhc];by_cases h:c+y<=x
 ·exact⟨x-c-y,0,zO,zO,zO,zO,zO⟩
 ·exact⟨x+4294967296-c-y,1,zO,zO,zO,zO,zO⟩
theorem sub_wrap0 (x c:Nat) (hx:x<4294967296) (hc:c<=1):∃z b:Nat,z<4294967296/\b<=1/\
 IntKind.u64.wrap ((x:Int)-c)%4294967296=z/\IntKind.u64.wrap ((x:Int)-c)/9223372036854775808=b/\z+c+0=x+4294967296*b:=by
 rw[zhc];by_cases h:c<=x
 ·exact⟨x-c,0,zO,zO,zO,zO,zO⟩
 ·exact⟨x+4294967296-c,1,zO,zO,zO,zO,zO⟩
set_option maxHeartbeats 800000 in
theorem sub_any (va vb:Value) (m n:Nat) (w:World) (ha:zwb w va m) (hb:zwb w vb n) (hm:zda m<=512) (hnm:n<=m):
 Calls Tryz.prog 141 #[va,vb] w (zxp w (m-n)):=by
 have hn:zda n<=512:=zLT (zfb hnm) hm;have hnn:=zfb hnm;have HM:=zH hm;have HN:=zH hn;clear hm hn;obtain⟨sa,ca,ka⟩:=ha.scap;obtain⟨sb,cb,kb⟩:=hb.scap;obtain⟨i0,hi,hz0,hz1,hz2⟩:=info_parts Tryz.info102;have hM:=zfe (P:=Tryz.prog) 51 134 i0 Tryz.underlying51 hi hz0 hz1 hz2;go_enter Tryz.func141,Tryz.ntmps141
 go_wp2_with (first
  |(go_at_call 156;first | ((with_reducible refine(zpe va m _ ha HM.o).mono ?_);rintro e w' ⟨rfl,rfl⟩) | ((with_reducible refine(zpe vb n _ hb HN.o).mono ?_);rintro e w' ⟨rfl,rfl⟩))
  |(go_at_call 119;refine(cmp_ge va vb m n _ ha hb hnm).mono ?_;rintro e w' ⟨⟨c,rfl,hc⟩,nq0,rfl⟩))
 have ha0:=ha.drawn nq0;have hb0:=hb.drawn nq0;have ka0:=ka.drawn nq0;have kb0:=kb.drawn nq0;have hbel0:=zia (B:=w.heap.size) w nq0;generalize w.drewN nq0=W0 at *
 go_quiet ((go_at_call 139;first | with_reducible exact Calls.quiet_of_same ((zcb va m _ (ha0.drawn _)).mono λ e w' ⟨h1,h2⟩=>⟨h1,h2.symm⟩) | with_reducible exact Calls.quiet_of_same ((zcb vb n _ (hb0.drawn _)).mono λ e w' ⟨h1,h2⟩=>⟨h1,h2.symm⟩)));have l1:slen (tk va (zda m))=zda m:=ka.1.len;have l2:slen (tk vb (zda n))=zda n:=kb.1.len;have s1:=ka.1.sl;have s2:=kb.1.sl;clear ha hb sa sb ca cb ha0 hb0 ka kb hc;generalize tk va (zda m)=xa at *
 generalize tk vb (zda n)=xb at *
 have kb':=kb0.drawn nq;have ka':=ka0.drawn nq;have hbel:=hbel0.trans (zia (B:=w.heap.size) W0 nq);generalize W0.drewN nq=W at *
 have hroom:zda m<=35184372088832:=by have:=HM.o;omega
 have HR:=zH hroom;clear hroom ka0 kb0 hbel0;go_wp2_with (refine hM _ rfl _ _ rfl W.heap.size _ (zda m) rfl rfl rfl HR.o (zLR _) ?_;intro v w1 hown hb1 hvb);have hbw:Below w.heap.size w w1:=hbel.trans (hb1.mono hbel.size);clear hM
 go_loopw [7,35] (λ u7 u35 wr=>∃ (k c:Nat) (o:List Nat),k<=zda m/\u35= .int .i64 k/\u7= .int .u64 c/\c<=1/\zsc wr 134 W.heap.size v o/\o.length=zda m/\
  val (o.take k)+val ((zja n).take k)=val ((zja m).take k)+pw k*c/\Below W.heap.size W wr) (λ _ u35 _=>zda m- (intOf u35).toNat)
 case atStart=>exact⟨0,0,_,zZL _,rfl,rfl,zO,hown,by simp,by simp[val],hb1⟩
 case round=>
  obtain⟨k,c,o,hk,rfl,rfl,hc,hownr,hol,hval,hbr⟩:=hrel;have hcx:=((ka'.bw hbr).1).cell;have hcy:=((kb'.bw hbr).1).cell;have sv:=hownr.nat.sl;have lv:slen v=zda m:=by rw[hownr.nat.len,hol]
  have HV:=zH hval;clear hval;have hkb:k<=4294967296:=by have:=HM.o;omega
  by_cases hkp:k<zda m
  ·have hx:=hcx k hkp;have hx1:(zja m)[k]'hkp<4294967296:=zvb m _ (zGM _);have hfz:=hownr.frozen k zO;have hco:=hownr.nat.cell k zO;have HX:=zH (zga (zja m) k hkp);clear hcx;generalize (zja m)[k]'hkp=x at *
   by_cases hkq:k<zda n
   ·have hy:=hcy k hkq;have hy1:(zja n)[k]'hkq<4294967296:=zvb n _ (zGM _);have HY:=zH (zga (zja n) k hkq);clear hcy;generalize (zja n)[k]'hkq=y at *
    obtain⟨z,b,hz,hb,ez,eb,hzz⟩:=sub_wrap x y c hx1 hy1 hc;have EZ:=zH ez;have EB:=zH eb;have HZZ:=zH hzz;clear ez eb hzz;go_wp2;have hset:=hownr.set k zO z hz;go_roundw
    case rel=>
     rw[EZ.o,EB.o];exact⟨k+1,b,_,zO,by go_num,rfl,hb,hset.1,by simp[hol],sub_step zO HX.o HY.o HZZ.o HV.o,hbr.trans hset.2⟩
    case measure=>simp[intOf];omega
   ·have HY:=zH (zef (zja n) k (by unfold zda at hkq;omega));clear hcy;obtain⟨z,b,hz,hb,ez,eb,hzz⟩:=sub_wrap0 x c hx1 hc;have EZ:=zH ez;have EB:=zH eb;have HZZ:=zH hzz;clear ez eb hzz;go_wp2;have hset:=hownr.set k zO z hz;go_roundw
    case rel=>
     rw[EZ.o,EB.o];exact⟨k+1,b,_,zO,by go_num,rfl,hb,hset.1,by simp[hol],sub_step zO HX.o (by rw[HY.o];rfl) HZZ.o HV.o,hbr.trans hset.2⟩
    case measure=>simp[intOf];omega
  ·obtain rfl:k=zda m:=zO;clear hcx hcy
   have hv2:val o=m-n:=by
    have e:=HV.o;rw[zTL zO,zTL (show zda m<=zda m from zLR _),zTL (show zda n<=zda m by omega),zfa,zfa]at e;have h1:=zqf hownr.lm;rw[hol]at h1;have h2:=pw_pos (zda m);rcases zOG c 1 with hc0 | hc0
    ·obtain rfl:c=0:=zO;omega
    ·obtain rfl:c=1:=zO;omega
   have HS:=zH (zxj v _ _ hownr.nat (by rw[hol];omega));have HV2:=zH hv2;clear hv2 HV;go_wp2_with (go_at_call 157;refine HS.o.mono ?_;rintro e w' ⟨r,er,rfl,hr,hbl⟩);go_ret2;rw[HV2.o]at hr;exact⟨r,er,rfl,hr,hbel.trans ((hbr.trans (hbl.mono hbr.size)).mono hbel.size)⟩
end Go.Proofs.YtkpedaflofejnaaGreat
namespace Go.Proofs.YtkpedaflofejnaaGreat
theorem zsj (l:List Nat) (k:Nat) (h:k<l.length):val (l.drop k)=l[k]+4294967296*val (l.drop (k+1)):=by
 rw[List.drop_eq_getElem_cons h];rfl
theorem drop_set_of_lt {α:Type} (l:List α) (k:Nat) (z:α) (h:k<l.length):(l.set k z).drop k=z::l.drop (k+1):=by
 rw[List.drop_eq_getElem_cons (by simpa using h),List.drop_set_of_lt zO];simp
theorem zap {q l:List Nat} {k d r x:Nat} (hk:k<q.length) (hl:val (l.drop k)=x+4294967296*val (l.drop (k+1))) (hd:0<d)
 (hv:val (l.drop (k+1))=d*val (q.drop (k+1))+r) (hr:r<d):
 val (l.drop k)=d*val ((q.set k ((r*4294967296+x)/d)).drop k)+(r*4294967296+x)%d:=by
 rw[drop_set_of_lt q k _ hk,hl,hv];simp only[val];have h:=Nat.div_add_mod (r*4294967296+x) d;generalize (r*4294967296+x)/d=a at *
 generalize (r*4294967296+x)%d=b at *
 grind
theorem zbn {d r x:Nat} (hd:d<4294967296) (hr:r<d) (hx:x<4294967296):(r*4294967296+x)/d<4294967296/\(r*4294967296+x)%d<d/\r*4294967296+x<18446744073709551616:=by
 refine⟨?_,zML2 _ zO,zO⟩;rw[Nat.div_lt_iff_lt_mul zO];have :r*4294967296+4294967296<=d*4294967296:=zO;omega
theorem up_step {o l:List Nat} {k c x P t:Nat} (hk:k<o.length) (hl:val (l.take (k+1))=val (l.take k)+pw k*x) (hv:val (o.take k)+pw k*c=P*val (l.take k)) (ht:t=P*x+c):
 val ((o.set k (t%4294967296)).take (k+1))+pw (k+1)*(t/4294967296)=P*val (l.take (k+1)):=by
 rw[zqb o k _ hk,hl,zrb];have h:t%4294967296+4294967296*(t/4294967296)=t:=zO;generalize t%4294967296=z at *
 generalize t/4294967296=d at *
 grind
theorem zaq {p q l:List Nat} {k c bo f x u z c' bo' lo:Nat} (hk:k<q.length) (hp:val (p.take (k+1))=val (p.take k)+pw k*u) (hl:val (l.take (k+1))=val (l.take k)+pw k*x)
 (ht:4294967296*c'+lo=c+f*x) (hz:z+lo+bo=u+4294967296*bo')
 (hv:val (q.take k)+f*val (l.take k)=val (p.take k)+pw k*(c+bo)):
 val ((q.set k z).take (k+1))+f*val (l.take (k+1))=val (p.take (k+1))+pw (k+1)*(c'+bo'):=by
 rw[zqb q k _ hk,hp,hl,zrb];generalize pw k=P at *
 generalize val (q.take k)=Q at *
 generalize val (p.take k)=R at *
 generalize val (l.take k)=L at *
 have h1:P*(4294967296*c'+lo)=P*(c+f*x):=by rw[ht]
 have h2:P*(z+lo+bo)=P*(u+4294967296*bo'):=by rw[hz]
 grind
theorem subtract_end {p q l:List Nat} {n c bo f z b:Nat} (hq:q.length=n+1) (hp:p.length=n+1) (hl:l.length=n) (hpn:p[n]' zO+4294967296*b=z+c+bo)
 (hv:val (q.take n)+f*val (l.take n)=val (p.take n)+pw n*(c+bo)):val (q.set n z)+f*val l=val p+b*pw (n+1):=by
 have e1:=zqb q n z zO;rw[zTL (by simp;omega)]at e1;have e2:=zga p n zO;rw[zTL zO]at e2;rw[zTL (by omega:l.length<=n)]at hv;rw[e1,e2,zrb];generalize p[n]' zO=u at *
 generalize pw n=P at *
 have h2:P*(u+4294967296*b)=P*(z+c+bo):=by rw[hpn]
 grind
theorem zdn {α:Type} (A p C:List α) (k:Nat) (z:α) (h:k<p.length):(A++p++C).set (A.length+k) z=A++p.set k z++C:=by
 rw[List.append_assoc,List.set_append_right _ _ zO,zAS,List.set_append_left _ _ h,List.append_assoc]
theorem zwf {α:Type} (A p C:List α) (k:Nat) (h:k<p.length):(A++p++C)[A.length+k]? =some p[k]:=by
 rw[List.append_assoc,List.getElem?_append_right zO,zAS,List.getElem?_append_left h,zGE h]
end Go.Proofs.YtkpedaflofejnaaGreat
namespace Go.Proofs.YtkpedaflofejnaaGreat
set_option maxHeartbeats 800000
open Go.RowKit
def RShort (w0:World) (n d:Nat) (e:Ending) (w:World):Prop:=
 ∃q,e= .returned (.tuple #[q, .int .u32 (n%d:Nat)])/\zpb w q (n/d)/\Below w0.heap.size w0 w
theorem short_any (va:Value) (l:List Nat) (d:Nat) (w:World) (ha:ztc w va l) (hl:l.length<=65536) (hd:0<d) (hd2:d<4294967296):
 Calls Tryz.prog 173 #[va, .int .u32 d] w (RShort w (val l) d):=by
 have hlb:l.length<=4294967296:=zO;have HL:=zH hl;clear hl;obtain⟨i0,hi,hz0,hz1,hz2⟩:=info_parts Tryz.info102;have hM:=zfe (P:=Tryz.prog) 51 134 i0 Tryz.underlying51 hi hz0 hz1 hz2;have sa:=ha.sl;have la:=ha.len;have hroom:l.length<=35184372088832:=zO;go_enter Tryz.func173,Tryz.ntmps173;go_wp2_with (refine hM _ rfl _ _ rfl w.heap.size _ l.length rfl rfl rfl hroom (zLR _) ?_;intro v w1 hown hb1 hvb);clear hM
 go_loopw [7,8] (λ u7 u8 wr=>∃ (k r:Nat) (q:List Nat),k<=l.length/\u8= .int .i64 ((k:Int)-1)/\u7= .int .u64 r/\r<d/\zsc wr 134 w.heap.size v q/\q.length=l.length/\
  val (l.drop k)=d*val (q.drop k)+r/\Below w.heap.size w wr) (λ _ u8 _=>(intOf u8+1).toNat)
 case atStart=>exact⟨l.length,0,_,zLR _,rfl,rfl,hd,hown,by simp,by rw[List.drop_of_length_le (zLR _),List.drop_of_length_le (by simp)];rfl,hb1⟩
 case round=>
  obtain⟨k,r,q,hk,rfl,rfl,hr,hownr,hol,hval,hbr⟩:=hrel;have hcx:=(ha.bw hbr).cell;have sv:=hownr.nat.sl;have lv:slen v=l.length:=by rw[hownr.nat.len,hol]
  have HV:=zH hval;clear hval;by_cases hk0:0<k
  ·obtain⟨j,rfl⟩:∃j,k=j+1:=⟨k-1,zO⟩;have hj1:j<l.length:=zO;have hx:=hcx j hj1;have hx1:l[j]'hj1<4294967296:=ha.lm _ (zGM _);have hfz:=hownr.frozen j zO;have hco:=hownr.nat.cell j zO;have HS:=zH (zap (q:=q) (l:=l) (k:=j) (d:=d) (r:=r) zO (zsj l j hj1) hd HV.o hr);clear hcx;generalize l[j]'hj1=x at *
   obtain⟨b1,b2,b3⟩:=zbn hd2 hr hx1;have hor:=or_lo r x zO hx1;generalize r*4294967296+x=t at *
   go_wp2;have ew:=div_limb t d b1;have hset:=hownr.set j zO (t/d) b1;go_roundw
   case rel=>
    rw[ew];exact⟨j,t%d,_,zO,rfl,rfl,b2,hset.1,by simp[hol],HS.o,hbr.trans hset.2⟩
   case measure=>simp[intOf]
  ·obtain rfl:k=0:=zO;have e:=HV.o;simp only[List.drop_zero]at e;(have hq:val q=val l/d:=by rw[e,Nat.mul_add_div hd,Nat.div_eq_of_lt hr,Nat.add_zero]);(have hrr:r=val l%d:=by rw[e,Nat.mul_add_mod,Nat.mod_eq_of_lt hr]);have hcan:=hownr.nat.can zO;have HLN:=zH (zcb v (val q) wr (hownr.nat.natN zO));have HC:=zH hcan;have HQ:=zH hq;have HR:=zH hrr;(have hcap:zda (val q)<=scap v:=by have:=sv.le;have:=zxb hownr.lm;omega);clear hcx hcan hq hrr HV e;go_wp2_with (go_at_call 139;refine HLN.o.mono ?_;rintro e w' ⟨rfl,rfl⟩);go_ret2;refine⟨tk v (zda (val q)),by rw[<-HR.o];rfl,?_,hbr⟩;rw[<-HQ.o];exact HC.o
theorem up_any (va:Value) (l:List Nat) (s:Nat) (w:World) (ha:ztc w va l) (hl:l.length<=65536) (hs:s<32):
 Calls Tryz.prog 174 #[va, .int .u64 s] w λ e w'=>∃r o,e= .returned r/\zsc w' 134 w.heap.size r o/\o.length=l.length+1/\val o=2^s*val l/\Below w.heap.size w w':=by
 have hlb:l.length<=4294967296:=zO;have HL:=zH hl;clear hl;obtain⟨i0,hi,hz0,hz1,hz2⟩:=info_parts Tryz.info102;have hM:=zfe (P:=Tryz.prog) 51 134 i0 Tryz.underlying51 hi hz0 hz1 hz2;have sa:=ha.sl;have la:=ha.len;have hroom:l.length+1<=35184372088832:=zO;go_enter Tryz.func174,Tryz.ntmps174;go_wp2_with (refine hM _ rfl _ _ rfl w.heap.size _ (l.length+1) rfl rfl rfl hroom (zLR _) ?_;intro v w1 hown hb1 hvb);clear hM
 go_loopw [6,15] (λ u6 u15 wr=>∃ (k c:Nat) (o:List Nat),k<=l.length/\u15= .int .i64 k/\u6= .int .u64 c/\c<2^s/\zsc wr 134 w.heap.size v o/\o.length=l.length+1/\
  val (o.take k)+pw k*c=2^s*val (l.take k)/\Below w.heap.size w wr) (λ _ u15 _=>l.length- (intOf u15).toNat)
 case atStart=>exact⟨0,0,_,zZL _,rfl,rfl,Nat.pow_pos zD,hown,by simp,by simp[val],hb1⟩
 case round=>
  obtain⟨k,c,o,hk,rfl,rfl,hc,hownr,hol,hval,hbr⟩:=hrel;have hcx:=(ha.bw hbr).cell;have sv:=hownr.nat.sl;have lv:slen v=l.length+1:=by rw[hownr.nat.len,hol]
  have HV:=zH hval;clear hval;by_cases hkp:k<l.length
  ·have hx:=hcx k hkp;have hx1:l[k]'hkp<4294967296:=ha.lm _ (zGM _);have hfz:=hownr.frozen k zO;have hco:=hownr.nat.cell k zO;have HX:=zH (zga l k hkp);clear hcx;generalize l[k]'hkp=x at *
   have hor:=or_up c x s hs hc hx1;obtain⟨b1,b2⟩:=up_bound c x s hs hc hx1;(have HT:=λ t=>zH (up_step (o:=o) (l:=l) (k:=k) (c:=c) (x:=x) (P:=2^s) (t:=t) zO HX.o HV.o));generalize hte:2^s*x+c=t at *
   have HTE:=zH hte;clear hte;go_wp2;have hset:=hownr.set k zO (t%4294967296) zO;go_roundw;(case rel=>exact⟨k+1,t/4294967296,_,zO,by go_num,rfl,b2,hset.1,by simp[hol],(HT t).o rfl,hbr.trans hset.2⟩);case measure=>simp[intOf];omega
  ·obtain rfl:k=l.length:=zO;have hP:2^s<=2^31:=Nat.pow_le_pow_right zD zO;have hc1:c<4294967296:=zO;have hfz:=hownr.frozen l.length zO;have hco:=hownr.nat.cell l.length zO;have hset:=hownr.set l.length zO c hc1
   have hv2:val (o.set l.length c)=2^s*val l:=by
    have e:=zqb o l.length c zO;rw[zTL (by simp;omega),HV.o,List.take_length]at e;exact e
   have HV2:=zH hv2;clear hv2 hcx hP HV;go_wp2;go_ret;exact⟨v,_,rfl,hset.1,by simp[hol],HV2.o,hbr.trans hset.2⟩
set_option maxHeartbeats 1600000
theorem zwl (w:World) (row:Option Nat):w.grownBy w row:=⟨rfl,rfl,rfl,zLR _,λ _ _ _=>rfl⟩
theorem zgd {w w1 w2:World} {row:Option Nat} (h:w.grownBy w1 row) (k:w1.grownBy w2 row):w.grownBy w2 row:=
 ⟨k.os.trans h.os,k.tape.trans h.tape,k.output.trans h.output,zLT h.size k.size,λ i hi hr=>(k.block i (zLM hi h.size) hr).trans (h.block i hi hr)⟩
theorem zdd (w:World) (p:Addr) (u:Value):w.grownBy (w.setCell p u) (some p.block):=
 ⟨rfl,rfl,rfl,by simp[World.setCell],λ k _ hk=>Below.heap_setCell _ _ _ _ (λ e=>hk (by rw[e]))⟩
theorem zhd {w w':World} {b B:Nat} (h:w.grownBy w' (some b)) (hB:B<=b) (hs:B<=w.heap.size):Below B w w':=
 ⟨h.os,h.tape,h.output,h.size,λ k hk=>h.block k zO (λ e=>by injection e;omega)⟩
theorem ztc.grown {w w':World} {v:Value} {l:List Nat} {b:Nat} (h:ztc w v l) (hg:w.grownBy w' (some b)) (hb:(base v).block≠b):ztc w' v l:=
 ⟨h.sl,h.len,λ j hj=>by
  have hc:=h.cell j hj;have hlt:=World.block_lt_of_cell? w _ hc;rw[World.cell?_of_block (hg.block _ hlt (λ e=>hb (by injection e with e;rw[<-e,zma]))),hc],h.lm⟩
theorem and_mask (t:Nat) (ht:t<18446744073709551616):bits .and .u64 (t:Int) 4294967295=((t%4294967296:Nat):Int):=by
 have h:=u64_and_nat t 4294967295 ht zD
 have e:t &&& 4294967295=t%4294967296:=by
  have:=Nat.and_two_pow_sub_one_eq_mod t 32;simpa using this
 rw[e]at h;exact h
theorem sub_wrap2 (x y c:Nat) (hx:x<4294967296) (hy:y<4294967296) (hc:c<=1):∃z b:Nat,z<4294967296/\b<=1/\
 IntKind.u64.wrap (IntKind.u64.wrap ((x:Int)-y)-c)%4294967296=z/\IntKind.u64.wrap (IntKind.u64.wrap ((x:Int)-y)-c)/9223372036854775808=b/\z+y+c=x+4294967296*b:=by
 rw[zhc,zhc];by_cases h:c+y<=x
 ·exact⟨x-c-y,0,zO,zO,zO,zO,zO⟩
 ·exact⟨x+4294967296-c-y,1,zO,zO,zO,zO,zO⟩
theorem split_sum (c f x:Nat) (hc:c<4294967296) (hf:f<4294967296) (hx:x<4294967296):∃t c' lo:Nat,(c:Int)+(f:Int)*x=t/\bits .and .u64 (t:Int) 4294967295=lo/\(t:Int)/4294967296=c'/\
 c'<4294967296/\lo<4294967296/\4294967296*c'+lo=c+f*x/\t<=18446744073709551615:=by
 have hb:=(zwn hf hx (show 0<4294967296 by omega) hc).1;have e:=mul_cast c f x 0;have ha:=and_mask (f*x+0+c) hb;refine⟨f*x+0+c,(f*x+0+c)/4294967296,(f*x+0+c)%4294967296,by rw[<-e];simp,ha,zO,zO,zO,zO,zO⟩
theorem zoh (U V uv:Value) (A p C l:List Nat) (n f B:Nat) (w:World) (hU:zlb U) (hUl:slen U=n+1) (hUp:∀k,ptr U k=ptr uv (A.length+k))
 (hu:zsc w 134 B uv (A++p++C)) (hp:p.length=n+1) (hv:ztc w V l) (hl:l.length=n) (hn:n<=65536) (hf:f<4294967296) (hne:(base V).block≠(base uv).block):
 Calls Tryz.prog 175 #[U,V, .int .u64 f] w λ e w'=>∃ (b:Bool) (p':List Nat),e= .returned (.bool b)/\zsc w' 134 B uv (A++p'++C)/\p'.length=n+1/\
  val p'+f*val l=val p+(if b then 1 else 0)*pw (n+1)/\w.grownBy w' (some (base uv).block):=by
 have hnb:n<=4294967296:=zO;have HN:=zH hn;clear hn;have sV:=hv.sl;have lV:slen V=n:=by rw[hv.len,hl]
 have HUP:=zH hUp;clear hUp;go_enter Tryz.func175,Tryz.ntmps175;go_wp2_with fail
 go_loopw [7,8,15] (λ u7 u8 u15 wr=>∃ (k c bo:Nat) (q:List Nat),k<=n/\u15= .int .i64 k/\u7= .int .u64 c/\u8= .int .u64 bo/\c<4294967296/\bo<=1/\zsc wr 134 B uv (A++q++C)/\q.length=n+1/\
  val (q.take k)+f*val (l.take k)=val (p.take k)+pw k*(c+bo)/\q.drop k=p.drop k/\w.grownBy wr (some (base uv).block)) (λ _ _ u15 _=>n- (intOf u15).toNat)
 case atStart=>exact⟨0,0,0,p,zZL _,rfl,rfl,rfl,zO,zO,hu,hp,by simp[val],rfl,zwl _ _⟩
 case round=>
  obtain⟨k,c,bo,q,hk,rfl,rfl,rfl,hc,hbo,hown,hql,hval,hdr,hgr⟩:=hrel;have hV:=hv.grown hgr hne;have HV:=zH hval;have HD:=zH hdr;clear hval hdr
  have hpq:∀ (h:k<n+1),q[k]' zO=p[k]' zO:=λ h=>by
   have:=congrArg (λ l=>l[0]?) HD.o;simp only[List.getElem?_drop,Nat.add_zero]at this;rw[zGE zO,zGE zO]at this;simpa using this
  by_cases hkn:k<n
  ·have hx:=hV.cell k zO;have hx1:l[k]' zO<4294967296:=hv.lm _ (zGM _);(have hlen:A.length+k<(A++q++C).length:=by simp;omega);have hco:=hown.nat.cell (A.length+k) hlen;rw[<-HUP.o k,(List.getElem_eq_iff hlen).2 (zwf A q C k zO)]at hco;have hfz:=hown.frozen (A.length+k) hlen;rw[<-HUP.o k]at hfz
   have hu1:q[k]' zO<4294967296:=by
    have:=hown.lm _ (zGM (h:=hlen));rwa[(List.getElem_eq_iff hlen).2 (zwf A q C k zO)]at this
   have hp1:=zga p k zO;rw[<-hpq zO]at hp1;have hl1:=zga l k zO;clear hpq;generalize l[k]' zO=x at *
   generalize q[k]' zO=u at *
   have HP:=zH hp1;have HL:=zH hl1;clear hp1 hl1;obtain⟨hb0,hb1⟩:=zoi hf hx1;obtain⟨t,c',lo,et,hand,hdiv,hc',hlo,hts,htm⟩:=split_sum c f x hc hf hx1;obtain⟨z,b',hz,hb',ez,eb,hzz⟩:=sub_wrap2 u lo bo hu1 hlo hbo;have HTS:=zH hts;have EZ:=zH ez;have EB:=zH eb;have HZZ:=zH hzz;clear hts ez eb hzz;go_wp2;have hset:=hown.set (A.length+k) hlen z hz;rw[zdn A q C k z zO,<-HUP.o k]at hset;have hgs:=zdd wr (ptr U k) (.int .u32 z);rw[show(ptr U k).block=(base uv).block from by rw[HUP.o k,zma]]at hgs;go_roundw
   case rel=>
    rw[EZ.o,EB.o];refine⟨k+1,c',b',q.set k z,zO,by go_num,rfl,rfl,hc',hb',hset.1,by simp[hql],zaq zO HP.o HL.o HTS.o HZZ.o HV.o,?_,zgd hgr hgs⟩;have:=congrArg (List.drop 1) HD.o;rw[List.drop_drop,List.drop_drop]at this;rw[List.drop_set_of_lt zO];exact this
   case measure=>simp[intOf];omega
  ·obtain rfl:k=n:=zO;(have hlen:A.length+k<(A++q++C).length:=by simp;omega);have hco:=hown.nat.cell (A.length+k) hlen;rw[<-HUP.o k,(List.getElem_eq_iff hlen).2 (zwf A q C k zO)]at hco;have hfz:=hown.frozen (A.length+k) hlen;rw[<-HUP.o k]at hfz
   have hu1:q[k]' zO<4294967296:=by
    have:=hown.lm _ (zGM (h:=hlen));rwa[(List.getElem_eq_iff hlen).2 (zwf A q C k zO)]at this
   obtain⟨z,b',hz,hb',ez,eb,hzz⟩:=sub_wrap2 (q[k]' zO) c bo hu1 hc hbo;have hfin:=subtract_end (p:=p) (q:=q) (l:=l) (n:=k) (c:=c) (bo:=bo) (f:=f) (z:=z) (b:=b') hql hp hl (by rw[<-hpq zO];omega) HV.o;clear hpq;generalize q[k]' zO=u at *
   have EZ:=zH ez;have EB:=zH eb;have HF:=zH hfin;have hset:=hown.set (A.length+k) hlen z hz;rw[zdn A q C k z zO,<-HUP.o k]at hset;have hgs:=zdd wr (ptr U k) (.int .u32 z);rw[show(ptr U k).block=(base uv).block from by rw[HUP.o k,zma]]at hgs;have HS:=zH hset;have HG:=zH hgs;clear hzz ez eb hfin hset hgs HV HD hV;go_wp2;go_ret;rw[EZ.o];refine⟨decide (b'=1),q.set k z,?_,HS.o.1,by simp[hql],?_,zgd hgr HG.o⟩
   ·(show Ending.returned (Value.bool _)=_);rw[EB.o]
    congr 2
    rw[Bool.eq_iff_iff];simp;omega
   ·rw[HF.o];have :b'=0\/b'=1:=zO;rcases this with rfl | rfl<;>simp
theorem zzi (U V uv:Value) (A p C l:List Nat) (n B:Nat) (w:World) (hU:zlb U) (hUl:slen U=n+1) (hUp:∀k,ptr U k=ptr uv (A.length+k))
 (hu:zsc w 134 B uv (A++p++C)) (hp:p.length=n+1) (hv:ztc w V l) (hl:l.length=n) (hn:n<=65536) (hne:(base V).block≠(base uv).block):
 Calls Tryz.prog 176 #[U,V] w λ e w'=>∃ (b:Nat) (p':List Nat),e= .returned (.tuple #[])/\zsc w' 134 B uv (A++p'++C)/\p'.length=n+1/\
  val p'+b*pw (n+1)=val p+val l/\w.grownBy w' (some (base uv).block):=by
 have hnb:n<=4294967296:=zO;have HN:=zH hn;clear hn;have sV:=hv.sl;have lV:slen V=n:=by rw[hv.len,hl]
 have HUP:=zH hUp;clear hUp;go_enter Tryz.func176,Tryz.ntmps176;go_wp2_with fail
 go_loopw [4,9] (λ u4 u9 wr=>∃ (k c:Nat) (q:List Nat),k<=n/\u9= .int .i64 k/\u4= .int .u64 c/\c<=1/\zsc wr 134 B uv (A++q++C)/\q.length=n+1/\
  val (q.take k)+pw k*c=val (p.take k)+val (l.take k)/\q.drop k=p.drop k/\w.grownBy wr (some (base uv).block)) (λ _ u9 _=>n- (intOf u9).toNat)
 case atStart=>exact⟨0,0,p,zZL _,rfl,rfl,zO,hu,hp,by simp[val],rfl,zwl _ _⟩
 case round=>
  obtain⟨k,c,q,hk,rfl,rfl,hc,hown,hql,hval,hdr,hgr⟩:=hrel;have hV:=hv.grown hgr hne;have HV:=zH hval;have HD:=zH hdr;clear hval hdr
  have hpq:∀ (h:k<n+1),q[k]' zO=p[k]' zO:=λ h=>by
   have:=congrArg (λ l=>l[0]?) HD.o;simp only[List.getElem?_drop,Nat.add_zero]at this;rw[zGE zO,zGE zO]at this;simpa using this
  have hlen:k<n+1->A.length+k<(A++q++C).length:=λ h=>by simp;omega
  by_cases hkn:k<n
  ·have hlen:=hlen zO;have hx:=hV.cell k zO;have hx1:l[k]' zO<4294967296:=hv.lm _ (zGM _);have hco:=hown.nat.cell (A.length+k) hlen;rw[<-HUP.o k,(List.getElem_eq_iff hlen).2 (zwf A q C k zO)]at hco;have hfz:=hown.frozen (A.length+k) hlen;rw[<-HUP.o k]at hfz
   have hu1:q[k]' zO<4294967296:=by
    have:=hown.lm _ (zGM (h:=hlen));rwa[(List.getElem_eq_iff hlen).2 (zwf A q C k zO)]at this
   have hp1:=zga p k zO;rw[<-hpq zO]at hp1;have hl1:=zga l k zO;clear hpq;generalize l[k]' zO=x at *
   generalize q[k]' zO=u at *
   have HST:=zH (zpk (o:=q) (a:=p) (b:=l) (k:=k) (c:=c) (x:=u) (y:=x) zO hp1 hl1 HV.o);clear hp1 hl1;go_wp2;have hset:=hown.set (A.length+k) hlen ((c+u+x)%4294967296) zO;rw[zdn A q C k _ zO,<-HUP.o k,show(((c+u+x)%4294967296:Nat):Int)=((c:Int)+(u+x))%4294967296 from zO]at hset;have hgs:=zdd wr (ptr U k) (.int .u32 (((c:Int)+(u+x))%4294967296));rw[show(ptr U k).block=(base uv).block from by rw[HUP.o k,zma]]at hgs;go_roundw
   case rel=>
    refine⟨k+1,(c+u+x)/4294967296,q.set k _,zO,by go_num,congrArg (Value.int .u64) zO,zO,hset.1,by simp[hql],HST.o,?_,zgd hgr hgs⟩;have:=congrArg (List.drop 1) HD.o;rw[List.drop_drop,List.drop_drop]at this;rw[List.drop_set_of_lt zO];exact this
   case measure=>simp[intOf];omega
  ·obtain rfl:k=n:=zO;have hlen:=hlen zO;have hco:=hown.nat.cell (A.length+k) hlen;rw[<-HUP.o k,(List.getElem_eq_iff hlen).2 (zwf A q C k zO)]at hco;have hfz:=hown.frozen (A.length+k) hlen;rw[<-HUP.o k]at hfz
   have hu1:q[k]' zO<4294967296:=by
    have:=hown.lm _ (zGM (h:=hlen));rwa[(List.getElem_eq_iff hlen).2 (zwf A q C k zO)]at this
   have hfin:val (q.set k ((q[k]' zO+c)%4294967296))+(q[k]' zO+c)/4294967296*pw (k+1)=val p+val l:=by
    have e1:=zqb q k ((q[k]' zO+c)%4294967296) zO;rw[zTL (by simp;omega)]at e1;have e2:=zga p k zO;rw[zTL zO,<-hpq zO]at e2;have e3:=HV.o;rw[zTL (by omega:l.length<=k)]at e3;rw[e1,e2,zrb];generalize q[k]' zO=u at *
    have h:(u+c)%4294967296+4294967296*((u+c)/4294967296)=u+c:=zO;generalize (u+c)%4294967296=zz at *
    generalize (u+c)/4294967296=dd at *
    grind
   clear hpq;generalize q[k]' zO=u at *
   have HF:=zH hfin;have hset:=hown.set (A.length+k) hlen ((u+c)%4294967296) zO;rw[zdn A q C k _ zO,<-HUP.o k,show(((u+c)%4294967296:Nat):Int)=((u:Int)+c)%4294967296 from zO]at hset;have hgs:=zdd wr (ptr U k) (.int .u32 (((u:Int)+c)%4294967296));rw[show(ptr U k).block=(base uv).block from by rw[HUP.o k,zma]]at hgs;have HS:=zH hset;have HG:=zH hgs;clear hfin hset hgs HV HD hV;go_wp2;go_end0;exact⟨_,_,rfl,HS.o.1,by simp[hql],HF.o,zgd hgr HG.o⟩
end Go.Proofs.YtkpedaflofejnaaGreat
