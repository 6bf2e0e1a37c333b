/- Lemmas. -/
import Derived.Test.YtlpdkbmmbdfoiaaGreatPNa8
import Derived.Deep.RegionLaw
set_option linter.unusedVariables false
set_option linter.unusedSimpArgs false
namespace Go.Proofs.YtlpdkbmmbdfoiaaGreat
def zza (n:Nat):Nat:=if n=0 then 0 else n.log2+1
theorem zxl :zza 0=0:=rfl
theorem zoc {n k:Nat}:zza n<=k↔n<2^k:=by
 unfold zza;split
 ·next h=>subst h;exact⟨λ _=>Nat.pow_pos zD,λ _=>zZL _⟩
 ·next h=>rw[<-Nat.log2_lt h];omega
theorem zeq {n:Nat} (h:n≠0):zza n=zza (n/2)+1:=by
 unfold zza;rw[zIN h,Nat.log2_def];by_cases h2:2<=n
 ·rw[zIP h2,zIN zO]
 ·rw[zIN h2,zIP zO]
theorem zwd {n:Nat}:0<zza n↔n≠0:=by
 unfold zza;split<;>omega
theorem zrk {n:Nat}:zza n=0↔n=0:=by
 unfold zza;split<;>omega
theorem zhg {n:Nat}:1<zza n↔1<n:=by
 have :zza n<=1↔n<2:=zoc;omega
theorem zho (k:Nat):pw k=2^(32*k):=by unfold pw;rw[Nat.pow_mul]
theorem shift_lt {a P t Q:Nat} (h:a<P):a+P*t<P*Q↔t<Q:=by
 constructor
 ·intro h1;apply Nat.lt_of_not_le;intro h2;have:=zML P h2;omega
 ·intro h1;have h2:P*(t+1)<=P*Q:=zML P h1;rw[Nat.mul_add]at h2;omega
theorem nbits_add {a k t:Nat} (h:a<2^k) (ht:t≠0):zza (a+2^k*t)=k+zza t:=by
 have hj:∀j,zza (a+2^k*t)<=j↔k+zza t<=j:=by
  intro j;have hp:=zwd.2 ht;rcases zOG j k with h1 | h1
  ·constructor
   ·intro h2;have h3:=zoc.1 h2;have h4:2^j<=2^k:=Nat.pow_le_pow_right zD zO;have h5:2^k*1<=2^k*t:=zML _ (zPZ ht);generalize 2^k=K at *
    generalize 2^j=J at *
    generalize K*t=Z at *
    omega
   ·intro h2;omega
  ·obtain⟨i,rfl⟩:∃i,j=k+i:=⟨j-k,zO⟩;rw[zoc,Nat.pow_add,shift_lt h,<-zoc];omega
 have h1:=(hj _).1 (zLR _);have h2:=(hj _).2 (zLR _);omega
theorem zwk {n:Nat} (h:n≠0):∃t,(zoa n)[zha n-1]? =some t/\t≠0/\t<4294967296/\zza n=32*(zha n-1)+zza t:=by
 have hl:zha n≠0:=λ h'=>h (zva.1 h')
 have hlt:zha n-1<(zoa n).length:=by unfold zha at *;omega
 refine⟨_,zGE hlt,?_⟩;have hc:=clen_limbs n
 have ht:(zoa n)[zha n-1]≠0:=by
  intro h0;have e:=zsg (zoa n) (zha n-1) hlt h0;have e2:zha n-1+1=(zoa n).length:=by unfold zha at *;omega
  rw[e2,List.take_length,hc]at e;have:=zcm ((zoa n).take (zha n-1));rw[<-e,zTK]at this;omega
 refine⟨ht,zgc n _ (zGM _),?_⟩;have e:=zci (zoa n) (zha n-1) hlt;have e2:zha n-1+1=(zoa n).length:=by unfold zha at *;omega
 have e3:val ((zoa n).drop (zha n-1+1))=0:=by rw[e2,List.drop_length];rfl
 rw[e3,Nat.mul_zero,Nat.add_zero,zka,zho]at e
 have hlo:val ((zoa n).take (zha n-1))<2^(32*(zha n-1)):=by
  have:=zgg (show Lm ((zoa n).take (zha n-1))from λ x hx=>zgc n x (List.mem_of_mem_take hx));rw[zTK,Nat.min_eq_left zO,zho]at this;exact this
 generalize (zoa n)[zha n-1]=t at *
 generalize val ((zoa n).take (zha n-1))=a at *
 have:=nbits_add hlo ht;rw[<-e]at this;exact this
end Go.Proofs.YtlpdkbmmbdfoiaaGreat
namespace Go.Proofs.YtlpdkbmmbdfoiaaGreat
set_option maxHeartbeats 800000
open Go.RowKit
theorem zlq (va vb:Value) (m n:Nat) (w:World) (ha:zub w va m) (hb:zub w vb n) (hn:n≠0) (hm:zha m<=512):
 Calls Tryz.prog 215 #[va,vb] w (RDiv w m n):=by
 rcases zOG m n with h | h
 ·exact divide_less va vb m n w ha hb h
 ·have h0:zha n≠0:=λ h'=>hn (zva.1 h')
  rcases zOG (zha n) 2 with h2 | h2
  ·exact divide_short va vb m n w ha hb h zO hm
  ·exact divide_long va vb m n w ha hb h h2 hm
def RDiv2 (w0:World) (m n:Nat) (e:Ending) (w:World):Prop:=
 ∃q r,e= .returned (.tuple #[q,r, .int .i64 0])/\zub w q (m/n)/\zub w r (m%n)/\Below w0.heap.size w0 w
theorem zpr (va vb:Value) (m n:Nat) (w:World) (ha:zcc w va m) (hb:zcc w vb n) (h:n≠0) (hm:zha m<=512) (hn:zha n<=512):
 Calls Tryz.prog 193 #[va,vb] w (RDiv2 w m n):=by
 have HM:=zH hm;have HN:=zH hn;have hmb:zha m<=4294967296:=zO;have hnb:zha n<=4294967296:=zO;have hnz:zha n≠0:=λ h'=>h (zva.1 h')
 clear hm hn;obtain⟨sa,ca,ka⟩:=ha.scap;obtain⟨sb,cb,kb⟩:=hb.scap;go_enter Tryz.func193,Tryz.ntmps193
 go_wp2_with (first
  |(go_at_call 200;first | ((with_reducible refine(zxe va m _ ha HM.o).mono ?_);rintro e w' ⟨rfl,rfl⟩) | ((with_reducible refine(zxe vb n _ hb HN.o).mono ?_);rintro e w' ⟨rfl,rfl⟩))
  |(go_at_call 198;refine(zib vb n _ hb).mono ?_;rintro e w' ⟨rfl,rfl⟩))
 go_region_with (first
  |(go_at_call 198;first | ((with_reducible refine(zib va m _ ha.drew).mono ?_);rintro e w' ⟨rfl,rfl⟩) | ((with_reducible refine(zib vb n _ hb.drew).mono ?_);rintro e w' ⟨rfl,rfl⟩))
  |(go_at_call 215;(with_reducible refine(zlq _ _ m n _ ka.drew kb.drew h HM.o).mono ?_);rintro e w1 ⟨q,r,rfl,hq,hr,hbl⟩))
 go_wp2;go_ret3;exact⟨q,r,rfl,hq,hr,(zfa w).trans hbl⟩
theorem zbb (v:Value) (n:Nat) (w:World) (h:zcc w v n):
 Calls Tryz.prog 156 #[v] w λ e w'=>e= .returned (.int .i64 (zza n))/\w'=w:=by
 have hln:=h.len_le;by_cases hn:n=0
 ·have hz:zha n=0:=zva.2 hn;have hb:zza n=0:=zrk.2 hn;have HB:=zH hb;clear hln hn hb;go_enter Tryz.func156,Tryz.ntmps156;go_wp2_with (go_at_call 198;refine(zib v n _ h).mono ?_;rintro e w' ⟨rfl,rfl⟩);go_ret;exact⟨by rw[HB.o];rfl,rfl⟩
 ·obtain⟨t,ht1,ht2,ht3,ht4⟩:=zwk hn;obtain⟨sv,lv1,lv2⟩:=h.slen;have hnl:0<zha n:=by have :zha n≠0:=λ h'=>hn (zva.1 h');omega
  obtain⟨htl,hte⟩:=List.getElem?_eq_some_iff.1 ht1;have hc:=(h.cells (zha n-1) zO).trans (congrArg (λ x:Nat=>some (Value.int .u32 (x:Nat))) hte);have HT:=zH ht4;have HN:=zH hn;have HT2:=zH ht2;have htb:zza t<=32:=zoc.2 ht3;have HB:=zH htb;clear hn ht1 ht2 ht4 htl hte htb;obtain⟨g,hg⟩:∃g,zha n=g+1:=⟨zha n-1,zO⟩;have hg1:zha n-1=g:=zO;rw[hg1]at hc HT;rw[hg]at lv1 hln;have HG:=zH hg;clear hg hg1 hnl;go_enter Tryz.func156,Tryz.ntmps156;go_wp2_with (go_at_call 198;refine(zib v n _ h).mono ?_;rintro e w' ⟨rfl,rfl⟩;rw[HG.o]);go_loopw [4,5] (λ u4 u5 wr=>∃ (k y:Nat),u4= .int .i64 k/\u5= .int .u32 y/\y<4294967296/\k+zza y=32*g+zza t/\wr=w) (λ _ u5 _=>(intOf u5).toNat);case atStart=>exact⟨32*g,t,by go_num,rfl,ht3,rfl,rfl⟩
  case round=>
   obtain⟨k,y,rfl,rfl,hy,hky,rfl⟩:=hrel;(have hk:k<=137438953504:=by have:=HB.o;omega);by_cases hy0:0<y
   ·have HK:=zH hky;clear hky;have hy2:y/2<y:=zO;go_wp2;go_roundw;(case rel=>exact⟨k+1,y/2,by go_num,by go_num,zO,by have:=HK.o;have:=zeq (n:=y) zO;omega,trivial⟩);case measure=>simp[intOf];omega
   ·obtain rfl:y=0:=zO;(have hfin:zza n=k:=by rw[HT.o,<-hky,zxl,Nat.add_zero]);have HF:=zH hfin;clear hfin hky hy0;go_wp2;go_ret;exact⟨by rw[HF.o];rfl,rfl⟩
theorem zub.inj {w:World} {v:Value} {m n:Nat} (h:zub w v m) (h':zub w v n):m=n:=by
 have h1:=h.v.len;rw[h'.v.len]at h1;apply zmi;apply List.ext_getElem h1.symm;intro j j1 j2;have e1:=h.v.cell j j1;rw[h'.v.cell j j2]at e1;injection e1 with e1
 injection e1 with e1 e2
 exact_mod_cast e2.symm
open Classical in
/-- The number that v reads as. -/
noncomputable def natOf (w:World) (v:Value):Nat:=if h:∃n,zub w v n then h.choose else 0
theorem zdn {w:World} {v:Value} {n:Nat} (h:zub w v n):natOf w v=n:=by
 have h2:∃n,zub w v n:=⟨n,h⟩;unfold natOf;rw[dif_pos h2];exact h2.choose_spec.inj h
def RNat0 (w0:World) (n:Nat) (e:Ending) (w:World):Prop:=∃r,e= .returned (.tuple #[r, .int .i64 0])/\zub w r n/\Below w0.heap.size w0 w
theorem zmr (va vb:Value) (m n:Nat) (w:World) (ha:zcc w va m) (hb:zcc w vb n) (hm:zha m<=512) (hn:zha n<=512):
 Calls Tryz.prog 192 #[va,vb] w (RNat0 w (Nat.gcd m n)):=by
 have HM:=zH hm;have HN:=zH hn;have hmb:zha m<=4294967296:=zO;have hnb:zha n<=4294967296:=zO;clear hm hn;go_enter Tryz.func192,Tryz.ntmps192
 go_wp2_with (first
  |(go_at_call 200;first | ((with_reducible refine(zxe va m _ ha HM.o).mono ?_);rintro e w' ⟨rfl,rfl⟩) | ((with_reducible refine(zxe vb n _ hb HN.o).mono ?_);rintro e w' ⟨rfl,rfl⟩))
  |(go_at_call 194;first
   |((with_reducible refine(zje va m _ ha).mono ?_);rintro e w1 ⟨ra,rfl,hra,hb1⟩)
   |((with_reducible refine(zje vb n _ (hb.bw hb1)).mono ?_);rintro e w2 ⟨rb,rfl,hrb,hb2⟩)))
 have hra2:=hra.bw hb2;have hbw:=hb1.trans (hb2.mono hb1.size);go_loopw [0,1] (λ u0 u1 wr=>∃ (x y:Nat),zub wr u0 x/\zub wr u1 y/\zha x<=512/\zha y<=512/\Nat.gcd x y=Nat.gcd m n/\Below w.heap.size w wr) (λ _ u1 wr=>natOf wr u1);case atStart=>exact⟨m,n,hra2,hrb,HM.o,HN.o,rfl,hbw⟩
 case round=>
  obtain⟨x,y,hx,hy,hx5,hy5,hg,hbr⟩:=hrel;clear ha hb hra hrb hra2 hb1 hb2 hbw;obtain⟨sx,lx⟩:zvc u0/\slen u0=zha x:=⟨hx.v.sl,hx.v.len⟩;obtain⟨sy,ly⟩:zvc u1/\slen u1=zha y:=⟨hy.v.sl,hy.v.len⟩;have HX:=zH hx5;have HY:=zH hy5;have HG:=zH hg;have hxb:zha x<=4294967296:=zO;have hyb:zha y<=4294967296:=zO;clear hx5 hy5 hg;by_cases hy0:y=0
  ·have hyz:zha y=0:=zva.2 hy0;(have hfin:x=Nat.gcd m n:=by rw[<-HG.o,hy0,Nat.gcd_zero_right]);have HF:=zH hfin;clear hfin hy0;go_wp2;go_ret2;exact⟨_,rfl,HF.o▸hx,hbr⟩
  ·(have hyz:0<zha y:=by have :zha y≠0:=λ h'=>hy0 (zva.1 h');omega);have HY0:=zH hy0;clear hy0;go_wp2_with (go_at_call 215;(with_reducible refine(zlq _ _ x y _ hx hy HY0.o HX.o).mono ?_);rintro e w3 ⟨q,r,rfl,hq,hr,hbl⟩);have hy3:=hy.bw hbl;have hbr3:=hbr.trans (hbl.mono hbr.size);go_wp2;go_roundw;(case rel=>exact⟨y,x%y,hy3,hr,HY.o,zLT (zob (zLO (zML2 _ (zPZ HY0.o)))) HY.o,by rw[<-HG.o,Nat.gcd_comm y,<-Nat.gcd_rec,Nat.gcd_comm],hbr3⟩);case measure=>rw[zdn hr,zdn hy];exact zML2 _ (zPZ HY0.o)
set_option maxHeartbeats 800000 in
theorem mul_any (va vb:Value) (m n:Nat) (w:World) (ha:zcc w va m) (hb:zcc w vb n) (hm:zha m<=512) (hn:zha n<=512):
 Calls Tryz.prog 199 #[va,vb] w (zmq w (m*n)):=by
 have HM:=zH hm;have HN:=zH hn;have hmb:zha m<=4294967296:=zO;have hnb:zha n<=4294967296:=zO;clear hm hn;obtain⟨sa,ca,ka⟩:=ha.scap;obtain⟨sb,cb,kb⟩:=hb.scap;obtain⟨i0,hi,hz0,hz1,hz2⟩:=info_parts Tryz.info102;have hM:=zme (P:=Tryz.prog) 36 142 i0 Tryz.underlying36 hi hz0 hz1 hz2;go_enter Tryz.func199,Tryz.ntmps199;go_wp2_with (go_at_call 200;first | ((with_reducible refine(zxe va m _ ha HM.o).mono ?_);rintro e w' ⟨rfl,rfl⟩) | ((with_reducible refine(zxe vb n _ hb HN.o).mono ?_);rintro e w' ⟨rfl,rfl⟩));go_quiet ((go_at_call 198;first | with_reducible exact Calls.quiet_of_same ((zib va m _ (ha.drawn _)).mono λ e w' ⟨h1,h2⟩=>⟨h1,h2.symm⟩) | with_reducible exact Calls.quiet_of_same ((zib vb n _ (hb.drawn _)).mono λ e w' ⟨h1,h2⟩=>⟨h1,h2.symm⟩)));have l1:slen (tk va (zha m))=zha m:=ka.1.len;have l2:slen (tk vb (zha n))=zha n:=kb.1.len;have s1:=ka.1.sl;have s2:=kb.1.sl;clear ha hb sa sb ca cb;generalize tk va (zha m)=xa at *
 generalize tk vb (zha n)=xb at *
 have kb':=kb.drawn nq;have ka':=ka.drawn nq;have hbel:=zna (B:=w.heap.size) w nq;generalize w.drewN nq=W at *
 clear ka kb;have hroom:zha m+zha n<=35184372088832:=zO;go_wp2_with (refine hM _ rfl _ _ rfl W.heap.size _ (zha m+zha n) rfl rfl rfl hroom (zLR _) ?_;intro v w1 hown hb1 hvb);have hbw:Below w.heap.size w w1:=hbel.trans (hb1.mono hbel.size);clear hM
 go_loopw [34] (λ u34 wr=>∃ (k:Nat) (o:List Nat),k<=zha m/\u34= .int .i64 k/\zzc wr 142 W.heap.size v o/\o.length=zha m+zha n/\
  val (o.take (k+zha n))=val ((zoa m).take k)*n/\Below W.heap.size W wr) (λ u34 _=>zha m- (intOf u34).toNat)
 case atStart=>exact⟨0,_,zZL _,rfl,hown,by simp,by simp[val,zkh],hb1⟩
 case round=>
  obtain⟨k,o,hk,rfl,hownr,hol,hval,hbr⟩:=hrel;obtain⟨wo,rfl⟩:∃wo:World,wo=wr:=⟨_,rfl⟩;have hcx:=((ka'.bw hbr).1).cell;have HV:=zH hval;clear hval;by_cases hkp:k<zha m
  ·have hx:=hcx k hkp;have hx1:(zoa m)[k]'hkp<4294967296:=zgc m _ (zGM _);have HX:=zH (zma (zoa m) k hkp);clear hcx;generalize (zoa m)[k]'hkp=x at *
   go_wp2
   go_loopw [9,41] (λ u9 u41 wi=>∃ (j c:Nat) (o:List Nat),j<=zha n/\u41= .int .i64 j/\u9= .int .u64 c/\c<4294967296/\zzc wi 142 W.heap.size v o/\o.length=zha m+zha n/\
    val (o.take (k+zha n))+pw (k+j)*c=val ((zoa m).take k)*n+pw k*x*val ((zoa n).take j)/\Below W.heap.size W wi) (λ _ u41 _=>zha n- (intOf u41).toNat)
   case atStart=>exact⟨0,0,o,zZL _,rfl,rfl,zO,hownr,hol,by rw[HV.o];simp[val],hbr⟩
   case round=>
    obtain⟨j,c,p,hj,rfl,rfl,hc,hownp,hpl,hvp,hbi⟩:=hrel;have HP:=zH hvp;clear hvp;have sv:=hownp.nat.sl;(have lv:slen v=zha m+zha n:=by rw[hownp.nat.len,hpl]);by_cases hjn:j<zha n
    ·have hy:=((kb'.bw hbi).1).cell j hjn;have hy1:(zoa n)[j]'hjn<4294967296:=zgc n _ (zGM _);have HY:=zH (zma (zoa n) j hjn);have hfz:=hownp.frozen (k+j) zO;have hco:=hownp.nat.cell (k+j) zO;have hq1:p[k+j]' zO<4294967296:=hownp.lm _ (zGM _);(have HST:=fun(z c':Nat)=>zH (mul_step (o:=p) (b:=zoa n) (k:=k) (j:=j) (N:=k+zha n) (R:=val ((zoa m).take k)*n) (c:=c) (x:=x) (z:=z) (c':=c') zO zO HY.o HP.o));generalize (zoa n)[j]'hjn=y at *
     generalize hqe:p[k+j]' zO=q at *
     obtain⟨h0',hxy'⟩:=zbj hx1 hy1;have hT:=(zoo hx1 hy1 hq1 hc).1;have HT:=zH hT;clear hqe hT;go_wp2;have HT2:=HT.o;have e:=mul_cast c x y q;generalize x*y+q+c=t at *
     have hset:=hownp.set (k+j) zO (t%4294967296) zO;go_roundw
     case rel=>
      rw[e];have e2:((t:Nat):Int)/4294967296=((t/4294967296:Nat):Int):=rfl;rw[e2];exact⟨j+1,t/4294967296,_,zO,by go_num,rfl,div_lt_32 HT2,hset.1,by simp[hpl],(HST (t%4294967296) (t/4294967296)).o zO,hbi.trans hset.2⟩
     case measure=>simp[intOf];omega
    ·obtain rfl:j=zha n:=zO;have hfz:=hownp.frozen (k+zha n) zO;have hco:=hownp.nat.cell (k+zha n) zO;have hset:=hownp.set (k+zha n) zO c hc;have hv2:=mul_end (o:=p) (a:=zoa m) (b:=zoa n) (k:=k) (n:=n) (N:=k+zha n) (c:=c) (x:=x) zO HX.o (zka n) rfl HP.o;have HV2:=zH hv2;clear hv2;go_wp2;go_roundw;(case rel=>exact⟨k+1,_,zO,by go_num,hset.1,by simp[hpl],by rw[show k+1+zha n=k+zha n+1 from zO];exact HV2.o,hbi.trans hset.2⟩);case measure=>simp[intOf];omega
  ·obtain rfl:k=zha m:=zO;clear hcx
   have hv2:val o=m*n:=by
    have e:=HV.o;rw[zTL zO,zTL (show zha m<=zha m from zLR _),zka]at e;exact e
   have HS:=zH (zik v _ _ hownr.nat (by rw[hol];have:=HM.o;have:=HN.o;omega));have HV2:=zH hv2;clear hv2 HV;go_wp2_with (go_at_call 201;refine HS.o.mono ?_;rintro e w' ⟨r,er,rfl,hr,hbl⟩);go_ret2;rw[HV2.o]at hr;exact⟨r,er,rfl,hr,hbel.trans ((hbr.trans (hbl.mono hbr.size)).mono hbel.size)⟩
end Go.Proofs.YtlpdkbmmbdfoiaaGreat
namespace Go.Proofs.YtlpdkbmmbdfoiaaGreat
def sgn (neg:Bool) (n:Nat):Int:=if neg then -(n:Int)else n
def fq (neg:Bool) (n d:Nat):Rat:=mkRat (sgn neg n) d
def fits (q:Rat):Prop:=zza q.num.natAbs<=4096/\zza q.den<=4096
instance (q :Rat):Decidable (fits q):=inferInstanceAs (Decidable (_/\_))
theorem zvi (neg:Bool) (n:Nat):(sgn neg n).natAbs=n:=by unfold sgn;split<;>omega
theorem sgn_zero (neg:Bool):sgn neg 0=0:=by unfold sgn;split<;>omega
theorem sgn_div (neg:Bool) (n g:Nat) (h:g∣n):sgn neg n/(g:Int)=sgn neg (n/g):=by
 unfold sgn;split
 ·rw[Int.neg_ediv_of_dvd (Int.natCast_dvd_natCast.2 h)];simp
 ·simp
theorem fq_num (neg:Bool) (n d:Nat) (hd:d≠0):(fq neg n d).num=sgn neg (n/Nat.gcd n d):=by
 unfold fq;rw[Rat.num_mkRat,zIN hd,zvi,Nat.gcd_comm,sgn_div _ _ _ (Nat.gcd_dvd_left n d)]
theorem zxo (neg:Bool) (n d:Nat) (hd:d≠0):(fq neg n d).den=d/Nat.gcd n d:=by
 unfold fq;rw[Rat.den_mkRat,zIN hd,zvi,Nat.gcd_comm]
theorem zyf (neg:Bool) (n d:Nat) (hd:d≠0):(fq neg n d).num.natAbs=n/Nat.gcd n d:=by
 rw[fq_num _ _ _ hd,zvi]
theorem zeo (q:Rat):q<0↔q.num<0:=by
 have:=Rat.num_nonneg (q:=q);rw[<-Rat.not_le,<-this];omega
theorem sgn_neg_iff (neg:Bool) (n:Nat):sgn neg n<0↔neg=true/\0<n:=by
 unfold sgn;cases neg<;>simp <;>omega
theorem fq_neg (neg:Bool) (n d:Nat) (hd:d≠0):decide (fq neg n d<0)=(neg&&decide (0<n/Nat.gcd n d)):=by
 have :fq neg n d<0↔neg=true/\0<n/Nat.gcd n d:=by rw[zeo,fq_num _ _ _ hd,sgn_neg_iff]
 by_cases h:fq neg n d<0
 ·obtain⟨h1,h2⟩:=this.1 h;rw[zDT h,zDT h2,h1];rfl
 ·have h2:¬ (neg=true/\0<n/Nat.gcd n d):=λ h'=>h (this.2 h')
  rw[zDF h];cases neg
  ·simp
  ·(have :¬0<n/Nat.gcd n d:=λ h'=>h2 ⟨rfl,h'⟩);simp only[Bool.true_and,zDF this]
theorem zmb (q:Rat):fq (decide (q<0)) q.num.natAbs q.den=q:=by
 unfold fq
 have :sgn (decide (q<0)) q.num.natAbs=q.num:=by
  unfold sgn;have:=zeo q;split
  ·next h=>have:=this.1 (by simpa using h);omega
  ·next h=>(have h2:¬q<0:=by simpa using h);(have :¬q.num<0:=λ h'=>h2 (this.2 h'));omega
 rw[this,Rat.mkRat_self]
theorem fq_add (s t:Bool) (a b c d:Nat) (hb:b≠0) (hd:d≠0):fq s a b+fq t c d=mkRat (sgn s (a*d)+sgn t (c*b)) (b*d):=by
 unfold fq;rw[Rat.mkRat_add_mkRat _ _ hb hd]
 congr 2
 ·unfold sgn;split<;>simp[Int.neg_mul]
 ·unfold sgn;split<;>simp[Int.neg_mul]
theorem zuj (s:Bool) (a b c d:Nat) (hb:b≠0) (hd:d≠0):fq s a b+fq s c d=fq s (a*d+c*b) (b*d):=by
 rw[fq_add _ _ _ _ _ _ hb hd];unfold fq sgn
 congr 1
 split<;>omega
theorem fq_add_ge (s t:Bool) (a b c d:Nat) (hb:b≠0) (hd:d≠0) (hst:(s==t)=false) (h:c*b<=a*d):fq s a b+fq t c d=fq s (a*d-c*b) (b*d):=by
 rw[fq_add _ _ _ _ _ _ hb hd];unfold fq sgn
 congr 1
 cases s<;>cases t<;>simp at hst |- <;>omega
theorem fq_add_lt (s t:Bool) (a b c d:Nat) (hb:b≠0) (hd:d≠0) (hst:(s==t)=false) (h:a*d<=c*b):fq s a b+fq t c d=fq t (c*b-a*d) (b*d):=by
 rw[fq_add _ _ _ _ _ _ hb hd];unfold fq sgn
 congr 1
 cases s<;>cases t<;>simp at hst |- <;>omega
theorem fq_mul (s t:Bool) (a b c d:Nat):fq s a b*fq t c d=fq (s != t) (a*c) (b*d):=by
 unfold fq;rw[Rat.mkRat_mul_mkRat]
 congr 1
 unfold sgn;cases s<;>cases t<;>simp[Int.neg_mul,Int.mul_neg]
theorem zyc {n k:Nat} (h:zza n<=32*k):zha n<=k:=by
 rw[znc,zho];exact zoc.1 h
theorem zdh {n k:Nat} (h:zha n<=k):zza n<=32*k:=by
 rw[znc,zho]at h;exact zoc.2 h
theorem zdq {m n:Nat} (h:m<=n):zza m<=zza n:=zoc.2 (zLL h (zoc.1 (zLR _)))
end Go.Proofs.YtlpdkbmmbdfoiaaGreat
namespace Go.Proofs.YtlpdkbmmbdfoiaaGreat
open Go.RowKit
structure C3 (w:World) (b:Nat) (v0 v1 v2:Value):Prop where
 lt:b<w.heap.size
 c0:w.cell? ⟨b,0,none⟩=some v0
 c1:w.cell? ⟨b,1,none⟩=some v1
 c2:w.cell? ⟨b,2,none⟩=some v2
 f0:w.frozen? ⟨b,0,none⟩=false
 f1:w.frozen? ⟨b,1,none⟩=false
 f2:w.frozen? ⟨b,2,none⟩=false
theorem C3.of {w:World} {b:Nat} {v0 v1 v2:Value} {t:TypeId} (h:w.heap[b]? =some (.cells #[v0,v1,v2] t (0,0))):C3 w b v0 v1 v2:=by
 refine⟨lt_of_block h,?_,?_,?_,?_,?_,?_⟩<;>simp[World.cell?,World.frozen?,h]
theorem C3.new (w:World) (t:TypeId) (v0 v1 v2:Value):C3 (w.alloc (.cells #[v0,v1,v2] t)) w.heap.size v0 v1 v2:=
 C3.of (t:=t) (by show(w.heap.push _)[w.heap.size]? =_;simp)
theorem C3.bw {w w':World} {B b:Nat} {v0 v1 v2:Value} (h:C3 w b v0 v1 v2) (hb:Below B w w') (hB:b<B):C3 w' b v0 v1 v2:=
 ⟨zLM h.lt hb.size,by rw[hb.cell hB];exact h.c0,by rw[hb.cell hB];exact h.c1,by rw[hb.cell hB];exact h.c2,by rw[hb.frozen hB];exact h.f0,by rw[hb.frozen hB];exact h.f1,by rw[hb.frozen hB];exact h.f2⟩
theorem C3.bS {w w':World} {b:Nat} {v0 v1 v2:Value} (h:C3 w b v0 v1 v2) (hb:Below w.heap.size w w'):C3 w' b v0 v1 v2:=h.bw hb h.lt
theorem C3.set {w:World} {b:Nat} {v0 v1 v2:Value} (h:C3 w b v0 v1 v2) (u0 u1 u2:Value):C3 (((w.setCell ⟨b,0,none⟩ u0).setCell ⟨b,1,none⟩ u1).setCell ⟨b,2,none⟩ u2) b u0 u1 u2:=by
 obtain⟨lt,c0,c1,c2,f0,f1,f2⟩:=h;refine⟨by simpa [World.setCell]using lt,?_,?_,?_,?_,?_,?_⟩<;>go_simp
theorem zga {w0 w:World} {B b:Nat} (h:Below B w0 w) (hb:B<=b) (u0 u1 u2:Value):Below B w0 (((w.setCell ⟨b,0,none⟩ u0).setCell ⟨b,1,none⟩ u1).setCell ⟨b,2,none⟩ u2):=
 ((h.setCell (p:=⟨b,0,none⟩) hb u0).setCell (p:=⟨b,1,none⟩) hb u1).setCell (p:=⟨b,2,none⟩) hb u2
theorem load_c3 {P:Program} {w:World} {b:Nat} {v0 v1 v2:Value} {ty:TypeId} (hagg:∀w,(isAgg ty).run P w= .ok true w) (hs:∀w,(sizeOf ty).run P w= .ok 3 w) (h:C3 w b v0 v1 v2):
 (loadVar ty ⟨b,0,none⟩).run P w= .ok (.agg #[v0,v1,v2]) w:=by
 obtain⟨lt,c0,c1,c2,f0,f1,f2⟩:=h;simp only[loadVar,Sem.run_bind,hagg,hs,Result.andThen_ok];go_simp
theorem zla {P:Program} {fn:Func} {R:Ending->World->Prop} {a:Act} {w:World} {p u:Tmp} {ty:TypeId} {b:Nat} {v0 v1 v2:Value} (h:fn.results=#[.cell p ty, .tmp u])
 (hp:a.tmps.getD p undef= .pointer (some ⟨b,0,none⟩)) (hagg:∀w,(isAgg ty).run P w= .ok true w) (hs:∀w,(sizeOf ty).run P w= .ok 3 w) (hc:C3 w b v0 v1 v2) (hd:a.defers= [])
 (hR:R (.returned (.tuple #[.agg #[v0,v1,v2],a.tmps.getD u undef])) w):bodyPost P fn R .ret a w:=by
 refine bodyPost_ret ?_ hd hR;rw[results_cell_tmp h,hp];simp only[asAddr,Sem.run_pure,Result.andThen_ok,load_c3 hagg hs hc]
set_option maxHeartbeats 1600000
def zzb (w:World) (v:Value) (neg:Bool) (n d:Nat):Prop:=∃a b,v= .agg #[.bool neg,a,b]/\zcc w a n/\zcc w b d
def zia (w:World) (v:Value) (q:Rat):Prop:=∃a b,v= .agg #[.bool (decide (q<0)),a,b]/\zub w a q.num.natAbs/\zub w b q.den
theorem zia.raw {w:World} {v:Value} {q:Rat} (h:zia w v q):zzb w v (decide (q<0)) q.num.natAbs q.den:=by
 obtain⟨a,b,rfl,ha,hb⟩:=h;exact⟨a,b,rfl,ha.nat,hb.nat⟩
theorem zzb.bw {w w':World} {v:Value} {s:Bool} {n d:Nat} (h:zzb w v s n d) (hb:Below w.heap.size w w'):zzb w' v s n d:=by
 obtain⟨a,b,rfl,h1,h2⟩:=h;exact⟨a,b,rfl,h1.bw hb,h2.bw hb⟩
theorem zia.bw {w w':World} {v:Value} {q:Rat} (h:zia w v q) (hb:Below w.heap.size w w'):zia w' v q:=by
 obtain⟨a,b,rfl,h1,h2⟩:=h;exact⟨a,b,rfl,h1.bw hb,h2.bw hb⟩
theorem zca (w:World) (o:Obj):Below w.heap.size w (w.alloc o):=(zBR w.heap.size w).alloc (zLR _) o
theorem beq_bits (n:Nat):((zza n:Int)==0)=decide (n=0):=by
 by_cases h:n=0
 ·simp[h,zxl]
 ·have:=zwd.2 h;rw[zDF h];exact beq_eq_false_iff_ne.2 zO
theorem zzj (v:Value) (s:Bool) (n d:Nat) (w:World) (h:zzb w v s n d):
 Calls Tryz.prog 186 #[v] w λ e w'=>e= .returned (.bool (decide (n=0)))/\Below w.heap.size w w':=by
 obtain⟨a,b,rfl,ha,hb⟩:=h;go_enter Tryz.func186,Tryz.ntmps186;go_wp2_with (go_at_call 156;refine(zbb _ n _ (ha.bw (zca _ _))).mono ?_;rintro e w' ⟨rfl,rfl⟩);go_ret;exact⟨by rw[<-beq_bits];rfl,zca _ _⟩
theorem zsb (va vb:Value) (m n:Nat) (w:World) (ha:zcc w va m) (hb:zcc w vb n) (hm:zha m<=256) (hn:zha n<=256):
 Calls Tryz.prog 157 #[va,vb] w (RNat w (m*n)):=by
 have h1:zha m<=512:=zO;have h2:zha n<=512:=zO
 have h3:zha (m*n)<=512:=by
  rw[znc]at *
  have:=Nat.mul_lt_mul'' hm hn;rw[<-pw_add]at this;exact this
 have H1:=zH h1;have H2:=zH h2;have H3:=zH h3;clear h1 h2 h3 hm hn;go_enter Tryz.func157,Tryz.ntmps157;go_wp2_with (go_at_call 199;(with_reducible refine(mul_any _ _ m n _ ha hb H1.o H2.o).mono ?_);rintro e w1 ⟨r,er,rfl,hr,hbl⟩);obtain⟨rfl,hr2⟩:=hr.1 H3.o;go_wp2;go_ret;exact⟨_,rfl,hr2,hbl⟩
def okN (n d:Nat):Prop:=d≠0/\zza d<=4096/\zza n<=4096
instance (n d:Nat):Decidable (okN n d):=inferInstanceAs (Decidable (_/\_/\_))
theorem valid_any (v:Value) (s:Bool) (n d:Nat) (w:World) (h:zzb w v s n d):
 Calls Tryz.prog 79 #[v] w λ e w'=>e= .returned (.bool (decide (okN n d)))/\Below w.heap.size w w':=by
 obtain⟨a,b,rfl,ha,hb⟩:=h;have hbp:=zwd (n:=d);generalize hx:zza d=x at *
 have HX:=zH hx;clear hx;go_enter Tryz.func79,Tryz.ntmps79
 go_wp2_with (go_at_call 156;first
  |((with_reducible refine(zbb a n _ (ha.bw (zca _ _))).mono ?_);rintro e w' ⟨rfl,rfl⟩)
  |((with_reducible refine(zbb b d _ (hb.bw (zca _ _))).mono ?_);rintro e w' ⟨rfl,rfl⟩;rw[HX.o]))
 ·next h0=>
  go_ret;refine⟨?_,zca _ _⟩;rw[zDF (λ h=>h.1 h0)];rfl
 ·next h0 h1=>
  go_ret;refine⟨?_,zca _ _⟩
  have :decide (okN n d)=decide ((zza n:Int)<=4096):=by
   by_cases hb:zza n<=4096
   ·rw[zDT (show okN n d from⟨h0,by rw[HX.o];omega,hb⟩),zDT zO]
   ·rw[zDF (λ h:okN n d=>hb h.2.2),zDF zO]
  rw[this];rfl
 ·next h0 h1=>
  go_ret;refine⟨?_,zca _ _⟩;rw[zDF (λ h=>by have:=h.2.1;rw[HX.o]at this;omega)];rfl
theorem Tryz.aggF (w:World):(isAgg 38).run Tryz.prog w= .ok true w:=by go_simp
theorem Tryz.sizeF (w:World):(sizeOf 38).run Tryz.prog w= .ok 3 w:=by go_simp
def zeroF :Value:= .agg #[.bool false, .slice none 0 0, .slice none 0 0]
def zhl (w0:World) (q:Rat) (e:Ending) (w:World):Prop:=
 ∃v er,e= .returned (.tuple #[v, .int .i64 er])/\Below w0.heap.size w0 w/\(fits q->er=0/\zia w v q)/\(¬fits q->er=2/\v=zeroF)
theorem ztc.over {w:World} {v:Value} {l:List Nat} (h:ztc w v l) {p:Addr} {x:Value} (hp:w.cell? p=some x) (hx:∀z,x≠ .int .u32 z) (u:Value):ztc (w.setCell p u) v l:=
 ⟨h.sl,h.len,λ j hj=>by
  have h1:=h.cell j hj;rw[zCO]
  ·exact h1
  ·intro e;rw[<-e,hp]at h1;(injection h1 with h1);exact hx _ h1,h.lm⟩
theorem ztc.set3 {w:World} {v:Value} {l:List Nat} {b:Nat} {v0 v1 v2:Value} (h:ztc w v l) (hc:C3 w b v0 v1 v2) (h0:∀z,v0≠ .int .u32 z) (h1:∀z,v1≠ .int .u32 z) (h2:∀z,v2≠ .int .u32 z) (u0 u1 u2:Value):
 ztc (((w.setCell ⟨b,0,none⟩ u0).setCell ⟨b,1,none⟩ u1).setCell ⟨b,2,none⟩ u2) v l:=by
 refine((h.over hc.c0 h0 _).over (x:=v1) ?_ h1 _).over (x:=v2) ?_ h2 _
 ·rw[zCO]
  ·exact hc.c1
  ·simp
 ·rw[zCO,zCO]
  ·exact hc.c2
  ·simp
  ·simp
theorem zub.set3 {w:World} {v:Value} {n:Nat} {b:Nat} {s:Bool} {x y:Value} (h:zub w v n) (hc:C3 w b (.bool s) x y) (hx:∀z,x≠ .int .u32 z) (hy:∀z,y≠ .int .u32 z) (u0 u1 u2:Value):
 zub (((w.setCell ⟨b,0,none⟩ u0).setCell ⟨b,1,none⟩ u1).setCell ⟨b,2,none⟩ u2) v n:=⟨h.v.set3 hc zZ hx hy _ _ _,h.2⟩
theorem zia.set3 {w:World} {v:Value} {q:Rat} {b:Nat} {s:Bool} {x y:Value} (h:zia w v q) (hc:C3 w b (.bool s) x y) (hx:∀z,x≠ .int .u32 z) (hy:∀z,y≠ .int .u32 z) (u0 u1 u2:Value):
 zia (((w.setCell ⟨b,0,none⟩ u0).setCell ⟨b,1,none⟩ u1).setCell ⟨b,2,none⟩ u2) v q:=by
 obtain⟨xa,xb,rfl,ha,hb⟩:=h;exact⟨xa,xb,rfl,ha.set3 hc hx hy _ _ _,hb.set3 hc hx hy _ _ _⟩
theorem zsk (n:Nat):decide (0<zza n)=(true&&decide (0<n)):=by
 have:=zwd (n:=n);by_cases h:n=0
 ·subst h;rfl
 ·rw[zDT (this.2 h),zDT (zPZ h)];rfl
theorem zap (s:Bool) (n d:Nat) (hd:d≠0):fits (fq s n d)↔zza (n/Nat.gcd n d)<=4096/\zza (d/Nat.gcd n d)<=4096:=by
 unfold fits;rw[zyf _ _ _ hd,zxo _ _ _ hd]
theorem zfj {w:World} {xa xb:Value} {s t:Bool} {n d:Nat} (hd:d≠0) (ha:zub w xa (n/Nat.gcd n d)) (hb:zub w xb (d/Nat.gcd n d)) (ht:t=(s&&decide (0<n/Nat.gcd n d))):
 zia w (.agg #[.bool t,xa,xb]) (fq s n d):=by
 refine⟨xa,xb,by rw[fq_neg _ _ _ hd,ht],?_,?_⟩
 ·rw[zyf _ _ _ hd];exact ha
 ·rw[zxo _ _ _ hd];exact hb
theorem lowest_one (s:Bool) (va vb:Value) (n d:Nat) (w:World) (ha:zcc w va n) (hb:zcc w vb d) (hd:d≠0) (hn5:zha n<=512) (hd5:zha d<=512) (hg:Nat.gcd n d=1):
 Calls Tryz.prog 142 #[.bool s,va,vb] w (zhl w (fq s n d)):=by
 have HN:=zH hn5;have HD:=zH hd5;have HG:=zH hg;have h1:zza 1=1:=zD;have H1:=zH h1;clear hn5 hd5 hg h1;rcases s with _ | _
 case true=>
  go_enter Tryz.func142,Tryz.ntmps142
  go_wp2_with (first
   |(go_at_call 192;(with_reducible refine(zmr _ _ n d _ (ha.bw (zca _ _)) (hb.bw (zca _ _)) HN.o HD.o).mono ?_);rintro e w1 ⟨g,rfl,hg1,hb1⟩;rw[HG.o]at hg1)
   |(go_at_call 156;first
    |((with_reducible refine(zbb g 1 _ hg1.nat).mono ?_);rintro e w' ⟨rfl,rfl⟩;rw[H1.o])))
  have hbz:=(zca _ _).trans (hb1.mono (zca _ _).size);have hxa:=ha.bw hbz;have hxb:=hb.bw hbz;have hC:=(C3.new w _ _ _ _).bS hb1;clear hb1 ha hb hg1;have hq1:n=n/Nat.gcd n d:=by rw[HG.o,Nat.div_one]
  have hq2:d=d/Nat.gcd n d:=by rw[HG.o,Nat.div_one]
  rw[hq1]at hxa;rw[hq2]at hxb;clear hq1 hq2;have hF:=zap true n d hd;generalize hN1:n/Nat.gcd n d=N1 at *
  generalize hD1:d/Nat.gcd n d=D1 at *
  have HN1:=zH hN1;have HD1:=zH hD1;have HC:=zH hC;have HBZ:=zH hbz;have HIF:=zH hF;obtain⟨_,c0,c1,c2,f0,f1,f2⟩:=hC;clear hN1 hD1 hF hbz;by_cases hfit:zza N1<=4096/\zza D1<=4096
  ·have HFI:=zH (HIF.o.2 hfit);obtain⟨hf1,hf2⟩:=hfit
   go_wp2_with (first
    |(go_at_call 156;first
     |((with_reducible refine(zbb va N1 _ hxa).mono ?_);rintro e w' ⟨rfl,rfl⟩)
     |((with_reducible refine(zbb vb D1 _ hxb).mono ?_);rintro e w' ⟨rfl,rfl⟩)))
   all_goals go_wp2_with (go_at_call 194;first
    |((with_reducible refine(zje va N1 _ hxa).mono ?_);rintro e w1 ⟨ra,rfl,hra,hb1⟩;obtain⟨a1,l1,k1,rfl,_⟩:=hra.v.sl)
    |((with_reducible refine(zje vb D1 _ (hxb.bw hb1)).mono ?_);rintro e w2 ⟨rb,rfl,hrb,hb2⟩;obtain⟨a2,l2,k2,rfl,_⟩:=hrb.v.sl
      have hra2:=hra.bw hb2;have hC2:=(HC.o.bS hb1).bS hb2;have HC2:=zH hC2;have HBZ2:=zH (HBZ.o.trans ((hb1.trans (hb2.mono hb1.size)).mono HBZ.o.size));obtain⟨_,d0,d1,d2,e0,e1,e2⟩:=hC2))
   all_goals
    (try simp only[Exit.inBlock,Exit.then]);refine zla rfl rfl Tryz.aggF Tryz.sizeF (HC2.o.set _ _ _) rfl ?_;refine⟨_,0,rfl,zga HBZ2.o (zLR _) _ _ _,λ _=>⟨rfl,zia.set3 (zfj hd (HN1.o▸hra2) (HD1.o▸hrb) ?_) HC2.o zZ zZ _ _ _⟩,λ h=>absurd HFI.o h⟩;rw[HN1.o];first | rfl | exact zsk N1
  ·have HFI:=zH (λ h=>hfit (HIF.o.1 h))
   go_wp2_with (first
    |(go_at_call 156;first
     |((with_reducible refine(zbb va N1 _ hxa).mono ?_);rintro e w' ⟨rfl,rfl⟩)
     |((with_reducible refine(zbb vb D1 _ hxb).mono ?_);rintro e w' ⟨rfl,rfl⟩)))
   all_goals
    refine zla rfl rfl Tryz.aggF Tryz.sizeF (HC.o.set _ _ _) rfl ?_;exact⟨_,2,rfl,zga HBZ.o (zLR _) _ _ _,λ h=>absurd h HFI.o,λ _=>⟨rfl,rfl⟩⟩
 case false=>
  go_enter Tryz.func142,Tryz.ntmps142
  go_wp2_with (first
   |(go_at_call 192;(with_reducible refine(zmr _ _ n d _ (ha.bw (zca _ _)) (hb.bw (zca _ _)) HN.o HD.o).mono ?_);rintro e w1 ⟨g,rfl,hg1,hb1⟩;rw[HG.o]at hg1)
   |(go_at_call 156;first
    |((with_reducible refine(zbb g 1 _ hg1.nat).mono ?_);rintro e w' ⟨rfl,rfl⟩;rw[H1.o])))
  have hbz:=(zca _ _).trans (hb1.mono (zca _ _).size);have hxa:=ha.bw hbz;have hxb:=hb.bw hbz;have hC:=(C3.new w _ _ _ _).bS hb1;clear hb1 ha hb hg1;have hq1:n=n/Nat.gcd n d:=by rw[HG.o,Nat.div_one]
  have hq2:d=d/Nat.gcd n d:=by rw[HG.o,Nat.div_one]
  rw[hq1]at hxa;rw[hq2]at hxb;clear hq1 hq2;have hF:=zap false n d hd;generalize hN1:n/Nat.gcd n d=N1 at *
  generalize hD1:d/Nat.gcd n d=D1 at *
  have HN1:=zH hN1;have HD1:=zH hD1;have HC:=zH hC;have HBZ:=zH hbz;have HIF:=zH hF;obtain⟨_,c0,c1,c2,f0,f1,f2⟩:=hC;clear hN1 hD1 hF hbz;by_cases hfit:zza N1<=4096/\zza D1<=4096
  ·have HFI:=zH (HIF.o.2 hfit);obtain⟨hf1,hf2⟩:=hfit
   go_wp2_with (first
    |(go_at_call 156;first
     |((with_reducible refine(zbb va N1 _ hxa).mono ?_);rintro e w' ⟨rfl,rfl⟩)
     |((with_reducible refine(zbb vb D1 _ hxb).mono ?_);rintro e w' ⟨rfl,rfl⟩)))
   all_goals go_wp2_with (go_at_call 194;first
    |((with_reducible refine(zje va N1 _ hxa).mono ?_);rintro e w1 ⟨ra,rfl,hra,hb1⟩;obtain⟨a1,l1,k1,rfl,_⟩:=hra.v.sl)
    |((with_reducible refine(zje vb D1 _ (hxb.bw hb1)).mono ?_);rintro e w2 ⟨rb,rfl,hrb,hb2⟩;obtain⟨a2,l2,k2,rfl,_⟩:=hrb.v.sl
      have hra2:=hra.bw hb2;have hC2:=(HC.o.bS hb1).bS hb2;have HC2:=zH hC2;have HBZ2:=zH (HBZ.o.trans ((hb1.trans (hb2.mono hb1.size)).mono HBZ.o.size));obtain⟨_,d0,d1,d2,e0,e1,e2⟩:=hC2))
   all_goals
    (try simp only[Exit.inBlock,Exit.then]);refine zla rfl rfl Tryz.aggF Tryz.sizeF (HC2.o.set _ _ _) rfl ?_;refine⟨_,0,rfl,zga HBZ2.o (zLR _) _ _ _,λ _=>⟨rfl,zia.set3 (zfj hd (HN1.o▸hra2) (HD1.o▸hrb) ?_) HC2.o zZ zZ _ _ _⟩,λ h=>absurd HFI.o h⟩;rw[HN1.o];first | rfl | exact zsk N1
  ·have HFI:=zH (λ h=>hfit (HIF.o.1 h))
   go_wp2_with (first
    |(go_at_call 156;first
     |((with_reducible refine(zbb va N1 _ hxa).mono ?_);rintro e w' ⟨rfl,rfl⟩)
     |((with_reducible refine(zbb vb D1 _ hxb).mono ?_);rintro e w' ⟨rfl,rfl⟩)))
   all_goals
    refine zla rfl rfl Tryz.aggF Tryz.sizeF (HC.o.set _ _ _) rfl ?_;exact⟨_,2,rfl,zga HBZ.o (zLR _) _ _ _,λ h=>absurd h HFI.o,λ _=>⟨rfl,rfl⟩⟩
theorem lowest_more (s:Bool) (va vb:Value) (n d:Nat) (w:World) (ha:zcc w va n) (hb:zcc w vb d) (hd:d≠0) (hn5:zha n<=512) (hd5:zha d<=512) (hg:1<Nat.gcd n d):
 Calls Tryz.prog 142 #[.bool s,va,vb] w (zhl w (fq s n d)):=by
 have HN:=zH hn5;have HD:=zH hd5;have hgb:1<zza (Nat.gcd n d):=zhg.2 hg;have HG0:zI (Nat.gcd n d≠0):=by (have :Nat.gcd n d≠0:=zO);exact zH this
 have HG5:zI (zha (Nat.gcd n d)<=512):=zH (zLT (zob (Nat.le_of_dvd (zPZ hd) (Nat.gcd_dvd_right n d))) hd5);clear hn5 hd5 hg;rcases s with _ | _
 case true=>
  go_enter Tryz.func142,Tryz.ntmps142
  go_wp2_with (first
   |(go_at_call 192;(with_reducible refine(zmr _ _ n d _ (ha.bw (zca _ _)) (hb.bw (zca _ _)) HN.o HD.o).mono ?_);rintro e w1 ⟨g,rfl,hg1,hb1⟩;have hC:=(C3.new w _ _ _ _).bS hb1;have hbz:=(zca _ _).trans (hb1.mono (zca _ _).size);have hxa:=ha.bw hbz;have hxb:=hb.bw hbz)
   |(go_at_call 156;first
    |((with_reducible refine(zbb g (Nat.gcd n d) _ hg1.nat).mono ?_);rintro e w' ⟨rfl,rfl⟩))
   |(go_at_call 193;first
    |((with_reducible refine(zpr va g n (Nat.gcd n d) _ hxa hg1.nat HG0.o HN.o HG5.o).mono ?_);rintro e w3 ⟨q1,r1,rfl,hq1,hr1,hbl1⟩
      have hg3:=hg1.bw hbl1;have hxb3:=hxb.bw hbl1)
    |((with_reducible refine(zpr vb g d (Nat.gcd n d) _ hxb3 hg3.nat HG0.o HD.o HG5.o).mono ?_);rintro e w4 ⟨q2,r2,rfl,hq2,hr2,hbl2⟩
      have hq14:=hq1.nat.bw hbl2;have hq24:=hq2.nat;have hC4:=(hC.bS hbl1).bS hbl2;have hbz4:=hbz.trans ((hbl1.trans (hbl2.mono hbl1.size)).mono hbz.size))))
  clear hC hbz hxa hxb hb1 ha hb hg1 hg3 hxb3 hbl1 hbl2 hq1 hq2 hr1 hr2;have hxa:=hq14;have hxb:=hq24;have hC:=hC4;have hbz:=hbz4;clear hq14 hq24 hC4 hbz4 hgb;have hF:=zap true n d hd;generalize hN1:n/Nat.gcd n d=N1 at *
  generalize hD1:d/Nat.gcd n d=D1 at *
  have HN1:=zH hN1;have HD1:=zH hD1;have HC:=zH hC;have HBZ:=zH hbz;have HIF:=zH hF;obtain⟨_,c0,c1,c2,f0,f1,f2⟩:=hC;clear hN1 hD1 hF hbz;by_cases hfit:zza N1<=4096/\zza D1<=4096
  ·have HFI:=zH (HIF.o.2 hfit);obtain⟨hf1,hf2⟩:=hfit
   go_wp2_with (first
    |(go_at_call 156;first
     |((with_reducible refine(zbb q1 N1 _ hxa).mono ?_);rintro e w' ⟨rfl,rfl⟩)
     |((with_reducible refine(zbb q2 D1 _ hxb).mono ?_);rintro e w' ⟨rfl,rfl⟩)))
   all_goals go_wp2_with (go_at_call 194;first
    |((with_reducible refine(zje q1 N1 _ hxa).mono ?_);rintro e w1 ⟨ra,rfl,hra,hb1⟩;obtain⟨a1,l1,k1,rfl,_⟩:=hra.v.sl)
    |((with_reducible refine(zje q2 D1 _ (hxb.bw hb1)).mono ?_);rintro e w2 ⟨rb,rfl,hrb,hb2⟩;obtain⟨a2,l2,k2,rfl,_⟩:=hrb.v.sl
      have hra2:=hra.bw hb2;have hC2:=(HC.o.bS hb1).bS hb2;have HC2:=zH hC2;have HBZ2:=zH (HBZ.o.trans ((hb1.trans (hb2.mono hb1.size)).mono HBZ.o.size));obtain⟨_,d0,d1,d2,e0,e1,e2⟩:=hC2))
   all_goals
    (try simp only[Exit.inBlock,Exit.then]);refine zla rfl rfl Tryz.aggF Tryz.sizeF (HC2.o.set _ _ _) rfl ?_;refine⟨_,0,rfl,zga HBZ2.o (zLR _) _ _ _,λ _=>⟨rfl,zia.set3 (zfj hd (HN1.o▸hra2) (HD1.o▸hrb) ?_) HC2.o zZ zZ _ _ _⟩,λ h=>absurd HFI.o h⟩;rw[HN1.o];first | rfl | exact zsk N1
  ·have HFI:=zH (λ h=>hfit (HIF.o.1 h))
   go_wp2_with (first
    |(go_at_call 156;first
     |((with_reducible refine(zbb q1 N1 _ hxa).mono ?_);rintro e w' ⟨rfl,rfl⟩)
     |((with_reducible refine(zbb q2 D1 _ hxb).mono ?_);rintro e w' ⟨rfl,rfl⟩)))
   all_goals
    refine zla rfl rfl Tryz.aggF Tryz.sizeF (HC.o.set _ _ _) rfl ?_;exact⟨_,2,rfl,zga HBZ.o (zLR _) _ _ _,λ h=>absurd h HFI.o,λ _=>⟨rfl,rfl⟩⟩
 case false=>
  go_enter Tryz.func142,Tryz.ntmps142
  go_wp2_with (first
   |(go_at_call 192;(with_reducible refine(zmr _ _ n d _ (ha.bw (zca _ _)) (hb.bw (zca _ _)) HN.o HD.o).mono ?_);rintro e w1 ⟨g,rfl,hg1,hb1⟩;have hC:=(C3.new w _ _ _ _).bS hb1;have hbz:=(zca _ _).trans (hb1.mono (zca _ _).size);have hxa:=ha.bw hbz;have hxb:=hb.bw hbz)
   |(go_at_call 156;first
    |((with_reducible refine(zbb g (Nat.gcd n d) _ hg1.nat).mono ?_);rintro e w' ⟨rfl,rfl⟩))
   |(go_at_call 193;first
    |((with_reducible refine(zpr va g n (Nat.gcd n d) _ hxa hg1.nat HG0.o HN.o HG5.o).mono ?_);rintro e w3 ⟨q1,r1,rfl,hq1,hr1,hbl1⟩
      have hg3:=hg1.bw hbl1;have hxb3:=hxb.bw hbl1)
    |((with_reducible refine(zpr vb g d (Nat.gcd n d) _ hxb3 hg3.nat HG0.o HD.o HG5.o).mono ?_);rintro e w4 ⟨q2,r2,rfl,hq2,hr2,hbl2⟩
      have hq14:=hq1.nat.bw hbl2;have hq24:=hq2.nat;have hC4:=(hC.bS hbl1).bS hbl2;have hbz4:=hbz.trans ((hbl1.trans (hbl2.mono hbl1.size)).mono hbz.size))))
  clear hC hbz hxa hxb hb1 ha hb hg1 hg3 hxb3 hbl1 hbl2 hq1 hq2 hr1 hr2;have hxa:=hq14;have hxb:=hq24;have hC:=hC4;have hbz:=hbz4;clear hq14 hq24 hC4 hbz4 hgb;have hF:=zap false n d hd;generalize hN1:n/Nat.gcd n d=N1 at *
  generalize hD1:d/Nat.gcd n d=D1 at *
  have HN1:=zH hN1;have HD1:=zH hD1;have HC:=zH hC;have HBZ:=zH hbz;have HIF:=zH hF;obtain⟨_,c0,c1,c2,f0,f1,f2⟩:=hC;clear hN1 hD1 hF hbz;by_cases hfit:zza N1<=4096/\zza D1<=4096
  ·have HFI:=zH (HIF.o.2 hfit);obtain⟨hf1,hf2⟩:=hfit
   go_wp2_with (first
    |(go_at_call 156;first
     |((with_reducible refine(zbb q1 N1 _ hxa).mono ?_);rintro e w' ⟨rfl,rfl⟩)
     |((with_reducible refine(zbb q2 D1 _ hxb).mono ?_);rintro e w' ⟨rfl,rfl⟩)))
   all_goals go_wp2_with (go_at_call 194;first
    |((with_reducible refine(zje q1 N1 _ hxa).mono ?_);rintro e w1 ⟨ra,rfl,hra,hb1⟩;obtain⟨a1,l1,k1,rfl,_⟩:=hra.v.sl)
    |((with_reducible refine(zje q2 D1 _ (hxb.bw hb1)).mono ?_);rintro e w2 ⟨rb,rfl,hrb,hb2⟩;obtain⟨a2,l2,k2,rfl,_⟩:=hrb.v.sl
      have hra2:=hra.bw hb2;have hC2:=(HC.o.bS hb1).bS hb2;have HC2:=zH hC2;have HBZ2:=zH (HBZ.o.trans ((hb1.trans (hb2.mono hb1.size)).mono HBZ.o.size));obtain⟨_,d0,d1,d2,e0,e1,e2⟩:=hC2))
   all_goals
    (try simp only[Exit.inBlock,Exit.then]);refine zla rfl rfl Tryz.aggF Tryz.sizeF (HC2.o.set _ _ _) rfl ?_;refine⟨_,0,rfl,zga HBZ2.o (zLR _) _ _ _,λ _=>⟨rfl,zia.set3 (zfj hd (HN1.o▸hra2) (HD1.o▸hrb) ?_) HC2.o zZ zZ _ _ _⟩,λ h=>absurd HFI.o h⟩;rw[HN1.o];first | rfl | exact zsk N1
  ·have HFI:=zH (λ h=>hfit (HIF.o.1 h))
   go_wp2_with (first
    |(go_at_call 156;first
     |((with_reducible refine(zbb q1 N1 _ hxa).mono ?_);rintro e w' ⟨rfl,rfl⟩)
     |((with_reducible refine(zbb q2 D1 _ hxb).mono ?_);rintro e w' ⟨rfl,rfl⟩)))
   all_goals
    refine zla rfl rfl Tryz.aggF Tryz.sizeF (HC.o.set _ _ _) rfl ?_;exact⟨_,2,rfl,zga HBZ.o (zLR _) _ _ _,λ h=>absurd h HFI.o,λ _=>⟨rfl,rfl⟩⟩
theorem zlc (s:Bool) (va vb:Value) (n d:Nat) (w:World) (ha:zcc w va n) (hb:zcc w vb d) (hd:d≠0) (hn5:zha n<=512) (hd5:zha d<=512):
 Calls Tryz.prog 142 #[.bool s,va,vb] w (zhl w (fq s n d)):=by
 have h0:Nat.gcd n d≠0:=λ h=>hd (Nat.gcd_eq_zero_iff.1 h).2
 rcases zOG 1 (Nat.gcd n d)with h | h
 ·exact lowest_more s va vb n d w ha hb hd hn5 hd5 h
 ·exact lowest_one s va vb n d w ha hb hd hn5 hd5 zO
theorem zed {P:Program} {ops:Array Oper} {o:Oper} {a:Act} {w:World} {K:Act->World->Prop} {Q:Exit->Act->World->Prop} {E:Prop} (hg:o.guard=none) (f:FuncId) (argv:Array Value)
 (hrun:(execOp a.eval o).run P w= .ok (.enter f argv) w) {R:Ending->World->Prop} (hc:Calls P f argv w R) (h:∀e w',R e w'->∃v,e= .returned v/\K (a.put o.dst v) w'):
 if Region.wanted o (yielded ops a.tmps)=true then Oper.wp P o a w K Q else E:=by
 rw[zIP (by simp[Region.wanted,hg])];unfold Oper.wp;rw[hrun,Oper.upon_enter];refine hc.mono λ e w' hr=> ?_
 obtain⟨v,rfl,hk⟩:=h e w' hr;exact hk
end Go.Proofs.YtlpdkbmmbdfoiaaGreat
