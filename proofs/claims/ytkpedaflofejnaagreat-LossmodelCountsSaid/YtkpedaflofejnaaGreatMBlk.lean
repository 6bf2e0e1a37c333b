/- Lemmas. -/
import Derived.Test.YtkpedaflofejnaaGreatMNa8
set_option linter.unusedVariables false
set_option linter.unusedSimpArgs false
namespace Go.Proofs.YtkpedaflofejnaaGreat
def zsa (n:Nat):Nat:=if n=0 then 0 else n.log2+1
theorem zcl :zsa 0=0:=rfl
theorem ztb {n k:Nat}:zsa n<=k↔n<2^k:=by
 unfold zsa;split
 ·next h=>subst h;exact⟨λ _=>Nat.pow_pos zD,λ _=>zZL _⟩
 ·next h=>rw[<-Nat.log2_lt h];omega
theorem zmp {n:Nat} (h:n≠0):zsa n=zsa (n/2)+1:=by
 unfold zsa;rw[zIN h,Nat.log2_def];by_cases h2:2<=n
 ·rw[zIP h2,zIN zO]
 ·rw[zIN h2,zIP zO]
theorem zld {n:Nat}:0<zsa n↔n≠0:=by
 unfold zsa;split<;>omega
theorem zfk {n:Nat}:zsa n=0↔n=0:=by
 unfold zsa;split<;>omega
theorem zwh {n:Nat}:1<zsa n↔1<n:=by
 have :zsa n<=1↔n<2:=ztb;omega
theorem zqn (k:Nat):pw k=2^(32*k):=by unfold pw;rw[Nat.pow_mul]
theorem shift_lt {a P t Q:Nat} (h:a<P):a+P*t<P*Q↔t<Q:=by
 constructor
 ·intro h1;apply Nat.lt_of_not_le;intro h2;have:=zML P h2;omega
 ·intro h1;have h2:P*(t+1)<=P*Q:=zML P h1;rw[Nat.mul_add]at h2;omega
theorem nbits_add {a k t:Nat} (h:a<2^k) (ht:t≠0):zsa (a+2^k*t)=k+zsa t:=by
 have hj:∀j,zsa (a+2^k*t)<=j↔k+zsa t<=j:=by
  intro j;have hp:=zld.2 ht;rcases zOG j k with h1 | h1
  ·constructor
   ·intro h2;have h3:=ztb.1 h2;have h4:2^j<=2^k:=Nat.pow_le_pow_right zD zO;have h5:2^k*1<=2^k*t:=zML _ (zPZ ht);generalize 2^k=K at *
    generalize 2^j=J at *
    generalize K*t=Z at *
    omega
   ·intro h2;omega
  ·obtain⟨i,rfl⟩:∃i,j=k+i:=⟨j-k,zO⟩;rw[ztb,Nat.pow_add,shift_lt h,<-ztb];omega
 have h1:=(hj _).1 (zLR _);have h2:=(hj _).2 (zLR _);omega
theorem zkk {n:Nat} (h:n≠0):∃t,(zja n)[zda n-1]? =some t/\t≠0/\t<4294967296/\zsa n=32*(zda n-1)+zsa t:=by
 have hl:zda n≠0:=λ h'=>h (zqa.1 h')
 have hlt:zda n-1<(zja n).length:=by unfold zda at *;omega
 refine⟨_,zGE hlt,?_⟩;have hc:=clen_limbs n
 have ht:(zja n)[zda n-1]≠0:=by
  intro h0;have e:=zbg (zja n) (zda n-1) hlt h0;have e2:zda n-1+1=(zja n).length:=by unfold zda at *;omega
  rw[e2,List.take_length,hc]at e;have:=zkl ((zja n).take (zda n-1));rw[<-e,zTK]at this;omega
 refine⟨ht,zvb n _ (zGM _),?_⟩;have e:=zjh (zja n) (zda n-1) hlt;have e2:zda n-1+1=(zja n).length:=by unfold zda at *;omega
 have e3:val ((zja n).drop (zda n-1+1))=0:=by rw[e2,List.drop_length];rfl
 rw[e3,Nat.mul_zero,Nat.add_zero,zfa,zqn]at e
 have hlo:val ((zja n).take (zda n-1))<2^(32*(zda n-1)):=by
  have:=zqf (show Lm ((zja n).take (zda n-1))from λ x hx=>zvb n x (List.mem_of_mem_take hx));rw[zTK,Nat.min_eq_left zO,zqn]at this;exact this
 generalize (zja n)[zda n-1]=t at *
 generalize val ((zja n).take (zda n-1))=a at *
 have:=nbits_add hlo ht;rw[<-e]at this;exact this
end Go.Proofs.YtkpedaflofejnaaGreat
namespace Go.Proofs.YtkpedaflofejnaaGreat
set_option maxHeartbeats 800000
open Go.RowKit
theorem zup (va vb:Value) (m n:Nat) (w:World) (ha:zpb w va m) (hb:zpb w vb n) (hn:n≠0) (hm:zda m<=512):
 Calls Tryz.prog 168 #[va,vb] w (RDiv w m n):=by
 rcases zOG m n with h | h
 ·exact divide_less va vb m n w ha hb h
 ·have h0:zda n≠0:=λ h'=>hn (zqa.1 h')
  rcases zOG (zda n) 2 with h2 | h2
  ·exact divide_short va vb m n w ha hb h zO hm
  ·exact divide_long va vb m n w ha hb h h2 hm
def RDiv2 (w0:World) (m n:Nat) (e:Ending) (w:World):Prop:=
 ∃q r,e= .returned (.tuple #[q,r, .int .i64 0])/\zpb w q (m/n)/\zpb w r (m%n)/\Below w0.heap.size w0 w
theorem zfr (va vb:Value) (m n:Nat) (w:World) (ha:zwb w va m) (hb:zwb w vb n) (h:n≠0) (hm:zda m<=512) (hn:zda n<=512):
 Calls Tryz.prog 154 #[va,vb] w (RDiv2 w m n):=by
 have HM:=zH hm;have HN:=zH hn;have hmb:zda m<=4294967296:=zO;have hnb:zda n<=4294967296:=zO;have hnz:zda n≠0:=λ h'=>h (zqa.1 h')
 clear hm hn;obtain⟨sa,ca,ka⟩:=ha.scap;obtain⟨sb,cb,kb⟩:=hb.scap;go_enter Tryz.func154,Tryz.ntmps154
 go_wp2_with (first
  |(go_at_call 156;first | ((with_reducible refine(zpe va m _ ha HM.o).mono ?_);rintro e w' ⟨rfl,rfl⟩) | ((with_reducible refine(zpe vb n _ hb HN.o).mono ?_);rintro e w' ⟨rfl,rfl⟩))
  |(go_at_call 139;refine(zcb vb n _ hb).mono ?_;rintro e w' ⟨rfl,rfl⟩))
 go_region_with (first
  |(go_at_call 139;first | ((with_reducible refine(zcb va m _ ha.drew).mono ?_);rintro e w' ⟨rfl,rfl⟩) | ((with_reducible refine(zcb vb n _ hb.drew).mono ?_);rintro e w' ⟨rfl,rfl⟩))
  |(go_at_call 168;(with_reducible refine(zup _ _ m n _ ka.drew kb.drew h HM.o).mono ?_);rintro e w1 ⟨q,r,rfl,hq,hr,hbl⟩))
 go_wp2;go_ret3;exact⟨q,r,rfl,hq,hr,(zha w).trans hbl⟩
theorem zua (v:Value) (n:Nat) (w:World) (h:zwb w v n):
 Calls Tryz.prog 106 #[v] w λ e w'=>e= .returned (.int .i64 (zsa n))/\w'=w:=by
 have hln:=h.len_le;by_cases hn:n=0
 ·have hz:zda n=0:=zqa.2 hn;have hb:zsa n=0:=zfk.2 hn;have HB:=zH hb;clear hln hn hb;go_enter Tryz.func106,Tryz.ntmps106;go_wp2_with (go_at_call 139;refine(zcb v n _ h).mono ?_;rintro e w' ⟨rfl,rfl⟩);go_ret;exact⟨by rw[HB.o];rfl,rfl⟩
 ·obtain⟨t,ht1,ht2,ht3,ht4⟩:=zkk hn;obtain⟨sv,lv1,lv2⟩:=h.slen;have hnl:0<zda n:=by have :zda n≠0:=λ h'=>hn (zqa.1 h');omega
  obtain⟨htl,hte⟩:=List.getElem?_eq_some_iff.1 ht1;have hc:=(h.cells (zda n-1) zO).trans (congrArg (λ x:Nat=>some (Value.int .u32 (x:Nat))) hte);have HT:=zH ht4;have HN:=zH hn;have HT2:=zH ht2;have htb:zsa t<=32:=ztb.2 ht3;have HB:=zH htb;clear hn ht1 ht2 ht4 htl hte htb;obtain⟨g,hg⟩:∃g,zda n=g+1:=⟨zda n-1,zO⟩;have hg1:zda n-1=g:=zO;rw[hg1]at hc HT;rw[hg]at lv1 hln;have HG:=zH hg;clear hg hg1 hnl;go_enter Tryz.func106,Tryz.ntmps106;go_wp2_with (go_at_call 139;refine(zcb v n _ h).mono ?_;rintro e w' ⟨rfl,rfl⟩;rw[HG.o]);go_loopw [4,5] (λ u4 u5 wr=>∃ (k y:Nat),u4= .int .i64 k/\u5= .int .u32 y/\y<4294967296/\k+zsa y=32*g+zsa t/\wr=w) (λ _ u5 _=>(intOf u5).toNat);case atStart=>exact⟨32*g,t,by go_num,rfl,ht3,rfl,rfl⟩
  case round=>
   obtain⟨k,y,rfl,rfl,hy,hky,rfl⟩:=hrel;(have hk:k<=137438953504:=by have:=HB.o;omega);by_cases hy0:0<y
   ·have HK:=zH hky;clear hky;have hy2:y/2<y:=zO;go_wp2;go_roundw;(case rel=>exact⟨k+1,y/2,by go_num,by go_num,zO,by have:=HK.o;have:=zmp (n:=y) zO;omega,trivial⟩);case measure=>simp[intOf];omega
   ·obtain rfl:y=0:=zO;(have hfin:zsa n=k:=by rw[HT.o,<-hky,zcl,Nat.add_zero]);have HF:=zH hfin;clear hfin hky hy0;go_wp2;go_ret;exact⟨by rw[HF.o];rfl,rfl⟩
theorem zpb.inj {w:World} {v:Value} {m n:Nat} (h:zpb w v m) (h':zpb w v n):m=n:=by
 have h1:=h.v.len;rw[h'.v.len]at h1;apply zxh;apply List.ext_getElem h1.symm;intro j j1 j2;have e1:=h.v.cell j j1;rw[h'.v.cell j j2]at e1;injection e1 with e1
 injection e1 with e1 e2
 exact_mod_cast e2.symm
open Classical in
/-- The number that v reads as. -/
noncomputable def natOf (w:World) (v:Value):Nat:=if h:∃n,zpb w v n then h.choose else 0
theorem zkm {w:World} {v:Value} {n:Nat} (h:zpb w v n):natOf w v=n:=by
 have h2:∃n,zpb w v n:=⟨n,h⟩;unfold natOf;rw[dif_pos h2];exact h2.choose_spec.inj h
def RNat0 (w0:World) (n:Nat) (e:Ending) (w:World):Prop:=∃r,e= .returned (.tuple #[r, .int .i64 0])/\zpb w r n/\Below w0.heap.size w0 w
theorem zxq (va vb:Value) (m n:Nat) (w:World) (ha:zwb w va m) (hb:zwb w vb n) (hm:zda m<=512) (hn:zda n<=512):
 Calls Tryz.prog 153 #[va,vb] w (RNat0 w (Nat.gcd m n)):=by
 have HM:=zH hm;have HN:=zH hn;have hmb:zda m<=4294967296:=zO;have hnb:zda n<=4294967296:=zO;clear hm hn;go_enter Tryz.func153,Tryz.ntmps153
 go_wp2_with (first
  |(go_at_call 156;first | ((with_reducible refine(zpe va m _ ha HM.o).mono ?_);rintro e w' ⟨rfl,rfl⟩) | ((with_reducible refine(zpe vb n _ hb HN.o).mono ?_);rintro e w' ⟨rfl,rfl⟩))
  |(go_at_call 155;first
   |((with_reducible refine(zbe va m _ ha).mono ?_);rintro e w1 ⟨ra,rfl,hra,hb1⟩)
   |((with_reducible refine(zbe vb n _ (hb.bw hb1)).mono ?_);rintro e w2 ⟨rb,rfl,hrb,hb2⟩)))
 have hra2:=hra.bw hb2;have hbw:=hb1.trans (hb2.mono hb1.size);go_loopw [0,1] (λ u0 u1 wr=>∃ (x y:Nat),zpb wr u0 x/\zpb wr u1 y/\zda x<=512/\zda y<=512/\Nat.gcd x y=Nat.gcd m n/\Below w.heap.size w wr) (λ _ u1 wr=>natOf wr u1);case atStart=>exact⟨m,n,hra2,hrb,HM.o,HN.o,rfl,hbw⟩
 case round=>
  obtain⟨x,y,hx,hy,hx5,hy5,hg,hbr⟩:=hrel;clear ha hb hra hrb hra2 hb1 hb2 hbw;obtain⟨sx,lx⟩:zlb u0/\slen u0=zda x:=⟨hx.v.sl,hx.v.len⟩;obtain⟨sy,ly⟩:zlb u1/\slen u1=zda y:=⟨hy.v.sl,hy.v.len⟩;have HX:=zH hx5;have HY:=zH hy5;have HG:=zH hg;have hxb:zda x<=4294967296:=zO;have hyb:zda y<=4294967296:=zO;clear hx5 hy5 hg;by_cases hy0:y=0
  ·have hyz:zda y=0:=zqa.2 hy0;(have hfin:x=Nat.gcd m n:=by rw[<-HG.o,hy0,Nat.gcd_zero_right]);have HF:=zH hfin;clear hfin hy0;go_wp2;go_ret2;exact⟨_,rfl,HF.o▸hx,hbr⟩
  ·(have hyz:0<zda y:=by have :zda y≠0:=λ h'=>hy0 (zqa.1 h');omega);have HY0:=zH hy0;clear hy0;go_wp2_with (go_at_call 168;(with_reducible refine(zup _ _ x y _ hx hy HY0.o HX.o).mono ?_);rintro e w3 ⟨q,r,rfl,hq,hr,hbl⟩);have hy3:=hy.bw hbl;have hbr3:=hbr.trans (hbl.mono hbr.size);go_wp2;go_roundw;(case rel=>exact⟨y,x%y,hy3,hr,HY.o,zLT (zfb (zLO (zML2 _ (zPZ HY0.o)))) HY.o,by rw[<-HG.o,Nat.gcd_comm y,<-Nat.gcd_rec,Nat.gcd_comm],hbr3⟩);case measure=>rw[zkm hr,zkm hy];exact zML2 _ (zPZ HY0.o)
set_option maxHeartbeats 800000 in
theorem mul_any (va vb:Value) (m n:Nat) (w:World) (ha:zwb w va m) (hb:zwb w vb n) (hm:zda m<=512) (hn:zda n<=512):
 Calls Tryz.prog 144 #[va,vb] w (zxp w (m*n)):=by
 have HM:=zH hm;have HN:=zH hn;have hmb:zda m<=4294967296:=zO;have hnb:zda n<=4294967296:=zO;clear hm hn;obtain⟨sa,ca,ka⟩:=ha.scap;obtain⟨sb,cb,kb⟩:=hb.scap;obtain⟨i0,hi,hz0,hz1,hz2⟩:=info_parts Tryz.info102;have hM:=zfe (P:=Tryz.prog) 51 134 i0 Tryz.underlying51 hi hz0 hz1 hz2;go_enter Tryz.func144,Tryz.ntmps144;go_wp2_with (go_at_call 156;first | ((with_reducible refine(zpe va m _ ha HM.o).mono ?_);rintro e w' ⟨rfl,rfl⟩) | ((with_reducible refine(zpe vb n _ hb HN.o).mono ?_);rintro e w' ⟨rfl,rfl⟩));go_quiet ((go_at_call 139;first | with_reducible exact Calls.quiet_of_same ((zcb va m _ (ha.drawn _)).mono λ e w' ⟨h1,h2⟩=>⟨h1,h2.symm⟩) | with_reducible exact Calls.quiet_of_same ((zcb vb n _ (hb.drawn _)).mono λ e w' ⟨h1,h2⟩=>⟨h1,h2.symm⟩)));have l1:slen (tk va (zda m))=zda m:=ka.1.len;have l2:slen (tk vb (zda n))=zda n:=kb.1.len;have s1:=ka.1.sl;have s2:=kb.1.sl;clear ha hb sa sb ca cb;generalize tk va (zda m)=xa at *
 generalize tk vb (zda n)=xb at *
 have kb':=kb.drawn nq;have ka':=ka.drawn nq;have hbel:=zia (B:=w.heap.size) w nq;generalize w.drewN nq=W at *
 clear ka kb;have hroom:zda m+zda n<=35184372088832:=zO;go_wp2_with (refine hM _ rfl _ _ rfl W.heap.size _ (zda m+zda n) rfl rfl rfl hroom (zLR _) ?_;intro v w1 hown hb1 hvb);have hbw:Below w.heap.size w w1:=hbel.trans (hb1.mono hbel.size);clear hM
 go_loopw [34] (λ u34 wr=>∃ (k:Nat) (o:List Nat),k<=zda m/\u34= .int .i64 k/\zsc wr 134 W.heap.size v o/\o.length=zda m+zda n/\
  val (o.take (k+zda n))=val ((zja m).take k)*n/\Below W.heap.size W wr) (λ u34 _=>zda m- (intOf u34).toNat)
 case atStart=>exact⟨0,_,zZL _,rfl,hown,by simp,by simp[val,zog],hb1⟩
 case round=>
  obtain⟨k,o,hk,rfl,hownr,hol,hval,hbr⟩:=hrel;obtain⟨wo,rfl⟩:∃wo:World,wo=wr:=⟨_,rfl⟩;have hcx:=((ka'.bw hbr).1).cell;have HV:=zH hval;clear hval;by_cases hkp:k<zda m
  ·have hx:=hcx k hkp;have hx1:(zja m)[k]'hkp<4294967296:=zvb m _ (zGM _);have HX:=zH (zga (zja m) k hkp);clear hcx;generalize (zja m)[k]'hkp=x at *
   go_wp2
   go_loopw [9,41] (λ u9 u41 wi=>∃ (j c:Nat) (o:List Nat),j<=zda n/\u41= .int .i64 j/\u9= .int .u64 c/\c<4294967296/\zsc wi 134 W.heap.size v o/\o.length=zda m+zda n/\
    val (o.take (k+zda n))+pw (k+j)*c=val ((zja m).take k)*n+pw k*x*val ((zja n).take j)/\Below W.heap.size W wi) (λ _ u41 _=>zda n- (intOf u41).toNat)
   case atStart=>exact⟨0,0,o,zZL _,rfl,rfl,zO,hownr,hol,by rw[HV.o];simp[val],hbr⟩
   case round=>
    obtain⟨j,c,p,hj,rfl,rfl,hc,hownp,hpl,hvp,hbi⟩:=hrel;have HP:=zH hvp;clear hvp;have sv:=hownp.nat.sl;(have lv:slen v=zda m+zda n:=by rw[hownp.nat.len,hpl]);by_cases hjn:j<zda n
    ·have hy:=((kb'.bw hbi).1).cell j hjn;have hy1:(zja n)[j]'hjn<4294967296:=zvb n _ (zGM _);have HY:=zH (zga (zja n) j hjn);have hfz:=hownp.frozen (k+j) zO;have hco:=hownp.nat.cell (k+j) zO;have hq1:p[k+j]' zO<4294967296:=hownp.lm _ (zGM _);(have HST:=fun(z c':Nat)=>zH (mul_step (o:=p) (b:=zja n) (k:=k) (j:=j) (N:=k+zda n) (R:=val ((zja m).take k)*n) (c:=c) (x:=x) (z:=z) (c':=c') zO zO HY.o HP.o));generalize (zja n)[j]'hjn=y at *
     generalize hqe:p[k+j]' zO=q at *
     obtain⟨h0',hxy'⟩:=zoi hx1 hy1;have hT:=(zwn hx1 hy1 hq1 hc).1;have HT:=zH hT;clear hqe hT;go_wp2;have HT2:=HT.o;have e:=mul_cast c x y q;generalize x*y+q+c=t at *
     have hset:=hownp.set (k+j) zO (t%4294967296) zO;go_roundw
     case rel=>
      rw[e];have e2:((t:Nat):Int)/4294967296=((t/4294967296:Nat):Int):=rfl;rw[e2];exact⟨j+1,t/4294967296,_,zO,by go_num,rfl,div_lt_32 HT2,hset.1,by simp[hpl],(HST (t%4294967296) (t/4294967296)).o zO,hbi.trans hset.2⟩
     case measure=>simp[intOf];omega
    ·obtain rfl:j=zda n:=zO;have hfz:=hownp.frozen (k+zda n) zO;have hco:=hownp.nat.cell (k+zda n) zO;have hset:=hownp.set (k+zda n) zO c hc;have hv2:=mul_end (o:=p) (a:=zja m) (b:=zja n) (k:=k) (n:=n) (N:=k+zda n) (c:=c) (x:=x) zO HX.o (zfa n) rfl HP.o;have HV2:=zH hv2;clear hv2;go_wp2;go_roundw;(case rel=>exact⟨k+1,_,zO,by go_num,hset.1,by simp[hpl],by rw[show k+1+zda n=k+zda n+1 from zO];exact HV2.o,hbi.trans hset.2⟩);case measure=>simp[intOf];omega
  ·obtain rfl:k=zda m:=zO;clear hcx
   have hv2:val o=m*n:=by
    have e:=HV.o;rw[zTL zO,zTL (show zda m<=zda m from zLR _),zfa]at e;exact e
   have HS:=zH (zxj v _ _ hownr.nat (by rw[hol];have:=HM.o;have:=HN.o;omega));have HV2:=zH hv2;clear hv2 HV;go_wp2_with (go_at_call 157;refine HS.o.mono ?_;rintro e w' ⟨r,er,rfl,hr,hbl⟩);go_ret2;rw[HV2.o]at hr;exact⟨r,er,rfl,hr,hbel.trans ((hbr.trans (hbl.mono hbr.size)).mono hbel.size)⟩
end Go.Proofs.YtkpedaflofejnaaGreat
namespace Go.Proofs.YtkpedaflofejnaaGreat
def sgn (neg:Bool) (n:Nat):Int:=if neg then -(n:Int)else n
def fq (neg:Bool) (n d:Nat):Rat:=mkRat (sgn neg n) d
def fits (q:Rat):Prop:=zsa q.num.natAbs<=4096/\zsa q.den<=4096
instance (q :Rat):Decidable (fits q):=inferInstanceAs (Decidable (_/\_))
theorem zii (neg:Bool) (n:Nat):(sgn neg n).natAbs=n:=by unfold sgn;split<;>omega
theorem sgn_zero (neg:Bool):sgn neg 0=0:=by unfold sgn;split<;>omega
theorem sgn_div (neg:Bool) (n g:Nat) (h:g∣n):sgn neg n/(g:Int)=sgn neg (n/g):=by
 unfold sgn;split
 ·rw[Int.neg_ediv_of_dvd (Int.natCast_dvd_natCast.2 h)];simp
 ·simp
theorem fq_num (neg:Bool) (n d:Nat) (hd:d≠0):(fq neg n d).num=sgn neg (n/Nat.gcd n d):=by
 unfold fq;rw[Rat.num_mkRat,zIN hd,zii,Nat.gcd_comm,sgn_div _ _ _ (Nat.gcd_dvd_left n d)]
theorem fq_den (neg:Bool) (n d:Nat) (hd:d≠0):(fq neg n d).den=d/Nat.gcd n d:=by
 unfold fq;rw[Rat.den_mkRat,zIN hd,zii,Nat.gcd_comm]
theorem zzh (neg:Bool) (n d:Nat) (hd:d≠0):(fq neg n d).num.natAbs=n/Nat.gcd n d:=by
 rw[fq_num _ _ _ hd,zii]
theorem zmn (q:Rat):q<0↔q.num<0:=by
 have:=Rat.num_nonneg (q:=q);rw[<-Rat.not_le,<-this];omega
theorem sgn_neg_iff (neg:Bool) (n:Nat):sgn neg n<0↔neg=true/\0<n:=by
 unfold sgn;cases neg<;>simp <;>omega
theorem fq_neg (neg:Bool) (n d:Nat) (hd:d≠0):decide (fq neg n d<0)=(neg&&decide (0<n/Nat.gcd n d)):=by
 have :fq neg n d<0↔neg=true/\0<n/Nat.gcd n d:=by rw[zmn,fq_num _ _ _ hd,sgn_neg_iff]
 by_cases h:fq neg n d<0
 ·obtain⟨h1,h2⟩:=this.1 h;rw[zDT h,zDT h2,h1];rfl
 ·have h2:¬ (neg=true/\0<n/Nat.gcd n d):=λ h'=>h (this.2 h')
  rw[zDF h];cases neg
  ·simp
  ·(have :¬0<n/Nat.gcd n d:=λ h'=>h2 ⟨rfl,h'⟩);simp only[Bool.true_and,zDF this]
theorem zrc (q:Rat):fq (decide (q<0)) q.num.natAbs q.den=q:=by
 unfold fq
 have :sgn (decide (q<0)) q.num.natAbs=q.num:=by
  unfold sgn;have:=zmn q;split
  ·next h=>have:=this.1 (by simpa using h);omega
  ·next h=>(have h2:¬q<0:=by simpa using h);(have :¬q.num<0:=λ h'=>h2 (this.2 h'));omega
 rw[this,Rat.mkRat_self]
theorem fq_add (s t:Bool) (a b c d:Nat) (hb:b≠0) (hd:d≠0):fq s a b+fq t c d=mkRat (sgn s (a*d)+sgn t (c*b)) (b*d):=by
 unfold fq;rw[Rat.mkRat_add_mkRat _ _ hb hd]
 congr 2
 ·unfold sgn;split<;>simp[Int.neg_mul]
 ·unfold sgn;split<;>simp[Int.neg_mul]
theorem zkj (s:Bool) (a b c d:Nat) (hb:b≠0) (hd:d≠0):fq s a b+fq s c d=fq s (a*d+c*b) (b*d):=by
 rw[fq_add _ _ _ _ _ _ hb hd];unfold fq sgn
 congr 1
 split<;>omega
theorem fq_add_ge (s t:Bool) (a b c d:Nat) (hb:b≠0) (hd:d≠0) (hst:(s==t)=false) (h:c*b<=a*d):fq s a b+fq t c d=fq s (a*d-c*b) (b*d):=by
 rw[fq_add _ _ _ _ _ _ hb hd];unfold fq sgn
 congr 1
 cases s<;>cases t<;>simp at hst |- <;>omega
theorem fq_add_lt (s t:Bool) (a b c d:Nat) (hb:b≠0) (hd:d≠0) (hst:(s==t)=false) (h:a*d<=c*b):fq s a b+fq t c d=fq t (c*b-a*d) (b*d):=by
 rw[fq_add _ _ _ _ _ _ hb hd];unfold fq sgn
 congr 1
 cases s<;>cases t<;>simp at hst |- <;>omega
theorem fq_mul (s t:Bool) (a b c d:Nat):fq s a b*fq t c d=fq (s != t) (a*c) (b*d):=by
 unfold fq;rw[Rat.mkRat_mul_mkRat]
 congr 1
 unfold sgn;cases s<;>cases t<;>simp[Int.neg_mul,Int.mul_neg]
theorem zqc {n k:Nat} (h:zsa n<=32*k):zda n<=k:=by
 rw[zcc,zqn];exact ztb.1 h
theorem zfg {n k:Nat} (h:zda n<=k):zsa n<=32*k:=by
 rw[zcc,zqn]at h;exact ztb.2 h
theorem zlp {m n:Nat} (h:m<=n):zsa m<=zsa n:=ztb.2 (zLL h (ztb.1 (zLR _)))
end Go.Proofs.YtkpedaflofejnaaGreat
namespace Go.Proofs.YtkpedaflofejnaaGreat
open Go.RowKit
structure C3 (w:World) (b:Nat) (v0 v1 v2:Value):Prop where
 lt:b<w.heap.size
 c0:w.cell? ⟨b,0,none⟩=some v0
 c1:w.cell? ⟨b,1,none⟩=some v1
 c2:w.cell? ⟨b,2,none⟩=some v2
 f0:w.frozen? ⟨b,0,none⟩=false
 f1:w.frozen? ⟨b,1,none⟩=false
 f2:w.frozen? ⟨b,2,none⟩=false
theorem C3.of {w:World} {b:Nat} {v0 v1 v2:Value} {t:TypeId} (h:w.heap[b]? =some (.cells #[v0,v1,v2] t (0,0))):C3 w b v0 v1 v2:=by
 refine⟨lt_of_block h,?_,?_,?_,?_,?_,?_⟩<;>simp[World.cell?,World.frozen?,h]
theorem C3.new (w:World) (t:TypeId) (v0 v1 v2:Value):C3 (w.alloc (.cells #[v0,v1,v2] t)) w.heap.size v0 v1 v2:=
 C3.of (t:=t) (by show(w.heap.push _)[w.heap.size]? =_;simp)
theorem C3.bw {w w':World} {B b:Nat} {v0 v1 v2:Value} (h:C3 w b v0 v1 v2) (hb:Below B w w') (hB:b<B):C3 w' b v0 v1 v2:=
 ⟨zLM h.lt hb.size,by rw[hb.cell hB];exact h.c0,by rw[hb.cell hB];exact h.c1,by rw[hb.cell hB];exact h.c2,by rw[hb.frozen hB];exact h.f0,by rw[hb.frozen hB];exact h.f1,by rw[hb.frozen hB];exact h.f2⟩
theorem C3.bS {w w':World} {b:Nat} {v0 v1 v2:Value} (h:C3 w b v0 v1 v2) (hb:Below w.heap.size w w'):C3 w' b v0 v1 v2:=h.bw hb h.lt
theorem C3.set {w:World} {b:Nat} {v0 v1 v2:Value} (h:C3 w b v0 v1 v2) (u0 u1 u2:Value):C3 (((w.setCell ⟨b,0,none⟩ u0).setCell ⟨b,1,none⟩ u1).setCell ⟨b,2,none⟩ u2) b u0 u1 u2:=by
 obtain⟨lt,c0,c1,c2,f0,f1,f2⟩:=h;refine⟨by simpa [World.setCell]using lt,?_,?_,?_,?_,?_,?_⟩<;>go_simp
theorem zea {w0 w:World} {B b:Nat} (h:Below B w0 w) (hb:B<=b) (u0 u1 u2:Value):Below B w0 (((w.setCell ⟨b,0,none⟩ u0).setCell ⟨b,1,none⟩ u1).setCell ⟨b,2,none⟩ u2):=
 ((h.setCell (p:=⟨b,0,none⟩) hb u0).setCell (p:=⟨b,1,none⟩) hb u1).setCell (p:=⟨b,2,none⟩) hb u2
theorem load_c3 {P:Program} {w:World} {b:Nat} {v0 v1 v2:Value} {ty:TypeId} (hagg:∀w,(isAgg ty).run P w= .ok true w) (hs:∀w,(sizeOf ty).run P w= .ok 3 w) (h:C3 w b v0 v1 v2):
 (loadVar ty ⟨b,0,none⟩).run P w= .ok (.agg #[v0,v1,v2]) w:=by
 obtain⟨lt,c0,c1,c2,f0,f1,f2⟩:=h;simp only[loadVar,Sem.run_bind,hagg,hs,Result.andThen_ok];go_simp
theorem zka {P:Program} {fn:Func} {R:Ending->World->Prop} {a:Act} {w:World} {p u:Tmp} {ty:TypeId} {b:Nat} {v0 v1 v2:Value} (h:fn.results=#[.cell p ty, .tmp u])
 (hp:a.tmps.getD p undef= .pointer (some ⟨b,0,none⟩)) (hagg:∀w,(isAgg ty).run P w= .ok true w) (hs:∀w,(sizeOf ty).run P w= .ok 3 w) (hc:C3 w b v0 v1 v2) (hd:a.defers= [])
 (hR:R (.returned (.tuple #[.agg #[v0,v1,v2],a.tmps.getD u undef])) w):bodyPost P fn R .ret a w:=by
 refine bodyPost_ret ?_ hd hR;rw[results_cell_tmp h,hp];simp only[asAddr,Sem.run_pure,Result.andThen_ok,load_c3 hagg hs hc]
end Go.Proofs.YtkpedaflofejnaaGreat
