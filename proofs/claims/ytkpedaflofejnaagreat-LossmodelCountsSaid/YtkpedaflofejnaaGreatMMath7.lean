/- Lemmas. -/
import Derived.Test.YtkpedaflofejnaaGreatMRa2
set_option linter.unusedVariables false
set_option linter.unusedSimpArgs false
namespace Go.Proofs.YtkpedaflofejnaaGreat
set_option maxHeartbeats 1600000
open Go.RowKit
theorem zsc.drawn {w:World} {e:TypeId} {B:Nat} {v:Value} {o:List Nat} (h:zsc w e B v o) (k:Nat):zsc (w.drewN k) e B v o:=h.bw (zia w k)
theorem zyo (c x y q:Nat):(x:Int)*y+q+c=((x*y+q+c:Nat):Int):=by
 rw[Int.natCast_add,Int.natCast_add,Int.natCast_mul]
theorem zme (va vb:Value) (a b:List Nat) (w:World) (ha:ztc w va a) (hb:ztc w vb b) (hla:a.length<=65536) (hlb:b.length<=65536):
 Calls Tryz.prog 152 #[va,vb] w (RNat w (val a*val b)):=by
 obtain⟨i0,hi,hz0,hz1,hz2⟩:=info_parts Tryz.info102;have hM:=zfe (P:=Tryz.prog) 51 134 i0 Tryz.underlying51 hi hz0 hz1 hz2;clear hi hz0 hz1 hz2;have s1:=ha.sl;have s2:=hb.sl;have l1:=ha.len;have l2:=hb.len;have hroom:a.length+b.length<=35184372088832:=zO;go_enter Tryz.func152,Tryz.ntmps152;go_wp2_with (refine hM _ rfl _ _ rfl w.heap.size _ (a.length+b.length) rfl rfl rfl hroom (zLR _) ?_;intro v w1 hown hb1 hvb);clear hM hroom
 go_loopw [6] (λ u6 wr=>∃ (k:Nat) (o:List Nat),k<=a.length/\u6= .int .i64 k/\zsc wr 134 w.heap.size v o/\o.length=a.length+b.length/\
  val (o.take (k+b.length))=val (a.take k)*val b/\Below w.heap.size w wr) (λ u6 _=>a.length- (intOf u6).toNat)
 case atStart=>exact⟨0,_,zZL _,rfl,hown,by simp,by simp[val,zog],hb1⟩
 case round=>
  obtain⟨k,o,hk,rfl,hownr,hol,hval,hbr⟩:=hrel;obtain⟨wo,rfl⟩:∃wo:World,wo=wr:=⟨_,rfl⟩;have HV:=zH hval;have HOL:=zH hol;clear hval hol;by_cases hkp:k<a.length
  ·have HX:=zH (zga a k hkp);have hx1:=ha.lt k hkp;(have hca:=fun(wi:World) (h:Below w.heap.size w wi)=>zH ((ha.bw h).cell k hkp));generalize a[k]=x at *
   go_wp2
   go_loopw [7,8] (λ u7 u8 wi=>∃ (j c:Nat) (o:List Nat),j<=b.length/\u8= .int .i64 j/\u7= .int .u64 c/\c<4294967296/\zsc wi 134 w.heap.size v o/\o.length=a.length+b.length/\
    val (o.take (k+b.length))+pw (k+j)*c=val (a.take k)*val b+pw k*x*val (b.take j)/\Below w.heap.size w wi) (λ _ u8 _=>b.length- (intOf u8).toNat)
   case atStart=>exact⟨0,0,o,zZL _,rfl,rfl,zO,hownr,HOL.o,by rw[HV.o];simp[val],hbr⟩
   case round=>
    obtain⟨j,c,p,hj,rfl,rfl,hc,hownp,hpl,hvp,hbi⟩:=hrel;have HP:=zH hvp;have HPL:=zH hpl;clear hvp;have sv:=hownp.nat.sl;(have lv:slen v=a.length+b.length:=by rw[hownp.nat.len,hpl]);clear hpl;by_cases hjn:j<b.length
    ·(have hkj:k+j<p.length:=by rw[HPL.o];omega);have hx:=(hca _ hbi).o;have hy:=(hb.bw hbi).cell j hjn;have hy1:=hb.lt j hjn;have HY:=zH (zga b j hjn);have hfz:=hownp.frozen (k+j) hkj;have hco:=hownp.nat.cell (k+j) hkj;have hq1:p[k+j]<4294967296:=hownp.lm _ (zGM _);(have HST:=fun(z c':Nat)=>zH (mul_step (o:=p) (b:=b) (k:=k) (j:=j) (N:=k+b.length) (R:=val (a.take k)*val b) (c:=c) (x:=x) (z:=z) (c':=c') zO (by have:=HPL.o;omega) HY.o HP.o));generalize b[j]=y at *
     generalize hqe:p[k+j]=q at *
     obtain⟨h0',hxy'⟩:=zoi hx1 hy1;have hT:=(zwn hx1 hy1 hq1 hc).1;have hset:=hownp.set (k+j) hkj;have HT:=zH hT;have HKJ:=zH hkj;clear hqe hT hkj;have e1:IntKind.i64.wrap ((k:Int)+j)=(k:Int)+j:=IntWalk.i64_in _ zO;have e2:((k:Int)+j).toNat=k+j:=zO;have e2b:(0:Int)<=(k:Int)+j:=zO;(have e3:IntKind.u64.wrap ((x:Int)*y)=(x:Int)*y:=by rw[zhc];omega);(have e4:IntKind.u64.wrap ((x:Int)*y+q)=(x:Int)*y+q:=by rw[zhc];omega);(have e5:IntKind.u64.wrap ((x:Int)*y+q+c)=(x:Int)*y+q+c:=by rw[zhc,zyo];have:=HT.o;omega);go_wp2;go_quiet (fail);clear e1 e2 e2b e3 e4 e5 hset hfz hco hx hy h0' hxy';have hownd:=hownp.drawn nq;have hbd:=hbi.trans ((zia wr nq).mono hbi.size);have hco:(wr.drewN nq).cell? (ptr v (k+j))=some (.int .u32 (p[k+j]'HKJ.o:Nat)):=hownd.nat.cell (k+j) HKJ.o;have hfz:=hownd.frozen (k+j) HKJ.o;have hset:=hownd.set (k+j) HKJ.o;generalize wr.drewN nq=W at *
     rw[zyo];have HT2:=HT.o;generalize x*y+q+c=t at *
     generalize (p[k+j]'HKJ.o)=q0 at *
     have hset2:=hset (t%4294967296) zO;clear hset;go_wp2;go_roundw
     case rel=>
      have e2:((t:Nat):Int)/4294967296=((t/4294967296:Nat):Int):=rfl;rw[e2];exact⟨j+1,t/4294967296,_,zO,by go_num,rfl,div_lt_32 HT2,hset2.1,by simp[HPL.o],(HST (t%4294967296) (t/4294967296)).o zO,hbd.trans hset2.2⟩
     case measure=>simp[intOf];omega
    ·obtain rfl:j=b.length:=zO;(have hkj:k+b.length<p.length:=by rw[HPL.o];omega);have hfz:=hownp.frozen (k+b.length) hkj;have hco:=hownp.nat.cell (k+b.length) hkj;have hset:=hownp.set (k+b.length) hkj c hc;have hv2:=mul_end (o:=p) (a:=a) (b:=b) (k:=k) (n:=val b) (N:=k+b.length) (c:=c) (x:=x) hkj HX.o rfl rfl HP.o;have HV2:=zH hv2;clear hv2;generalize p[k+b.length]=q0 at *
     clear hkj;go_wp2;go_roundw;(case rel=>exact⟨k+1,_,zO,by go_num,hset.1,by simp[HPL.o],by rw[show k+1+b.length=k+b.length+1 from zO];exact HV2.o,hbi.trans hset.2⟩);case measure=>simp[intOf];omega
  ·obtain rfl:k=a.length:=zO
   have hv2:val o=val a*val b:=by
    have e:=HV.o;rw[zTL (by have:=HOL.o;omega),zTL (show a.length<=a.length from zLR _)]at e;exact e
   have HT:=zoa _ _ wo (hownr.nat.natN (by have:=HOL.o;omega));rw[hv2]at HT;have HT2:=zH HT;clear HT hv2;go_wp2_with (go_at_call 89;refine HT2.o.mono ?_;rintro e w1 ⟨r,rfl,hr,hb⟩);go_ret;exact⟨r,rfl,hr,hbr.trans (hb.mono hbr.size)⟩
theorem zwb.of_eq {w:World} {v:Value} {m n:Nat} (h:zwb w v m) (e:m=n):zwb w v n:=e▸h
theorem radd_any (va vb:Value) (m n:Nat) (w:World) (ha:zwb w va m) (hb:zwb w vb n) (hm:zda m<=512) (hn:zda n<=512):
 Calls Tryz.prog 90 #[va,vb] w (zxp w (m+n)):=by
 have HM:=zH hm;have HN:=zH hn;have HM2:zI ((zja m).length<=65536):=zH (zLT hm zD);have HN2:zI ((zja n).length<=65536):=zH (zLT hn zD);clear hm hn;go_enter Tryz.func90,Tryz.ntmps90
 go_wp2_with (first
  |(go_at_call 132;first
    |((with_reducible refine(zjd va m _ ha HM.o).mono ?_);rintro e wa ⟨rfl,hba⟩)
    |((with_reducible refine(zjd vb n _ (hb.bw hba) HN.o).mono ?_);rintro e wb ⟨rfl,hbb⟩;have hbw:=zaa hba hbb;have ha2:=ha.bw hbw;have hb2:=hb.bw hbw))
  |(go_at_call 89;first
     |((with_reducible refine(zoa va m _ ha2).mono ?_);rintro e w1 ⟨ra,rfl,hra,hb1⟩;have hbw1:=zaa hbw hb1)
     |((with_reducible refine(zoa vb n _ (hb2.bw hb1)).mono ?_);rintro e w2 ⟨rb,rfl,hrb,hb2⟩;have hbw2:=zaa hbw1 hb2;have hra2:=hra.bw hb2))
  |(go_at_call 133;(with_reducible refine(plus_any ra rb (zja m) (zja n) _ hra2.v hrb.v HM2.o HN2.o).mono ?_);rw[zfa,zfa];rintro e w3 ⟨r,rfl,hr,hb3⟩;have hbw3:=zaa hbw2 hb3)
  |(go_at_call 132;(with_reducible refine(zwk r (m+n) _ hr.nat).mono ?_);rintro e w4 ⟨rfl,hb4⟩;have hbw4:=zaa hbw3 hb4;have hr4:=hr.bw hb4))
 ·go_ret2;have hbig:¬zda (m+n)<=512:=by have h5:512<zda (m+n):= ‹_›;omega
  exact⟨_,2,rfl,⟨λ h=>absurd h hbig,λ _=>⟨rfl,zpb.nil _⟩⟩,hbw4⟩
 ·go_ret2;have hbig:¬512<zda (m+n):=by assumption
  exact⟨_,0,rfl,⟨λ _=>⟨rfl,hr4⟩,λ h=>absurd h hbig⟩,hbw4⟩
theorem rmul_any (va vb:Value) (m n:Nat) (w:World) (ha:zwb w va m) (hb:zwb w vb n) (hm:zda m<=512) (hn:zda n<=512):
 Calls Tryz.prog 131 #[va,vb] w (zxp w (m*n)):=by
 have HM:=zH hm;have HN:=zH hn;have HM2:zI ((zja m).length<=65536):=zH (zLT hm zD);have HN2:zI ((zja n).length<=65536):=zH (zLT hn zD);clear hm hn;go_enter Tryz.func131,Tryz.ntmps131
 go_wp2_with (first
  |(go_at_call 132;first
    |((with_reducible refine(zjd va m _ ha HM.o).mono ?_);rintro e wa ⟨rfl,hba⟩)
    |((with_reducible refine(zjd vb n _ (hb.bw hba) HN.o).mono ?_);rintro e wb ⟨rfl,hbb⟩;have hbw:=zaa hba hbb;have ha2:=ha.bw hbw;have hb2:=hb.bw hbw))
  |(go_at_call 89;first
     |((with_reducible refine(zoa va m _ ha2).mono ?_);rintro e w1 ⟨ra,rfl,hra,hb1⟩;have hbw1:=zaa hbw hb1)
     |((with_reducible refine(zoa vb n _ (hb2.bw hb1)).mono ?_);rintro e w2 ⟨rb,rfl,hrb,hb2⟩;have hbw2:=zaa hbw1 hb2;have hra2:=hra.bw hb2))
  |(go_at_call 152;(with_reducible refine(zme ra rb (zja m) (zja n) _ hra2.v hrb.v HM2.o HN2.o).mono ?_);rw[zfa,zfa];rintro e w3 ⟨r,rfl,hr,hb3⟩;have hbw3:=zaa hbw2 hb3)
  |(go_at_call 132;(with_reducible refine(zwk r (m*n) _ hr.nat).mono ?_);rintro e w4 ⟨rfl,hb4⟩;have hbw4:=zaa hbw3 hb4;have hr4:=hr.bw hb4))
 ·go_ret2;have hbig:¬zda (m*n)<=512:=by have h5:512<zda (m*n):= ‹_›;omega
  exact⟨_,2,rfl,⟨λ h=>absurd h hbig,λ _=>⟨rfl,zpb.nil _⟩⟩,hbw4⟩
 ·go_ret2;have hbig:¬512<zda (m*n):=by assumption
  exact⟨_,0,rfl,⟨λ _=>⟨rfl,hr4⟩,λ h=>absurd h hbig⟩,hbw4⟩
/-- b is at most a. -/
theorem rsub_le (va vb:Value) (m n:Nat) (w:World) (ha:zwb w va m) (hb:zwb w vb n) (hm:zda m<=512) (hn:n<=m):
 Calls Tryz.prog 92 #[va,vb] w (RNat0 w (m-n)):=by
 have HM:=zH hm;have HN:=zH (zLT (zfb hn) hm);have HL:=zH hn;have HM2:zI ((zja m).length<=65536):=zH (zLT hm zD);have HN2:zI ((zja n).length<=(zja m).length):=zH (zfb hn);have HL2:zI (val (zja n)<=val (zja m)):=zH (by rw[zfa,zfa];exact hn);have hc:(zjl m n<0)=False:=by unfold zjl;rw[zIN zO];split<;>simp
 have hc2:¬zjl m n<0:=by rw[hc];simp
 clear hm hn hc;generalize hg:zjl m n=g at *
 have HG:=zH hg;clear hg;go_enter Tryz.func92,Tryz.ntmps92
 go_wp2_with (first
  |(go_at_call 132;first
    |((with_reducible refine(zjd va m _ ha HM.o).mono ?_);rintro e wa ⟨rfl,hba⟩)
    |((with_reducible refine(zjd vb n _ (hb.bw hba) HN.o).mono ?_);rintro e wb ⟨rfl,hbb⟩;have hbw0:=zaa hba hbb;have ha0:=ha.bw hbw0;have hb0:=hb.bw hbw0))
  |(go_at_call 91;(with_reducible refine(zye va vb m n _ ha0 hb0).mono ?_);rintro e wc ⟨rfl,hbc⟩;rw[HG.o];have hbw:=zaa hbw0 hbc;have ha2:=ha.bw hbw;have hb2:=hb.bw hbw)
  |(go_at_call 89;first
     |((with_reducible refine(zoa va m _ ha2).mono ?_);rintro e w1 ⟨ra,rfl,hra,hb1⟩;have hbw1:=zaa hbw hb1)
     |((with_reducible refine(zoa vb n _ (hb2.bw hb1)).mono ?_);rintro e w2 ⟨rb,rfl,hrb,hb2⟩;have hbw2:=zaa hbw1 hb2;have hra2:=hra.bw hb2))
  |(go_at_call 134;(with_reducible refine(minus_any ra rb (zja m) (zja n) _ hra2.v hrb.v HM2.o HN2.o HL2.o).mono ?_);rw[zfa,zfa];rintro e w3 ⟨r,rfl,hr,hb3⟩;have hbw3:=zaa hbw2 hb3))
 go_ret2;exact⟨_,rfl,hr,hbw3⟩
set_option maxHeartbeats 1600000
theorem zee (v:Value) (n:Nat) (w:World) (h:zwb w v n):
 Calls Tryz.prog 160 #[v] w λ e w'=>e= .returned (.int .i64 (zsa n))/\Below w.heap.size w w':=by
 have HT:=zH (zoa v n w h);have hln:=h.len_le;by_cases hn:n=0
 ·have hz:zda n=0:=zqa.2 hn;have hb:zsa n=0:=zfk.2 hn;have HB:=zH hb;clear hln hn hb;go_enter Tryz.func160,Tryz.ntmps160;go_wp2_with (go_at_call 89;refine HT.o.mono ?_;rintro e w1 ⟨r,rfl,hr,hb⟩;have s1:=hr.v.sl;have s2:slen r=zda n:=hr.v.len);go_ret;exact⟨by rw[HB.o];rfl,hb⟩
 ·obtain⟨t,ht1,ht2,ht3,ht4⟩:=zkk hn;have hnl:0<zda n:=by have :zda n≠0:=λ h'=>hn (zqa.1 h');omega
  obtain⟨htl,hte⟩:=List.getElem?_eq_some_iff.1 ht1;have HC:=fun(w1:World) (r:Value) (hr:zpb w1 r n)=>zH ((hr.v.cell (zda n-1) (by show zda n-1<zda n;omega)).trans (congrArg (λ x:Nat=>some (Value.int .u32 (x:Nat))) hte))
  have HT4:=zH ht4;have htb:zsa t<=32:=ztb.2 ht3;have HB:=zH htb;clear hn ht1 ht2 ht4 htl hte htb;obtain⟨g,hg⟩:∃g,zda n=g+1:=⟨zda n-1,zO⟩;have hg1:zda n-1=g:=zO;rw[hg1]at HC HT4;rw[hg]at hln;have HG:=zH hg;clear hg hg1 hnl;go_enter Tryz.func160,Tryz.ntmps160;go_wp2_with (go_at_call 89;refine HT.o.mono ?_;rintro e w1 ⟨r,rfl,hr,hb⟩;have s1:=hr.v.sl;have s2:slen r=g+1:=hr.v.len.trans HG.o;have s3:=(HC _ _ hr).o;clear HC;have s4:(((g:Int)+1)==0)=false:=by simp;omega);go_loopw [3,4] (λ u3 u4 wr=>∃ (k y:Nat),u3= .int .i64 k/\u4= .int .u32 y/\y<4294967296/\k+zsa y=32*g+zsa t/\wr=w1) (λ _ u4 _=>(intOf u4).toNat);case atStart=>exact⟨32*g,t,by go_num,rfl,ht3,rfl,rfl⟩
  case round=>
   obtain⟨k,y,rfl,rfl,hy,hky,rfl⟩:=hrel;(have hk:k<=137438953504:=by have:=HB.o;omega);by_cases hy0:0<y
   ·have HK:=zH hky;clear hky;have hy2:y/2<y:=zO;go_wp2;go_roundw;(case rel=>exact⟨k+1,y/2,by go_num,by go_num,zO,by have:=HK.o;have:=zmp (n:=y) zO;omega,trivial⟩);case measure=>simp[intOf];omega
   ·obtain rfl:y=0:=zO;(have hfin:zsa n=k:=by rw[HT4.o,<-hky,zcl,Nat.add_zero]);have HF:=zH hfin;clear hfin hky hy0;go_wp2;go_ret;exact⟨by rw[HF.o];rfl,hb⟩
theorem rup_step {o a:List Nat} {q k c x P t:Nat} (ho:o.length=q+k) (ha:val (a.take (k+1))=val (a.take k)+pw k*x) (ht:P*x+c=t)
 (hv:val o+pw (q+k)*c=pw q*(P*val (a.take k))):
 val (o++ [t%4294967296])+pw (q+(k+1))*(t/4294967296)=pw q*(P*val (a.take (k+1))):=by
 rw[zrj,ha,ho,show q+(k+1)=(q+k)+1 from rfl,zrb];have h:t%4294967296+4294967296*(t/4294967296)=t:=zO;generalize t%4294967296=z at *
 generalize t/4294967296=d at *
 have e:=pw_add q k;generalize pw (q+k)=p at *
 subst e;subst ht;grind
theorem or_up2 (c x s:Nat) (hs:s<32) (hc:c<2^s) (hx:x<4294967296):bits .or .u64 (IntKind.u64.wrap ((x:Int)*2^s)) (c:Int)=((2^s*x+c:Nat):Int):=by
 have hP:2^s<=2^31:=Nat.pow_le_pow_right zD zO;have h1:2^s*x<=2^31*4294967295:=zMM hP zO;have h2:((x:Int)*2^s)=((2^s*x:Nat):Int):=by rw[Int.natCast_mul,Int.natCast_pow];exact Int.mul_comm _ _
 rw[h2,zhc];have h3:((2^s*x:Nat):Int)%18446744073709551616=((2^s*x:Nat):Int):=zO;rw[h3,u64_or_nat (2^s*x) c zO zO,zrn x c s hc]
theorem rup_own (va:Value) (a:List Nat) (n:Nat) (w:World) (ha:ztc w va a) (hl:a.length<=65536) (hn:n<=65536):
 Calls Tryz.prog 161 #[va, .int .i64 n] w (RNatO w (2^n*val a)):=by
 obtain⟨i0,hi,hz0,hz1,hz2⟩:=info_parts Tryz.info102;have hM:=zfe (P:=Tryz.prog) 51 134 i0 Tryz.underlying51 hi hz0 hz1 hz2;have hA1:=zah (P:=Tryz.prog) 51 134 i0 Tryz.underlying51 hi hz0 hz1 hz2;clear hi hz0 hz1 hz2;have sa:=ha.sl;have la:=ha.len;obtain⟨q,s,hs,rfl⟩:∃q s,s<32/\n=32*q+s:=⟨n/32,n%32,zML2 _ zD,zO⟩;by_cases h0:a.length=0
 ·have e:a= []:=List.eq_nil_of_length_eq_zero h0;subst e;clear hM hA1;go_enter Tryz.func161,Tryz.ntmps161;go_wp2_with fail;go_ret;refine⟨_,rfl,?_,?_,zBR _ _⟩
  ·simp only[val,Nat.mul_zero,zgc];exact zsc.nil _ _ _
  ·simp only[val,Nat.mul_zero,zkd];omega
 ·have h0b:(((a.length:Nat):Int)==0)=false:=by simpa using h0
  have hv:2^(32*q+s)*val a=pw q*(2^s*val a):=by rw[Nat.pow_add,zqn,Nat.mul_assoc]
  have HV0:=zH hv;have hqb:q<=2048:=zO;generalize hne:32*q+s=n at *
  have e1:(n:Int)/32=(q:Int):=zO;have e2:(n:Int)%32=(s:Int):=zO;clear hv hne h0;go_enter Tryz.func161,Tryz.ntmps161;go_wp2_with (refine hM _ rfl _ _ rfl w.heap.size _ q rfl rfl rfl zO (zLR _) ?_;intro v w1 hown hb1 hvb);clear hM e1
  go_loopw [5,6,7] (λ u5 u6 u7 wr=>∃ (k c:Nat) (o:List Nat),k<=a.length/\u7= .int .i64 k/\u6= .int .u64 c/\c<2^s/\zsc wr 134 w.heap.size u5 o/\o.length=q+k/\
   val o+pw (q+k)*c=pw q*(2^s*val (a.take k))/\Below w.heap.size w wr) (λ _ _ u7 _=>a.length- (intOf u7).toNat)
  case atStart=>exact⟨0,0,_,zZL _,rfl,rfl,Nat.pow_pos zD,hown,by simp,by simp[val,zog],hb1⟩
  case round=>
   obtain⟨k,c,o,hk,rfl,rfl,hc,hownr,hol,hval,hbr⟩:=hrel;have HV:=zH hval;have HOL:=zH hol;have HO:zI (o.length+1<=4294967296):=zH zO;clear hval hol hown hb1;by_cases hkp:k<a.length
   ·have hx:=(ha.bw hbr).cell k hkp;have hx1:=ha.lt k hkp;have HX:=zH (zga a k hkp);generalize a[k]=x at *
    have hor:=or_up2 c x s hs hc hx1;obtain⟨b1,b2⟩:=up_bound c x s hs hc hx1;(have HT:=λ t=>zH (rup_step (o:=o) (a:=a) (q:=q) (k:=k) (c:=c) (x:=x) (P:=2^s) (t:=t) HOL.o HX.o));generalize hte:2^s*x+c=t at *
    have HTE:=zH hte;clear hte;go_wp2_with (at_builtin;refine hA1 wr rfl _ _ rfl w.heap.size _ u5 o rfl (by exact hownr) _ (t%4294967296) zO zO rfl (zLT HO.o zD) hbr.size ?_;intro v' w1 hown1 hbel1);go_roundw;(case rel=>exact⟨k+1,t/4294967296,_,zO,by go_num,by go_num,b2,hown1,by simp[HOL.o,Nat.add_assoc],(HT t).o rfl HV.o,hbr.trans (hbel1.mono (zLR _))⟩);case measure=>simp[intOf];omega
   ·obtain rfl:k=a.length:=zO;have hP:2^s<=2^31:=Nat.pow_le_pow_right zD zO;have hc1:c<4294967296:=zO
    have hv2:val (o++ [c])=2^n*val a:=by
     rw[zrj,HOL.o,HV.o,List.take_length,HV0.o]
    have HV2:=zH hv2;have HC1:=zH hc1;clear hv2 hP hc1 hc
    go_wp2_with (first
     |(at_builtin;refine hA1 wr rfl _ _ rfl w.heap.size _ u5 o rfl (by exact hownr) _ c (by have:=HC1.o;omega) HC1.o rfl (zLT HO.o zD) hbr.size ?_;intro v' w1 hown1 hbel1;have hbw:=hbr.trans hbel1;have HT:=zH (zen v' _ w1 (zwb.of_eq (hown1.nat.natN (by have:=HO.o;simp;omega)) HV2.o)))
     |(go_at_call 89;refine HT.o.mono ?_;rintro e w2 ⟨r,rfl,hr,hr2,hb⟩))
    go_ret;exact⟨r,rfl,hr.mono hbw.size,hr2,hbw.trans (hb.mono hbw.size)⟩
theorem rup_any (va:Value) (a:List Nat) (n:Nat) (w:World) (ha:ztc w va a) (hl:a.length<=65536) (hn:n<=65536):
 Calls Tryz.prog 161 #[va, .int .i64 n] w (RNat w (2^n*val a)):=(rup_own va a n w ha hl hn).mono λ _ _ h=>h.nat
theorem val_drop (a:List Nat) (q:Nat) (h:q<=a.length):val a=val (a.take q)+pw q*val (a.drop q):=by
 have e:=zoc (a.take q) (a.drop q);rw[List.take_append_drop,zTK,Nat.min_eq_left h]at e;exact e
theorem val_drop_div (a:List Nat) (q:Nat) (ha:Lm a) (h:q<=a.length):val (a.drop q)=val a/pw q:=by
 have h1:=zqf (show Lm (a.take q)from λ x hx=>ha x (List.mem_of_mem_take hx));rw[zTK,Nat.min_eq_left h]at h1;rw[val_drop a q h,Nat.add_mul_div_left _ _ (pw_pos q),Nat.div_eq_of_lt h1,Nat.zero_add]
theorem or_hi32 (x y:Nat) (hx:x<4294967296) (hy:y<4294967296):bits .or .u64 (x:Int) ((y:Int)*4294967296)=((y*4294967296+x:Nat):Int):=by
 have h:=or_hi x y 4294967296 32 zD hx zO zD;rw[show((4294967296*y:Nat):Int)=(y:Int)*4294967296 from zO]at h;rw[h];congr 1;omega
theorem getD_drop (a:List Nat) (q k:Nat):(a.drop q).getD k 0=a.getD (q+k) 0:=by simp[List.getD]
theorem zmk (l:List Nat) (j:Nat) (hj:l.length<=j):l.getD j 0=0:=by simp[List.getD,List.getElem?_eq_none hj]
theorem down_step {o d:List Nat} {k i P a b z:Nat} (hP:P*k=4294967296) (ho:o.length=i) (hd:val (d.take (i+1))=val (d.take i)+pw i*a) (ha:a<4294967296) (hz:z=((b*4294967296+a)/P)%4294967296) (c:Nat)
 (hv:P*val o+c=val (d.take i)+pw i*(a%P)):
 P*val (o++ [z])+c=val (d.take (i+1))+pw (i+1)*(b%P):=by
 have h:=rest_limb (b:=b) k hP ha;rw[<-hz]at h;rw[zrj,hd,zrb,ho];have h2:pw i*(P*z+a%P)=pw i*(a+4294967296*(b%P)):=by rw[h]
 generalize a%P=x at *
 generalize b%P=y at *
 grind
theorem down_end {o d:List Nat} {P c:Nat} (hP:0<P) (hc:c<P) (hv:P*val o+c=val d):val o=val d/P:=by
 rw[<-hv,Nat.mul_add_div hP,Nat.div_eq_of_lt hc,Nat.add_zero]
set_option maxHeartbeats 1600000 in
theorem rdown_any (va:Value) (a:List Nat) (n:Nat) (w:World) (ha:ztc w va a) (hl:a.length<=65536) (hn:n<=65536):
 Calls Tryz.prog 162 #[va, .int .i64 n] w (RNat w (val a/2^n)):=by
 obtain⟨i0,hi,hz0,hz1,hz2⟩:=info_parts Tryz.info102;have hA1:=zah (P:=Tryz.prog) 51 134 i0 Tryz.underlying51 hi hz0 hz1 hz2;clear hi hz0 hz1 hz2;have sa:=ha.sl;have la:=ha.len;obtain⟨q,s,hs,rfl⟩:∃q s,s<32/\n=32*q+s:=⟨n/32,n%32,zML2 _ zD,zO⟩;have hP0:0<2^s:=Nat.pow_pos zD;have hPk:2^s*2^(32-s)=4294967296:=by rw[<-Nat.pow_add,Nat.add_sub_cancel' zO]
 have HP0:=zH hP0;have HPK:=zH hPk;clear hP0 hPk;have hqb:q<=2048:=zO;by_cases hqa:a.length<=q
 ·have hv:val a/2^(32*q+s)=0:=by
   apply Nat.div_eq_of_lt;have h1:=zqf ha.lm;have h2:=pw_le hqa;rw[zqn q]at h2;have h3:2^(32*q)<=2^(32*q+s):=Nat.pow_le_pow_right zD zO;omega
  rw[hv];clear hv;generalize hne:32*q+s=n at *
  have e1:(n:Int)/32=(q:Int):=zO;clear hne hA1;go_enter Tryz.func162,Tryz.ntmps162;go_wp2_with fail;go_ret;exact⟨_,rfl,zpb.nil _,zBR _ _⟩
 ·have hq1:q<a.length:=zO
  have hfin:∀x:Nat,x=val (a.drop q)/2^s->x=val a/2^(32*q+s):=λ x hx=>by
   rw[hx,val_drop_div a q ha.lm zO,Nat.div_div_eq_div_mul,zqn,<-Nat.pow_add]
  have HFIN:=zH hfin;clear hfin;generalize hne:32*q+s=n at *
  have e1:(n:Int)/32=(q:Int):=zO;have e2:(n:Int)%32=(s:Int):=zO;clear hne;go_enter Tryz.func162,Tryz.ntmps162;go_wp2_with fail;clear e1
  go_loopw [5,6] (λ u5 u6 wr=>∃ (k:Nat) (o:List Nat),q+k<=a.length/\u6= .int .i64 ((q+k:Nat):Int)/\zsc wr 134 w.heap.size u5 o/\o.length=k/\
   2^s*val o+(a.getD q 0)%2^s=val ((a.drop q).take k)+pw k*((a.getD (q+k) 0)%2^s)/\Below w.heap.size w wr) (λ _ u6 _=>a.length- (intOf u6).toNat)
  case atStart=>exact⟨0,[],zO,rfl,zsc.nil _ _ _,rfl,by simp[val,zxf],zBR _ _⟩
  case round=>
   obtain⟨k,o,hk,rfl,hownr,hol,hval,hbr⟩:=hrel;have HV:=zH hval;have HOL:=zH hol;have HO:zI (o.length+1<=4294967296):=zH zO;clear hval hol;by_cases hkp:q+k<a.length
   ·have hx:=(ha.bw hbr).cell (q+k) hkp;have hx1:=ha.lt (q+k) hkp;have HK1:zI (q+(k+1)<=a.length):=zH zO
    have hX:val ((a.drop q).take (k+1))=val ((a.drop q).take k)+pw k*a[q+k]:=by
     rw[zng,getD_drop,zyf a _ hkp];try rfl
    have hV1:=HV.o;rw[zyf a _ hkp]at hV1;(have hSTx:=fun(b z:Nat) (hz:z=((b*4294967296+a[q+k])/2^s)%4294967296)=>down_step (o:=o) (d:=a.drop q) (b:=b) (z:=z) HPK.o HOL.o hX hx1 hz _ hV1);by_cases hk2:q+k+1<a.length
    ·have hy:=(ha.bw hbr).cell (q+k+1) hk2;have hy1:=ha.lt (q+k+1) hk2;have hor:=or_hi32 a[q+k] a[q+k+1] hx1 hy1;have hST:=hSTx a[q+k+1] _ rfl;rw[<-zyf a _ hk2]at hST;obtain⟨e,he⟩:∃e,(a.getD (q+k+1) 0)*4294967296+a[q+k]=e:=⟨_,rfl⟩;rw[he]at hST;rw[zyf a _ hk2]at he;rw[he]at hor;have he64:e<18446744073709551616:=zO;have HST:=zH hST;have HZC:=zH (zir e s);clear hST hSTx hV1 hX HV he;generalize a[q+k]=x at *
     generalize a[q+k+1]=y at *
     go_wp2_with (at_builtin;refine hA1 wr rfl _ _ rfl w.heap.size _ u5 o rfl (by exact hownr) _ (e/2^s%4294967296) HZC.o (zML2 _ zD) rfl (zLT HO.o zD) hbr.size ?_;intro v' w1 hown1 hbel1);go_roundw;(case rel=>exact⟨k+1,_,HK1.o,by go_num,hown1,by simp[HOL.o],HST.o,hbr.trans (hbel1.mono (zLR _))⟩);case measure=>simp[intOf];omega
    ·have hg:a.getD (q+(k+1)) 0=0:=zmk _ _ zO;have hST:=hSTx 0 _ rfl;rw[Nat.zero_mul,Nat.zero_add]at hST;have HZC:=zH (zir a[q+k] s);have HST:zI (2^s*val (o++ [a[q+k]/2^s%4294967296])+(a.getD q 0)%2^s=val ((a.drop q).take (k+1))+pw (k+1)*((a.getD (q+(k+1)) 0)%2^s)):=zH (by rw[hg];exact hST);clear hST hSTx hV1 hX HV hg;generalize a[q+k]=e at *
     go_wp2_with (at_builtin;refine hA1 wr rfl _ _ rfl w.heap.size _ u5 o rfl (by exact hownr) _ (e/2^s%4294967296) HZC.o (zML2 _ zD) rfl (zLT HO.o zD) hbr.size ?_;intro v' w1 hown1 hbel1);go_roundw;(case rel=>exact⟨k+1,_,HK1.o,by go_num,hown1,by simp[HOL.o],HST.o,hbr.trans (hbel1.mono (zLR _))⟩);case measure=>simp[intOf];omega
   ·have hkl:q+k=a.length:=zO
    have hv2:val o=val (a.drop q)/2^s:=by
     have h:=HV.o;rw[zmk a (q+k) zO,Nat.zero_mod,Nat.mul_zero,Nat.add_zero,zTL (by rw[List.length_drop];omega)]at h;exact down_end HP0.o (zML2 _ HP0.o) h
    have HT:=zoa _ _ wr (zwb.of_eq (hownr.nat.natN (by have:=HO.o;omega)) (HFIN.o _ hv2));have HT2:=zH HT;clear HT hv2 hkl;go_wp2_with (go_at_call 89;refine HT2.o.mono ?_;rintro e w2 ⟨r,rfl,hr,hb⟩);go_ret;exact⟨r,rfl,hr,hbr.trans (hb.mono hbr.size)⟩
set_option maxHeartbeats 1600000
theorem rcmp_lt (va vb:Value) (m n:Nat) (w:World) (ha:zwb w va m) (hb:zwb w vb n) (h:m<n):
 Calls Tryz.prog 91 #[va,vb] w λ e w'=>(∃c:Int,e= .returned (.int .i64 c)/\decide (c<0)=true)/\Below w.heap.size w w':=
 (zye va vb m n w ha hb).mono λ _ _ ⟨a,b⟩=>⟨⟨_,a,by rw[zdi h];rfl⟩,b⟩
theorem rcmp_ge (va vb:Value) (m n:Nat) (w:World) (ha:zwb w va m) (hb:zwb w vb n) (h:n<=m):
 Calls Tryz.prog 91 #[va,vb] w λ e w'=>(∃c:Int,e= .returned (.int .i64 c)/\decide (c<0)=false)/\Below w.heap.size w w':=
 (zye va vb m n w ha hb).mono λ _ _ ⟨a,b⟩=>⟨⟨_,a,by unfold zjl;rw[zIN zO];split<;>rfl⟩,b⟩
set_option maxRecDepth 100000 in
theorem rdivide_less (va vb:Value) (m n:Nat) (w:World) (ha:zpb w va m) (hb:zpb w vb n) (h:m<n):
 Calls Tryz.prog 145 #[va,vb] w (RDiv w m n):=by
 have HQ:=zH (Nat.div_eq_of_lt h);have HR:=zH (Nat.mod_eq_of_lt h);go_enter Tryz.func145,Tryz.ntmps145
 go_wp2_with (first
  |(go_at_call 91;refine(rcmp_lt va vb m n _ ha.nat hb.nat h).mono ?_;rintro e w1 ⟨⟨c,rfl,hc⟩,hb1⟩;have ha1:=ha.nat.bw hb1)
  |(go_at_call 89;refine(zoa va m _ ha1).mono ?_;rintro e w' ⟨r,rfl,hr,hbl⟩))
 go_ret2;exact⟨_,r,rfl,by rw[HQ.o];exact zpb.nil _,by rw[HR.o];exact hr,zaa hb1 hbl⟩
set_option maxRecDepth 100000 in
theorem znq (va vb:Value) (m d:Nat) (w:World) (ha:zpb w va m) (hb:zpb w vb d) (h:d<=m) (hn:zda d=1) (hm:zda m<=512):
 Calls Tryz.prog 145 #[va,vb] w (RDiv w m d):=by
 have h1:d<4294967296:=by have:=zcc.1 (Nat.le_of_eq hn);simpa [pw]using this
 have h0:0<d:=zPZ λ e=>by rw[e,zkd]at hn;omega
 have hl:zja d= [d]:=by rw[zge zO,Nat.mod_eq_of_lt h1,Nat.div_eq_of_lt h1,zgc]
 have HC:=fun(w1:World) (h:Below w.heap.size w w1)=>zH (show w1.cell? (ptr vb 0)=some (.int .u32 d)by
  have:=(hb.v.bw h).cell 0 (by rw[hl];simp);simpa [hl]using this)
 have sa:=ha.v.sl;have la:slen va=zda m:=ha.v.len;have sb:=hb.v.sl;have lb:slen vb=1:=by rw[hb.v.len,hl];rfl
 have HM:=zH hm;have hmb:zda m<=4294967296:=zO;have hroom:zda m<=35184372088832:=zO;obtain⟨i0,hi,hz0,hz1,hz2⟩:=info_parts Tryz.info102;have hM:=zfe (P:=Tryz.prog) 51 134 i0 Tryz.underlying51 hi hz0 hz1 hz2;clear hi hz0 hz1 hz2 hl hn hm;go_enter Tryz.func145,Tryz.ntmps145
 go_wp2_with (first
  |(go_at_call 91;refine(rcmp_ge va vb m d _ ha.nat hb.nat h).mono ?_;rintro e w1 ⟨⟨c,rfl,hc⟩,hb1⟩)
  |(refine hM _ rfl _ _ rfl w.heap.size _ (zda m) rfl rfl rfl hroom hb1.size ?_;intro v w2 hown hb2 hvb))
 have hbw:=hb1.trans (hb2.mono hb1.size);clear hM hroom hc
 go_loopw [7,8] (λ u7 u8 wr=>∃ (k r:Nat) (q:List Nat),k<=zda m/\u8= .int .i64 ((k:Int)-1)/\u7= .int .u64 r/\r<d/\zsc wr 134 w.heap.size v q/\q.length=zda m/\
  val ((zja m).drop k)=d*val (q.drop k)+r/\Below w.heap.size w wr) (λ _ u8 _=>(intOf u8+1).toNat)
 case atStart=>exact⟨zda m,0,_,zLR _,by simp,rfl,h0,hown,by simp,by rw[List.drop_of_length_le (show zda m<=zda m from zLR _),List.drop_of_length_le (by simp)];rfl,hbw⟩
 case round=>
  obtain⟨k,r,q,hk,rfl,rfl,hr,hownr,hol,hval,hbr⟩:=hrel;have sv:=hownr.nat.sl;have lv:slen v=zda m:=by rw[hownr.nat.len,hol]
  have HV:=zH hval;have HOL:=zH hol;have hcd:=(HC _ hbr).o;clear hval hol;by_cases hk0:0<k
  ·obtain⟨j,rfl⟩:∃j,k=j+1:=⟨k-1,zO⟩;(have hj1:j<(zja m).length:=by show j<zda m;omega);have hx:=(ha.v.bw hbr).cell j hj1;have hx1:(zja m)[j]'hj1<4294967296:=zvb m _ (zGM _);(have hjq:j<q.length:=by rw[HOL.o];omega);have hfz:=hownr.frozen j hjq;have hco:=hownr.nat.cell j hjq;have HS:=zH (zap (q:=q) (l:=zja m) (k:=j) (d:=d) (r:=r) hjq (zsj (zja m) j hj1) h0 HV.o hr);(have hcd2:∀u,(wr.setCell (ptr v j) u).cell? (ptr vb 0)=some (.int .u32 d):=λ u=>(HC _ (hbr.trans (hownr.own.set j (by simpa using hjq) u).2)).o);have HJQ:=zH hjq;generalize (zja m)[j]'hj1=x at *
   generalize q[j]'hjq=q0 at *
   clear hj1 hjq;obtain⟨b1,b2,b3⟩:=zbn h1 hr hx1;have hor:=or_lo r x zO hx1;generalize r*4294967296+x=t at *
   go_wp2;have ew:=div_limb t d b1;have hset:=hownr.set j HJQ.o (t/d) b1;go_roundw
   case rel=>
    rw[ew];exact⟨j,t%d,_,zO,rfl,rfl,b2,hset.1,by simp[HOL.o],HS.o,hbr.trans hset.2⟩
   case measure=>simp[intOf]
  ·obtain rfl:k=0:=zO;have e:=HV.o;simp only[List.drop_zero]at e;rw[zfa]at e;(have hq:val q=m/d:=by rw[e,Nat.mul_add_div h0,Nat.div_eq_of_lt hr,Nat.add_zero]);(have hrr:r=m%d:=by rw[e,Nat.mul_add_mod,Nat.mod_eq_of_lt hr]);have HT:=zH (zoa v (m/d) wr (zwb.of_eq (hownr.nat.natN (by have:=HOL.o;omega)) hq));(have HMK:=λ w=>zH (zde r zO w));have HR:=zH hrr;clear hq hrr HV e
   go_wp2_with (first
    |(go_at_call 89;refine HT.o.mono ?_;rintro e w3 ⟨q1,rfl,hq1,hb3⟩)
    |(go_at_call 81;refine(HMK _).o.mono ?_;rintro e w4 ⟨r1,rfl,hr1,hb4⟩))
   go_ret2;exact⟨q1,r1,rfl,hq1.bw hb4,HR.o▸hr1,hbr.trans ((zaa hb3 hb4).mono hbr.size)⟩
end Go.Proofs.YtkpedaflofejnaaGreat
namespace Go.Proofs.YtkpedaflofejnaaGreat
theorem nbits_shift (s n:Nat) (h:n≠0):zsa (2^s*n)=s+zsa n:=by
 have:=nbits_add (a:=0) (k:=s) (t:=n) (Nat.pow_pos zD) h;rwa[Nat.zero_add]at this
theorem norm2 {n s:Nat} (hn:n≠0) (hs:s=32*zda n-zsa n):s<32/\zsa n<=32*zda n/\zda (2^s*n)=zda n/\∃t,(zja (2^s*n))[zda n-1]? =some t/\2147483648<=t:=by
 obtain⟨t,h1,h2,h3,h4⟩:=zkk hn;have h0:zda n≠0:=λ e=>hn (zqa.1 e)
 have ht:zsa t<=32:=ztb.2 h3;have ht0:=zld.2 h2;have hY:2^s*n≠0:=zMZ (Nat.ne_of_gt (Nat.pow_pos zD)) hn;obtain⟨u,u1,u2,u3,u4⟩:=zkk hY;have hu:zsa u<=32:=ztb.2 u3;have hu0:=zld.2 u2;have hY0:zda (2^s*n)≠0:=λ e=>hY (zqa.1 e)
 rw[nbits_shift s n hn]at u4;have e:zda (2^s*n)=zda n:=zO;refine⟨zO,zO,e,u,by rw[<-e];exact u1,?_⟩;have h5:zsa u=32:=zO;have h6:¬u<2^31:=λ h=>by have:=ztb.2 h;omega
 have h7:(2:Nat)^31=2147483648:=zD;omega
theorem guess_ge {P a t top Y Q V:Nat} (hV:V=a+P*t) (ha:a<P) (hY:P*top<=Y) (hQ:Q=V/Y) (htop:0<top):Q<=t/top:=by
 rw[Nat.le_div_iff_mul_le htop];have hP:0<P:=zO;have hY0:0<Y:=zLM (Nat.mul_pos hP htop) hY;have h1:Q*Y<=V:=by rw[hQ];exact Nat.div_mul_le_self V Y
 have h2:Q*(P*top)<=Q*Y:=zML _ hY
 have h3:P*(Q*top)<P*(t+1):=by
  have e:P*(Q*top)=Q*(P*top):=by rw[Nat.mul_left_comm]
  rw[e,Nat.mul_add,Nat.mul_one];omega
 have:=Nat.lt_of_mul_lt_mul_left h3;omega
theorem top_le {l:List Nat} {N:Nat} (h:l.length=N) (hN:0<N):pw (N-1)*l[N-1]<=val l:=by
 have e:=zjh l (N-1) zO;rw[e];have:=zZL (val (l.take (N-1)));have:=zZL (pw (N-1+1)*val (l.drop (N-1+1)));omega
theorem window_top {p:List Nat} {N:Nat} (h:p.length=N+1) (hN:0<N) (hp:Lm p):val p=val (p.take (N-1))+pw (N-1)*(p[N]' zO*4294967296+p[N-1]' zO)/\val (p.take (N-1))<pw (N-1):=by
 constructor
 ·have e1:=zga p (N-1) zO;have e2:=zga p N zO;rw[zTL zO]at e2;rw[show N-1+1=N from zO]at e1;have e3:pw N=4294967296*pw (N-1):=by rw[<-zrb];congr 1;omega
  rw[e2,e1,e3];generalize p[N]' zO=x;generalize p[N-1]' zO=y;grind
 ·have:=zqf (show Lm (p.take (N-1))from λ x hx=>hp x (List.mem_of_mem_take hx));rwa[zTK,Nat.min_eq_left zO]at this
theorem guess_gt {Y g V Q:Nat} (hY:0<Y) (hQ:Q=V/Y):V<Y*g↔Q<g:=by
 subst hQ;rw[Nat.mul_comm,<-Nat.div_lt_iff_lt_mul hY]
theorem zqj {p R:List Nat} {j z:Nat} (hj:j<p.length) (hz:z=R.getD j 0) (hR:val (R.take (j+1))=val (R.take j)+pw j*R.getD j 0) (hv:val (p.take j)=val (R.take j)):
 val ((p.set j z).take (j+1))=val (R.take (j+1)):=by
 rw[zqb p j z hj,hv,hR,hz]
end Go.Proofs.YtkpedaflofejnaaGreat
