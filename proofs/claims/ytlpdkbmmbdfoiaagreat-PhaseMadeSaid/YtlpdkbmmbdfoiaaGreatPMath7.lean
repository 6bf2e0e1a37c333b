/- Lemmas. -/
import Derived.Test.YtlpdkbmmbdfoiaaGreatPRa4
set_option linter.unusedVariables false
set_option linter.unusedSimpArgs false
namespace Go.Proofs.YtlpdkbmmbdfoiaaGreat
open Go.RowKit
theorem val_drop (a:List Nat) (q:Nat) (h:q<=a.length):val a=val (a.take q)+pw q*val (a.drop q):=by
 have e:=zwc (a.take q) (a.drop q);rw[List.take_append_drop,zTK,Nat.min_eq_left h]at e;exact e
theorem val_drop_div (a:List Nat) (q:Nat) (ha:Lm a) (h:q<=a.length):val (a.drop q)=val a/pw q:=by
 have h1:=zgg (show Lm (a.take q)from λ x hx=>ha x (List.mem_of_mem_take hx));rw[zTK,Nat.min_eq_left h]at h1;rw[val_drop a q h,Nat.add_mul_div_left _ _ (pw_pos q),Nat.div_eq_of_lt h1,Nat.zero_add]
theorem or_hi32 (x y:Nat) (hx:x<4294967296) (hy:y<4294967296):bits .or .u64 (x:Int) ((y:Int)*4294967296)=((y*4294967296+x:Nat):Int):=by
 have h:=or_hi x y 4294967296 32 zD hx zO zD;rw[show((4294967296*y:Nat):Int)=(y:Int)*4294967296 from zO]at h;rw[h];congr 1;omega
theorem getD_drop (a:List Nat) (q k:Nat):(a.drop q).getD k 0=a.getD (q+k) 0:=by simp[List.getD]
theorem zbl (l:List Nat) (j:Nat) (hj:l.length<=j):l.getD j 0=0:=by simp[List.getD,List.getElem?_eq_none hj]
theorem down_step {o d:List Nat} {k i P a b z:Nat} (hP:P*k=4294967296) (ho:o.length=i) (hd:val (d.take (i+1))=val (d.take i)+pw i*a) (ha:a<4294967296) (hz:z=((b*4294967296+a)/P)%4294967296) (c:Nat)
 (hv:P*val o+c=val (d.take i)+pw i*(a%P)):
 P*val (o++ [z])+c=val (d.take (i+1))+pw (i+1)*(b%P):=by
 have h:=rest_limb (b:=b) k hP ha;rw[<-hz]at h;rw[zfk,hd,zyb,ho];have h2:pw i*(P*z+a%P)=pw i*(a+4294967296*(b%P)):=by rw[h]
 generalize a%P=x at *
 generalize b%P=y at *
 grind
theorem down_end {o d:List Nat} {P c:Nat} (hP:0<P) (hc:c<P) (hv:P*val o+c=val d):val o=val d/P:=by
 rw[<-hv,Nat.mul_add_div hP,Nat.div_eq_of_lt hc,Nat.add_zero]
set_option maxHeartbeats 1600000 in
theorem rdown_any (va:Value) (a:List Nat) (n:Nat) (w:World) (ha:ztc w va a) (hl:a.length<=65536) (hn:n<=65536):
 Calls Tryz.prog 217 #[va, .int .i64 n] w (RNat w (val a/2^n)):=by
 obtain⟨i0,hi,hz0,hz1,hz2⟩:=info_parts Tryz.info102;have hA1:=zxh (P:=Tryz.prog) 36 142 i0 Tryz.underlying36 hi hz0 hz1 hz2;clear hi hz0 hz1 hz2;have sa:=ha.sl;have la:=ha.len;obtain⟨q,s,hs,rfl⟩:∃q s,s<32/\n=32*q+s:=⟨n/32,n%32,zML2 _ zD,zO⟩;have hP0:0<2^s:=Nat.pow_pos zD;have hPk:2^s*2^(32-s)=4294967296:=by rw[<-Nat.pow_add,Nat.add_sub_cancel' zO]
 have HP0:=zH hP0;have HPK:=zH hPk;clear hP0 hPk;have hqb:q<=2048:=zO;by_cases hqa:a.length<=q
 ·have hv:val a/2^(32*q+s)=0:=by
   apply Nat.div_eq_of_lt;have h1:=zgg ha.lm;have h2:=pw_le hqa;rw[zho q]at h2;have h3:2^(32*q)<=2^(32*q+s):=Nat.pow_le_pow_right zD zO;omega
  rw[hv];clear hv;generalize hne:32*q+s=n at *
  have e1:(n:Int)/32=(q:Int):=zO;clear hne hA1;go_enter Tryz.func217,Tryz.ntmps217;go_wp2_with fail;go_ret;exact⟨_,rfl,zub.nil _,zBR _ _⟩
 ·have hq1:q<a.length:=zO
  have hfin:∀x:Nat,x=val (a.drop q)/2^s->x=val a/2^(32*q+s):=λ x hx=>by
   rw[hx,val_drop_div a q ha.lm zO,Nat.div_div_eq_div_mul,zho,<-Nat.pow_add]
  have HFIN:=zH hfin;clear hfin;generalize hne:32*q+s=n at *
  have e1:(n:Int)/32=(q:Int):=zO;have e2:(n:Int)%32=(s:Int):=zO;clear hne;go_enter Tryz.func217,Tryz.ntmps217;go_wp2_with fail;clear e1
  go_loopw [5,6] (λ u5 u6 wr=>∃ (k:Nat) (o:List Nat),q+k<=a.length/\u6= .int .i64 ((q+k:Nat):Int)/\zzc wr 142 w.heap.size u5 o/\o.length=k/\
   2^s*val o+(a.getD q 0)%2^s=val ((a.drop q).take k)+pw k*((a.getD (q+k) 0)%2^s)/\Below w.heap.size w wr) (λ _ u6 _=>a.length- (intOf u6).toNat)
  case atStart=>exact⟨0,[],zO,rfl,zzc.nil _ _ _,rfl,by simp[val,zog],zBR _ _⟩
  case round=>
   obtain⟨k,o,hk,rfl,hownr,hol,hval,hbr⟩:=hrel;have HV:=zH hval;have HOL:=zH hol;have HO:zI (o.length+1<=4294967296):=zH zO;clear hval hol;by_cases hkp:q+k<a.length
   ·have hx:=(ha.bw hbr).cell (q+k) hkp;have hx1:=ha.lt (q+k) hkp;have HK1:zI (q+(k+1)<=a.length):=zH zO
    have hX:val ((a.drop q).take (k+1))=val ((a.drop q).take k)+pw k*a[q+k]:=by
     rw[zjh,getD_drop,zqg a _ hkp];try rfl
    have hV1:=HV.o;rw[zqg a _ hkp]at hV1;(have hSTx:=fun(b z:Nat) (hz:z=((b*4294967296+a[q+k])/2^s)%4294967296)=>down_step (o:=o) (d:=a.drop q) (b:=b) (z:=z) HPK.o HOL.o hX hx1 hz _ hV1);by_cases hk2:q+k+1<a.length
    ·have hy:=(ha.bw hbr).cell (q+k+1) hk2;have hy1:=ha.lt (q+k+1) hk2;have hor:=or_hi32 a[q+k] a[q+k+1] hx1 hy1;have hST:=hSTx a[q+k+1] _ rfl;rw[<-zqg a _ hk2]at hST;obtain⟨e,he⟩:∃e,(a.getD (q+k+1) 0)*4294967296+a[q+k]=e:=⟨_,rfl⟩;rw[he]at hST;rw[zqg a _ hk2]at he;rw[he]at hor;have he64:e<18446744073709551616:=zO;have HST:=zH hST;have HZC:=zH (zqr e s);clear hST hSTx hV1 hX HV he;generalize a[q+k]=x at *
     generalize a[q+k+1]=y at *
     go_wp2_with (at_builtin;refine hA1 wr rfl _ _ rfl w.heap.size _ u5 o rfl (by exact hownr) _ (e/2^s%4294967296) HZC.o (zML2 _ zD) rfl (zLT HO.o zD) hbr.size ?_;intro v' w1 hown1 hbel1);go_roundw;(case rel=>exact⟨k+1,_,HK1.o,by go_num,hown1,by simp[HOL.o],HST.o,hbr.trans (hbel1.mono (zLR _))⟩);case measure=>simp[intOf];omega
    ·have hg:a.getD (q+(k+1)) 0=0:=zbl _ _ zO;have hST:=hSTx 0 _ rfl;rw[Nat.zero_mul,Nat.zero_add]at hST;have HZC:=zH (zqr a[q+k] s);have HST:zI (2^s*val (o++ [a[q+k]/2^s%4294967296])+(a.getD q 0)%2^s=val ((a.drop q).take (k+1))+pw (k+1)*((a.getD (q+(k+1)) 0)%2^s)):=zH (by rw[hg];exact hST);clear hST hSTx hV1 hX HV hg;generalize a[q+k]=e at *
     go_wp2_with (at_builtin;refine hA1 wr rfl _ _ rfl w.heap.size _ u5 o rfl (by exact hownr) _ (e/2^s%4294967296) HZC.o (zML2 _ zD) rfl (zLT HO.o zD) hbr.size ?_;intro v' w1 hown1 hbel1);go_roundw;(case rel=>exact⟨k+1,_,HK1.o,by go_num,hown1,by simp[HOL.o],HST.o,hbr.trans (hbel1.mono (zLR _))⟩);case measure=>simp[intOf];omega
   ·have hkl:q+k=a.length:=zO
    have hv2:val o=val (a.drop q)/2^s:=by
     have h:=HV.o;rw[zbl a (q+k) zO,Nat.zero_mod,Nat.mul_zero,Nat.add_zero,zTL (by rw[List.length_drop];omega)]at h;exact down_end HP0.o (zML2 _ HP0.o) h
    have HT:=zta _ _ wr (zcc.of_eq (hownr.nat.natN (by have:=HO.o;omega)) (HFIN.o _ hv2));have HT2:=zH HT;clear HT hv2 hkl;go_wp2_with (go_at_call 106;refine HT2.o.mono ?_;rintro e w2 ⟨r,rfl,hr,hb⟩);go_ret;exact⟨r,rfl,hr,hbr.trans (hb.mono hbr.size)⟩
set_option maxHeartbeats 1600000
theorem rcmp_lt (va vb:Value) (m n:Nat) (w:World) (ha:zcc w va m) (hb:zcc w vb n) (h:m<n):
 Calls Tryz.prog 77 #[va,vb] w λ e w'=>(∃c:Int,e= .returned (.int .i64 c)/\decide (c<0)=true)/\Below w.heap.size w w':=
 (zjf va vb m n w ha hb).mono λ _ _ ⟨a,b⟩=>⟨⟨_,a,by rw[zqi h];rfl⟩,b⟩
theorem rcmp_ge (va vb:Value) (m n:Nat) (w:World) (ha:zcc w va m) (hb:zcc w vb n) (h:n<=m):
 Calls Tryz.prog 77 #[va,vb] w λ e w'=>(∃c:Int,e= .returned (.int .i64 c)/\decide (c<0)=false)/\Below w.heap.size w w':=
 (zjf va vb m n w ha hb).mono λ _ _ ⟨a,b⟩=>⟨⟨_,a,by unfold zbm;rw[zIN zO];split<;>rfl⟩,b⟩
set_option maxRecDepth 100000 in
theorem rdivide_less (va vb:Value) (m n:Nat) (w:World) (ha:zub w va m) (hb:zub w vb n) (h:m<n):
 Calls Tryz.prog 196 #[va,vb] w (RDiv w m n):=by
 have HQ:=zH (Nat.div_eq_of_lt h);have HR:=zH (Nat.mod_eq_of_lt h);go_enter Tryz.func196,Tryz.ntmps196
 go_wp2_with (first
  |(go_at_call 77;refine(rcmp_lt va vb m n _ ha.nat hb.nat h).mono ?_;rintro e w1 ⟨⟨c,rfl,hc⟩,hb1⟩;have ha1:=ha.nat.bw hb1)
  |(go_at_call 106;refine(zta va m _ ha1).mono ?_;rintro e w' ⟨r,rfl,hr,hbl⟩))
 go_ret2;exact⟨_,r,rfl,by rw[HQ.o];exact zub.nil _,by rw[HR.o];exact hr,zaa hb1 hbl⟩
set_option maxRecDepth 100000 in
theorem zxq (va vb:Value) (m d:Nat) (w:World) (ha:zub w va m) (hb:zub w vb d) (h:d<=m) (hn:zha d=1) (hm:zha m<=512):
 Calls Tryz.prog 196 #[va,vb] w (RDiv w m d):=by
 have h1:d<4294967296:=by have:=znc.1 (Nat.le_of_eq hn);simpa [pw]using this
 have h0:0<d:=zPZ λ e=>by rw[e,zvd]at hn;omega
 have hl:zoa d= [d]:=by rw[zne zO,Nat.mod_eq_of_lt h1,Nat.div_eq_of_lt h1,zpc]
 have HC:=fun(w1:World) (h:Below w.heap.size w w1)=>zH (show w1.cell? (ptr vb 0)=some (.int .u32 d)by
  have:=(hb.v.bw h).cell 0 (by rw[hl];simp);simpa [hl]using this)
 have sa:=ha.v.sl;have la:slen va=zha m:=ha.v.len;have sb:=hb.v.sl;have lb:slen vb=1:=by rw[hb.v.len,hl];rfl
 have HM:=zH hm;have hmb:zha m<=4294967296:=zO;have hroom:zha m<=35184372088832:=zO;obtain⟨i0,hi,hz0,hz1,hz2⟩:=info_parts Tryz.info102;have hM:=zme (P:=Tryz.prog) 36 142 i0 Tryz.underlying36 hi hz0 hz1 hz2;clear hi hz0 hz1 hz2 hl hn hm;go_enter Tryz.func196,Tryz.ntmps196
 go_wp2_with (first
  |(go_at_call 77;refine(rcmp_ge va vb m d _ ha.nat hb.nat h).mono ?_;rintro e w1 ⟨⟨c,rfl,hc⟩,hb1⟩)
  |(refine hM _ rfl _ _ rfl w.heap.size _ (zha m) rfl rfl rfl hroom hb1.size ?_;intro v w2 hown hb2 hvb))
 have hbw:=hb1.trans (hb2.mono hb1.size);clear hM hroom hc
 go_loopw [7,8] (λ u7 u8 wr=>∃ (k r:Nat) (q:List Nat),k<=zha m/\u8= .int .i64 ((k:Int)-1)/\u7= .int .u64 r/\r<d/\zzc wr 142 w.heap.size v q/\q.length=zha m/\
  val ((zoa m).drop k)=d*val (q.drop k)+r/\Below w.heap.size w wr) (λ _ u8 _=>(intOf u8+1).toNat)
 case atStart=>exact⟨zha m,0,_,zLR _,by simp,rfl,h0,hown,by simp,by rw[List.drop_of_length_le (show zha m<=zha m from zLR _),List.drop_of_length_le (by simp)];rfl,hbw⟩
 case round=>
  obtain⟨k,r,q,hk,rfl,rfl,hr,hownr,hol,hval,hbr⟩:=hrel;have sv:=hownr.nat.sl;have lv:slen v=zha m:=by rw[hownr.nat.len,hol]
  have HV:=zH hval;have HOL:=zH hol;have hcd:=(HC _ hbr).o;clear hval hol;by_cases hk0:0<k
  ·obtain⟨j,rfl⟩:∃j,k=j+1:=⟨k-1,zO⟩;(have hj1:j<(zoa m).length:=by show j<zha m;omega);have hx:=(ha.v.bw hbr).cell j hj1;have hx1:(zoa m)[j]'hj1<4294967296:=zgc m _ (zGM _);(have hjq:j<q.length:=by rw[HOL.o];omega);have hfz:=hownr.frozen j hjq;have hco:=hownr.nat.cell j hjq;have HS:=zH (zvp (q:=q) (l:=zoa m) (k:=j) (d:=d) (r:=r) hjq (zgk (zoa m) j hj1) h0 HV.o hr);(have hcd2:∀u,(wr.setCell (ptr v j) u).cell? (ptr vb 0)=some (.int .u32 d):=λ u=>(HC _ (hbr.trans (hownr.own.set j (by simpa using hjq) u).2)).o);have HJQ:=zH hjq;generalize (zoa m)[j]'hj1=x at *
   generalize q[j]'hjq=q0 at *
   clear hj1 hjq;obtain⟨b1,b2,b3⟩:=ztn h1 hr hx1;have hor:=or_lo r x zO hx1;generalize r*4294967296+x=t at *
   go_wp2;have ew:=div_limb t d b1;have hset:=hownr.set j HJQ.o (t/d) b1;go_roundw
   case rel=>
    rw[ew];exact⟨j,t%d,_,zO,rfl,rfl,b2,hset.1,by simp[HOL.o],HS.o,hbr.trans hset.2⟩
   case measure=>simp[intOf]
  ·obtain rfl:k=0:=zO;have e:=HV.o;simp only[List.drop_zero]at e;rw[zka]at e;(have hq:val q=m/d:=by rw[e,Nat.mul_add_div h0,Nat.div_eq_of_lt hr,Nat.add_zero]);(have hrr:r=m%d:=by rw[e,Nat.mul_add_mod,Nat.mod_eq_of_lt hr]);have HT:=zH (zta v (m/d) wr (zcc.of_eq (hownr.nat.natN (by have:=HOL.o;omega)) hq));(have HMK:=λ w=>zH (zke r zO w));have HR:=zH hrr;clear hq hrr HV e
   go_wp2_with (first
    |(go_at_call 106;refine HT.o.mono ?_;rintro e w3 ⟨q1,rfl,hq1,hb3⟩)
    |(go_at_call 72;refine(HMK _).o.mono ?_;rintro e w4 ⟨r1,rfl,hr1,hb4⟩))
   go_ret2;exact⟨q1,r1,rfl,hq1.bw hb4,HR.o▸hr1,hbr.trans ((zaa hb3 hb4).mono hbr.size)⟩
end Go.Proofs.YtlpdkbmmbdfoiaaGreat
namespace Go.Proofs.YtlpdkbmmbdfoiaaGreat
theorem nbits_shift (s n:Nat) (h:n≠0):zza (2^s*n)=s+zza n:=by
 have:=nbits_add (a:=0) (k:=s) (t:=n) (Nat.pow_pos zD) h;rwa[Nat.zero_add]at this
theorem norm2 {n s:Nat} (hn:n≠0) (hs:s=32*zha n-zza n):s<32/\zza n<=32*zha n/\zha (2^s*n)=zha n/\∃t,(zoa (2^s*n))[zha n-1]? =some t/\2147483648<=t:=by
 obtain⟨t,h1,h2,h3,h4⟩:=zwk hn;have h0:zha n≠0:=λ e=>hn (zva.1 e)
 have ht:zza t<=32:=zoc.2 h3;have ht0:=zwd.2 h2;have hY:2^s*n≠0:=zMZ (Nat.ne_of_gt (Nat.pow_pos zD)) hn;obtain⟨u,u1,u2,u3,u4⟩:=zwk hY;have hu:zza u<=32:=zoc.2 u3;have hu0:=zwd.2 u2;have hY0:zha (2^s*n)≠0:=λ e=>hY (zva.1 e)
 rw[nbits_shift s n hn]at u4;have e:zha (2^s*n)=zha n:=zO;refine⟨zO,zO,e,u,by rw[<-e];exact u1,?_⟩;have h5:zza u=32:=zO;have h6:¬u<2^31:=λ h=>by have:=zoc.2 h;omega
 have h7:(2:Nat)^31=2147483648:=zD;omega
theorem guess_ge {P a t top Y Q V:Nat} (hV:V=a+P*t) (ha:a<P) (hY:P*top<=Y) (hQ:Q=V/Y) (htop:0<top):Q<=t/top:=by
 rw[Nat.le_div_iff_mul_le htop];have hP:0<P:=zO;have hY0:0<Y:=zLM (Nat.mul_pos hP htop) hY;have h1:Q*Y<=V:=by rw[hQ];exact Nat.div_mul_le_self V Y
 have h2:Q*(P*top)<=Q*Y:=zML _ hY
 have h3:P*(Q*top)<P*(t+1):=by
  have e:P*(Q*top)=Q*(P*top):=by rw[Nat.mul_left_comm]
  rw[e,Nat.mul_add,Nat.mul_one];omega
 have:=Nat.lt_of_mul_lt_mul_left h3;omega
theorem top_le {l:List Nat} {N:Nat} (h:l.length=N) (hN:0<N):pw (N-1)*l[N-1]<=val l:=by
 have e:=zci l (N-1) zO;rw[e];have:=zZL (val (l.take (N-1)));have:=zZL (pw (N-1+1)*val (l.drop (N-1+1)));omega
theorem window_top {p:List Nat} {N:Nat} (h:p.length=N+1) (hN:0<N) (hp:Lm p):val p=val (p.take (N-1))+pw (N-1)*(p[N]' zO*4294967296+p[N-1]' zO)/\val (p.take (N-1))<pw (N-1):=by
 constructor
 ·have e1:=zma p (N-1) zO;have e2:=zma p N zO;rw[zTL zO]at e2;rw[show N-1+1=N from zO]at e1;have e3:pw N=4294967296*pw (N-1):=by rw[<-zyb];congr 1;omega
  rw[e2,e1,e3];generalize p[N]' zO=x;generalize p[N-1]' zO=y;grind
 ·have:=zgg (show Lm (p.take (N-1))from λ x hx=>hp x (List.mem_of_mem_take hx));rwa[zTK,Nat.min_eq_left zO]at this
theorem guess_gt {Y g V Q:Nat} (hY:0<Y) (hQ:Q=V/Y):V<Y*g↔Q<g:=by
 subst hQ;rw[Nat.mul_comm,<-Nat.div_lt_iff_lt_mul hY]
theorem zek {p R:List Nat} {j z:Nat} (hj:j<p.length) (hz:z=R.getD j 0) (hR:val (R.take (j+1))=val (R.take j)+pw j*R.getD j 0) (hv:val (p.take j)=val (R.take j)):
 val ((p.set j z).take (j+1))=val (R.take (j+1)):=by
 rw[zwb p j z hj,hv,hR,hz]
end Go.Proofs.YtlpdkbmmbdfoiaaGreat
