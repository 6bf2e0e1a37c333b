/- Lemmas. -/
import Derived.Test.YtlpdkbmmbdfoiaaGreatERa3
set_option linter.unusedVariables false
set_option linter.unusedSimpArgs false
namespace Go.Proofs.YtlpdkbmmbdfoiaaGreat
set_option maxRecDepth 100000
set_option maxHeartbeats 1600000
open Go.RowKit
theorem zsq (v:Value) (n:Nat) (w:World) (h:zob w v n):
 Calls Tryz.prog 207 #[v] w fun e w'=>e= .returned (.int .i64 (zua n))/\Below w.heap.size w w':=by
 have HT:=zH (zra v n w h)
 have hln:=h.len_le
 by_cases hn:n=0
 ·have hz:zda n=0:=zta.2 hn
  have hb:zua n=0:=zyh.2 hn
  have HB:=zH hb
  clear hln hn hb
  go_enter Tryz.func207,Tryz.ntmps207
  go_wp2_with (go_at_call 106;refine HT.out.mono ?_;rintro e w1 ⟨r,rfl,hr,hb⟩;have s1:=hr.v.sl;have s2:slen r=zda n:=hr.v.len)
  go_ret
  exact⟨by rw[HB.out];rfl,hb⟩
 ·obtain⟨t,ht1,ht2,ht3,ht4⟩:=zdi hn
  have hnl:0<zda n:=by have :zda n≠0:=fun h'=>hn (zta.1 h');omega
  obtain⟨htl,hte⟩:=List.getElem?_eq_some_iff.1 ht1
  have HC:=fun(w1:World) (r:Value) (hr:zjb w1 r n)=>zH ((hr.v.cell (zda n-1) (by show zda n-1<zda n;omega)).trans (congrArg (fun x:Nat=>some (Value.int .u32 (x:Nat))) hte))
  have HT4:=zH ht4
  have htb:zua t<=32:=zwb.2 ht3
  have HB:=zH htb
  clear hn ht1 ht2 ht4 htl hte htb
  obtain⟨g,hg⟩:∃g,zda n=g+1:=⟨zda n-1,by omega⟩
  have hg1:zda n-1=g:=by omega
  rw[hg1]at HC HT4
  rw[hg]at hln
  have HG:=zH hg
  clear hg hg1 hnl
  go_enter Tryz.func207,Tryz.ntmps207
  go_wp2_with (go_at_call 106;refine HT.out.mono ?_;rintro e w1 ⟨r,rfl,hr,hb⟩;have s1:=hr.v.sl;have s2:slen r=g+1:=hr.v.len.trans HG.out;have s3:=(HC _ _ hr).out;clear HC;have s4:(((g:Int)+1)==0)=false:=by simp;omega)
  go_loopw [3,4] (fun u3 u4 wr=>∃ (k y:Nat),u3= .int .i64 k/\u4= .int .u32 y/\y<4294967296/\k+zua y=32*g+zua t/\wr=w1) (fun _ u4 _=>(intOf u4).toNat)
  case atStart=>exact⟨32*g,t,by go_num,rfl,ht3,rfl,rfl⟩
  case round=>
   obtain⟨k,y,rfl,rfl,hy,hky,rfl⟩:=hrel
   have hk:k<=137438953504:=by have:=HB.out;omega
   by_cases hy0:0<y
   ·have HK:=zH hky
    clear hky
    have hy2:y/2<y:=by omega
    go_wp2
    go_roundw
    case rel=>exact⟨k+1,y/2,by go_num,by go_num,by omega,by have:=HK.out;have:=zom (n:=y) (by omega);omega,trivial⟩
    case measure=>simp[intOf];omega
   ·obtain rfl:y=0:=by omega
    have hfin:zua n=k:=by rw[HT4.out,<-hky,zbj,Nat.add_zero]
    have HF:=zH hfin
    clear hfin hky hy0
    go_wp2
    go_ret
    exact⟨by rw[HF.out];rfl,hb⟩
theorem rup_step {o a:List Nat} {q k c x P t:Nat} (ho:o.length=q+k) (ha:val (a.take (k+1))=val (a.take k)+pw k*x) (ht:P*x+c=t)
 (hv:val o+pw (q+k)*c=pw q*(P*val (a.take k))):
 val (o++ [t%4294967296])+pw (q+(k+1))*(t/4294967296)=pw q*(P*val (a.take (k+1))):=by
 rw[zmh,ha,ho,show q+(k+1)=(q+k)+1 from rfl,zmb]
 have h:t%4294967296+4294967296*(t/4294967296)=t:=by omega
 generalize t%4294967296=z at *
 generalize t/4294967296=d at *
 have e:=pw_add q k
 generalize pw (q+k)=p at *
 subst e
 subst ht
 grind
theorem or_up2 (c x s:Nat) (hs:s<32) (hc:c<2^s) (hx:x<4294967296):bits .or .u64 (IntKind.u64.wrap ((x:Int)*2^s)) (c:Int)=((2^s*x+c:Nat):Int):=by
 have hP:2^s<=2^31:=Nat.pow_le_pow_right (by decide) (by omega)
 have h1:2^s*x<=2^31*4294967295:=Nat.mul_le_mul hP (by omega)
 have h2:((x:Int)*2^s)=((2^s*x:Nat):Int):=by rw[Int.natCast_mul,Int.natCast_pow];exact Int.mul_comm _ _
 rw[h2,zyb]
 have h3:((2^s*x:Nat):Int)%18446744073709551616=((2^s*x:Nat):Int):=by omega
 rw[h3,u64_or_nat (2^s*x) c (by omega) (by omega),zzk x c s hc]
theorem rup_own (va:Value) (a:List Nat) (n:Nat) (w:World) (ha:zfc w va a) (hl:a.length<=65536) (hn:n<=65536):
 Calls Tryz.prog 216 #[va, .int .i64 n] w (RNatO w (2^n*val a)):=by
 obtain⟨i0,hi,hz0,hz1,hz2⟩:=info_parts Tryz.info102
 have hM:=zmd (P:=Tryz.prog) 36 142 i0 Tryz.underlying36 hi hz0 hz1 hz2
 have hA1:=zuf (P:=Tryz.prog) 36 142 i0 Tryz.underlying36 hi hz0 hz1 hz2
 clear hi hz0 hz1 hz2
 have sa:=ha.sl
 have la:=ha.len
 obtain⟨q,s,hs,rfl⟩:∃q s,s<32/\n=32*q+s:=⟨n/32,n%32,Nat.mod_lt _ (by decide),by omega⟩
 by_cases h0:a.length=0
 ·have e:a= []:=List.eq_nil_of_length_eq_zero h0
  subst e
  clear hM hA1
  go_enter Tryz.func216,Tryz.ntmps216
  go_wp2_with fail
  go_ret
  refine⟨_,rfl,?_,?_,Below.refl _ _⟩
  ·simp only[val,Nat.mul_zero,zbc];exact zcc.nil _ _ _
  ·simp only[val,Nat.mul_zero,zzc];omega
 ·have h0b:(((a.length:Nat):Int)==0)=false:=by simpa using h0
  have hv:2^(32*q+s)*val a=pw q*(2^s*val a):=by rw[Nat.pow_add,zuk,Nat.mul_assoc]
  have HV0:=zH hv
  have hqb:q<=2048:=by omega
  generalize hne:32*q+s=n at *
  have e1:(n:Int)/32=(q:Int):=by omega
  have e2:(n:Int)%32=(s:Int):=by omega
  clear hv hne h0
  go_enter Tryz.func216,Tryz.ntmps216
  go_wp2_with (refine hM _ rfl _ _ rfl w.heap.size _ q rfl rfl rfl (by omega) (zLR _) ?_;intro v w1 hown hb1 hvb)
  clear hM e1
  go_loopw [5,6,7] (fun u5 u6 u7 wr=>∃ (k c:Nat) (o:List Nat),k<=a.length/\u7= .int .i64 k/\u6= .int .u64 c/\c<2^s/\zcc wr 142 w.heap.size u5 o/\o.length=q+k/\
   val o+pw (q+k)*c=pw q*(2^s*val (a.take k))/\Below w.heap.size w wr) (fun _ _ u7 _=>a.length- (intOf u7).toNat)
  case atStart=>exact⟨0,0,_,zZL _,rfl,rfl,Nat.pow_pos (by decide),hown,by simp,by simp[val,znf],hb1⟩
  case round=>
   obtain⟨k,c,o,hk,rfl,rfl,hc,hownr,hol,hval,hbr⟩:=hrel
   have HV:=zH hval
   have HOL:=zH hol
   have HO:Hid (o.length+1<=4294967296):=zH (by omega)
   clear hval hol hown hb1
   by_cases hkp:k<a.length
   ·have hx:=(ha.below hbr).cell k hkp
    have hx1:=ha.lt k hkp
    have HX:=zH (zia a k hkp)
    generalize a[k]=x at *
    have hor:=or_up2 c x s hs hc hx1
    obtain⟨b1,b2⟩:=up_bound c x s hs hc hx1
    have HT:=fun t=>zH (rup_step (o:=o) (a:=a) (q:=q) (k:=k) (c:=c) (x:=x) (P:=2^s) (t:=t) HOL.out HX.out)
    generalize hte:2^s*x+c=t at *
    have HTE:=zH hte
    clear hte
    go_wp2_with (at_builtin;refine hA1 wr rfl _ _ rfl w.heap.size _ u5 o rfl (by exact hownr) _ (t%4294967296) (by omega) (by omega) rfl (zLT HO.out (by decide)) hbr.size ?_;intro v' w1 hown1 hbel1)
    go_roundw
    case rel=>exact⟨k+1,t/4294967296,_,by omega,by go_num,by go_num,b2,hown1,by simp[HOL.out,Nat.add_assoc],(HT t).out rfl HV.out,hbr.trans (hbel1.mono (zLR _))⟩
    case measure=>simp[intOf];omega
   ·obtain rfl:k=a.length:=by omega
    have hP:2^s<=2^31:=Nat.pow_le_pow_right (by decide) (by omega)
    have hc1:c<4294967296:=by omega
    have hv2:val (o++ [c])=2^n*val a:=by
     rw[zmh,HOL.out,HV.out,List.take_length,HV0.out]
    have HV2:=zH hv2
    have HC1:=zH hc1
    clear hv2 hP hc1 hc
    go_wp2_with (first
     |(at_builtin;refine hA1 wr rfl _ _ rfl w.heap.size _ u5 o rfl (by exact hownr) _ c (by have:=HC1.out;omega) HC1.out rfl (zLT HO.out (by decide)) hbr.size ?_;intro v' w1 hown1 hbel1;have hbw:=hbr.trans hbel1;have HT:=zH (zjk v' _ w1 (zob.of_eq (hown1.nat.natN (by have:=HO.out;simp;omega)) HV2.out)))
     |(go_at_call 106;refine HT.out.mono ?_;rintro e w2 ⟨r,rfl,hr,hr2,hb⟩))
    go_ret
    exact⟨r,rfl,hr.mono hbw.size,hr2,hbw.trans (hb.mono hbw.size)⟩
theorem rup_any (va:Value) (a:List Nat) (n:Nat) (w:World) (ha:zfc w va a) (hl:a.length<=65536) (hn:n<=65536):
 Calls Tryz.prog 216 #[va, .int .i64 n] w (RNat w (2^n*val a)):=(rup_own va a n w ha hl hn).mono fun _ _ h=>h.nat
theorem val_drop (a:List Nat) (q:Nat) (h:q<=a.length):val a=val (a.take q)+pw q*val (a.drop q):=by
 have e:=zac (a.take q) (a.drop q)
 rw[List.take_append_drop,List.length_take,Nat.min_eq_left h]at e
 exact e
theorem val_drop_div (a:List Nat) (q:Nat) (ha:Lm a) (h:q<=a.length):val (a.drop q)=val a/pw q:=by
 have h1:=zoe (show Lm (a.take q)from fun x hx=>ha x (List.mem_of_mem_take hx))
 rw[List.length_take,Nat.min_eq_left h]at h1
 rw[val_drop a q h,Nat.add_mul_div_left _ _ (pw_pos q),Nat.div_eq_of_lt h1,Nat.zero_add]
theorem or_hi32 (x y:Nat) (hx:x<4294967296) (hy:y<4294967296):bits .or .u64 (x:Int) ((y:Int)*4294967296)=((y*4294967296+x:Nat):Int):=by
 have h:=or_hi x y 4294967296 32 (by decide) hx (by omega) (by decide)
 rw[show((4294967296*y:Nat):Int)=(y:Int)*4294967296 from by omega]at h
 rw[h];congr 1;omega
theorem getD_drop (a:List Nat) (q k:Nat):(a.drop q).getD k 0=a.getD (q+k) 0:=by simp[List.getD]
theorem zhi (l:List Nat) (j:Nat) (hj:l.length<=j):l.getD j 0=0:=by simp[List.getD,List.getElem?_eq_none hj]
theorem down_step {o d:List Nat} {k i P a b z:Nat} (hP:P*k=4294967296) (ho:o.length=i) (hd:val (d.take (i+1))=val (d.take i)+pw i*a) (ha:a<4294967296) (hz:z=((b*4294967296+a)/P)%4294967296) (c:Nat)
 (hv:P*val o+c=val (d.take i)+pw i*(a%P)):
 P*val (o++ [z])+c=val (d.take (i+1))+pw (i+1)*(b%P):=by
 have h:=rest_limb (b:=b) k hP ha
 rw[<-hz]at h
 rw[zmh,hd,zmb,ho]
 have h2:pw i*(P*z+a%P)=pw i*(a+4294967296*(b%P)):=by rw[h]
 generalize a%P=x at *
 generalize b%P=y at *
 grind
theorem down_end {o d:List Nat} {P c:Nat} (hP:0<P) (hc:c<P) (hv:P*val o+c=val d):val o=val d/P:=by
 rw[<-hv,Nat.mul_add_div hP,Nat.div_eq_of_lt hc,Nat.add_zero]
set_option maxHeartbeats 1600000 in
theorem rdown_any (va:Value) (a:List Nat) (n:Nat) (w:World) (ha:zfc w va a) (hl:a.length<=65536) (hn:n<=65536):
 Calls Tryz.prog 217 #[va, .int .i64 n] w (RNat w (val a/2^n)):=by
 obtain⟨i0,hi,hz0,hz1,hz2⟩:=info_parts Tryz.info102
 have hA1:=zuf (P:=Tryz.prog) 36 142 i0 Tryz.underlying36 hi hz0 hz1 hz2
 clear hi hz0 hz1 hz2
 have sa:=ha.sl
 have la:=ha.len
 obtain⟨q,s,hs,rfl⟩:∃q s,s<32/\n=32*q+s:=⟨n/32,n%32,Nat.mod_lt _ (by decide),by omega⟩
 have hP0:0<2^s:=Nat.pow_pos (by decide)
 have hPk:2^s*2^(32-s)=4294967296:=by rw[<-Nat.pow_add,Nat.add_sub_cancel' (by omega)]
 have HP0:=zH hP0
 have HPK:=zH hPk
 clear hP0 hPk
 have hqb:q<=2048:=by omega
 by_cases hqa:a.length<=q
 ·have hv:val a/2^(32*q+s)=0:=by
   apply Nat.div_eq_of_lt
   have h1:=zoe ha.lm
   have h2:=zzu hqa
   rw[zuk q]at h2
   have h3:2^(32*q)<=2^(32*q+s):=Nat.pow_le_pow_right (by decide) (by omega)
   omega
  rw[hv]
  clear hv
  generalize hne:32*q+s=n at *
  have e1:(n:Int)/32=(q:Int):=by omega
  clear hne hA1
  go_enter Tryz.func217,Tryz.ntmps217
  go_wp2_with fail
  go_ret
  exact⟨_,rfl,zjb.nil _,Below.refl _ _⟩
 ·have hq1:q<a.length:=by omega
  have hfin:∀x:Nat,x=val (a.drop q)/2^s->x=val a/2^(32*q+s):=fun x hx=>by
   rw[hx,val_drop_div a q ha.lm (by omega),Nat.div_div_eq_div_mul,zuk,<-Nat.pow_add]
  have HFIN:=zH hfin
  clear hfin
  generalize hne:32*q+s=n at *
  have e1:(n:Int)/32=(q:Int):=by omega
  have e2:(n:Int)%32=(s:Int):=by omega
  clear hne
  go_enter Tryz.func217,Tryz.ntmps217
  go_wp2_with fail
  clear e1
  go_loopw [5,6] (fun u5 u6 wr=>∃ (k:Nat) (o:List Nat),q+k<=a.length/\u6= .int .i64 ((q+k:Nat):Int)/\zcc wr 142 w.heap.size u5 o/\o.length=k/\
   2^s*val o+(a.getD q 0)%2^s=val ((a.drop q).take k)+pw k*((a.getD (q+k) 0)%2^s)/\Below w.heap.size w wr) (fun _ u6 _=>a.length- (intOf u6).toNat)
  case atStart=>exact⟨0,[],by omega,rfl,zcc.nil _ _ _,rfl,by simp[val,zye],Below.refl _ _⟩
  case round=>
   obtain⟨k,o,hk,rfl,hownr,hol,hval,hbr⟩:=hrel
   have HV:=zH hval
   have HOL:=zH hol
   have HO:Hid (o.length+1<=4294967296):=zH (by omega)
   clear hval hol
   by_cases hkp:q+k<a.length
   ·have hx:=(ha.below hbr).cell (q+k) hkp
    have hx1:=ha.lt (q+k) hkp
    have HK1:Hid (q+(k+1)<=a.length):=zH (by omega)
    have hX:val ((a.drop q).take (k+1))=val ((a.drop q).take k)+pw k*a[q+k]:=by
     rw[zmf,getD_drop,zaf a _ hkp]
     try rfl
    have hV1:=HV.out
    rw[zaf a _ hkp]at hV1
    have hSTx:=fun(b z:Nat) (hz:z=((b*4294967296+a[q+k])/2^s)%4294967296)=>down_step (o:=o) (d:=a.drop q) (b:=b) (z:=z) HPK.out HOL.out hX hx1 hz _ hV1
    by_cases hk2:q+k+1<a.length
    ·have hy:=(ha.below hbr).cell (q+k+1) hk2
     have hy1:=ha.lt (q+k+1) hk2
     have hor:=or_hi32 a[q+k] a[q+k+1] hx1 hy1
     have hST:=hSTx a[q+k+1] _ rfl
     rw[<-zaf a _ hk2]at hST
     obtain⟨e,he⟩:∃e,(a.getD (q+k+1) 0)*4294967296+a[q+k]=e:=⟨_,rfl⟩
     rw[he]at hST
     rw[zaf a _ hk2]at he
     rw[he]at hor
     have he64:e<18446744073709551616:=by omega
     have HST:=zH hST
     have HZC:=zH (zxn e s)
     clear hST hSTx hV1 hX HV he
     generalize a[q+k]=x at *
     generalize a[q+k+1]=y at *
     go_wp2_with (at_builtin;refine hA1 wr rfl _ _ rfl w.heap.size _ u5 o rfl (by exact hownr) _ (e/2^s%4294967296) HZC.out (Nat.mod_lt _ (by decide)) rfl (zLT HO.out (by decide)) hbr.size ?_;intro v' w1 hown1 hbel1)
     go_roundw
     case rel=>exact⟨k+1,_,HK1.out,by go_num,hown1,by simp[HOL.out],HST.out,hbr.trans (hbel1.mono (zLR _))⟩
     case measure=>simp[intOf];omega
    ·have hg:a.getD (q+(k+1)) 0=0:=zhi _ _ (by omega)
     have hST:=hSTx 0 _ rfl
     rw[Nat.zero_mul,Nat.zero_add]at hST
     have HZC:=zH (zxn a[q+k] s)
     have HST:Hid (2^s*val (o++ [a[q+k]/2^s%4294967296])+(a.getD q 0)%2^s=val ((a.drop q).take (k+1))+pw (k+1)*((a.getD (q+(k+1)) 0)%2^s)):=zH (by rw[hg];exact hST)
     clear hST hSTx hV1 hX HV hg
     generalize a[q+k]=e at *
     go_wp2_with (at_builtin;refine hA1 wr rfl _ _ rfl w.heap.size _ u5 o rfl (by exact hownr) _ (e/2^s%4294967296) HZC.out (Nat.mod_lt _ (by decide)) rfl (zLT HO.out (by decide)) hbr.size ?_;intro v' w1 hown1 hbel1)
     go_roundw
     case rel=>exact⟨k+1,_,HK1.out,by go_num,hown1,by simp[HOL.out],HST.out,hbr.trans (hbel1.mono (zLR _))⟩
     case measure=>simp[intOf];omega
   ·have hkl:q+k=a.length:=by omega
    have hv2:val o=val (a.drop q)/2^s:=by
     have h:=HV.out
     rw[zhi a (q+k) (by omega),Nat.zero_mod,Nat.mul_zero,Nat.add_zero,List.take_of_length_le (by rw[List.length_drop];omega)]at h
     exact down_end HP0.out (Nat.mod_lt _ HP0.out) h
    have HT:=zra _ _ wr (zob.of_eq (hownr.nat.natN (by have:=HO.out;omega)) (HFIN.out _ hv2))
    have HT2:=zH HT
    clear HT hv2 hkl
    go_wp2_with (go_at_call 106;refine HT2.out.mono ?_;rintro e w2 ⟨r,rfl,hr,hb⟩)
    go_ret
    exact⟨r,rfl,hr,hbr.trans (hb.mono hbr.size)⟩
set_option maxHeartbeats 1600000
theorem rcmp_lt (va vb:Value) (m n:Nat) (w:World) (ha:zob w va m) (hb:zob w vb n) (h:m<n):
 Calls Tryz.prog 77 #[va,vb] w fun e w'=>(∃c:Int,e= .returned (.int .i64 c)/\decide (c<0)=true)/\Below w.heap.size w w':=
 (zee va vb m n w ha hb).mono fun _ _ ⟨a,b⟩=>⟨⟨_,a,by rw[zkg h];rfl⟩,b⟩
theorem rcmp_ge (va vb:Value) (m n:Nat) (w:World) (ha:zob w va m) (hb:zob w vb n) (h:n<=m):
 Calls Tryz.prog 77 #[va,vb] w fun e w'=>(∃c:Int,e= .returned (.int .i64 c)/\decide (c<0)=false)/\Below w.heap.size w w':=
 (zee va vb m n w ha hb).mono fun _ _ ⟨a,b⟩=>⟨⟨_,a,by unfold zfj;rw[if_neg (by omega)];split<;>rfl⟩,b⟩
theorem rdivide_less (va vb:Value) (m n:Nat) (w:World) (ha:zjb w va m) (hb:zjb w vb n) (h:m<n):
 Calls Tryz.prog 196 #[va,vb] w (RDiv w m n):=by
 have HQ:=zH (Nat.div_eq_of_lt h)
 have HR:=zH (Nat.mod_eq_of_lt h)
 go_enter Tryz.func196,Tryz.ntmps196
 go_wp2_with (first
  |(go_at_call 77;refine(rcmp_lt va vb m n _ ha.nat hb.nat h).mono ?_;rintro e w1 ⟨⟨c,rfl,hc⟩,hb1⟩;have ha1:=ha.nat.below hb1)
  |(go_at_call 106;refine(zra va m _ ha1).mono ?_;rintro e w' ⟨r,rfl,hr,hbl⟩))
 go_ret2
 exact⟨_,r,rfl,by rw[HQ.out];exact zjb.nil _,by rw[HR.out];exact hr,zaa hb1 hbl⟩
theorem zfn (va vb:Value) (m d:Nat) (w:World) (ha:zjb w va m) (hb:zjb w vb d) (h:d<=m) (hn:zda d=1) (hm:zda m<=512):
 Calls Tryz.prog 196 #[va,vb] w (RDiv w m d):=by
 have h1:d<4294967296:=by have:=zzb.1 (Nat.le_of_eq hn);simpa [pw]using this
 have h0:0<d:=Nat.pos_of_ne_zero fun e=>by rw[e,zzc]at hn;omega
 have hl:zla d= [d]:=by rw[zxd (by omega),Nat.mod_eq_of_lt h1,Nat.div_eq_of_lt h1,zbc]
 have HC:=fun(w1:World) (h:Below w.heap.size w w1)=>zH (show w1.cell? (ptr vb 0)=some (.int .u32 d)by
  have:=(hb.v.below h).cell 0 (by rw[hl];simp)
  simpa [hl]using this)
 have sa:=ha.v.sl
 have la:slen va=zda m:=ha.v.len
 have sb:=hb.v.sl
 have lb:slen vb=1:=by rw[hb.v.len,hl];rfl
 have HM:=zH hm
 have hmb:zda m<=4294967296:=by omega
 have hroom:zda m<=35184372088832:=by omega
 obtain⟨i0,hi,hz0,hz1,hz2⟩:=info_parts Tryz.info102
 have hM:=zmd (P:=Tryz.prog) 36 142 i0 Tryz.underlying36 hi hz0 hz1 hz2
 clear hi hz0 hz1 hz2 hl hn hm
 go_enter Tryz.func196,Tryz.ntmps196
 go_wp2_with (first
  |(go_at_call 77;refine(rcmp_ge va vb m d _ ha.nat hb.nat h).mono ?_;rintro e w1 ⟨⟨c,rfl,hc⟩,hb1⟩)
  |(refine hM _ rfl _ _ rfl w.heap.size _ (zda m) rfl rfl rfl hroom hb1.size ?_;intro v w2 hown hb2 hvb))
 have hbw:=hb1.trans (hb2.mono hb1.size)
 clear hM hroom hc
 go_loopw [7,8] (fun u7 u8 wr=>∃ (k r:Nat) (q:List Nat),k<=zda m/\u8= .int .i64 ((k:Int)-1)/\u7= .int .u64 r/\r<d/\zcc wr 142 w.heap.size v q/\q.length=zda m/\
  val ((zla m).drop k)=d*val (q.drop k)+r/\Below w.heap.size w wr) (fun _ u8 _=>(intOf u8+1).toNat)
 case atStart=>exact⟨zda m,0,_,zLR _,by simp,rfl,h0,hown,by simp,by rw[List.drop_of_length_le (show zda m<=zda m from zLR _),List.drop_of_length_le (by simp)];rfl,hbw⟩
 case round=>
  obtain⟨k,r,q,hk,rfl,rfl,hr,hownr,hol,hval,hbr⟩:=hrel
  have sv:=hownr.nat.sl
  have lv:slen v=zda m:=by rw[hownr.nat.len,hol]
  have HV:=zH hval
  have HOL:=zH hol
  have hcd:=(HC _ hbr).out
  clear hval hol
  by_cases hk0:0<k
  ·obtain⟨j,rfl⟩:∃j,k=j+1:=⟨k-1,by omega⟩
   have hj1:j<(zla m).length:=by show j<zda m;omega
   have hx:=(ha.v.below hbr).cell j hj1
   have hx1:(zla m)[j]'hj1<4294967296:=zrb m _ (zGM _)
   have hjq:j<q.length:=by rw[HOL.out];omega
   have hfz:=hownr.frozen j hjq
   have hco:=hownr.nat.cell j hjq
   have HS:=zH (zjm (q:=q) (l:=zla m) (k:=j) (d:=d) (r:=r) hjq (znh (zla m) j hj1) h0 HV.out hr)
   have hcd2:∀u,(wr.setCell (ptr v j) u).cell? (ptr vb 0)=some (.int .u32 d):=fun u=>(HC _ (hbr.trans (hownr.own.set j (by simpa using hjq) u).2)).out
   have HJQ:=zH hjq
   generalize (zla m)[j]'hj1=x at *
   generalize q[j]'hjq=q0 at *
   clear hj1 hjq
   obtain⟨b1,b2,b3⟩:=zgk h1 hr hx1
   have hor:=or_lo r x (by omega) hx1
   generalize r*4294967296+x=t at *
   go_wp2
   have ew:=div_limb t d b1
   have hset:=hownr.set j HJQ.out (t/d) b1
   go_roundw
   case rel=>
    rw[ew]
    exact⟨j,t%d,_,by omega,rfl,rfl,b2,hset.1,by simp[HOL.out],HS.out,hbr.trans hset.2⟩
   case measure=>simp[intOf]
  ·obtain rfl:k=0:=by omega
   have e:=HV.out
   simp only[List.drop_zero]at e
   rw[zha]at e
   have hq:val q=m/d:=by rw[e,Nat.mul_add_div h0,Nat.div_eq_of_lt hr,Nat.add_zero]
   have hrr:r=m%d:=by rw[e,Nat.mul_add_mod,Nat.mod_eq_of_lt hr]
   have HT:=zH (zra v (m/d) wr (zob.of_eq (hownr.nat.natN (by have:=HOL.out;omega)) hq))
   have HMK:=fun w=>zH (zkd r (by omega) w)
   have HR:=zH hrr
   clear hq hrr HV e
   go_wp2_with (first
    |(go_at_call 106;refine HT.out.mono ?_;rintro e w3 ⟨q1,rfl,hq1,hb3⟩)
    |(go_at_call 72;refine(HMK _).out.mono ?_;rintro e w4 ⟨r1,rfl,hr1,hb4⟩))
   go_ret2
   exact⟨q1,r1,rfl,hq1.below hb4,HR.out▸hr1,hbr.trans ((zaa hb3 hb4).mono hbr.size)⟩
end Go.Proofs.YtlpdkbmmbdfoiaaGreat
namespace Go.Proofs.YtlpdkbmmbdfoiaaGreat
theorem nbits_shift (s n:Nat) (h:n≠0):zua (2^s*n)=s+zua n:=by
 have:=nbits_add (a:=0) (k:=s) (t:=n) (Nat.pow_pos (by decide)) h
 rwa[Nat.zero_add]at this
theorem norm2 {n s:Nat} (hn:n≠0) (hs:s=32*zda n-zua n):s<32/\zua n<=32*zda n/\zda (2^s*n)=zda n/\∃t,(zla (2^s*n))[zda n-1]? =some t/\2147483648<=t:=by
 obtain⟨t,h1,h2,h3,h4⟩:=zdi hn
 have h0:zda n≠0:=fun e=>hn (zta.1 e)
 have ht:zua t<=32:=zwb.2 h3
 have ht0:=zld.2 h2
 have hY:2^s*n≠0:=Nat.mul_ne_zero (Nat.ne_of_gt (Nat.pow_pos (by decide))) hn
 obtain⟨u,u1,u2,u3,u4⟩:=zdi hY
 have hu:zua u<=32:=zwb.2 u3
 have hu0:=zld.2 u2
 have hY0:zda (2^s*n)≠0:=fun e=>hY (zta.1 e)
 rw[nbits_shift s n hn]at u4
 have e:zda (2^s*n)=zda n:=by omega
 refine⟨by omega,by omega,e,u,by rw[<-e];exact u1,?_⟩
 have h5:zua u=32:=by omega
 have h6:¬u<2^31:=fun h=>by have:=zwb.2 h;omega
 have h7:(2:Nat)^31=2147483648:=by decide
 omega
theorem guess_ge {P a t top Y Q V:Nat} (hV:V=a+P*t) (ha:a<P) (hY:P*top<=Y) (hQ:Q=V/Y) (htop:0<top):Q<=t/top:=by
 rw[Nat.le_div_iff_mul_le htop]
 have hP:0<P:=by omega
 have hY0:0<Y:=zLM (Nat.mul_pos hP htop) hY
 have h1:Q*Y<=V:=by rw[hQ];exact Nat.div_mul_le_self V Y
 have h2:Q*(P*top)<=Q*Y:=zML _ hY
 have h3:P*(Q*top)<P*(t+1):=by
  have e:P*(Q*top)=Q*(P*top):=by rw[Nat.mul_left_comm]
  rw[e,Nat.mul_add,Nat.mul_one];omega
 have:=Nat.lt_of_mul_lt_mul_left h3
 omega
theorem top_le {l:List Nat} {N:Nat} (h:l.length=N) (hN:0<N):pw (N-1)*l[N-1]<=val l:=by
 have e:=zag l (N-1) (by omega)
 rw[e]
 have:=zZL (val (l.take (N-1)))
 have:=zZL (pw (N-1+1)*val (l.drop (N-1+1)))
 omega
theorem window_top {p:List Nat} {N:Nat} (h:p.length=N+1) (hN:0<N) (hp:Lm p):val p=val (p.take (N-1))+pw (N-1)*(p[N]'(by omega)*4294967296+p[N-1]'(by omega))/\val (p.take (N-1))<pw (N-1):=by
 constructor
 ·have e1:=zia p (N-1) (by omega)
  have e2:=zia p N (by omega)
  rw[List.take_of_length_le (by omega)]at e2
  rw[show N-1+1=N from by omega]at e1
  have e3:pw N=4294967296*pw (N-1):=by rw[<-zmb];congr 1;omega
  rw[e2,e1,e3]
  generalize p[N]'(by omega)=x
  generalize p[N-1]'(by omega)=y
  grind
 ·have:=zoe (show Lm (p.take (N-1))from fun x hx=>hp x (List.mem_of_mem_take hx))
  rwa[List.length_take,Nat.min_eq_left (by omega)]at this
theorem guess_gt {Y g V Q:Nat} (hY:0<Y) (hQ:Q=V/Y):V<Y*g↔Q<g:=by
 subst hQ
 rw[Nat.mul_comm,<-Nat.div_lt_iff_lt_mul hY]
theorem zlh {p R:List Nat} {j z:Nat} (hj:j<p.length) (hz:z=R.getD j 0) (hR:val (R.take (j+1))=val (R.take j)+pw j*R.getD j 0) (hv:val (p.take j)=val (R.take j)):
 val ((p.set j z).take (j+1))=val (R.take (j+1)):=by
 rw[zkb p j z hj,hv,hR,hz]
end Go.Proofs.YtlpdkbmmbdfoiaaGreat
