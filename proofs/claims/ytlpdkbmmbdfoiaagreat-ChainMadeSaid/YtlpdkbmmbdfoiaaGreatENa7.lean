/- Lemmas. -/
import Derived.Test.YtlpdkbmmbdfoiaaGreatENa2
set_option linter.unusedVariables false
set_option linter.unusedSimpArgs false
namespace Go.Proofs.YtlpdkbmmbdfoiaaGreat
set_option maxHeartbeats 800000
open Go.RowKit
theorem zal (w:World) (e:TypeId) (x y:Nat) (hx:x<4294967296) (hy:y<4294967296):
 zfc (w.alloc (.cells #[.int .u32 (x:Nat), .int .u32 (y:Nat)] e)) (.slice (some ⟨w.heap.size,0,none⟩) 2 2) [x,y]:=by
 refine⟨⟨_,2,2,rfl,zLR _,by simp[maxLen],fun e=>by cases e⟩,rfl,fun j hj=> ?_,fun z hz=> ?_⟩
 ·have :j=0\/j=1:=by simp at hj;omega
  rcases this with rfl | rfl<;>simp[ptr,base,Addr.add]
 ·simp at hz;omega
theorem zxj (n:Nat) (hn:n<18446744073709551616) (w:World):
 Calls Tryz.prog 187 #[.int .u64 n] w (RNat w n):=by
 have HN:=zal w 142 (n%4294967296) (n/4294967296) (by omega) (by omega)
 rw[show((n%4294967296:Nat):Int)=(n:Int)%4294967296 from by omega,show((n/4294967296:Nat):Int)=(n:Int)/4294967296 from by omega]at HN
 have hv:val [n%4294967296,n/4294967296]=n:=by simp[val];omega
 have HL:=zH (zdb _ _ _ (HN.natN (by simp)))
 have HC:=zH (HN.can (by simp))
 have HV:=zH hv
 have hle:zda n<=2:=zzb.2 (by simp[pw];omega)
 have HB:=zH ((Below.refl w.heap.size w).alloc (zLR _) (.cells #[.int .u32 ((n:Int)%4294967296), .int .u32 ((n:Int)/4294967296)] 142))
 clear HN hv
 go_enter Tryz.func187,Tryz.ntmps187
 go_wp2_with (go_at_call 198;refine HL.out.mono ?_;rw[HV.out];rintro e w' ⟨rfl,rfl⟩)
 go_ret
 refine⟨_,rfl,?_,HB.out⟩
 have:=HC.out
 rw[HV.out]at this
 exact this
theorem zob.len_le {w:World} {v:Value} {n:Nat} (h:zob w v n):zda n<=4294967296:=by
 obtain⟨l,hl,rfl,hll⟩:=h;exact zLT (zsb hl.lm) hll
theorem zob.cells {w:World} {v:Value} {n:Nat} (h:zob w v n):∀ (j:Nat) (hj:j<zda n),w.cell? (ptr v j)=some (.int .u32 ((zla n)[j]'hj:Nat)):=by
 obtain⟨l,hl,rfl,hll⟩:=h
 intro j hj
 have:=(hl.can hll).1.cell j hj
 rwa[ptr_tk]at this
theorem zob.slen {w:World} {v:Value} {n:Nat} (h:zob w v n):zgc v/\zda n<=Go.Proofs.YtlpdkbmmbdfoiaaGreat.slen v/\Go.Proofs.YtlpdkbmmbdfoiaaGreat.slen v<=4294967296:=by
 obtain⟨l,hl,rfl,hll⟩:=h
 exact⟨hl.sl,by rw[hl.len];exact zsb hl.lm,by rw[hl.len];exact hll⟩
theorem ztl (va vb:Value) (m n:Nat) (w:World) (ha:zob w va m) (hb:zob w vb n):
 Calls Tryz.prog 159 #[va,vb] w fun e w'=>e= .returned (.int .i64 (zfj m n))/\∃k,w'=w.drewN k:=by
 obtain⟨sa,la,ua⟩:=ha.slen
 obtain⟨sb,lb,ub⟩:=hb.slen
 have ca:=ha.cells
 have cb:=hb.cells
 go_enter Tryz.func159,Tryz.ntmps159
 go_wp2_with (go_at_call 198;first | ((with_reducible refine(zdb va m _ ha).mono ?_);rintro e w' ⟨rfl,rfl⟩) | ((with_reducible refine(zdb vb n _ hb).mono ?_);rintro e w' ⟨rfl,rfl⟩))
 ·go_ret
  exact⟨by rw[zkg (zug (by assumption))];rfl,0,rfl⟩
 ·go_ret
  exact⟨by rw[zul (zug (by assumption))];rfl,0,rfl⟩
 ·have he:zda m=zda n:=by omega
  go_loopw [7] (fun i wr=>∃k q:Nat,k<=zda m/\i= .int .i64 ((k:Int)-1)/\(zla m).drop k=(zla n).drop k/\wr=w.drewN q) (fun i _=>(intOf i+1).toNat)
  case atStart=>exact⟨zda m,0,zLR _,by simp,by rw[List.drop_of_length_le (show zda m<=zda m from zLR _),List.drop_of_length_le (show zda n<=zda m by omega)],rfl⟩
  case round=>
   obtain⟨k,q,hk,rfl,hd,rfl⟩:=hrel
   have HD:=zH hd
   have HE:=zH he
   clear hd he
   by_cases hk0:0<k
   ·obtain⟨j,rfl⟩:∃j,k=j+1:=⟨k-1,by omega⟩
    have hj1:j<zda m:=by omega
    have hj2:j<zda n:=by have:=HE.out;omega
    have h1:=ca j hj1
    have h2:=cb j hj2
    have hlt:=zde (zrb m) j hj1 hj2 HD.out
    have hgt:=zde (zrb n) j hj2 hj1 HD.out.symm
    have heq:=zvm j hj1 hj2 HD.out
    rw[zha,zha]at hlt hgt
    clear ca cb HD
    generalize (zla m)[j]'hj1=x at *
    generalize (zla n)[j]'hj2=y at *
    have HL:=zH hlt
    have HG:=zH hgt
    have HQ:=zH heq
    clear hlt hgt heq
    by_cases hxy:x<y
    ·go_wp2
     go_quiet (fail)
     go_wp2
     go_ret
     exact⟨by rw[zkg (HL.out hxy)];rfl,_,by first | rfl | (simp only[World.drewN_drewN];rfl)⟩
    ·by_cases hyx:y<x
     ·go_wp2
      go_quiet (fail)
      go_wp2
      go_quiet (fail)
      go_wp2
      go_ret
      exact⟨by rw[zul (HG.out hyx)];rfl,_,by first | rfl | (simp only[World.drewN_drewN];rfl)⟩
     ·go_wp2
      go_quiet (fail)
      go_wp2
      go_quiet (fail)
      go_wp2
      go_roundw
      case rel=>exact⟨j,_,by omega,by go_num,HQ.out (by omega),by first | rfl | (simp only[World.drewN_drewN];rfl)⟩
      case measure=>simp[intOf]
   ·obtain rfl:k=0:=by omega
    have hmn:m=n:=zhg (by simpa using HD.out)
    have HM:=zH hmn
    clear hmn
    go_wp2
    go_ret
    exact⟨by rw[cmpN_eq HM.out];rfl,_,rfl⟩
end Go.Proofs.YtlpdkbmmbdfoiaaGreat
namespace Go.Proofs.YtlpdkbmmbdfoiaaGreat
theorem zzk (a b s:Nat) (h:b<2^s):(2^s*a) ||| b=2^s*a+b:=(Nat.two_pow_add_eq_or_of_lt h a).symm
theorem or_lo (r x:Nat) (hr:r<4294967296) (hx:x<4294967296):bits .or .u64 ((r:Int)*4294967296) (x:Int)=((r*4294967296+x:Nat):Int):=by
 have h:=u64_or_nat (4294967296*r) x (by omega) (by omega)
 rw[show((4294967296*r:Nat):Int)=(r:Int)*4294967296 from by omega]at h
 rw[h]
 have:=zzk r x 32 (by omega)
 rw[show(2:Nat)^32=4294967296 from by decide]at this
 rw[this]
 congr 1
 omega
theorem or_hi (c x P s:Nat) (hP:P=2^s) (hc:c<P) (hx:P*x<18446744073709551616) (hPl:P<18446744073709551616):bits .or .u64 (c:Int) ((P*x:Nat):Int)=((P*x+c:Nat):Int):=by
 subst hP
 rw[u64_or_nat c (2^s*x) (by omega) hx,Nat.or_comm,zzk x c s hc]
theorem zyb (n:Int):IntKind.u64.wrap n=n%18446744073709551616:=by
 simp[IntKind.wrap,IntKind.bits,IntKind.signed]
theorem div_limb (t d:Nat) (h:t/d<4294967296):IntKind.u64.wrap ((t:Int)/d)%4294967296=((t/d:Nat):Int):=by
 rw[zyb,<-Int.natCast_ediv];generalize t/d=q at *;omega
theorem or_up (c x s:Nat) (hs:s<32) (hc:c<2^s) (hx:x<4294967296):bits .or .u64 (c:Int) (IntKind.u64.wrap ((x:Int)*2^s))=((2^s*x+c:Nat):Int):=by
 have hP:2^s<=2^31:=Nat.pow_le_pow_right (by decide) (by omega)
 have h1:2^s*x<=2^31*4294967295:=Nat.mul_le_mul hP (by omega)
 have h2:((x:Int)*2^s)=((2^s*x:Nat):Int):=by rw[Int.natCast_mul,Int.natCast_pow];exact Int.mul_comm _ _
 rw[h2,zyb]
 have h3:((2^s*x:Nat):Int)%18446744073709551616=((2^s*x:Nat):Int):=by omega
 rw[h3]
 exact or_hi c x (2^s) s rfl hc (by omega) (by omega)
theorem up_bound (c x s:Nat) (hs:s<32) (hc:c<2^s) (hx:x<4294967296):2^s*x+c<18446744073709551616/\(2^s*x+c)/4294967296<2^s:=by
 have hP:2^s<=2^31:=Nat.pow_le_pow_right (by decide) (by omega)
 have h1:2^s*x<=2^31*4294967295:=Nat.mul_le_mul hP (by omega)
 have h2:2^s*(x+1)<=2^s*4294967296:=zML _ (by omega)
 rw[Nat.mul_add,Nat.mul_one]at h2
 refine⟨by omega,?_⟩
 rw[Nat.div_lt_iff_lt_mul (by decide)]
 omega
end Go.Proofs.YtlpdkbmmbdfoiaaGreat
namespace Go.Proofs.YtlpdkbmmbdfoiaaGreat
open Go.RowKit
theorem cmp_ge (va vb:Value) (m n:Nat) (w:World) (ha:zob w va m) (hb:zob w vb n) (h:n<=m):
 Calls Tryz.prog 159 #[va,vb] w fun e w'=>(∃c:Int,e= .returned (.int .i64 c)/\decide (c<0)=false)/\∃k,w'=w.drewN k:=
 (ztl va vb m n w ha hb).mono fun _ _ ⟨a,b⟩=>⟨⟨_,a,decide_eq_false (by unfold zfj;rw[if_neg (by omega)];split<;>omega)⟩,b⟩
theorem sub_wrap (x y c:Nat) (hx:x<4294967296) (hy:y<4294967296) (hc:c<=1):∃z b:Nat,z<4294967296/\b<=1/\
 IntKind.u64.wrap (IntKind.u64.wrap ((x:Int)-c)-y)%4294967296=z/\IntKind.u64.wrap (IntKind.u64.wrap ((x:Int)-c)-y)/9223372036854775808=b/\z+c+y=x+4294967296*b:=by
 rw[zyb,zyb]
 by_cases h:c+y<=x
 ·exact⟨x-c-y,0,by omega,by omega,by omega,by omega,by omega⟩
 ·exact⟨x+4294967296-c-y,1,by omega,by omega,by omega,by omega,by omega⟩
theorem sub_wrap0 (x c:Nat) (hx:x<4294967296) (hc:c<=1):∃z b:Nat,z<4294967296/\b<=1/\
 IntKind.u64.wrap ((x:Int)-c)%4294967296=z/\IntKind.u64.wrap ((x:Int)-c)/9223372036854775808=b/\z+c+0=x+4294967296*b:=by
 rw[zyb]
 by_cases h:c<=x
 ·exact⟨x-c,0,by omega,by omega,by omega,by omega,by omega⟩
 ·exact⟨x+4294967296-c,1,by omega,by omega,by omega,by omega,by omega⟩
set_option maxHeartbeats 800000 in
theorem sub_any (va vb:Value) (m n:Nat) (w:World) (ha:zob w va m) (hb:zob w vb n) (hm:zda m<=512) (hnm:n<=m):
 Calls Tryz.prog 160 #[va,vb] w (zxm w (m-n)):=by
 have hn:zda n<=512:=zLT (zfb hnm) hm
 have hnn:=zfb hnm
 have HM:=zH hm
 have HN:=zH hn
 clear hm hn
 obtain⟨sa,ca,ka⟩:=ha.scap
 obtain⟨sb,cb,kb⟩:=hb.scap
 obtain⟨i0,hi,hz0,hz1,hz2⟩:=info_parts Tryz.info102
 have hM:=zmd (P:=Tryz.prog) 36 142 i0 Tryz.underlying36 hi hz0 hz1 hz2
 go_enter Tryz.func160,Tryz.ntmps160
 go_wp2_with (first
  |(go_at_call 200;first | ((with_reducible refine(zud va m _ ha HM.out).mono ?_);rintro e w' ⟨rfl,rfl⟩) | ((with_reducible refine(zud vb n _ hb HN.out).mono ?_);rintro e w' ⟨rfl,rfl⟩))
  |(go_at_call 159;refine(cmp_ge va vb m n _ ha hb hnm).mono ?_;rintro e w' ⟨⟨c,rfl,hc⟩,nq0,rfl⟩))
 have ha0:=ha.drawn nq0
 have hb0:=hb.drawn nq0
 have ka0:=ka.drawn nq0
 have kb0:=kb.drawn nq0
 have hbel0:=zka (B:=w.heap.size) w nq0
 generalize w.drewN nq0=W0 at *
 go_quiet ((go_at_call 198;first | with_reducible exact Calls.quiet_of_same ((zdb va m _ (ha0.drawn _)).mono fun e w' ⟨h1,h2⟩=>⟨h1,h2.symm⟩) | with_reducible exact Calls.quiet_of_same ((zdb vb n _ (hb0.drawn _)).mono fun e w' ⟨h1,h2⟩=>⟨h1,h2.symm⟩)))
 have l1:slen (tk va (zda m))=zda m:=ka.1.len
 have l2:slen (tk vb (zda n))=zda n:=kb.1.len
 have s1:=ka.1.sl
 have s2:=kb.1.sl
 clear ha hb sa sb ca cb ha0 hb0 ka kb hc
 generalize tk va (zda m)=xa at *
 generalize tk vb (zda n)=xb at *
 have kb':=kb0.drawn nq
 have ka':=ka0.drawn nq
 have hbel:=hbel0.trans (zka (B:=w.heap.size) W0 nq)
 generalize W0.drewN nq=W at *
 have hroom:zda m<=35184372088832:=by have:=HM.out;omega
 have HR:=zH hroom
 clear hroom ka0 kb0 hbel0
 go_wp2_with (refine hM _ rfl _ _ rfl W.heap.size _ (zda m) rfl rfl rfl HR.out (zLR _) ?_;intro v w1 hown hb1 hvb)
 have hbw:Below w.heap.size w w1:=hbel.trans (hb1.mono hbel.size)
 clear hM
 go_loopw [7,35] (fun u7 u35 wr=>∃ (k c:Nat) (o:List Nat),k<=zda m/\u35= .int .i64 k/\u7= .int .u64 c/\c<=1/\zcc wr 142 W.heap.size v o/\o.length=zda m/\
  val (o.take k)+val ((zla n).take k)=val ((zla m).take k)+pw k*c/\Below W.heap.size W wr) (fun _ u35 _=>zda m- (intOf u35).toNat)
 case atStart=>exact⟨0,0,_,zZL _,rfl,rfl,by omega,hown,by simp,by simp[val],hb1⟩
 case round=>
  obtain⟨k,c,o,hk,rfl,rfl,hc,hownr,hol,hval,hbr⟩:=hrel
  have hcx:=((ka'.below hbr).1).cell
  have hcy:=((kb'.below hbr).1).cell
  have sv:=hownr.nat.sl
  have lv:slen v=zda m:=by rw[hownr.nat.len,hol]
  have HV:=zH hval
  clear hval
  have hkb:k<=4294967296:=by have:=HM.out;omega
  by_cases hkp:k<zda m
  ·have hx:=hcx k hkp
   have hx1:(zla m)[k]'hkp<4294967296:=zrb m _ (zGM _)
   have hfz:=hownr.frozen k (by omega)
   have hco:=hownr.nat.cell k (by omega)
   have HX:=zH (zia (zla m) k hkp)
   clear hcx
   generalize (zla m)[k]'hkp=x at *
   by_cases hkq:k<zda n
   ·have hy:=hcy k hkq
    have hy1:(zla n)[k]'hkq<4294967296:=zrb n _ (zGM _)
    have HY:=zH (zia (zla n) k hkq)
    clear hcy
    generalize (zla n)[k]'hkq=y at *
    obtain⟨z,b,hz,hb,ez,eb,hzz⟩:=sub_wrap x y c hx1 hy1 hc
    have EZ:=zH ez
    have EB:=zH eb
    have HZZ:=zH hzz
    clear ez eb hzz
    go_wp2
    have hset:=hownr.set k (by omega) z hz
    go_roundw
    case rel=>
     rw[EZ.out,EB.out]
     exact⟨k+1,b,_,by omega,by go_num,rfl,hb,hset.1,by simp[hol],sub_step (by omega) HX.out HY.out HZZ.out HV.out,hbr.trans hset.2⟩
    case measure=>simp[intOf];omega
   ·have HY:=zH (zje (zla n) k (by unfold zda at hkq;omega))
    clear hcy
    obtain⟨z,b,hz,hb,ez,eb,hzz⟩:=sub_wrap0 x c hx1 hc
    have EZ:=zH ez
    have EB:=zH eb
    have HZZ:=zH hzz
    clear ez eb hzz
    go_wp2
    have hset:=hownr.set k (by omega) z hz
    go_roundw
    case rel=>
     rw[EZ.out,EB.out]
     exact⟨k+1,b,_,by omega,by go_num,rfl,hb,hset.1,by simp[hol],sub_step (by omega) HX.out (by rw[HY.out];rfl) HZZ.out HV.out,hbr.trans hset.2⟩
    case measure=>simp[intOf];omega
  ·obtain rfl:k=zda m:=by omega
   clear hcx hcy
   have hv2:val o=m-n:=by
    have e:=HV.out
    rw[List.take_of_length_le (by omega),List.take_of_length_le (show zda m<=zda m from zLR _),List.take_of_length_le (show zda n<=zda m by omega),zha,zha]at e
    have h1:=zoe hownr.lm
    rw[hol]at h1
    have h2:=pw_pos (zda m)
    rcases Nat.lt_or_ge c 1 with hc0 | hc0
    ·obtain rfl:c=0:=by omega
     omega
    ·obtain rfl:c=1:=by omega
     omega
   have HS:=zH (zph v _ _ hownr.nat (by rw[hol];omega))
   have HV2:=zH hv2
   clear hv2 HV
   go_wp2_with (go_at_call 201;refine HS.out.mono ?_;rintro e w' ⟨r,er,rfl,hr,hbl⟩)
   go_ret2
   rw[HV2.out]at hr
   exact⟨r,er,rfl,hr,hbel.trans ((hbr.trans (hbl.mono hbr.size)).mono hbel.size)⟩
set_option maxHeartbeats 800000
def RShort (w0:World) (n d:Nat) (e:Ending) (w:World):Prop:=
 ∃q,e= .returned (.tuple #[q, .int .u32 (n%d:Nat)])/\zjb w q (n/d)/\Below w0.heap.size w0 w
theorem short_any (va:Value) (l:List Nat) (d:Nat) (w:World) (ha:zfc w va l) (hl:l.length<=65536) (hd:0<d) (hd2:d<4294967296):
 Calls Tryz.prog 223 #[va, .int .u32 d] w (RShort w (val l) d):=by
 have hlb:l.length<=4294967296:=by omega
 have HL:=zH hl
 clear hl
 obtain⟨i0,hi,hz0,hz1,hz2⟩:=info_parts Tryz.info102
 have hM:=zmd (P:=Tryz.prog) 36 142 i0 Tryz.underlying36 hi hz0 hz1 hz2
 have sa:=ha.sl
 have la:=ha.len
 have hroom:l.length<=35184372088832:=by omega
 go_enter Tryz.func223,Tryz.ntmps223
 go_wp2_with (refine hM _ rfl _ _ rfl w.heap.size _ l.length rfl rfl rfl hroom (zLR _) ?_;intro v w1 hown hb1 hvb)
 clear hM
 go_loopw [7,8] (fun u7 u8 wr=>∃ (k r:Nat) (q:List Nat),k<=l.length/\u8= .int .i64 ((k:Int)-1)/\u7= .int .u64 r/\r<d/\zcc wr 142 w.heap.size v q/\q.length=l.length/\
  val (l.drop k)=d*val (q.drop k)+r/\Below w.heap.size w wr) (fun _ u8 _=>(intOf u8+1).toNat)
 case atStart=>exact⟨l.length,0,_,zLR _,rfl,rfl,hd,hown,by simp,by rw[List.drop_of_length_le (zLR _),List.drop_of_length_le (by simp)];rfl,hb1⟩
 case round=>
  obtain⟨k,r,q,hk,rfl,rfl,hr,hownr,hol,hval,hbr⟩:=hrel
  have hcx:=(ha.below hbr).cell
  have sv:=hownr.nat.sl
  have lv:slen v=l.length:=by rw[hownr.nat.len,hol]
  have HV:=zH hval
  clear hval
  by_cases hk0:0<k
  ·obtain⟨j,rfl⟩:∃j,k=j+1:=⟨k-1,by omega⟩
   have hj1:j<l.length:=by omega
   have hx:=hcx j hj1
   have hx1:l[j]'hj1<4294967296:=ha.lm _ (zGM _)
   have hfz:=hownr.frozen j (by omega)
   have hco:=hownr.nat.cell j (by omega)
   have HS:=zH (zjm (q:=q) (l:=l) (k:=j) (d:=d) (r:=r) (by omega) (znh l j hj1) hd HV.out hr)
   clear hcx
   generalize l[j]'hj1=x at *
   obtain⟨b1,b2,b3⟩:=zgk hd2 hr hx1
   have hor:=or_lo r x (by omega) hx1
   generalize r*4294967296+x=t at *
   go_wp2
   have ew:=div_limb t d b1
   have hset:=hownr.set j (by omega) (t/d) b1
   go_roundw
   case rel=>
    rw[ew]
    exact⟨j,t%d,_,by omega,rfl,rfl,b2,hset.1,by simp[hol],HS.out,hbr.trans hset.2⟩
   case measure=>simp[intOf]
  ·obtain rfl:k=0:=by omega
   have e:=HV.out
   simp only[List.drop_zero]at e
   have hq:val q=val l/d:=by rw[e,Nat.mul_add_div hd,Nat.div_eq_of_lt hr,Nat.add_zero]
   have hrr:r=val l%d:=by rw[e,Nat.mul_add_mod,Nat.mod_eq_of_lt hr]
   have hcan:=hownr.nat.can (by omega)
   have HLN:=zH (zdb v (val q) wr (hownr.nat.natN (by omega)))
   have HC:=zH hcan
   have HQ:=zH hq
   have HR:=zH hrr
   have hcap:zda (val q)<=scap v:=by have:=sv.le;have:=zsb hownr.lm;omega
   clear hcx hcan hq hrr HV e
   go_wp2_with (go_at_call 198;refine HLN.out.mono ?_;rintro e w' ⟨rfl,rfl⟩)
   go_ret2
   refine⟨tk v (zda (val q)),by rw[<-HR.out];rfl,?_,hbr⟩
   rw[<-HQ.out]
   exact HC.out
theorem up_any (va:Value) (l:List Nat) (s:Nat) (w:World) (ha:zfc w va l) (hl:l.length<=65536) (hs:s<32):
 Calls Tryz.prog 224 #[va, .int .u64 s] w fun e w'=>∃r o,e= .returned r/\zcc w' 142 w.heap.size r o/\o.length=l.length+1/\val o=2^s*val l/\Below w.heap.size w w':=by
 have hlb:l.length<=4294967296:=by omega
 have HL:=zH hl
 clear hl
 obtain⟨i0,hi,hz0,hz1,hz2⟩:=info_parts Tryz.info102
 have hM:=zmd (P:=Tryz.prog) 36 142 i0 Tryz.underlying36 hi hz0 hz1 hz2
 have sa:=ha.sl
 have la:=ha.len
 have hroom:l.length+1<=35184372088832:=by omega
 go_enter Tryz.func224,Tryz.ntmps224
 go_wp2_with (refine hM _ rfl _ _ rfl w.heap.size _ (l.length+1) rfl rfl rfl hroom (zLR _) ?_;intro v w1 hown hb1 hvb)
 clear hM
 go_loopw [6,15] (fun u6 u15 wr=>∃ (k c:Nat) (o:List Nat),k<=l.length/\u15= .int .i64 k/\u6= .int .u64 c/\c<2^s/\zcc wr 142 w.heap.size v o/\o.length=l.length+1/\
  val (o.take k)+pw k*c=2^s*val (l.take k)/\Below w.heap.size w wr) (fun _ u15 _=>l.length- (intOf u15).toNat)
 case atStart=>exact⟨0,0,_,zZL _,rfl,rfl,Nat.pow_pos (by decide),hown,by simp,by simp[val],hb1⟩
 case round=>
  obtain⟨k,c,o,hk,rfl,rfl,hc,hownr,hol,hval,hbr⟩:=hrel
  have hcx:=(ha.below hbr).cell
  have sv:=hownr.nat.sl
  have lv:slen v=l.length+1:=by rw[hownr.nat.len,hol]
  have HV:=zH hval
  clear hval
  by_cases hkp:k<l.length
  ·have hx:=hcx k hkp
   have hx1:l[k]'hkp<4294967296:=ha.lm _ (zGM _)
   have hfz:=hownr.frozen k (by omega)
   have hco:=hownr.nat.cell k (by omega)
   have HX:=zH (zia l k hkp)
   clear hcx
   generalize l[k]'hkp=x at *
   have hor:=or_up c x s hs hc hx1
   obtain⟨b1,b2⟩:=up_bound c x s hs hc hx1
   have HT:=fun t=>zH (up_step (o:=o) (l:=l) (k:=k) (c:=c) (x:=x) (P:=2^s) (t:=t) (by omega) HX.out HV.out)
   generalize hte:2^s*x+c=t at *
   have HTE:=zH hte
   clear hte
   go_wp2
   have hset:=hownr.set k (by omega) (t%4294967296) (by omega)
   go_roundw
   case rel=>exact⟨k+1,t/4294967296,_,by omega,by go_num,rfl,b2,hset.1,by simp[hol],(HT t).out rfl,hbr.trans hset.2⟩
   case measure=>simp[intOf];omega
  ·obtain rfl:k=l.length:=by omega
   have hP:2^s<=2^31:=Nat.pow_le_pow_right (by decide) (by omega)
   have hc1:c<4294967296:=by omega
   have hfz:=hownr.frozen l.length (by omega)
   have hco:=hownr.nat.cell l.length (by omega)
   have hset:=hownr.set l.length (by omega) c hc1
   have hv2:val (o.set l.length c)=2^s*val l:=by
    have e:=zkb o l.length c (by omega)
    rw[List.take_of_length_le (by simp;omega),HV.out,List.take_length]at e
    exact e
   have HV2:=zH hv2
   clear hv2 hcx hP HV
   go_wp2
   go_ret
   exact⟨v,_,rfl,hset.1,by simp[hol],HV2.out,hbr.trans hset.2⟩
set_option maxHeartbeats 1600000
theorem zpj (w:World) (row:Option Nat):w.grownBy w row:=⟨rfl,rfl,rfl,zLR _,fun _ _ _=>rfl⟩
theorem zsc {w w1 w2:World} {row:Option Nat} (h:w.grownBy w1 row) (k:w1.grownBy w2 row):w.grownBy w2 row:=
 ⟨k.os.trans h.os,k.tape.trans h.tape,k.output.trans h.output,zLT h.size k.size,fun i hi hr=>(k.block i (zLM hi h.size) hr).trans (h.block i hi hr)⟩
theorem zqc (w:World) (p:Addr) (u:Value):w.grownBy (w.setCell p u) (some p.block):=
 ⟨rfl,rfl,rfl,by simp[World.setCell],fun k _ hk=>Below.heap_setCell _ _ _ _ (fun e=>hk (by rw[e]))⟩
theorem ztc {w w':World} {b B:Nat} (h:w.grownBy w' (some b)) (hB:B<=b) (hs:B<=w.heap.size):Below B w w':=
 ⟨h.os,h.tape,h.output,h.size,fun k hk=>h.block k (by omega) (fun e=>by injection e;omega)⟩
theorem zfc.grown {w w':World} {v:Value} {l:List Nat} {b:Nat} (h:zfc w v l) (hg:w.grownBy w' (some b)) (hb:(base v).block≠b):zfc w' v l:=
 ⟨h.sl,h.len,fun j hj=>by
  have hc:=h.cell j hj
  have hlt:=World.block_lt_of_cell? w _ hc
  rw[World.cell?_of_block (hg.block _ hlt (fun e=>hb (by injection e with e;rw[<-e,zsa]))),hc],h.lm⟩
theorem and_mask (t:Nat) (ht:t<18446744073709551616):bits .and .u64 (t:Int) 4294967295=((t%4294967296:Nat):Int):=by
 have h:=u64_and_nat t 4294967295 ht (by decide)
 have e:t &&& 4294967295=t%4294967296:=by
  have:=Nat.and_two_pow_sub_one_eq_mod t 32
  simpa using this
 rw[e]at h
 exact h
theorem sub_wrap2 (x y c:Nat) (hx:x<4294967296) (hy:y<4294967296) (hc:c<=1):∃z b:Nat,z<4294967296/\b<=1/\
 IntKind.u64.wrap (IntKind.u64.wrap ((x:Int)-y)-c)%4294967296=z/\IntKind.u64.wrap (IntKind.u64.wrap ((x:Int)-y)-c)/9223372036854775808=b/\z+y+c=x+4294967296*b:=by
 rw[zyb,zyb]
 by_cases h:c+y<=x
 ·exact⟨x-c-y,0,by omega,by omega,by omega,by omega,by omega⟩
 ·exact⟨x+4294967296-c-y,1,by omega,by omega,by omega,by omega,by omega⟩
theorem split_sum (c f x:Nat) (hc:c<4294967296) (hf:f<4294967296) (hx:x<4294967296):∃t c' lo:Nat,(c:Int)+(f:Int)*x=t/\bits .and .u64 (t:Int) 4294967295=lo/\(t:Int)/4294967296=c'/\
 c'<4294967296/\lo<4294967296/\4294967296*c'+lo=c+f*x/\t<=18446744073709551615:=by
 have hb:=(zcl hf hx (show 0<4294967296 by omega) hc).1
 have e:=mul_cast c f x 0
 have ha:=and_mask (f*x+0+c) hb
 refine⟨f*x+0+c,(f*x+0+c)/4294967296,(f*x+0+c)%4294967296,by rw[<-e];simp,ha,by omega,by omega,by omega,by omega,by omega⟩
theorem zbg (U V uv:Value) (A p C l:List Nat) (n f B:Nat) (w:World) (hU:zgc U) (hUl:slen U=n+1) (hUp:∀k,ptr U k=ptr uv (A.length+k))
 (hu:zcc w 142 B uv (A++p++C)) (hp:p.length=n+1) (hv:zfc w V l) (hl:l.length=n) (hn:n<=65536) (hf:f<4294967296) (hne:(base V).block≠(base uv).block):
 Calls Tryz.prog 225 #[U,V, .int .u64 f] w fun e w'=>∃ (b:Bool) (p':List Nat),e= .returned (.bool b)/\zcc w' 142 B uv (A++p'++C)/\p'.length=n+1/\
  val p'+f*val l=val p+(if b then 1 else 0)*pw (n+1)/\w.grownBy w' (some (base uv).block):=by
 have hnb:n<=4294967296:=by omega
 have HN:=zH hn
 clear hn
 have sV:=hv.sl
 have lV:slen V=n:=by rw[hv.len,hl]
 have HUP:=zH hUp
 clear hUp
 go_enter Tryz.func225,Tryz.ntmps225
 go_wp2_with fail
 go_loopw [7,8,15] (fun u7 u8 u15 wr=>∃ (k c bo:Nat) (q:List Nat),k<=n/\u15= .int .i64 k/\u7= .int .u64 c/\u8= .int .u64 bo/\c<4294967296/\bo<=1/\zcc wr 142 B uv (A++q++C)/\q.length=n+1/\
  val (q.take k)+f*val (l.take k)=val (p.take k)+pw k*(c+bo)/\q.drop k=p.drop k/\w.grownBy wr (some (base uv).block)) (fun _ _ u15 _=>n- (intOf u15).toNat)
 case atStart=>exact⟨0,0,0,p,zZL _,rfl,rfl,rfl,by omega,by omega,hu,hp,by simp[val],rfl,zpj _ _⟩
 case round=>
  obtain⟨k,c,bo,q,hk,rfl,rfl,rfl,hc,hbo,hown,hql,hval,hdr,hgr⟩:=hrel
  have hV:=hv.grown hgr hne
  have HV:=zH hval
  have HD:=zH hdr
  clear hval hdr
  have hpq:∀ (h:k<n+1),q[k]'(by omega)=p[k]'(by omega):=fun h=>by
   have:=congrArg (fun l=>l[0]?) HD.out
   simp only[List.getElem?_drop,Nat.add_zero]at this
   rw[zGE (by omega),zGE (by omega)]at this
   simpa using this
  by_cases hkn:k<n
  ·have hx:=hV.cell k (by omega)
   have hx1:l[k]'(by omega)<4294967296:=hv.lm _ (zGM _)
   have hlen:A.length+k<(A++q++C).length:=by simp;omega
   have hco:=hown.nat.cell (A.length+k) hlen
   rw[<-HUP.out k,(List.getElem_eq_iff hlen).2 (zxe A q C k (by omega))]at hco
   have hfz:=hown.frozen (A.length+k) hlen
   rw[<-HUP.out k]at hfz
   have hu1:q[k]'(by omega)<4294967296:=by
    have:=hown.lm _ (zGM (h:=hlen))
    rwa[(List.getElem_eq_iff hlen).2 (zxe A q C k (by omega))]at this
   have hp1:=zia p k (by omega)
   rw[<-hpq (by omega)]at hp1
   have hl1:=zia l k (by omega)
   clear hpq
   generalize l[k]'(by omega)=x at *
   generalize q[k]'(by omega)=u at *
   have HP:=zH hp1
   have HL:=zH hl1
   clear hp1 hl1
   obtain⟨hb0,hb1⟩:=zsg hf hx1
   obtain⟨t,c',lo,et,hand,hdiv,hc',hlo,hts,htm⟩:=split_sum c f x hc hf hx1
   obtain⟨z,b',hz,hb',ez,eb,hzz⟩:=sub_wrap2 u lo bo hu1 hlo hbo
   have HTS:=zH hts
   have EZ:=zH ez
   have EB:=zH eb
   have HZZ:=zH hzz
   clear hts ez eb hzz
   go_wp2
   have hset:=hown.set (A.length+k) hlen z hz
   rw[zhk A q C k z (by omega),<-HUP.out k]at hset
   have hgs:=zqc wr (ptr U k) (.int .u32 z)
   rw[show(ptr U k).block=(base uv).block from by rw[HUP.out k,zsa]]at hgs
   go_roundw
   case rel=>
    rw[EZ.out,EB.out]
    refine⟨k+1,c',b',q.set k z,by omega,by go_num,rfl,rfl,hc',hb',hset.1,by simp[hql],zan (by omega) HP.out HL.out HTS.out HZZ.out HV.out,?_,zsc hgr hgs⟩
    have:=congrArg (List.drop 1) HD.out
    rw[List.drop_drop,List.drop_drop]at this
    rw[List.drop_set_of_lt (by omega)]
    exact this
   case measure=>simp[intOf];omega
  ·obtain rfl:k=n:=by omega
   have hlen:A.length+k<(A++q++C).length:=by simp;omega
   have hco:=hown.nat.cell (A.length+k) hlen
   rw[<-HUP.out k,(List.getElem_eq_iff hlen).2 (zxe A q C k (by omega))]at hco
   have hfz:=hown.frozen (A.length+k) hlen
   rw[<-HUP.out k]at hfz
   have hu1:q[k]'(by omega)<4294967296:=by
    have:=hown.lm _ (zGM (h:=hlen))
    rwa[(List.getElem_eq_iff hlen).2 (zxe A q C k (by omega))]at this
   obtain⟨z,b',hz,hb',ez,eb,hzz⟩:=sub_wrap2 (q[k]'(by omega)) c bo hu1 hc hbo
   have hfin:=subtract_end (p:=p) (q:=q) (l:=l) (n:=k) (c:=c) (bo:=bo) (f:=f) (z:=z) (b:=b') hql hp hl (by rw[<-hpq (by omega)];omega) HV.out
   clear hpq
   generalize q[k]'(by omega)=u at *
   have EZ:=zH ez
   have EB:=zH eb
   have HF:=zH hfin
   have hset:=hown.set (A.length+k) hlen z hz
   rw[zhk A q C k z (by omega),<-HUP.out k]at hset
   have hgs:=zqc wr (ptr U k) (.int .u32 z)
   rw[show(ptr U k).block=(base uv).block from by rw[HUP.out k,zsa]]at hgs
   have HS:=zH hset
   have HG:=zH hgs
   clear hzz ez eb hfin hset hgs HV HD hV
   go_wp2
   go_ret
   rw[EZ.out]
   refine⟨decide (b'=1),q.set k z,?_,HS.out.1,by simp[hql],?_,zsc hgr HG.out⟩
   ·show Ending.returned (Value.bool _)=_
    rw[EB.out]
    congr 2
    rw[Bool.eq_iff_iff];simp
    omega
   ·rw[HF.out]
    have :b'=0\/b'=1:=by omega
    rcases this with rfl | rfl<;>simp
theorem zdh (U V uv:Value) (A p C l:List Nat) (n B:Nat) (w:World) (hU:zgc U) (hUl:slen U=n+1) (hUp:∀k,ptr U k=ptr uv (A.length+k))
 (hu:zcc w 142 B uv (A++p++C)) (hp:p.length=n+1) (hv:zfc w V l) (hl:l.length=n) (hn:n<=65536) (hne:(base V).block≠(base uv).block):
 Calls Tryz.prog 226 #[U,V] w fun e w'=>∃ (b:Nat) (p':List Nat),e= .returned (.tuple #[])/\zcc w' 142 B uv (A++p'++C)/\p'.length=n+1/\
  val p'+b*pw (n+1)=val p+val l/\w.grownBy w' (some (base uv).block):=by
 have hnb:n<=4294967296:=by omega
 have HN:=zH hn
 clear hn
 have sV:=hv.sl
 have lV:slen V=n:=by rw[hv.len,hl]
 have HUP:=zH hUp
 clear hUp
 go_enter Tryz.func226,Tryz.ntmps226
 go_wp2_with fail
 go_loopw [4,9] (fun u4 u9 wr=>∃ (k c:Nat) (q:List Nat),k<=n/\u9= .int .i64 k/\u4= .int .u64 c/\c<=1/\zcc wr 142 B uv (A++q++C)/\q.length=n+1/\
  val (q.take k)+pw k*c=val (p.take k)+val (l.take k)/\q.drop k=p.drop k/\w.grownBy wr (some (base uv).block)) (fun _ u9 _=>n- (intOf u9).toNat)
 case atStart=>exact⟨0,0,p,zZL _,rfl,rfl,by omega,hu,hp,by simp[val],rfl,zpj _ _⟩
 case round=>
  obtain⟨k,c,q,hk,rfl,rfl,hc,hown,hql,hval,hdr,hgr⟩:=hrel
  have hV:=hv.grown hgr hne
  have HV:=zH hval
  have HD:=zH hdr
  clear hval hdr
  have hpq:∀ (h:k<n+1),q[k]'(by omega)=p[k]'(by omega):=fun h=>by
   have:=congrArg (fun l=>l[0]?) HD.out
   simp only[List.getElem?_drop,Nat.add_zero]at this
   rw[zGE (by omega),zGE (by omega)]at this
   simpa using this
  have hlen:k<n+1->A.length+k<(A++q++C).length:=fun h=>by simp;omega
  by_cases hkn:k<n
  ·have hlen:=hlen (by omega)
   have hx:=hV.cell k (by omega)
   have hx1:l[k]'(by omega)<4294967296:=hv.lm _ (zGM _)
   have hco:=hown.nat.cell (A.length+k) hlen
   rw[<-HUP.out k,(List.getElem_eq_iff hlen).2 (zxe A q C k (by omega))]at hco
   have hfz:=hown.frozen (A.length+k) hlen
   rw[<-HUP.out k]at hfz
   have hu1:q[k]'(by omega)<4294967296:=by
    have:=hown.lm _ (zGM (h:=hlen))
    rwa[(List.getElem_eq_iff hlen).2 (zxe A q C k (by omega))]at this
   have hp1:=zia p k (by omega)
   rw[<-hpq (by omega)]at hp1
   have hl1:=zia l k (by omega)
   clear hpq
   generalize l[k]'(by omega)=x at *
   generalize q[k]'(by omega)=u at *
   have HST:=zH (zli (o:=q) (a:=p) (b:=l) (k:=k) (c:=c) (x:=u) (y:=x) (by omega) hp1 hl1 HV.out)
   clear hp1 hl1
   go_wp2
   have hset:=hown.set (A.length+k) hlen ((c+u+x)%4294967296) (by omega)
   rw[zhk A q C k _ (by omega),<-HUP.out k,show(((c+u+x)%4294967296:Nat):Int)=((c:Int)+(u+x))%4294967296 from by omega]at hset
   have hgs:=zqc wr (ptr U k) (.int .u32 (((c:Int)+(u+x))%4294967296))
   rw[show(ptr U k).block=(base uv).block from by rw[HUP.out k,zsa]]at hgs
   go_roundw
   case rel=>
    refine⟨k+1,(c+u+x)/4294967296,q.set k _,by omega,by go_num,congrArg (Value.int .u64) (by omega),by omega,hset.1,by simp[hql],HST.out,?_,zsc hgr hgs⟩
    have:=congrArg (List.drop 1) HD.out
    rw[List.drop_drop,List.drop_drop]at this
    rw[List.drop_set_of_lt (by omega)]
    exact this
   case measure=>simp[intOf];omega
  ·obtain rfl:k=n:=by omega
   have hlen:=hlen (by omega)
   have hco:=hown.nat.cell (A.length+k) hlen
   rw[<-HUP.out k,(List.getElem_eq_iff hlen).2 (zxe A q C k (by omega))]at hco
   have hfz:=hown.frozen (A.length+k) hlen
   rw[<-HUP.out k]at hfz
   have hu1:q[k]'(by omega)<4294967296:=by
    have:=hown.lm _ (zGM (h:=hlen))
    rwa[(List.getElem_eq_iff hlen).2 (zxe A q C k (by omega))]at this
   have hfin:val (q.set k ((q[k]'(by omega)+c)%4294967296))+(q[k]'(by omega)+c)/4294967296*pw (k+1)=val p+val l:=by
    have e1:=zkb q k ((q[k]'(by omega)+c)%4294967296) (by omega)
    rw[List.take_of_length_le (by simp;omega)]at e1
    have e2:=zia p k (by omega)
    rw[List.take_of_length_le (by omega),<-hpq (by omega)]at e2
    have e3:=HV.out
    rw[List.take_of_length_le (by omega:l.length<=k)]at e3
    rw[e1,e2,zmb]
    generalize q[k]'(by omega)=u at *
    have h:(u+c)%4294967296+4294967296*((u+c)/4294967296)=u+c:=by omega
    generalize (u+c)%4294967296=zz at *
    generalize (u+c)/4294967296=dd at *
    grind
   clear hpq
   generalize q[k]'(by omega)=u at *
   have HF:=zH hfin
   have hset:=hown.set (A.length+k) hlen ((u+c)%4294967296) (by omega)
   rw[zhk A q C k _ (by omega),<-HUP.out k,show(((u+c)%4294967296:Nat):Int)=((u:Int)+c)%4294967296 from by omega]at hset
   have hgs:=zqc wr (ptr U k) (.int .u32 (((u:Int)+c)%4294967296))
   rw[show(ptr U k).block=(base uv).block from by rw[HUP.out k,zsa]]at hgs
   have HS:=zH hset
   have HG:=zH hgs
   clear hfin hset hgs HV HD hV
   go_wp2
   go_end0
   exact⟨_,_,rfl,HS.out.1,by simp[hql],HF.out,zsc hgr HG.out⟩
end Go.Proofs.YtlpdkbmmbdfoiaaGreat
