/- Lemmas. -/
import Derived.Test.YtlpdkbmmbdfoiaaGreatPNa2
set_option linter.unusedVariables false
set_option linter.unusedSimpArgs false
namespace Go.Proofs.YtlpdkbmmbdfoiaaGreat
set_option maxHeartbeats 800000
open Go.RowKit
theorem zno (w:World) (e:TypeId) (x y:Nat) (hx:x<4294967296) (hy:y<4294967296):
 ztc (w.alloc (.cells #[.int .u32 (x:Nat), .int .u32 (y:Nat)] e)) (.slice (some ⟨w.heap.size,0,none⟩) 2 2) [x,y]:=by
 refine⟨⟨_,2,2,rfl,zLR _,by simp[maxLen],λ e=>by cases e⟩,rfl,λ j hj=> ?_,λ z hz=> ?_⟩
 ·have :j=0\/j=1:=by simp at hj;omega
  rcases this with rfl | rfl<;>simp[ptr,base,Addr.add]
 ·simp at hz;omega
theorem zfn (n:Nat) (hn:n<18446744073709551616) (w:World):
 Calls Tryz.prog 187 #[.int .u64 n] w (RNat w n):=by
 have HN:=zno w 142 (n%4294967296) (n/4294967296) zO zO;rw[show((n%4294967296:Nat):Int)=(n:Int)%4294967296 from zO,show((n/4294967296:Nat):Int)=(n:Int)/4294967296 from zO]at HN;have hv:val [n%4294967296,n/4294967296]=n:=by simp[val];omega
 have HL:=zH (zib _ _ _ (HN.natN (by simp)));have HC:=zH (HN.can (by simp));have HV:=zH hv;have hle:zha n<=2:=znc.2 (by simp[pw];omega);have HB:=zH ((zBR w.heap.size w).alloc (zLR _) (.cells #[.int .u32 ((n:Int)%4294967296), .int .u32 ((n:Int)/4294967296)] 142));clear HN hv;go_enter Tryz.func187,Tryz.ntmps187;go_wp2_with (go_at_call 198;refine HL.o.mono ?_;rw[HV.o];rintro e w' ⟨rfl,rfl⟩);go_ret;refine⟨_,rfl,?_,HB.o⟩;have:=HC.o;rw[HV.o]at this;exact this
theorem zcc.len_le {w:World} {v:Value} {n:Nat} (h:zcc w v n):zha n<=4294967296:=by
 obtain⟨l,hl,rfl,hll⟩:=h;exact zLT (zic hl.lm) hll
theorem zcc.cells {w:World} {v:Value} {n:Nat} (h:zcc w v n):∀ (j:Nat) (hj:j<zha n),w.cell? (ptr v j)=some (.int .u32 ((zoa n)[j]'hj:Nat)):=by
 obtain⟨l,hl,rfl,hll⟩:=h;intro j hj;have:=(hl.can hll).1.cell j hj;rwa[ptr_tk]at this
theorem zcc.slen {w:World} {v:Value} {n:Nat} (h:zcc w v n):zvc v/\zha n<=Go.Proofs.YtlpdkbmmbdfoiaaGreat.slen v/\Go.Proofs.YtlpdkbmmbdfoiaaGreat.slen v<=4294967296:=by
 obtain⟨l,hl,rfl,hll⟩:=h;exact⟨hl.sl,by rw[hl.len];exact zic hl.lm,by rw[hl.len];exact hll⟩
theorem zkp (va vb:Value) (m n:Nat) (w:World) (ha:zcc w va m) (hb:zcc w vb n):
 Calls Tryz.prog 159 #[va,vb] w λ e w'=>e= .returned (.int .i64 (zbm m n))/\∃k,w'=w.drewN k:=by
 obtain⟨sa,la,ua⟩:=ha.slen;obtain⟨sb,lb,ub⟩:=hb.slen;have ca:=ha.cells;have cb:=hb.cells;go_enter Tryz.func159,Tryz.ntmps159;go_wp2_with (go_at_call 198;first | ((with_reducible refine(zib va m _ ha).mono ?_);rintro e w' ⟨rfl,rfl⟩) | ((with_reducible refine(zib vb n _ hb).mono ?_);rintro e w' ⟨rfl,rfl⟩))
 ·go_ret;exact⟨by rw[zqi (zdj (by assumption))];rfl,0,rfl⟩
 ·go_ret;exact⟨by rw[zlp (zdj (by assumption))];rfl,0,rfl⟩
 ·have he:zha m=zha n:=zO;go_loopw [7] (λ i wr=>∃k q:Nat,k<=zha m/\i= .int .i64 ((k:Int)-1)/\(zoa m).drop k=(zoa n).drop k/\wr=w.drewN q) (λ i _=>(intOf i+1).toNat);case atStart=>exact⟨zha m,0,zLR _,by simp,by rw[List.drop_of_length_le (show zha m<=zha m from zLR _),List.drop_of_length_le (show zha n<=zha m by omega)],rfl⟩
  case round=>
   obtain⟨k,q,hk,rfl,hd,rfl⟩:=hrel;have HD:=zH hd;have HE:=zH he;clear hd he;by_cases hk0:0<k
   ·obtain⟨j,rfl⟩:∃j,k=j+1:=⟨k-1,zO⟩;have hj1:j<zha m:=zO;(have hj2:j<zha n:=by have:=HE.o;omega);have h1:=ca j hj1;have h2:=cb j hj2;have hlt:=zif (zgc m) j hj1 hj2 HD.o;have hgt:=zif (zgc n) j hj2 hj1 HD.o.symm;have heq:=zkq j hj1 hj2 HD.o;rw[zka,zka]at hlt hgt;clear ca cb HD;generalize (zoa m)[j]'hj1=x at *
    generalize (zoa n)[j]'hj2=y at *
    have HL:=zH hlt;have HG:=zH hgt;have HQ:=zH heq;clear hlt hgt heq;by_cases hxy:x<y
    ·go_wp2;go_quiet (fail);go_wp2;go_ret;exact⟨by rw[zqi (HL.o hxy)];rfl,_,by first | rfl | (simp only[World.drewN_drewN];rfl)⟩
    ·by_cases hyx:y<x
     ·go_wp2;go_quiet (fail);go_wp2;go_quiet (fail);go_wp2;go_ret;exact⟨by rw[zlp (HG.o hyx)];rfl,_,by first | rfl | (simp only[World.drewN_drewN];rfl)⟩
     ·go_wp2;go_quiet (fail);go_wp2;go_quiet (fail);go_wp2;go_roundw;(case rel=>exact⟨j,_,zO,by go_num,HQ.o zO,by first | rfl | (simp only[World.drewN_drewN];rfl)⟩);case measure=>simp[intOf]
   ·obtain rfl:k=0:=zO;have hmn:m=n:=zmi (by simpa using HD.o);have HM:=zH hmn;clear hmn;go_wp2;go_ret;exact⟨by rw[cmpN_eq HM.o];rfl,_,rfl⟩
end Go.Proofs.YtlpdkbmmbdfoiaaGreat
namespace Go.Proofs.YtlpdkbmmbdfoiaaGreat
theorem zmo (a b s:Nat) (h:b<2^s):(2^s*a) ||| b=2^s*a+b:=(Nat.two_pow_add_eq_or_of_lt h a).symm
theorem or_lo (r x:Nat) (hr:r<4294967296) (hx:x<4294967296):bits .or .u64 ((r:Int)*4294967296) (x:Int)=((r*4294967296+x:Nat):Int):=by
 have h:=u64_or_nat (4294967296*r) x zO zO;rw[show((4294967296*r:Nat):Int)=(r:Int)*4294967296 from zO]at h;rw[h];have:=zmo r x 32 zO;rw[show(2:Nat)^32=4294967296 from zD]at this;rw[this]
 congr 1
 omega
theorem or_hi (c x P s:Nat) (hP:P=2^s) (hc:c<P) (hx:P*x<18446744073709551616) (hPl:P<18446744073709551616):bits .or .u64 (c:Int) ((P*x:Nat):Int)=((P*x+c:Nat):Int):=by
 subst hP;rw[u64_or_nat c (2^s*x) zO hx,Nat.or_comm,zmo x c s hc]
theorem zqc (n:Int):IntKind.u64.wrap n=n%18446744073709551616:=by
 simp[IntKind.wrap,IntKind.bits,IntKind.signed]
theorem div_limb (t d:Nat) (h:t/d<4294967296):IntKind.u64.wrap ((t:Int)/d)%4294967296=((t/d:Nat):Int):=by
 rw[zqc,<-Int.natCast_ediv];generalize t/d=q at *;omega
theorem or_up (c x s:Nat) (hs:s<32) (hc:c<2^s) (hx:x<4294967296):bits .or .u64 (c:Int) (IntKind.u64.wrap ((x:Int)*2^s))=((2^s*x+c:Nat):Int):=by
 have hP:2^s<=2^31:=Nat.pow_le_pow_right zD zO;have h1:2^s*x<=2^31*4294967295:=zMM hP zO;have h2:((x:Int)*2^s)=((2^s*x:Nat):Int):=by rw[Int.natCast_mul,Int.natCast_pow];exact Int.mul_comm _ _
 rw[h2,zqc];have h3:((2^s*x:Nat):Int)%18446744073709551616=((2^s*x:Nat):Int):=zO;rw[h3];exact or_hi c x (2^s) s rfl hc zO zO
theorem up_bound (c x s:Nat) (hs:s<32) (hc:c<2^s) (hx:x<4294967296):2^s*x+c<18446744073709551616/\(2^s*x+c)/4294967296<2^s:=by
 have hP:2^s<=2^31:=Nat.pow_le_pow_right zD zO;have h1:2^s*x<=2^31*4294967295:=zMM hP zO;have h2:2^s*(x+1)<=2^s*4294967296:=zML _ zO;rw[Nat.mul_add,Nat.mul_one]at h2;refine⟨zO,?_⟩;rw[Nat.div_lt_iff_lt_mul zD];omega
end Go.Proofs.YtlpdkbmmbdfoiaaGreat
namespace Go.Proofs.YtlpdkbmmbdfoiaaGreat
open Go.RowKit
theorem cmp_ge (va vb:Value) (m n:Nat) (w:World) (ha:zcc w va m) (hb:zcc w vb n) (h:n<=m):
 Calls Tryz.prog 159 #[va,vb] w λ e w'=>(∃c:Int,e= .returned (.int .i64 c)/\decide (c<0)=false)/\∃k,w'=w.drewN k:=
 (zkp va vb m n w ha hb).mono λ _ _ ⟨a,b⟩=>⟨⟨_,a,zDF (by unfold zbm;rw[zIN zO];split<;>omega)⟩,b⟩
theorem sub_wrap (x y c:Nat) (hx:x<4294967296) (hy:y<4294967296) (hc:c<=1):∃z b:Nat,z<4294967296/\b<=1/\
 IntKind.u64.wrap (IntKind.u64.wrap ((x:Int)-c)-y)%4294967296=z/\IntKind.u64.wrap (IntKind.u64.wrap ((x:Int)-c)-y)/9223372036854775808=b/\z+c+y=x+4294967296*b:=by
 rw[zqc,zqc];by_cases h:c+y<=x
 ·exact⟨x-c-y,0,zO,zO,zO,zO,zO⟩
 ·exact⟨x+4294967296-c-y,1,zO,zO,zO,zO,zO⟩
theorem sub_wrap0 (x c:Nat) (hx:x<4294967296) (hc:c<=1):∃z b:Nat,z<4294967296/\b<=1/\
 IntKind.u64.wrap ((x:Int)-c)%4294967296=z/\IntKind.u64.wrap ((x:Int)-c)/9223372036854775808=b/\z+c+0=x+4294967296*b:=by
 rw[zqc];by_cases h:c<=x
 ·exact⟨x-c,0,zO,zO,zO,zO,zO⟩
 ·exact⟨x+4294967296-c,1,zO,zO,zO,zO,zO⟩
set_option maxHeartbeats 800000 in
theorem sub_any (va vb:Value) (m n:Nat) (w:World) (ha:zcc w va m) (hb:zcc w vb n) (hm:zha m<=512) (hnm:n<=m):
 Calls Tryz.prog 160 #[va,vb] w (zmq w (m-n)):=by
 have hn:zha n<=512:=zLT (zob hnm) hm;have hnn:=zob hnm;have HM:=zH hm;have HN:=zH hn;clear hm hn;obtain⟨sa,ca,ka⟩:=ha.scap;obtain⟨sb,cb,kb⟩:=hb.scap;obtain⟨i0,hi,hz0,hz1,hz2⟩:=info_parts Tryz.info102;have hM:=zme (P:=Tryz.prog) 36 142 i0 Tryz.underlying36 hi hz0 hz1 hz2;go_enter Tryz.func160,Tryz.ntmps160
 go_wp2_with (first
  |(go_at_call 200;first | ((with_reducible refine(zxe va m _ ha HM.o).mono ?_);rintro e w' ⟨rfl,rfl⟩) | ((with_reducible refine(zxe vb n _ hb HN.o).mono ?_);rintro e w' ⟨rfl,rfl⟩))
  |(go_at_call 159;refine(cmp_ge va vb m n _ ha hb hnm).mono ?_;rintro e w' ⟨⟨c,rfl,hc⟩,nq0,rfl⟩))
 have ha0:=ha.drawn nq0;have hb0:=hb.drawn nq0;have ka0:=ka.drawn nq0;have kb0:=kb.drawn nq0;have hbel0:=zna (B:=w.heap.size) w nq0;generalize w.drewN nq0=W0 at *
 go_quiet ((go_at_call 198;first | with_reducible exact Calls.quiet_of_same ((zib va m _ (ha0.drawn _)).mono λ e w' ⟨h1,h2⟩=>⟨h1,h2.symm⟩) | with_reducible exact Calls.quiet_of_same ((zib vb n _ (hb0.drawn _)).mono λ e w' ⟨h1,h2⟩=>⟨h1,h2.symm⟩)));have l1:slen (tk va (zha m))=zha m:=ka.1.len;have l2:slen (tk vb (zha n))=zha n:=kb.1.len;have s1:=ka.1.sl;have s2:=kb.1.sl;clear ha hb sa sb ca cb ha0 hb0 ka kb hc;generalize tk va (zha m)=xa at *
 generalize tk vb (zha n)=xb at *
 have kb':=kb0.drawn nq;have ka':=ka0.drawn nq;have hbel:=hbel0.trans (zna (B:=w.heap.size) W0 nq);generalize W0.drewN nq=W at *
 have hroom:zha m<=35184372088832:=by have:=HM.o;omega
 have HR:=zH hroom;clear hroom ka0 kb0 hbel0;go_wp2_with (refine hM _ rfl _ _ rfl W.heap.size _ (zha m) rfl rfl rfl HR.o (zLR _) ?_;intro v w1 hown hb1 hvb);have hbw:Below w.heap.size w w1:=hbel.trans (hb1.mono hbel.size);clear hM
 go_loopw [7,35] (λ u7 u35 wr=>∃ (k c:Nat) (o:List Nat),k<=zha m/\u35= .int .i64 k/\u7= .int .u64 c/\c<=1/\zzc wr 142 W.heap.size v o/\o.length=zha m/\
  val (o.take k)+val ((zoa n).take k)=val ((zoa m).take k)+pw k*c/\Below W.heap.size W wr) (λ _ u35 _=>zha m- (intOf u35).toNat)
 case atStart=>exact⟨0,0,_,zZL _,rfl,rfl,zO,hown,by simp,by simp[val],hb1⟩
 case round=>
  obtain⟨k,c,o,hk,rfl,rfl,hc,hownr,hol,hval,hbr⟩:=hrel;have hcx:=((ka'.bw hbr).1).cell;have hcy:=((kb'.bw hbr).1).cell;have sv:=hownr.nat.sl;have lv:slen v=zha m:=by rw[hownr.nat.len,hol]
  have HV:=zH hval;clear hval;have hkb:k<=4294967296:=by have:=HM.o;omega
  by_cases hkp:k<zha m
  ·have hx:=hcx k hkp;have hx1:(zoa m)[k]'hkp<4294967296:=zgc m _ (zGM _);have hfz:=hownr.frozen k zO;have hco:=hownr.nat.cell k zO;have HX:=zH (zma (zoa m) k hkp);clear hcx;generalize (zoa m)[k]'hkp=x at *
   by_cases hkq:k<zha n
   ·have hy:=hcy k hkq;have hy1:(zoa n)[k]'hkq<4294967296:=zgc n _ (zGM _);have HY:=zH (zma (zoa n) k hkq);clear hcy;generalize (zoa n)[k]'hkq=y at *
    obtain⟨z,b,hz,hb,ez,eb,hzz⟩:=sub_wrap x y c hx1 hy1 hc;have EZ:=zH ez;have EB:=zH eb;have HZZ:=zH hzz;clear ez eb hzz;go_wp2;have hset:=hownr.set k zO z hz;go_roundw
    case rel=>
     rw[EZ.o,EB.o];exact⟨k+1,b,_,zO,by go_num,rfl,hb,hset.1,by simp[hol],sub_step zO HX.o HY.o HZZ.o HV.o,hbr.trans hset.2⟩
    case measure=>simp[intOf];omega
   ·have HY:=zH (ztf (zoa n) k (by unfold zha at hkq;omega));clear hcy;obtain⟨z,b,hz,hb,ez,eb,hzz⟩:=sub_wrap0 x c hx1 hc;have EZ:=zH ez;have EB:=zH eb;have HZZ:=zH hzz;clear ez eb hzz;go_wp2;have hset:=hownr.set k zO z hz;go_roundw
    case rel=>
     rw[EZ.o,EB.o];exact⟨k+1,b,_,zO,by go_num,rfl,hb,hset.1,by simp[hol],sub_step zO HX.o (by rw[HY.o];rfl) HZZ.o HV.o,hbr.trans hset.2⟩
    case measure=>simp[intOf];omega
  ·obtain rfl:k=zha m:=zO;clear hcx hcy
   have hv2:val o=m-n:=by
    have e:=HV.o;rw[zTL zO,zTL (show zha m<=zha m from zLR _),zTL (show zha n<=zha m by omega),zka,zka]at e;have h1:=zgg hownr.lm;rw[hol]at h1;have h2:=pw_pos (zha m);rcases zOG c 1 with hc0 | hc0
    ·obtain rfl:c=0:=zO;omega
    ·obtain rfl:c=1:=zO;omega
   have HS:=zH (zik v _ _ hownr.nat (by rw[hol];omega));have HV2:=zH hv2;clear hv2 HV;go_wp2_with (go_at_call 201;refine HS.o.mono ?_;rintro e w' ⟨r,er,rfl,hr,hbl⟩);go_ret2;rw[HV2.o]at hr;exact⟨r,er,rfl,hr,hbel.trans ((hbr.trans (hbl.mono hbr.size)).mono hbel.size)⟩
end Go.Proofs.YtlpdkbmmbdfoiaaGreat
namespace Go.Proofs.YtlpdkbmmbdfoiaaGreat
theorem zgk (l:List Nat) (k:Nat) (h:k<l.length):val (l.drop k)=l[k]+4294967296*val (l.drop (k+1)):=by
 rw[List.drop_eq_getElem_cons h];rfl
theorem drop_set_of_lt {α:Type} (l:List α) (k:Nat) (z:α) (h:k<l.length):(l.set k z).drop k=z::l.drop (k+1):=by
 rw[List.drop_eq_getElem_cons (by simpa using h),List.drop_set_of_lt zO];simp
theorem zvp {q l:List Nat} {k d r x:Nat} (hk:k<q.length) (hl:val (l.drop k)=x+4294967296*val (l.drop (k+1))) (hd:0<d)
 (hv:val (l.drop (k+1))=d*val (q.drop (k+1))+r) (hr:r<d):
 val (l.drop k)=d*val ((q.set k ((r*4294967296+x)/d)).drop k)+(r*4294967296+x)%d:=by
 rw[drop_set_of_lt q k _ hk,hl,hv];simp only[val];have h:=Nat.div_add_mod (r*4294967296+x) d;generalize (r*4294967296+x)/d=a at *
 generalize (r*4294967296+x)%d=b at *
 grind
theorem ztn {d r x:Nat} (hd:d<4294967296) (hr:r<d) (hx:x<4294967296):(r*4294967296+x)/d<4294967296/\(r*4294967296+x)%d<d/\r*4294967296+x<18446744073709551616:=by
 refine⟨?_,zML2 _ zO,zO⟩;rw[Nat.div_lt_iff_lt_mul zO];have :r*4294967296+4294967296<=d*4294967296:=zO;omega
theorem up_step {o l:List Nat} {k c x P t:Nat} (hk:k<o.length) (hl:val (l.take (k+1))=val (l.take k)+pw k*x) (hv:val (o.take k)+pw k*c=P*val (l.take k)) (ht:t=P*x+c):
 val ((o.set k (t%4294967296)).take (k+1))+pw (k+1)*(t/4294967296)=P*val (l.take (k+1)):=by
 rw[zwb o k _ hk,hl,zyb];have h:t%4294967296+4294967296*(t/4294967296)=t:=zO;generalize t%4294967296=z at *
 generalize t/4294967296=d at *
 grind
theorem zrq {p q l:List Nat} {k c bo f x u z c' bo' lo:Nat} (hk:k<q.length) (hp:val (p.take (k+1))=val (p.take k)+pw k*u) (hl:val (l.take (k+1))=val (l.take k)+pw k*x)
 (ht:4294967296*c'+lo=c+f*x) (hz:z+lo+bo=u+4294967296*bo')
 (hv:val (q.take k)+f*val (l.take k)=val (p.take k)+pw k*(c+bo)):
 val ((q.set k z).take (k+1))+f*val (l.take (k+1))=val (p.take (k+1))+pw (k+1)*(c'+bo'):=by
 rw[zwb q k _ hk,hp,hl,zyb];generalize pw k=P at *
 generalize val (q.take k)=Q at *
 generalize val (p.take k)=R at *
 generalize val (l.take k)=L at *
 have h1:P*(4294967296*c'+lo)=P*(c+f*x):=by rw[ht]
 have h2:P*(z+lo+bo)=P*(u+4294967296*bo'):=by rw[hz]
 grind
theorem subtract_end {p q l:List Nat} {n c bo f z b:Nat} (hq:q.length=n+1) (hp:p.length=n+1) (hl:l.length=n) (hpn:p[n]' zO+4294967296*b=z+c+bo)
 (hv:val (q.take n)+f*val (l.take n)=val (p.take n)+pw n*(c+bo)):val (q.set n z)+f*val l=val p+b*pw (n+1):=by
 have e1:=zwb q n z zO;rw[zTL (by simp;omega)]at e1;have e2:=zma p n zO;rw[zTL zO]at e2;rw[zTL (by omega:l.length<=n)]at hv;rw[e1,e2,zyb];generalize p[n]' zO=u at *
 generalize pw n=P at *
 have h2:P*(u+4294967296*b)=P*(z+c+bo):=by rw[hpn]
 grind
theorem zun {α:Type} (A p C:List α) (k:Nat) (z:α) (h:k<p.length):(A++p++C).set (A.length+k) z=A++p.set k z++C:=by
 rw[List.append_assoc,List.set_append_right _ _ zO,zAS,List.set_append_left _ _ h,List.append_assoc]
theorem zng {α:Type} (A p C:List α) (k:Nat) (h:k<p.length):(A++p++C)[A.length+k]? =some p[k]:=by
 rw[List.append_assoc,List.getElem?_append_right zO,zAS,List.getElem?_append_left h,zGE h]
end Go.Proofs.YtlpdkbmmbdfoiaaGreat
namespace Go.Proofs.YtlpdkbmmbdfoiaaGreat
set_option maxHeartbeats 800000
open Go.RowKit
def RShort (w0:World) (n d:Nat) (e:Ending) (w:World):Prop:=
 ∃q,e= .returned (.tuple #[q, .int .u32 (n%d:Nat)])/\zub w q (n/d)/\Below w0.heap.size w0 w
theorem short_any (va:Value) (l:List Nat) (d:Nat) (w:World) (ha:ztc w va l) (hl:l.length<=65536) (hd:0<d) (hd2:d<4294967296):
 Calls Tryz.prog 223 #[va, .int .u32 d] w (RShort w (val l) d):=by
 have hlb:l.length<=4294967296:=zO;have HL:=zH hl;clear hl;obtain⟨i0,hi,hz0,hz1,hz2⟩:=info_parts Tryz.info102;have hM:=zme (P:=Tryz.prog) 36 142 i0 Tryz.underlying36 hi hz0 hz1 hz2;have sa:=ha.sl;have la:=ha.len;have hroom:l.length<=35184372088832:=zO;go_enter Tryz.func223,Tryz.ntmps223;go_wp2_with (refine hM _ rfl _ _ rfl w.heap.size _ l.length rfl rfl rfl hroom (zLR _) ?_;intro v w1 hown hb1 hvb);clear hM
 go_loopw [7,8] (λ u7 u8 wr=>∃ (k r:Nat) (q:List Nat),k<=l.length/\u8= .int .i64 ((k:Int)-1)/\u7= .int .u64 r/\r<d/\zzc wr 142 w.heap.size v q/\q.length=l.length/\
  val (l.drop k)=d*val (q.drop k)+r/\Below w.heap.size w wr) (λ _ u8 _=>(intOf u8+1).toNat)
 case atStart=>exact⟨l.length,0,_,zLR _,rfl,rfl,hd,hown,by simp,by rw[List.drop_of_length_le (zLR _),List.drop_of_length_le (by simp)];rfl,hb1⟩
 case round=>
  obtain⟨k,r,q,hk,rfl,rfl,hr,hownr,hol,hval,hbr⟩:=hrel;have hcx:=(ha.bw hbr).cell;have sv:=hownr.nat.sl;have lv:slen v=l.length:=by rw[hownr.nat.len,hol]
  have HV:=zH hval;clear hval;by_cases hk0:0<k
  ·obtain⟨j,rfl⟩:∃j,k=j+1:=⟨k-1,zO⟩;have hj1:j<l.length:=zO;have hx:=hcx j hj1;have hx1:l[j]'hj1<4294967296:=ha.lm _ (zGM _);have hfz:=hownr.frozen j zO;have hco:=hownr.nat.cell j zO;have HS:=zH (zvp (q:=q) (l:=l) (k:=j) (d:=d) (r:=r) zO (zgk l j hj1) hd HV.o hr);clear hcx;generalize l[j]'hj1=x at *
   obtain⟨b1,b2,b3⟩:=ztn hd2 hr hx1;have hor:=or_lo r x zO hx1;generalize r*4294967296+x=t at *
   go_wp2;have ew:=div_limb t d b1;have hset:=hownr.set j zO (t/d) b1;go_roundw
   case rel=>
    rw[ew];exact⟨j,t%d,_,zO,rfl,rfl,b2,hset.1,by simp[hol],HS.o,hbr.trans hset.2⟩
   case measure=>simp[intOf]
  ·obtain rfl:k=0:=zO;have e:=HV.o;simp only[List.drop_zero]at e;(have hq:val q=val l/d:=by rw[e,Nat.mul_add_div hd,Nat.div_eq_of_lt hr,Nat.add_zero]);(have hrr:r=val l%d:=by rw[e,Nat.mul_add_mod,Nat.mod_eq_of_lt hr]);have hcan:=hownr.nat.can zO;have HLN:=zH (zib v (val q) wr (hownr.nat.natN zO));have HC:=zH hcan;have HQ:=zH hq;have HR:=zH hrr;(have hcap:zha (val q)<=scap v:=by have:=sv.le;have:=zic hownr.lm;omega);clear hcx hcan hq hrr HV e;go_wp2_with (go_at_call 198;refine HLN.o.mono ?_;rintro e w' ⟨rfl,rfl⟩);go_ret2;refine⟨tk v (zha (val q)),by rw[<-HR.o];rfl,?_,hbr⟩;rw[<-HQ.o];exact HC.o
theorem up_any (va:Value) (l:List Nat) (s:Nat) (w:World) (ha:ztc w va l) (hl:l.length<=65536) (hs:s<32):
 Calls Tryz.prog 224 #[va, .int .u64 s] w λ e w'=>∃r o,e= .returned r/\zzc w' 142 w.heap.size r o/\o.length=l.length+1/\val o=2^s*val l/\Below w.heap.size w w':=by
 have hlb:l.length<=4294967296:=zO;have HL:=zH hl;clear hl;obtain⟨i0,hi,hz0,hz1,hz2⟩:=info_parts Tryz.info102;have hM:=zme (P:=Tryz.prog) 36 142 i0 Tryz.underlying36 hi hz0 hz1 hz2;have sa:=ha.sl;have la:=ha.len;have hroom:l.length+1<=35184372088832:=zO;go_enter Tryz.func224,Tryz.ntmps224;go_wp2_with (refine hM _ rfl _ _ rfl w.heap.size _ (l.length+1) rfl rfl rfl hroom (zLR _) ?_;intro v w1 hown hb1 hvb);clear hM
 go_loopw [6,15] (λ u6 u15 wr=>∃ (k c:Nat) (o:List Nat),k<=l.length/\u15= .int .i64 k/\u6= .int .u64 c/\c<2^s/\zzc wr 142 w.heap.size v o/\o.length=l.length+1/\
  val (o.take k)+pw k*c=2^s*val (l.take k)/\Below w.heap.size w wr) (λ _ u15 _=>l.length- (intOf u15).toNat)
 case atStart=>exact⟨0,0,_,zZL _,rfl,rfl,Nat.pow_pos zD,hown,by simp,by simp[val],hb1⟩
 case round=>
  obtain⟨k,c,o,hk,rfl,rfl,hc,hownr,hol,hval,hbr⟩:=hrel;have hcx:=(ha.bw hbr).cell;have sv:=hownr.nat.sl;have lv:slen v=l.length+1:=by rw[hownr.nat.len,hol]
  have HV:=zH hval;clear hval;by_cases hkp:k<l.length
  ·have hx:=hcx k hkp;have hx1:l[k]'hkp<4294967296:=ha.lm _ (zGM _);have hfz:=hownr.frozen k zO;have hco:=hownr.nat.cell k zO;have HX:=zH (zma l k hkp);clear hcx;generalize l[k]'hkp=x at *
   have hor:=or_up c x s hs hc hx1;obtain⟨b1,b2⟩:=up_bound c x s hs hc hx1;(have HT:=λ t=>zH (up_step (o:=o) (l:=l) (k:=k) (c:=c) (x:=x) (P:=2^s) (t:=t) zO HX.o HV.o));generalize hte:2^s*x+c=t at *
   have HTE:=zH hte;clear hte;go_wp2;have hset:=hownr.set k zO (t%4294967296) zO;go_roundw;(case rel=>exact⟨k+1,t/4294967296,_,zO,by go_num,rfl,b2,hset.1,by simp[hol],(HT t).o rfl,hbr.trans hset.2⟩);case measure=>simp[intOf];omega
  ·obtain rfl:k=l.length:=zO;have hP:2^s<=2^31:=Nat.pow_le_pow_right zD zO;have hc1:c<4294967296:=zO;have hfz:=hownr.frozen l.length zO;have hco:=hownr.nat.cell l.length zO;have hset:=hownr.set l.length zO c hc1
   have hv2:val (o.set l.length c)=2^s*val l:=by
    have e:=zwb o l.length c zO;rw[zTL (by simp;omega),HV.o,List.take_length]at e;exact e
   have HV2:=zH hv2;clear hv2 hcx hP HV;go_wp2;go_ret;exact⟨v,_,rfl,hset.1,by simp[hol],HV2.o,hbr.trans hset.2⟩
set_option maxHeartbeats 1600000
theorem zom (w:World) (row:Option Nat):w.grownBy w row:=⟨rfl,rfl,rfl,zLR _,λ _ _ _=>rfl⟩
theorem zod {w w1 w2:World} {row:Option Nat} (h:w.grownBy w1 row) (k:w1.grownBy w2 row):w.grownBy w2 row:=
 ⟨k.os.trans h.os,k.tape.trans h.tape,k.output.trans h.output,zLT h.size k.size,λ i hi hr=>(k.block i (zLM hi h.size) hr).trans (h.block i hi hr)⟩
theorem zld (w:World) (p:Addr) (u:Value):w.grownBy (w.setCell p u) (some p.block):=
 ⟨rfl,rfl,rfl,by simp[World.setCell],λ k _ hk=>Below.heap_setCell _ _ _ _ (λ e=>hk (by rw[e]))⟩
theorem zpd {w w':World} {b B:Nat} (h:w.grownBy w' (some b)) (hB:B<=b) (hs:B<=w.heap.size):Below B w w':=
 ⟨h.os,h.tape,h.output,h.size,λ k hk=>h.block k zO (λ e=>by injection e;omega)⟩
theorem ztc.grown {w w':World} {v:Value} {l:List Nat} {b:Nat} (h:ztc w v l) (hg:w.grownBy w' (some b)) (hb:(base v).block≠b):ztc w' v l:=
 ⟨h.sl,h.len,λ j hj=>by
  have hc:=h.cell j hj;have hlt:=World.block_lt_of_cell? w _ hc;rw[World.cell?_of_block (hg.block _ hlt (λ e=>hb (by injection e with e;rw[<-e,zya]))),hc],h.lm⟩
theorem and_mask (t:Nat) (ht:t<18446744073709551616):bits .and .u64 (t:Int) 4294967295=((t%4294967296:Nat):Int):=by
 have h:=u64_and_nat t 4294967295 ht zD
 have e:t &&& 4294967295=t%4294967296:=by
  have:=Nat.and_two_pow_sub_one_eq_mod t 32;simpa using this
 rw[e]at h;exact h
theorem sub_wrap2 (x y c:Nat) (hx:x<4294967296) (hy:y<4294967296) (hc:c<=1):∃z b:Nat,z<4294967296/\b<=1/\
 IntKind.u64.wrap (IntKind.u64.wrap ((x:Int)-y)-c)%4294967296=z/\IntKind.u64.wrap (IntKind.u64.wrap ((x:Int)-y)-c)/9223372036854775808=b/\z+y+c=x+4294967296*b:=by
 rw[zqc,zqc];by_cases h:c+y<=x
 ·exact⟨x-c-y,0,zO,zO,zO,zO,zO⟩
 ·exact⟨x+4294967296-c-y,1,zO,zO,zO,zO,zO⟩
theorem split_sum (c f x:Nat) (hc:c<4294967296) (hf:f<4294967296) (hx:x<4294967296):∃t c' lo:Nat,(c:Int)+(f:Int)*x=t/\bits .and .u64 (t:Int) 4294967295=lo/\(t:Int)/4294967296=c'/\
 c'<4294967296/\lo<4294967296/\4294967296*c'+lo=c+f*x/\t<=18446744073709551615:=by
 have hb:=(zoo hf hx (show 0<4294967296 by omega) hc).1;have e:=mul_cast c f x 0;have ha:=and_mask (f*x+0+c) hb;refine⟨f*x+0+c,(f*x+0+c)/4294967296,(f*x+0+c)%4294967296,by rw[<-e];simp,ha,zO,zO,zO,zO,zO⟩
theorem zdi (U V uv:Value) (A p C l:List Nat) (n f B:Nat) (w:World) (hU:zvc U) (hUl:slen U=n+1) (hUp:∀k,ptr U k=ptr uv (A.length+k))
 (hu:zzc w 142 B uv (A++p++C)) (hp:p.length=n+1) (hv:ztc w V l) (hl:l.length=n) (hn:n<=65536) (hf:f<4294967296) (hne:(base V).block≠(base uv).block):
 Calls Tryz.prog 225 #[U,V, .int .u64 f] w λ e w'=>∃ (b:Bool) (p':List Nat),e= .returned (.bool b)/\zzc w' 142 B uv (A++p'++C)/\p'.length=n+1/\
  val p'+f*val l=val p+(if b then 1 else 0)*pw (n+1)/\w.grownBy w' (some (base uv).block):=by
 have hnb:n<=4294967296:=zO;have HN:=zH hn;clear hn;have sV:=hv.sl;have lV:slen V=n:=by rw[hv.len,hl]
 have HUP:=zH hUp;clear hUp;go_enter Tryz.func225,Tryz.ntmps225;go_wp2_with fail
 go_loopw [7,8,15] (λ u7 u8 u15 wr=>∃ (k c bo:Nat) (q:List Nat),k<=n/\u15= .int .i64 k/\u7= .int .u64 c/\u8= .int .u64 bo/\c<4294967296/\bo<=1/\zzc wr 142 B uv (A++q++C)/\q.length=n+1/\
  val (q.take k)+f*val (l.take k)=val (p.take k)+pw k*(c+bo)/\q.drop k=p.drop k/\w.grownBy wr (some (base uv).block)) (λ _ _ u15 _=>n- (intOf u15).toNat)
 case atStart=>exact⟨0,0,0,p,zZL _,rfl,rfl,rfl,zO,zO,hu,hp,by simp[val],rfl,zom _ _⟩
 case round=>
  obtain⟨k,c,bo,q,hk,rfl,rfl,rfl,hc,hbo,hown,hql,hval,hdr,hgr⟩:=hrel;have hV:=hv.grown hgr hne;have HV:=zH hval;have HD:=zH hdr;clear hval hdr
  have hpq:∀ (h:k<n+1),q[k]' zO=p[k]' zO:=λ h=>by
   have:=congrArg (λ l=>l[0]?) HD.o;simp only[List.getElem?_drop,Nat.add_zero]at this;rw[zGE zO,zGE zO]at this;simpa using this
  by_cases hkn:k<n
  ·have hx:=hV.cell k zO;have hx1:l[k]' zO<4294967296:=hv.lm _ (zGM _);(have hlen:A.length+k<(A++q++C).length:=by simp;omega);have hco:=hown.nat.cell (A.length+k) hlen;rw[<-HUP.o k,(List.getElem_eq_iff hlen).2 (zng A q C k zO)]at hco;have hfz:=hown.frozen (A.length+k) hlen;rw[<-HUP.o k]at hfz
   have hu1:q[k]' zO<4294967296:=by
    have:=hown.lm _ (zGM (h:=hlen));rwa[(List.getElem_eq_iff hlen).2 (zng A q C k zO)]at this
   have hp1:=zma p k zO;rw[<-hpq zO]at hp1;have hl1:=zma l k zO;clear hpq;generalize l[k]' zO=x at *
   generalize q[k]' zO=u at *
   have HP:=zH hp1;have HL:=zH hl1;clear hp1 hl1;obtain⟨hb0,hb1⟩:=zbj hf hx1;obtain⟨t,c',lo,et,hand,hdiv,hc',hlo,hts,htm⟩:=split_sum c f x hc hf hx1;obtain⟨z,b',hz,hb',ez,eb,hzz⟩:=sub_wrap2 u lo bo hu1 hlo hbo;have HTS:=zH hts;have EZ:=zH ez;have EB:=zH eb;have HZZ:=zH hzz;clear hts ez eb hzz;go_wp2;have hset:=hown.set (A.length+k) hlen z hz;rw[zun A q C k z zO,<-HUP.o k]at hset;have hgs:=zld wr (ptr U k) (.int .u32 z);rw[show(ptr U k).block=(base uv).block from by rw[HUP.o k,zya]]at hgs;go_roundw
   case rel=>
    rw[EZ.o,EB.o];refine⟨k+1,c',b',q.set k z,zO,by go_num,rfl,rfl,hc',hb',hset.1,by simp[hql],zrq zO HP.o HL.o HTS.o HZZ.o HV.o,?_,zod hgr hgs⟩;have:=congrArg (List.drop 1) HD.o;rw[List.drop_drop,List.drop_drop]at this;rw[List.drop_set_of_lt zO];exact this
   case measure=>simp[intOf];omega
  ·obtain rfl:k=n:=zO;(have hlen:A.length+k<(A++q++C).length:=by simp;omega);have hco:=hown.nat.cell (A.length+k) hlen;rw[<-HUP.o k,(List.getElem_eq_iff hlen).2 (zng A q C k zO)]at hco;have hfz:=hown.frozen (A.length+k) hlen;rw[<-HUP.o k]at hfz
   have hu1:q[k]' zO<4294967296:=by
    have:=hown.lm _ (zGM (h:=hlen));rwa[(List.getElem_eq_iff hlen).2 (zng A q C k zO)]at this
   obtain⟨z,b',hz,hb',ez,eb,hzz⟩:=sub_wrap2 (q[k]' zO) c bo hu1 hc hbo;have hfin:=subtract_end (p:=p) (q:=q) (l:=l) (n:=k) (c:=c) (bo:=bo) (f:=f) (z:=z) (b:=b') hql hp hl (by rw[<-hpq zO];omega) HV.o;clear hpq;generalize q[k]' zO=u at *
   have EZ:=zH ez;have EB:=zH eb;have HF:=zH hfin;have hset:=hown.set (A.length+k) hlen z hz;rw[zun A q C k z zO,<-HUP.o k]at hset;have hgs:=zld wr (ptr U k) (.int .u32 z);rw[show(ptr U k).block=(base uv).block from by rw[HUP.o k,zya]]at hgs;have HS:=zH hset;have HG:=zH hgs;clear hzz ez eb hfin hset hgs HV HD hV;go_wp2;go_ret;rw[EZ.o];refine⟨decide (b'=1),q.set k z,?_,HS.o.1,by simp[hql],?_,zod hgr HG.o⟩
   ·(show Ending.returned (Value.bool _)=_);rw[EB.o]
    congr 2
    rw[Bool.eq_iff_iff];simp;omega
   ·rw[HF.o];have :b'=0\/b'=1:=zO;rcases this with rfl | rfl<;>simp
theorem zmj (U V uv:Value) (A p C l:List Nat) (n B:Nat) (w:World) (hU:zvc U) (hUl:slen U=n+1) (hUp:∀k,ptr U k=ptr uv (A.length+k))
 (hu:zzc w 142 B uv (A++p++C)) (hp:p.length=n+1) (hv:ztc w V l) (hl:l.length=n) (hn:n<=65536) (hne:(base V).block≠(base uv).block):
 Calls Tryz.prog 226 #[U,V] w λ e w'=>∃ (b:Nat) (p':List Nat),e= .returned (.tuple #[])/\zzc w' 142 B uv (A++p'++C)/\p'.length=n+1/\
  val p'+b*pw (n+1)=val p+val l/\w.grownBy w' (some (base uv).block):=by
 have hnb:n<=4294967296:=zO;have HN:=zH hn;clear hn;have sV:=hv.sl;have lV:slen V=n:=by rw[hv.len,hl]
 have HUP:=zH hUp;clear hUp;go_enter Tryz.func226,Tryz.ntmps226;go_wp2_with fail
 go_loopw [4,9] (λ u4 u9 wr=>∃ (k c:Nat) (q:List Nat),k<=n/\u9= .int .i64 k/\u4= .int .u64 c/\c<=1/\zzc wr 142 B uv (A++q++C)/\q.length=n+1/\
  val (q.take k)+pw k*c=val (p.take k)+val (l.take k)/\q.drop k=p.drop k/\w.grownBy wr (some (base uv).block)) (λ _ u9 _=>n- (intOf u9).toNat)
 case atStart=>exact⟨0,0,p,zZL _,rfl,rfl,zO,hu,hp,by simp[val],rfl,zom _ _⟩
 case round=>
  obtain⟨k,c,q,hk,rfl,rfl,hc,hown,hql,hval,hdr,hgr⟩:=hrel;have hV:=hv.grown hgr hne;have HV:=zH hval;have HD:=zH hdr;clear hval hdr
  have hpq:∀ (h:k<n+1),q[k]' zO=p[k]' zO:=λ h=>by
   have:=congrArg (λ l=>l[0]?) HD.o;simp only[List.getElem?_drop,Nat.add_zero]at this;rw[zGE zO,zGE zO]at this;simpa using this
  have hlen:k<n+1->A.length+k<(A++q++C).length:=λ h=>by simp;omega
  by_cases hkn:k<n
  ·have hlen:=hlen zO;have hx:=hV.cell k zO;have hx1:l[k]' zO<4294967296:=hv.lm _ (zGM _);have hco:=hown.nat.cell (A.length+k) hlen;rw[<-HUP.o k,(List.getElem_eq_iff hlen).2 (zng A q C k zO)]at hco;have hfz:=hown.frozen (A.length+k) hlen;rw[<-HUP.o k]at hfz
   have hu1:q[k]' zO<4294967296:=by
    have:=hown.lm _ (zGM (h:=hlen));rwa[(List.getElem_eq_iff hlen).2 (zng A q C k zO)]at this
   have hp1:=zma p k zO;rw[<-hpq zO]at hp1;have hl1:=zma l k zO;clear hpq;generalize l[k]' zO=x at *
   generalize q[k]' zO=u at *
   have HST:=zH (zgl (o:=q) (a:=p) (b:=l) (k:=k) (c:=c) (x:=u) (y:=x) zO hp1 hl1 HV.o);clear hp1 hl1;go_wp2;have hset:=hown.set (A.length+k) hlen ((c+u+x)%4294967296) zO;rw[zun A q C k _ zO,<-HUP.o k,show(((c+u+x)%4294967296:Nat):Int)=((c:Int)+(u+x))%4294967296 from zO]at hset;have hgs:=zld wr (ptr U k) (.int .u32 (((c:Int)+(u+x))%4294967296));rw[show(ptr U k).block=(base uv).block from by rw[HUP.o k,zya]]at hgs;go_roundw
   case rel=>
    refine⟨k+1,(c+u+x)/4294967296,q.set k _,zO,by go_num,congrArg (Value.int .u64) zO,zO,hset.1,by simp[hql],HST.o,?_,zod hgr hgs⟩;have:=congrArg (List.drop 1) HD.o;rw[List.drop_drop,List.drop_drop]at this;rw[List.drop_set_of_lt zO];exact this
   case measure=>simp[intOf];omega
  ·obtain rfl:k=n:=zO;have hlen:=hlen zO;have hco:=hown.nat.cell (A.length+k) hlen;rw[<-HUP.o k,(List.getElem_eq_iff hlen).2 (zng A q C k zO)]at hco;have hfz:=hown.frozen (A.length+k) hlen;rw[<-HUP.o k]at hfz
   have hu1:q[k]' zO<4294967296:=by
    have:=hown.lm _ (zGM (h:=hlen));rwa[(List.getElem_eq_iff hlen).2 (zng A q C k zO)]at this
   have hfin:val (q.set k ((q[k]' zO+c)%4294967296))+(q[k]' zO+c)/4294967296*pw (k+1)=val p+val l:=by
    have e1:=zwb q k ((q[k]' zO+c)%4294967296) zO;rw[zTL (by simp;omega)]at e1;have e2:=zma p k zO;rw[zTL zO,<-hpq zO]at e2;have e3:=HV.o;rw[zTL (by omega:l.length<=k)]at e3;rw[e1,e2,zyb];generalize q[k]' zO=u at *
    have h:(u+c)%4294967296+4294967296*((u+c)/4294967296)=u+c:=zO;generalize (u+c)%4294967296=zz at *
    generalize (u+c)/4294967296=dd at *
    grind
   clear hpq;generalize q[k]' zO=u at *
   have HF:=zH hfin;have hset:=hown.set (A.length+k) hlen ((u+c)%4294967296) zO;rw[zun A q C k _ zO,<-HUP.o k,show(((u+c)%4294967296:Nat):Int)=((u:Int)+c)%4294967296 from zO]at hset;have hgs:=zld wr (ptr U k) (.int .u32 (((u:Int)+c)%4294967296));rw[show(ptr U k).block=(base uv).block from by rw[HUP.o k,zya]]at hgs;have HS:=zH hset;have HG:=zH hgs;clear hfin hset hgs HV HD hV;go_wp2;go_end0;exact⟨_,_,rfl,HS.o.1,by simp[hql],HF.o,zod hgr HG.o⟩
end Go.Proofs.YtlpdkbmmbdfoiaaGreat
namespace Go.Proofs.YtlpdkbmmbdfoiaaGreat
theorem zip {U V U' V' P ul vl g:Nat} (hV:V=V'*P+vl) (hU:U=U'*P+ul) (hul:ul<P) (hV0:0<V) (h:U'<g*V'):U/V<g:=by
 rcases zOG (U/V) g with h1 | h1
 ·exact h1
 ·exfalso;have h2:g*V<=U:=zLT (zMR V h1) (Nat.div_mul_le_self U V);have h3:(U'+1)*P<=g*V'*P:=zMR P h;have h4:g*V=g*V'*P+g*vl:=by rw[hV,Nat.mul_add,Nat.mul_assoc]
  rw[Nat.add_mul,Nat.one_mul]at h3;omega
theorem digit_lower {U V U' V' P ul vl g:Nat} (hV:V=V'*P+vl) (hvl:vl<P) (hU:U=U'*P+ul) (hV0:0<V) (h:g*V'<=U') (hg:g<=V'+1):g<=U/V+1:=by
 cases g with
 | zero=>exact zZL _
 | succ g=>
   have h1:g*V<=U:=by
    (have a1:g*V=g*V'*P+g*vl:=by rw[hV,Nat.mul_add,Nat.mul_assoc]);have a2:g*vl<=g*P:=zML g zO;have a3:g*P<=V'*P:=zMR P zO;have a4:(g*V'+V')*P<=U'*P:=zMR P (by rw[Nat.succ_mul]at h;exact h);rw[Nat.add_mul]at a4;omega
   have:=(Nat.le_div_iff_mul_le hV0).2 h1;omega
theorem zgq {top next r head u2 g:Nat} (h:g*top+r=head):(r*4294967296+u2<g*next)↔(head*4294967296+u2<g*(top*4294967296+next)):=by
 subst h;have :g*(top*4294967296+next)=g*top*4294967296+g*next:=by rw[Nat.mul_add,Nat.mul_assoc]
 rw[this,Nat.add_mul];omega
theorem zpn (l:List Nat) (n:Nat) (h:n+2=l.length):val l=(l[n+1]' zO*4294967296+l[n]' zO)*pw n+val (l.take n):=by
 have h1:=zma l (n+1) zO;have h2:=zma l n zO;rw[zTL zO]at h1;rw[h1,h2,zyb];generalize l[n+1]' zO=b;generalize l[n]' zO=c;generalize pw n=P;generalize val (l.take n)=V;grind
theorem zdk (l:List Nat) (n:Nat) (h:n+3=l.length):val l=((l[n+2]' zO*4294967296+l[n+1]' zO)*4294967296+l[n]' zO)*pw n+val (l.take n):=by
 have h1:=zma l (n+2) zO;have h2:=zma l (n+1) zO;have h3:=zma l n zO;rw[zTL zO]at h1;have e1:pw (n+1)=4294967296*pw n:=zyb n;have e2:pw (n+2)=4294967296*(4294967296*pw n):=by rw[zyb (n+1),zyb n]
 rw[h1,h2,h3,e1,e2];generalize l[n+2]' zO=a;generalize l[n+1]' zO=b;generalize l[n]' zO=c;generalize pw n=P;generalize val (l.take n)=V;grind
theorem zae {l:List Nat} (h:Lm l) (n:Nat) (hn:n<=l.length):val (l.take n)<pw n:=by
 have:=zgg (l:=l.take n) (λ x hx=>h x (List.mem_of_mem_take hx));rwa[zTK,Nat.min_eq_left hn]at this
structure znp (p l:List Nat) (n:Nat):Prop where
 hp:n+3=p.length
 hl:n+2=l.length
 lp:Lm p
 ll:Lm l
 top:2147483648<=l[n+1]' zO
 lt:val p<val l*4294967296
section
variable {p l:List Nat} {n:Nat} (R:znp p l n)
include R
theorem znp.vpos :0<val l:=by
 have h:=zpn l n R.hl;have:=R.top;have h1:1*pw n<=(l[n+1]'(by have:=R.hl;omega)*4294967296+l[n]'(by have:=R.hl;omega))*pw n:=zMR _ zO;have:=pw_pos n;omega
theorem znp.first_le :p[n+2]'(by have:=R.hp;omega)<=l[n+1]'(by have:=R.hl;omega):=by
 have h1:=zdk p n R.hp;have h2:=zpn l n R.hl;have h3:=zae R.ll n (by have:=R.hl;omega);have h4:=R.lt;have e1:=R.ll _ (zGM (h:=show n<l.length by have:=R.hl;omega));generalize p[n+2]'(by have:=R.hp;omega)=a at *
 generalize p[n+1]'(by have:=R.hp;omega)=b at *
 generalize p[n]'(by have:=R.hp;omega)=c at *
 generalize l[n+1]'(by have:=R.hl;omega)=t at *
 generalize l[n]'(by have:=R.hl;omega)=s at *
 have hP:=pw_pos n;generalize pw n=P at *
 rcases zOG t a with h | h
 ·exfalso
  -- val l < (t + 1) * B * P, val p >= a B B P
  have i1:(t*4294967296+s+1)*P<=((t+1)*4294967296)*P:=zMR _ zO;have i2:((t+1)*4294967296*4294967296)*P<=((a*4294967296+b)*4294967296+c)*P:=zMR _ zO;rw[Nat.add_mul (t*4294967296+s),Nat.one_mul]at i1;have i3:((t+1)*4294967296*4294967296)*P=((t+1)*4294967296)*P*4294967296:=by rw[Nat.mul_right_comm]
  omega
 ·exact h
theorem znp.start :let head:=p[n+2]'(by have:=R.hp;omega)*4294967296+p[n+1]'(by have:=R.hp;omega)
 val p/val l<=head/l[n+1]'(by have:=R.hl;omega)/\head/l[n+1]'(by have:=R.hl;omega)<=4294967297:=by
 have h1:=zdk p n R.hp;have h2:=zpn l n R.hl;have h3:=zae R.lp n (by have:=R.hp;omega);have hv:=R.vpos;have hf:=R.first_le;have ht:=R.top;have e1:=R.lp _ (zGM (h:=show n<p.length by have:=R.hp;omega));have e2:=R.lp _ (zGM (h:=show n+1<p.length by have:=R.hp;omega));intro head;have hh:head=p[n+2]'(by have:=R.hp;omega)*4294967296+p[n+1]'(by have:=R.hp;omega):=rfl;rw[<-hh]at h1;generalize p[n+2]'(by have:=R.hp;omega)=a at *
 generalize p[n+1]'(by have:=R.hp;omega)=b at *
 generalize p[n]'(by have:=R.hp;omega)=c at *
 generalize l[n+1]'(by have:=R.hl;omega)=t at *
 generalize l[n]'(by have:=R.hl;omega)=s at *
 have hd:=Nat.div_add_mod head t;have hm:=zML2 head (show 0<t by omega);constructor
 ·have :val p/val l<head/t+1:=by
   refine zip h2 h1 h3 hv ?_;generalize head/t=g at *
   (have e:(g+1)*(t*4294967296+s)=t*g*4294967296+t*4294967296+(g+1)*s:=by grind);rw[e];omega
  omega
 ·have :head/t<4294967298:=by
   rw[Nat.div_lt_iff_lt_mul zO];omega
  omega
theorem znp.lt_B :val p/val l<4294967296:=by
 rw[Nat.div_lt_iff_lt_mul R.vpos,Nat.mul_comm];exact R.lt
theorem znp.lower {g r:Nat} (hg:val p/val l<=g) (hr:g*l[n+1]'(by have:=R.hl;omega)+r=p[n+2]'(by have:=R.hp;omega)*4294967296+p[n+1]'(by have:=R.hp;omega))
 (h:4294967296<=g\/r*4294967296+p[n]'(by have:=R.hp;omega)<g*l[n]'(by have:=R.hl;omega)):val p/val l<=g-1/\1<=g/\(g-1)*l[n+1]'(by have:=R.hl;omega)+(r+l[n+1]'(by have:=R.hl;omega))=p[n+2]'(by have:=R.hp;omega)*4294967296+p[n+1]'(by have:=R.hp;omega):=by
 have hB:=R.lt_B;have h1:=zdk p n R.hp;have h2:=zpn l n R.hl;have h3:=zae R.lp n (by have:=R.hp;omega);have hv:=R.vpos
 have hlt:val p/val l<g:=by
  rcases h with h | h
  ·omega
  ·exact zip h2 h1 h3 hv ((zgq hr).1 h)
 have hg1:1<=g:=Nat.succ_le_of_lt (zLL (zZL _) hlt);refine⟨Nat.le_sub_one_of_lt hlt,hg1,?_⟩;rw[<-hr];obtain⟨g,rfl⟩:∃k,g=k+1:=⟨g-1,zO⟩;rw[Nat.add_sub_cancel,Nat.add_mul,Nat.one_mul];omega
theorem znp.pass {g r:Nat} (hr:g*l[n+1]'(by have:=R.hl;omega)+r=p[n+2]'(by have:=R.hp;omega)*4294967296+p[n+1]'(by have:=R.hp;omega))
 (hg:g<4294967296) (h:¬r*4294967296+p[n]'(by have:=R.hp;omega)<g*l[n]'(by have:=R.hl;omega)):g<=val p/val l+1:=by
 have h1:=zdk p n R.hp;have h2:=zpn l n R.hl;have h3:=zae R.ll n (by have:=R.hl;omega);have ht:=R.top;have h4:=λ x=>h ((zgq hr).2 x)
 exact digit_lower h2 h3 h1 R.vpos (Nat.le_of_not_lt h4) zO
theorem znp.break {g r:Nat} (hr:g*l[n+1]'(by have:=R.hl;omega)+r=p[n+2]'(by have:=R.hp;omega)*4294967296+p[n+1]'(by have:=R.hp;omega))
 (h:4294967296<=r):g<4294967296/\g<=val p/val l+1:=by
 have hf:=R.first_le;have e2:=R.lp _ (zGM (h:=show n+1<p.length by have:=R.hp;omega));have e3:=R.ll _ (zGM (h:=show n<l.length by have:=R.hl;omega));have ht:=R.top
 have hg:g<4294967296:=by
  rcases zOG g 4294967296 with h' | h'
  ·exact h'
  ·exfalso;have:=zMR (l[n+1]'(by have:=R.hl;omega)) h';have:=zMR 4294967296 hf;omega
 refine⟨hg,R.pass hr hg ?_⟩;have :g*l[n]'(by have:=R.hl;omega)<=4294967295*4294967295:=zMM zO zO;omega
theorem znp.sub0 {g:Nat} {p1:List Nat} (hq:val p/val l<=g) (hg:g<=val p/val l+1) (h1:val p1+g*val l=val p):g=val p/val l/\val p1=val p%val l:=by
 have hd:=Nat.div_add_mod (val p) (val l);have hm:=zML2 (val p) R.vpos
 have hgq:g=val p/val l:=by
  have :g*val l<=val p:=zO;have:=(Nat.le_div_iff_mul_le R.vpos).2 this;omega
 refine⟨hgq,?_⟩;rw[hgq]at h1;rw[Nat.mul_comm]at hd;omega
theorem znp.sub1 {g b:Nat} {p1 p2:List Nat} (hq:val p/val l<=g) (hg:g<=val p/val l+1) (l1:Lm p1) (n1:p1.length=n+3) (l2:Lm p2) (n2:p2.length=n+3)
 (h1:val p1+g*val l=val p+pw (n+3)) (h2:val p2+b*pw (n+3)=val p1+val l):g-1=val p/val l/\1<=g/\val p2=val p%val l:=by
 have hd:=Nat.div_add_mod (val p) (val l);have hm:=zML2 (val p) R.vpos;have b1:=zgg l1;have b2:=zgg l2;rw[n1]at b1;rw[n2]at b2;have hlt:val p<g*val l:=zO
 have hgq:val p/val l<g:=by
  rw[Nat.div_lt_iff_lt_mul R.vpos];exact hlt
 have hg1:g=val p/val l+1:=zO;refine⟨by rw[hg1,Nat.add_sub_cancel],by rw[hg1];exact Nat.succ_pos _,?_⟩;rw[hg1,Nat.add_mul,Nat.one_mul]at h1;rw[Nat.mul_comm]at hd
 have hl:val l<pw (n+3):=by
  have:=zgg R.ll;rw[<-R.hl]at this;have:=pw_le (show n+2<=n+3 by omega);omega
 have :b=1:=by
  rcases zOG b 1 with hb | hb
  ·obtain rfl:b=0:=zO;omega
  ·rcases zOG b 2 with hb2 | hb2
   ·omega
   ·have:=zMR (pw (n+3)) hb2;omega
 subst this;omega
end
end Go.Proofs.YtlpdkbmmbdfoiaaGreat
