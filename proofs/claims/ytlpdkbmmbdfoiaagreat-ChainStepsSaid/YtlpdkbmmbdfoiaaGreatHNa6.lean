/-
  package natural: short, up, Bits.
-/
import Derived.Test.YtlpdkbmmbdfoiaaGreatHNa2
import Derived.WalkKit
set_option linter.unusedVariables false
set_option linter.unusedSimpArgs false
namespace Go.Proofs.YtlpdkbmmbdfoiaaGreat
set_option maxHeartbeats 800000
open Go.RowKit
theorem zal (w:World) (e:TypeId) (x y:Nat) (hx:x<4294967296) (hy:y<4294967296):
 zfc (w.alloc (.cells #[.int .u32 (x:Nat), .int .u32 (y:Nat)] e)) (.slice (some ⟨w.heap.size,0,none⟩) 2 2) [x,y]:=by
 refine⟨⟨_,2,2,rfl,Nat.le_refl _,by simp[maxLen],fun e=>by cases e⟩,rfl,fun j hj=> ?_,fun z hz=> ?_⟩
 ·have :j=0∨j=1:=by simp at hj;omega
  rcases this with rfl | rfl<;>simp[ptr,base,Addr.add]
 ·simp at hz;omega
theorem zxj (n:Nat) (hn:n<18446744073709551616) (w:World):
 Calls Tryz.prog 187 #[.int .u64 n] w (RNat w n):=by
 have HN:=zal w 142 (n%4294967296) (n/4294967296) (by omega) (by omega)
 rw[show((n%4294967296:Nat):Int)=(n:Int)%4294967296 from by omega,show((n/4294967296:Nat):Int)=(n:Int)/4294967296 from by omega]at HN
 have hv:val [n%4294967296,n/4294967296]=n:=by simp[val];omega
 have HL:=zH (zdb _ _ _ (HN.natN (by simp)))
 have HC:=zH (HN.can (by simp))
 have HV:=zH hv
 have hle:zda n≤2:=zzb.2 (by simp[pw];omega)
 have HB:=zH ((Below.refl w.heap.size w).alloc (Nat.le_refl _) (.cells #[.int .u32 ((n:Int)%4294967296), .int .u32 ((n:Int)/4294967296)] 142))
 clear HN hv
 go_enter Tryz.func187,Tryz.ntmps187
 go_wp2_with (go_at_call 198;refine HL.out.mono ?_;rw[HV.out];rintro e w' ⟨rfl,rfl⟩)
 go_ret
 refine⟨_,rfl,?_,HB.out⟩
 have:=HC.out
 rw[HV.out]at this
 exact this
theorem zob.len_le {w:World} {v:Value} {n:Nat} (h:zob w v n):zda n≤4294967296:=by
 obtain⟨l,hl,rfl,hll⟩:=h;exact Nat.le_trans (zsb hl.lm) hll
theorem zob.cells {w:World} {v:Value} {n:Nat} (h:zob w v n):∀ (j:Nat) (hj:j<zda n),w.cell? (ptr v j)=some (.int .u32 ((zla n)[j]'hj:Nat)):=by
 obtain⟨l,hl,rfl,hll⟩:=h
 intro j hj
 have:=(hl.can hll).1.cell j hj
 rwa[ptr_tk]at this
theorem zob.slen {w:World} {v:Value} {n:Nat} (h:zob w v n):zgc v∧zda n≤Go.Proofs.YtlpdkbmmbdfoiaaGreat.slen v∧Go.Proofs.YtlpdkbmmbdfoiaaGreat.slen v≤4294967296:=by
 obtain⟨l,hl,rfl,hll⟩:=h
 exact⟨hl.sl,by rw[hl.len];exact zsb hl.lm,by rw[hl.len];exact hll⟩
theorem ztl (va vb:Value) (m n:Nat) (w:World) (ha:zob w va m) (hb:zob w vb n):
 Calls Tryz.prog 159 #[va,vb] w fun e w'=>e= .returned (.int .i64 (zfj m n))∧∃k,w'=w.drewN k:=by
 obtain⟨sa,la,ua⟩:=ha.slen
 obtain⟨sb,lb,ub⟩:=hb.slen
 have ca:=ha.cells
 have cb:=hb.cells
 go_enter Tryz.func159,Tryz.ntmps159
 go_wp2_with (go_at_call 198;first | ((with_reducible refine(zdb va m _ ha).mono ?_);rintro e w' ⟨rfl,rfl⟩) | ((with_reducible refine(zdb vb n _ hb).mono ?_);rintro e w' ⟨rfl,rfl⟩))
 ·go_ret
  exact⟨by rw[zkg (zug (by assumption))];rfl,0,rfl⟩
 ·go_ret
  exact⟨by rw[zul (zug (by assumption))];rfl,0,rfl⟩
 ·have he:zda m=zda n:=by omega
  go_loopw [7] (fun i wr=>∃k q:Nat,k≤zda m∧i= .int .i64 ((k:Int)-1)∧(zla m).drop k=(zla n).drop k∧wr=w.drewN q) (fun i _=>(intOf i+1).toNat)
  case atStart=>exact⟨zda m,0,Nat.le_refl _,by simp,by rw[List.drop_of_length_le (show zda m≤zda m from Nat.le_refl _),List.drop_of_length_le (show zda n≤zda m by omega)],rfl⟩
  case round=>
   obtain⟨k,q,hk,rfl,hd,rfl⟩:=hrel
   have HD:=zH hd
   have HE:=zH he
   clear hd he
   by_cases hk0:0<k
   ·obtain⟨j,rfl⟩:∃j,k=j+1:=⟨k-1,by omega⟩
    have hj1:j<zda m:=by omega
    have hj2:j<zda n:=by have:=HE.out;omega
    have h1:=ca j hj1
    have h2:=cb j hj2
    have hlt:=zde (zrb m) j hj1 hj2 HD.out
    have hgt:=zde (zrb n) j hj2 hj1 HD.out.symm
    have heq:=zvm j hj1 hj2 HD.out
    rw[zha,zha]at hlt hgt
    clear ca cb HD
    generalize (zla m)[j]'hj1=x at *
    generalize (zla n)[j]'hj2=y at *
    have HL:=zH hlt
    have HG:=zH hgt
    have HQ:=zH heq
    clear hlt hgt heq
    by_cases hxy:x<y
    ·go_wp2
     go_quiet (fail)
     go_wp2
     go_ret
     exact⟨by rw[zkg (HL.out hxy)];rfl,_,by first | rfl | (simp only[World.drewN_drewN];rfl)⟩
    ·by_cases hyx:y<x
     ·go_wp2
      go_quiet (fail)
      go_wp2
      go_quiet (fail)
      go_wp2
      go_ret
      exact⟨by rw[zul (HG.out hyx)];rfl,_,by first | rfl | (simp only[World.drewN_drewN];rfl)⟩
     ·go_wp2
      go_quiet (fail)
      go_wp2
      go_quiet (fail)
      go_wp2
      go_roundw
      case rel=>exact⟨j,_,by omega,by go_num,HQ.out (by omega),by first | rfl | (simp only[World.drewN_drewN];rfl)⟩
      case measure=>simp[intOf]
   ·obtain rfl:k=0:=by omega
    have hmn:m=n:=zhg (by simpa using HD.out)
    have HM:=zH hmn
    clear hmn
    go_wp2
    go_ret
    exact⟨by rw[cmpN_eq HM.out];rfl,_,rfl⟩
set_option maxHeartbeats 800000
def RNatO (w0:World) (n:Nat) (e:Ending) (w:World):Prop:=∃r,e= .returned r∧zcc w 142 w0.heap.size r (zla n)∧zda n≤4294967296∧Below w0.heap.size w0 w
theorem RNatO.nat {w0:World} {n:Nat} {e:Ending} {w:World} (h:RNatO w0 n e w):RNat w0 n e w:=by
 obtain⟨r,h1,h2,h3,h4⟩:=h;exact⟨r,h1,⟨h2.nat,h3⟩,h4⟩
theorem zaf (l:List Nat) (j:Nat) (hj:j<l.length):l.getD j 0=l[j]:=by simp[List.getD,hj]
theorem zjk (v:Value) (n:Nat) (w:World) (h:zob w v n):
 Calls Tryz.prog 106 #[v] w (RNatO w n):=by
 obtain⟨l,hl,HE,hll⟩:=h
 have hs:=hl.sl
 have hlen:=hl.len
 have hle:=hs.le
 have hcan:=hl.can hll
 rw[HE]at hcan
 have hce:clen l=zda n:=by rw[zhj hl.lm,HE]
 have hcl:=zsb hl.lm
 rw[HE]at hcl
 have HCE:=zH hce
 clear HE hce
 have HLL:=zH hll
 clear hll
 have hcs:zda n≤scap v:=by omega
 obtain⟨i0,hi,hz0,hz1,hz2⟩:=info_parts Tryz.info102
 have hroom:([]:List Nat).length+(zla n).length≤35184372088832:=by have:=hcan.2;unfold zda at this;simp;omega
 have hA:=zkj (P:=Tryz.prog) 36 142 i0 Tryz.underlying36 hi hz0 hz1 hz2
 have HR:=zH hroom
 have HN:=zH hcan
 clear hroom hcan hi hz0 hz1 hz2
 go_enter Tryz.func106,Tryz.ntmps106
 go_wp2
 go_loop [3] (fun i=>∃k:Nat,k≤l.length∧i= .int .i64 k∧clen (l.take k)=clen l) (fun i=>(intOf i).toNat)
 case atStart=>exact⟨l.length,Nat.le_refl _,by simp[hlen],by rw[List.take_length]⟩
 case round=>
  obtain⟨k,hk,rfl,hce⟩:=hrel
  have HC:=zH hce;clear hce
  by_cases h1:0<k∧l.getD (k-1) 0=0
  ·obtain⟨h0,hx⟩:=h1
   obtain⟨j,rfl⟩:∃j,k=j+1:=⟨k-1,by omega⟩
   have hj:j<l.length:=by omega
   rw[Nat.add_sub_cancel,zaf _ _ hj]at hx
   have hc:=hl.cell j hj
   have HZ:=zH (zbf l j hj hx)
   rw[hx]at hc
   clear hx
   go_wp2_with fail
   go_round
   case rel=>exact⟨j,by omega,rfl,by rw[←HC.out,HZ.out]⟩
   case measure=>simp[intOf]
  ·have e:zda n=k:=by
    rw[←HCE.out,←HC.out]
    by_cases h0:0<k
    ·obtain⟨j,rfl⟩:∃j,k=j+1:=⟨k-1,by omega⟩
     have hj:j<l.length:=by omega
     exact zki l j hj (fun hx=>h1 ⟨h0,by rw[Nat.add_sub_cancel,zaf _ _ hj,hx]⟩)
    ·obtain rfl:k=0:=by omega
     rfl
   rw[e]at HN hcs hcl
   have hc:0<k→∃x:Nat,w.cell? (ptr v (k-1))=some (.int .u32 x)∧(((x:Nat):Int)==0)=false:=fun h0=>by
    have hj:k-1<l.length:=by omega
    refine⟨_,hl.cell (k-1) hj,?_⟩
    have :l[k-1]≠0:=fun hx=>h1 ⟨h0,by rw[zaf _ _ hj,hx]⟩
    have :((l[k-1]:Nat):Int)≠0:=by omega
    simpa using this
   clear h1 e
   rcases Nat.eq_zero_or_pos k with h0 | h0
   ·clear hc
    subst h0
    go_wp2_with (at_builtin;refine hA w rfl _ _ rfl w.heap.size _ [] rfl (zcc.nil _ _ _) _ rfl (zla n) HN.out.1 HR.out (Nat.le_refl _) ?_;intro v' w1 hown _ hbel)
    go_ret
    exact⟨v',rfl,by simpa using hown,HN.out.2,hbel⟩
   ·obtain⟨x,hx,hx3⟩:=hc h0
    clear hc
    go_wp2_with (at_builtin;refine hA w rfl _ _ rfl w.heap.size _ [] rfl (zcc.nil _ _ _) _ rfl (zla n) HN.out.1 HR.out (Nat.le_refl _) ?_;intro v' w1 hown _ hbel)
    go_ret
    exact⟨v',rfl,by simpa using hown,HN.out.2,hbel⟩
theorem zra (v:Value) (n:Nat) (w:World) (h:zob w v n):
 Calls Tryz.prog 106 #[v] w (RNat w n):=(zjk v n w h).mono fun _ _ h=>h.nat
theorem zkd (n:Nat) (hn:n<18446744073709551616) (w:World):
 Calls Tryz.prog 72 #[.int .u64 n] w (RNat w n):=by
 have HN:=zal w 142 (n%4294967296) (n/4294967296) (by omega) (by omega)
 rw[show((n%4294967296:Nat):Int)=(n:Int)%4294967296 from by omega,show((n/4294967296:Nat):Int)=(n:Int)/4294967296 from by omega]at HN
 have hv:val [n%4294967296,n/4294967296]=n:=by simp[val];omega
 have HL:=HN.natN (by simp)
 rw[hv]at HL
 have HT:=zH (zra _ _ _ HL)
 have HB:=zH ((Below.refl w.heap.size w).alloc (Nat.le_refl _) (.cells #[.int .u32 ((n:Int)%4294967296), .int .u32 ((n:Int)/4294967296)] 142))
 clear HN hv HL
 go_enter Tryz.func72,Tryz.ntmps72
 go_wp2_with (go_at_call 106;refine HT.out.mono ?_;rintro e w1 ⟨r,rfl,hr,hb⟩)
 go_ret
 exact⟨_,rfl,hr,HB.out.trans (hb.mono HB.out.size)⟩
theorem zti (v:Value) (n:Nat) (w:World) (h:zob w v n):
 Calls Tryz.prog 152 #[v] w fun e w'=>e= .returned (.bool (decide (512<zda n)))∧Below w.heap.size w w':=by
 go_enter Tryz.func152,Tryz.ntmps152
 go_wp2_with (go_at_call 106;refine(zra v n _ h).mono ?_;rintro e w1 ⟨r,rfl,hr,hb⟩;have h1:=hr.1.sl;have h2:slen r=zda n:=hr.1.len)
 go_ret
 exact⟨by congr 2;simp;omega,hb⟩
theorem zyc (v:Value) (n:Nat) (w:World) (h:zob w v n) (hn:zda n≤512):
 Calls Tryz.prog 152 #[v] w fun e w'=>e= .returned (.bool false)∧Below w.heap.size w w':=
 (zti v n w h).mono fun e w' ⟨h1,h2⟩=>⟨by rw[h1,decide_eq_false (by omega)],h2⟩
theorem zee (va vb:Value) (m n:Nat) (w:World) (ha:zob w va m) (hb:zob w vb n):
 Calls Tryz.prog 77 #[va,vb] w fun e w'=>e= .returned (.int .i64 (zfj m n))∧Below w.heap.size w w':=by
 go_enter Tryz.func77,Tryz.ntmps77
 go_wp2_with (go_at_call 106;first
  |((with_reducible refine(zra va m _ ha).mono ?_);rintro e w1 ⟨ra,rfl,hra,hb1⟩)
  |((with_reducible refine(zra vb n _ (hb.below hb1)).mono ?_);rintro e w2 ⟨rb,rfl,hrb,hb2⟩
    have h1:=(hra.below hb2).1.sl
    have h2:slen ra=zda m:=(hra.below hb2).1.len
    have h3:=hrb.1.sl
    have h4:slen rb=zda n:=hrb.1.len
    have h5:zda m≤4294967296:=hra.2))
 ·go_ret
  exact⟨by rw[zkg (zug (by assumption))];rfl,hb1.trans (hb2.mono hb1.size)⟩
 ·have hne:((zda m:Nat):Int)≠zda n:=by simpa using ‹((zda m:Int) != (zda n:Int))=true›
  have hlt:¬zda m<zda n:=by assumption
  go_ret
  exact⟨by rw[zul (zug (by omega))];rfl,hb1.trans (hb2.mono hb1.size)⟩
 ·have he:zda m=zda n:=by
   have :((zda m:Nat):Int)=zda n:=by simpa using ‹((zda m:Int) != (zda n:Int))=false›
   omega
  have HB:=zH (hb1.trans (hb2.mono hb1.size))
  have ca:=(hra.below hb2).1.cell
  have cb:=hrb.1.cell
  have hln:=hrb.2
  clear ha hb hb1 hb2 hra hrb
  have HE:=zH he
  rw[←he]at hln
  clear he
  go_loopw [5] (fun i wr=>∃k q:Nat,k≤zda m∧i= .int .i64 ((k:Int)-1)∧(zla m).drop k=(zla n).drop k∧wr=w2.drewN q) (fun i _=>(intOf i+1).toNat)
  case atStart=>exact⟨zda m,0,Nat.le_refl _,by simp,by rw[List.drop_of_length_le (show zda m≤zda m from Nat.le_refl _),List.drop_of_length_le (show zda n≤zda m by have:=HE.out;omega)],rfl⟩
  case round=>
   obtain⟨k,q,hk,rfl,hd,rfl⟩:=hrel
   have HD:=zH hd
   clear hd
   by_cases hk0:0<k
   ·obtain⟨j,rfl⟩:∃j,k=j+1:=⟨k-1,by omega⟩
    have hj1:j<zda m:=by omega
    have hj2:j<zda n:=by have:=HE.out;omega
    have h7:=ca j hj1
    have h8:=cb j hj2
    have hlt:=zde (zrb m) j hj1 hj2 HD.out
    have hgt:=zde (zrb n) j hj2 hj1 HD.out.symm
    have heq:=zvm j hj1 hj2 HD.out
    rw[zha,zha]at hlt hgt
    clear ca cb HD
    generalize (zla m)[j]'hj1=x at *
    generalize (zla n)[j]'hj2=y at *
    have HL:=zH hlt
    have HG:=zH hgt
    have HQ:=zH heq
    clear hlt hgt heq
    by_cases hxy:x<y
    ·go_wp2
     go_quiet (fail)
     go_wp2
     go_ret
     exact⟨by rw[zkg (HL.out hxy)];rfl,by first | exact HB.out.trans ((zka _ _).mono HB.out.size) | (simp only[World.drewN_drewN];exact HB.out.trans ((zka _ _).mono HB.out.size))⟩
    ·by_cases hyx:y<x
     ·go_wp2
      go_quiet (fail)
      go_wp2
      go_quiet (fail)
      go_wp2
      go_ret
      exact⟨by rw[zul (HG.out hyx)];rfl,by first | exact HB.out.trans ((zka _ _).mono HB.out.size) | (simp only[World.drewN_drewN];exact HB.out.trans ((zka _ _).mono HB.out.size))⟩
     ·go_wp2
      go_quiet (fail)
      go_wp2
      go_quiet (fail)
      go_wp2
      go_roundw
      case rel=>exact⟨j,_,by omega,by go_num,HQ.out (by omega),by first | rfl | (simp only[World.drewN_drewN];rfl)⟩
      case measure=>simp[intOf]
   ·obtain rfl:k=0:=by omega
    have hmn:m=n:=zhg (by simpa using HD.out)
    have HM:=zH hmn
    clear hmn
    go_wp2
    go_ret
    exact⟨by rw[cmpN_eq HM.out];rfl,HB.out.trans ((zka _ _).mono HB.out.size)⟩
end Go.Proofs.YtlpdkbmmbdfoiaaGreat
namespace Go.Proofs.YtlpdkbmmbdfoiaaGreat
theorem zzk (a b s:Nat) (h:b<2^s):(2^s*a) ||| b=2^s*a+b:=(Nat.two_pow_add_eq_or_of_lt h a).symm
theorem or_lo (r x:Nat) (hr:r<4294967296) (hx:x<4294967296):bits .or .u64 ((r:Int)*4294967296) (x:Int)=((r*4294967296+x:Nat):Int):=by
 have h:=u64_or_nat (4294967296*r) x (by omega) (by omega)
 rw[show((4294967296*r:Nat):Int)=(r:Int)*4294967296 from by omega]at h
 rw[h]
 have:=zzk r x 32 (by omega)
 rw[show(2:Nat)^32=4294967296 from by decide]at this
 rw[this]
 congr 1
 omega
theorem or_hi (c x P s:Nat) (hP:P=2^s) (hc:c<P) (hx:P*x<18446744073709551616) (hPl:P<18446744073709551616):bits .or .u64 (c:Int) ((P*x:Nat):Int)=((P*x+c:Nat):Int):=by
 subst hP
 rw[u64_or_nat c (2^s*x) (by omega) hx,Nat.or_comm,zzk x c s hc]
theorem zyb (n:Int):IntKind.u64.wrap n=n%18446744073709551616:=by
 simp[IntKind.wrap,IntKind.bits,IntKind.signed]
theorem div_limb (t d:Nat) (h:t/d<4294967296):IntKind.u64.wrap ((t:Int)/d)%4294967296=((t/d:Nat):Int):=by
 rw[zyb,←Int.natCast_ediv];generalize t/d=q at *;omega
theorem or_up (c x s:Nat) (hs:s<32) (hc:c<2^s) (hx:x<4294967296):bits .or .u64 (c:Int) (IntKind.u64.wrap ((x:Int)*2^s))=((2^s*x+c:Nat):Int):=by
 have hP:2^s≤2^31:=Nat.pow_le_pow_right (by decide) (by omega)
 have h1:2^s*x≤2^31*4294967295:=Nat.mul_le_mul hP (by omega)
 have h2:((x:Int)*2^s)=((2^s*x:Nat):Int):=by rw[Int.natCast_mul,Int.natCast_pow];exact Int.mul_comm _ _
 rw[h2,zyb]
 have h3:((2^s*x:Nat):Int)%18446744073709551616=((2^s*x:Nat):Int):=by omega
 rw[h3]
 exact or_hi c x (2^s) s rfl hc (by omega) (by omega)
theorem up_bound (c x s:Nat) (hs:s<32) (hc:c<2^s) (hx:x<4294967296):2^s*x+c<18446744073709551616∧(2^s*x+c)/4294967296<2^s:=by
 have hP:2^s≤2^31:=Nat.pow_le_pow_right (by decide) (by omega)
 have h1:2^s*x≤2^31*4294967295:=Nat.mul_le_mul hP (by omega)
 have h2:2^s*(x+1)≤2^s*4294967296:=Nat.mul_le_mul_left _ (by omega)
 rw[Nat.mul_add,Nat.mul_one]at h2
 refine⟨by omega,?_⟩
 rw[Nat.div_lt_iff_lt_mul (by decide)]
 omega
end Go.Proofs.YtlpdkbmmbdfoiaaGreat
namespace Go.Proofs.YtlpdkbmmbdfoiaaGreat
set_option maxHeartbeats 1000000
open Go.RowKit
theorem zmf (l:List Nat) (k:Nat):val (l.take (k+1))=val (l.take k)+pw k*l.getD k 0:=by
 by_cases h:k<l.length
 ·rw[zia l k h,zaf l k h]
 ·rw[zza l (k+1) (by omega),zza l k (by omega)]
  have :l.getD k 0=0:=by simp[List.getD,List.getElem?_eq_none (Nat.le_of_not_lt h)]
  rw[this,Nat.mul_zero,Nat.add_zero]
theorem zmh (o:List Nat) (z:Nat):val (o++ [z])=val o+pw o.length*z:=by rw[zac];simp[val]
theorem zwh {o a b:List Nat} {k c x y:Nat} (ho:o.length=k) (ha:val (a.take (k+1))=val (a.take k)+pw k*x) (hb:val (b.take (k+1))=val (b.take k)+pw k*y)
 (hv:val o+pw k*c=val (a.take k)+val (b.take k)):
 val (o++ [(c+x+y)%4294967296])+pw (k+1)*((c+x+y)/4294967296)=val (a.take (k+1))+val (b.take (k+1)):=by
 rw[zmh,ha,hb,zmb,ho]
 have h:(c+x+y)%4294967296+4294967296*((c+x+y)/4294967296)=c+x+y:=by omega
 generalize (c+x+y)%4294967296=z at *
 generalize (c+x+y)/4294967296=d at *
 grind
theorem plus_any (va vb:Value) (a b:List Nat) (w:World) (ha:zfc w va a) (hb:zfc w vb b) (hla:a.length≤65536) (hlb:b.length≤65536):
 Calls Tryz.prog 153 #[va,vb] w (RNat w (val a+val b)):=by
 obtain⟨i0,hi,hz0,hz1,hz2⟩:=info_parts Tryz.info102
 have hA1:=zuf (P:=Tryz.prog) 36 142 i0 Tryz.underlying36 hi hz0 hz1 hz2
 clear hi hz0 hz1 hz2
 have sa:=ha.sl
 have sb:=hb.sl
 have la:=ha.len
 have lb:=hb.len
 go_enter Tryz.func153,Tryz.ntmps153
 go_wp2_with fail
 go_loopw [5,6,7] (fun u5 u6 u7 wr=>∃ (k c:Nat) (o:List Nat),k≤65537∧(c=0∨k≤a.length∨k≤b.length)∧u7= .int .i64 k∧u6= .int .u64 c∧c≤1∧zcc wr 142 w.heap.size u5 o∧o.length=k∧
  val o+pw k*c=val (a.take k)+val (b.take k)∧Below w.heap.size w wr) (fun _ u6 u7 _=>2*(a.length+b.length+1- (intOf u7).toNat)+(intOf u6).toNat)
 case atStart=>exact⟨0,0,[],by omega,Or.inl rfl,rfl,rfl,by omega,zcc.nil _ _ _,rfl,by simp[val],Below.refl _ _⟩
 case round=>
  obtain⟨k,c,o,hkb,hk,rfl,rfl,hc,hownr,hol,hval,hbr⟩:=hrel
  have HOL:=zH hol
  have HV:=zH hval
  have HK:=zH hk
  have HO:Hid (o.length+1≤4294967296):=zH (by omega)
  clear hol hval hk
  by_cases h1:k<a.length
  ·have hx:=(ha.below hbr).cell k h1
   have hx1:=ha.lt k h1
   have HX:=zH (zia a k h1)
   generalize a[k]=x at *
   have HK1:Hid ((c+x+0)/4294967296=0∨k+1≤a.length∨k+1≤b.length):=zH (by omega)
   by_cases h2:k<b.length
   ·have hy:=(hb.below hbr).cell k h2
    have hy1:=hb.lt k h2
    have HY:=zH (zia b k h2)
    generalize b[k]=y at *
    have HS:=zH (zwh HOL.out HX.out HY.out HV.out)
    have HK1:Hid ((c+x+y)/4294967296=0∨k+1≤a.length∨k+1≤b.length):=zH (by omega)
    go_wp2_with (at_builtin;refine hA1 wr rfl _ _ rfl w.heap.size _ u5 o rfl (by exact hownr) _ ((c+x+y)%4294967296) (by omega) (by omega) rfl (Nat.le_trans HO.out (by decide)) hbr.size ?_;intro v' w1 hown1 hbel1)
    go_roundw
    case rel=>exact⟨k+1,(c+x+y)/4294967296,_,by have:=HK.out;omega,HK1.out,by go_num,by go_num,by omega,hown1,by simp[HOL.out],HS.out,hbr.trans (hbel1.mono (Nat.le_refl _))⟩
    case measure=>simp[intOf];omega
   ·have HS:=zH (zwh (y:=0) HOL.out HX.out (by rw[zza b (k+1) (by omega),zza b k (by omega)];simp) HV.out)
    go_wp2_with (at_builtin;refine hA1 wr rfl _ _ rfl w.heap.size _ u5 o rfl (by exact hownr) _ ((c+x+0)%4294967296) (by omega) (by omega) rfl (Nat.le_trans HO.out (by decide)) hbr.size ?_;intro v' w1 hown1 hbel1)
    go_roundw
    case rel=>exact⟨k+1,(c+x+0)/4294967296,_,by have:=HK.out;omega,HK1.out,by go_num,by go_num,by omega,hown1,by simp[HOL.out],HS.out,hbr.trans (hbel1.mono (Nat.le_refl _))⟩
    case measure=>simp[intOf];omega
  ·by_cases h2:k<b.length
   ·have hy:=(hb.below hbr).cell k h2
    have hy1:=hb.lt k h2
    have HY:=zH (zia b k h2)
    generalize b[k]=y at *
    have HS:=zH (zwh (x:=0) HOL.out (by rw[zza a (k+1) (by omega),zza a k (by omega)];simp) HY.out HV.out)
    have HK1:Hid ((c+0+y)/4294967296=0∨k+1≤a.length∨k+1≤b.length):=zH (by omega)
    go_wp2_with (at_builtin;refine hA1 wr rfl _ _ rfl w.heap.size _ u5 o rfl (by exact hownr) _ ((c+0+y)%4294967296) (by omega) (by omega) rfl (Nat.le_trans HO.out (by decide)) hbr.size ?_;intro v' w1 hown1 hbel1)
    go_roundw
    case rel=>exact⟨k+1,(c+0+y)/4294967296,_,by have:=HK.out;omega,HK1.out,by go_num,by go_num,by omega,hown1,by simp[HOL.out],HS.out,hbr.trans (hbel1.mono (Nat.le_refl _))⟩
    case measure=>simp[intOf];omega
   ·have e1:=zza a k (by omega)
    have e2:=zza b k (by omega)
    have f1:=zza a (k+1) (by omega)
    have f2:=zza b (k+1) (by omega)
    by_cases hc0:0<c
    ·obtain rfl:c=1:=by omega
     have HS:=zH (zwh (x:=0) (y:=0) HOL.out (by rw[e1,f1];simp) (by rw[e2,f2];simp) HV.out)
     have HK1:Hid ((1+0+0)/4294967296=0∨k+1≤a.length∨k+1≤b.length):=zH (Or.inl rfl)
     clear e1 e2 f1 f2
     go_wp2_with (at_builtin;refine hA1 wr rfl _ _ rfl w.heap.size _ u5 o rfl (by exact hownr) _ ((1+0+0)%4294967296) (by omega) (by omega) rfl (Nat.le_trans HO.out (by decide)) hbr.size ?_;intro v' w1 hown1 hbel1)
     go_roundw
     case rel=>exact⟨k+1,(1+0+0)/4294967296,_,by have:=HK.out;omega,HK1.out,by go_num,by go_num,by omega,hown1,by simp[HOL.out],HS.out,hbr.trans (hbel1.mono (Nat.le_refl _))⟩
     case measure=>simp[intOf];omega
    ·obtain rfl:c=0:=by omega
     have hv:val o=val a+val b:=by have:=HV.out;rw[e1,e2]at this;omega
     have HT:=zra _ _ wr (hownr.nat.natN (by have:=HO.out;omega))
     rw[hv]at HT
     have HT2:=zH HT
     clear HT hv e1 e2 f1 f2
     go_wp2_with (go_at_call 106;refine HT2.out.mono ?_;rintro e w1 ⟨r,rfl,hr,hb⟩)
     go_ret
     exact⟨r,rfl,hr,hbr.trans (hb.mono hbr.size)⟩
theorem ztg {o a b:List Nat} {k bo x y z bo':Nat} (ho:o.length=k) (ha:val (a.take (k+1))=val (a.take k)+pw k*x) (hb:val (b.take (k+1))=val (b.take k)+pw k*y)
 (hz:z+bo+y=x+4294967296*bo') (hv:val o+val (b.take k)=val (a.take k)+pw k*bo):
 val (o++ [z])+val (b.take (k+1))=val (a.take (k+1))+pw (k+1)*bo':=by
 rw[zmh,ha,hb,zmb,ho]
 grind
theorem minus_end {o a b:List Nat} {bo:Nat} (hb:val b≤val a) (ho:Lm o) (hol:o.length=a.length) (hbo:bo≤1) (hv:val o+val b=val a+pw a.length*bo):val o=val a-val b:=by
 have h1:=zoe ho
 rw[hol]at h1
 rcases Nat.eq_zero_or_pos bo with h | h
 ·subst h;omega
 ·obtain rfl:bo=1:=by omega
  omega
theorem zdl (va vb:Value) (a b:List Nat) (w:World) (ha:zfc w va a) (hb:zfc w vb b) (hla:a.length≤65536) (hlb:b.length≤a.length) (hba:val b≤val a):
 Calls Tryz.prog 155 #[va,vb] w (RNatO w (val a-val b)):=by
 obtain⟨i0,hi,hz0,hz1,hz2⟩:=info_parts Tryz.info102
 have hA1:=zuf (P:=Tryz.prog) 36 142 i0 Tryz.underlying36 hi hz0 hz1 hz2
 clear hi hz0 hz1 hz2
 have HBA:=zH hba
 clear hba
 have sa:=ha.sl
 have sb:=hb.sl
 have la:=ha.len
 have lb:=hb.len
 go_enter Tryz.func155,Tryz.ntmps155
 go_wp2_with fail
 go_loopw [5,6,7] (fun u5 u6 u7 wr=>∃ (k bo:Nat) (o:List Nat),k≤a.length∧u7= .int .i64 k∧u6= .int .u64 bo∧bo≤1∧zcc wr 142 w.heap.size u5 o∧o.length=k∧
  val o+val (b.take k)=val (a.take k)+pw k*bo∧Below w.heap.size w wr) (fun _ _ u7 _=>a.length- (intOf u7).toNat)
 case atStart=>exact⟨0,0,[],by omega,rfl,rfl,by omega,zcc.nil _ _ _,rfl,by simp[val],Below.refl _ _⟩
 case round=>
  obtain⟨k,bo,o,hk,rfl,rfl,hc,hownr,hol,hval,hbr⟩:=hrel
  have HOL:=zH hol
  have HV:=zH hval
  have HO:Hid (o.length+1≤4294967296):=zH (by omega)
  clear hol hval
  by_cases h1:k<a.length
  ·have hx:=(ha.below hbr).cell k h1
   have hx1:=ha.lt k h1
   have HX:=zH (zia a k h1)
   generalize a[k]=x at *
   by_cases h2:k<b.length
   ·have hy:=(hb.below hbr).cell k h2
    have hy1:=hb.lt k h2
    have HY:=zH (zia b k h2)
    generalize b[k]=y at *
    by_cases h3:x<bo+y
    ·have HS:=zH (ztg (z:=x+4294967296- (bo+y)) (bo':=1) HOL.out HX.out HY.out (by omega) HV.out)
     go_wp2_with (at_builtin;refine hA1 wr rfl _ _ rfl w.heap.size _ u5 o rfl (by exact hownr) _ (x+4294967296- (bo+y)) (by omega) (by omega) rfl (Nat.le_trans HO.out (by decide)) hbr.size ?_;intro v' w1 hown1 hbel1)
     go_roundw
     case rel=>exact⟨k+1,1,_,by omega,by go_num,by go_num,by omega,hown1,by simp[HOL.out],HS.out,hbr.trans (hbel1.mono (Nat.le_refl _))⟩
     case measure=>simp[intOf];omega
    ·have HS:=zH (ztg (z:=x- (bo+y)) (bo':=0) HOL.out HX.out HY.out (by omega) HV.out)
     go_wp2_with (at_builtin;refine hA1 wr rfl _ _ rfl w.heap.size _ u5 o rfl (by exact hownr) _ (x- (bo+y)) (by omega) (by omega) rfl (Nat.le_trans HO.out (by decide)) hbr.size ?_;intro v' w1 hown1 hbel1)
     go_roundw
     case rel=>exact⟨k+1,0,_,by omega,by go_num,by go_num,by omega,hown1,by simp[HOL.out],HS.out,hbr.trans (hbel1.mono (Nat.le_refl _))⟩
     case measure=>simp[intOf];omega
   ·have HY:Hid (val (b.take (k+1))=val (b.take k)+pw k*0):=zH (by rw[zza b (k+1) (by omega),zza b k (by omega)];simp)
    by_cases h3:x<bo+0
    ·have HS:=zH (ztg (z:=x+4294967296- (bo+0)) (bo':=1) HOL.out HX.out HY.out (by omega) HV.out)
     go_wp2_with (at_builtin;refine hA1 wr rfl _ _ rfl w.heap.size _ u5 o rfl (by exact hownr) _ (x+4294967296- (bo+0)) (by omega) (by omega) rfl (Nat.le_trans HO.out (by decide)) hbr.size ?_;intro v' w1 hown1 hbel1)
     go_roundw
     case rel=>exact⟨k+1,1,_,by omega,by go_num,by go_num,by omega,hown1,by simp[HOL.out],HS.out,hbr.trans (hbel1.mono (Nat.le_refl _))⟩
     case measure=>simp[intOf];omega
    ·have HS:=zH (ztg (z:=x- (bo+0)) (bo':=0) HOL.out HX.out HY.out (by omega) HV.out)
     go_wp2_with (at_builtin;refine hA1 wr rfl _ _ rfl w.heap.size _ u5 o rfl (by exact hownr) _ (x- (bo+0)) (by omega) (by omega) rfl (Nat.le_trans HO.out (by decide)) hbr.size ?_;intro v' w1 hown1 hbel1)
     go_roundw
     case rel=>exact⟨k+1,0,_,by omega,by go_num,by go_num,by omega,hown1,by simp[HOL.out],HS.out,hbr.trans (hbel1.mono (Nat.le_refl _))⟩
     case measure=>simp[intOf];omega
  ·obtain rfl:k=a.length:=by omega
   have hv:val o=val a-val b:=minus_end HBA.out hownr.lm HOL.out hc (by have:=HV.out;rw[zza a a.length (Nat.le_refl _),zza b a.length (by omega)]at this;exact this)
   have HT:=zjk _ _ wr (hownr.nat.natN (by have:=HO.out;omega))
   rw[hv]at HT
   have HT2:=zH HT
   clear HT hv
   go_wp2_with (go_at_call 106;refine HT2.out.mono ?_;rintro e w1 ⟨r,rfl,hr,hr2,hb⟩)
   go_ret
   exact⟨r,rfl,⟨hr.own.mono hbr.size,hr.lm⟩,hr2,hbr.trans (hb.mono hbr.size)⟩
theorem minus_any (va vb:Value) (a b:List Nat) (w:World) (ha:zfc w va a) (hb:zfc w vb b) (hla:a.length≤65536) (hlb:b.length≤a.length) (hba:val b≤val a):
 Calls Tryz.prog 155 #[va,vb] w (RNat w (val a-val b)):=(zdl va vb a b w ha hb hla hlb hba).mono fun _ _ h=>h.nat
theorem cmp_ge (va vb:Value) (m n:Nat) (w:World) (ha:zob w va m) (hb:zob w vb n) (h:n≤m):
 Calls Tryz.prog 159 #[va,vb] w fun e w'=>(∃c:Int,e= .returned (.int .i64 c)∧decide (c<0)=false)∧∃k,w'=w.drewN k:=
 (ztl va vb m n w ha hb).mono fun _ _ ⟨a,b⟩=>⟨⟨_,a,decide_eq_false (by unfold zfj;rw[if_neg (by omega)];split<;>omega)⟩,b⟩
theorem sub_wrap (x y c:Nat) (hx:x<4294967296) (hy:y<4294967296) (hc:c≤1):∃z b:Nat,z<4294967296∧b≤1∧
 IntKind.u64.wrap (IntKind.u64.wrap ((x:Int)-c)-y)%4294967296=z∧IntKind.u64.wrap (IntKind.u64.wrap ((x:Int)-c)-y)/9223372036854775808=b∧z+c+y=x+4294967296*b:=by
 rw[zyb,zyb]
 by_cases h:c+y≤x
 ·exact⟨x-c-y,0,by omega,by omega,by omega,by omega,by omega⟩
 ·exact⟨x+4294967296-c-y,1,by omega,by omega,by omega,by omega,by omega⟩
theorem sub_wrap0 (x c:Nat) (hx:x<4294967296) (hc:c≤1):∃z b:Nat,z<4294967296∧b≤1∧
 IntKind.u64.wrap ((x:Int)-c)%4294967296=z∧IntKind.u64.wrap ((x:Int)-c)/9223372036854775808=b∧z+c+0=x+4294967296*b:=by
 rw[zyb]
 by_cases h:c≤x
 ·exact⟨x-c,0,by omega,by omega,by omega,by omega,by omega⟩
 ·exact⟨x+4294967296-c,1,by omega,by omega,by omega,by omega,by omega⟩
set_option maxHeartbeats 800000 in
theorem sub_any (va vb:Value) (m n:Nat) (w:World) (ha:zob w va m) (hb:zob w vb n) (hm:zda m≤512) (hnm:n≤m):
 Calls Tryz.prog 160 #[va,vb] w (zxm w (m-n)):=by
 have hn:zda n≤512:=Nat.le_trans (zfb hnm) hm
 have hnn:=zfb hnm
 have HM:=zH hm
 have HN:=zH hn
 clear hm hn
 obtain⟨sa,ca,ka⟩:=ha.scap
 obtain⟨sb,cb,kb⟩:=hb.scap
 obtain⟨i0,hi,hz0,hz1,hz2⟩:=info_parts Tryz.info102
 have hM:=zmd (P:=Tryz.prog) 36 142 i0 Tryz.underlying36 hi hz0 hz1 hz2
 go_enter Tryz.func160,Tryz.ntmps160
 go_wp2_with (first
  |(go_at_call 200;first | ((with_reducible refine(zud va m _ ha HM.out).mono ?_);rintro e w' ⟨rfl,rfl⟩) | ((with_reducible refine(zud vb n _ hb HN.out).mono ?_);rintro e w' ⟨rfl,rfl⟩))
  |(go_at_call 159;refine(cmp_ge va vb m n _ ha hb hnm).mono ?_;rintro e w' ⟨⟨c,rfl,hc⟩,nq0,rfl⟩))
 have ha0:=ha.drawn nq0
 have hb0:=hb.drawn nq0
 have ka0:=ka.drawn nq0
 have kb0:=kb.drawn nq0
 have hbel0:=zka (B:=w.heap.size) w nq0
 generalize w.drewN nq0=W0 at *
 go_quiet ((go_at_call 198;first | with_reducible exact Calls.quiet_of_same ((zdb va m _ (ha0.drawn _)).mono fun e w' ⟨h1,h2⟩=>⟨h1,h2.symm⟩) | with_reducible exact Calls.quiet_of_same ((zdb vb n _ (hb0.drawn _)).mono fun e w' ⟨h1,h2⟩=>⟨h1,h2.symm⟩)))
 have l1:slen (tk va (zda m))=zda m:=ka.1.len
 have l2:slen (tk vb (zda n))=zda n:=kb.1.len
 have s1:=ka.1.sl
 have s2:=kb.1.sl
 clear ha hb sa sb ca cb ha0 hb0 ka kb hc
 generalize tk va (zda m)=xa at *
 generalize tk vb (zda n)=xb at *
 have kb':=kb0.drawn nq
 have ka':=ka0.drawn nq
 have hbel:=hbel0.trans (zka (B:=w.heap.size) W0 nq)
 generalize W0.drewN nq=W at *
 have hroom:zda m≤35184372088832:=by have:=HM.out;omega
 have HR:=zH hroom
 clear hroom ka0 kb0 hbel0
 go_wp2_with (refine hM _ rfl _ _ rfl W.heap.size _ (zda m) rfl rfl rfl HR.out (Nat.le_refl _) ?_;intro v w1 hown hb1 hvb)
 have hbw:Below w.heap.size w w1:=hbel.trans (hb1.mono hbel.size)
 clear hM
 go_loopw [7,35] (fun u7 u35 wr=>∃ (k c:Nat) (o:List Nat),k≤zda m∧u35= .int .i64 k∧u7= .int .u64 c∧c≤1∧zcc wr 142 W.heap.size v o∧o.length=zda m∧
  val (o.take k)+val ((zla n).take k)=val ((zla m).take k)+pw k*c∧Below W.heap.size W wr) (fun _ u35 _=>zda m- (intOf u35).toNat)
 case atStart=>exact⟨0,0,_,Nat.zero_le _,rfl,rfl,by omega,hown,by simp,by simp[val],hb1⟩
 case round=>
  obtain⟨k,c,o,hk,rfl,rfl,hc,hownr,hol,hval,hbr⟩:=hrel
  have hcx:=((ka'.below hbr).1).cell
  have hcy:=((kb'.below hbr).1).cell
  have sv:=hownr.nat.sl
  have lv:slen v=zda m:=by rw[hownr.nat.len,hol]
  have HV:=zH hval
  clear hval
  have hkb:k≤4294967296:=by have:=HM.out;omega
  by_cases hkp:k<zda m
  ·have hx:=hcx k hkp
   have hx1:(zla m)[k]'hkp<4294967296:=zrb m _ (List.getElem_mem _)
   have hfz:=hownr.frozen k (by omega)
   have hco:=hownr.nat.cell k (by omega)
   have HX:=zH (zia (zla m) k hkp)
   clear hcx
   generalize (zla m)[k]'hkp=x at *
   by_cases hkq:k<zda n
   ·have hy:=hcy k hkq
    have hy1:(zla n)[k]'hkq<4294967296:=zrb n _ (List.getElem_mem _)
    have HY:=zH (zia (zla n) k hkq)
    clear hcy
    generalize (zla n)[k]'hkq=y at *
    obtain⟨z,b,hz,hb,ez,eb,hzz⟩:=sub_wrap x y c hx1 hy1 hc
    have EZ:=zH ez
    have EB:=zH eb
    have HZZ:=zH hzz
    clear ez eb hzz
    go_wp2
    have hset:=hownr.set k (by omega) z hz
    go_roundw
    case rel=>
     rw[EZ.out,EB.out]
     exact⟨k+1,b,_,by omega,by go_num,rfl,hb,hset.1,by simp[hol],sub_step (by omega) HX.out HY.out HZZ.out HV.out,hbr.trans hset.2⟩
    case measure=>simp[intOf];omega
   ·have HY:=zH (zje (zla n) k (by unfold zda at hkq;omega))
    clear hcy
    obtain⟨z,b,hz,hb,ez,eb,hzz⟩:=sub_wrap0 x c hx1 hc
    have EZ:=zH ez
    have EB:=zH eb
    have HZZ:=zH hzz
    clear ez eb hzz
    go_wp2
    have hset:=hownr.set k (by omega) z hz
    go_roundw
    case rel=>
     rw[EZ.out,EB.out]
     exact⟨k+1,b,_,by omega,by go_num,rfl,hb,hset.1,by simp[hol],sub_step (by omega) HX.out (by rw[HY.out];rfl) HZZ.out HV.out,hbr.trans hset.2⟩
    case measure=>simp[intOf];omega
  ·obtain rfl:k=zda m:=by omega
   clear hcx hcy
   have hv2:val o=m-n:=by
    have e:=HV.out
    rw[List.take_of_length_le (by omega),List.take_of_length_le (show zda m≤zda m from Nat.le_refl _),List.take_of_length_le (show zda n≤zda m by omega),zha,zha]at e
    have h1:=zoe hownr.lm
    rw[hol]at h1
    have h2:=pw_pos (zda m)
    rcases Nat.lt_or_ge c 1 with hc0 | hc0
    ·obtain rfl:c=0:=by omega
     omega
    ·obtain rfl:c=1:=by omega
     omega
   have HS:=zH (zph v _ _ hownr.nat (by rw[hol];omega))
   have HV2:=zH hv2
   clear hv2 HV
   go_wp2_with (go_at_call 201;refine HS.out.mono ?_;rintro e w' ⟨r,er,rfl,hr,hbl⟩)
   go_ret2
   rw[HV2.out]at hr
   exact⟨r,er,rfl,hr,hbel.trans ((hbr.trans (hbl.mono hbr.size)).mono hbel.size)⟩
end Go.Proofs.YtlpdkbmmbdfoiaaGreat
namespace Go.Proofs.YtlpdkbmmbdfoiaaGreat
theorem znh (l:List Nat) (k:Nat) (h:k<l.length):val (l.drop k)=l[k]+4294967296*val (l.drop (k+1)):=by
 rw[List.drop_eq_getElem_cons h];rfl
theorem drop_set_of_lt {α:Type} (l:List α) (k:Nat) (z:α) (h:k<l.length):(l.set k z).drop k=z::l.drop (k+1):=by
 rw[List.drop_eq_getElem_cons (by simpa using h),List.drop_set_of_lt (by omega)]
 simp
theorem zjm {q l:List Nat} {k d r x:Nat} (hk:k<q.length) (hl:val (l.drop k)=x+4294967296*val (l.drop (k+1))) (hd:0<d)
 (hv:val (l.drop (k+1))=d*val (q.drop (k+1))+r) (hr:r<d):
 val (l.drop k)=d*val ((q.set k ((r*4294967296+x)/d)).drop k)+(r*4294967296+x)%d:=by
 rw[drop_set_of_lt q k _ hk,hl,hv]
 simp only[val]
 have h:=Nat.div_add_mod (r*4294967296+x) d
 generalize (r*4294967296+x)/d=a at *
 generalize (r*4294967296+x)%d=b at *
 grind
theorem zgk {d r x:Nat} (hd:d<4294967296) (hr:r<d) (hx:x<4294967296):(r*4294967296+x)/d<4294967296∧(r*4294967296+x)%d<d∧r*4294967296+x<18446744073709551616:=by
 refine⟨?_,Nat.mod_lt _ (by omega),by omega⟩
 rw[Nat.div_lt_iff_lt_mul (by omega)]
 have :r*4294967296+4294967296≤d*4294967296:=by omega
 omega
theorem up_step {o l:List Nat} {k c x P t:Nat} (hk:k<o.length) (hl:val (l.take (k+1))=val (l.take k)+pw k*x) (hv:val (o.take k)+pw k*c=P*val (l.take k)) (ht:t=P*x+c):
 val ((o.set k (t%4294967296)).take (k+1))+pw (k+1)*(t/4294967296)=P*val (l.take (k+1)):=by
 rw[zkb o k _ hk,hl,zmb]
 have h:t%4294967296+4294967296*(t/4294967296)=t:=by omega
 generalize t%4294967296=z at *
 generalize t/4294967296=d at *
 grind
theorem zan {p q l:List Nat} {k c bo f x u z c' bo' lo:Nat} (hk:k<q.length) (hp:val (p.take (k+1))=val (p.take k)+pw k*u) (hl:val (l.take (k+1))=val (l.take k)+pw k*x)
 (ht:4294967296*c'+lo=c+f*x) (hz:z+lo+bo=u+4294967296*bo')
 (hv:val (q.take k)+f*val (l.take k)=val (p.take k)+pw k*(c+bo)):
 val ((q.set k z).take (k+1))+f*val (l.take (k+1))=val (p.take (k+1))+pw (k+1)*(c'+bo'):=by
 rw[zkb q k _ hk,hp,hl,zmb]
 generalize pw k=P at *
 generalize val (q.take k)=Q at *
 generalize val (p.take k)=R at *
 generalize val (l.take k)=L at *
 have h1:P*(4294967296*c'+lo)=P*(c+f*x):=by rw[ht]
 have h2:P*(z+lo+bo)=P*(u+4294967296*bo'):=by rw[hz]
 grind
theorem subtract_end {p q l:List Nat} {n c bo f z b:Nat} (hq:q.length=n+1) (hp:p.length=n+1) (hl:l.length=n) (hpn:p[n]'(by omega)+4294967296*b=z+c+bo)
 (hv:val (q.take n)+f*val (l.take n)=val (p.take n)+pw n*(c+bo)):val (q.set n z)+f*val l=val p+b*pw (n+1):=by
 have e1:=zkb q n z (by omega)
 rw[List.take_of_length_le (by simp;omega)]at e1
 have e2:=zia p n (by omega)
 rw[List.take_of_length_le (by omega)]at e2
 rw[List.take_of_length_le (by omega:l.length≤n)]at hv
 rw[e1,e2,zmb]
 generalize p[n]'(by omega)=u at *
 generalize pw n=P at *
 have h2:P*(u+4294967296*b)=P*(z+c+bo):=by rw[hpn]
 grind
theorem zhk {α:Type} (A p C:List α) (k:Nat) (z:α) (h:k<p.length):(A++p++C).set (A.length+k) z=A++p.set k z++C:=by
 rw[List.append_assoc,List.set_append_right _ _ (by omega),Nat.add_sub_cancel_left,List.set_append_left _ _ h,List.append_assoc]
theorem zxe {α:Type} (A p C:List α) (k:Nat) (h:k<p.length):(A++p++C)[A.length+k]? =some p[k]:=by
 rw[List.append_assoc,List.getElem?_append_right (by omega),Nat.add_sub_cancel_left,List.getElem?_append_left h,List.getElem?_eq_getElem h]
end Go.Proofs.YtlpdkbmmbdfoiaaGreat
namespace Go.Proofs.YtlpdkbmmbdfoiaaGreat
set_option maxHeartbeats 800000
open Go.RowKit
def RShort (w0:World) (n d:Nat) (e:Ending) (w:World):Prop:=
 ∃q,e= .returned (.tuple #[q, .int .u32 (n%d:Nat)])∧zjb w q (n/d)∧Below w0.heap.size w0 w
theorem short_any (va:Value) (l:List Nat) (d:Nat) (w:World) (ha:zfc w va l) (hl:l.length≤65536) (hd:0<d) (hd2:d<4294967296):
 Calls Tryz.prog 223 #[va, .int .u32 d] w (RShort w (val l) d):=by
 have hlb:l.length≤4294967296:=by omega
 have HL:=zH hl
 clear hl
 obtain⟨i0,hi,hz0,hz1,hz2⟩:=info_parts Tryz.info102
 have hM:=zmd (P:=Tryz.prog) 36 142 i0 Tryz.underlying36 hi hz0 hz1 hz2
 have sa:=ha.sl
 have la:=ha.len
 have hroom:l.length≤35184372088832:=by omega
 go_enter Tryz.func223,Tryz.ntmps223
 go_wp2_with (refine hM _ rfl _ _ rfl w.heap.size _ l.length rfl rfl rfl hroom (Nat.le_refl _) ?_;intro v w1 hown hb1 hvb)
 clear hM
 go_loopw [7,8] (fun u7 u8 wr=>∃ (k r:Nat) (q:List Nat),k≤l.length∧u8= .int .i64 ((k:Int)-1)∧u7= .int .u64 r∧r<d∧zcc wr 142 w.heap.size v q∧q.length=l.length∧
  val (l.drop k)=d*val (q.drop k)+r∧Below w.heap.size w wr) (fun _ u8 _=>(intOf u8+1).toNat)
 case atStart=>exact⟨l.length,0,_,Nat.le_refl _,rfl,rfl,hd,hown,by simp,by rw[List.drop_of_length_le (Nat.le_refl _),List.drop_of_length_le (by simp)];rfl,hb1⟩
 case round=>
  obtain⟨k,r,q,hk,rfl,rfl,hr,hownr,hol,hval,hbr⟩:=hrel
  have hcx:=(ha.below hbr).cell
  have sv:=hownr.nat.sl
  have lv:slen v=l.length:=by rw[hownr.nat.len,hol]
  have HV:=zH hval
  clear hval
  by_cases hk0:0<k
  ·obtain⟨j,rfl⟩:∃j,k=j+1:=⟨k-1,by omega⟩
   have hj1:j<l.length:=by omega
   have hx:=hcx j hj1
   have hx1:l[j]'hj1<4294967296:=ha.lm _ (List.getElem_mem _)
   have hfz:=hownr.frozen j (by omega)
   have hco:=hownr.nat.cell j (by omega)
   have HS:=zH (zjm (q:=q) (l:=l) (k:=j) (d:=d) (r:=r) (by omega) (znh l j hj1) hd HV.out hr)
   clear hcx
   generalize l[j]'hj1=x at *
   obtain⟨b1,b2,b3⟩:=zgk hd2 hr hx1
   have hor:=or_lo r x (by omega) hx1
   generalize r*4294967296+x=t at *
   go_wp2
   have ew:=div_limb t d b1
   have hset:=hownr.set j (by omega) (t/d) b1
   go_roundw
   case rel=>
    rw[ew]
    exact⟨j,t%d,_,by omega,rfl,rfl,b2,hset.1,by simp[hol],HS.out,hbr.trans hset.2⟩
   case measure=>simp[intOf]
  ·obtain rfl:k=0:=by omega
   have e:=HV.out
   simp only[List.drop_zero]at e
   have hq:val q=val l/d:=by rw[e,Nat.mul_add_div hd,Nat.div_eq_of_lt hr,Nat.add_zero]
   have hrr:r=val l%d:=by rw[e,Nat.mul_add_mod,Nat.mod_eq_of_lt hr]
   have hcan:=hownr.nat.can (by omega)
   have HLN:=zH (zdb v (val q) wr (hownr.nat.natN (by omega)))
   have HC:=zH hcan
   have HQ:=zH hq
   have HR:=zH hrr
   have hcap:zda (val q)≤scap v:=by have:=sv.le;have:=zsb hownr.lm;omega
   clear hcx hcan hq hrr HV e
   go_wp2_with (go_at_call 198;refine HLN.out.mono ?_;rintro e w' ⟨rfl,rfl⟩)
   go_ret2
   refine⟨tk v (zda (val q)),by rw[←HR.out];rfl,?_,hbr⟩
   rw[←HQ.out]
   exact HC.out
theorem up_any (va:Value) (l:List Nat) (s:Nat) (w:World) (ha:zfc w va l) (hl:l.length≤65536) (hs:s<32):
 Calls Tryz.prog 224 #[va, .int .u64 s] w fun e w'=>∃r o,e= .returned r∧zcc w' 142 w.heap.size r o∧o.length=l.length+1∧val o=2^s*val l∧Below w.heap.size w w':=by
 have hlb:l.length≤4294967296:=by omega
 have HL:=zH hl
 clear hl
 obtain⟨i0,hi,hz0,hz1,hz2⟩:=info_parts Tryz.info102
 have hM:=zmd (P:=Tryz.prog) 36 142 i0 Tryz.underlying36 hi hz0 hz1 hz2
 have sa:=ha.sl
 have la:=ha.len
 have hroom:l.length+1≤35184372088832:=by omega
 go_enter Tryz.func224,Tryz.ntmps224
 go_wp2_with (refine hM _ rfl _ _ rfl w.heap.size _ (l.length+1) rfl rfl rfl hroom (Nat.le_refl _) ?_;intro v w1 hown hb1 hvb)
 clear hM
 go_loopw [6,15] (fun u6 u15 wr=>∃ (k c:Nat) (o:List Nat),k≤l.length∧u15= .int .i64 k∧u6= .int .u64 c∧c<2^s∧zcc wr 142 w.heap.size v o∧o.length=l.length+1∧
  val (o.take k)+pw k*c=2^s*val (l.take k)∧Below w.heap.size w wr) (fun _ u15 _=>l.length- (intOf u15).toNat)
 case atStart=>exact⟨0,0,_,Nat.zero_le _,rfl,rfl,Nat.pow_pos (by decide),hown,by simp,by simp[val],hb1⟩
 case round=>
  obtain⟨k,c,o,hk,rfl,rfl,hc,hownr,hol,hval,hbr⟩:=hrel
  have hcx:=(ha.below hbr).cell
  have sv:=hownr.nat.sl
  have lv:slen v=l.length+1:=by rw[hownr.nat.len,hol]
  have HV:=zH hval
  clear hval
  by_cases hkp:k<l.length
  ·have hx:=hcx k hkp
   have hx1:l[k]'hkp<4294967296:=ha.lm _ (List.getElem_mem _)
   have hfz:=hownr.frozen k (by omega)
   have hco:=hownr.nat.cell k (by omega)
   have HX:=zH (zia l k hkp)
   clear hcx
   generalize l[k]'hkp=x at *
   have hor:=or_up c x s hs hc hx1
   obtain⟨b1,b2⟩:=up_bound c x s hs hc hx1
   have HT:=fun t=>zH (up_step (o:=o) (l:=l) (k:=k) (c:=c) (x:=x) (P:=2^s) (t:=t) (by omega) HX.out HV.out)
   generalize hte:2^s*x+c=t at *
   have HTE:=zH hte
   clear hte
   go_wp2
   have hset:=hownr.set k (by omega) (t%4294967296) (by omega)
   go_roundw
   case rel=>exact⟨k+1,t/4294967296,_,by omega,by go_num,rfl,b2,hset.1,by simp[hol],(HT t).out rfl,hbr.trans hset.2⟩
   case measure=>simp[intOf];omega
  ·obtain rfl:k=l.length:=by omega
   have hP:2^s≤2^31:=Nat.pow_le_pow_right (by decide) (by omega)
   have hc1:c<4294967296:=by omega
   have hfz:=hownr.frozen l.length (by omega)
   have hco:=hownr.nat.cell l.length (by omega)
   have hset:=hownr.set l.length (by omega) c hc1
   have hv2:val (o.set l.length c)=2^s*val l:=by
    have e:=zkb o l.length c (by omega)
    rw[List.take_of_length_le (by simp;omega),HV.out,List.take_length]at e
    exact e
   have HV2:=zH hv2
   clear hv2 hcx hP HV
   go_wp2
   go_ret
   exact⟨v,_,rfl,hset.1,by simp[hol],HV2.out,hbr.trans hset.2⟩
end Go.Proofs.YtlpdkbmmbdfoiaaGreat
