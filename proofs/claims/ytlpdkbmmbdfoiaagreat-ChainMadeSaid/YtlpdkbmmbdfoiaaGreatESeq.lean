/- Lemmas. -/
import Derived.Test.YtlpdkbmmbdfoiaaGreatENa8
import Derived.Deep.RegionLaw
import Derived.Deep.RegionHeld3
set_option linter.unusedVariables false
set_option linter.unusedSimpArgs false
namespace Go.Proofs.YtlpdkbmmbdfoiaaGreat
set_option maxRecDepth 100000
set_option maxHeartbeats 800000
open Go.RowKit
theorem zwm (va vb:Value) (m n:Nat) (w:World) (ha:zjb w va m) (hb:zjb w vb n) (hn:n≠0) (hm:zda m<=512):
 Calls Tryz.prog 215 #[va,vb] w (RDiv w m n):=by
 rcases Nat.lt_or_ge m n with h | h
 ·exact divide_less va vb m n w ha hb h
 ·have h0:zda n≠0:=fun h'=>hn (zta.1 h')
  rcases Nat.lt_or_ge (zda n) 2 with h2 | h2
  ·exact divide_short va vb m n w ha hb h (by omega) hm
  ·exact divide_long va vb m n w ha hb h h2 hm
def RDiv2 (w0:World) (m n:Nat) (e:Ending) (w:World):Prop:=
 ∃q r,e= .returned (.tuple #[q,r, .int .i64 0])/\zjb w q (m/n)/\zjb w r (m%n)/\Below w0.heap.size w0 w
theorem zwn (va vb:Value) (m n:Nat) (w:World) (ha:zob w va m) (hb:zob w vb n) (h:n≠0) (hm:zda m<=512) (hn:zda n<=512):
 Calls Tryz.prog 193 #[va,vb] w (RDiv2 w m n):=by
 have HM:=zH hm
 have HN:=zH hn
 have hmb:zda m<=4294967296:=by omega
 have hnb:zda n<=4294967296:=by omega
 have hnz:zda n≠0:=fun h'=>h (zta.1 h')
 clear hm hn
 obtain⟨sa,ca,ka⟩:=ha.scap
 obtain⟨sb,cb,kb⟩:=hb.scap
 go_enter Tryz.func193,Tryz.ntmps193
 go_wp2_with (first
  |(go_at_call 200;first | ((with_reducible refine(zud va m _ ha HM.out).mono ?_);rintro e w' ⟨rfl,rfl⟩) | ((with_reducible refine(zud vb n _ hb HN.out).mono ?_);rintro e w' ⟨rfl,rfl⟩))
  |(go_at_call 198;refine(zdb vb n _ hb).mono ?_;rintro e w' ⟨rfl,rfl⟩))
 go_region_with (first
  |(go_at_call 198;first | ((with_reducible refine(zdb va m _ ha.drew).mono ?_);rintro e w' ⟨rfl,rfl⟩) | ((with_reducible refine(zdb vb n _ hb.drew).mono ?_);rintro e w' ⟨rfl,rfl⟩))
  |(go_at_call 215;(with_reducible refine(zwm _ _ m n _ ka.drew kb.drew h HM.out).mono ?_);rintro e w1 ⟨q,r,rfl,hq,hr,hbl⟩))
 go_wp2
 go_ret3
 exact⟨q,r,rfl,hq,hr,(zja w).trans hbl⟩
theorem zva (v:Value) (n:Nat) (w:World) (h:zob w v n):
 Calls Tryz.prog 156 #[v] w fun e w'=>e= .returned (.int .i64 (zua n))/\w'=w:=by
 have hln:=h.len_le
 by_cases hn:n=0
 ·have hz:zda n=0:=zta.2 hn
  have hb:zua n=0:=zyh.2 hn
  have HB:=zH hb
  clear hln hn hb
  go_enter Tryz.func156,Tryz.ntmps156
  go_wp2_with (go_at_call 198;refine(zdb v n _ h).mono ?_;rintro e w' ⟨rfl,rfl⟩)
  go_ret
  exact⟨by rw[HB.out];rfl,rfl⟩
 ·obtain⟨t,ht1,ht2,ht3,ht4⟩:=zdi hn
  obtain⟨sv,lv1,lv2⟩:=h.slen
  have hnl:0<zda n:=by have :zda n≠0:=fun h'=>hn (zta.1 h');omega
  obtain⟨htl,hte⟩:=List.getElem?_eq_some_iff.1 ht1
  have hc:=(h.cells (zda n-1) (by omega)).trans (congrArg (fun x:Nat=>some (Value.int .u32 (x:Nat))) hte)
  have HT:=zH ht4
  have HN:=zH hn
  have HT2:=zH ht2
  have htb:zua t<=32:=zwb.2 ht3
  have HB:=zH htb
  clear hn ht1 ht2 ht4 htl hte htb
  obtain⟨g,hg⟩:∃g,zda n=g+1:=⟨zda n-1,by omega⟩
  have hg1:zda n-1=g:=by omega
  rw[hg1]at hc HT
  rw[hg]at lv1 hln
  have HG:=zH hg
  clear hg hg1 hnl
  go_enter Tryz.func156,Tryz.ntmps156
  go_wp2_with (go_at_call 198;refine(zdb v n _ h).mono ?_;rintro e w' ⟨rfl,rfl⟩;rw[HG.out])
  go_loopw [4,5] (fun u4 u5 wr=>∃ (k y:Nat),u4= .int .i64 k/\u5= .int .u32 y/\y<4294967296/\k+zua y=32*g+zua t/\wr=w) (fun _ u5 _=>(intOf u5).toNat)
  case atStart=>exact⟨32*g,t,by go_num,rfl,ht3,rfl,rfl⟩
  case round=>
   obtain⟨k,y,rfl,rfl,hy,hky,rfl⟩:=hrel
   have hk:k<=137438953504:=by have:=HB.out;omega
   by_cases hy0:0<y
   ·have HK:=zH hky
    clear hky
    have hy2:y/2<y:=by omega
    go_wp2
    go_roundw
    case rel=>exact⟨k+1,y/2,by go_num,by go_num,by omega,by have:=HK.out;have:=zom (n:=y) (by omega);omega,trivial⟩
    case measure=>simp[intOf];omega
   ·obtain rfl:y=0:=by omega
    have hfin:zua n=k:=by rw[HT.out,<-hky,zbj,Nat.add_zero]
    have HF:=zH hfin
    clear hfin hky hy0
    go_wp2
    go_ret
    exact⟨by rw[HF.out];rfl,rfl⟩
theorem zjb.inj {w:World} {v:Value} {m n:Nat} (h:zjb w v m) (h':zjb w v n):m=n:=by
 have h1:=h.v.len
 rw[h'.v.len]at h1
 apply zhg
 apply List.ext_getElem h1.symm
 intro j j1 j2
 have e1:=h.v.cell j j1
 rw[h'.v.cell j j2]at e1
 injection e1 with e1
 injection e1 with e1 e2
 exact_mod_cast e2.symm
open Classical in
/-- The number that v reads as. -/
noncomputable def natOf (w:World) (v:Value):Nat:=if h:∃n,zjb w v n then h.choose else 0
theorem zwj {w:World} {v:Value} {n:Nat} (h:zjb w v n):natOf w v=n:=by
 have h2:∃n,zjb w v n:=⟨n,h⟩
 unfold natOf
 rw[dif_pos h2]
 exact h2.choose_spec.inj h
def RNat0 (w0:World) (n:Nat) (e:Ending) (w:World):Prop:=∃r,e= .returned (.tuple #[r, .int .i64 0])/\zjb w r n/\Below w0.heap.size w0 w
theorem zsn (va vb:Value) (m n:Nat) (w:World) (ha:zob w va m) (hb:zob w vb n) (hm:zda m<=512) (hn:zda n<=512):
 Calls Tryz.prog 192 #[va,vb] w (RNat0 w (Nat.gcd m n)):=by
 have HM:=zH hm
 have HN:=zH hn
 have hmb:zda m<=4294967296:=by omega
 have hnb:zda n<=4294967296:=by omega
 clear hm hn
 go_enter Tryz.func192,Tryz.ntmps192
 go_wp2_with (first
  |(go_at_call 200;first | ((with_reducible refine(zud va m _ ha HM.out).mono ?_);rintro e w' ⟨rfl,rfl⟩) | ((with_reducible refine(zud vb n _ hb HN.out).mono ?_);rintro e w' ⟨rfl,rfl⟩))
  |(go_at_call 194;first
   |((with_reducible refine(zjd va m _ ha).mono ?_);rintro e w1 ⟨ra,rfl,hra,hb1⟩)
   |((with_reducible refine(zjd vb n _ (hb.below hb1)).mono ?_);rintro e w2 ⟨rb,rfl,hrb,hb2⟩)))
 have hra2:=hra.below hb2
 have hbw:=hb1.trans (hb2.mono hb1.size)
 go_loopw [0,1] (fun u0 u1 wr=>∃ (x y:Nat),zjb wr u0 x/\zjb wr u1 y/\zda x<=512/\zda y<=512/\Nat.gcd x y=Nat.gcd m n/\Below w.heap.size w wr) (fun _ u1 wr=>natOf wr u1)
 case atStart=>exact⟨m,n,hra2,hrb,HM.out,HN.out,rfl,hbw⟩
 case round=>
  obtain⟨x,y,hx,hy,hx5,hy5,hg,hbr⟩:=hrel
  clear ha hb hra hrb hra2 hb1 hb2 hbw
  obtain⟨sx,lx⟩:zgc u0/\slen u0=zda x:=⟨hx.v.sl,hx.v.len⟩
  obtain⟨sy,ly⟩:zgc u1/\slen u1=zda y:=⟨hy.v.sl,hy.v.len⟩
  have HX:=zH hx5
  have HY:=zH hy5
  have HG:=zH hg
  have hxb:zda x<=4294967296:=by omega
  have hyb:zda y<=4294967296:=by omega
  clear hx5 hy5 hg
  by_cases hy0:y=0
  ·have hyz:zda y=0:=zta.2 hy0
   have hfin:x=Nat.gcd m n:=by rw[<-HG.out,hy0,Nat.gcd_zero_right]
   have HF:=zH hfin
   clear hfin hy0
   go_wp2
   go_ret2
   exact⟨_,rfl,HF.out▸hx,hbr⟩
  ·have hyz:0<zda y:=by have :zda y≠0:=fun h'=>hy0 (zta.1 h');omega
   have HY0:=zH hy0
   clear hy0
   go_wp2_with (go_at_call 215;(with_reducible refine(zwm _ _ x y _ hx hy HY0.out HX.out).mono ?_);rintro e w3 ⟨q,r,rfl,hq,hr,hbl⟩)
   have hy3:=hy.below hbl
   have hbr3:=hbr.trans (hbl.mono hbr.size)
   go_wp2
   go_roundw
   case rel=>exact⟨y,x%y,hy3,hr,HY.out,zLT (zfb (Nat.le_of_lt (Nat.mod_lt _ (Nat.pos_of_ne_zero HY0.out)))) HY.out,by rw[<-HG.out,Nat.gcd_comm y,<-Nat.gcd_rec,Nat.gcd_comm],hbr3⟩
   case measure=>rw[zwj hr,zwj hy];exact Nat.mod_lt _ (Nat.pos_of_ne_zero HY0.out)
set_option maxHeartbeats 800000 in
theorem mul_any (va vb:Value) (m n:Nat) (w:World) (ha:zob w va m) (hb:zob w vb n) (hm:zda m<=512) (hn:zda n<=512):
 Calls Tryz.prog 199 #[va,vb] w (zxm w (m*n)):=by
 have HM:=zH hm
 have HN:=zH hn
 have hmb:zda m<=4294967296:=by omega
 have hnb:zda n<=4294967296:=by omega
 clear hm hn
 obtain⟨sa,ca,ka⟩:=ha.scap
 obtain⟨sb,cb,kb⟩:=hb.scap
 obtain⟨i0,hi,hz0,hz1,hz2⟩:=info_parts Tryz.info102
 have hM:=zmd (P:=Tryz.prog) 36 142 i0 Tryz.underlying36 hi hz0 hz1 hz2
 go_enter Tryz.func199,Tryz.ntmps199
 go_wp2_with (go_at_call 200;first | ((with_reducible refine(zud va m _ ha HM.out).mono ?_);rintro e w' ⟨rfl,rfl⟩) | ((with_reducible refine(zud vb n _ hb HN.out).mono ?_);rintro e w' ⟨rfl,rfl⟩))
 go_quiet ((go_at_call 198;first | with_reducible exact Calls.quiet_of_same ((zdb va m _ (ha.drawn _)).mono fun e w' ⟨h1,h2⟩=>⟨h1,h2.symm⟩) | with_reducible exact Calls.quiet_of_same ((zdb vb n _ (hb.drawn _)).mono fun e w' ⟨h1,h2⟩=>⟨h1,h2.symm⟩)))
 have l1:slen (tk va (zda m))=zda m:=ka.1.len
 have l2:slen (tk vb (zda n))=zda n:=kb.1.len
 have s1:=ka.1.sl
 have s2:=kb.1.sl
 clear ha hb sa sb ca cb
 generalize tk va (zda m)=xa at *
 generalize tk vb (zda n)=xb at *
 have kb':=kb.drawn nq
 have ka':=ka.drawn nq
 have hbel:=zka (B:=w.heap.size) w nq
 generalize w.drewN nq=W at *
 clear ka kb
 have hroom:zda m+zda n<=35184372088832:=by omega
 go_wp2_with (refine hM _ rfl _ _ rfl W.heap.size _ (zda m+zda n) rfl rfl rfl hroom (zLR _) ?_;intro v w1 hown hb1 hvb)
 have hbw:Below w.heap.size w w1:=hbel.trans (hb1.mono hbel.size)
 clear hM
 go_loopw [34] (fun u34 wr=>∃ (k:Nat) (o:List Nat),k<=zda m/\u34= .int .i64 k/\zcc wr 142 W.heap.size v o/\o.length=zda m+zda n/\
  val (o.take (k+zda n))=val ((zla m).take k)*n/\Below W.heap.size W wr) (fun u34 _=>zda m- (intOf u34).toNat)
 case atStart=>exact⟨0,_,zZL _,rfl,hown,by simp,by simp[val,znf],hb1⟩
 case round=>
  obtain⟨k,o,hk,rfl,hownr,hol,hval,hbr⟩:=hrel
  obtain⟨wo,rfl⟩:∃wo:World,wo=wr:=⟨_,rfl⟩
  have hcx:=((ka'.below hbr).1).cell
  have HV:=zH hval
  clear hval
  by_cases hkp:k<zda m
  ·have hx:=hcx k hkp
   have hx1:(zla m)[k]'hkp<4294967296:=zrb m _ (zGM _)
   have HX:=zH (zia (zla m) k hkp)
   clear hcx
   generalize (zla m)[k]'hkp=x at *
   go_wp2
   go_loopw [9,41] (fun u9 u41 wi=>∃ (j c:Nat) (o:List Nat),j<=zda n/\u41= .int .i64 j/\u9= .int .u64 c/\c<4294967296/\zcc wi 142 W.heap.size v o/\o.length=zda m+zda n/\
    val (o.take (k+zda n))+pw (k+j)*c=val ((zla m).take k)*n+pw k*x*val ((zla n).take j)/\Below W.heap.size W wi) (fun _ u41 _=>zda n- (intOf u41).toNat)
   case atStart=>exact⟨0,0,o,zZL _,rfl,rfl,by omega,hownr,hol,by rw[HV.out];simp[val],hbr⟩
   case round=>
    obtain⟨j,c,p,hj,rfl,rfl,hc,hownp,hpl,hvp,hbi⟩:=hrel
    have HP:=zH hvp
    clear hvp
    have sv:=hownp.nat.sl
    have lv:slen v=zda m+zda n:=by rw[hownp.nat.len,hpl]
    by_cases hjn:j<zda n
    ·have hy:=((kb'.below hbi).1).cell j hjn
     have hy1:(zla n)[j]'hjn<4294967296:=zrb n _ (zGM _)
     have HY:=zH (zia (zla n) j hjn)
     have hfz:=hownp.frozen (k+j) (by omega)
     have hco:=hownp.nat.cell (k+j) (by omega)
     have hq1:p[k+j]'(by omega)<4294967296:=hownp.lm _ (zGM _)
     have HST:=fun(z c':Nat)=>zH (mul_step (o:=p) (b:=zla n) (k:=k) (j:=j) (N:=k+zda n) (R:=val ((zla m).take k)*n) (c:=c) (x:=x) (z:=z) (c':=c') (by omega) (by omega) HY.out HP.out)
     generalize (zla n)[j]'hjn=y at *
     generalize hqe:p[k+j]'(by omega)=q at *
     obtain⟨h0',hxy'⟩:=zsg hx1 hy1
     have hT:=(zcl hx1 hy1 hq1 hc).1
     have HT:=zH hT
     clear hqe hT
     go_wp2
     have HT2:=HT.out
     have e:=mul_cast c x y q
     generalize x*y+q+c=t at *
     have hset:=hownp.set (k+j) (by omega) (t%4294967296) (by omega)
     go_roundw
     case rel=>
      rw[e]
      have e2:((t:Nat):Int)/4294967296=((t/4294967296:Nat):Int):=rfl
      rw[e2]
      exact⟨j+1,t/4294967296,_,by omega,by go_num,rfl,div_lt_32 HT2,hset.1,by simp[hpl],(HST (t%4294967296) (t/4294967296)).out (by omega),hbi.trans hset.2⟩
     case measure=>simp[intOf];omega
    ·obtain rfl:j=zda n:=by omega
     have hfz:=hownp.frozen (k+zda n) (by omega)
     have hco:=hownp.nat.cell (k+zda n) (by omega)
     have hset:=hownp.set (k+zda n) (by omega) c hc
     have hv2:=mul_end (o:=p) (a:=zla m) (b:=zla n) (k:=k) (n:=n) (N:=k+zda n) (c:=c) (x:=x) (by omega) HX.out (zha n) rfl HP.out
     have HV2:=zH hv2
     clear hv2
     go_wp2
     go_roundw
     case rel=>exact⟨k+1,_,by omega,by go_num,hset.1,by simp[hpl],by rw[show k+1+zda n=k+zda n+1 from by omega];exact HV2.out,hbi.trans hset.2⟩
     case measure=>simp[intOf];omega
  ·obtain rfl:k=zda m:=by omega
   clear hcx
   have hv2:val o=m*n:=by
    have e:=HV.out
    rw[List.take_of_length_le (by omega),List.take_of_length_le (show zda m<=zda m from zLR _),zha]at e
    exact e
   have HS:=zH (zph v _ _ hownr.nat (by rw[hol];have:=HM.out;have:=HN.out;omega))
   have HV2:=zH hv2
   clear hv2 HV
   go_wp2_with (go_at_call 201;refine HS.out.mono ?_;rintro e w' ⟨r,er,rfl,hr,hbl⟩)
   go_ret2
   rw[HV2.out]at hr
   exact⟨r,er,rfl,hr,hbel.trans ((hbr.trans (hbl.mono hbr.size)).mono hbel.size)⟩
structure C3 (w:World) (b:Nat) (v0 v1 v2:Value):Prop where
 lt:b<w.heap.size
 c0:w.cell? ⟨b,0,none⟩=some v0
 c1:w.cell? ⟨b,1,none⟩=some v1
 c2:w.cell? ⟨b,2,none⟩=some v2
 f0:w.frozen? ⟨b,0,none⟩=false
 f1:w.frozen? ⟨b,1,none⟩=false
 f2:w.frozen? ⟨b,2,none⟩=false
theorem C3.of {w:World} {b:Nat} {v0 v1 v2:Value} {t:TypeId} (h:w.heap[b]? =some (.cells #[v0,v1,v2] t (0,0))):C3 w b v0 v1 v2:=by
 refine⟨lt_of_block h,?_,?_,?_,?_,?_,?_⟩<;>simp[World.cell?,World.frozen?,h]
theorem C3.new (w:World) (t:TypeId) (v0 v1 v2:Value):C3 (w.alloc (.cells #[v0,v1,v2] t)) w.heap.size v0 v1 v2:=
 C3.of (t:=t) (by show(w.heap.push _)[w.heap.size]? =_;simp)
theorem C3.below {w w':World} {B b:Nat} {v0 v1 v2:Value} (h:C3 w b v0 v1 v2) (hb:Below B w w') (hB:b<B):C3 w' b v0 v1 v2:=
 ⟨zLM h.lt hb.size,by rw[hb.cell hB];exact h.c0,by rw[hb.cell hB];exact h.c1,by rw[hb.cell hB];exact h.c2,by rw[hb.frozen hB];exact h.f0,by rw[hb.frozen hB];exact h.f1,by rw[hb.frozen hB];exact h.f2⟩
theorem C3.belowS {w w':World} {b:Nat} {v0 v1 v2:Value} (h:C3 w b v0 v1 v2) (hb:Below w.heap.size w w'):C3 w' b v0 v1 v2:=h.below hb h.lt
theorem C3.set {w:World} {b:Nat} {v0 v1 v2:Value} (h:C3 w b v0 v1 v2) (u0 u1 u2:Value):C3 (((w.setCell ⟨b,0,none⟩ u0).setCell ⟨b,1,none⟩ u1).setCell ⟨b,2,none⟩ u2) b u0 u1 u2:=by
 obtain⟨lt,c0,c1,c2,f0,f1,f2⟩:=h
 refine⟨by simpa [World.setCell]using lt,?_,?_,?_,?_,?_,?_⟩<;>go_simp
theorem zga {w0 w:World} {B b:Nat} (h:Below B w0 w) (hb:B<=b) (u0 u1 u2:Value):Below B w0 (((w.setCell ⟨b,0,none⟩ u0).setCell ⟨b,1,none⟩ u1).setCell ⟨b,2,none⟩ u2):=
 ((h.setCell (p:=⟨b,0,none⟩) hb u0).setCell (p:=⟨b,1,none⟩) hb u1).setCell (p:=⟨b,2,none⟩) hb u2
theorem load_c3 {P:Program} {w:World} {b:Nat} {v0 v1 v2:Value} {ty:TypeId} (hagg:∀w,(isAgg ty).run P w= .ok true w) (hs:∀w,(sizeOf ty).run P w= .ok 3 w) (h:C3 w b v0 v1 v2):
 (loadVar ty ⟨b,0,none⟩).run P w= .ok (.agg #[v0,v1,v2]) w:=by
 obtain⟨lt,c0,c1,c2,f0,f1,f2⟩:=h
 simp only[loadVar,Sem.run_bind,hagg,hs,Result.andThen_ok]
 go_simp
theorem zoa {P:Program} {fn:Func} {R:Ending->World->Prop} {a:Act} {w:World} {p u:Tmp} {ty:TypeId} {b:Nat} {v0 v1 v2:Value} (h:fn.results=#[.cell p ty, .tmp u])
 (hp:a.tmps.getD p undef= .pointer (some ⟨b,0,none⟩)) (hagg:∀w,(isAgg ty).run P w= .ok true w) (hs:∀w,(sizeOf ty).run P w= .ok 3 w) (hc:C3 w b v0 v1 v2) (hd:a.defers= [])
 (hR:R (.returned (.tuple #[.agg #[v0,v1,v2],a.tmps.getD u undef])) w):bodyPost P fn R .ret a w:=by
 refine bodyPost_ret ?_ hd hR
 rw[results_cell_tmp h,hp]
 simp only[asAddr,Sem.run_pure,Result.andThen_ok,load_c3 hagg hs hc]
set_option maxHeartbeats 1600000
def zdc (w:World) (v:Value) (neg:Bool) (n d:Nat):Prop:=∃a b,v= .agg #[.bool neg,a,b]/\zob w a n/\zob w b d
def zqa (w:World) (v:Value) (q:Rat):Prop:=∃a b,v= .agg #[.bool (decide (q<0)),a,b]/\zjb w a q.num.natAbs/\zjb w b q.den
theorem zqa.raw {w:World} {v:Value} {q:Rat} (h:zqa w v q):zdc w v (decide (q<0)) q.num.natAbs q.den:=by
 obtain⟨a,b,rfl,ha,hb⟩:=h;exact⟨a,b,rfl,ha.nat,hb.nat⟩
theorem zdc.below {w w':World} {v:Value} {s:Bool} {n d:Nat} (h:zdc w v s n d) (hb:Below w.heap.size w w'):zdc w' v s n d:=by
 obtain⟨a,b,rfl,h1,h2⟩:=h;exact⟨a,b,rfl,h1.below hb,h2.below hb⟩
theorem zqa.below {w w':World} {v:Value} {q:Rat} (h:zqa w v q) (hb:Below w.heap.size w w'):zqa w' v q:=by
 obtain⟨a,b,rfl,h1,h2⟩:=h;exact⟨a,b,rfl,h1.below hb,h2.below hb⟩
theorem zca (w:World) (o:Obj):Below w.heap.size w (w.alloc o):=(Below.refl w.heap.size w).alloc (zLR _) o
theorem beq_bits (n:Nat):((zua n:Int)==0)=decide (n=0):=by
 by_cases h:n=0
 ·simp[h,zbj]
 ·have:=zld.2 h
  rw[decide_eq_false h]
  exact beq_eq_false_iff_ne.2 (by omega)
theorem zih (v:Value) (s:Bool) (n d:Nat) (w:World) (h:zdc w v s n d):
 Calls Tryz.prog 186 #[v] w fun e w'=>e= .returned (.bool (decide (n=0)))/\Below w.heap.size w w':=by
 obtain⟨a,b,rfl,ha,hb⟩:=h
 go_enter Tryz.func186,Tryz.ntmps186
 go_wp2_with (go_at_call 156;refine(zva _ n _ (ha.below (zca _ _))).mono ?_;rintro e w' ⟨rfl,rfl⟩)
 go_ret
 exact⟨by rw[<-beq_bits];rfl,zca _ _⟩
theorem zgb (va vb:Value) (m n:Nat) (w:World) (ha:zob w va m) (hb:zob w vb n) (hm:zda m<=256) (hn:zda n<=256):
 Calls Tryz.prog 157 #[va,vb] w (RNat w (m*n)):=by
 have h1:zda m<=512:=by omega
 have h2:zda n<=512:=by omega
 have h3:zda (m*n)<=512:=by
  rw[zzb]at *
  have:=Nat.mul_lt_mul'' hm hn
  rw[<-pw_add]at this
  exact this
 have H1:=zH h1
 have H2:=zH h2
 have H3:=zH h3
 clear h1 h2 h3 hm hn
 go_enter Tryz.func157,Tryz.ntmps157
 go_wp2_with (go_at_call 199;(with_reducible refine(mul_any _ _ m n _ ha hb H1.out H2.out).mono ?_);rintro e w1 ⟨r,er,rfl,hr,hbl⟩)
 obtain⟨rfl,hr2⟩:=hr.1 H3.out
 go_wp2
 go_ret
 exact⟨_,rfl,hr2,hbl⟩
def okN (n d:Nat):Prop:=d≠0/\zua d<=4096/\zua n<=4096
instance (n d:Nat):Decidable (okN n d):=inferInstanceAs (Decidable (_/\_/\_))
theorem valid_any (v:Value) (s:Bool) (n d:Nat) (w:World) (h:zdc w v s n d):
 Calls Tryz.prog 79 #[v] w fun e w'=>e= .returned (.bool (decide (okN n d)))/\Below w.heap.size w w':=by
 obtain⟨a,b,rfl,ha,hb⟩:=h
 have hbp:=zld (n:=d)
 generalize hx:zua d=x at *
 have HX:=zH hx
 clear hx
 go_enter Tryz.func79,Tryz.ntmps79
 go_wp2_with (go_at_call 156;first
  |((with_reducible refine(zva a n _ (ha.below (zca _ _))).mono ?_);rintro e w' ⟨rfl,rfl⟩)
  |((with_reducible refine(zva b d _ (hb.below (zca _ _))).mono ?_);rintro e w' ⟨rfl,rfl⟩;rw[HX.out]))
 ·next h0=>
  go_ret
  refine⟨?_,zca _ _⟩
  rw[decide_eq_false (fun h=>h.1 h0)];rfl
 ·next h0 h1=>
  go_ret
  refine⟨?_,zca _ _⟩
  have :decide (okN n d)=decide ((zua n:Int)<=4096):=by
   by_cases hb:zua n<=4096
   ·rw[decide_eq_true (show okN n d from⟨h0,by rw[HX.out];omega,hb⟩),decide_eq_true (by omega)]
   ·rw[decide_eq_false (fun h:okN n d=>hb h.2.2),decide_eq_false (by omega)]
  rw[this];rfl
 ·next h0 h1=>
  go_ret
  refine⟨?_,zca _ _⟩
  rw[decide_eq_false (fun h=>by have:=h.2.1;rw[HX.out]at this;omega)];rfl
theorem Tryz.aggF (w:World):(isAgg 38).run Tryz.prog w= .ok true w:=by go_simp
theorem Tryz.sizeF (w:World):(sizeOf 38).run Tryz.prog w= .ok 3 w:=by go_simp
def zeroF :Value:= .agg #[.bool false, .slice none 0 0, .slice none 0 0]
def zmi (w0:World) (q:Rat) (e:Ending) (w:World):Prop:=
 ∃v er,e= .returned (.tuple #[v, .int .i64 er])/\Below w0.heap.size w0 w/\(fits q->er=0/\zqa w v q)/\(¬fits q->er=2/\v=zeroF)
theorem zfc.over {w:World} {v:Value} {l:List Nat} (h:zfc w v l) {p:Addr} {x:Value} (hp:w.cell? p=some x) (hx:∀z,x≠ .int .u32 z) (u:Value):zfc (w.setCell p u) v l:=
 ⟨h.sl,h.len,fun j hj=>by
  have h1:=h.cell j hj
  rw[World.cell?_setCell_other]
  ·exact h1
  ·intro e
   rw[<-e,hp]at h1
   injection h1 with h1
   exact hx _ h1,h.lm⟩
theorem zfc.set3 {w:World} {v:Value} {l:List Nat} {b:Nat} {v0 v1 v2:Value} (h:zfc w v l) (hc:C3 w b v0 v1 v2) (h0:∀z,v0≠ .int .u32 z) (h1:∀z,v1≠ .int .u32 z) (h2:∀z,v2≠ .int .u32 z) (u0 u1 u2:Value):
 zfc (((w.setCell ⟨b,0,none⟩ u0).setCell ⟨b,1,none⟩ u1).setCell ⟨b,2,none⟩ u2) v l:=by
 refine((h.over hc.c0 h0 _).over (x:=v1) ?_ h1 _).over (x:=v2) ?_ h2 _
 ·rw[World.cell?_setCell_other]
  ·exact hc.c1
  ·simp
 ·rw[World.cell?_setCell_other,World.cell?_setCell_other]
  ·exact hc.c2
  ·simp
  ·simp
theorem zjb.set3 {w:World} {v:Value} {n:Nat} {b:Nat} {s:Bool} {x y:Value} (h:zjb w v n) (hc:C3 w b (.bool s) x y) (hx:∀z,x≠ .int .u32 z) (hy:∀z,y≠ .int .u32 z) (u0 u1 u2:Value):
 zjb (((w.setCell ⟨b,0,none⟩ u0).setCell ⟨b,1,none⟩ u1).setCell ⟨b,2,none⟩ u2) v n:=⟨h.v.set3 hc (fun z=>by simp) hx hy _ _ _,h.2⟩
theorem zqa.set3 {w:World} {v:Value} {q:Rat} {b:Nat} {s:Bool} {x y:Value} (h:zqa w v q) (hc:C3 w b (.bool s) x y) (hx:∀z,x≠ .int .u32 z) (hy:∀z,y≠ .int .u32 z) (u0 u1 u2:Value):
 zqa (((w.setCell ⟨b,0,none⟩ u0).setCell ⟨b,1,none⟩ u1).setCell ⟨b,2,none⟩ u2) v q:=by
 obtain⟨xa,xb,rfl,ha,hb⟩:=h
 exact⟨xa,xb,rfl,ha.set3 hc hx hy _ _ _,hb.set3 hc hx hy _ _ _⟩
theorem zzh (n:Nat):decide (0<zua n)=(true&&decide (0<n)):=by
 have:=zld (n:=n)
 by_cases h:n=0
 ·subst h;rfl
 ·rw[decide_eq_true (this.2 h),decide_eq_true (Nat.pos_of_ne_zero h)];rfl
theorem zll (s:Bool) (n d:Nat) (hd:d≠0):fits (fq s n d)↔zua (n/Nat.gcd n d)<=4096/\zua (d/Nat.gcd n d)<=4096:=by
 unfold fits;rw[zif _ _ _ hd,zsm _ _ _ hd]
theorem zxg {w:World} {xa xb:Value} {s t:Bool} {n d:Nat} (hd:d≠0) (ha:zjb w xa (n/Nat.gcd n d)) (hb:zjb w xb (d/Nat.gcd n d)) (ht:t=(s&&decide (0<n/Nat.gcd n d))):
 zqa w (.agg #[.bool t,xa,xb]) (fq s n d):=by
 refine⟨xa,xb,by rw[zqu _ _ _ hd,ht],?_,?_⟩
 ·rw[zif _ _ _ hd];exact ha
 ·rw[zsm _ _ _ hd];exact hb
theorem lowest_one (s:Bool) (va vb:Value) (n d:Nat) (w:World) (ha:zob w va n) (hb:zob w vb d) (hd:d≠0) (hn5:zda n<=512) (hd5:zda d<=512) (hg:Nat.gcd n d=1):
 Calls Tryz.prog 142 #[.bool s,va,vb] w (zmi w (fq s n d)):=by
 have HN:=zH hn5
 have HD:=zH hd5
 have HG:=zH hg
 have h1:zua 1=1:=by decide
 have H1:=zH h1
 clear hn5 hd5 hg h1
 rcases s with _ | _
 case true=>
  go_enter Tryz.func142,Tryz.ntmps142
  go_wp2_with (first
   |(go_at_call 192;(with_reducible refine(zsn _ _ n d _ (ha.below (zca _ _)) (hb.below (zca _ _)) HN.out HD.out).mono ?_);rintro e w1 ⟨g,rfl,hg1,hb1⟩;rw[HG.out]at hg1)
   |(go_at_call 156;first
    |((with_reducible refine(zva g 1 _ hg1.nat).mono ?_);rintro e w' ⟨rfl,rfl⟩;rw[H1.out])))
  have hbz:=(zca _ _).trans (hb1.mono (zca _ _).size)
  have hxa:=ha.below hbz
  have hxb:=hb.below hbz
  have hC:=(C3.new w _ _ _ _).belowS hb1
  clear hb1 ha hb hg1
  have hq1:n=n/Nat.gcd n d:=by rw[HG.out,Nat.div_one]
  have hq2:d=d/Nat.gcd n d:=by rw[HG.out,Nat.div_one]
  rw[hq1]at hxa
  rw[hq2]at hxb
  clear hq1 hq2
  have hF:=zll true n d hd
  generalize hN1:n/Nat.gcd n d=N1 at *
  generalize hD1:d/Nat.gcd n d=D1 at *
  have HN1:=zH hN1
  have HD1:=zH hD1
  have HC:=zH hC
  have HBZ:=zH hbz
  have HIF:=zH hF
  obtain⟨_,c0,c1,c2,f0,f1,f2⟩:=hC
  clear hN1 hD1 hF hbz
  by_cases hfit:zua N1<=4096/\zua D1<=4096
  ·have HFI:=zH (HIF.out.2 hfit)
   obtain⟨hf1,hf2⟩:=hfit
   go_wp2_with (first
    |(go_at_call 156;first
     |((with_reducible refine(zva va N1 _ hxa).mono ?_);rintro e w' ⟨rfl,rfl⟩)
     |((with_reducible refine(zva vb D1 _ hxb).mono ?_);rintro e w' ⟨rfl,rfl⟩)))
   all_goals go_wp2_with (go_at_call 194;first
    |((with_reducible refine(zjd va N1 _ hxa).mono ?_);rintro e w1 ⟨ra,rfl,hra,hb1⟩;obtain⟨a1,l1,k1,rfl,_⟩:=hra.v.sl)
    |((with_reducible refine(zjd vb D1 _ (hxb.below hb1)).mono ?_);rintro e w2 ⟨rb,rfl,hrb,hb2⟩;obtain⟨a2,l2,k2,rfl,_⟩:=hrb.v.sl
      have hra2:=hra.below hb2
      have hC2:=(HC.out.belowS hb1).belowS hb2
      have HC2:=zH hC2
      have HBZ2:=zH (HBZ.out.trans ((hb1.trans (hb2.mono hb1.size)).mono HBZ.out.size))
      obtain⟨_,d0,d1,d2,e0,e1,e2⟩:=hC2))
   all_goals
    try simp only[Exit.inBlock,Exit.then]
    refine zoa rfl rfl Tryz.aggF Tryz.sizeF (HC2.out.set _ _ _) rfl ?_
    refine⟨_,0,rfl,zga HBZ2.out (zLR _) _ _ _,fun _=>⟨rfl,zqa.set3 (zxg hd (HN1.out▸hra2) (HD1.out▸hrb) ?_) HC2.out (fun z=>by simp) (fun z=>by simp) _ _ _⟩,fun h=>absurd HFI.out h⟩
    rw[HN1.out];first | rfl | exact zzh N1
  ·have HFI:=zH (fun h=>hfit (HIF.out.1 h))
   go_wp2_with (first
    |(go_at_call 156;first
     |((with_reducible refine(zva va N1 _ hxa).mono ?_);rintro e w' ⟨rfl,rfl⟩)
     |((with_reducible refine(zva vb D1 _ hxb).mono ?_);rintro e w' ⟨rfl,rfl⟩)))
   all_goals
    refine zoa rfl rfl Tryz.aggF Tryz.sizeF (HC.out.set _ _ _) rfl ?_
    exact⟨_,2,rfl,zga HBZ.out (zLR _) _ _ _,fun h=>absurd h HFI.out,fun _=>⟨rfl,rfl⟩⟩
 case false=>
  go_enter Tryz.func142,Tryz.ntmps142
  go_wp2_with (first
   |(go_at_call 192;(with_reducible refine(zsn _ _ n d _ (ha.below (zca _ _)) (hb.below (zca _ _)) HN.out HD.out).mono ?_);rintro e w1 ⟨g,rfl,hg1,hb1⟩;rw[HG.out]at hg1)
   |(go_at_call 156;first
    |((with_reducible refine(zva g 1 _ hg1.nat).mono ?_);rintro e w' ⟨rfl,rfl⟩;rw[H1.out])))
  have hbz:=(zca _ _).trans (hb1.mono (zca _ _).size)
  have hxa:=ha.below hbz
  have hxb:=hb.below hbz
  have hC:=(C3.new w _ _ _ _).belowS hb1
  clear hb1 ha hb hg1
  have hq1:n=n/Nat.gcd n d:=by rw[HG.out,Nat.div_one]
  have hq2:d=d/Nat.gcd n d:=by rw[HG.out,Nat.div_one]
  rw[hq1]at hxa
  rw[hq2]at hxb
  clear hq1 hq2
  have hF:=zll false n d hd
  generalize hN1:n/Nat.gcd n d=N1 at *
  generalize hD1:d/Nat.gcd n d=D1 at *
  have HN1:=zH hN1
  have HD1:=zH hD1
  have HC:=zH hC
  have HBZ:=zH hbz
  have HIF:=zH hF
  obtain⟨_,c0,c1,c2,f0,f1,f2⟩:=hC
  clear hN1 hD1 hF hbz
  by_cases hfit:zua N1<=4096/\zua D1<=4096
  ·have HFI:=zH (HIF.out.2 hfit)
   obtain⟨hf1,hf2⟩:=hfit
   go_wp2_with (first
    |(go_at_call 156;first
     |((with_reducible refine(zva va N1 _ hxa).mono ?_);rintro e w' ⟨rfl,rfl⟩)
     |((with_reducible refine(zva vb D1 _ hxb).mono ?_);rintro e w' ⟨rfl,rfl⟩)))
   all_goals go_wp2_with (go_at_call 194;first
    |((with_reducible refine(zjd va N1 _ hxa).mono ?_);rintro e w1 ⟨ra,rfl,hra,hb1⟩;obtain⟨a1,l1,k1,rfl,_⟩:=hra.v.sl)
    |((with_reducible refine(zjd vb D1 _ (hxb.below hb1)).mono ?_);rintro e w2 ⟨rb,rfl,hrb,hb2⟩;obtain⟨a2,l2,k2,rfl,_⟩:=hrb.v.sl
      have hra2:=hra.below hb2
      have hC2:=(HC.out.belowS hb1).belowS hb2
      have HC2:=zH hC2
      have HBZ2:=zH (HBZ.out.trans ((hb1.trans (hb2.mono hb1.size)).mono HBZ.out.size))
      obtain⟨_,d0,d1,d2,e0,e1,e2⟩:=hC2))
   all_goals
    try simp only[Exit.inBlock,Exit.then]
    refine zoa rfl rfl Tryz.aggF Tryz.sizeF (HC2.out.set _ _ _) rfl ?_
    refine⟨_,0,rfl,zga HBZ2.out (zLR _) _ _ _,fun _=>⟨rfl,zqa.set3 (zxg hd (HN1.out▸hra2) (HD1.out▸hrb) ?_) HC2.out (fun z=>by simp) (fun z=>by simp) _ _ _⟩,fun h=>absurd HFI.out h⟩
    rw[HN1.out];first | rfl | exact zzh N1
  ·have HFI:=zH (fun h=>hfit (HIF.out.1 h))
   go_wp2_with (first
    |(go_at_call 156;first
     |((with_reducible refine(zva va N1 _ hxa).mono ?_);rintro e w' ⟨rfl,rfl⟩)
     |((with_reducible refine(zva vb D1 _ hxb).mono ?_);rintro e w' ⟨rfl,rfl⟩)))
   all_goals
    refine zoa rfl rfl Tryz.aggF Tryz.sizeF (HC.out.set _ _ _) rfl ?_
    exact⟨_,2,rfl,zga HBZ.out (zLR _) _ _ _,fun h=>absurd h HFI.out,fun _=>⟨rfl,rfl⟩⟩
theorem lowest_more (s:Bool) (va vb:Value) (n d:Nat) (w:World) (ha:zob w va n) (hb:zob w vb d) (hd:d≠0) (hn5:zda n<=512) (hd5:zda d<=512) (hg:1<Nat.gcd n d):
 Calls Tryz.prog 142 #[.bool s,va,vb] w (zmi w (fq s n d)):=by
 have HN:=zH hn5
 have HD:=zH hd5
 have hgb:1<zua (Nat.gcd n d):=zse.2 hg
 have HG0:Hid (Nat.gcd n d≠0):=by have :Nat.gcd n d≠0:=by omega
                                  exact zH this
 have HG5:Hid (zda (Nat.gcd n d)<=512):=zH (zLT (zfb (Nat.le_of_dvd (Nat.pos_of_ne_zero hd) (Nat.gcd_dvd_right n d))) hd5)
 clear hn5 hd5 hg
 rcases s with _ | _
 case true=>
  go_enter Tryz.func142,Tryz.ntmps142
  go_wp2_with (first
   |(go_at_call 192;(with_reducible refine(zsn _ _ n d _ (ha.below (zca _ _)) (hb.below (zca _ _)) HN.out HD.out).mono ?_);rintro e w1 ⟨g,rfl,hg1,hb1⟩
     have hC:=(C3.new w _ _ _ _).belowS hb1
     have hbz:=(zca _ _).trans (hb1.mono (zca _ _).size)
     have hxa:=ha.below hbz
     have hxb:=hb.below hbz)
   |(go_at_call 156;first
    |((with_reducible refine(zva g (Nat.gcd n d) _ hg1.nat).mono ?_);rintro e w' ⟨rfl,rfl⟩))
   |(go_at_call 193;first
    |((with_reducible refine(zwn va g n (Nat.gcd n d) _ hxa hg1.nat HG0.out HN.out HG5.out).mono ?_);rintro e w3 ⟨q1,r1,rfl,hq1,hr1,hbl1⟩
      have hg3:=hg1.below hbl1
      have hxb3:=hxb.below hbl1)
    |((with_reducible refine(zwn vb g d (Nat.gcd n d) _ hxb3 hg3.nat HG0.out HD.out HG5.out).mono ?_);rintro e w4 ⟨q2,r2,rfl,hq2,hr2,hbl2⟩
      have hq14:=hq1.nat.below hbl2
      have hq24:=hq2.nat
      have hC4:=(hC.belowS hbl1).belowS hbl2
      have hbz4:=hbz.trans ((hbl1.trans (hbl2.mono hbl1.size)).mono hbz.size))))
  clear hC hbz hxa hxb hb1 ha hb hg1 hg3 hxb3 hbl1 hbl2 hq1 hq2 hr1 hr2
  have hxa:=hq14
  have hxb:=hq24
  have hC:=hC4
  have hbz:=hbz4
  clear hq14 hq24 hC4 hbz4 hgb
  have hF:=zll true n d hd
  generalize hN1:n/Nat.gcd n d=N1 at *
  generalize hD1:d/Nat.gcd n d=D1 at *
  have HN1:=zH hN1
  have HD1:=zH hD1
  have HC:=zH hC
  have HBZ:=zH hbz
  have HIF:=zH hF
  obtain⟨_,c0,c1,c2,f0,f1,f2⟩:=hC
  clear hN1 hD1 hF hbz
  by_cases hfit:zua N1<=4096/\zua D1<=4096
  ·have HFI:=zH (HIF.out.2 hfit)
   obtain⟨hf1,hf2⟩:=hfit
   go_wp2_with (first
    |(go_at_call 156;first
     |((with_reducible refine(zva q1 N1 _ hxa).mono ?_);rintro e w' ⟨rfl,rfl⟩)
     |((with_reducible refine(zva q2 D1 _ hxb).mono ?_);rintro e w' ⟨rfl,rfl⟩)))
   all_goals go_wp2_with (go_at_call 194;first
    |((with_reducible refine(zjd q1 N1 _ hxa).mono ?_);rintro e w1 ⟨ra,rfl,hra,hb1⟩;obtain⟨a1,l1,k1,rfl,_⟩:=hra.v.sl)
    |((with_reducible refine(zjd q2 D1 _ (hxb.below hb1)).mono ?_);rintro e w2 ⟨rb,rfl,hrb,hb2⟩;obtain⟨a2,l2,k2,rfl,_⟩:=hrb.v.sl
      have hra2:=hra.below hb2
      have hC2:=(HC.out.belowS hb1).belowS hb2
      have HC2:=zH hC2
      have HBZ2:=zH (HBZ.out.trans ((hb1.trans (hb2.mono hb1.size)).mono HBZ.out.size))
      obtain⟨_,d0,d1,d2,e0,e1,e2⟩:=hC2))
   all_goals
    try simp only[Exit.inBlock,Exit.then]
    refine zoa rfl rfl Tryz.aggF Tryz.sizeF (HC2.out.set _ _ _) rfl ?_
    refine⟨_,0,rfl,zga HBZ2.out (zLR _) _ _ _,fun _=>⟨rfl,zqa.set3 (zxg hd (HN1.out▸hra2) (HD1.out▸hrb) ?_) HC2.out (fun z=>by simp) (fun z=>by simp) _ _ _⟩,fun h=>absurd HFI.out h⟩
    rw[HN1.out];first | rfl | exact zzh N1
  ·have HFI:=zH (fun h=>hfit (HIF.out.1 h))
   go_wp2_with (first
    |(go_at_call 156;first
     |((with_reducible refine(zva q1 N1 _ hxa).mono ?_);rintro e w' ⟨rfl,rfl⟩)
     |((with_reducible refine(zva q2 D1 _ hxb).mono ?_);rintro e w' ⟨rfl,rfl⟩)))
   all_goals
    refine zoa rfl rfl Tryz.aggF Tryz.sizeF (HC.out.set _ _ _) rfl ?_
    exact⟨_,2,rfl,zga HBZ.out (zLR _) _ _ _,fun h=>absurd h HFI.out,fun _=>⟨rfl,rfl⟩⟩
 case false=>
  go_enter Tryz.func142,Tryz.ntmps142
  go_wp2_with (first
   |(go_at_call 192;(with_reducible refine(zsn _ _ n d _ (ha.below (zca _ _)) (hb.below (zca _ _)) HN.out HD.out).mono ?_);rintro e w1 ⟨g,rfl,hg1,hb1⟩
     have hC:=(C3.new w _ _ _ _).belowS hb1
     have hbz:=(zca _ _).trans (hb1.mono (zca _ _).size)
     have hxa:=ha.below hbz
     have hxb:=hb.below hbz)
   |(go_at_call 156;first
    |((with_reducible refine(zva g (Nat.gcd n d) _ hg1.nat).mono ?_);rintro e w' ⟨rfl,rfl⟩))
   |(go_at_call 193;first
    |((with_reducible refine(zwn va g n (Nat.gcd n d) _ hxa hg1.nat HG0.out HN.out HG5.out).mono ?_);rintro e w3 ⟨q1,r1,rfl,hq1,hr1,hbl1⟩
      have hg3:=hg1.below hbl1
      have hxb3:=hxb.below hbl1)
    |((with_reducible refine(zwn vb g d (Nat.gcd n d) _ hxb3 hg3.nat HG0.out HD.out HG5.out).mono ?_);rintro e w4 ⟨q2,r2,rfl,hq2,hr2,hbl2⟩
      have hq14:=hq1.nat.below hbl2
      have hq24:=hq2.nat
      have hC4:=(hC.belowS hbl1).belowS hbl2
      have hbz4:=hbz.trans ((hbl1.trans (hbl2.mono hbl1.size)).mono hbz.size))))
  clear hC hbz hxa hxb hb1 ha hb hg1 hg3 hxb3 hbl1 hbl2 hq1 hq2 hr1 hr2
  have hxa:=hq14
  have hxb:=hq24
  have hC:=hC4
  have hbz:=hbz4
  clear hq14 hq24 hC4 hbz4 hgb
  have hF:=zll false n d hd
  generalize hN1:n/Nat.gcd n d=N1 at *
  generalize hD1:d/Nat.gcd n d=D1 at *
  have HN1:=zH hN1
  have HD1:=zH hD1
  have HC:=zH hC
  have HBZ:=zH hbz
  have HIF:=zH hF
  obtain⟨_,c0,c1,c2,f0,f1,f2⟩:=hC
  clear hN1 hD1 hF hbz
  by_cases hfit:zua N1<=4096/\zua D1<=4096
  ·have HFI:=zH (HIF.out.2 hfit)
   obtain⟨hf1,hf2⟩:=hfit
   go_wp2_with (first
    |(go_at_call 156;first
     |((with_reducible refine(zva q1 N1 _ hxa).mono ?_);rintro e w' ⟨rfl,rfl⟩)
     |((with_reducible refine(zva q2 D1 _ hxb).mono ?_);rintro e w' ⟨rfl,rfl⟩)))
   all_goals go_wp2_with (go_at_call 194;first
    |((with_reducible refine(zjd q1 N1 _ hxa).mono ?_);rintro e w1 ⟨ra,rfl,hra,hb1⟩;obtain⟨a1,l1,k1,rfl,_⟩:=hra.v.sl)
    |((with_reducible refine(zjd q2 D1 _ (hxb.below hb1)).mono ?_);rintro e w2 ⟨rb,rfl,hrb,hb2⟩;obtain⟨a2,l2,k2,rfl,_⟩:=hrb.v.sl
      have hra2:=hra.below hb2
      have hC2:=(HC.out.belowS hb1).belowS hb2
      have HC2:=zH hC2
      have HBZ2:=zH (HBZ.out.trans ((hb1.trans (hb2.mono hb1.size)).mono HBZ.out.size))
      obtain⟨_,d0,d1,d2,e0,e1,e2⟩:=hC2))
   all_goals
    try simp only[Exit.inBlock,Exit.then]
    refine zoa rfl rfl Tryz.aggF Tryz.sizeF (HC2.out.set _ _ _) rfl ?_
    refine⟨_,0,rfl,zga HBZ2.out (zLR _) _ _ _,fun _=>⟨rfl,zqa.set3 (zxg hd (HN1.out▸hra2) (HD1.out▸hrb) ?_) HC2.out (fun z=>by simp) (fun z=>by simp) _ _ _⟩,fun h=>absurd HFI.out h⟩
    rw[HN1.out];first | rfl | exact zzh N1
  ·have HFI:=zH (fun h=>hfit (HIF.out.1 h))
   go_wp2_with (first
    |(go_at_call 156;first
     |((with_reducible refine(zva q1 N1 _ hxa).mono ?_);rintro e w' ⟨rfl,rfl⟩)
     |((with_reducible refine(zva q2 D1 _ hxb).mono ?_);rintro e w' ⟨rfl,rfl⟩)))
   all_goals
    refine zoa rfl rfl Tryz.aggF Tryz.sizeF (HC.out.set _ _ _) rfl ?_
    exact⟨_,2,rfl,zga HBZ.out (zLR _) _ _ _,fun h=>absurd h HFI.out,fun _=>⟨rfl,rfl⟩⟩
theorem zub (s:Bool) (va vb:Value) (n d:Nat) (w:World) (ha:zob w va n) (hb:zob w vb d) (hd:d≠0) (hn5:zda n<=512) (hd5:zda d<=512):
 Calls Tryz.prog 142 #[.bool s,va,vb] w (zmi w (fq s n d)):=by
 have h0:Nat.gcd n d≠0:=fun h=>hd (Nat.gcd_eq_zero_iff.1 h).2
 rcases Nat.lt_or_ge 1 (Nat.gcd n d)with h | h
 ·exact lowest_more s va vb n d w ha hb hd hn5 hd5 h
 ·exact lowest_one s va vb n d w ha hb hd hn5 hd5 (by omega)
theorem zjc {P:Program} {ops:Array Oper} {o:Oper} {a:Act} {w:World} {K:Act->World->Prop} {Q:Exit->Act->World->Prop} {E:Prop} (hg:o.guard=none) (f:FuncId) (argv:Array Value)
 (hrun:(execOp a.eval o).run P w= .ok (.enter f argv) w) {R:Ending->World->Prop} (hc:Calls P f argv w R) (h:∀e w',R e w'->∃v,e= .returned v/\K (a.put o.dst v) w'):
 if Region.wanted o (yielded ops a.tmps)=true then Oper.wp P o a w K Q else E:=by
 rw[if_pos (by simp[Region.wanted,hg])]
 unfold Oper.wp
 rw[hrun,Oper.upon_enter]
 refine hc.mono fun e w' hr=> ?_
 obtain⟨v,rfl,hk⟩:=h e w' hr
 exact hk
set_option maxHeartbeats 1600000
theorem zaa {w w1 w2:World} (h:Below w.heap.size w w1) (h':Below w1.heap.size w1 w2):Below w.heap.size w w2:=h.trans (h'.mono h.size)
theorem zqj (z:Int) (w:World) (h1: -9223372036854775808<=z) (h2:z<9223372036854775808):
 Calls Tryz.prog 143 #[.int .i64 z] w (RNat w z.natAbs):=by
 rcases Int.lt_or_le z 0 with h | h
 ·have h0:z<0:=h
  obtain⟨m,hm⟩:∃m:Nat,z= -(m:Int):=⟨z.natAbs,by omega⟩
  have hM:=zxj m (by omega)
  have e:z.natAbs=m:=by omega
  rw[e]
  clear e
  subst hm
  have hw:IntKind.u64.wrap (-IntKind.u64.wrap (-(m:Int)))=(m:Int):=by rw[zyb,zyb];omega
  go_enter Tryz.func143,Tryz.ntmps143
  go_wp2_with fail
  refine(hM w).mono ?_
  rintro e w' ⟨r,rfl,hr,hb⟩
  go_wp2
  go_ret
  exact⟨_,rfl,hr,hb⟩
 ·obtain⟨m,rfl⟩:∃m:Nat,z=(m:Int):=⟨z.natAbs,by omega⟩
  have hM:=zxj m (by omega)
  have e:(m:Int).natAbs=m:=by omega
  rw[e]
  have hw:IntKind.u64.wrap (m:Int)=(m:Int):=by rw[zyb];omega
  clear e h1 h2 h
  go_enter Tryz.func143,Tryz.ntmps143
  go_wp2_with fail
  refine(hM w).mono ?_
  rintro e w' ⟨r,rfl,hr,hb⟩
  go_wp2
  go_ret
  exact⟨_,rfl,hr,hb⟩
def IsF (v:Value):Prop:=∃s x y,v= .agg #[.bool s,x,y]/\zgc x/\zgc y
theorem zqa.isF {w:World} {v:Value} {q:Rat} (h:zqa w v q):IsF v:=by
 obtain⟨a,b,rfl,h1,h2⟩:=h;exact⟨_,a,b,rfl,h1.v.sl,h2.v.sl⟩
theorem isF_zero :IsF zeroF:=⟨false,_,_,rfl,zgc.nil,zgc.nil⟩
theorem zpb {w0 w:World} {q:Rat} {v:Value} {er:Int} (h1:fits q->er=0/\zqa w v q) (h2:¬fits q->er=2/\v=zeroF):IsF v:=by
 by_cases h:fits q
 ·exact(h1 h).2.isF
 ·rw[(h2 h).2];exact isF_zero
theorem zel (a b:Int) (w:World) (ha1: -9223372036854775808<=a) (ha2:a<9223372036854775808) (hb1: -9223372036854775808<=b) (hb2:b<9223372036854775808) (hb:b≠0):
 Calls Tryz.prog 67 #[.int .i64 a, .int .i64 b] w (zmi w (fq (!decide (a<0)==decide (b<0)) a.natAbs b.natAbs)):=by
 have HA:=zH (And.intro ha1 ha2)
 have HB:=zH (And.intro hb1 hb2)
 have hbn:b.natAbs≠0:=by omega
 have HBN:=zH hbn
 have h1:∀z:Int,-9223372036854775808<=z->z<9223372036854775808->zda z.natAbs<=512:=fun z _ _=>zzb.2 (zLM (show z.natAbs<pw 2 by have :pw 2=18446744073709551616:=rfl;omega) (zzu (by omega)))
 have H1:=zH (h1 a ha1 ha2)
 have H2:=zH (h1 b hb1 hb2)
 have h9:(b==0)=false:=by simpa using hb
 clear ha1 ha2 hb1 hb2 hbn h1 hb
 go_enter Tryz.func67,Tryz.ntmps67
 go_wp2_with (first
  |(go_at_call 143;first
   |((with_reducible refine(zqj a _ HA.out.1 HA.out.2).mono ?_);rintro e w1 ⟨x,rfl,hx,hx1⟩)
   |((with_reducible refine(zqj b _ HB.out.1 HB.out.2).mono ?_);rintro e w2 ⟨y,rfl,hy,hy1⟩;have hx2:=hx.below hy1))
  |(go_at_call 142;(with_reducible refine(zub _ x y a.natAbs b.natAbs _ hx2.nat hy.nat HBN.out H1.out H2.out).mono ?_);rintro e w3 ⟨v,er,rfl,hv1,hv2,hv3⟩
    obtain⟨t,x1,y1,rfl,⟨a1,l1,k1,rfl,_⟩,⟨a2,l2,k2,rfl,_⟩⟩:=zpb (w0:=w) hv2 hv3
    have hC:=(((C3.new w _ _ _ _).belowS hx1).belowS hy1).belowS hv1
    have HC:=zH hC
    have hbz:=(zca w _).trans ((hx1.trans ((hy1.trans (hv1.mono hy1.size)).mono hx1.size)).mono (zca w _).size)
    obtain⟨_,d0,d1,d2,e0,e1,e2⟩:=hC))
 refine zoa rfl rfl Tryz.aggF Tryz.sizeF (HC.out.set _ _ _) rfl ?_
 exact⟨_,_,rfl,zga hbz (zLR _) _ _ _,fun h=>⟨(hv2 h).1,(hv2 h).2.set3 HC.out (fun z=>by simp) (fun z=>by simp) _ _ _⟩,hv3⟩
theorem zrd (v:Value) (s:Bool) (n d:Nat) (w:World) (h:zdc w v s n d) (hk:okN n d):
 Calls Tryz.prog 79 #[v] w fun e w'=>e= .returned (.bool true)/\Below w.heap.size w w':=
 (valid_any v s n d w h).mono fun e w' ⟨h1,h2⟩=>⟨by rw[h1,decide_eq_true hk],h2⟩
theorem C3.allocS {w:World} {b:Nat} {v0 v1 v2:Value} (h:C3 w b v0 v1 v2) (o:Obj):C3 (w.alloc o) b v0 v1 v2:=h.belowS (zca w o)
theorem zmc (w:World) (t:TypeId) (x0 x1 x2 y0 y1 y2 z0 z1 z2:Value) (W:World)
 (hW:W=((w.alloc (.cells #[x0,x1,x2] t)).alloc (.cells #[y0,y1,y2] t)).alloc (.cells #[z0,z1,z2] t)):
 C3 W w.heap.size x0 x1 x2/\C3 W (w.heap.size+1) y0 y1 y2/\C3 W (w.heap.size+1+1) z0 z1 z2/\Below w.heap.size w W:=by
 subst hW
 have e1:(w.alloc (.cells #[x0,x1,x2] t)).heap.size=w.heap.size+1:=by show(w.heap.push _).size=_;simp
 have e2:((w.alloc (.cells #[x0,x1,x2] t)).alloc (.cells #[y0,y1,y2] t)).heap.size=w.heap.size+1+1:=by show(World.heap _ |>.push _).size=_;rw[Array.size_push,e1]
 refine⟨((C3.new w t x0 x1 x2).allocS _).allocS _,?_,?_,?_⟩
 ·rw[<-e1];exact(C3.new _ t y0 y1 y2).allocS _
 ·rw[<-e2];exact C3.new _ t z0 z1 z2
 ·exact(zca w _).trans (((zca _ _).trans ((zca _ _).mono (zca _ _).size)).mono (zca w _).size)
theorem zsd {a b j k:Nat} (ha:zda a<=j) (hb:zda b<=k):zda (a*b)<=j+k:=by
 rw[zzb]at *
 have:=Nat.mul_lt_mul'' ha hb
 rwa[<-pw_add]at this
theorem nlen_sum {a b k:Nat} (ha:zda a<=k) (hb:zda b<=k):zda (a+b)<=k+1:=by
 rw[zzb]at *
 rw[zmb];omega
theorem cmp_ge0 (va vb:Value) (m n:Nat) (w:World) (ha:zob w va m) (hb:zob w vb n) (h:n<=m):
 Calls Tryz.prog 159 #[va,vb] w fun e w'=>(∃c:Int,e= .returned (.int .i64 c)/\decide (0<=c)=true)/\Below w.heap.size w w':=
 (ztl va vb m n w ha hb).mono fun _ _ ⟨a,k,b⟩=>⟨⟨_,a,by unfold zfj;rw[if_neg (by omega)];split<;>rfl⟩,b▸zka w k⟩
theorem cmp_lt0 (va vb:Value) (m n:Nat) (w:World) (ha:zob w va m) (hb:zob w vb n) (h:m<n):
 Calls Tryz.prog 159 #[va,vb] w fun e w'=>(∃c:Int,e= .returned (.int .i64 c)/\decide (0<=c)=false)/\Below w.heap.size w w':=
 (ztl va vb m n w ha hb).mono fun _ _ ⟨a,k,b⟩=>⟨⟨_,a,by rw[zkg h];rfl⟩,b▸zka w k⟩
theorem zrc {n d:Nat} (h:okN n d):zda n<=128/\zda d<=128:=⟨zgd h.2.2,zgd h.2.1⟩
theorem zco (va vb:Value) (s t:Bool) (n d m e:Nat) (w:World) (ha:zdc w va s n d) (hb:zdc w vb t m e) (h1:okN n d) (h2:okN m e):
 Calls Tryz.prog 80 #[va,vb] w (zmi w (fq s n d+fq t m e)):=by
 have hA:=ha
 have hB:=hb
 obtain⟨xn,xd,rfl,hxn,hxd⟩:=ha
 obtain⟨yn,yd,rfl,hyn,hyd⟩:=hb
 obtain⟨an,ln,kn,rfl,_⟩:=hxn.slen.1
 obtain⟨ad,ld,kd,rfl,_⟩:=hxd.slen.1
 obtain⟨am,lm,km,rfl,_⟩:=hyn.slen.1
 obtain⟨ae,le,ke,rfl,_⟩:=hyd.slen.1
 have K1:=zH h1
 have K2:=zH h2
 clear h1 h2
 go_enter Tryz.func80,Tryz.ntmps80
 go_wp2_with fail
 obtain⟨W,hW⟩:∃W,W=(((w.alloc (.cells #[.bool s, .slice an ln kn, .slice ad ld kd] 38)).alloc (.cells #[.bool t, .slice am lm km, .slice ae le ke] 38)).alloc (.cells #[.bool false, .slice none 0 0, .slice none 0 0] 38)):=⟨_,rfl⟩
 obtain⟨bx,byy,bz,hbw⟩:=zmc w 38 _ _ _ _ _ _ _ _ _ W hW
 rw[<-hW]
 clear hW
 have HBX:=zH bx
 have HBY:=zH byy
 have HBZ:=zH bz
 obtain⟨_,q1,q2,q3,q4,q5,q6⟩:=bx
 obtain⟨_,r1,r2,r3,r4,r5,r6⟩:=byy
 go_wp2_with (first
  |(go_at_call 79;first
    |((with_reducible refine(zrd _ s n d _ (hA.below hbw) K1.out).mono ?_);rintro e9 w1 ⟨rfl,hv1⟩
      obtain⟨_,f1,f2,f3,f4,f5,f6⟩:=HBY.out.belowS hv1
      have hbw1:=hbw.trans (hv1.mono hbw.size))
    |((with_reducible refine(zrd _ t m e _ (hB.below hbw1) K2.out).mono ?_);rintro e9 w2 ⟨rfl,hv2⟩
      have hbx2:=(HBX.out.belowS hv1).belowS hv2
      have hby2:=(HBY.out.belowS hv1).belowS hv2
      have hbz2:=(HBZ.out.belowS hv1).belowS hv2
      have hbw2:=hbw1.trans (hv2.mono hbw1.size))))
 clear q1 q2 q3 q4 q5 q6 r1 r2 r3 r4 r5 r6 f1 f2 f3 f4 f5 f6
 have hd2:=zja (B:=w2.heap.size) w2
 have hD:=hbw2.trans (hd2.mono hbw2.size)
 have hbx3:=hbx2.belowS hd2
 have hby3:=hby2.belowS hd2
 have hbz3:=hbz2.belowS hd2
 clear hbx2 hby2 hbz2 hbw2 hv1 hv2 hbw hbw1 HBX HBY HBZ bz hd2
 have HX3:=zH hbx3
 have HY3:=zH hby3
 have HZ3:=zH hbz3
 obtain⟨_,q1,q2,q3,q4,q5,q6⟩:=hbx3
 obtain⟨_,r1,r2,r3,r4,r5,r6⟩:=hby3
 clear hbz3
 have g1:=hxn.below hD
 have g2:=hxd.below hD
 have g3:=hyn.below hD
 have g4:=hyd.below hD
 have l1:=zH (zrc K1.out)
 have l2:=zH (zrc K2.out)
 have T1:=zH (zLT l1.out.1 (show 128<=256 by decide))
 have T2:=zH (zLT l2.out.2 (show 128<=256 by decide))
 have T3:=zH (zLT l2.out.1 (show 128<=256 by decide))
 have T4:=zH (zLT l1.out.2 (show 128<=256 by decide))
 have tok1:True:=trivial
 have tok2:True:=trivial
 have tok3:True:=trivial
 go_region_held3 (fun w'=>w'.cell? ⟨w.heap.size,1,none⟩=some (.slice an ln kn)/\w'.cell? ⟨w.heap.size,2,none⟩=some (.slice ad ld kd)/\w'.cell? ⟨w.heap.size+1,1,none⟩=some (.slice am lm km)/\w'.cell? ⟨w.heap.size+1,2,none⟩=some (.slice ae le ke)) (exact⟨q2,q3,r2,r3⟩) (first
  |(go_at_call 157;have _t:=tok1;clear tok1 _t;(with_reducible refine(zgb _ _ n e _ g1 g4 T1.out T2.out).mono ?_);rintro e9 w3 ⟨p1,rfl,hp1,hp2⟩
    have X4:=HX3.out.belowS hp2
    have Y4:=HY3.out.belowS hp2
    have HX4:=zH X4
    have HY4:=zH Y4
    obtain⟨_,q1,q2,q3,q4,q5,q6⟩:=X4
    obtain⟨_,r1,r2,r3,r4,r5,r6⟩:=Y4)
  |(go_at_call 157;have _t:=tok2;clear tok2 _t;(with_reducible refine(zgb _ _ m d _ (g3.below hp2) (g2.below hp2) T3.out T4.out).mono ?_);rintro e9 w4 ⟨p3,rfl,hp3,hp4⟩
    have hp24:=zaa hp2 hp4
    have hp14:=hp1.below hp4
    have X5:=HX4.out.belowS hp4
    have Y5:=HY4.out.belowS hp4
    have HX5:=zH X5
    have HY5:=zH Y5
    obtain⟨_,q1,q2,q3,q4,q5,q6⟩:=X5
    obtain⟨_,r1,r2,r3,r4,r5,r6⟩:=Y5)
  |(go_at_call 157;have _t:=tok3;clear tok3 _t;(with_reducible refine(zgb _ _ d e _ (g2.below hp24) (g4.below hp24) T4.out T2.out).mono ?_);rintro e9 w5 ⟨p5,rfl,hp5,hp6⟩
    have hp26:=zaa hp24 hp6
    have hp16:=hp14.below hp6
    have hp36:=hp3.below hp6
    have X6:=HX5.out.belowS hp6
    have Y6:=HY5.out.belowS hp6
    have HX6:=zH X6
    have HY6:=zH Y6
    obtain⟨_,q1,q2,q3,q4,q5,q6⟩:=X6
    obtain⟨_,r1,r2,r3,r4,r5,r6⟩:=Y6))
 have hdw:Below w.heap.size w w5:=hD.trans (hp26.mono hD.size)
 have HZ6:=zH (HZ3.out.belowS hp26)
 have HDE:Hid (d*e≠0):=zH (Nat.mul_ne_zero K1.out.1 K2.out.1)
 have N1:=zH (zsd l1.out.1 l2.out.2)
 have N3:=zH (zsd l2.out.1 l1.out.2)
 have N5:=zH (zLT (zsd l1.out.2 l2.out.2) (show 128+128<=512 by decide))
 have NS:=zH (zLT (nlen_sum N1.out N3.out) (show 128+128+1<=512 by decide))
 have N12:=zH (zLT N1.out (show 128+128<=512 by decide))
 have N32:=zH (zLT N3.out (show 128+128<=512 by decide))
 clear hp24 hp26 hp14 hp1 hp3 hp2 hp4 hp6 hD HZ3 g1 g2 g3 g4 HX3 HY3 HX4 HY4 HX5 HY5 T1 T2 T3 T4
 by_cases hst:s=t
 ·have HQ:=zH (zhh s n d m e K1.out.1 K2.out.1)
  subst hst
  go_wp2_with (first
   |(go_at_call 158;(with_reducible refine(add_any p1 p3 (n*e) (m*d) _ hp16.nat hp36.nat N12.out N32.out).mono ?_);rintro e9 w6 ⟨r,er,rfl,hr,hb6⟩
     have hr6:=(hr.1 NS.out).2
     have hp56:=hp5.below hb6
     have hdw6:=zaa hdw hb6
     have HZ7:=zH (HZ6.out.belowS hb6)
     obtain⟨_,q1,q2,q3,q4,q5,q6⟩:=HX6.out.belowS hb6
     obtain⟨_,r1,r2,r3,r4,r5,r6⟩:=HY6.out.belowS hb6
     )
   |(go_at_call 142;(with_reducible refine(zub s r p5 (n*e+m*d) (d*e) _ hr6.nat hp56.nat HDE.out NS.out N5.out).mono ?_);rintro e9 w7 ⟨v,er7,rfl,hv1,hv2,hv3⟩
     rw[<-HQ.out]at hv2 hv3
     obtain⟨t9,x9,y9,rfl,⟨a1,l91,k1,rfl,_⟩,⟨a2,l92,k2,rfl,_⟩⟩:=zpb (w0:=w) hv2 hv3
     have hC:=HZ7.out.belowS hv1
     have HC:=zH hC
     have hbz:=zaa hdw6 hv1
     obtain⟨_,d0,d1,d2,e0,e1,e2⟩:=hC
     )
   )
  refine zoa rfl rfl Tryz.aggF Tryz.sizeF (HC.out.set _ _ _) rfl ?_
  exact⟨_,_,rfl,zga hbz (by omega) _ _ _,fun h=>⟨(hv2 h).1,(hv2 h).2.set3 HC.out (fun z=>by simp) (fun z=>by simp) _ _ _⟩,hv3⟩
 ·have hsb:(s==t)=false:=by simpa using hst
  by_cases hle:m*d<=n*e
  ·have HQ:=zH (fq_add_ge s t n d m e K1.out.1 K2.out.1 hsb hle)
   have HLE:=zH hle
   have NS:=zH (zLT (zfb (Nat.sub_le (n*e) (m*d))) N12.out)
   clear hle
   go_wp2_with (first
    |(go_at_call 159;(with_reducible refine(cmp_ge0 p1 p3 (n*e) (m*d) _ hp16.nat hp36.nat HLE.out).mono ?_);rintro e9 w5b ⟨⟨c,rfl,hc⟩,hb5⟩
      have hp16:=hp16.below hb5
      have hp36:=hp36.below hb5
      have hp5:=hp5.below hb5
      have HX6:=zH (HX6.out.belowS hb5)
      have HY6:=zH (HY6.out.belowS hb5)
      have HZ6:=zH (HZ6.out.belowS hb5)
      have hdw:=zaa hdw hb5)
    |(go_at_call 160;(with_reducible refine(sub_any p1 p3 (n*e) (m*d) _ hp16.nat hp36.nat N12.out HLE.out).mono ?_);rintro e9 w6 ⟨r,er,rfl,hr,hb6⟩
      have hr6:=(hr.1 NS.out).2
      have hp56:=hp5.below hb6
      have hdw6:=zaa hdw hb6
      have HZ7:=zH (HZ6.out.belowS hb6)
      obtain⟨_,q1,q2,q3,q4,q5,q6⟩:=HX6.out.belowS hb6
      obtain⟨_,r1,r2,r3,r4,r5,r6⟩:=HY6.out.belowS hb6
      )
    |(go_at_call 142;(with_reducible refine(zub s r p5 (n*e-m*d) (d*e) _ hr6.nat hp56.nat HDE.out NS.out N5.out).mono ?_);rintro e9 w7 ⟨v,er7,rfl,hv1,hv2,hv3⟩
      rw[<-HQ.out]at hv2 hv3
      obtain⟨t9,x9,y9,rfl,⟨a1,l91,k1,rfl,_⟩,⟨a2,l92,k2,rfl,_⟩⟩:=zpb (w0:=w) hv2 hv3
      have hC:=HZ7.out.belowS hv1
      have HC:=zH hC
      have hbz:=zaa hdw6 hv1
      obtain⟨_,d0,d1,d2,e0,e1,e2⟩:=hC
      )
    )
   refine zoa rfl rfl Tryz.aggF Tryz.sizeF (HC.out.set _ _ _) rfl ?_
   exact⟨_,_,rfl,zga hbz (by omega) _ _ _,fun h=>⟨(hv2 h).1,(hv2 h).2.set3 HC.out (fun z=>by simp) (fun z=>by simp) _ _ _⟩,hv3⟩
  ·have hlt:n*e<m*d:=Nat.lt_of_not_le hle
   have HQ:=zH (fq_add_lt s t n d m e K1.out.1 K2.out.1 hsb (Nat.le_of_lt hlt))
   have HLT:=zH hlt
   have NS:=zH (zLT (zfb (Nat.sub_le (m*d) (n*e))) N32.out)
   clear hle hlt
   go_wp2_with (first
    |(go_at_call 159;(with_reducible refine(cmp_lt0 p1 p3 (n*e) (m*d) _ hp16.nat hp36.nat HLT.out).mono ?_);rintro e9 w5b ⟨⟨c,rfl,hc⟩,hb5⟩
      have hp16:=hp16.below hb5
      have hp36:=hp36.below hb5
      have hp5:=hp5.below hb5
      have HX6:=zH (HX6.out.belowS hb5)
      have HY6:=zH (HY6.out.belowS hb5)
      have HZ6:=zH (HZ6.out.belowS hb5)
      have hdw:=zaa hdw hb5)
    |(go_at_call 160;(with_reducible refine(sub_any p3 p1 (m*d) (n*e) _ hp36.nat hp16.nat N32.out (Nat.le_of_lt HLT.out)).mono ?_);rintro e9 w6 ⟨r,er,rfl,hr,hb6⟩
      have hr6:=(hr.1 NS.out).2
      have hp56:=hp5.below hb6
      have hdw6:=zaa hdw hb6
      have HZ7:=zH (HZ6.out.belowS hb6)
      obtain⟨_,q1,q2,q3,q4,q5,q6⟩:=HX6.out.belowS hb6
      obtain⟨_,r1,r2,r3,r4,r5,r6⟩:=HY6.out.belowS hb6
      )
    |(go_at_call 142;(with_reducible refine(zub t r p5 (m*d-n*e) (d*e) _ hr6.nat hp56.nat HDE.out NS.out N5.out).mono ?_);rintro e9 w7 ⟨v,er7,rfl,hv1,hv2,hv3⟩
      rw[<-HQ.out]at hv2 hv3
      obtain⟨t9,x9,y9,rfl,⟨a1,l91,k1,rfl,_⟩,⟨a2,l92,k2,rfl,_⟩⟩:=zpb (w0:=w) hv2 hv3
      have hC:=HZ7.out.belowS hv1
      have HC:=zH hC
      have hbz:=zaa hdw6 hv1
      obtain⟨_,d0,d1,d2,e0,e1,e2⟩:=hC
      )
    )
   refine zoa rfl rfl Tryz.aggF Tryz.sizeF (HC.out.set _ _ _) rfl ?_
   exact⟨_,_,rfl,zga hbz (by omega) _ _ _,fun h=>⟨(hv2 h).1,(hv2 h).2.set3 HC.out (fun z=>by simp) (fun z=>by simp) _ _ _⟩,hv3⟩
@[go_sem] theorem ptr_off1 (v : Value) (k : Nat) : (⟨(ptr v k).block, (ptr v k).off + 1, none⟩ : Addr) = ptr v (k + 1) := by rw [<- ptr_add]; simp [Addr.add]
@[go_sem] theorem ptr_off2 (v : Value) (k : Nat) : (⟨(ptr v k).block, (ptr v k).off + 2, none⟩ : Addr) = ptr v (k + 2) := by rw [<- ptr_add]; simp [Addr.add]
structure RF where
 neg:Bool
 n:Nat
 d:Nat
def RF.q (x:RF):Rat:=fq x.neg x.n x.d
def RF.ok (x:RF):Prop:=okN x.n x.d
instance (x :RF):Decidable x.ok:=inferInstanceAs (Decidable (okN _ _))
def RF.of (q:Rat):RF:=⟨decide (q<0),q.num.natAbs,q.den⟩
theorem RF.of_q (q:Rat):(RF.of q).q=q:=zvb q
theorem RF.of_ok {q:Rat} (h:fits q):(RF.of q).ok:=⟨q.den_nz,h.2,h.1⟩
def FracAt (w:World) (v:Value) (k:Nat) (x:RF):Prop:=
 ∃a b,w.cell? (ptr v k)=some (.bool x.neg)/\w.cell? (ptr v (k+1))=some a/\w.cell? (ptr v (k+2))=some b/\zob w a x.n/\zob w b x.d
theorem zba {w w':World} (hb:Below w.heap.size w w') {p:Addr} {x:Value} (h:w.cell? p=some x):w'.cell? p=some x:=by
 have hlt:=World.block_lt_of_cell? w _ h
 rw[hb.cell hlt];exact h
theorem FracAt.below {w w':World} {v:Value} {k:Nat} {x:RF} (h:FracAt w v k x) (hb:Below w.heap.size w w'):FracAt w' v k x:=by
 obtain⟨a,b,h1,h2,h3,h4,h5⟩:=h
 exact⟨a,b,zba hb h1,zba hb h2,zba hb h3,h4.below hb,h5.below hb⟩
structure zni (w:World) (v:Value) (l:List RF):Prop where
 sl:zgc v
 len:slen v=l.length
 at':∀ (j:Nat) (h:j<l.length),FracAt w v (j*3) l[j]
theorem zni.below {w w':World} {v:Value} {l:List RF} (h:zni w v l) (hb:Below w.heap.size w w'):zni w' v l:=
 ⟨h.sl,h.len,fun j hj=>(h.at' j hj).below hb⟩
theorem zni.nil (w:World):zni w (.slice none 0 0) []:=⟨zgc.nil,rfl,fun j h=>by simp at h⟩
structure zbb (w:World) (v:Value) (qs:List Rat):Prop where
 sl:zgc v
 len:slen v=qs.length
 at':∀ (j:Nat) (h:j<qs.length),∃a b,w.cell? (ptr v (j*3))=some (.bool (decide (qs[j]<0)))/\w.cell? (ptr v (j*3+1))=some a/\w.cell? (ptr v (j*3+2))=some b/\zjb w a qs[j].num.natAbs/\zjb w b qs[j].den
theorem zbb.below {w w':World} {v:Value} {l:List Rat} (h:zbb w v l) (hb:Below w.heap.size w w'):zbb w' v l:=
 ⟨h.sl,h.len,fun j hj=>by
  obtain⟨a,b,h1,h2,h3,h4,h5⟩:=h.at' j hj
  exact⟨a,b,zba hb h1,zba hb h2,zba hb h3,h4.below hb,h5.below hb⟩⟩
theorem zbb.raw {w:World} {v:Value} {qs:List Rat} (h:zbb w v qs):zni w v (qs.map RF.of):=
 ⟨h.sl,by rw[h.len,List.length_map],fun j hj=>by
  obtain⟨a,b,h1,h2,h3,h4,h5⟩:=h.at' j (by simpa using hj)
  rw[List.getElem_map]
  exact⟨a,b,h1,h2,h3,h4.nat,h5.nat⟩⟩
structure zhc (w:World) (v:Value) (l:List Value):Prop where
 sl:zgc v
 len:slen v=l.length
 cell:∀ (j:Nat) (h:j<l.length),w.cell? (ptr v j)=some l[j]
theorem zhc.below {w w':World} {v:Value} {l:List Value} (h:zhc w v l) (hb:Below w.heap.size w w'):zhc w' v l:=
 ⟨h.sl,h.len,fun j hj=>zba hb (h.cell j hj)⟩
def zcm (w:World) (v:Value) (l:List Bool):Prop:=zhc w v (l.map Value.bool)
def zgv (w:World) (v:Value) (l:List Int):Prop:=zhc w v (l.map (Value.int .i64))
theorem zcm.below {w w':World} {v:Value} {l:List Bool} (h:zcm w v l) (hb:Below w.heap.size w w'):zcm w' v l:=zhc.below h hb
theorem zgv.below {w w':World} {v:Value} {l:List Int} (h:zgv w v l) (hb:Below w.heap.size w w'):zgv w' v l:=zhc.below h hb
theorem zcm.at' {w:World} {v:Value} {l:List Bool} (h:zcm w v l) (j:Nat) (hj:j<l.length):w.cell? (ptr v j)=some (.bool l[j]):=by
 have:=h.cell j (by simpa using hj);simpa using this
theorem zgv.at' {w:World} {v:Value} {l:List Int} (h:zgv w v l) (j:Nat) (hj:j<l.length):w.cell? (ptr v j)=some (.int .i64 l[j]):=by
 have:=h.cell j (by simpa using hj);simpa using this
theorem zcm.len {w:World} {v:Value} {l:List Bool} (h:zcm w v l):slen v=l.length:=by have:=zhc.len h;simpa using this
structure zlw (w:World) (v:Value) (m:List (List RF)):Prop where
 sl:zgc v
 len:slen v=m.length
 at':∀ (j:Nat) (h:j<m.length),∃r,w.cell? (ptr v j)=some r/\zni w r m[j]
theorem zlw.below {w w':World} {v:Value} {m:List (List RF)} (h:zlw w v m) (hb:Below w.heap.size w w'):zlw w' v m:=
 ⟨h.sl,h.len,fun j hj=>by obtain⟨r,h1,h2⟩:=h.at' j hj;exact⟨r,zba hb h1,h2.below hb⟩⟩
structure RC where
 rates:List (List RF)
 start:List RF
 lost:List Bool
def zdq (w:World) (v:Value) (c:RC):Prop:=∃r s l,v= .agg #[r,s,l]/\zlw w r c.rates/\zni w s c.start/\zcm w l c.lost
theorem zdq.below {w w':World} {v:Value} {c:RC} (h:zdq w v c) (hb:Below w.heap.size w w'):zdq w' v c:=by
 obtain⟨r,s,l,rfl,h1,h2,h3⟩:=h;exact⟨r,s,l,rfl,h1.below hb,h2.below hb,h3.below hb⟩
def qs (l:List RF):List Rat:=l.map RF.q
theorem zgq (l:List RF):(qs l).length=l.length:=by simp[qs]
theorem qs_take (l:List RF) (k:Nat):(qs l).take k=qs (l.take k):=by unfold qs;rw[List.map_take]
theorem zqt (l:List RF) (k:Nat) (h:k<l.length):(qs l)[k]'(by rw[zgq];exact h)=l[k].q:=by simp[qs]
theorem lsum_qs (l:List RF) (k:Nat) (h:k<l.length):zgg (qs (l.take (k+1)))=zgg (qs (l.take k))+l[k].q:=by
 rw[zxc l k h];unfold qs;rw[List.map_append];exact zgl _ _
end Go.Proofs.YtlpdkbmmbdfoiaaGreat
