/-
  Long division by limbs: the normalization, the rounds put together, the rest. No program is named here.
-/
import Derived.Test.YtlpdkbmmbdfoiaaGNa6
set_option linter.unusedVariables false
set_option linter.unusedSimpArgs false
namespace Go.Proofs.Ytlpdkbmmbdfoiaa
set_option maxHeartbeats 1600000
open Go.RowKit
theorem zpj (w:World) (row:Option Nat):w.grownBy w row:=⟨rfl,rfl,rfl,Nat.le_refl _,fun _ _ _=>rfl⟩
theorem zsc {w w1 w2:World} {row:Option Nat} (h:w.grownBy w1 row) (k:w1.grownBy w2 row):w.grownBy w2 row:=
 ⟨k.os.trans h.os,k.tape.trans h.tape,k.output.trans h.output,Nat.le_trans h.size k.size,fun i hi hr=>(k.block i (Nat.lt_of_lt_of_le hi h.size) hr).trans (h.block i hi hr)⟩
theorem zqc (w:World) (p:Addr) (u:Value):w.grownBy (w.setCell p u) (some p.block):=
 ⟨rfl,rfl,rfl,by simp[World.setCell],fun k _ hk=>Below.heap_setCell _ _ _ _ (fun e=>hk (by rw[e]))⟩
theorem ztc {w w':World} {b B:Nat} (h:w.grownBy w' (some b)) (hB:B≤b) (hs:B≤w.heap.size):Below B w w':=
 ⟨h.os,h.tape,h.output,h.size,fun k hk=>h.block k (by omega) (fun e=>by injection e;omega)⟩
theorem zfc.grown {w w':World} {v:Value} {l:List Nat} {b:Nat} (h:zfc w v l) (hg:w.grownBy w' (some b)) (hb:(base v).block≠b):zfc w' v l:=
 ⟨h.sl,h.len,fun j hj=>by
  have hc:=h.cell j hj
  have hlt:=World.block_lt_of_cell? w _ hc
  rw[World.cell?_of_block (hg.block _ hlt (fun e=>hb (by injection e with e;rw[←e,zsa]))),hc],h.lm⟩
theorem and_mask (t:Nat) (ht:t<18446744073709551616):bits .and .u64 (t:Int) 4294967295=((t%4294967296:Nat):Int):=by
 have h:=u64_and_nat t 4294967295 ht (by decide)
 have e:t &&& 4294967295=t%4294967296:=by
  have:=Nat.and_two_pow_sub_one_eq_mod t 32
  simpa using this
 rw[e]at h
 exact h
theorem sub_wrap2 (x y c:Nat) (hx:x<4294967296) (hy:y<4294967296) (hc:c≤1):∃z b:Nat,z<4294967296∧b≤1∧
 IntKind.u64.wrap (IntKind.u64.wrap ((x:Int)-y)-c)%4294967296=z∧IntKind.u64.wrap (IntKind.u64.wrap ((x:Int)-y)-c)/9223372036854775808=b∧z+y+c=x+4294967296*b:=by
 rw[zyb,zyb]
 by_cases h:c+y≤x
 ·exact⟨x-c-y,0,by omega,by omega,by omega,by omega,by omega⟩
 ·exact⟨x+4294967296-c-y,1,by omega,by omega,by omega,by omega,by omega⟩
theorem split_sum (c f x:Nat) (hc:c<4294967296) (hf:f<4294967296) (hx:x<4294967296):∃t c' lo:Nat,(c:Int)+(f:Int)*x=t∧bits .and .u64 (t:Int) 4294967295=lo∧(t:Int)/4294967296=c'∧
 c'<4294967296∧lo<4294967296∧4294967296*c'+lo=c+f*x∧t≤18446744073709551615:=by
 have hb:=(zcl hf hx (show 0<4294967296 by omega) hc).1
 have e:=mul_cast c f x 0
 have ha:=and_mask (f*x+0+c) hb
 refine⟨f*x+0+c,(f*x+0+c)/4294967296,(f*x+0+c)%4294967296,by rw[←e];simp,ha,by omega,by omega,by omega,by omega,by omega⟩
theorem zbg (U V uv:Value) (A p C l:List Nat) (n f B:Nat) (w:World) (hU:zgc U) (hUl:slen U=n+1) (hUp:∀k,ptr U k=ptr uv (A.length+k))
 (hu:zcc w 94 B uv (A++p++C)) (hp:p.length=n+1) (hv:zfc w V l) (hl:l.length=n) (hn:n≤65536) (hf:f<4294967296) (hne:(base V).block≠(base uv).block):
 Calls Try.prog 128 #[U,V, .int .u64 f] w fun e w'=>∃ (b:Bool) (p':List Nat),e= .returned (.bool b)∧zcc w' 94 B uv (A++p'++C)∧p'.length=n+1∧
  val p'+f*val l=val p+(if b then 1 else 0)*pw (n+1)∧w.grownBy w' (some (base uv).block):=by
 have hnb:n≤4294967296:=by omega
 have HN:=zH hn
 clear hn
 have sV:=hv.sl
 have lV:slen V=n:=by rw[hv.len,hl]
 have HUP:=zH hUp
 clear hUp
 go_enter Try.func128,Try.ntmps128
 go_wp2_with fail
 go_loopw [7,8,15] (fun u7 u8 u15 wr=>∃ (k c bo:Nat) (q:List Nat),k≤n∧u15= .int .i64 k∧u7= .int .u64 c∧u8= .int .u64 bo∧c<4294967296∧bo≤1∧zcc wr 94 B uv (A++q++C)∧q.length=n+1∧
  val (q.take k)+f*val (l.take k)=val (p.take k)+pw k*(c+bo)∧q.drop k=p.drop k∧w.grownBy wr (some (base uv).block)) (fun _ _ u15 _=>n- (intOf u15).toNat)
 case atStart=>exact⟨0,0,0,p,Nat.zero_le _,rfl,rfl,rfl,by omega,by omega,hu,hp,by simp[val],rfl,zpj _ _⟩
 case round=>
  obtain⟨k,c,bo,q,hk,rfl,rfl,rfl,hc,hbo,hown,hql,hval,hdr,hgr⟩:=hrel
  have hV:=hv.grown hgr hne
  have HV:=zH hval
  have HD:=zH hdr
  clear hval hdr
  have hpq:∀ (h:k<n+1),q[k]'(by omega)=p[k]'(by omega):=fun h=>by
   have:=congrArg (fun l=>l[0]?) HD.out
   simp only[List.getElem?_drop,Nat.add_zero]at this
   rw[List.getElem?_eq_getElem (by omega),List.getElem?_eq_getElem (by omega)]at this
   simpa using this
  by_cases hkn:k<n
  ·have hx:=hV.cell k (by omega)
   have hx1:l[k]'(by omega)<4294967296:=hv.lm _ (List.getElem_mem _)
   have hlen:A.length+k<(A++q++C).length:=by simp;omega
   have hco:=hown.nat.cell (A.length+k) hlen
   rw[←HUP.out k,(List.getElem_eq_iff hlen).2 (zxe A q C k (by omega))]at hco
   have hfz:=hown.frozen (A.length+k) hlen
   rw[←HUP.out k]at hfz
   have hu1:q[k]'(by omega)<4294967296:=by
    have:=hown.lm _ (List.getElem_mem (h:=hlen))
    rwa[(List.getElem_eq_iff hlen).2 (zxe A q C k (by omega))]at this
   have hp1:=zia p k (by omega)
   rw[←hpq (by omega)]at hp1
   have hl1:=zia l k (by omega)
   clear hpq
   generalize l[k]'(by omega)=x at *
   generalize q[k]'(by omega)=u at *
   have HP:=zH hp1
   have HL:=zH hl1
   clear hp1 hl1
   obtain⟨hb0,hb1⟩:=zsg hf hx1
   obtain⟨t,c',lo,et,hand,hdiv,hc',hlo,hts,htm⟩:=split_sum c f x hc hf hx1
   obtain⟨z,b',hz,hb',ez,eb,hzz⟩:=sub_wrap2 u lo bo hu1 hlo hbo
   have HTS:=zH hts
   have EZ:=zH ez
   have EB:=zH eb
   have HZZ:=zH hzz
   clear hts ez eb hzz
   go_wp2
   have hset:=hown.set (A.length+k) hlen z hz
   rw[zhk A q C k z (by omega),←HUP.out k]at hset
   have hgs:=zqc wr (ptr U k) (.int .u32 z)
   rw[show(ptr U k).block=(base uv).block from by rw[HUP.out k,zsa]]at hgs
   go_roundw
   case rel=>
    rw[EZ.out,EB.out]
    refine⟨k+1,c',b',q.set k z,by omega,by go_num,rfl,rfl,hc',hb',hset.1,by simp[hql],zan (by omega) HP.out HL.out HTS.out HZZ.out HV.out,?_,zsc hgr hgs⟩
    have:=congrArg (List.drop 1) HD.out
    rw[List.drop_drop,List.drop_drop]at this
    rw[List.drop_set_of_lt (by omega)]
    exact this
   case measure=>simp[intOf];omega
  ·obtain rfl:k=n:=by omega
   have hlen:A.length+k<(A++q++C).length:=by simp;omega
   have hco:=hown.nat.cell (A.length+k) hlen
   rw[←HUP.out k,(List.getElem_eq_iff hlen).2 (zxe A q C k (by omega))]at hco
   have hfz:=hown.frozen (A.length+k) hlen
   rw[←HUP.out k]at hfz
   have hu1:q[k]'(by omega)<4294967296:=by
    have:=hown.lm _ (List.getElem_mem (h:=hlen))
    rwa[(List.getElem_eq_iff hlen).2 (zxe A q C k (by omega))]at this
   obtain⟨z,b',hz,hb',ez,eb,hzz⟩:=sub_wrap2 (q[k]'(by omega)) c bo hu1 hc hbo
   have hfin:=subtract_end (p:=p) (q:=q) (l:=l) (n:=k) (c:=c) (bo:=bo) (f:=f) (z:=z) (b:=b') hql hp hl (by rw[←hpq (by omega)];omega) HV.out
   clear hpq
   generalize q[k]'(by omega)=u at *
   have EZ:=zH ez
   have EB:=zH eb
   have HF:=zH hfin
   have hset:=hown.set (A.length+k) hlen z hz
   rw[zhk A q C k z (by omega),←HUP.out k]at hset
   have hgs:=zqc wr (ptr U k) (.int .u32 z)
   rw[show(ptr U k).block=(base uv).block from by rw[HUP.out k,zsa]]at hgs
   have HS:=zH hset
   have HG:=zH hgs
   clear hzz ez eb hfin hset hgs HV HD hV
   go_wp2
   go_ret
   rw[EZ.out]
   refine⟨decide (b'=1),q.set k z,?_,HS.out.1,by simp[hql],?_,zsc hgr HG.out⟩
   ·show Ending.returned (Value.bool _)=_
    rw[EB.out]
    congr 2
    rw[Bool.eq_iff_iff];simp
    omega
   ·rw[HF.out]
    have :b'=0∨b'=1:=by omega
    rcases this with rfl | rfl<;>simp
theorem zdh (U V uv:Value) (A p C l:List Nat) (n B:Nat) (w:World) (hU:zgc U) (hUl:slen U=n+1) (hUp:∀k,ptr U k=ptr uv (A.length+k))
 (hu:zcc w 94 B uv (A++p++C)) (hp:p.length=n+1) (hv:zfc w V l) (hl:l.length=n) (hn:n≤65536) (hne:(base V).block≠(base uv).block):
 Calls Try.prog 129 #[U,V] w fun e w'=>∃ (b:Nat) (p':List Nat),e= .returned (.tuple #[])∧zcc w' 94 B uv (A++p'++C)∧p'.length=n+1∧
  val p'+b*pw (n+1)=val p+val l∧w.grownBy w' (some (base uv).block):=by
 have hnb:n≤4294967296:=by omega
 have HN:=zH hn
 clear hn
 have sV:=hv.sl
 have lV:slen V=n:=by rw[hv.len,hl]
 have HUP:=zH hUp
 clear hUp
 go_enter Try.func129,Try.ntmps129
 go_wp2_with fail
 go_loopw [4,9] (fun u4 u9 wr=>∃ (k c:Nat) (q:List Nat),k≤n∧u9= .int .i64 k∧u4= .int .u64 c∧c≤1∧zcc wr 94 B uv (A++q++C)∧q.length=n+1∧
  val (q.take k)+pw k*c=val (p.take k)+val (l.take k)∧q.drop k=p.drop k∧w.grownBy wr (some (base uv).block)) (fun _ u9 _=>n- (intOf u9).toNat)
 case atStart=>exact⟨0,0,p,Nat.zero_le _,rfl,rfl,by omega,hu,hp,by simp[val],rfl,zpj _ _⟩
 case round=>
  obtain⟨k,c,q,hk,rfl,rfl,hc,hown,hql,hval,hdr,hgr⟩:=hrel
  have hV:=hv.grown hgr hne
  have HV:=zH hval
  have HD:=zH hdr
  clear hval hdr
  have hpq:∀ (h:k<n+1),q[k]'(by omega)=p[k]'(by omega):=fun h=>by
   have:=congrArg (fun l=>l[0]?) HD.out
   simp only[List.getElem?_drop,Nat.add_zero]at this
   rw[List.getElem?_eq_getElem (by omega),List.getElem?_eq_getElem (by omega)]at this
   simpa using this
  have hlen:k<n+1→A.length+k<(A++q++C).length:=fun h=>by simp;omega
  by_cases hkn:k<n
  ·have hlen:=hlen (by omega)
   have hx:=hV.cell k (by omega)
   have hx1:l[k]'(by omega)<4294967296:=hv.lm _ (List.getElem_mem _)
   have hco:=hown.nat.cell (A.length+k) hlen
   rw[←HUP.out k,(List.getElem_eq_iff hlen).2 (zxe A q C k (by omega))]at hco
   have hfz:=hown.frozen (A.length+k) hlen
   rw[←HUP.out k]at hfz
   have hu1:q[k]'(by omega)<4294967296:=by
    have:=hown.lm _ (List.getElem_mem (h:=hlen))
    rwa[(List.getElem_eq_iff hlen).2 (zxe A q C k (by omega))]at this
   have hp1:=zia p k (by omega)
   rw[←hpq (by omega)]at hp1
   have hl1:=zia l k (by omega)
   clear hpq
   generalize l[k]'(by omega)=x at *
   generalize q[k]'(by omega)=u at *
   have HST:=zH (zli (o:=q) (a:=p) (b:=l) (k:=k) (c:=c) (x:=u) (y:=x) (by omega) hp1 hl1 HV.out)
   clear hp1 hl1
   go_wp2
   have hset:=hown.set (A.length+k) hlen ((c+u+x)%4294967296) (by omega)
   rw[zhk A q C k _ (by omega),←HUP.out k,show(((c+u+x)%4294967296:Nat):Int)=((c:Int)+(u+x))%4294967296 from by omega]at hset
   have hgs:=zqc wr (ptr U k) (.int .u32 (((c:Int)+(u+x))%4294967296))
   rw[show(ptr U k).block=(base uv).block from by rw[HUP.out k,zsa]]at hgs
   go_roundw
   case rel=>
    refine⟨k+1,(c+u+x)/4294967296,q.set k _,by omega,by go_num,congrArg (Value.int .u64) (by omega),by omega,hset.1,by simp[hql],HST.out,?_,zsc hgr hgs⟩
    have:=congrArg (List.drop 1) HD.out
    rw[List.drop_drop,List.drop_drop]at this
    rw[List.drop_set_of_lt (by omega)]
    exact this
   case measure=>simp[intOf];omega
  ·obtain rfl:k=n:=by omega
   have hlen:=hlen (by omega)
   have hco:=hown.nat.cell (A.length+k) hlen
   rw[←HUP.out k,(List.getElem_eq_iff hlen).2 (zxe A q C k (by omega))]at hco
   have hfz:=hown.frozen (A.length+k) hlen
   rw[←HUP.out k]at hfz
   have hu1:q[k]'(by omega)<4294967296:=by
    have:=hown.lm _ (List.getElem_mem (h:=hlen))
    rwa[(List.getElem_eq_iff hlen).2 (zxe A q C k (by omega))]at this
   have hfin:val (q.set k ((q[k]'(by omega)+c)%4294967296))+(q[k]'(by omega)+c)/4294967296*pw (k+1)=val p+val l:=by
    have e1:=zkb q k ((q[k]'(by omega)+c)%4294967296) (by omega)
    rw[List.take_of_length_le (by simp;omega)]at e1
    have e2:=zia p k (by omega)
    rw[List.take_of_length_le (by omega),←hpq (by omega)]at e2
    have e3:=HV.out
    rw[List.take_of_length_le (by omega:l.length≤k)]at e3
    rw[e1,e2,zmb]
    generalize q[k]'(by omega)=u at *
    have h:(u+c)%4294967296+4294967296*((u+c)/4294967296)=u+c:=by omega
    generalize (u+c)%4294967296=zz at *
    generalize (u+c)/4294967296=dd at *
    grind
   clear hpq
   generalize q[k]'(by omega)=u at *
   have HF:=zH hfin
   have hset:=hown.set (A.length+k) hlen ((u+c)%4294967296) (by omega)
   rw[zhk A q C k _ (by omega),←HUP.out k,show(((u+c)%4294967296:Nat):Int)=((u:Int)+c)%4294967296 from by omega]at hset
   have hgs:=zqc wr (ptr U k) (.int .u32 (((u:Int)+c)%4294967296))
   rw[show(ptr U k).block=(base uv).block from by rw[HUP.out k,zsa]]at hgs
   have HS:=zH hset
   have HG:=zH hgs
   clear hfin hset hgs HV HD hV
   go_wp2
   go_end0
   exact⟨_,_,rfl,HS.out.1,by simp[hql],HF.out,zsc hgr HG.out⟩
end Go.Proofs.Ytlpdkbmmbdfoiaa
namespace Go.Proofs.Ytlpdkbmmbdfoiaa
theorem zsl {U V U' V' P ul vl g:Nat} (hV:V=V'*P+vl) (hU:U=U'*P+ul) (hul:ul<P) (hV0:0<V) (h:U'<g*V'):U/V<g:=by
 rcases Nat.lt_or_ge (U/V) g with h1 | h1
 ·exact h1
 ·exfalso
  have h2:g*V≤U:=Nat.le_trans (Nat.mul_le_mul_right V h1) (Nat.div_mul_le_self U V)
  have h3:(U'+1)*P≤g*V'*P:=Nat.mul_le_mul_right P h
  have h4:g*V=g*V'*P+g*vl:=by rw[hV,Nat.mul_add,Nat.mul_assoc]
  rw[Nat.add_mul,Nat.one_mul]at h3
  omega
theorem digit_lower {U V U' V' P ul vl g:Nat} (hV:V=V'*P+vl) (hvl:vl<P) (hU:U=U'*P+ul) (hV0:0<V) (h:g*V'≤U') (hg:g≤V'+1):g≤U/V+1:=by
 cases g with
 | zero=>exact Nat.zero_le _
 | succ g=>
   have h1:g*V≤U:=by
    have a1:g*V=g*V'*P+g*vl:=by rw[hV,Nat.mul_add,Nat.mul_assoc]
    have a2:g*vl≤g*P:=Nat.mul_le_mul_left g (by omega)
    have a3:g*P≤V'*P:=Nat.mul_le_mul_right P (by omega)
    have a4:(g*V'+V')*P≤U'*P:=Nat.mul_le_mul_right P (by rw[Nat.succ_mul]at h;exact h)
    rw[Nat.add_mul]at a4
    omega
   have:=(Nat.le_div_iff_mul_le hV0).2 h1
   omega
theorem zrm {top next r head u2 g:Nat} (h:g*top+r=head):(r*4294967296+u2<g*next)↔(head*4294967296+u2<g*(top*4294967296+next)):=by
 subst h
 have :g*(top*4294967296+next)=g*top*4294967296+g*next:=by rw[Nat.mul_add,Nat.mul_assoc]
 rw[this,Nat.add_mul]
 omega
theorem zdk (l:List Nat) (n:Nat) (h:n+2=l.length):val l=(l[n+1]'(by omega)*4294967296+l[n]'(by omega))*pw n+val (l.take n):=by
 have h1:=zia l (n+1) (by omega)
 have h2:=zia l n (by omega)
 rw[List.take_of_length_le (by omega)]at h1
 rw[h1,h2,zmb]
 generalize l[n+1]'(by omega)=b
 generalize l[n]'(by omega)=c
 generalize pw n=P
 generalize val (l.take n)=V
 grind
theorem zkh (l:List Nat) (n:Nat) (h:n+3=l.length):val l=((l[n+2]'(by omega)*4294967296+l[n+1]'(by omega))*4294967296+l[n]'(by omega))*pw n+val (l.take n):=by
 have h1:=zia l (n+2) (by omega)
 have h2:=zia l (n+1) (by omega)
 have h3:=zia l n (by omega)
 rw[List.take_of_length_le (by omega)]at h1
 have e1:pw (n+1)=4294967296*pw n:=zmb n
 have e2:pw (n+2)=4294967296*(4294967296*pw n):=by rw[zmb (n+1),zmb n]
 rw[h1,h2,h3,e1,e2]
 generalize l[n+2]'(by omega)=a
 generalize l[n+1]'(by omega)=b
 generalize l[n]'(by omega)=c
 generalize pw n=P
 generalize val (l.take n)=V
 grind
theorem zdd {l:List Nat} (h:Lm l) (n:Nat) (hn:n≤l.length):val (l.take n)<pw n:=by
 have:=zoe (l:=l.take n) (fun x hx=>h x (List.mem_of_mem_take hx))
 rwa[List.length_take,Nat.min_eq_left hn]at this
structure zzl (p l:List Nat) (n:Nat):Prop where
 hp:n+3=p.length
 hl:n+2=l.length
 lp:Lm p
 ll:Lm l
 top:2147483648≤l[n+1]'(by omega)
 lt:val p<val l*4294967296
section
variable {p l:List Nat} {n:Nat} (R:zzl p l n)
include R
theorem zzl.vpos :0<val l:=by
 have h:=zdk l n R.hl
 have:=R.top
 have h1:1*pw n≤(l[n+1]'(by have:=R.hl;omega)*4294967296+l[n]'(by have:=R.hl;omega))*pw n:=Nat.mul_le_mul_right _ (by omega)
 have:=pw_pos n
 omega
theorem zzl.first_le :p[n+2]'(by have:=R.hp;omega)≤l[n+1]'(by have:=R.hl;omega):=by
 have h1:=zkh p n R.hp
 have h2:=zdk l n R.hl
 have h3:=zdd R.ll n (by have:=R.hl;omega)
 have h4:=R.lt
 have e1:=R.ll _ (List.getElem_mem (h:=show n<l.length by have:=R.hl;omega))
 generalize p[n+2]'(by have:=R.hp;omega)=a at *
 generalize p[n+1]'(by have:=R.hp;omega)=b at *
 generalize p[n]'(by have:=R.hp;omega)=c at *
 generalize l[n+1]'(by have:=R.hl;omega)=t at *
 generalize l[n]'(by have:=R.hl;omega)=s at *
 have hP:=pw_pos n
 generalize pw n=P at *
 rcases Nat.lt_or_ge t a with h | h
 ·exfalso
  -- val l < (t + 1) * B * P, val p ≥ a B B P
  have i1:(t*4294967296+s+1)*P≤((t+1)*4294967296)*P:=Nat.mul_le_mul_right _ (by omega)
  have i2:((t+1)*4294967296*4294967296)*P≤((a*4294967296+b)*4294967296+c)*P:=Nat.mul_le_mul_right _ (by omega)
  rw[Nat.add_mul (t*4294967296+s),Nat.one_mul]at i1
  have i3:((t+1)*4294967296*4294967296)*P=((t+1)*4294967296)*P*4294967296:=by rw[Nat.mul_right_comm]
  omega
 ·exact h
theorem zzl.start :let head:=p[n+2]'(by have:=R.hp;omega)*4294967296+p[n+1]'(by have:=R.hp;omega)
 val p/val l≤head/l[n+1]'(by have:=R.hl;omega)∧head/l[n+1]'(by have:=R.hl;omega)≤4294967297:=by
 have h1:=zkh p n R.hp
 have h2:=zdk l n R.hl
 have h3:=zdd R.lp n (by have:=R.hp;omega)
 have hv:=R.vpos
 have hf:=R.first_le
 have ht:=R.top
 have e1:=R.lp _ (List.getElem_mem (h:=show n<p.length by have:=R.hp;omega))
 have e2:=R.lp _ (List.getElem_mem (h:=show n+1<p.length by have:=R.hp;omega))
 intro head
 have hh:head=p[n+2]'(by have:=R.hp;omega)*4294967296+p[n+1]'(by have:=R.hp;omega):=rfl
 rw[←hh]at h1
 generalize p[n+2]'(by have:=R.hp;omega)=a at *
 generalize p[n+1]'(by have:=R.hp;omega)=b at *
 generalize p[n]'(by have:=R.hp;omega)=c at *
 generalize l[n+1]'(by have:=R.hl;omega)=t at *
 generalize l[n]'(by have:=R.hl;omega)=s at *
 have hd:=Nat.div_add_mod head t
 have hm:=Nat.mod_lt head (show 0<t by omega)
 constructor
 ·have :val p/val l<head/t+1:=by
   refine zsl h2 h1 h3 hv ?_
   generalize head/t=g at *
   have e:(g+1)*(t*4294967296+s)=t*g*4294967296+t*4294967296+(g+1)*s:=by grind
   rw[e]
   omega
  omega
 ·have :head/t<4294967298:=by
   rw[Nat.div_lt_iff_lt_mul (by omega)]
   omega
  omega
theorem zzl.lt_B :val p/val l<4294967296:=by
 rw[Nat.div_lt_iff_lt_mul R.vpos,Nat.mul_comm];exact R.lt
theorem zzl.lower {g r:Nat} (hg:val p/val l≤g) (hr:g*l[n+1]'(by have:=R.hl;omega)+r=p[n+2]'(by have:=R.hp;omega)*4294967296+p[n+1]'(by have:=R.hp;omega))
 (h:4294967296≤g∨r*4294967296+p[n]'(by have:=R.hp;omega)<g*l[n]'(by have:=R.hl;omega)):val p/val l≤g-1∧1≤g∧(g-1)*l[n+1]'(by have:=R.hl;omega)+(r+l[n+1]'(by have:=R.hl;omega))=p[n+2]'(by have:=R.hp;omega)*4294967296+p[n+1]'(by have:=R.hp;omega):=by
 have hB:=R.lt_B
 have h1:=zkh p n R.hp
 have h2:=zdk l n R.hl
 have h3:=zdd R.lp n (by have:=R.hp;omega)
 have hv:=R.vpos
 have hlt:val p/val l<g:=by
  rcases h with h | h
  ·omega
  ·exact zsl h2 h1 h3 hv ((zrm hr).1 h)
 have hg1:1≤g:=Nat.succ_le_of_lt (Nat.lt_of_le_of_lt (Nat.zero_le _) hlt)
 refine⟨Nat.le_sub_one_of_lt hlt,hg1,?_⟩
 rw[←hr]
 obtain⟨g,rfl⟩:∃k,g=k+1:=⟨g-1,by omega⟩
 rw[Nat.add_sub_cancel,Nat.add_mul,Nat.one_mul]
 omega
theorem zzl.pass {g r:Nat} (hr:g*l[n+1]'(by have:=R.hl;omega)+r=p[n+2]'(by have:=R.hp;omega)*4294967296+p[n+1]'(by have:=R.hp;omega))
 (hg:g<4294967296) (h:¬r*4294967296+p[n]'(by have:=R.hp;omega)<g*l[n]'(by have:=R.hl;omega)):g≤val p/val l+1:=by
 have h1:=zkh p n R.hp
 have h2:=zdk l n R.hl
 have h3:=zdd R.ll n (by have:=R.hl;omega)
 have ht:=R.top
 have h4:=fun x=>h ((zrm hr).2 x)
 exact digit_lower h2 h3 h1 R.vpos (Nat.le_of_not_lt h4) (by omega)
theorem zzl.break {g r:Nat} (hr:g*l[n+1]'(by have:=R.hl;omega)+r=p[n+2]'(by have:=R.hp;omega)*4294967296+p[n+1]'(by have:=R.hp;omega))
 (h:4294967296≤r):g<4294967296∧g≤val p/val l+1:=by
 have hf:=R.first_le
 have e2:=R.lp _ (List.getElem_mem (h:=show n+1<p.length by have:=R.hp;omega))
 have e3:=R.ll _ (List.getElem_mem (h:=show n<l.length by have:=R.hl;omega))
 have ht:=R.top
 have hg:g<4294967296:=by
  rcases Nat.lt_or_ge g 4294967296 with h' | h'
  ·exact h'
  ·exfalso
   have:=Nat.mul_le_mul_right (l[n+1]'(by have:=R.hl;omega)) h'
   have:=Nat.mul_le_mul_right 4294967296 hf
   omega
 refine⟨hg,R.pass hr hg ?_⟩
 have :g*l[n]'(by have:=R.hl;omega)≤4294967295*4294967295:=Nat.mul_le_mul (by omega) (by omega)
 omega
theorem zzl.sub0 {g:Nat} {p1:List Nat} (hq:val p/val l≤g) (hg:g≤val p/val l+1) (h1:val p1+g*val l=val p):g=val p/val l∧val p1=val p%val l:=by
 have hd:=Nat.div_add_mod (val p) (val l)
 have hm:=Nat.mod_lt (val p) R.vpos
 have hgq:g=val p/val l:=by
  have :g*val l≤val p:=by omega
  have:=(Nat.le_div_iff_mul_le R.vpos).2 this
  omega
 refine⟨hgq,?_⟩
 rw[hgq]at h1
 rw[Nat.mul_comm]at hd
 omega
theorem zzl.sub1 {g b:Nat} {p1 p2:List Nat} (hq:val p/val l≤g) (hg:g≤val p/val l+1) (l1:Lm p1) (n1:p1.length=n+3) (l2:Lm p2) (n2:p2.length=n+3)
 (h1:val p1+g*val l=val p+pw (n+3)) (h2:val p2+b*pw (n+3)=val p1+val l):g-1=val p/val l∧1≤g∧val p2=val p%val l:=by
 have hd:=Nat.div_add_mod (val p) (val l)
 have hm:=Nat.mod_lt (val p) R.vpos
 have b1:=zoe l1
 have b2:=zoe l2
 rw[n1]at b1
 rw[n2]at b2
 have hlt:val p<g*val l:=by omega
 have hgq:val p/val l<g:=by
  rw[Nat.div_lt_iff_lt_mul R.vpos];exact hlt
 have hg1:g=val p/val l+1:=by omega
 refine⟨by rw[hg1,Nat.add_sub_cancel],by rw[hg1];exact Nat.succ_pos _,?_⟩
 rw[hg1,Nat.add_mul,Nat.one_mul]at h1
 rw[Nat.mul_comm]at hd
 have hl:val l<pw (n+3):=by
  have:=zoe R.ll
  rw[←R.hl]at this
  have:=pw_le (show n+2≤n+3 by omega)
  omega
 have :b=1:=by
  rcases Nat.lt_or_ge b 1 with hb | hb
  ·obtain rfl:b=0:=by omega
   omega
  ·rcases Nat.lt_or_ge b 2 with hb2 | hb2
   ·omega
   ·have:=Nat.mul_le_mul_right (pw (n+3)) hb2
    omega
 subst this
 omega
end
theorem last_pos {n:Nat} (h:n≠0):∀ (hl:zda n-1<(zla n).length),0<(zla n)[zda n-1]:=by
 intro hl
 have h0:zda n≠0:=fun e=>h (zta.1 e)
 have h1:=zia (zla n) (zda n-1) hl
 have e:zda n-1+1=zda n:=by omega
 rw[e,List.take_of_length_le (show zda n≤zda n from Nat.le_refl _),zha]at h1
 rcases Nat.eq_zero_or_pos ((zla n)[zda n-1])with h2 | h2
 ·exfalso
  rw[h2,Nat.mul_zero,Nat.add_zero]at h1
  have h3:=zdd (zrb n) (zda n-1) (by omega)
  rw[←h1]at h3
  have:=zzb.2 h3
  omega
 ·exact h2
theorem pw_le_self {n:Nat} (h:n≠0):pw (zda n-1)≤n:=by
 have h0:zda n≠0:=fun e=>h (zta.1 e)
 exact zkn (by omega)
theorem norm_top {n s x:Nat} {lu:List Nat} (hn:n≠0) (hx:(zla n)[zda n-1]? =some x) (h1:2147483648≤x*2^s) (h2:x*2^s<4294967296) (hs:s<32)
 (hl:lu.length=zda n+1) (hlm:Lm lu) (hv:val lu=2^s*n):
 val (lu.take (zda n))=2^s*n∧2147483648≤lu[zda n-1]'(by omega):=by
 have h0:zda n≠0:=fun e=>hn (zta.1 e)
 obtain⟨hlt,rfl⟩:=List.getElem?_eq_some_iff.1 hx
 have e1:=zia (zla n) (zda n-1) hlt
 have e0:zda n-1+1=zda n:=by omega
 rw[e0,List.take_of_length_le (show zda n≤zda n from Nat.le_refl _),zha]at e1
 have e2:=zdd (zrb n) (zda n-1) (by omega)
 have e3:=zia lu (zda n) (by omega)
 rw[List.take_of_length_le (by omega),hv]at e3
 have e4:=zia lu (zda n-1) (by omega)
 rw[e0]at e4
 have e5:=zdd hlm (zda n-1) (by omega)
 have e6:pw (zda n)=4294967296*pw (zda n-1):=by rw[←zmb,e0]
 have hP:=pw_pos (zda n-1)
 have h5:((zla n)[zda n-1]+1)*2^s≤4294967296:=by
  have hpow:(4294967296:Nat)=2^(32-s)*2^s:=by rw[←Nat.pow_add,Nat.sub_add_cancel (by omega)]
  rw[hpow]at h2 ⊢
  have:=Nat.lt_of_mul_lt_mul_right h2
  exact Nat.mul_le_mul_right _ this
 generalize (zla n)[zda n-1]=x at *
 generalize lu[zda n]=t at *
 generalize lu[zda n-1]'(by omega)=y at *
 generalize val (lu.take (zda n))=A at *
 generalize val (lu.take (zda n-1))=C at *
 generalize val ((zla n).take (zda n-1))=D at *
 rw[e6]at e3
 generalize pw (zda n-1)=P at *
 generalize 2^s=S at *
 have hlt2:S*n<4294967296*P:=by
  have a1:S*n<S*(P*(x+1)):=by
   have :n<P*(x+1):=by rw[Nat.mul_add,Nat.mul_one];omega
   have hS:0<S:=by
    rcases Nat.eq_zero_or_pos S with h | h
    ·subst h;omega
    ·exact h
   exact Nat.mul_lt_mul_of_pos_left this hS
  have a2:S*(P*(x+1))=(x+1)*S*P:=by grind
  have a3:(x+1)*S*P≤4294967296*P:=Nat.mul_le_mul_right P h5
  omega
 have ht:t=0:=by
  rcases Nat.eq_zero_or_pos t with h | h
  ·exact h
  ·exfalso
   have :4294967296*P*1≤4294967296*P*t:=Nat.mul_le_mul_left _ h
   omega
 subst ht
 rw[Nat.mul_zero,Nat.add_zero]at e3
 refine⟨e3.symm,?_⟩
 have b1:2147483648*P≤S*n:=by
  have c1:2147483648*P≤x*S*P:=Nat.mul_le_mul_right P h1
  have c2:S*n=S*D+x*S*P:=by rw[e1];grind
  omega
 rcases Nat.lt_or_ge y 2147483648 with hy | hy
 ·exfalso
  have :P*(y+1)≤P*2147483648:=Nat.mul_le_mul_left P hy
  rw[Nat.mul_add,Nat.mul_one]at this
  omega
 ·exact hy
theorem div_begin {m n s:Nat} (hn:n≠0) (h:n≤m):2^s*m<2^s*n*pw (zda m+1-zda n):=by
 have h0:zda n≠0:=fun e=>hn (zta.1 e)
 have h1:=pw_le_self hn
 have h2:=zhe m
 have h3:=zfb h
 have h4:pw (zda m)=pw (zda n-1)*pw (zda m+1-zda n):=by rw[←pw_add];congr 1;omega
 rw[Nat.mul_assoc]
 refine Nat.mul_lt_mul_of_pos_left ?_ (Nat.pow_pos (by decide))
 rw[h4]at h2
 exact Nat.lt_of_lt_of_le h2 (Nat.mul_le_mul_right _ h1)
theorem znk {o:List Nat} {j n V:Nat} (hl:j+n≤o.length) (hlm:Lm o) (hV:V<pw n) (ho:val o<V*(4294967296*pw j)) (hj:j+(n+1)≤o.length):
 o=o.take j++(o.drop j).take (n+1)++o.drop (j+(n+1))∧val o=val (o.take j)+pw j*val ((o.drop j).take (n+1))∧val ((o.drop j).take (n+1))<V*4294967296∧val (o.drop (j+(n+1)))=0:=by
 have e1:o=o.take j++(o.drop j).take (n+1)++o.drop (j+(n+1)):=by
  rw[List.append_assoc,←List.drop_drop,List.take_append_drop,List.take_append_drop]
 have e2:val o=val (o.take j)+pw j*(val ((o.drop j).take (n+1))+pw (n+1)*val (o.drop (j+(n+1)))):=by
  have:=congrArg val e1
  rw[List.append_assoc,zac,zac,List.length_take,List.length_take,List.length_drop,Nat.min_eq_left (by omega),Nat.min_eq_left (by omega)]at this
  exact this
 have hz:val (o.drop (j+(n+1)))=0:=by
  rcases Nat.eq_zero_or_pos (val (o.drop (j+(n+1))))with h | h
  ·exact h
  ·exfalso
   have a1:pw (n+1)*1≤pw (n+1)*val (o.drop (j+(n+1))):=Nat.mul_le_mul_left _ h
   have a2:pw j*pw (n+1)≤pw j*(val ((o.drop j).take (n+1))+pw (n+1)*val (o.drop (j+(n+1)))):=Nat.mul_le_mul_left _ (by omega)
   have a3:V*(4294967296*pw j)≤pw n*(4294967296*pw j):=Nat.mul_le_mul_right _ (by omega)
   have a4:pw j*pw (n+1)=pw n*(4294967296*pw j):=by rw[zmb];grind
   omega
 rw[hz,Nat.mul_zero,Nat.add_zero]at e2
 refine⟨e1,e2,?_,hz⟩
 have b1:pw j*val ((o.drop j).take (n+1))<pw j*(V*4294967296):=by
  have :V*(4294967296*pw j)=pw j*(V*4294967296):=by grind
  omega
 exact Nat.lt_of_mul_lt_mul_left b1
theorem round_total {M O O' A U V Q j q:Nat} (hM:M=V*(4294967296*pw j)*Q+O) (hO:O=A+pw j*U) (hA:A<pw j) (hV:0<V) (hq:q=U/V) (hO':O'=A+pw j*(U%V)):
 M=V*pw j*(q+4294967296*Q)+O'∧O'<V*pw j:=by
 have hd:=Nat.div_add_mod U V
 have hm:=Nat.mod_lt U hV
 rw[←hq]at hd
 generalize U%V=r at *
 constructor
 ·subst hO' hO hM
  rw[←hd]
  grind
 ·have h1:pw j*(r+1)≤pw j*V:=Nat.mul_le_mul_left _ hm
  rw[Nat.mul_add,Nat.mul_one]at h1
  rw[Nat.mul_comm V]
  omega
theorem rest_limb {a b P:Nat} (k:Nat) (hP:P*k=4294967296) (ha:a<4294967296):P*(((b*4294967296+a)/P)%4294967296)+a%P=a+4294967296*(b%P):=by
 have hP0:0<P:=by
  rcases Nat.eq_zero_or_pos P with h | h
  ·subst h;omega
  ·exact h
 have h1:(b*4294967296+a)/P=b*k+a/P:=by
  have :b*4294967296+a=P*(b*k)+a:=by rw[←hP];grind
  rw[this,Nat.mul_add_div hP0]
 have h2:b*k+a/P=P*k*(b/P)+(k*(b%P)+a/P):=by
  have:=Nat.div_add_mod b P
  have e:b*k=(P*(b/P)+b%P)*k:=by rw[this]
  rw[e];grind
 have h3:k*(b%P)+a/P<4294967296:=by
  have hm:=Nat.mod_lt b hP0
  have h4:a/P<k:=by rw[Nat.div_lt_iff_lt_mul hP0,Nat.mul_comm,hP];exact ha
  have h5:k*(b%P+1)≤k*P:=Nat.mul_le_mul_left _ hm
  rw[Nat.mul_add,Nat.mul_one,Nat.mul_comm k P,hP]at h5
  omega
 rw[h1,h2,hP,Nat.mul_add_mod,Nat.mod_eq_of_lt h3,Nat.mul_add]
 have h6:=Nat.div_add_mod a P
 have h7:P*(k*(b%P))=4294967296*(b%P):=by rw[←hP];grind
 omega
theorem rest_step {r o:List Nat} {k i P a b z:Nat} (hP:P*k=4294967296) (hi:i<r.length) (ho:val (o.take (i+1))=val (o.take i)+pw i*a) (ha:a<4294967296) (hz:z=((b*4294967296+a)/P)%4294967296) (c:Nat)
 (hv:P*val (r.take i)+c=val (o.take i)+pw i*(a%P)):
 P*val ((r.set i z).take (i+1))+c=val (o.take (i+1))+pw (i+1)*(b%P):=by
 have h:=rest_limb (b:=b) k hP ha
 rw[←hz]at h
 rw[zkb r i z hi,ho,zmb]
 have h2:pw i*(P*z+a%P)=pw i*(a+4294967296*(b%P)):=by rw[h]
 generalize a%P=x at *
 generalize b%P=y at *
 grind
theorem zhd {ou A p p' C qd lv:List Nat} {Q:Nat} (HM1:val ou=val lv*pw (A.length+1)*val (qd.drop (A.length+1))+val (A++p++C)) (hA:Lm A)
 (hov:val (A++p++C)=val A+pw A.length*val p) (hC:val C=0) (hV:0<val lv) (hQ:val p/val lv=Q) (hp':val p'=val p%val lv) (hqd:A.length<qd.length):
 val ou=val lv*pw A.length*val ((qd.set A.length Q).drop A.length)+val (A++p'++C)∧val (A++p'++C)<val lv*pw A.length:=by
 have e1:val (A++p'++C)=val A+pw A.length*(val p%val lv):=by
  rw[List.append_assoc,zac,zac,hC,Nat.mul_zero,Nat.add_zero,hp']
 have e2:val ((qd.set A.length Q).drop A.length)=Q+4294967296*val (qd.drop (A.length+1)):=by
  rw[drop_set_of_lt qd _ _ hqd];rfl
 rw[zmb]at HM1
 have:=round_total HM1 hov (zoe hA) hV hQ.symm e1
 rw[e2]
 exact this
theorem limb_zero' {a P x Q y v:Nat} (e:v=a+P*x+Q*y) (hPQ:P≤Q) (h:v<P):x=0∧a=v:=by
 have h0:x=0:=by
  rcases Nat.eq_zero_or_pos x with h1 | h1
  ·exact h1
  ·have :P*1≤P*x:=Nat.mul_le_mul_left _ h1
   omega
 have h2:y=0:=by
  rcases Nat.eq_zero_or_pos y with h1 | h1
  ·exact h1
  ·have a:Q*1≤Q*y:=Nat.mul_le_mul_left _ h1
   omega
 subst h0 h2
 exact⟨rfl,by simpa using e.symm⟩
theorem limb_zero {l:List Nat} {k:Nat} (hk:k<l.length) (h:val l<pw k):l[k]=0∧val (l.take k)=val l:=
 limb_zero' (zag l k hk) (pw_le (Nat.le_succ k)) h
theorem div_read' {m n P q o V:Nat} (hn:n≠0) (hP:0<P) (hV:V=P*n) (h1:P*m=V*q+o) (h2:o<V):q=m/n∧o=P*(m%n):=by
 subst hV
 have hn':0<n:=Nat.pos_of_ne_zero hn
 have hq:q=m/n:=by
  have a1:(P*m)/(P*n)=m/n:=Nat.mul_div_mul_left _ _ hP
  have a2:(P*m)/(P*n)=q:=by
   rw[h1,Nat.mul_add_div (Nat.mul_pos hP hn'),Nat.div_eq_of_lt h2,Nat.add_zero]
  rw[←a1,a2]
 refine⟨hq,?_⟩
 have a1:(P*m)%(P*n)=P*(m%n):=Nat.mul_mod_mul_left _ _ _
 have a2:(P*m)%(P*n)=o:=by
  rw[h1,Nat.mul_add_mod,Nat.mod_eq_of_lt h2]
 rw[←a1,a2]
theorem div_read {m n s q o V:Nat} (hn:n≠0) (hV:V=2^s*n) (h1:2^s*m=V*q+o) (h2:o<V):q=m/n∧o=2^s*(m%n):=
 div_read' hn (Nat.pow_pos (by decide)) hV h1 h2
theorem rest_read {P r o c x:Nat} (hP:0<P) (h:P*r+c=o) (hc:c<P) (ho:o=P*x):r=x:=by
 subst ho
 have h1:(P*r+c)/P=r:=by rw[Nat.mul_add_div hP,Nat.div_eq_of_lt hc,Nat.add_zero]
 rw[h,Nat.mul_div_cancel_left _ hP]at h1
 exact h1.symm
theorem rest_end' {o r:List Nat} {k P K x:Nat} (hP:0<P) (hl:k<o.length) (h0:0<o.length) (z:o[k]=0∧val (o.take k)=val o) (ho:val o=P*x) (hr:r.length=k)
 (h:P*val (r.take k)+o[0]%P=val (o.take k)+K*((o[k]?.getD 0)%P)):val r=x:=by
 rw[z.2,ho,List.getElem?_eq_getElem hl,z.1,List.take_of_length_le (Nat.le_of_eq hr)]at h
 rw[show(some 0).getD 0=0 from rfl,Nat.zero_mod,Nat.mul_zero,Nat.add_zero]at h
 exact rest_read hP h (Nat.mod_lt _ hP) rfl
theorem rest_end {o r:List Nat} {k s x:Nat} (hl:k<o.length) (h0:0<o.length) (z:o[k]=0∧val (o.take k)=val o) (ho:val o=2^s*x) (hr:r.length=k)
 (h:2^s*val (r.take k)+o[0]%2^s=val (o.take k)+pw k*((o[k]?.getD 0)%2^s)):val r=x:=
 rest_end' (Nat.pow_pos (by decide)) hl h0 z ho hr h
end Go.Proofs.Ytlpdkbmmbdfoiaa
