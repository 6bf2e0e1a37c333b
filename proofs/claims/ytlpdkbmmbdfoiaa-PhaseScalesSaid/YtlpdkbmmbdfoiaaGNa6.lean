/-
  package natural: short, up, Bits.
-/
import Derived.Test.YtlpdkbmmbdfoiaaGOrd
import Derived.Test.YtlpdkbmmbdfoiaaProg
import Derived.WalkKit
set_option linter.unusedVariables false
set_option linter.unusedSimpArgs false
namespace Go.Proofs.Ytlpdkbmmbdfoiaa
open Go.RowKit
def cntF (l:List Bool):Nat:=(l.filter (fun b=> !b)).length
theorem zpq :∀ {l:List Bool} {k:Nat},l[k]? =some false→cntF (l.set k true)+1=cntF l
 | [],k,h=>by simp at h
 | b::l,0,h=>by
   simp at h
   subst h
   simp[cntF]
 | b::l,k+1,h=>by
   have ih:=zpq (l:=l) (k:=k) (by simpa using h)
   cases b
   ·simp only[List.set_cons_succ]
    unfold cntF at ih ⊢
    simp only[List.filter_cons]
    simp
    omega
   ·simp only[List.set_cons_succ]
    unfold cntF at ih ⊢
    simp only[List.filter_cons]
    simp
    omega
section
variable {P:Program} {ops:Array Oper} {Q:Exit→Act→World→Prop}
def zaq (l:Array Bool) (i:Nat):Prop:=l.getD i false=true
theorem zaq.set {l:Array Bool} {i j:Nat} (h:zaq (l.setIfInBounds i true) j):j=i∨zaq l j:=by
 by_cases e:j=i
 ·exact Or.inl e
 ·refine Or.inr ?_
  unfold zaq at h ⊢
  rwa[getD_set_ne false (fun e2=>e e2.symm)]at h
theorem wpI.any {md:Region.Mode} (Inv:Array Bool→Act→World→Prop)
 (hstep:∀l a w i o,Inv l a w→Shut md ops l→¬zaq l i→ops[i]? =some o→(∀e∈o.after,Region.binds md e=true→zaq l e.on)→∀K:Act→World→Prop,Hid (∀b v,Inv (l.setIfInBounds i true) b v→K b v)→if Region.wanted o (yielded ops a.tmps)=true then o.wp P a w K Q else K (a.put o.dst undef) w)
 (hdone:∀l a w,Inv l a w→(∀i,i<ops.size→zaq l i)→Q .normal a w) (hacyc:∀ (l:Array Bool),l.size=ops.size→Region.ready md ops l= []→∀i,i<ops.size→zaq l i):
 ∀ (k:Nat) (l:Array Bool) (a:Act) (w:World),Inv l a w→Shut md ops l→l.size=ops.size→cntF l.toList≤k→wpAny P md ops Q k l a w
 | 0,l,a,w,hI,hsh,hs,hc=>by
   have hall:∀i,i<ops.size→zaq l i:=fun i hi=>by
    by_cases h:zaq l i
    ·exact h
    ·exfalso
     have hi2:i<l.toList.length:=by rw[Array.length_toList,hs];exact hi
     have hb:l.toList[i]? =some false:=by
      rw[Array.getElem?_toList]
      have h1:l[i]? =some (l[i]'(by rw[hs];exact hi)):=Array.getElem?_eq_getElem _
      unfold zaq at h
      rw[Array.getD_eq_getD_getElem?,h1]at h
      rw[h1]
      simpa using h
     have:=zpq hb
     omega
   refine⟨?_,hdone l a w hI hall⟩
   cases hr:Region.ready md ops l with
   | nil=>rfl
   | cons j t=>
     exfalso
     have hj:j∈Region.ready md ops l:=by rw[hr];simp
     obtain⟨h1,o,ho,_⟩:=mem_ready.1 hj
     exact zqg (hall j (Array.getElem?_eq_some_iff.1 ho).1) h1
 | k+1,l,a,w,hI,hsh,hs,hc=>by
   refine⟨fun hr=>hdone l a w hI (hacyc l hs hr),fun i hi=> ?_⟩
   obtain⟨h1,o,ho,hall⟩:=mem_ready.1 hi
   have hil:i<ops.size:=(Array.getElem?_eq_some_iff.1 ho).1
   have hrec:∀b v,Inv (l.setIfInBounds i true) b v→wpAny P md ops Q k (l.setIfInBounds i true) b v:=fun b v hb=>by
    refine wpI.any Inv hstep hdone hacyc k _ b v hb (hsh.set hi) (by simp[hs]) ?_
    have hb:l.toList[i]? =some false:=by
     rw[Array.getElem?_toList]
     have h2:l[i]? =some (l[i]'(by rw[hs];exact hil)):=Array.getElem?_eq_getElem _
     rw[Array.getD_eq_getD_getElem?,h2]at h1
     rw[h2]
     simpa using h1
    have:=zpq hb
    rw[Array.toList_setIfInBounds]
    omega
   have h2:=hstep l a w i o hI hsh (fun hd=>zqg hd h1) ho hall _ (zH hrec)
   unfold wpOp
   simp only[ho]
   by_cases hw:Region.wanted o (yielded ops a.tmps)=true
   ·rw[if_pos hw]at h2 ⊢
    exact Or.inl h2
   ·rw[if_neg hw]at h2 ⊢
    exact h2
def backB (md:Region.Mode) (ops:Array Oper):Bool:=
 (List.range ops.size).all fun j=>match ops[j]? with
  | none=>true
  | some o=>o.after.all fun e=> !Region.binds md e || decide (e.on<j)
theorem back_done {md:Region.Mode} (hb:backB md ops=true) (l:Array Bool) (hs:l.size=ops.size) (hr:Region.ready md ops l= []):∀ (n i:Nat),i<n→i<ops.size→zaq l i
 | 0,i,h,_=>by omega
 | n+1,i,h,hi=>by
   by_cases hd:zaq l i
   ·exact hd
   ·exfalso
    have ho:ops[i]? =some (ops[i]'hi):=Array.getElem?_eq_getElem _
    have hm:i∈Region.ready md ops l:=by
     refine mem_ready.2 ⟨?_,_,ho,fun e he hbe=> ?_⟩
     ·have h2:l[i]? =some (l[i]'(by rw[hs];exact hi)):=Array.getElem?_eq_getElem _
      unfold zaq at hd
      rw[Array.getD_eq_getD_getElem?,h2]at hd ⊢
      simpa using hd
     ·have h1:=List.all_eq_true.1 hb i (List.mem_range.2 hi)
      rw[ho]at h1
      have h3:=Array.all_eq_true_iff_forall_mem.1 h1 e he
      rw[hbe]at h3
      have h4:e.on<i:=by simpa using h3
      exact back_done hb l hs hr n e.on (by omega) (by omega)
    rw[hr]at hm
    cases hm
theorem cntF_rep (n:Nat):cntF (List.replicate n false)=n:=by simp[cntF]
theorem wpI.start {id:Nat} {a:Act} {w:World} (Inv:Array Bool→Act→World→Prop) (hm:P.follows .mixedOrders=true) (hb:backB .any ops=true) (h0:Inv (Array.replicate ops.size false) a w.drew)
 (hstep:∀l a w i o,Inv l a w→Shut .any ops l→¬zaq l i→ops[i]? =some o→(∀e∈o.after,Region.binds .any e=true→zaq l e.on)→∀K:Act→World→Prop,Hid (∀b v,Inv (l.setIfInBounds i true) b v→K b v)→if Region.wanted o (yielded ops a.tmps)=true then o.wp P a w K Q else K (a.put o.dst undef) w)
 (hdone:∀l a w,Inv l a w→(∀i,i<ops.size→zaq l i)→Q .normal a w):(Code.region id ops true).wp P Q a w:=
 wp_region_any hm (wpI.any Inv hstep hdone (fun l hs hr i hi=>back_done hb l hs hr (i+1) i (Nat.lt_succ_self i) hi) _ _ _ _ h0 (fun j o ho hl=>by rw[Array.getD_eq_getD_getElem?,Array.getElem?_replicate]at hl;split at hl<;>simp at hl) (by simp) (by rw[Array.toList_replicate,cntF_rep];exact Nat.le_refl _))
end
set_option maxHeartbeats 400000
def zob (w:World) (v:Value) (n:Nat):Prop:=∃l,zfc w v l∧val l=n∧l.length≤4294967296
def zjb (w:World) (v:Value) (n:Nat):Prop:=zfc w v (zla n)∧zda n≤4294967296
theorem zjb.nat {w:World} {v:Value} {n:Nat} (h:zjb w v n):zob w v n:=⟨_,h.1,zha n,h.2⟩
theorem zjb.below {w w':World} {v:Value} {n:Nat} (h:zjb w v n) (hb:Below w.heap.size w w'):zjb w' v n:=⟨h.1.below hb,h.2⟩
theorem zob.below {w w':World} {v:Value} {n:Nat} (h:zob w v n) (hb:Below w.heap.size w w'):zob w' v n:=by
 obtain⟨l,h,e⟩:=h;exact⟨l,h.below hb,e⟩
theorem zjb.nil (w:World):zjb w (.slice none 0 0) 0:=by unfold zjb;rw[zbc,zzc];exact⟨zfc.nil w,by omega⟩
theorem zob.drawn {w:World} {v:Value} {n:Nat} (h:zob w v n) (k:Nat):zob (w.drewN k) v n:=h.below (zka w k)
theorem zjb.drawn {w:World} {v:Value} {n:Nat} (h:zjb w v n) (k:Nat):zjb (w.drewN k) v n:=h.below (zka w k)
theorem zfc.natN {w:World} {v:Value} {l:List Nat} (h:zfc w v l) (hl:l.length≤4294967296):zob w v (val l):=⟨l,h,rfl,hl⟩
theorem zsb {l:List Nat} (h:Lm l):zda (val l)≤l.length:=by rw[←zhj h];exact zgj l
theorem zfc.can {w:World} {v:Value} {l:List Nat} (h:zfc w v l) (hl:l.length≤4294967296):zjb w (Go.Proofs.Ytlpdkbmmbdfoiaa.tk v (zda (val l))) (val l):=by
 refine⟨?_,Nat.le_trans (zsb h.lm) hl⟩
 rw[zhl h.lm,←zhj h.lm];exact h.tk _ (zgj l)
theorem zfc.can3 {w:World} {v:Value} {l:List Nat} (h:zfc w v l) (hl:l.length≤4294967296):zjb w (Go.Proofs.Ytlpdkbmmbdfoiaa.tk3 v (zda (val l))) (val l):=by
 refine⟨?_,Nat.le_trans (zsb h.lm) hl⟩
 rw[zhl h.lm,←zhj h.lm];exact h.tk3 _ (zgj l)
theorem length_v (v:Value) (l:List Nat) (w:World) (h:zfc w v l):
 Calls Try.prog 110 #[v] w fun e w'=>e= .returned (.int .i64 (clen l))∧w=w':=by
 have hs:=h.sl
 have hlen:=h.len
 have hle:=hs.le
 go_enter Try.func110,Try.ntmps110
 go_wp2
 go_loop [3] (fun i=>∃k:Nat,k≤l.length∧i= .int .i64 k∧clen (l.take k)=clen l) (fun i=>(intOf i).toNat)
 case atStart=>exact⟨l.length,Nat.le_refl _,rfl,by rw[List.take_length]⟩
 case round=>
  obtain⟨k,hk,rfl,hce⟩:=hrel
  have HC:=zH hce;clear hce
  by_cases h0:0<k
  ·obtain⟨j,rfl⟩:∃j,k=j+1:=⟨k-1,by omega⟩
   have hj:j<l.length:=by omega
   have hc:=h.cell j hj
   go_wp2
   ·go_round
    case rel=>exact⟨j,by omega,rfl,by rw[←HC.out,zbf l j hj (by simp_all)]⟩
    case measure=>simp[intOf]
   ·go_ret
    exact⟨by rw[←HC.out,zki l j hj (by simp_all)];simp,rfl⟩
  ·have hk0:k=0:=by omega
   subst hk0
   go_wp2
   go_ret
   exact⟨by rw[←HC.out];simp[clen],rfl⟩
theorem zdb (v:Value) (n:Nat) (w:World) (h:zob w v n):
 Calls Try.prog 110 #[v] w fun e w'=>e= .returned (.int .i64 (zda n))∧w=w':=by
 obtain⟨l,h,rfl,_⟩:=h
 rw[←zhj h.lm]
 exact length_v v l w h
theorem large_any (v:Value) (n:Nat) (w:World) (h:zob w v n):
 Calls Try.prog 109 #[v] w fun e w'=>e= .returned (.bool (decide (512<zda n)))∧w=w':=by
 go_enter Try.func109,Try.ntmps109
 go_wp2_with (go_at_call 110;refine(zdb v n _ h).mono ?_;rintro e w' ⟨rfl,rfl⟩)
 go_ret
 exact⟨by congr 2;simp;omega,rfl⟩
def SizedP (w:World) (r:Value) (er:Int) (n:Nat):Prop:=(zda n≤512→er=0∧zjb w r n)∧(512<zda n→er=2∧zjb w r 0)
def zxm (w0:World) (n:Nat) (e:Ending) (w:World):Prop:=
 ∃r er,e= .returned (.tuple #[r, .int .i64 er])∧SizedP w r er n∧Below w0.heap.size w0 w
theorem zph (v:Value) (l:List Nat) (w:World) (h:zfc w v l) (hll:l.length≤4294967296):
 Calls Try.prog 111 #[v] w (zxm w (val l)):=by
 have hs:=h.sl
 have hlen:=h.len
 have hle:=hs.le
 have hcl:=zgj l
 rw[zhj h.lm]at hcl
 have hcs:zda (val l)≤scap v:=by omega
 go_enter Try.func111,Try.ntmps111
 go_wp2_with (go_at_call 110;refine(zdb v (val l) _ (h.natN hll)).mono ?_;rintro e w' ⟨rfl,rfl⟩)
 ·go_ret2
  have hbig:¬zda (val l)≤512:=by omega
  exact⟨_,2,rfl,⟨fun h=>by omega,fun _=>⟨rfl,zjb.nil w⟩⟩,Below.refl _ _⟩
 ·go_ret2
  have hbig:zda (val l)≤512:=by omega
  exact⟨_,0,rfl,⟨fun _=>⟨rfl,h.can3 hll⟩,fun h=>by omega⟩,Below.refl _ _⟩
theorem Try.info102 :(Try.prog.info? 94).map (fun i=>(i.zero,i.size,i.bytes))=some (some (.int .u32 0),1,4):=by kernel_rfl
def RNat (w0:World) (n:Nat) (e:Ending) (w:World):Prop:=∃r,e= .returned r∧zjb w r n∧Below w0.heap.size w0 w
theorem zjd (v:Value) (n:Nat) (w:World) (h:zob w v n):
 Calls Try.prog 114 #[v] w (RNat w n):=by
 have hN:=h
 obtain⟨l,hl,HE,hll⟩:=h
 have hs:=hl.sl
 have hlen:=hl.len
 have hle:=hs.le
 have hcan:=hl.can hll
 rw[HE]at hcan
 have hcl:=zsb hl.lm
 rw[HE]at hcl
 clear HE
 have hcs:zda n≤scap v:=by omega
 obtain⟨i0,hi,hz0,hz1,hz2⟩:=info_parts Try.info102
 have hroom:([]:List Nat).length+(zla n).length≤35184372088832:=by have:=hcan.2;unfold zda at this;simp;omega
 have hA:=zkj (P:=Try.prog) 30 94 i0 Try.underlying30 hi hz0 hz1 hz2
 go_enter Try.func114,Try.ntmps114
 go_wp2_with (first
  |(go_at_call 110;refine(zdb v n _ hN).mono ?_;rintro e w' ⟨rfl,rfl⟩)
  |(at_builtin;refine hA w rfl _ _ rfl w.heap.size _ [] rfl (zcc.nil _ _ _) _ rfl (zla n) hcan.1 hroom (Nat.le_refl _) ?_;intro v' w1 hown _ hbel))
 go_ret
 exact⟨v',rfl,⟨by simpa using hown.nat,hcan.2⟩,hbel⟩
theorem zud (v:Value) (n:Nat) (w:World) (h:zob w v n) (hn:zda n≤512):
 Calls Try.prog 109 #[v] w fun e w'=>e= .returned (.bool false)∧w=w':=
 (large_any v n w h).mono fun e w' ⟨h1,h2⟩=>⟨by rw[h1,decide_eq_false (by omega)],h2⟩
theorem zob.scap {w:World} {v:Value} {n:Nat} (h:zob w v n):zgc v∧zda n≤scap v∧zjb w (Go.Proofs.Ytlpdkbmmbdfoiaa.tk v (zda n)) n:=by
 obtain⟨l,hl,rfl,hll⟩:=h
 have:=hl.len
 have:=hl.sl.le
 have:=zsb hl.lm
 exact⟨hl.sl,by omega,hl.can hll⟩
set_option maxHeartbeats 800000 in
theorem add_any (va vb:Value) (m n:Nat) (w:World) (ha:zob w va m) (hb:zob w vb n) (hm:zda m≤512) (hn:zda n≤512):
 Calls Try.prog 78 #[va,vb] w (zxm w (m+n)):=by
 obtain⟨sa,ca,ka⟩:=ha.scap
 obtain⟨sb,cb,kb⟩:=hb.scap
 obtain⟨i0,hi,hz0,hz1,hz2⟩:=info_parts Try.info102
 have hM:=zmd (P:=Try.prog) 30 94 i0 Try.underlying30 hi hz0 hz1 hz2
 go_enter Try.func78,Try.ntmps78
 go_wp2_with (go_at_call 109;first | ((with_reducible refine(zud va m _ ha hm).mono ?_);rintro e w' ⟨rfl,rfl⟩) | ((with_reducible refine(zud vb n _ hb hn).mono ?_);rintro e w' ⟨rfl,rfl⟩))
 go_quiet ((go_at_call 110;first | with_reducible exact Calls.quiet_of_same ((zdb va m _ (ha.drawn _)).mono fun e w' ⟨h1,h2⟩=>⟨h1,h2.symm⟩) | with_reducible exact Calls.quiet_of_same ((zdb vb n _ (hb.drawn _)).mono fun e w' ⟨h1,h2⟩=>⟨h1,h2.symm⟩)))
 have l1:slen (tk va (zda m))=zda m:=ka.1.len
 have l2:slen (tk vb (zda n))=zda n:=kb.1.len
 have s1:=ka.1.sl
 have s2:=kb.1.sl
 clear ha hb sa sb ca cb
 generalize tk va (zda m)=xa at *
 generalize tk vb (zda n)=xb at *
 have kb':=kb.drawn nq
 have ka':=ka.drawn nq
 have hbel:=zka (B:=w.heap.size) w nq
 generalize w.drewN nq=W at *
 by_cases hlt:zda m<zda n
 ·skip
  go_wp2_with (refine hM _ rfl _ _ rfl W.heap.size _ (zda n+1) rfl rfl rfl (by omega) (Nat.le_refl _) ?_;intro v w1 hown hb1 hvb)
  have hbw:Below w.heap.size w w1:=hbel.trans (hb1.mono hbel.size)
  clear hM
  go_loopw [7,36] (fun u7 u36 wr=>∃ (k c:Nat) (o:List Nat),k≤zda n∧u36= .int .i64 k∧u7= .int .u64 c∧c≤1∧zcc wr 94 W.heap.size v o∧o.length=zda n+1∧
   val (o.take k)+pw k*c=val ((zla n).take k)+val ((zla m).take k)∧Below W.heap.size W wr) (fun _ u36 _=>zda n- (intOf u36).toNat)
  case atStart=>exact⟨0,0,_,Nat.zero_le _,rfl,rfl,by omega,hown,by simp,by simp[val],hb1⟩
  case round=>
   obtain⟨k,c,o,hk,rfl,rfl,hc,hownr,hol,hval,hbr⟩:=hrel
   have hcx:=((kb'.below hbr).1).cell
   have hcy:=((ka'.below hbr).1).cell
   have sv:=hownr.nat.sl
   have lv:slen v=zda n+1:=by rw[hownr.nat.len,hol]
   have HV:=zH hval
   clear hval
   by_cases hkp:k<zda n
   ·have hx:=hcx k hkp
    have hx1:(zla n)[k]'hkp<4294967296:=zrb n _ (List.getElem_mem _)
    have hfz:=hownr.frozen k (by omega)
    have hco:=hownr.nat.cell k (by omega)
    clear hcx
    by_cases hkq:k<zda m
    ·have hy:=hcy k hkq
     have hy1:(zla m)[k]'hkq<4294967296:=zrb m _ (List.getElem_mem _)
     clear hcy
     have HX:=zH (zia (zla n) k hkp)
     have HY:=zH (zia (zla m) k hkq)
     generalize (zla n)[k]'hkp=x at *
     generalize (zla m)[k]'hkq=y at *
     go_wp2
     have hset:=hownr.set k (by omega) ((c+x+y)%4294967296) (by omega)
     rw[show(((c+x+y)%4294967296:Nat):Int)=((c:Int)+x+y)%4294967296 from by omega]at hset
     go_roundw
     case rel=>exact⟨k+1,(c+x+y)/4294967296,_,by omega,by go_num,by go_num,by omega,hset.1,by simp[hol],zli (by omega) HX.out HY.out HV.out,hbr.trans hset.2⟩
     case measure=>simp[intOf];omega
    ·have HX:=zH (zia (zla n) k hkp)
     have HY:=zH (zje (zla m) k (by unfold zda at hkq;omega))
     clear hcy
     generalize (zla n)[k]'hkp=x at *
     go_wp2
     have hset:=hownr.set k (by omega) ((c+x+0)%4294967296) (by omega)
     rw[show(((c+x+0)%4294967296:Nat):Int)=((c:Int)+x)%4294967296 from by omega]at hset
     go_roundw
     case rel=>exact⟨k+1,(c+x+0)/4294967296,_,by omega,by go_num,by go_num,by omega,hset.1,by simp[hol],zli (by omega) HX.out (by rw[HY.out];rfl) HV.out,hbr.trans hset.2⟩
     case measure=>simp[intOf];omega
   ·have hkk:k=zda n:=by omega
    subst hkk
    clear hcx hcy
    have hfz:=hownr.frozen (zda n) (by omega)
    have hco:=hownr.nat.cell (zda n) (by omega)
    have hset:=hownr.set (zda n) (by omega) c (by omega)
    have hv2:val (o.set (zda n) c)=m+n:=by
     have e:=zkb o (zda n) c (by omega)
     rw[List.take_of_length_le (by simp;omega)]at e
     rw[e,HV.out,List.take_of_length_le (show zda n≤zda n from Nat.le_refl _),List.take_of_length_le (show zda m≤zda n by omega),zha,zha,Nat.add_comm]
    have HS:=zH (zph v _ _ hset.1.nat (by simp;omega))
    have HV2:=zH hv2
    have HB:=zH (hbr.trans hset.2)
    clear hset hv2 hbr HV
    go_wp2_with (go_at_call 111;refine HS.out.mono ?_;rintro e w' ⟨r,er,rfl,hr,hbl⟩)
    go_ret2
    rw[HV2.out]at hr
    exact⟨r,er,rfl,hr,hbel.trans ((HB.out.trans (hbl.mono HB.out.size)).mono hbel.size)⟩
 ·skip
  go_wp2_with (refine hM _ rfl _ _ rfl W.heap.size _ (zda m+1) rfl rfl rfl (by omega) (Nat.le_refl _) ?_;intro v w1 hown hb1 hvb)
  have hbw:Below w.heap.size w w1:=hbel.trans (hb1.mono hbel.size)
  clear hM
  go_loopw [7,36] (fun u7 u36 wr=>∃ (k c:Nat) (o:List Nat),k≤zda m∧u36= .int .i64 k∧u7= .int .u64 c∧c≤1∧zcc wr 94 W.heap.size v o∧o.length=zda m+1∧
   val (o.take k)+pw k*c=val ((zla m).take k)+val ((zla n).take k)∧Below W.heap.size W wr) (fun _ u36 _=>zda m- (intOf u36).toNat)
  case atStart=>exact⟨0,0,_,Nat.zero_le _,rfl,rfl,by omega,hown,by simp,by simp[val],hb1⟩
  case round=>
   obtain⟨k,c,o,hk,rfl,rfl,hc,hownr,hol,hval,hbr⟩:=hrel
   have hcx:=((ka'.below hbr).1).cell
   have hcy:=((kb'.below hbr).1).cell
   have sv:=hownr.nat.sl
   have lv:slen v=zda m+1:=by rw[hownr.nat.len,hol]
   have HV:=zH hval
   clear hval
   by_cases hkp:k<zda m
   ·have hx:=hcx k hkp
    have hx1:(zla m)[k]'hkp<4294967296:=zrb m _ (List.getElem_mem _)
    have hfz:=hownr.frozen k (by omega)
    have hco:=hownr.nat.cell k (by omega)
    clear hcx
    by_cases hkq:k<zda n
    ·have hy:=hcy k hkq
     have hy1:(zla n)[k]'hkq<4294967296:=zrb n _ (List.getElem_mem _)
     clear hcy
     have HX:=zH (zia (zla m) k hkp)
     have HY:=zH (zia (zla n) k hkq)
     generalize (zla m)[k]'hkp=x at *
     generalize (zla n)[k]'hkq=y at *
     go_wp2
     have hset:=hownr.set k (by omega) ((c+x+y)%4294967296) (by omega)
     rw[show(((c+x+y)%4294967296:Nat):Int)=((c:Int)+x+y)%4294967296 from by omega]at hset
     go_roundw
     case rel=>exact⟨k+1,(c+x+y)/4294967296,_,by omega,by go_num,by go_num,by omega,hset.1,by simp[hol],zli (by omega) HX.out HY.out HV.out,hbr.trans hset.2⟩
     case measure=>simp[intOf];omega
    ·have HX:=zH (zia (zla m) k hkp)
     have HY:=zH (zje (zla n) k (by unfold zda at hkq;omega))
     clear hcy
     generalize (zla m)[k]'hkp=x at *
     go_wp2
     have hset:=hownr.set k (by omega) ((c+x+0)%4294967296) (by omega)
     rw[show(((c+x+0)%4294967296:Nat):Int)=((c:Int)+x)%4294967296 from by omega]at hset
     go_roundw
     case rel=>exact⟨k+1,(c+x+0)/4294967296,_,by omega,by go_num,by go_num,by omega,hset.1,by simp[hol],zli (by omega) HX.out (by rw[HY.out];rfl) HV.out,hbr.trans hset.2⟩
     case measure=>simp[intOf];omega
   ·have hkk:k=zda m:=by omega
    subst hkk
    clear hcx hcy
    have hfz:=hownr.frozen (zda m) (by omega)
    have hco:=hownr.nat.cell (zda m) (by omega)
    have hset:=hownr.set (zda m) (by omega) c (by omega)
    have hv2:val (o.set (zda m) c)=m+n:=by
     have e:=zkb o (zda m) c (by omega)
     rw[List.take_of_length_le (by simp;omega)]at e
     rw[e,HV.out,List.take_of_length_le (show zda m≤zda m from Nat.le_refl _),List.take_of_length_le (show zda n≤zda m by omega),zha,zha,Nat.add_comm]
    have HS:=zH (zph v _ _ hset.1.nat (by simp;omega))
    have HV2:=zH hv2
    have HB:=zH (hbr.trans hset.2)
    clear hset hv2 hbr HV
    go_wp2_with (go_at_call 111;refine HS.out.mono ?_;rintro e w' ⟨r,er,rfl,hr,hbl⟩)
    go_ret2
    rw[HV2.out]at hr
    exact⟨r,er,rfl,hr,hbel.trans ((HB.out.trans (hbl.mono HB.out.size)).mono hbel.size)⟩
set_option maxHeartbeats 800000
theorem zal (w:World) (e:TypeId) (x y:Nat) (hx:x<4294967296) (hy:y<4294967296):
 zfc (w.alloc (.cells #[.int .u32 (x:Nat), .int .u32 (y:Nat)] e)) (.slice (some ⟨w.heap.size,0,none⟩) 2 2) [x,y]:=by
 refine⟨⟨_,2,2,rfl,Nat.le_refl _,by simp[maxLen],fun e=>by cases e⟩,rfl,fun j hj=> ?_,fun z hz=> ?_⟩
 ·have :j=0∨j=1:=by simp at hj;omega
  rcases this with rfl | rfl<;>simp[ptr,base,Addr.add]
 ·simp at hz;omega
theorem zxj (n:Nat) (hn:n<18446744073709551616) (w:World):
 Calls Try.prog 92 #[.int .u64 n] w (RNat w n):=by
 have HN:=zal w 94 (n%4294967296) (n/4294967296) (by omega) (by omega)
 rw[show((n%4294967296:Nat):Int)=(n:Int)%4294967296 from by omega,show((n/4294967296:Nat):Int)=(n:Int)/4294967296 from by omega]at HN
 have hv:val [n%4294967296,n/4294967296]=n:=by simp[val];omega
 have HL:=zH (zdb _ _ _ (HN.natN (by simp)))
 have HC:=zH (HN.can (by simp))
 have HV:=zH hv
 have hle:zda n≤2:=zzb.2 (by simp[pw];omega)
 have HB:=zH ((Below.refl w.heap.size w).alloc (Nat.le_refl _) (.cells #[.int .u32 ((n:Int)%4294967296), .int .u32 ((n:Int)/4294967296)] 94))
 clear HN hv
 go_enter Try.func92,Try.ntmps92
 go_wp2_with (go_at_call 110;refine HL.out.mono ?_;rw[HV.out];rintro e w' ⟨rfl,rfl⟩)
 go_ret
 refine⟨_,rfl,?_,HB.out⟩
 have:=HC.out
 rw[HV.out]at this
 exact this
theorem zob.len_le {w:World} {v:Value} {n:Nat} (h:zob w v n):zda n≤4294967296:=by
 obtain⟨l,hl,rfl,hll⟩:=h;exact Nat.le_trans (zsb hl.lm) hll
theorem zob.cells {w:World} {v:Value} {n:Nat} (h:zob w v n):∀ (j:Nat) (hj:j<zda n),w.cell? (ptr v j)=some (.int .u32 ((zla n)[j]'hj:Nat)):=by
 obtain⟨l,hl,rfl,hll⟩:=h
 intro j hj
 have:=(hl.can hll).1.cell j hj
 rwa[ptr_tk]at this
theorem zob.slen {w:World} {v:Value} {n:Nat} (h:zob w v n):zgc v∧zda n≤Go.Proofs.Ytlpdkbmmbdfoiaa.slen v∧Go.Proofs.Ytlpdkbmmbdfoiaa.slen v≤4294967296:=by
 obtain⟨l,hl,rfl,hll⟩:=h
 exact⟨hl.sl,by rw[hl.len];exact zsb hl.lm,by rw[hl.len];exact hll⟩
theorem ztl (va vb:Value) (m n:Nat) (w:World) (ha:zob w va m) (hb:zob w vb n):
 Calls Try.prog 80 #[va,vb] w fun e w'=>e= .returned (.int .i64 (zfj m n))∧∃k,w'=w.drewN k:=by
 obtain⟨sa,la,ua⟩:=ha.slen
 obtain⟨sb,lb,ub⟩:=hb.slen
 have ca:=ha.cells
 have cb:=hb.cells
 go_enter Try.func80,Try.ntmps80
 go_wp2_with (go_at_call 110;first | ((with_reducible refine(zdb va m _ ha).mono ?_);rintro e w' ⟨rfl,rfl⟩) | ((with_reducible refine(zdb vb n _ hb).mono ?_);rintro e w' ⟨rfl,rfl⟩))
 ·go_ret
  exact⟨by rw[zkg (zug (by assumption))];rfl,0,rfl⟩
 ·go_ret
  exact⟨by rw[zul (zug (by assumption))];rfl,0,rfl⟩
 ·have he:zda m=zda n:=by omega
  go_loopw [7] (fun i wr=>∃k q:Nat,k≤zda m∧i= .int .i64 ((k:Int)-1)∧(zla m).drop k=(zla n).drop k∧wr=w.drewN q) (fun i _=>(intOf i+1).toNat)
  case atStart=>exact⟨zda m,0,Nat.le_refl _,by simp,by rw[List.drop_of_length_le (show zda m≤zda m from Nat.le_refl _),List.drop_of_length_le (show zda n≤zda m by omega)],rfl⟩
  case round=>
   obtain⟨k,q,hk,rfl,hd,rfl⟩:=hrel
   have HD:=zH hd
   have HE:=zH he
   clear hd he
   by_cases hk0:0<k
   ·obtain⟨j,rfl⟩:∃j,k=j+1:=⟨k-1,by omega⟩
    have hj1:j<zda m:=by omega
    have hj2:j<zda n:=by have:=HE.out;omega
    have h1:=ca j hj1
    have h2:=cb j hj2
    have hlt:=zde (zrb m) j hj1 hj2 HD.out
    have hgt:=zde (zrb n) j hj2 hj1 HD.out.symm
    have heq:=zvm j hj1 hj2 HD.out
    rw[zha,zha]at hlt hgt
    clear ca cb HD
    generalize (zla m)[j]'hj1=x at *
    generalize (zla n)[j]'hj2=y at *
    have HL:=zH hlt
    have HG:=zH hgt
    have HQ:=zH heq
    clear hlt hgt heq
    by_cases hxy:x<y
    ·go_wp2
     go_quiet (fail)
     go_wp2
     go_ret
     exact⟨by rw[zkg (HL.out hxy)];rfl,_,by first | rfl | (simp only[World.drewN_drewN];rfl)⟩
    ·by_cases hyx:y<x
     ·go_wp2
      go_quiet (fail)
      go_wp2
      go_quiet (fail)
      go_wp2
      go_ret
      exact⟨by rw[zul (HG.out hyx)];rfl,_,by first | rfl | (simp only[World.drewN_drewN];rfl)⟩
     ·go_wp2
      go_quiet (fail)
      go_wp2
      go_quiet (fail)
      go_wp2
      go_roundw
      case rel=>exact⟨j,_,by omega,by go_num,HQ.out (by omega),by first | rfl | (simp only[World.drewN_drewN];rfl)⟩
      case measure=>simp[intOf]
   ·obtain rfl:k=0:=by omega
    have hmn:m=n:=zhg (by simpa using HD.out)
    have HM:=zH hmn
    clear hmn
    go_wp2
    go_ret
    exact⟨by rw[cmpN_eq HM.out];rfl,_,rfl⟩
end Go.Proofs.Ytlpdkbmmbdfoiaa
namespace Go.Proofs.Ytlpdkbmmbdfoiaa
theorem zzk (a b s:Nat) (h:b<2^s):(2^s*a) ||| b=2^s*a+b:=(Nat.two_pow_add_eq_or_of_lt h a).symm
theorem or_lo (r x:Nat) (hr:r<4294967296) (hx:x<4294967296):bits .or .u64 ((r:Int)*4294967296) (x:Int)=((r*4294967296+x:Nat):Int):=by
 have h:=u64_or_nat (4294967296*r) x (by omega) (by omega)
 rw[show((4294967296*r:Nat):Int)=(r:Int)*4294967296 from by omega]at h
 rw[h]
 have:=zzk r x 32 (by omega)
 rw[show(2:Nat)^32=4294967296 from by decide]at this
 rw[this]
 congr 1
 omega
theorem or_hi (c x P s:Nat) (hP:P=2^s) (hc:c<P) (hx:P*x<18446744073709551616) (hPl:P<18446744073709551616):bits .or .u64 (c:Int) ((P*x:Nat):Int)=((P*x+c:Nat):Int):=by
 subst hP
 rw[u64_or_nat c (2^s*x) (by omega) hx,Nat.or_comm,zzk x c s hc]
theorem zyb (n:Int):IntKind.u64.wrap n=n%18446744073709551616:=by
 simp[IntKind.wrap,IntKind.bits,IntKind.signed]
theorem div_limb (t d:Nat) (h:t/d<4294967296):IntKind.u64.wrap ((t:Int)/d)%4294967296=((t/d:Nat):Int):=by
 rw[zyb,←Int.natCast_ediv];generalize t/d=q at *;omega
theorem or_up (c x s:Nat) (hs:s<32) (hc:c<2^s) (hx:x<4294967296):bits .or .u64 (c:Int) (IntKind.u64.wrap ((x:Int)*2^s))=((2^s*x+c:Nat):Int):=by
 have hP:2^s≤2^31:=Nat.pow_le_pow_right (by decide) (by omega)
 have h1:2^s*x≤2^31*4294967295:=Nat.mul_le_mul hP (by omega)
 have h2:((x:Int)*2^s)=((2^s*x:Nat):Int):=by rw[Int.natCast_mul,Int.natCast_pow];exact Int.mul_comm _ _
 rw[h2,zyb]
 have h3:((2^s*x:Nat):Int)%18446744073709551616=((2^s*x:Nat):Int):=by omega
 rw[h3]
 exact or_hi c x (2^s) s rfl hc (by omega) (by omega)
theorem up_bound (c x s:Nat) (hs:s<32) (hc:c<2^s) (hx:x<4294967296):2^s*x+c<18446744073709551616∧(2^s*x+c)/4294967296<2^s:=by
 have hP:2^s≤2^31:=Nat.pow_le_pow_right (by decide) (by omega)
 have h1:2^s*x≤2^31*4294967295:=Nat.mul_le_mul hP (by omega)
 have h2:2^s*(x+1)≤2^s*4294967296:=Nat.mul_le_mul_left _ (by omega)
 rw[Nat.mul_add,Nat.mul_one]at h2
 refine⟨by omega,?_⟩
 rw[Nat.div_lt_iff_lt_mul (by decide)]
 omega
end Go.Proofs.Ytlpdkbmmbdfoiaa
namespace Go.Proofs.Ytlpdkbmmbdfoiaa
open Go.RowKit
theorem cmp_ge (va vb:Value) (m n:Nat) (w:World) (ha:zob w va m) (hb:zob w vb n) (h:n≤m):
 Calls Try.prog 80 #[va,vb] w fun e w'=>(∃c:Int,e= .returned (.int .i64 c)∧decide (c<0)=false)∧∃k,w'=w.drewN k:=
 (ztl va vb m n w ha hb).mono fun _ _ ⟨a,b⟩=>⟨⟨_,a,decide_eq_false (by unfold zfj;rw[if_neg (by omega)];split<;>omega)⟩,b⟩
theorem sub_wrap (x y c:Nat) (hx:x<4294967296) (hy:y<4294967296) (hc:c≤1):∃z b:Nat,z<4294967296∧b≤1∧
 IntKind.u64.wrap (IntKind.u64.wrap ((x:Int)-c)-y)%4294967296=z∧IntKind.u64.wrap (IntKind.u64.wrap ((x:Int)-c)-y)/9223372036854775808=b∧z+c+y=x+4294967296*b:=by
 rw[zyb,zyb]
 by_cases h:c+y≤x
 ·exact⟨x-c-y,0,by omega,by omega,by omega,by omega,by omega⟩
 ·exact⟨x+4294967296-c-y,1,by omega,by omega,by omega,by omega,by omega⟩
theorem sub_wrap0 (x c:Nat) (hx:x<4294967296) (hc:c≤1):∃z b:Nat,z<4294967296∧b≤1∧
 IntKind.u64.wrap ((x:Int)-c)%4294967296=z∧IntKind.u64.wrap ((x:Int)-c)/9223372036854775808=b∧z+c+0=x+4294967296*b:=by
 rw[zyb]
 by_cases h:c≤x
 ·exact⟨x-c,0,by omega,by omega,by omega,by omega,by omega⟩
 ·exact⟨x+4294967296-c,1,by omega,by omega,by omega,by omega,by omega⟩
set_option maxHeartbeats 800000 in
theorem sub_any (va vb:Value) (m n:Nat) (w:World) (ha:zob w va m) (hb:zob w vb n) (hm:zda m≤512) (hnm:n≤m):
 Calls Try.prog 81 #[va,vb] w (zxm w (m-n)):=by
 have hn:zda n≤512:=Nat.le_trans (zfb hnm) hm
 have hnn:=zfb hnm
 have HM:=zH hm
 have HN:=zH hn
 clear hm hn
 obtain⟨sa,ca,ka⟩:=ha.scap
 obtain⟨sb,cb,kb⟩:=hb.scap
 obtain⟨i0,hi,hz0,hz1,hz2⟩:=info_parts Try.info102
 have hM:=zmd (P:=Try.prog) 30 94 i0 Try.underlying30 hi hz0 hz1 hz2
 go_enter Try.func81,Try.ntmps81
 go_wp2_with (first
  |(go_at_call 109;first | ((with_reducible refine(zud va m _ ha HM.out).mono ?_);rintro e w' ⟨rfl,rfl⟩) | ((with_reducible refine(zud vb n _ hb HN.out).mono ?_);rintro e w' ⟨rfl,rfl⟩))
  |(go_at_call 80;refine(cmp_ge va vb m n _ ha hb hnm).mono ?_;rintro e w' ⟨⟨c,rfl,hc⟩,nq0,rfl⟩))
 have ha0:=ha.drawn nq0
 have hb0:=hb.drawn nq0
 have ka0:=ka.drawn nq0
 have kb0:=kb.drawn nq0
 have hbel0:=zka (B:=w.heap.size) w nq0
 generalize w.drewN nq0=W0 at *
 go_quiet ((go_at_call 110;first | with_reducible exact Calls.quiet_of_same ((zdb va m _ (ha0.drawn _)).mono fun e w' ⟨h1,h2⟩=>⟨h1,h2.symm⟩) | with_reducible exact Calls.quiet_of_same ((zdb vb n _ (hb0.drawn _)).mono fun e w' ⟨h1,h2⟩=>⟨h1,h2.symm⟩)))
 have l1:slen (tk va (zda m))=zda m:=ka.1.len
 have l2:slen (tk vb (zda n))=zda n:=kb.1.len
 have s1:=ka.1.sl
 have s2:=kb.1.sl
 clear ha hb sa sb ca cb ha0 hb0 ka kb hc
 generalize tk va (zda m)=xa at *
 generalize tk vb (zda n)=xb at *
 have kb':=kb0.drawn nq
 have ka':=ka0.drawn nq
 have hbel:=hbel0.trans (zka (B:=w.heap.size) W0 nq)
 generalize W0.drewN nq=W at *
 have hroom:zda m≤35184372088832:=by have:=HM.out;omega
 have HR:=zH hroom
 clear hroom ka0 kb0 hbel0
 go_wp2_with (refine hM _ rfl _ _ rfl W.heap.size _ (zda m) rfl rfl rfl HR.out (Nat.le_refl _) ?_;intro v w1 hown hb1 hvb)
 have hbw:Below w.heap.size w w1:=hbel.trans (hb1.mono hbel.size)
 clear hM
 go_loopw [7,35] (fun u7 u35 wr=>∃ (k c:Nat) (o:List Nat),k≤zda m∧u35= .int .i64 k∧u7= .int .u64 c∧c≤1∧zcc wr 94 W.heap.size v o∧o.length=zda m∧
  val (o.take k)+val ((zla n).take k)=val ((zla m).take k)+pw k*c∧Below W.heap.size W wr) (fun _ u35 _=>zda m- (intOf u35).toNat)
 case atStart=>exact⟨0,0,_,Nat.zero_le _,rfl,rfl,by omega,hown,by simp,by simp[val],hb1⟩
 case round=>
  obtain⟨k,c,o,hk,rfl,rfl,hc,hownr,hol,hval,hbr⟩:=hrel
  have hcx:=((ka'.below hbr).1).cell
  have hcy:=((kb'.below hbr).1).cell
  have sv:=hownr.nat.sl
  have lv:slen v=zda m:=by rw[hownr.nat.len,hol]
  have HV:=zH hval
  clear hval
  have hkb:k≤4294967296:=by have:=HM.out;omega
  by_cases hkp:k<zda m
  ·have hx:=hcx k hkp
   have hx1:(zla m)[k]'hkp<4294967296:=zrb m _ (List.getElem_mem _)
   have hfz:=hownr.frozen k (by omega)
   have hco:=hownr.nat.cell k (by omega)
   have HX:=zH (zia (zla m) k hkp)
   clear hcx
   generalize (zla m)[k]'hkp=x at *
   by_cases hkq:k<zda n
   ·have hy:=hcy k hkq
    have hy1:(zla n)[k]'hkq<4294967296:=zrb n _ (List.getElem_mem _)
    have HY:=zH (zia (zla n) k hkq)
    clear hcy
    generalize (zla n)[k]'hkq=y at *
    obtain⟨z,b,hz,hb,ez,eb,hzz⟩:=sub_wrap x y c hx1 hy1 hc
    have EZ:=zH ez
    have EB:=zH eb
    have HZZ:=zH hzz
    clear ez eb hzz
    go_wp2
    have hset:=hownr.set k (by omega) z hz
    go_roundw
    case rel=>
     rw[EZ.out,EB.out]
     exact⟨k+1,b,_,by omega,by go_num,rfl,hb,hset.1,by simp[hol],sub_step (by omega) HX.out HY.out HZZ.out HV.out,hbr.trans hset.2⟩
    case measure=>simp[intOf];omega
   ·have HY:=zH (zje (zla n) k (by unfold zda at hkq;omega))
    clear hcy
    obtain⟨z,b,hz,hb,ez,eb,hzz⟩:=sub_wrap0 x c hx1 hc
    have EZ:=zH ez
    have EB:=zH eb
    have HZZ:=zH hzz
    clear ez eb hzz
    go_wp2
    have hset:=hownr.set k (by omega) z hz
    go_roundw
    case rel=>
     rw[EZ.out,EB.out]
     exact⟨k+1,b,_,by omega,by go_num,rfl,hb,hset.1,by simp[hol],sub_step (by omega) HX.out (by rw[HY.out];rfl) HZZ.out HV.out,hbr.trans hset.2⟩
    case measure=>simp[intOf];omega
  ·obtain rfl:k=zda m:=by omega
   clear hcx hcy
   have hv2:val o=m-n:=by
    have e:=HV.out
    rw[List.take_of_length_le (by omega),List.take_of_length_le (show zda m≤zda m from Nat.le_refl _),List.take_of_length_le (show zda n≤zda m by omega),zha,zha]at e
    have h1:=zoe hownr.lm
    rw[hol]at h1
    have h2:=pw_pos (zda m)
    rcases Nat.lt_or_ge c 1 with hc0 | hc0
    ·obtain rfl:c=0:=by omega
     omega
    ·obtain rfl:c=1:=by omega
     omega
   have HS:=zH (zph v _ _ hownr.nat (by rw[hol];omega))
   have HV2:=zH hv2
   clear hv2 HV
   go_wp2_with (go_at_call 111;refine HS.out.mono ?_;rintro e w' ⟨r,er,rfl,hr,hbl⟩)
   go_ret2
   rw[HV2.out]at hr
   exact⟨r,er,rfl,hr,hbel.trans ((hbr.trans (hbl.mono hbr.size)).mono hbel.size)⟩
end Go.Proofs.Ytlpdkbmmbdfoiaa
namespace Go.Proofs.Ytlpdkbmmbdfoiaa
theorem znh (l:List Nat) (k:Nat) (h:k<l.length):val (l.drop k)=l[k]+4294967296*val (l.drop (k+1)):=by
 rw[List.drop_eq_getElem_cons h];rfl
theorem drop_set_of_lt {α:Type} (l:List α) (k:Nat) (z:α) (h:k<l.length):(l.set k z).drop k=z::l.drop (k+1):=by
 rw[List.drop_eq_getElem_cons (by simpa using h),List.drop_set_of_lt (by omega)]
 simp
theorem zjm {q l:List Nat} {k d r x:Nat} (hk:k<q.length) (hl:val (l.drop k)=x+4294967296*val (l.drop (k+1))) (hd:0<d)
 (hv:val (l.drop (k+1))=d*val (q.drop (k+1))+r) (hr:r<d):
 val (l.drop k)=d*val ((q.set k ((r*4294967296+x)/d)).drop k)+(r*4294967296+x)%d:=by
 rw[drop_set_of_lt q k _ hk,hl,hv]
 simp only[val]
 have h:=Nat.div_add_mod (r*4294967296+x) d
 generalize (r*4294967296+x)/d=a at *
 generalize (r*4294967296+x)%d=b at *
 grind
theorem zgk {d r x:Nat} (hd:d<4294967296) (hr:r<d) (hx:x<4294967296):(r*4294967296+x)/d<4294967296∧(r*4294967296+x)%d<d∧r*4294967296+x<18446744073709551616:=by
 refine⟨?_,Nat.mod_lt _ (by omega),by omega⟩
 rw[Nat.div_lt_iff_lt_mul (by omega)]
 have :r*4294967296+4294967296≤d*4294967296:=by omega
 omega
theorem up_step {o l:List Nat} {k c x P t:Nat} (hk:k<o.length) (hl:val (l.take (k+1))=val (l.take k)+pw k*x) (hv:val (o.take k)+pw k*c=P*val (l.take k)) (ht:t=P*x+c):
 val ((o.set k (t%4294967296)).take (k+1))+pw (k+1)*(t/4294967296)=P*val (l.take (k+1)):=by
 rw[zkb o k _ hk,hl,zmb]
 have h:t%4294967296+4294967296*(t/4294967296)=t:=by omega
 generalize t%4294967296=z at *
 generalize t/4294967296=d at *
 grind
theorem zan {p q l:List Nat} {k c bo f x u z c' bo' lo:Nat} (hk:k<q.length) (hp:val (p.take (k+1))=val (p.take k)+pw k*u) (hl:val (l.take (k+1))=val (l.take k)+pw k*x)
 (ht:4294967296*c'+lo=c+f*x) (hz:z+lo+bo=u+4294967296*bo')
 (hv:val (q.take k)+f*val (l.take k)=val (p.take k)+pw k*(c+bo)):
 val ((q.set k z).take (k+1))+f*val (l.take (k+1))=val (p.take (k+1))+pw (k+1)*(c'+bo'):=by
 rw[zkb q k _ hk,hp,hl,zmb]
 generalize pw k=P at *
 generalize val (q.take k)=Q at *
 generalize val (p.take k)=R at *
 generalize val (l.take k)=L at *
 have h1:P*(4294967296*c'+lo)=P*(c+f*x):=by rw[ht]
 have h2:P*(z+lo+bo)=P*(u+4294967296*bo'):=by rw[hz]
 grind
theorem subtract_end {p q l:List Nat} {n c bo f z b:Nat} (hq:q.length=n+1) (hp:p.length=n+1) (hl:l.length=n) (hpn:p[n]'(by omega)+4294967296*b=z+c+bo)
 (hv:val (q.take n)+f*val (l.take n)=val (p.take n)+pw n*(c+bo)):val (q.set n z)+f*val l=val p+b*pw (n+1):=by
 have e1:=zkb q n z (by omega)
 rw[List.take_of_length_le (by simp;omega)]at e1
 have e2:=zia p n (by omega)
 rw[List.take_of_length_le (by omega)]at e2
 rw[List.take_of_length_le (by omega:l.length≤n)]at hv
 rw[e1,e2,zmb]
 generalize p[n]'(by omega)=u at *
 generalize pw n=P at *
 have h2:P*(u+4294967296*b)=P*(z+c+bo):=by rw[hpn]
 grind
theorem zhk {α:Type} (A p C:List α) (k:Nat) (z:α) (h:k<p.length):(A++p++C).set (A.length+k) z=A++p.set k z++C:=by
 rw[List.append_assoc,List.set_append_right _ _ (by omega),Nat.add_sub_cancel_left,List.set_append_left _ _ h,List.append_assoc]
theorem zxe {α:Type} (A p C:List α) (k:Nat) (h:k<p.length):(A++p++C)[A.length+k]? =some p[k]:=by
 rw[List.append_assoc,List.getElem?_append_right (by omega),Nat.add_sub_cancel_left,List.getElem?_append_left h,List.getElem?_eq_getElem h]
end Go.Proofs.Ytlpdkbmmbdfoiaa
namespace Go.Proofs.Ytlpdkbmmbdfoiaa
set_option maxHeartbeats 800000
open Go.RowKit
def RShort (w0:World) (n d:Nat) (e:Ending) (w:World):Prop:=
 ∃q,e= .returned (.tuple #[q, .int .u32 (n%d:Nat)])∧zjb w q (n/d)∧Below w0.heap.size w0 w
theorem short_any (va:Value) (l:List Nat) (d:Nat) (w:World) (ha:zfc w va l) (hl:l.length≤65536) (hd:0<d) (hd2:d<4294967296):
 Calls Try.prog 126 #[va, .int .u32 d] w (RShort w (val l) d):=by
 have hlb:l.length≤4294967296:=by omega
 have HL:=zH hl
 clear hl
 obtain⟨i0,hi,hz0,hz1,hz2⟩:=info_parts Try.info102
 have hM:=zmd (P:=Try.prog) 30 94 i0 Try.underlying30 hi hz0 hz1 hz2
 have sa:=ha.sl
 have la:=ha.len
 have hroom:l.length≤35184372088832:=by omega
 go_enter Try.func126,Try.ntmps126
 go_wp2_with (refine hM _ rfl _ _ rfl w.heap.size _ l.length rfl rfl rfl hroom (Nat.le_refl _) ?_;intro v w1 hown hb1 hvb)
 clear hM
 go_loopw [7,8] (fun u7 u8 wr=>∃ (k r:Nat) (q:List Nat),k≤l.length∧u8= .int .i64 ((k:Int)-1)∧u7= .int .u64 r∧r<d∧zcc wr 94 w.heap.size v q∧q.length=l.length∧
  val (l.drop k)=d*val (q.drop k)+r∧Below w.heap.size w wr) (fun _ u8 _=>(intOf u8+1).toNat)
 case atStart=>exact⟨l.length,0,_,Nat.le_refl _,rfl,rfl,hd,hown,by simp,by rw[List.drop_of_length_le (Nat.le_refl _),List.drop_of_length_le (by simp)];rfl,hb1⟩
 case round=>
  obtain⟨k,r,q,hk,rfl,rfl,hr,hownr,hol,hval,hbr⟩:=hrel
  have hcx:=(ha.below hbr).cell
  have sv:=hownr.nat.sl
  have lv:slen v=l.length:=by rw[hownr.nat.len,hol]
  have HV:=zH hval
  clear hval
  by_cases hk0:0<k
  ·obtain⟨j,rfl⟩:∃j,k=j+1:=⟨k-1,by omega⟩
   have hj1:j<l.length:=by omega
   have hx:=hcx j hj1
   have hx1:l[j]'hj1<4294967296:=ha.lm _ (List.getElem_mem _)
   have hfz:=hownr.frozen j (by omega)
   have hco:=hownr.nat.cell j (by omega)
   have HS:=zH (zjm (q:=q) (l:=l) (k:=j) (d:=d) (r:=r) (by omega) (znh l j hj1) hd HV.out hr)
   clear hcx
   generalize l[j]'hj1=x at *
   obtain⟨b1,b2,b3⟩:=zgk hd2 hr hx1
   have hor:=or_lo r x (by omega) hx1
   generalize r*4294967296+x=t at *
   go_wp2
   have ew:=div_limb t d b1
   have hset:=hownr.set j (by omega) (t/d) b1
   go_roundw
   case rel=>
    rw[ew]
    exact⟨j,t%d,_,by omega,rfl,rfl,b2,hset.1,by simp[hol],HS.out,hbr.trans hset.2⟩
   case measure=>simp[intOf]
  ·obtain rfl:k=0:=by omega
   have e:=HV.out
   simp only[List.drop_zero]at e
   have hq:val q=val l/d:=by rw[e,Nat.mul_add_div hd,Nat.div_eq_of_lt hr,Nat.add_zero]
   have hrr:r=val l%d:=by rw[e,Nat.mul_add_mod,Nat.mod_eq_of_lt hr]
   have hcan:=hownr.nat.can (by omega)
   have HLN:=zH (zdb v (val q) wr (hownr.nat.natN (by omega)))
   have HC:=zH hcan
   have HQ:=zH hq
   have HR:=zH hrr
   have hcap:zda (val q)≤scap v:=by have:=sv.le;have:=zsb hownr.lm;omega
   clear hcx hcan hq hrr HV e
   go_wp2_with (go_at_call 110;refine HLN.out.mono ?_;rintro e w' ⟨rfl,rfl⟩)
   go_ret2
   refine⟨tk v (zda (val q)),by rw[←HR.out];rfl,?_,hbr⟩
   rw[←HQ.out]
   exact HC.out
theorem up_any (va:Value) (l:List Nat) (s:Nat) (w:World) (ha:zfc w va l) (hl:l.length≤65536) (hs:s<32):
 Calls Try.prog 127 #[va, .int .u64 s] w fun e w'=>∃r o,e= .returned r∧zcc w' 94 w.heap.size r o∧o.length=l.length+1∧val o=2^s*val l∧Below w.heap.size w w':=by
 have hlb:l.length≤4294967296:=by omega
 have HL:=zH hl
 clear hl
 obtain⟨i0,hi,hz0,hz1,hz2⟩:=info_parts Try.info102
 have hM:=zmd (P:=Try.prog) 30 94 i0 Try.underlying30 hi hz0 hz1 hz2
 have sa:=ha.sl
 have la:=ha.len
 have hroom:l.length+1≤35184372088832:=by omega
 go_enter Try.func127,Try.ntmps127
 go_wp2_with (refine hM _ rfl _ _ rfl w.heap.size _ (l.length+1) rfl rfl rfl hroom (Nat.le_refl _) ?_;intro v w1 hown hb1 hvb)
 clear hM
 go_loopw [6,15] (fun u6 u15 wr=>∃ (k c:Nat) (o:List Nat),k≤l.length∧u15= .int .i64 k∧u6= .int .u64 c∧c<2^s∧zcc wr 94 w.heap.size v o∧o.length=l.length+1∧
  val (o.take k)+pw k*c=2^s*val (l.take k)∧Below w.heap.size w wr) (fun _ u15 _=>l.length- (intOf u15).toNat)
 case atStart=>exact⟨0,0,_,Nat.zero_le _,rfl,rfl,Nat.pow_pos (by decide),hown,by simp,by simp[val],hb1⟩
 case round=>
  obtain⟨k,c,o,hk,rfl,rfl,hc,hownr,hol,hval,hbr⟩:=hrel
  have hcx:=(ha.below hbr).cell
  have sv:=hownr.nat.sl
  have lv:slen v=l.length+1:=by rw[hownr.nat.len,hol]
  have HV:=zH hval
  clear hval
  by_cases hkp:k<l.length
  ·have hx:=hcx k hkp
   have hx1:l[k]'hkp<4294967296:=ha.lm _ (List.getElem_mem _)
   have hfz:=hownr.frozen k (by omega)
   have hco:=hownr.nat.cell k (by omega)
   have HX:=zH (zia l k hkp)
   clear hcx
   generalize l[k]'hkp=x at *
   have hor:=or_up c x s hs hc hx1
   obtain⟨b1,b2⟩:=up_bound c x s hs hc hx1
   have HT:=fun t=>zH (up_step (o:=o) (l:=l) (k:=k) (c:=c) (x:=x) (P:=2^s) (t:=t) (by omega) HX.out HV.out)
   generalize hte:2^s*x+c=t at *
   have HTE:=zH hte
   clear hte
   go_wp2
   have hset:=hownr.set k (by omega) (t%4294967296) (by omega)
   go_roundw
   case rel=>exact⟨k+1,t/4294967296,_,by omega,by go_num,rfl,b2,hset.1,by simp[hol],(HT t).out rfl,hbr.trans hset.2⟩
   case measure=>simp[intOf];omega
  ·obtain rfl:k=l.length:=by omega
   have hP:2^s≤2^31:=Nat.pow_le_pow_right (by decide) (by omega)
   have hc1:c<4294967296:=by omega
   have hfz:=hownr.frozen l.length (by omega)
   have hco:=hownr.nat.cell l.length (by omega)
   have hset:=hownr.set l.length (by omega) c hc1
   have hv2:val (o.set l.length c)=2^s*val l:=by
    have e:=zkb o l.length c (by omega)
    rw[List.take_of_length_le (by simp;omega),HV.out,List.take_length]at e
    exact e
   have HV2:=zH hv2
   clear hv2 hcx hP HV
   go_wp2
   go_ret
   exact⟨v,_,rfl,hset.1,by simp[hol],HV2.out,hbr.trans hset.2⟩
end Go.Proofs.Ytlpdkbmmbdfoiaa
