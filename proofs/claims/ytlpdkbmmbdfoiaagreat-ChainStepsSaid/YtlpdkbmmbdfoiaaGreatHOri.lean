/-
  Regions that draw their order, by an invariant: each operation is shown ONCE, from any state in which what it waits for is done. No program is named here.
-/
import Derived.Test.YtlpdkbmmbdfoiaaGreatHGw7
import Derived.Test.YtlpdkbmmbdfoiaaGreatHOrd
import Derived.Test.YtlpdkbmmbdfoiaaGreatHQu
set_option linter.unusedVariables false
namespace Go.Proofs.YtlpdkbmmbdfoiaaGreat
def stS (c:RC) (X:Nat→Rat):Rat:=sg c.rates.length fun t=>(qs c.start).getD t 0*X t
abbrev HitC (c:RC) (H:Nat→Rat):Prop:=HitF c.rates.length (rq c) (ziq c) H
abbrev TimeC (c:RC) (T:Nat→Rat):Prop:=TimeF c.rates.length (rq c) (ziq c) (Sure c.rates.length (rq c) (ziq c)) T
theorem lsr_over {c:RC} (hs:SmC c) {s k:Nat} (h:s<c.rates.length) (hk:k≤c.rates.length):over 720 230400 (lsr c s k):=by
 unfold lsr
 have h5:=hs.n5
 refine(over.sg (B:=28800) (by decide) fun t ht=> ?_).mono (show k*28800≤230400 by omega)
 split
 ·exact hs.r _ _ h (by omega)
 ·exact over.zero _ _
theorem lst_over {c:RC} (hs:SmC c) {k:Nat} (hk:k≤c.rates.length):over 720 230400 (lst c k):=by
 unfold lst
 have h5:=hs.n5
 refine(over.sg (B:=28800) (by decide) fun t ht=> ?_).mono (show k*28800≤230400 by omega)
 split
 ·exact hs.s _ (by omega)
 ·exact over.zero _ _
theorem pow_b :5*(28800*2^240)+230400*2^220<2^280:=by decide+kernel
theorem hit_sm {c:RC} {H:Nat→Rat} (hv:zzp c) (hs:SmC c) (hH:HitC c H):∀l,zvq c l→∃x,HitP c l x∧sg l.length (fun i=>(qs c.start).getD (l.getD i 0) 0*x i)+lst c c.rates.length=stS c H:=by
 intro l h
 have hk:=zxq h
 have hb:∀i,i<l.length→over 720 230400 (lsr c (l.getD i 0) c.rates.length):=fun i hi=>lsr_over hs (hk.lt _ (zcq hi)) (Nat.le_refl _)
 have hx:=fun i (hi:i<l.length)=>alive_hit hv h hH hi
 have h5:l.length≤5:=by have:=zft h;have:=hs.n5;omega
 obtain⟨E,hE,hEb,hX⟩:=sm_x hv h hs hb hx
 have hE3:720*E≠0:=Nat.mul_ne_zero (by decide) hE
 have hE2:720*E<2^4096:=by
  have h1:720*E≤720*2^220:=Nat.mul_le_mul_left _ (Nat.le_of_lt hEb)
  exact Nat.lt_trans (Nat.lt_of_le_of_lt h1 pow_a) (zcu (by decide))
 refine⟨fun i=>H (l.getD i 0),⟨csolve_sm hv h hs hb hx,fun i k hi hk2=>over_f (lsr_over hs (hk.lt _ (zcq hi)) hk2) (Nat.lt_trans (show 230400<2^18 by decide) (zcu (by decide))),fun k hk2=> ?_⟩,hit_sum hv h hH⟩
 have h1:over (720*E) (l.length*(28800*2^240)) (sg l.length fun i=>(qs c.start).getD (l.getD i 0) 0*H (l.getD i 0)):=over.sg hE3 fun i hi=>over.mul (hs.s _ (hk.lt _ (zcq hi))) (hX i hi)
 have h2:over (720*E) (230400*E) (lst c k):=(lst_over hs hk2).scale hE
 have h3:=over.add hE3 h1 h2
 have h4:l.length*(28800*2^240)+230400*E<2^280:=by
  have h6:l.length*(28800*2^240)≤5*(28800*2^240):=Nat.mul_le_mul_right _ h5
  have h7:230400*E≤230400*2^220:=Nat.mul_le_mul_left _ (Nat.le_of_lt hEb)
  exact Nat.lt_of_le_of_lt (Nat.add_le_add h6 h7) pow_b
 exact h3.fits hE3 (Nat.lt_trans h4 (zcu (a:=280) (by decide))) hE2
theorem mean_sm {c:RC} {T:Nat→Rat} (hv:zzp c) (hs:SmC c) (hT:TimeC c T):(∀j,j<c.rates.length→Rch c j→Ftl c j)→∀l,zvq c l→∃x,zzt c l (fun _=>1) x∧sg l.length (fun i=>(qs c.start).getD (l.getD i 0) 0*x i)=stS c T:=by
 intro hall l h
 have h1:over 720 230400 1:=(over.one (D:=720) (by decide)).mono (by decide)
 exact⟨fun i=>T (l.getD i 0),csolve_sm hv h hs (fun _ _=>h1) fun i hi=>alive_time hv h hall hT hi,time_sum hv h hall hT⟩
theorem hit_c {va:Value} {c:RC} {H:Nat→Rat} {w:World} (ha:zdq w va c) (hv:zzp c) (hs:SmC c) (hH:HitC c H):Calls Tryz.prog 43 #[va] w (RF0 w (stS c H)):=hit_any va c _ w ha hv (hit_sm hv hs hH)
theorem mean_c {va:Value} {c:RC} {T:Nat→Rat} {w:World} (ha:zdq w va c) (hv:zzp c) (hs:SmC c) (hT:TimeC c T):Calls Tryz.prog 45 #[va] w (RMean w c (stS c T)):=mean_any va c _ w ha hv (mean_sm hv hs hT)
end Go.Proofs.YtlpdkbmmbdfoiaaGreat
namespace Go.Proofs.YtlpdkbmmbdfoiaaGreat
open Go.RowKit
section
variable {P:Program} {ops:Array Oper} {Q:Exit→Act→World→Prop}
def zxp (l:Array Bool) (i:Nat):Prop:=l.getD i false=true
theorem zxp.set {l:Array Bool} {i j:Nat} (h:zxp (l.setIfInBounds i true) j):j=i∨zxp l j:=by
 by_cases e:j=i
 ·exact Or.inl e
 ·refine Or.inr ?_
  unfold zxp at h ⊢
  rwa[getD_set_ne false (fun e2=>e e2.symm)]at h
theorem wpI.any {md:Region.Mode} (Inv:Array Bool→Act→World→Prop)
 (hstep:∀l a w i o,Inv l a w→Shut md ops l→¬zxp l i→ops[i]? =some o→(∀e∈o.after,Region.binds md e=true→zxp l e.on)→∀K:Act→World→Prop,Hid (∀b v,Inv (l.setIfInBounds i true) b v→K b v)→if Region.wanted o (yielded ops a.tmps)=true then o.wp P a w K Q else K (a.put o.dst undef) w)
 (hdone:∀l a w,Inv l a w→(∀i,i<ops.size→zxp l i)→Q .normal a w) (hacyc:∀ (l:Array Bool),l.size=ops.size→Region.ready md ops l= []→∀i,i<ops.size→zxp l i):
 ∀ (k:Nat) (l:Array Bool) (a:Act) (w:World),Inv l a w→Shut md ops l→l.size=ops.size→zwt l.toList≤k→wpAny P md ops Q k l a w
 | 0,l,a,w,hI,hsh,hs,hc=>by
   have hall:∀i,i<ops.size→zxp l i:=fun i hi=>by
    by_cases h:zxp l i
    ·exact h
    ·exfalso
     have hi2:i<l.toList.length:=by rw[Array.length_toList,hs];exact hi
     have hb:l.toList[i]? =some false:=by
      rw[Array.getElem?_toList]
      have h1:l[i]? =some (l[i]'(by rw[hs];exact hi)):=Array.getElem?_eq_getElem _
      unfold zxp at h
      rw[Array.getD_eq_getD_getElem?,h1]at h
      rw[h1]
      simpa using h
     have:=zgs hb
     omega
   refine⟨?_,hdone l a w hI hall⟩
   cases hr:Region.ready md ops l with
   | nil=>rfl
   | cons j t=>
     exfalso
     have hj:j∈Region.ready md ops l:=by rw[hr];simp
     obtain⟨h1,o,ho,_⟩:=mem_ready.1 hj
     exact zqg (hall j (Array.getElem?_eq_some_iff.1 ho).1) h1
 | k+1,l,a,w,hI,hsh,hs,hc=>by
   refine⟨fun hr=>hdone l a w hI (hacyc l hs hr),fun i hi=> ?_⟩
   obtain⟨h1,o,ho,hall⟩:=mem_ready.1 hi
   have hil:i<ops.size:=(Array.getElem?_eq_some_iff.1 ho).1
   have hrec:∀b v,Inv (l.setIfInBounds i true) b v→wpAny P md ops Q k (l.setIfInBounds i true) b v:=fun b v hb=>by
    refine wpI.any Inv hstep hdone hacyc k _ b v hb (hsh.set hi) (by simp[hs]) ?_
    have hb:l.toList[i]? =some false:=by
     rw[Array.getElem?_toList]
     have h2:l[i]? =some (l[i]'(by rw[hs];exact hil)):=Array.getElem?_eq_getElem _
     rw[Array.getD_eq_getD_getElem?,h2]at h1
     rw[h2]
     simpa using h1
    have:=zgs hb
    rw[Array.toList_setIfInBounds]
    omega
   have h2:=hstep l a w i o hI hsh (fun hd=>zqg hd h1) ho hall _ (zH hrec)
   unfold wpOp
   simp only[ho]
   by_cases hw:Region.wanted o (yielded ops a.tmps)=true
   ·rw[if_pos hw]at h2 ⊢
    exact Or.inl h2
   ·rw[if_neg hw]at h2 ⊢
    exact h2
def backB (md:Region.Mode) (ops:Array Oper):Bool:=
 (List.range ops.size).all fun j=>match ops[j]? with
  | none=>true
  | some o=>o.after.all fun e=> !Region.binds md e || decide (e.on<j)
theorem back_done {md:Region.Mode} (hb:backB md ops=true) (l:Array Bool) (hs:l.size=ops.size) (hr:Region.ready md ops l= []):∀ (n i:Nat),i<n→i<ops.size→zxp l i
 | 0,i,h,_=>by omega
 | n+1,i,h,hi=>by
   by_cases hd:zxp l i
   ·exact hd
   ·exfalso
    have ho:ops[i]? =some (ops[i]'hi):=Array.getElem?_eq_getElem _
    have hm:i∈Region.ready md ops l:=by
     refine mem_ready.2 ⟨?_,_,ho,fun e he hbe=> ?_⟩
     ·have h2:l[i]? =some (l[i]'(by rw[hs];exact hi)):=Array.getElem?_eq_getElem _
      unfold zxp at hd
      rw[Array.getD_eq_getD_getElem?,h2]at hd ⊢
      simpa using hd
     ·have h1:=List.all_eq_true.1 hb i (List.mem_range.2 hi)
      rw[ho]at h1
      have h3:=Array.all_eq_true_iff_forall_mem.1 h1 e he
      rw[hbe]at h3
      have h4:e.on<i:=by simpa using h3
      exact back_done hb l hs hr n e.on (by omega) (by omega)
    rw[hr]at hm
    cases hm
theorem cntF_rep (n:Nat):zwt (List.replicate n false)=n:=by simp[zwt]
theorem wpI.start {id:Nat} {a:Act} {w:World} (Inv:Array Bool→Act→World→Prop) (hm:P.follows .mixedOrders=true) (hb:backB .any ops=true) (h0:Inv (Array.replicate ops.size false) a w.drew)
 (hstep:∀l a w i o,Inv l a w→Shut .any ops l→¬zxp l i→ops[i]? =some o→(∀e∈o.after,Region.binds .any e=true→zxp l e.on)→∀K:Act→World→Prop,Hid (∀b v,Inv (l.setIfInBounds i true) b v→K b v)→if Region.wanted o (yielded ops a.tmps)=true then o.wp P a w K Q else K (a.put o.dst undef) w)
 (hdone:∀l a w,Inv l a w→(∀i,i<ops.size→zxp l i)→Q .normal a w):(Code.region id ops true).wp P Q a w:=
 wp_region_any hm (wpI.any Inv hstep hdone (fun l hs hr i hi=>back_done hb l hs hr (i+1) i (Nat.lt_succ_self i) hi) _ _ _ _ h0 (fun j o ho hl=>by rw[Array.getD_eq_getD_getElem?,Array.getElem?_replicate]at hl;split at hl<;>simp at hl) (by simp) (by rw[Array.toList_replicate,cntF_rep];exact Nat.le_refl _))
end
end Go.Proofs.YtlpdkbmmbdfoiaaGreat
