/-
  Elimination row by row. No program is named here.
-/
import Derived.Test.YtlpdkbmmbdfoiaaGreatHSz1
import Derived.Test.YtlpdkbmmbdfoiaaGreatHSa2
set_option linter.unusedVariables false
set_option linter.unusedSimpArgs false
namespace Go.Proofs.YtlpdkbmmbdfoiaaGreat
set_option maxHeartbeats 800000
open Go.RowKit
theorem lnumber_zero (w:World):Calls Tryz.prog 218 #[.int .i64 0] w (RF1 w 0):=by
 go_enter Tryz.func218,Tryz.ntmps218
 go_wp2_with (go_at_call 67;(with_reducible refine(make_01 _).mono ?_);rintro e w1 ⟨v,rfl,hv,hb1⟩
              obtain⟨t9,x9,y9,rfl,⟨a1,l91,k1,rfl,_⟩,⟨a2,l92,k2,rfl,_⟩⟩:=hv.isF
              have hr:=((C3.new w 38 (.bool false) (.slice none 0 0) (.slice none 0 0)).belowS hb1).allocS (.cells #[.bool t9, .slice a1 l91 k1, .slice a2 l92 k2] 38)
              have hv2:=hv.below (zca w1 (.cells #[.bool t9, .slice a1 l91 k1, .slice a2 l92 k2] 38))
              have hb2:=zaa (zaa (zca w (.cells #[.bool false, .slice none 0 0, .slice none 0 0] 38)) hb1) (zca w1 (.cells #[.bool t9, .slice a1 l91 k1, .slice a2 l92 k2] 38))
              have HR:=zH hr
              obtain⟨_,d1,d2,d3,d4,d5,d6⟩:=hr)
 refine zab rfl rfl Tryz.aggF Tryz.sizeF (HR.out.set _ _ _) rfl ?_
 exact⟨_,rfl,hv2.set3 HR.out (fun z=>by simp) (fun z=>by simp) _ _ _,zga hb2 (Nat.le_refl _) _ _ _⟩
theorem lnumber_one (w:World):Calls Tryz.prog 218 #[.int .i64 1] w (RF1 w 1):=by
 go_enter Tryz.func218,Tryz.ntmps218
 go_wp2_with (go_at_call 67;(with_reducible refine(make_11 _).mono ?_);rintro e w1 ⟨v,rfl,hv,hb1⟩
              obtain⟨t9,x9,y9,rfl,⟨a1,l91,k1,rfl,_⟩,⟨a2,l92,k2,rfl,_⟩⟩:=hv.isF
              have hr:=((C3.new w 38 (.bool false) (.slice none 0 0) (.slice none 0 0)).belowS hb1).allocS (.cells #[.bool t9, .slice a1 l91 k1, .slice a2 l92 k2] 38)
              have hv2:=hv.below (zca w1 (.cells #[.bool t9, .slice a1 l91 k1, .slice a2 l92 k2] 38))
              have hb2:=zaa (zaa (zca w (.cells #[.bool false, .slice none 0 0, .slice none 0 0] 38)) hb1) (zca w1 (.cells #[.bool t9, .slice a1 l91 k1, .slice a2 l92 k2] 38))
              have HR:=zH hr
              obtain⟨_,d1,d2,d3,d4,d5,d6⟩:=hr)
 refine zab rfl rfl Tryz.aggF Tryz.sizeF (HR.out.set _ _ _) rfl ?_
 exact⟨_,rfl,hv2.set3 HR.out (fun z=>by simp) (fun z=>by simp) _ _ _,zga hb2 (Nat.le_refl _) _ _ _⟩
theorem lzero_any (v:Value) (s:Bool) (n d:Nat) (w:World) (h:zdc w v s n d):
 Calls Tryz.prog 220 #[v] w fun e w'=>e= .returned (.bool (decide (n=0)))∧Below w.heap.size w w':=by
 obtain⟨a,b,rfl,ha,hb⟩:=h
 go_enter Tryz.func220,Tryz.ntmps220
 go_wp2_with (go_at_call 156;refine(zva _ n _ (ha.below (zca _ _))).mono ?_;rintro e w' ⟨rfl,rfl⟩)
 go_ret
 exact⟨by rw[←beq_bits];rfl,zca _ _⟩
theorem zci (v:Value) (q:Rat) (w:World) (h:zqa w v q):
 Calls Tryz.prog 220 #[v] w fun e w'=>e= .returned (.bool (decide (q=0)))∧Below w.heap.size w w':=by
 refine(lzero_any v _ _ _ w h.raw).mono ?_
 rintro e w' ⟨rfl,hb⟩
 refine⟨?_,hb⟩
 have :(q.num.natAbs=0)↔q=0:=⟨fun h=>Rat.num_eq_zero.1 (by omega),fun h=>by rw[h];rfl⟩
 by_cases hq:q=0
 ·rw[decide_eq_true hq,decide_eq_true (this.2 hq)]
 ·rw[decide_eq_false hq,decide_eq_false (fun h=>hq (this.1 h))]
theorem zgh (p v:Value) (q:Rat) (w:World) (h:zqa w v q):
 Calls Tryz.prog 206 #[p,v, .int .i64 0] w (RF1 w q):=by
 obtain⟨s,x,y,rfl,⟨a1,l1,k1,rfl,_⟩,⟨a2,l2,k2,rfl,_⟩⟩:=id h.isF
 obtain⟨bx,bz,hbw⟩:=zcf w 38 (.bool s) (.slice a1 l1 k1) (.slice a2 l2 k2) (.bool false) (.slice none 0 0) (.slice none 0 0) _ rfl
 have HF:=zH (h.below hbw)
 have HZ:=zH bz
 have HB:=zH hbw
 obtain⟨_,x0,x1,x2,f0,f1,f2⟩:=bx
 obtain⟨_,z0,z1,z2,g0,g1,g2⟩:=bz
 clear h hbw
 go_enter Tryz.func206,Tryz.ntmps206
 go_upto_region 1 with fail
 generalize (w.alloc (.cells #[.bool s, .slice a1 l1 k1, .slice a2 l2 k2] 38)).alloc (.cells #[.bool false, .slice none 0 0, .slice none 0 0] 38)=W at *
 go_wp2_with fail
 refine zab rfl rfl Tryz.aggF Tryz.sizeF (HZ.out.set _ _ _) rfl ?_
 exact⟨_,rfl,HF.out.set3 HZ.out (fun z=>by simp) (fun z=>by simp) _ _ _,zga HB.out (by omega) _ _ _⟩
end Go.Proofs.YtlpdkbmmbdfoiaaGreat
namespace Go.Proofs.YtlpdkbmmbdfoiaaGreat
def zui (A:Mx) (i r k e:Nat) (f:Rat):Mx:=fun a b=>if a=i∧k≤b∧b<e then A i b-f*A r b else A a b
theorem redTo_start (A:Mx) (i r k:Nat) (f:Rat):zui A i r k k f=A:=by
 funext a b;unfold zui;rw[if_neg (by omega)]
theorem redTo_at {A:Mx} {i r k e:Nat} {f:Rat}:zui A i r k e f i e=A i e:=by unfold zui;rw[if_neg (by omega)]
theorem redTo_row {A:Mx} {i r k e b:Nat} {f:Rat} (h:i≠r):zui A i r k e f r b=A r b:=by unfold zui;rw[if_neg (fun h2=>h h2.1.symm)]
def zzg (below:Bool) (A:Mx) (r k e:Nat):Mx:=fun a b=>if a<e then znj below A r k a b else A a b
theorem redP_zero (below:Bool) (A:Mx) (r k:Nat):zzg below A r k 0=A:=by
 funext a b;unfold zzg;rw[if_neg (by omega)]
theorem zpk {below:Bool} {A:Mx} {r k e:Nat}:zzg below A r k e e=A e:=by
 funext b;unfold zzg;rw[if_neg (by omega)]
theorem zpg {below:Bool} {A:Mx} {r k a:Nat} (h:¬act below A r k a):znj below A r k a=A a:=by
 funext b;unfold znj;rw[if_neg (fun h2=>h h2.1)]
theorem zuj {below:Bool} {A:Mx} {r k e:Nat}:zzg below A r k e r=A r:=by
 funext b;unfold zzg;split
 ·rw[zpg (fun h=>h.1 rfl)]
 ·rfl
theorem zsh {below:Bool} {A:Mx} {r k e:Nat} (h:¬act below A r k e):zzg below A r k (e+1)=zzg below A r k e:=by
 funext a b;unfold zzg
 by_cases h1:a=e
 ·subst h1;rw[if_pos (by omega),if_neg (by omega),zpg h]
 ·by_cases h2:a<e
  ·rw[if_pos (by omega),if_pos h2]
  ·rw[if_neg (by omega),if_neg h2]
theorem redP_red {below:Bool} {A:Mx} {r k e m:Nat} (h:act below A r k e):∀a b,b<m→zui (zzg below A r k e) e r k m (A e k/A r k) a b=zzg below A r k (e+1) a b:=by
 intro a b hb
 unfold zui
 rw[zpk,zuj]
 unfold zzg
 by_cases h1:a=e
 ·subst h1
  unfold znj
  by_cases h2:k≤b
  ·rw[if_pos ⟨rfl,h2,hb⟩,if_pos (by omega),if_pos ⟨h,h2⟩]
  ·rw[if_neg (by omega),if_neg (by omega),if_pos (by omega),if_neg (by omega)]
 ·rw[if_neg (by omega)]
  by_cases h2:a<e
  ·rw[if_pos h2,if_pos (show a<e+1 by omega)]
  ·rw[if_neg h2,if_neg (show ¬a<e+1 by omega)]
theorem redP_all {below:Bool} {A:Mx} {r k n:Nat}:∀a b,a<n→zzg below A r k n a b=znj below A r k a b:=by
 intro a b h;unfold zzg;rw[if_pos h]
def slimE (below:Bool) (n m wd:Nat) (A:Mx):Prop:=∀k,k≤wd→(∀a b,a<n→b<m→fits ((elim below n A k).A a b))∧fits (elim below n A k).d∧(k<wd→fitE below n m k (elim below n A k))
end Go.Proofs.YtlpdkbmmbdfoiaaGreat
