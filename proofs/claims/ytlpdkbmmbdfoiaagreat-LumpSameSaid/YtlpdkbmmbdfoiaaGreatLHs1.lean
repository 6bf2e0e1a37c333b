/-
  Regular systems of equations, solved by linear.Solve.
-/
import Derived.Test.YtlpdkbmmbdfoiaaGreatLKp
import Derived.Test.YtlpdkbmmbdfoiaaGreatLGw2
import Derived.Test.YtlpdkbmmbdfoiaaGreatLOuw
import Derived.Test.YtlpdkbmmbdfoiaaGreatLMath6b
import Derived.Test.YtlpdkbmmbdfoiaaGreatLMu1
set_option linter.unusedVariables false
set_option linter.unusedSimpArgs false
namespace Go.Proofs.YtlpdkbmmbdfoiaaGreat
set_option maxHeartbeats 3200000
open Go.RowKit
def Rch (c:RC):Nat→Prop:=Clo c.rates.length (fun j=>0<(qs c.start).getD j 0) (fun i j=>0<rq c i j)
def Ftl (c:RC):Nat→Prop:=Clo c.rates.length (fun j=>c.lost.getD j false=true) (fun i j=>0<rq c j i)
def MarksV (w0:World) (n:Nat) (P:Nat→Prop) (e:Ending) (w:World):Prop:=∃ (v:Value) (bs:List Bool),e= .returned v∧zcm w v bs∧bs.length=n∧(∀j,j<n→(bs.getD j false=true↔P j))∧Below w0.heap.size w0 w
def stB (l:List Rat) (n k:Nat):List Bool:=(List.range n).map fun j=>decide (j<k)&&decide (0<l.getD j 0)
theorem zgu (l:List Rat) (n k:Nat):(stB l n k).length=n:=by simp[stB]
theorem stB_get (l:List Rat) (n k j:Nat) (hj:j<n):(stB l n k).getD j false=(decide (j<k)&&decide (0<l.getD j 0)):=by
 unfold stB
 rw[List.getD_eq_getElem?_getD,List.getElem?_map,List.getElem?_range hj]
 rfl
theorem stB_zero (l:List Rat) (n:Nat):(stB l n 0).map Value.bool=List.replicate n (.bool false):=by
 refine List.ext_getElem (by simp[stB]) fun i h1 h2=> ?_
 simp[stB]
theorem stB_set (l:List Rat) (n k:Nat) (hk:k<n):((stB l n k).map Value.bool).set k (.bool (decide (0<l.getD k 0)))=(stB l n (k+1)).map Value.bool:=by
 refine List.ext_getElem (by simp[stB]) fun i h1 h2=> ?_
 have hi:i<n:=by simpa [stB]using h2
 by_cases e:i=k
 ·subst e
  rw[List.getElem_set_self]
  simp[stB]
 ·rw[List.getElem_set_ne (fun e'=>e e'.symm)]
  simp only[stB,List.getElem_map,List.getElem_range]
  congr 2
  rw[decide_eq_decide]
  omega
set_option maxRecDepth 100000 in
theorem zyr (va:Value) (c:RC) (w:World) (ha:zdq w va c) (hv:zzp c):Calls Tryz.prog 111 #[va] w (MarksV w c.rates.length (Rch c)):=by
 obtain⟨i0,hi,hz0,hz1,hz2⟩:=info_parts Tryz.infoBool
 have hM:=make_E2 (P:=Tryz.prog) 26 4 i0 _ 1 Tryz.underlying26 hi hz0 hz1 hz2 (by decide) rfl
 clear hi hz0 hz1 hz2
 have hlen:c.rates.length=c.start.length:=hv.2.2.2.1
 have hlost:c.lost.length=c.start.length:=hv.2.2.1
 have h128:c.start.length≤128:=hv.2.1
 obtain⟨rv,sv,lv,rfl,hr,hs,hl⟩:=id ha
 obtain⟨ra,rn,rk,rfl,_⟩:=id hr.sl
 obtain⟨sa,sn,sk,rfl,_⟩:=id hs.sl
 obtain⟨la,ln,lk,rfl,_⟩:=id (zhc.sl hl)
 have HBW:=zH (zca w (.cells #[.slice ra rn rk, .slice sa sn sk, .slice la ln lk] 28))
 have HC:=zH (C3.new w 28 (.slice ra rn rk) (.slice sa sn sk) (.slice la ln lk))
 have HMR:=zH (hr.below HBW.out)
 have HMS:=zH (hs.below HBW.out)
 have HML:=zH (hl.below HBW.out)
 have HA:=zH (ha.below HBW.out)
 have HV:=zH hv
 have hsn:sn=c.start.length:=hs.len
 have ssn:=hs.sl
 have HN:Hid (sn=c.rates.length):=zH (by omega)
 have HST:=zH hsn
 have hn128:sn≤128:=by omega
 clear hr hs hl ha hv hlen hlost h128 hsn
 go_enter Tryz.func111,Tryz.ntmps111
 go_upto_region 1 with fail
 obtain⟨b,hb⟩:∃b,w.heap.size=b:=⟨_,rfl⟩
 rw[hb]at HC ⊢
 generalize w.alloc (.cells #[.slice ra rn rk, .slice sa sn sk, .slice la ln lk] 28)=W1 at *
 obtain⟨_,c0,c1,c2,_,_,_⟩:=HC.out
 go_wp2_with (refine hM W1 rfl _ _ rfl sn rfl rfl hn128 ?_;intro vL w6 hO6 hb6
              have HO6:=zH hO6
              have HB6:=zH hb6
              have slL:=hO6.sl
              have lnL:slen vL=sn:=by have h:=hO6.len;rwa[List.length_replicate]at h
              have c0:=zba hb6 c0
              have c1:=zba hb6 c1
              have c2:=zba hb6 c2
              clear hO6 hb6)
 clear hM
 go_loopg [13] (sn) (fun g u13 wr=>∃ (k:Nat),k≤sn∧g=sn-k∧u13= .int .i64 k∧zce wr 4 W1.heap.size vL ((stB (qs c.start) sn k).map Value.bool)∧Below W1.heap.size W1 wr)
 case atStart=>exact⟨0,Nat.zero_le _,rfl,rfl,by rw[stB_zero];exact HO6.out,HB6.out⟩
 case round=>
  obtain⟨k,hkn,hg,rfl,ho,hbr⟩:=hrel
  obtain⟨w2,hw2⟩:∃w2,w2=wr:=⟨_,rfl⟩
  subst hw2
  have HG:=zH hg
  have HO:=zH ho
  have HBR:=zH hbr
  clear hg HO6 HB6 c0 c1 c2
  by_cases hkl:k<sn
  ·have hk2:k<c.start.length:=by rw[←HST.out];exact hkl
   obtain⟨ea,eb,g1,g2,g3,g4,g5⟩:=(HMS.out.below hbr).at' k hk2
   have HXO:Hid ((!(c.start[k]'hk2).neg&& !decide ((c.start[k]'hk2).n=0))=decide (0<(qs c.start).getD k 0)):=zH (by
    have h2:k<(qs c.start).length:=by rw[zgq];exact hk2
    rw[List.getD_eq_getElem?_getD,List.getElem?_eq_getElem h2,Option.getD_some,zqt _ _ hk2]
    exact RF.above_dec (HV.out.2.2.2.2.1.ok _ (List.getElem_mem hk2)) (HV.out.2.2.2.2.1.1 _ (List.getElem_mem hk2)).2.1)
   have HSB:=zH (stB_set (qs c.start) sn k hkl)
   obtain⟨P,hP⟩:∃P,decide (0<(qs c.start).getD k 0)=P:=⟨_,rfl⟩
   rw[hP]at HXO HSB
   obtain⟨x,hxe⟩:∃x,c.start[k]'hk2=x:=⟨_,rfl⟩
   rw[hxe]at g1 g4 g5 HXO
   obtain⟨ea1,ea2,ea3,rfl,_⟩:=g4.slen.1
   obtain⟨eb1,eb2,eb3,rfl,_⟩:=g5.slen.1
   have hb8:=zca w2 (.cells #[.bool x.neg, .slice ea1 ea2 ea3, .slice eb1 eb2 eb3] 38)
   have HXN:Hid (zdc (w2.alloc (.cells #[.bool x.neg, .slice ea1 ea2 ea3, .slice eb1 eb2 eb3] 38)) (.agg #[.bool x.neg, .slice ea1 ea2 ea3, .slice eb1 eb2 eb3]) x.neg x.n x.d):=zH (zdc.below ⟨_,_,rfl,g4,g5⟩ hb8)
   have j1:(0:Int)≤(k:Int):=by omega
   have j2:(k:Int)<(sn:Nat):=by omega
   clear g4 g5 hxe ho hbr hP
   go_wp2_with (go_at_call 145;(with_reducible refine(zer _ _ _ _ _ HXN.out).mono ?_);rw[HXO.out];rintro e21 w21 ⟨rfl,hb21⟩
                have hbb:=zaa hb8 hb21
                have ho3:=HO.out.below hbb
                have hkl3:k<((stB (qs c.start) sn k).map Value.bool).length:=(by rw[List.length_map,zgu];exact hkl)
                have d0:=ho3.cell k hkl3
                have f0:=ho3.frozen k hkl3
                have HS4:=zH (ho3.set k hkl3 (.bool P))
                have HB4:=zH (zfa HBR.out hbb HBR.out.size)
                clear ho3 hbb hb21)
   go_roundg (sn- (k+1))
   case measure=>(have:=HG.out;omega)
   case rel=>exact⟨k+1,by omega,rfl,by go_num,by rw[←HSB.out];exact HS4.out.1,HB4.out.trans HS4.out.2⟩
  ·obtain rfl:k=sn:=by omega
   have HGR:Hid (∀w0,w0=w2→Calls Tryz.prog 171 #[vL, .func (.func 172) #[] #[.pointer (some ⟨b,0,none⟩)]] w0 (fun e w'=>e= .returned (.tuple #[])∧(∃bs':List Bool,zce w' 4 W1.heap.size vL (bs'.map Value.bool)∧bs'.length=c.rates.length∧∀j,j<c.rates.length→(bs'.getD j false=true↔Rch c j))∧Below W1.heap.size W1 w')):=zH (fun w0 h=>by
    subst h
    exact grow_reach b c (fun j=>0<(qs c.start).getD j 0) vL (stB (qs c.start) k k) W1 w0 _ _ _ HC.out HMR.out HV.out HO.out HBR.out (by rw[zgu];exact HN.out) (fun j hj=>by
     rw[←HN.out]at hj
     rw[stB_get _ _ _ _ hj,decide_eq_true hj,Bool.true_and]
     exact decide_eq_true_iff))
   clear ho hbr
   go_wp2_with (go_at_call 171;(with_reducible refine(HGR.out _ rfl).mono ?_);rintro e22 w22 ⟨rfl,⟨bs',ho',hl',hm'⟩,hb22⟩)
   go_ret
   exact⟨_,bs',rfl,ho'.bools,hl',hm',HBW.out.trans (hb22.mono (by have:=HBW.out.size;omega))⟩
set_option maxRecDepth 100000 in
theorem fatal_any (va:Value) (c:RC) (w:World) (ha:zdq w va c) (hv:zzp c):Calls Tryz.prog 112 #[va] w (MarksV w c.rates.length (Ftl c)):=by
 obtain⟨i0,hi,hz0,hz1,hz2⟩:=info_parts Tryz.infoBool
 have hlen:c.rates.length=c.start.length:=hv.2.2.2.1
 have hlost:c.lost.length=c.start.length:=hv.2.2.1
 have h128:c.start.length≤128:=hv.2.1
 obtain⟨rv,sv,lv,rfl,hr,hs,hl⟩:=id ha
 obtain⟨ra,rn,rk,rfl,_⟩:=id hr.sl
 obtain⟨sa,sn,sk,rfl,_⟩:=id hs.sl
 obtain⟨la,ln,lk,rfl,_⟩:=id (zhc.sl hl)
 have HBW:=zH (zca w (.cells #[.slice ra rn rk, .slice sa sn sk, .slice la ln lk] 28))
 have HC:=zH (C3.new w 28 (.slice ra rn rk) (.slice sa sn sk) (.slice la ln lk))
 have HMR:=zH (hr.below HBW.out)
 have HMS:=zH (hs.below HBW.out)
 have HML:=zH (hl.below HBW.out)
 have HA:=zH (ha.below HBW.out)
 have HV:=zH hv
 have hll:ln=c.lost.length:=by have h:=hl.len;exact h
 have HLL:Hid (c.lost.length=c.rates.length):=zH (by omega)
 have sll:=zhc.sl hl
 have hl128:c.lost.length≤128:=by omega
 clear hr hs ha hv hlen hlost h128 hll
 go_enter Tryz.func112,Tryz.ntmps112
 go_upto_region 1 with fail
 obtain⟨b,hb⟩:∃b,w.heap.size=b:=⟨_,rfl⟩
 rw[hb]at HC ⊢
 generalize w.alloc (.cells #[.slice ra rn rk, .slice sa sn sk, .slice la ln lk] 28)=W1 at *
 obtain⟨_,c0,c1,c2,_,_,_⟩:=HC.out
 have hml:=HML.out
 have hml_len:slen (.slice la ln lk)=(c.lost.map Value.bool).length:=hml.len.trans (by simp)
 go_wp2_with (first
  |(at_builtin;refine zie W1 rfl _ _ 26 rfl W1.heap.size 4 i0 (.bool false) 1 Tryz.underlying26 hi hz0 hz1 hz2 rfl _ [] rfl (zce.nil _ _ _) _ rfl sll (c.lost.map Value.bool) hml_len (fun j hj=>hml.cell j hj) (fun u hu=>by obtain⟨y,_,rfl⟩:=List.mem_map.1 hu;rfl) (by simp[maxLen];omega) (by simp;omega) (Nat.le_refl _) ?_;intro vL w6 hO6 hg6 hb6
    have HO6:=zH hO6
    have HB6:=zH hb6
    clear hO6 hg6 hb6)
  |(go_at_call 171;(with_reducible refine(grow_fatal b c (fun j=>c.lost.getD j false=true) vL c.lost W1 _ _ _ _ HC.out HMR.out HV.out (by have h:=HO6.out;rwa[List.nil_append]at h) HB6.out HLL.out (fun j hj=>Iff.rfl)).mono ?_);rintro e22 w22 ⟨rfl,⟨bs',ho',hl',hm'⟩,hb22⟩))
 go_ret
 exact⟨_,bs',rfl,ho'.bools,hl',hm',HBW.out.trans (hb22.mono (by have:=HBW.out.size;omega))⟩
theorem zyv {P:Program} (t e:TypeId) (i:TypeInfo) (ht:P.underlying t=some (.slice e)) (hi:P.info? e=some i) (hz:i.zero=some (.int .i64 0)) (hsize:i.size=1) (hby:i.bytes=8)
 (w0:World) {ops:Array Oper} {rest:List Oper} {o:Oper} {a:Act} {Q:Exit→Act→World→Prop} (hgd:o.guard=none) (s x:Operand)
 (ho:o.op= .call { callee:= .builtin .append,args:=#[s,x],argTypes:=#[t,t] }) (B:Nat) (e':TypeId)
 (v:Value) (es:List Int) (hs:a.eval s=v) (hown:zce w0 e B v (es.map (Value.int .i64))) (y:Int) (hxe:a.eval x= .slice (some ⟨w0.heap.size,0,none⟩) 1 1) (hn:es.length≤1000) (hbase:B≤w0.heap.size)
 (h:∀v' w',zce w' e B v' ((es++ [y]).map (Value.int .i64))→Below B w0 w'→wpList P ops Q rest (a.put o.dst v') w'):wpList P ops Q (o::rest) a (w0.alloc (.cells #[.int .i64 y] e')):=by
 refine zsj w0 hgd s x t ho B e e' i (.int .i64 0) 8 ht hi hz hsize hby rfl v (es.map (Value.int .i64)) hs hown (.int .i64 y) hxe rfl (by simp[maxLen];omega) (by simp;omega) hbase ?_
 intro v' w' h2 h4
 exact h v' w' (by rw[List.map_append];exact h2) h4
theorem zce.intsV {w:World} {e:TypeId} {B:Nat} {v:Value} {l:List Int} (h:zce w e B v (l.map (Value.int .i64))):zgv w v l:=
 ⟨h.sl,by rw[h.len],fun j hj=>h.cell j hj⟩
structure zvq (c:RC) (l:List Nat):Prop where
 mem:∀i,i∈l↔i<c.rates.length∧Rch c i∧Ftl c i∧c.lost.getD i false=false
 sorted:l.Pairwise (· < ·)
theorem zjt :∀ {l:List Nat} {lo n:Nat},l.Pairwise (· < ·)→(∀x,x∈l→lo≤x∧x<n)→l.length≤n-lo
 | [],lo,n,_,_=>Nat.zero_le _
 | x::l,lo,n,h,hm=>by
   rw[List.pairwise_cons]at h
   have h1:=hm x (by simp)
   have h2:=zjt (lo:=x+1) (n:=n) h.2 fun y hy=>⟨h.1 y hy,(hm y (by simp[hy])).2⟩
   rw[List.length_cons]
   omega
def alv (a b l:List Bool) (k:Nat):List Nat:=(List.range k).filter fun i=>a.getD i false&&(b.getD i false&& !l.getD i false)
theorem alv_succ (a b l:List Bool) (k:Nat):alv a b l (k+1)=if (a.getD k false&&(b.getD k false&& !l.getD k false))=true then alv a b l k++ [k]else alv a b l k:=by
 unfold alv
 rw[List.range_succ,List.filter_append]
 by_cases h:(a.getD k false&&(b.getD k false&& !l.getD k false))=true
 ·rw[if_pos h];simp only[List.filter_cons,h,if_true,List.filter_nil]
 ·rw[if_neg h];simp only[List.filter_cons,h,List.filter_nil];simp
theorem alv_le (a b l:List Bool) (k:Nat):(alv a b l k).length≤k:=by
 unfold alv
 exact Nat.le_trans (List.length_filter_le _ _) (by rw[List.length_range];exact Nat.le_refl _)
theorem alv_alive {c:RC} {a b:List Bool} (ha:∀j,j<c.rates.length→(a.getD j false=true↔Rch c j)) (hb:∀j,j<c.rates.length→(b.getD j false=true↔Ftl c j)):zvq c (alv a b c.lost c.rates.length):=by
 refine⟨fun i=> ?_,?_⟩
 ·unfold alv
  rw[List.mem_filter,List.mem_range]
  constructor
  ·rintro⟨h1,h2⟩
   simp only[Bool.and_eq_true,Bool.not_eq_true']at h2
   exact⟨h1,(ha i h1).1 h2.1,(hb i h1).1 h2.2.1,h2.2.2⟩
  ·rintro⟨h1,h2,h3,h4⟩
   refine⟨h1,?_⟩
   rw[(ha i h1).2 h2,(hb i h1).2 h3,h4];rfl
 ·unfold alv
  exact List.Pairwise.filter _ List.pairwise_lt_range
def RAlive (w0:World) (c:RC) (e:Ending) (w:World):Prop:=∃v l,e= .returned v∧zgv w v (ztr l)∧zvq c l∧Below w0.heap.size w0 w
set_option maxRecDepth 100000 in
set_option maxHeartbeats 3200000 in
theorem zzv (va:Value) (c:RC) (w:World) (ha:zdq w va c) (hv:zzp c):Calls Tryz.prog 108 #[va] w (RAlive w c):=by
 obtain⟨i0,hi,hz0,hz1,hz2⟩:=info_parts Tryz.infoInt
 have hA1:=zyv (P:=Tryz.prog) 29 3 i0 Tryz.underlying29 hi hz0 hz1 hz2
 clear hi hz0 hz1 hz2
 have hlen:c.rates.length=c.start.length:=hv.2.2.2.1
 have hlost:c.lost.length=c.start.length:=hv.2.2.1
 have h128:c.start.length≤128:=hv.2.1
 obtain⟨rv,sv,lv,rfl,hr,hs,hl⟩:=id ha
 obtain⟨ra,rn,rk,rfl,_⟩:=id hr.sl
 obtain⟨sa,sn,sk,rfl,_⟩:=id hs.sl
 obtain⟨la,ln,lk,rfl,_⟩:=id (zhc.sl hl)
 have HBW:=zH (zca w (.cells #[.slice ra rn rk, .slice sa sn sk, .slice la ln lk] 28))
 have HC:=zH (C3.new w 28 (.slice ra rn rk) (.slice sa sn sk) (.slice la ln lk))
 have HML:=zH (hl.below HBW.out)
 have HA:=zH (ha.below HBW.out)
 have HV:=zH hv
 have hsn:sn=c.start.length:=hs.len
 have hll:ln=c.lost.length:=by have h:=hl.len;exact h
 have HN:Hid (sn=c.rates.length):=zH (by omega)
 have HLL:Hid (c.lost.length=sn):=zH (by omega)
 have sll:=zhc.sl hl
 obtain rfl:ln=sn:=by omega
 have hn128:ln≤128:=by omega
 clear hr hs hl ha hv hlen hlost h128 hsn hll
 go_enter Tryz.func108,Tryz.ntmps108
 go_upto_region 2 with fail
 obtain⟨b,hb⟩:∃b,w.heap.size=b:=⟨_,rfl⟩
 rw[hb]at HC ⊢
 generalize w.alloc (.cells #[.slice ra rn rk, .slice sa ln sk, .slice la ln lk] 28)=W1 at *
 obtain⟨_,c0,c1,c2,_,_,_⟩:=HC.out
 have S0:=zH (And.intro c0 (And.intro c1 c2))
 clear c0 c1 c2
 go_region_held3 (fun w'=>w'.cell? ⟨b,0,none⟩=some (.slice ra rn rk)∧w'.cell? ⟨b,1,none⟩=some (.slice sa ln sk)∧w'.cell? ⟨b,2,none⟩=some (.slice la ln lk)∧Below W1.heap.size W1 w') (first
  | with_reducible exact kp3a S0.out (zja _)
  | with_reducible exact kp3w (by assumption) (by assumption)) (first
  |(go_at_call 111;(with_reducible refine(zyr _ c _ (HA.out.below (kp3c (by assumption))) HV.out).mono ?_);rintro e4 w4 ⟨v4,bs4,rfl,hv4,hl4,hm4,hb4⟩)
  |(go_at_call 112;(with_reducible refine(fatal_any _ c _ (HA.out.below (kp3c (by assumption))) HV.out).mono ?_);rintro e5 w5 ⟨v5,bs5,rfl,hv5,hl5,hm5,hb5⟩))
 have hE:=kp3c (by assumption)
 have HV4:=zH (hv4.below hb5)
 have HV5:=zH hv5
 have HE:=zH hE
 have HC5:=zH (HC.out.belowS hE)
 have HL5:=zH (HML.out.below hE)
 have s4:=zhc.sl hv4
 have s5:=zhc.sl hv5
 have l4:slen v4=ln:=by rw[hv4.len,hl4,HN.out]
 have l5:slen v5=ln:=by rw[hv5.len,hl5,HN.out]
 have HLN4:Hid (bs4.length=ln):=zH (by rw[hl4,HN.out])
 have HLN5:Hid (bs5.length=ln):=zH (by rw[hl5,HN.out])
 have HAL:Hid (zvq c (alv bs4 bs5 c.lost ln)):=zH (by have h:=alv_alive hm4 hm5;rwa[←HN.out]at h)
 obtain⟨_,c0,c1,c2,_,_,_⟩:=HC5.out
 clear hv4 hv5 hE hl4 hl5 hm4 hm5 hb4 hb5
 go_wp2_with fail
 go_loopg [3,14] (ln) (fun g u3 u14 wr=>∃ (k:Nat),k≤ln∧g=ln-k∧u14= .int .i64 k∧zce wr 3 w5.heap.size u3 ((ztr (alv bs4 bs5 c.lost k)).map (Value.int .i64))∧Below w5.heap.size w5 wr)
 case atStart=>exact⟨0,Nat.zero_le _,rfl,rfl,zce.nil _ _ _,Below.refl _ _⟩
 case round=>
  obtain⟨k,hkn,hg,rfl,ho,hbr⟩:=hrel
  obtain⟨w2,hw2⟩:∃w2,w2=wr:=⟨_,rfl⟩
  subst hw2
  have HG:=zH hg
  have HO:=zH ho
  have HBR:=zH hbr
  have so:=ho.sl
  clear hg c0 c1 c2
  by_cases hkl:k<ln
  ·have hk4:k<bs4.length:=by rw[HLN4.out];exact hkl
   have hk5:k<bs5.length:=by rw[HLN5.out];exact hkl
   have hkL:k<c.lost.length:=by rw[HLL.out];exact hkl
   have q4:=(HV4.out.below hbr).at' k hk4
   have q5:=(HV5.out.below hbr).at' k hk5
   have qL:=(HL5.out.below hbr).at' k hkL
   obtain⟨_,c0,c1,c2,_,_,_⟩:=HC5.out.belowS hbr
   have i1:(0:Int)≤(k:Int):=by omega
   have i2:(k:Int)<(ln:Nat):=by omega
   have HMS:=zH (alv_succ bs4 bs5 c.lost k)
   have hml:(ztr (alv bs4 bs5 c.lost k)).length≤1000:=by rw[zbq];have:=alv_le bs4 bs5 c.lost k;omega
   have hsz:=hbr.size
   rw[zrn hk4,zrn hk5,zrn hkL]at HMS
   obtain⟨x4,hx4⟩:∃x,bs4[k]'hk4=x:=⟨_,rfl⟩
   obtain⟨x5,hx5⟩:∃x,bs5[k]'hk5=x:=⟨_,rfl⟩
   obtain⟨xL,hxL⟩:∃x,c.lost[k]'hkL=x:=⟨_,rfl⟩
   rw[hx4]at q4
   rw[hx5]at q5
   rw[hxL]at qL
   rw[hx4,hx5,hxL]at HMS
   clear hx4 hx5 hxL ho hbr
   cases x4 with
   | false=>
     have HMN:=zH (HMS.out.trans (if_neg (by simp)))
     go_wp2_with fail
     go_roundg (ln- (k+1))
     case measure=>(have:=HG.out;omega)
     case rel=>exact⟨k+1,by omega,rfl,by go_num,by rw[HMN.out];exact HO.out,HBR.out⟩
   | true=>
     cases x5 with
     | false=>
       have HMN:=zH (HMS.out.trans (if_neg (by simp)))
       go_wp2_with fail
       go_roundg (ln- (k+1))
       case measure=>(have:=HG.out;omega)
       case rel=>exact⟨k+1,by omega,rfl,by go_num,by rw[HMN.out];exact HO.out,HBR.out⟩
     | true=>
       cases xL with
       | true=>
         have HMN:=zH (HMS.out.trans (if_neg (by simp)))
         go_wp2_with fail
         go_roundg (ln- (k+1))
         case measure=>(have:=HG.out;omega)
         case rel=>exact⟨k+1,by omega,rfl,by go_num,by rw[HMN.out];exact HO.out,HBR.out⟩
       | false=>
         have HMN:=zH (HMS.out.trans (if_pos (by simp)))
         go_wp2_with (first
          |(at_builtin;refine hA1 w2 rfl _ _ rfl w5.heap.size _ u3 (ztr (alv bs4 bs5 c.lost k)) rfl HO.out k rfl hml hsz ?_;intro v' w1 hq1 hb1
            have sv1:=hq1.sl
            have HQ1:=zH hq1
            have HB1:=zH (HBR.out.trans hb1)
            clear hq1 hb1))
         go_roundg (ln- (k+1))
         case measure=>(have:=HG.out;omega)
         case rel=>exact⟨k+1,by omega,rfl,by go_num,by rw[HMN.out,←zmr];exact HQ1.out,HB1.out⟩
  ·obtain rfl:k=ln:=by omega
   clear ho hbr
   go_wp2_with fail
   go_ret
   exact⟨_,_,rfl,HO.out.intsV,HAL.out,zaa (zaa HBW.out HE.out) HBR.out⟩
end Go.Proofs.YtlpdkbmmbdfoiaaGreat
namespace Go.Proofs.YtlpdkbmmbdfoiaaGreat
def ziq (c:RC) (s:Nat):Prop:=c.lost.getD s false=true
theorem rq_nn {c:RC} (hv:zzp c) {i j:Nat} (hi:i<c.rates.length) (hj:j<c.rates.length):0≤rq c i j:=by
 obtain⟨h,e,hp⟩:=zcw hv hi hj
 rw[e]
 exact Rat.not_lt.1 hp.2
theorem zcv {c:RC} (hv:zzp c):MC c.rates.length (rq c) (ziq c) where
 d:=fun i hi=>by
  obtain⟨h,e,_⟩:=zcw hv hi hi
  have h6:=(hv.2.2.2.2.2.1 i _ (List.getElem?_eq_getElem hi)).2.1 _ (List.getElem?_eq_getElem h)
  rw[e]
  exact Rat.num_eq_zero.1 h6
 nn:=fun i j hi hj=>rq_nn hv hi hj
 ab:=fun i j hi hj hl=>by
  obtain⟨h,e,_⟩:=zcw hv hi hj
  have hil:i<c.lost.length:=by have:=hv.2.2.1;have:=hv.2.2.2.1;omega
  have h6:=(hv.2.2.2.2.2.1 i _ (List.getElem?_eq_getElem hi)).2.2 (by
   unfold ziq at hl
   rw[zrn hil]at hl
   rw[List.getElem?_eq_getElem hil,hl])
  rw[e]
  exact zoz h6 _ (List.mem_map.2 ⟨_,List.getElem_mem h,rfl⟩)
theorem out_sg {c:RC} (hv:zzp c) {s:Nat} (hs:s<c.rates.length):zgg (zaq c s)=sg c.rates.length (rq c s):=by
 obtain⟨h2,h3,h4,h5⟩:=hv.row (i:=s) (by have:=hv.2.2.1;have:=hv.2.2.2.1;omega)
 have hl:(zaq c s).length=c.rates.length:=by rw[h5,zgq];have:=hv.2.2.1;have:=hv.2.2.2.1;omega
 rw[zup,hl]
 rfl
theorem dtB_pos {B:Nat} (hB:0<B):∀n,0<dtB n B
 | 0=>Nat.one_pos
 | n+1=>Nat.mul_pos (Nat.succ_pos n) (Nat.mul_pos hB (dtB_pos hB n))
theorem zun {B k n:Nat} (hB:0<B) (h:k≤n):dtB k B≤dtB n B:=by
 induction n with
 | zero=>obtain rfl:k=0:=by omega
         exact Nat.le_refl _
 | succ n ih=>
   by_cases hk:k=n+1
   ·subst hk;exact Nat.le_refl _
   ·refine Nat.le_trans (ih (by omega)) ?_
    rw[dtB]
    have h1:dtB n B≤B*dtB n B:=Nat.le_mul_of_pos_left _ hB
    exact Nat.le_trans h1 (Nat.le_mul_of_pos_left _ (Nat.succ_pos n))
theorem over.div2 {F G N K:Nat} {p q:Rat} (hF:F≠0) (hG:G≠0) (hp:over F N p) (hq:over G K q) (h0:q≠0):∃H,H≠0∧H≤F*K∧over H (N*G) (p/q):=by
 obtain⟨z,rfl,hz⟩:=hq
 have hz0:z≠0:=over.zero' (B:=K) hG h0
 have h1:=over.quo hG (over.one hG) hz0
 have h2:=over.mul hp h1
 refine⟨F*z.natAbs,Nat.mul_ne_zero hF (by omega),Nat.mul_le_mul_left _ hz,?_⟩
 have e:p/mkRat z G=p*(1/mkRat z G):=by rw[Rat.div_def,Rat.div_def,Rat.one_mul]
 rw[e];exact h2
theorem over.sub2 {F G N K:Nat} {p q:Rat} (hF:F≠0) (hG:G≠0) (hp:over F N p) (hq:over G K q):over (F*G) (N*G+K*F) (p-q):=by
 have h1:=over.scale hG hp
 have h2:=over.scale hF hq
 rw[Nat.mul_comm G F]at h2
 exact over.sub (Nat.mul_ne_zero hF hG) h1 h2
theorem inv_gen {n D B:Nat} {A:Mx} (hD:D≠0) (hDB:D≤B) (hA:∀i j,i<n→j<n→over D B (A i j)) (h:dt n A≠0):∃E,E≠0∧E≤dtB n B∧∀i j,i<n→j<n→over E (dtB n B) (zoj n A i j):=by
 obtain⟨z,hz,hzb⟩:=dt_over (n:=n) (D:=D) (m:=B) hD hA
 have hDn:D^n≠0:=Nat.ne_of_gt (Nat.pow_pos (Nat.pos_of_ne_zero hD))
 have hz0:z≠0:=over.zero' (B:=0) hDn (hz▸h)
 refine⟨z.natAbs,by omega,hzb,fun i j hi hj=> ?_⟩
 rw[inv_cramer h hi hj,hz]
 refine over.quo hDn (dt_over hD fun a b ha hb=> ?_) hz0
 unfold zoc;split
 ·unfold zkf;split
  ·exact(over.one hD).mono hDB
  ·exact over.zero _ _
 ·exact hA a b ha hb
theorem sol_gen {n D B:Nat} {A:Mx} (hD:D≠0) (hDB:D≤B) (hA:∀i j,i<n→j<n→over D B (A i j)) (h:dt n A≠0) {F K:Nat} (hF:F≠0) {x b:Nat→Rat} (hb:∀i,i<n→over F K (b i)) (hx:∀i,i<n→sg n (fun j=>A i j*x j)=b i):
 ∃E,E≠0∧E≤dtB n B∧∀i,i<n→over (E*F) (n*(dtB n B*K)) (x i):=by
 obtain⟨E,hE,hEb,hI⟩:=inv_gen hD hDB hA h
 refine⟨E,hE,hEb,fun i hi=> ?_⟩
 rw[zqi h hx hi]
 exact over.sg (Nat.mul_ne_zero hE hF) fun l hl=>over.mul (hI i l hi hl) (hb l hl)
theorem zbk {k:Nat} {P:Mx} (h:dt k P≠0) {c y:Nat→Rat} (hy:∀j,j<k→y j=sg k fun l=>c l*P l j) {l:Nat} (hl:l<k):c l=sg k fun j=>y j*zoj k P j l:=by
 have e1:sg k (fun j=>y j*zoj k P j l)=sg k (fun j=>sg k (fun t=>c t*(P t j*zoj k P j l))):=zma fun j hj=>by
  rw[hy j hj,←znc]
  exact zma fun t _=>Rat.mul_assoc _ _ _
 rw[e1,zdn]
 have e2:sg k (fun t=>sg k (fun j=>c t*(P t j*zoj k P j l)))=sg k (fun t=>if l=t then c t else 0):=zma fun t ht=>by
  rw[zcb,inv_right h ht hl]
  unfold zkf
  by_cases h5:t=l
  ·subst h5;rw[if_pos rfl,if_pos rfl,Rat.mul_one]
  ·rw[if_neg h5,if_neg (fun e=>h5 e.symm),Rat.mul_zero]
 rw[e2,zfd hl]
def bW (n D B β:Nat):Nat:=B*(β*D)+n*(n*(B*β)*B)
def bN (n D B β:Nat):Nat:=bW n D B β+n*(bW n D B β*β*B)
def bD (D β:Nat):Nat:=D*β*D*(β*D)
def zbm (n m k D β W:Nat) (M X:Mx):Prop:=
 (∃σ:Nat→Nat,(∀i,i<n→σ i<n)∧(∀i,k≤i→i<n→∃c:Nat→Rat,∀j,j<m→X i j=M (σ i) j-sg k fun l=>c l*M (σ l) j)∧∀i,i<k→∃c:Nat→Rat,∀j,j<m→X i j=sg k fun l=>c l*M (σ l) j)∧
  ∀i,i<k→∃G,G≠0∧G≤D*β*D∧over G W (X i i)
theorem zbm.start (n m D β W:Nat) (M:Mx):zbm n m 0 D β W M M:=
 ⟨⟨id,fun i h=>h,fun i _ _=>⟨fun _=>0,fun j _=>by simp[sg];grind⟩,fun i h=>by omega⟩,fun i h=>by omega⟩
section
variable {n m k D B β:Nat} {M X:Mx}
theorem zbm.sizes (hD:D≠0) (hDB:D≤B) (hk:k≤n) (hnm:n≤m) (hβ:dtB k B≤β) (hM:overT n m D B M) (h:zbm n m k D β (bW n D B β) M X)
 (h0:∀i j,i<n→j<k→i≠j→X i j=0) (hp:∀j,j<k→X j j≠0):
 (∀i j,k≤i→i<n→j<m→∃G,G≠0∧G≤D*β*D∧over G (bW n D B β) (X i j))∧∀i j,i<k→j<m→∃G,G≠0∧G≤bD D β∧over G (n*(bW n D B β*β*B)) (X i j):=by
 obtain⟨⟨σ,hσ,h1,h2⟩,h3⟩:=h
 obtain⟨P,hP⟩:∃P:Mx,P=fun i l=>M (σ i) l:=⟨_,rfl⟩
 have hPM:∀i l,P i l=M (σ i) l:=fun i l=>by rw[hP]
 obtain⟨C,hC⟩:=Classical.axiomOfChoice (r:=fun(i:Nat) (c:Nat→Rat)=>i<k→∀j,j<m→X i j=sg k fun l=>c l*M (σ l) j) (fun i=>by
  by_cases hi:i<k
  ·obtain⟨c,hc⟩:=h2 i hi;exact⟨c,fun _=>hc⟩
  ·exact⟨fun _=>0,fun h=>absurd h hi⟩)
 have hdP:dt k P≠0:=by
  have e1:dt k (ztd k C P)=dt k X:=zcd fun a b ha hb=>by
   rw[hC a ha b (by omega)]
   unfold ztd
   exact zma fun l _=>by rw[hPM]
  rw[dt_mul]at e1
  intro hz
  rw[hz,Rat.mul_zero]at e1
  rw[zql (fun i j hi hj hij=>h0 i j (by omega) hj hij)]at e1
  exact pr_ne hp e1.symm
 obtain⟨E,hE,hEb,hI⟩:=inv_gen hD hDB (fun i j hi hj=>by rw[hPM];exact hM _ _ (hσ i (by omega)) (by omega)) hdP
 have hEβ:E≤β:=Nat.le_trans hEb hβ
 have hI':∀i j,i<k→j<k→over E β (zoj k P i j):=fun i j hi hj=>(hI i j hi hj).mono hβ
 have hDED:D*E*D≠0:=Nat.mul_ne_zero (Nat.mul_ne_zero hD hE) hD
 refine⟨fun i j hki hi hj=> ?_,fun i j hi hj=> ?_⟩
 ·obtain⟨c,hc⟩:=h1 i hki hi
  have hy:∀j,j<k→M (σ i) j=sg k fun l=>c l*P l j:=fun j hj=>by
   have:=hc j (by omega)
   rw[h0 i j hi hj (by omega)]at this
   have e:(sg k fun l=>c l*P l j)=sg k fun l=>c l*M (σ l) j:=zma fun l _=>by rw[hPM]
   rw[e];grind
  have hcl:∀l,l<k→over (D*E) (k*(B*β)) (c l):=fun l hl=>by
   rw[zbk hdP hy hl]
   exact over.sg (Nat.mul_ne_zero hD hE) fun j hj=>over.mul (hM _ _ (hσ i hi) (by omega)) (hI' j l hj hl)
  refine⟨D*E*D,hDED,Nat.mul_le_mul_right _ (Nat.mul_le_mul_left _ hEβ),?_⟩
  rw[hc j hj]
  have hs:over (D*E*D) (k*(k*(B*β)*B)) (sg k fun l=>c l*M (σ l) j):=over.sg hDED fun l hl=>over.mul (hcl l hl) (hM _ _ (hσ l (by omega)) hj)
  have hm:over (D*E*D) (B*(E*D)) (M (σ i) j):=by
   have:=over.scale (m:=E*D) (Nat.mul_ne_zero hE hD) (hM _ _ (hσ i hi) hj)
   rwa[←Nat.mul_assoc]at this
  refine(over.sub hDED hm hs).mono ?_
  unfold bW
  refine Nat.add_le_add (Nat.mul_le_mul_left _ (Nat.mul_le_mul_right _ hEβ)) (Nat.mul_le_mul hk (Nat.mul_le_mul_right _ (Nat.mul_le_mul_right _ hk)))
 ·obtain⟨G,hG,hGb,hd⟩:=h3 i hi
  have hy:∀j,j<k→X i j=sg k fun l=>C i l*P l j:=fun j hj=>by
   rw[hC i hi j (by omega)]
   exact zma fun l _=>by rw[hPM]
  have hcl:∀l,l<k→over (G*E) (bW n D B β*β) (C i l):=fun l hl=>by
   rw[zbk hdP hy hl]
   have e:(sg k fun j=>X i j*zoj k P j l)=sg k fun j=>if i=j then X i i*zoj k P i l else 0:=zma fun j hj=>by
    by_cases h5:i=j
    ·subst h5;rw[if_pos rfl]
    ·rw[if_neg h5,h0 i j (by omega) hj h5,Rat.zero_mul]
   rw[e,zfd (f:=fun _=>X i i*zoj k P i l) hi]
   exact over.mul hd (hI' i l hi hl)
  have hGE:G*E*D≠0:=Nat.mul_ne_zero (Nat.mul_ne_zero hG hE) hD
  refine⟨G*E*D,hGE,?_,?_⟩
  ·unfold bD
   rw[Nat.mul_assoc]
   exact Nat.mul_le_mul hGb (Nat.mul_le_mul_right _ hEβ)
  ·rw[hC i hi j hj]
   refine(over.sg hGE fun l hl=>over.mul (hcl l hl) (hM _ _ (hσ l (by omega)) hj)).mono ?_
   exact Nat.mul_le_mul_right _ hk
theorem zbm.step (hk:k<n) (hnm:n≤m) {W a:Nat} (ha:k≤a) (han:a<n) (h:zbm n m k D β W M X) (hz:∀i j,k≤i→i<n→j<k→X i j=0)
 (hpiv:∃G,G≠0∧G≤D*β*D∧over G W (X a k)):zbm n m (k+1) D β W M (znj false (swp X k a) k k):=by
 obtain⟨⟨σ,hσ,h1,h2⟩,h3⟩:=h
 obtain⟨τ,hτ⟩:∃τ:Nat→Nat,τ=fun i=>if i=k then σ a else if i=a then σ k else σ i:=⟨_,rfl⟩
 have t0:∀l,l<k→τ l=σ l:=fun l hl=>by rw[hτ];simp only;rw[if_neg (by omega),if_neg (by omega)]
 have tk:τ k=σ a:=by rw[hτ];dsimp only;rw[if_pos rfl]
 have tn:∀i,i<n→τ i<n:=fun i hi=>by
  rw[hτ];simp only;split
  ·exact hσ a han
  ·split
   ·exact hσ k hk
   ·exact hσ i hi
 have zr:∀i,k≤i→i<n→∃c:Nat→Rat,∀j,j<m→swp X k a i j=M (τ i) j-sg k fun l=>c l*M (τ l) j:=fun i hki hi=>by
  have cg:∀ (c:Nat→Rat) (j:Nat),(sg k fun l=>c l*M (σ l) j)=sg k fun l=>c l*M (τ l) j:=fun c j=>zma fun l hl=>by rw[t0 l hl]
  by_cases e1:i=k
  ·obtain⟨c,hc⟩:=h1 a ha han
   refine⟨c,fun j hj=> ?_⟩
   subst e1
   rw[tk,←cg,←hc j hj]
   unfold swp;rw[if_pos rfl]
  ·by_cases e2:i=a
   ·obtain⟨c,hc⟩:=h1 k (Nat.le_refl _) hk
    refine⟨c,fun j hj=> ?_⟩
    have e3:τ i=σ k:=by rw[hτ];simp only;rw[if_neg e1,if_pos e2]
    rw[e3,←cg,←hc j hj]
    unfold swp;rw[if_neg e1,if_pos e2]
   ·obtain⟨c,hc⟩:=h1 i hki hi
    refine⟨c,fun j hj=> ?_⟩
    have e3:τ i=σ i:=by rw[hτ];simp only;rw[if_neg e1,if_neg e2]
    rw[e3,←cg,←hc j hj]
    unfold swp;rw[if_neg e1,if_neg e2]
 have zl:∀i,i<k→swp X k a i=X i:=fun i hi=>by unfold swp;rw[if_neg (by omega),if_neg (by omega)]
 have zz:∀j,j<k→swp X k a k j=0:=fun j hj=>by
  unfold swp;rw[if_pos rfl];exact hz a j ha han hj
 obtain⟨ck,hck⟩:=zr k (Nat.le_refl _) hk
 generalize hZ:swp X k a=Z at *
 have yr:∀i,∃f:Rat,∀j,znj false Z k k i j=Z i j-f*Z k j:=fun i=>by
  by_cases hact:act false Z k k i
  ·refine⟨Z i k/Z k k,fun j=> ?_⟩
   unfold znj
   by_cases hj:k≤j
   ·rw[if_pos ⟨hact,hj⟩]
   ·rw[if_neg (fun h=>hj h.2),zz j (by omega),Rat.mul_zero];grind
  ·exact⟨0,fun j=>by rw[zpg hact];grind⟩
 have yk:∀j,znj false Z k k k j=Z k j:=fun j=>by rw[zpg (fun h=>h.1 rfl)]
 refine⟨⟨τ,tn,fun i hki hi=> ?_,fun i hik=> ?_⟩,fun i hik=> ?_⟩
 ·obtain⟨c,hc⟩:=zr i (by omega) hi
  obtain⟨f,hf⟩:=yr i
  refine⟨fun l=>if l<k then c l-f*ck l else f,fun j hj=> ?_⟩
  have e1:(sg k fun l=>(if l<k then c l-f*ck l else f)*M (τ l) j)=sg k (fun l=>c l*M (τ l) j)+(-f)*sg k fun l=>ck l*M (τ l) j:=by
   rw[←zcb,←zvd]
   exact zma fun l hl=>by rw[if_pos hl];grind
  rw[hf j,hc j hj,hck j hj,sg,e1]
  dsimp only
  rw[if_neg (Nat.lt_irrefl k)]
  grind
 ·by_cases e1:i=k
  ·subst e1
   refine⟨fun l=>if l<i then -ck l else 1,fun j hj=> ?_⟩
   have e2:(sg i fun l=>(if l<i then -ck l else 1)*M (τ l) j)=(-1)*sg i fun l=>ck l*M (τ l) j:=by
    rw[←zcb]
    exact zma fun l hl=>by rw[if_pos hl];grind
   rw[yk,hck j hj,sg,e2]
   dsimp only
   rw[if_neg (Nat.lt_irrefl i)]
   grind
  ·obtain⟨c,hc⟩:=h2 i (by omega)
   obtain⟨f,hf⟩:=yr i
   refine⟨fun l=>if l<k then c l+f*ck l else -f,fun j hj=> ?_⟩
   have e2:(sg k fun l=>(if l<k then c l+f*ck l else -f)*M (τ l) j)=sg k (fun l=>c l*M (τ l) j)+f*sg k fun l=>ck l*M (τ l) j:=by
    rw[←zcb,←zvd]
    exact zma fun l hl=>by rw[if_pos hl];grind
   have e3:(sg k fun l=>c l*M (σ l) j)=sg k fun l=>c l*M (τ l) j:=zma fun l hl=>by rw[t0 l hl]
   rw[hf j,zl i (by omega),hc j hj,hck j hj,sg,e2,e3]
   dsimp only
   rw[if_neg (Nat.lt_irrefl k)]
   grind
 ·by_cases e1:i=k
  ·subst e1
   rw[yk]
   have e2:Z i i=X a i:=by rw[←hZ];unfold swp;rw[if_pos rfl]
   rw[e2];exact hpiv
  ·have e2:znj false Z k k i i=X i i:=by
    unfold znj
    rw[if_neg (fun h=>by omega),zl i (by omega)]
   rw[e2];exact h3 i (by omega)
theorem zpl (hD:D≠0) (hDB:D≤B) (hnm:n≤m) (hβ:dtB n B≤β) (hM:overT n m D B M) (h:(elim false n M n).r=n):∀k,k≤n→zbm n m k D β (bW n D B β) M (elim false n M k).A
 | 0,_=>zbm.start n m D β _ M
 | k+1,hk=>by
   have ih:=zpl hD hDB hnm hβ hM h k (by omega)
   obtain⟨u1,u2,_⟩:=zad h k (by omega)
   have hrk:=zol h (k:=k) (by omega)
   have hrk1:=zol h hk
   have hl:=zyd false n M k
   rw[elim,zzf]at hrk1
   rw[elim,zzf]
   have hlt:pvt n k (elim false n M k)<n:=by
    by_cases h5:pvt n k (elim false n M k)<n
    ·exact h5
    ·rw[if_neg h5,hrk]at hrk1;omega
   rw[if_pos hlt]
   have hge:=zvk n k (elim false n M k)
   have hB:0<B:=by omega
   have hs:=ih.sizes hD hDB (by omega) hnm (Nat.le_trans (zun hB (by omega)) hβ) hM u1 u2
   dsimp only
   rw[hrk]at hge hl ⊢
   exact ih.step hk hnm hge hlt (fun i j h1 h2 h3=>hl i j h1 h2 h3) (hs.1 _ _ hge hlt (by omega))
theorem sgs_pm (n:Nat) (M:Mx) (k:Nat):sgs false n M k=1∨sgs false n M k= -1:=by
 have h:=sgs_sq false n M k
 by_cases h1:sgs false n M k=1
 ·exact Or.inl h1
 ·right
  have h2:sgs false n M k-1≠0:=fun e=>h1 (by grind)
  have h3:(sgs false n M k-1)*(sgs false n M k+1)=0:=by grind
  rcases Rat.mul_eq_zero.1 h3 with h4 | h4
  ·exact absurd h4 h2
  ·grind
theorem over_pr {G0 W:Nat} {f:Nat→Rat}:∀k,(∀i,i<k→∃G,G≠0∧G≤G0∧over G W (f i))→∃G,G≠0∧G≤G0^k∧over G (W^k) (pr k f)
 | 0,_=>⟨1,by decide,Nat.le_refl _,⟨1,by show(1:Rat)=mkRat 1 1;decide+kernel,Nat.le_refl _⟩⟩
 | k+1,h=>by
   obtain⟨G,h1,h2,h3⟩:=over_pr k fun i hi=>h i (by omega)
   obtain⟨H,g1,g2,g3⟩:=h k (Nat.lt_succ_self k)
   rw[pr,Nat.pow_succ,Nat.pow_succ]
   exact⟨G*H,Nat.mul_ne_zero h1 g1,Nat.mul_le_mul h2 g2,over.mul h3 g3⟩
structure slimB (n D B β:Nat):Prop where
 b:dtB n B≤β
 d0:D≠0
 db:D≤B
 den:bD D β*(bD D β*bN n D B β*bD D β)<2^4096
 num:bN n D B β*(bD D β*bN n D B β*bD D β)+bN n D B β*bD D β*bN n D B β*bD D β<2^4096
 pw1:(D*β*D)^n<2^4096
 pw2:(bW n D B β)^n<2^4096
theorem slimE_minor (hx:slimB n D B β) (hn:0<n) (hnm:n≤m) (hM:overT n m D B M) (h:(elim false n M n).r=n):slimE false n m n M:=by
 have hD:=hx.d0
 have hDB:=hx.db
 have hB:0<B:=by omega
 have hβ0:0<β:=Nat.lt_of_lt_of_le (dtB_pos hB n) hx.b
 have hD1:0<D:=by omega
 have hBD:D*β*D≤bD D β:=Nat.le_mul_of_pos_right _ (Nat.mul_pos hβ0 hD1)
 have hBD1:0<bD D β:=Nat.lt_of_lt_of_le (Nat.mul_pos (Nat.mul_pos hD1 hβ0) hD1) hBD
 have hW1:0<bW n D B β:=by unfold bW;exact Nat.lt_of_lt_of_le (Nat.mul_pos hB (Nat.mul_pos hβ0 hD1)) (Nat.le_add_right _ _)
 have hWN:bW n D B β≤bN n D B β:=Nat.le_add_right _ _
 have hN1:0<bN n D B β:=Nat.lt_of_lt_of_le hW1 hWN
 have hden:=hx.den
 have hnum:=hx.num
 have el:∀k,k≤n→(∀i j,i<n→j<m→∃G,G≠0∧G≤bD D β∧over G (bN n D B β) ((elim false n M k).A i j)):=fun k hk i j hi hj=>by
  have hc:=zpl hD hDB hnm hx.b hM h k hk
  obtain⟨u1,u2,_⟩:=zad h k hk
  obtain⟨s1,s2⟩:=hc.sizes hD hDB hk hnm (Nat.le_trans (zun hB hk) hx.b) hM u1 u2
  rcases Nat.lt_or_ge i k with h1 | h1
  ·obtain⟨G,g1,g2,g3⟩:=s2 i j h1 hj
   exact⟨G,g1,g2,g3.mono (Nat.le_add_left _ _)⟩
  ·obtain⟨G,g1,g2,g3⟩:=s1 i j h1 hi hj
   exact⟨G,g1,Nat.le_trans g2 hBD,g3.mono hWN⟩
 have hP1:bD D β≤bD D β*bN n D B β*bD D β:=Nat.le_mul_of_pos_left _ (Nat.mul_pos hBD1 hN1)
 have hP2:bD D β≤bD D β*(bD D β*bN n D B β*bD D β):=Nat.le_mul_of_pos_right _ (Nat.lt_of_lt_of_le hBD1 hP1)
 have hP3:bN n D B β≤bN n D B β*(bD D β*bN n D B β*bD D β):=Nat.le_mul_of_pos_right _ (Nat.lt_of_lt_of_le hBD1 hP1)
 have dd:∀k,k≤n→∃G,G≠0∧G<2^4096∧∃K,K<2^4096∧over G K (elim false n M k).d:=fun k hk=>by
  have hc:=zpl hD hDB hnm hx.b hM h k hk
  obtain⟨u1,u2,u3⟩:=zad h k hk
  obtain⟨G,g1,g2,g3⟩:=over_pr k hc.2
  have q1:(D*β*D)^k≤(D*β*D)^n:=Nat.pow_le_pow_right (Nat.mul_pos (Nat.mul_pos hD1 hβ0) hD1) hk
  have q2:(bW n D B β)^k≤(bW n D B β)^n:=Nat.pow_le_pow_right hW1 hk
  refine⟨G,g1,Nat.lt_of_le_of_lt (Nat.le_trans g2 q1) hx.pw1,_,Nat.lt_of_le_of_lt q2 hx.pw2,?_⟩
  rw[u3]
  rcases sgs_pm n M k with e | e
  ·rw[e,Rat.one_mul];exact g3
  ·rw[e,show(-1:Rat)*pr k (fun i=>(elim false n M k).A i i)= -pr k (fun i=>(elim false n M k).A i i)by grind];exact over.neg g3
 intro k hk
 refine⟨fun a b ha hb=> ?_,?_,fun hkn=> ?_⟩
 ·obtain⟨G,g1,g2,g3⟩:=el k hk a b ha hb
  exact g3.fits g1 (by omega) (by omega)
 ·obtain⟨G,g1,g2,K,g3,g4⟩:=dd k hk
  exact g4.fits g1 g3 g2
 ·intro hlt
  have hrk:=zol h (k:=k) hk
  have hge:=zvk n k (elim false n M k)
  have hpn:=zfw (zue false n M k).1 hlt
  refine⟨?_,?_,fun i hi hact=> ?_⟩
  ·obtain⟨G,g1,g2,K,g3,g4⟩:=dd k hk
   exact(over.neg g4).fits g1 g3 g2
  ·obtain⟨G,g1,g2,K,g3,g4⟩:=dd (k+1) hkn
   rw[elim,zzf,if_pos hlt]at g4
   exact g4.fits g1 g3 g2
  ·rw[hrk]at hge hact ⊢
   have hz:∀a b,a<n→b<m→∃G,G≠0∧G≤bD D β∧over G (bN n D B β) (swp (elim false n M k).A k (pvt n k (elim false n M k)) a b):=fun a b ha hb=>by
    unfold swp;split
    ·exact el k hk _ b hlt hb
    ·split
     ·exact el k hk _ b hkn hb
     ·exact el k hk _ b ha hb
   have hkk:swp (elim false n M k).A k (pvt n k (elim false n M k)) k k≠0:=by rw[zek];exact hpn
   generalize swp (elim false n M k).A k (pvt n k (elim false n M k))=Z at *
   obtain⟨G1,a1,a2,a3⟩:=hz i k hi (by omega)
   obtain⟨G2,b1,b2,b3⟩:=hz k k hkn (by omega)
   obtain⟨H,c1,c2,c3⟩:=over.div2 a1 b1 a3 b3 hkk
   have hH:H≤bD D β*bN n D B β:=Nat.le_trans c2 (Nat.mul_le_mul_right _ a2)
   have hHn:bN n D B β*G2≤bN n D B β*bD D β:=Nat.mul_le_mul_left _ b2
   have r1:bD D β*bN n D B β≤bD D β*bN n D B β*bD D β:=Nat.le_mul_of_pos_right _ hBD1
   have r2:bD D β*bN n D B β*bD D β≤bD D β*(bD D β*bN n D B β*bD D β):=Nat.le_mul_of_pos_left _ hBD1
   have r3:bN n D B β*bD D β≤bN n D B β*bD D β*bN n D B β:=Nat.le_mul_of_pos_right _ hN1
   have r4:bN n D B β*bD D β*bN n D B β≤bN n D B β*bD D β*bN n D B β*bD D β:=Nat.le_mul_of_pos_right _ hBD1
   refine⟨c3.fits c1 (by omega) (by omega),fun j hj hkj=> ?_⟩
   obtain⟨G3,d1,d2,d3⟩:=hz k j hkn hj
   obtain⟨G4,e1,e2,e3⟩:=hz i j hi hj
   have m1:=over.mul c3 d3
   have hm1:H*G3≠0:=Nat.mul_ne_zero c1 d1
   have hm2:H*G3≤bD D β*bN n D B β*bD D β:=Nat.mul_le_mul hH d2
   have hm3:bN n D B β*G2*bN n D B β≤bN n D B β*bD D β*bN n D B β:=Nat.mul_le_mul_right _ hHn
   refine⟨m1.fits hm1 (by omega) (by omega),?_⟩
   have m2:=over.sub2 e1 hm1 e3 m1
   have hm4:G4*(H*G3)≤bD D β*(bD D β*bN n D B β*bD D β):=Nat.mul_le_mul e2 hm2
   have hm5:bN n D B β*(H*G3)≤bN n D B β*(bD D β*bN n D B β*bD D β):=Nat.mul_le_mul_left _ hm2
   have hm6:bN n D B β*G2*bN n D B β*G4≤bN n D B β*bD D β*bN n D B β*bD D β:=Nat.mul_le_mul hm3 e2
   exact m2.fits (Nat.mul_ne_zero e1 hm1) (by omega) (by omega)
end
end Go.Proofs.YtlpdkbmmbdfoiaaGreat
namespace Go.Proofs.YtlpdkbmmbdfoiaaGreat
open Go.RowKit
structure SysOk (n:Nat) (A:Mx) (b x:Nat→Rat):Prop where
 n1:1≤n
 n24:n≤24
 fA:zau n n A
 fb:∀i,i<n→fits (b i)
 fx:∀i,i<n→fits (x i)
 w:wtF n n A+wts (zib n b)≤1900
 reg:dt n A≠0
 slim:slimE false n (n+1) n (zpa n A (fun i _=>b i))
 eq:∀i,i<n→sg n (fun j=>A i j*x j)=b i
theorem solve_reg (va vb:Value) (n:Nat) (A:Mx) (b x:Nat→Rat) (w:World) (ha:zam w va n n A) (hb:zbb w vb (zib n b)) (h:SysOk n A b x):
 Calls Tryz.prog 98 #[va,vb] w fun e w'=>∃v,e= .returned (.tuple #[v, .int .i64 0])∧zbb w' v (zib n x)∧Below w.heap.size w w'∧w.heap.size≤(base v).block:=by
 have hr:=zff (B:=fun i _=>b i) h.reg
 have hx:∀i,i<n→solE n A b i=x i:=fun i hi=>by
  rw[zqi h.reg (sol_eq hr) hi,zqi h.reg h.eq hi]
 refine(solve_own va vb n A b w ha hb h.n1 h.n24 h.fA h.fb (by have:=h.w;unfold zmu;rw[zvh];exact this) h.slim (fun i hi _=> ?_)).mono fun e w' ⟨v,er,he,hbl,_,h2⟩=> ?_
 ·exact⟨(zad hr n (Nat.le_refl _)).2.1 i hi,by have h3:=hx i hi;unfold solE at h3;rw[h3];exact h.fx i hi⟩
 ·obtain⟨rfl,h4,h5⟩:=h2 (by rw[hr];exact Nat.lt_irrefl n)
  refine⟨v,he,?_,hbl,h5⟩
  have e1:zib n (fun i=>(elim false n (zpa n A fun i _=>b i) n).A i n/(elim false n (zpa n A fun i _=>b i) n).A i i)=zib n x:=zdf fun i hi=>hx i hi
  rw[e1]at h4
  exact h4
end Go.Proofs.YtlpdkbmmbdfoiaaGreat
