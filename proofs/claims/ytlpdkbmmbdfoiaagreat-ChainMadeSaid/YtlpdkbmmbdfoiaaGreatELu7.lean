/- Lemmas. -/
import Derived.Test.YtlpdkbmmbdfoiaaGreatEGw2
set_option linter.unusedVariables false
set_option linter.unusedSimpArgs false
namespace Go.Proofs.YtlpdkbmmbdfoiaaGreat
set_option maxHeartbeats 3200000
open Go.RowKit
def Rch (c:RC):Nat->Prop:=Clo c.rates.length (fun j=>0<(qs c.start).getD j 0) (fun i j=>0<rq c i j)
def Ftl (c:RC):Nat->Prop:=Clo c.rates.length (fun j=>c.lost.getD j false=true) (fun i j=>0<rq c j i)
def MarksV (w0:World) (n:Nat) (P:Nat->Prop) (e:Ending) (w:World):Prop:=∃ (v:Value) (bs:List Bool),e= .returned v/\zcm w v bs/\bs.length=n/\(∀j,j<n->(bs.getD j false=true↔P j))/\Below w0.heap.size w0 w
def stB (l:List Rat) (n k:Nat):List Bool:=(List.range n).map fun j=>decide (j<k)&&decide (0<l.getD j 0)
theorem zgu (l:List Rat) (n k:Nat):(stB l n k).length=n:=by simp[stB]
theorem stB_get (l:List Rat) (n k j:Nat) (hj:j<n):(stB l n k).getD j false=(decide (j<k)&&decide (0<l.getD j 0)):=by
 unfold stB
 rw[zGD,List.getElem?_map,List.getElem?_range hj]
 rfl
theorem stB_zero (l:List Rat) (n:Nat):(stB l n 0).map Value.bool=List.replicate n (.bool false):=by
 refine List.ext_getElem (by simp[stB]) fun i h1 h2=> ?_
 simp[stB]
theorem stB_set (l:List Rat) (n k:Nat) (hk:k<n):((stB l n k).map Value.bool).set k (.bool (decide (0<l.getD k 0)))=(stB l n (k+1)).map Value.bool:=by
 refine List.ext_getElem (by simp[stB]) fun i h1 h2=> ?_
 have hi:i<n:=by simpa [stB]using h2
 by_cases e:i=k
 ·subst e
  rw[List.getElem_set_self]
  simp[stB]
 ·rw[List.getElem_set_ne (fun e'=>e e'.symm)]
  simp only[stB,List.getElem_map,List.getElem_range]
  congr 2
  rw[decide_eq_decide]
  omega
set_option maxRecDepth 100000 in
theorem zyr (va:Value) (c:RC) (w:World) (ha:zdq w va c) (hv:zzp c):Calls Tryz.prog 111 #[va] w (MarksV w c.rates.length (Rch c)):=by
 obtain⟨i0,hi,hz0,hz1,hz2⟩:=info_parts Tryz.infoBool
 have hM:=make_E2 (P:=Tryz.prog) 26 4 i0 _ 1 Tryz.underlying26 hi hz0 hz1 hz2 (by decide) rfl
 clear hi hz0 hz1 hz2
 have hlen:c.rates.length=c.start.length:=hv.2.2.2.1
 have hlost:c.lost.length=c.start.length:=hv.2.2.1
 have h128:c.start.length<=128:=hv.2.1
 obtain⟨rv,sv,lv,rfl,hr,hs,hl⟩:=id ha
 obtain⟨ra,rn,rk,rfl,_⟩:=id hr.sl
 obtain⟨sa,sn,sk,rfl,_⟩:=id hs.sl
 obtain⟨la,ln,lk,rfl,_⟩:=id (zhc.sl hl)
 have HBW:=zH (zca w (.cells #[.slice ra rn rk, .slice sa sn sk, .slice la ln lk] 28))
 have HC:=zH (C3.new w 28 (.slice ra rn rk) (.slice sa sn sk) (.slice la ln lk))
 have HMR:=zH (hr.below HBW.out)
 have HMS:=zH (hs.below HBW.out)
 have HML:=zH (hl.below HBW.out)
 have HA:=zH (ha.below HBW.out)
 have HV:=zH hv
 have hsn:sn=c.start.length:=hs.len
 have ssn:=hs.sl
 have HN:Hid (sn=c.rates.length):=zH (by omega)
 have HST:=zH hsn
 have hn128:sn<=128:=by omega
 clear hr hs hl ha hv hlen hlost h128 hsn
 go_enter Tryz.func111,Tryz.ntmps111
 go_upto_region 1 with fail
 obtain⟨b,hb⟩:∃b,w.heap.size=b:=⟨_,rfl⟩
 rw[hb]at HC |-
 generalize w.alloc (.cells #[.slice ra rn rk, .slice sa sn sk, .slice la ln lk] 28)=W1 at *
 obtain⟨_,c0,c1,c2,_,_,_⟩:=HC.out
 go_wp2_with (refine hM W1 rfl _ _ rfl sn rfl rfl hn128 ?_;intro vL w6 hO6 hb6
              have HO6:=zH hO6
              have HB6:=zH hb6
              have slL:=hO6.sl
              have lnL:slen vL=sn:=by have h:=hO6.len;rwa[List.length_replicate]at h
              have c0:=zba hb6 c0
              have c1:=zba hb6 c1
              have c2:=zba hb6 c2
              clear hO6 hb6)
 clear hM
 go_loopg [13] (sn) (fun g u13 wr=>∃ (k:Nat),k<=sn/\g=sn-k/\u13= .int .i64 k/\zce wr 4 W1.heap.size vL ((stB (qs c.start) sn k).map Value.bool)/\Below W1.heap.size W1 wr)
 case atStart=>exact⟨0,zZL _,rfl,rfl,by rw[stB_zero];exact HO6.out,HB6.out⟩
 case round=>
  obtain⟨k,hkn,hg,rfl,ho,hbr⟩:=hrel
  obtain⟨w2,hw2⟩:∃w2,w2=wr:=⟨_,rfl⟩
  subst hw2
  have HG:=zH hg
  have HO:=zH ho
  have HBR:=zH hbr
  clear hg HO6 HB6 c0 c1 c2
  by_cases hkl:k<sn
  ·have hk2:k<c.start.length:=by rw[<-HST.out];exact hkl
   obtain⟨ea,eb,g1,g2,g3,g4,g5⟩:=(HMS.out.below hbr).at' k hk2
   have HXO:Hid ((!(c.start[k]'hk2).neg&& !decide ((c.start[k]'hk2).n=0))=decide (0<(qs c.start).getD k 0)):=zH (by
    have h2:k<(qs c.start).length:=by rw[zgq];exact hk2
    rw[zGD,zGE h2,Option.getD_some,zqt _ _ hk2]
    exact RF.above_dec (HV.out.2.2.2.2.1.ok _ (zGM hk2)) (HV.out.2.2.2.2.1.1 _ (zGM hk2)).2.1)
   have HSB:=zH (stB_set (qs c.start) sn k hkl)
   obtain⟨P,hP⟩:∃P,decide (0<(qs c.start).getD k 0)=P:=⟨_,rfl⟩
   rw[hP]at HXO HSB
   obtain⟨x,hxe⟩:∃x,c.start[k]'hk2=x:=⟨_,rfl⟩
   rw[hxe]at g1 g4 g5 HXO
   obtain⟨ea1,ea2,ea3,rfl,_⟩:=g4.slen.1
   obtain⟨eb1,eb2,eb3,rfl,_⟩:=g5.slen.1
   have hb8:=zca w2 (.cells #[.bool x.neg, .slice ea1 ea2 ea3, .slice eb1 eb2 eb3] 38)
   have HXN:Hid (zdc (w2.alloc (.cells #[.bool x.neg, .slice ea1 ea2 ea3, .slice eb1 eb2 eb3] 38)) (.agg #[.bool x.neg, .slice ea1 ea2 ea3, .slice eb1 eb2 eb3]) x.neg x.n x.d):=zH (zdc.below ⟨_,_,rfl,g4,g5⟩ hb8)
   have j1:(0:Int)<=(k:Int):=by omega
   have j2:(k:Int)<(sn:Nat):=by omega
   clear g4 g5 hxe ho hbr hP
   go_wp2_with (go_at_call 145;(with_reducible refine(zer _ _ _ _ _ HXN.out).mono ?_);rw[HXO.out];rintro e21 w21 ⟨rfl,hb21⟩
                have hbb:=zaa hb8 hb21
                have ho3:=HO.out.below hbb
                have hkl3:k<((stB (qs c.start) sn k).map Value.bool).length:=(by rw[List.length_map,zgu];exact hkl)
                have d0:=ho3.cell k hkl3
                have f0:=ho3.frozen k hkl3
                have HS4:=zH (ho3.set k hkl3 (.bool P))
                have HB4:=zH (zfa HBR.out hbb HBR.out.size)
                clear ho3 hbb hb21)
   go_roundg (sn- (k+1))
   case measure=>(have:=HG.out;omega)
   case rel=>exact⟨k+1,by omega,rfl,by go_num,by rw[<-HSB.out];exact HS4.out.1,HB4.out.trans HS4.out.2⟩
  ·obtain rfl:k=sn:=by omega
   have HGR:Hid (∀w0,w0=w2->Calls Tryz.prog 171 #[vL, .func (.func 172) #[] #[.pointer (some ⟨b,0,none⟩)]] w0 (fun e w'=>e= .returned (.tuple #[])/\(∃bs':List Bool,zce w' 4 W1.heap.size vL (bs'.map Value.bool)/\bs'.length=c.rates.length/\∀j,j<c.rates.length->(bs'.getD j false=true↔Rch c j))/\Below W1.heap.size W1 w')):=zH (fun w0 h=>by
    subst h
    exact grow_reach b c (fun j=>0<(qs c.start).getD j 0) vL (stB (qs c.start) k k) W1 w0 _ _ _ HC.out HMR.out HV.out HO.out HBR.out (by rw[zgu];exact HN.out) (fun j hj=>by
     rw[<-HN.out]at hj
     rw[stB_get _ _ _ _ hj,decide_eq_true hj,Bool.true_and]
     exact decide_eq_true_iff))
   clear ho hbr
   go_wp2_with (go_at_call 171;(with_reducible refine(HGR.out _ rfl).mono ?_);rintro e22 w22 ⟨rfl,⟨bs',ho',hl',hm'⟩,hb22⟩)
   go_ret
   exact⟨_,bs',rfl,ho'.bools,hl',hm',HBW.out.trans (hb22.mono (by have:=HBW.out.size;omega))⟩
set_option maxRecDepth 100000 in
theorem fatal_any (va:Value) (c:RC) (w:World) (ha:zdq w va c) (hv:zzp c):Calls Tryz.prog 112 #[va] w (MarksV w c.rates.length (Ftl c)):=by
 obtain⟨i0,hi,hz0,hz1,hz2⟩:=info_parts Tryz.infoBool
 have hlen:c.rates.length=c.start.length:=hv.2.2.2.1
 have hlost:c.lost.length=c.start.length:=hv.2.2.1
 have h128:c.start.length<=128:=hv.2.1
 obtain⟨rv,sv,lv,rfl,hr,hs,hl⟩:=id ha
 obtain⟨ra,rn,rk,rfl,_⟩:=id hr.sl
 obtain⟨sa,sn,sk,rfl,_⟩:=id hs.sl
 obtain⟨la,ln,lk,rfl,_⟩:=id (zhc.sl hl)
 have HBW:=zH (zca w (.cells #[.slice ra rn rk, .slice sa sn sk, .slice la ln lk] 28))
 have HC:=zH (C3.new w 28 (.slice ra rn rk) (.slice sa sn sk) (.slice la ln lk))
 have HMR:=zH (hr.below HBW.out)
 have HMS:=zH (hs.below HBW.out)
 have HML:=zH (hl.below HBW.out)
 have HA:=zH (ha.below HBW.out)
 have HV:=zH hv
 have hll:ln=c.lost.length:=by have h:=hl.len;exact h
 have HLL:Hid (c.lost.length=c.rates.length):=zH (by omega)
 have sll:=zhc.sl hl
 have hl128:c.lost.length<=128:=by omega
 clear hr hs ha hv hlen hlost h128 hll
 go_enter Tryz.func112,Tryz.ntmps112
 go_upto_region 1 with fail
 obtain⟨b,hb⟩:∃b,w.heap.size=b:=⟨_,rfl⟩
 rw[hb]at HC |-
 generalize w.alloc (.cells #[.slice ra rn rk, .slice sa sn sk, .slice la ln lk] 28)=W1 at *
 obtain⟨_,c0,c1,c2,_,_,_⟩:=HC.out
 have hml:=HML.out
 have hml_len:slen (.slice la ln lk)=(c.lost.map Value.bool).length:=hml.len.trans (by simp)
 go_wp2_with (first
  |(at_builtin;refine zie W1 rfl _ _ 26 rfl W1.heap.size 4 i0 (.bool false) 1 Tryz.underlying26 hi hz0 hz1 hz2 rfl _ [] rfl (zce.nil _ _ _) _ rfl sll (c.lost.map Value.bool) hml_len (fun j hj=>hml.cell j hj) (fun u hu=>by obtain⟨y,_,rfl⟩:=List.mem_map.1 hu;rfl) (by simp[maxLen];omega) (by simp;omega) (zLR _) ?_;intro vL w6 hO6 hg6 hb6
    have HO6:=zH hO6
    have HB6:=zH hb6
    clear hO6 hg6 hb6)
  |(go_at_call 171;(with_reducible refine(grow_fatal b c (fun j=>c.lost.getD j false=true) vL c.lost W1 _ _ _ _ HC.out HMR.out HV.out (by have h:=HO6.out;rwa[List.nil_append]at h) HB6.out HLL.out (fun j hj=>Iff.rfl)).mono ?_);rintro e22 w22 ⟨rfl,⟨bs',ho',hl',hm'⟩,hb22⟩))
 go_ret
 exact⟨_,bs',rfl,ho'.bools,hl',hm',HBW.out.trans (hb22.mono (by have:=HBW.out.size;omega))⟩
end Go.Proofs.YtlpdkbmmbdfoiaaGreat
namespace Go.Proofs.YtlpdkbmmbdfoiaaGreat
def cntT (l:List Bool):Nat:=(l.filter (fun b=>b)).length
theorem cntT_le (l:List Bool):cntT l<=l.length:=List.length_filter_le _ _
theorem cntT_set :∀ {l:List Bool} {k:Nat},l[k]? =some false->cntT (l.set k true)=cntT l+1
 | [],k,h=>by simp at h
 | b::l,0,h=>by
   simp at h
   subst h
   simp[cntT]
 | b::l,k+1,h=>by
   have ih:=cntT_set (l:=l) (k:=k) (by simpa using h)
   unfold cntT at ih |-
   cases b<;>simp[List.filter_cons,ih]
def Cld (n:Nat) (S:Nat->Prop) (E:Nat->Nat->Prop) (f:List Bool):Prop:=
 (∀i,i<n->S i->f.getD i false=true)/\∀i j,i<n->j<n->E i j->f.getD i false=true->f.getD j false=true
structure Gro (n:Nat) (S:Nat->Prop) (E:Nat->Nat->Prop) (r:Nat) (Ps:Nat->Prop) (Pe:Nat->Nat->Prop) (f:List Bool):Prop where
 len:f.length=n
 snd:∀j,j<n->f.getD j false=true->Clo n S E j
 prog:r+1<=cntT f\/Cld n S E f\/(r<=cntT f/\(∀i,i<n->Ps i->S i->f.getD i false=true)/\∀i j,i<n->j<n->Pe i j->E i j->f.getD i false=true->f.getD j false=true)
section
variable {n r:Nat} {S:Nat->Prop} {E:Nat->Nat->Prop} {Ps:Nat->Prop} {Pe:Nat->Nat->Prop} {f:List Bool}
theorem Cld.clo (h:Cld n S E f) {j:Nat} (hc:Clo n S E j):f.getD j false=true:=by
 induction hc with
 | base hi hs=>exact h.1 _ hi hs
 | step hc hj hl ih=>exact h.2 _ _ hc.lt hj hl ih
theorem Gro.start (n:Nat) (S:Nat->Prop) (E:Nat->Nat->Prop):Gro n S E 0 (fun _=>False) (fun _ _=>False) (List.replicate n false):=
 ⟨List.length_replicate,fun j hj h=>by simp[List.getD,hj]at h,Or.inr (Or.inr ⟨zZL _,fun _ _ h=>h.elim,fun _ _ _ _ h=>h.elim⟩)⟩
theorem znw {l:List Bool} {k:Nat} (hk:k<l.length):l.set k (l.getD k false)=l:=by
 rw[show l.getD k false=l[k]from by rw[zGD,zGE hk];rfl]
 exact List.set_getElem_self hk
theorem Gro.mark (g:Gro n S E r Ps Pe f) {k:Nat} (hk:k<n) (hc:Clo n S E k):Gro n S E r Ps Pe (f.set k true):=by
 have hkl:k<f.length:=by rw[g.len];exact hk
 cases hf:f.getD k false with
 | true=>
   have h:=znw hkl
   rw[hf]at h
   rw[h];exact g
 | false=>
   have hs:f[k]? =some false:=by
    rw[zGE hkl]
    rw[zGD,zGE hkl]at hf
    simpa using hf
   have hn:=cntT_set hs
   refine⟨by rw[List.length_set];exact g.len,fun j hj hb=> ?_,?_⟩
   ·rw[zfs _ _ _ hkl]at hb
    by_cases e:j=k
    ·subst e;exact hc
    ·rw[if_neg e]at hb;exact g.snd j hj hb
   ·rcases g.prog with h | h | h
    ·exact Or.inl (by omega)
    ·have:=h.clo hc;rw[hf]at this;cases this
    ·exact Or.inl (by omega)
theorem Gro.more (g:Gro n S E r Ps Pe f) {Ps':Nat->Prop} {Pe':Nat->Nat->Prop} (h1:∀i,i<n->Ps' i->Ps i\/(S i->f.getD i false=true))
 (h2:∀i j,i<n->j<n->Pe' i j->Pe i j\/(E i j->f.getD i false=true->f.getD j false=true)):Gro n S E r Ps' Pe' f:=
 ⟨g.len,g.snd,by
  rcases g.prog with h | h | ⟨k1,k2,k3⟩
  ·exact Or.inl h
  ·exact Or.inr (Or.inl h)
  ·refine Or.inr (Or.inr ⟨k1,fun i hi hp hs=> ?_,fun i j hi hj hp he hb=> ?_⟩)
   ·rcases h1 i hi hp with h | h
    ·exact k2 i hi h hs
    ·exact h hs
   ·rcases h2 i j hi hj hp with h | h
    ·exact k3 i j hi hj h he hb
    ·exact h he hb⟩
theorem Gro.doBase (g:Gro n S E r Ps Pe f) {k:Nat} (hk:k<n) {s:Bool} (hs:s=true↔S k) {Ps':Nat->Prop} (hp:∀i,Ps' i->Ps i\/i=k):Gro n S E r Ps' Pe (f.set k (f.getD k false || s)):=by
 have hkl:k<f.length:=by rw[g.len];exact hk
 cases s with
 | true=>
   rw[Bool.or_true]
   refine(g.mark hk (Clo.base hk (hs.1 rfl))).more (fun i hi h=> ?_) fun i j hi hj h=>Or.inl h
   rcases hp i h with h | rfl
   ·exact Or.inl h
   ·exact Or.inr fun _=>by rw[zfs _ _ _ hkl,if_pos rfl]
 | false=>
   rw[Bool.or_false,znw hkl]
   refine g.more (fun i hi h=> ?_) fun i j hi hj h=>Or.inl h
   rcases hp i h with h | rfl
   ·exact Or.inl h
   ·exact Or.inr fun h=>by cases hs.2 h
theorem Gro.doEdge (g:Gro n S E r Ps Pe f) {a b:Nat} (ha:a<n) (hb:b<n) (he:E a b) {Pe':Nat->Nat->Prop} (hp:∀i j,Pe' i j->Pe i j\/(i=a/\j=b)):Gro n S E r Ps Pe' (f.set b (f.getD b false || f.getD a false)):=by
 have hbl:b<f.length:=by rw[g.len];exact hb
 cases hf:f.getD a false with
 | true=>
   rw[Bool.or_true]
   refine(g.mark hb (Clo.step (g.snd a ha hf) hb he)).more (fun i hi h=>Or.inl h) fun i j hi hj h=> ?_
   rcases hp i j h with h | ⟨rfl,rfl⟩
   ·exact Or.inl h
   ·exact Or.inr fun _ _=>by rw[zfs _ _ _ hbl,if_pos rfl]
 | false=>
   rw[Bool.or_false,znw hbl]
   refine g.more (fun i hi h=>Or.inl h) fun i j hi hj h=> ?_
   rcases hp i j h with h | ⟨rfl,rfl⟩
   ·exact Or.inl h
   ·exact Or.inr fun _ h=>by rw[hf]at h;cases h
theorem Gro.noEdge (g:Gro n S E r Ps Pe f) {a b:Nat} (he:¬E a b) {Pe':Nat->Nat->Prop} (hp:∀i j,Pe' i j->Pe i j\/(i=a/\j=b)):Gro n S E r Ps Pe' f:=
 g.more (fun i hi h=>Or.inl h) fun i j hi hj h=>by
  rcases hp i j h with h | ⟨rfl,rfl⟩
  ·exact Or.inl h
  ·exact Or.inr fun h=>absurd h he
theorem Gro.round (g:Gro n S E r Ps Pe f) (h1:∀i,i<n->Ps i) (h2:∀i j,i<n->j<n->Pe i j):Gro n S E (r+1) (fun _=>False) (fun _ _=>False) f:=
 ⟨g.len,g.snd,by
  rcases g.prog with h | h | ⟨k1,k2,k3⟩
  ·exact Or.inr (Or.inr ⟨h,fun _ _ h=>h.elim,fun _ _ _ _ h=>h.elim⟩)
  ·exact Or.inr (Or.inl h)
  ·exact Or.inr (Or.inl ⟨fun i hi hs=>k2 i hi (h1 i hi) hs,fun i j hi hj he hb=>k3 i j hi hj (h2 i j hi hj) he hb⟩)⟩
theorem Gro.all (g:Gro n S E (n+1) Ps Pe f):∀j,j<n->(f.getD j false=true↔Clo n S E j):=by
 intro j hj
 refine⟨g.snd j hj,fun hc=> ?_⟩
 have hl:=cntT_le f
 have:=g.len
 rcases g.prog with h | h | ⟨k1,k2,k3⟩
 ·omega
 ·exact h.clo hc
 ·omega
theorem Gro.none (g:Gro n S E r Ps Pe f) {Ps':Nat->Prop} {Pe':Nat->Nat->Prop} (h1:∀i,i<n->Ps' i->Ps i) (h2:∀i j,i<n->j<n->Pe' i j->Pe i j):Gro n S E r Ps' Pe' f:=
 g.more (fun i hi h=>Or.inl (h1 i hi h)) fun i j hi hj h=>Or.inl (h2 i j hi hj h)
end
end Go.Proofs.YtlpdkbmmbdfoiaaGreat
namespace Go.Proofs.YtlpdkbmmbdfoiaaGreat
open Go.RowKit
def mkE (w:World) (e:TypeId) (z:Value) (n:Nat):World:=w.alloc (.cells (madeCells #[z] (n*1)) e)
theorem mkE_size (w:World) (e:TypeId) (z:Value) (n:Nat):(mkE w e z n).heap.size=w.heap.size+1:=by simp[mkE]
theorem ziv (w:World) (e:TypeId) (z:Value) (n:Nat):Below w.heap.size w (mkE w e z n):=zca w _
theorem zce.mk {B:Nat} (w:World) (e:TypeId) (z:Value) (n:Nat) (hB:B<=w.heap.size) (hn:n<=128):zce (mkE w e z n) e B (.slice (some ⟨w.heap.size,0,none⟩) n n) (List.replicate n z):=by
 have:=World.ownsRow_lit (size:=1) (base:=B) w (madeCells #[z] (n*1)) (e:=e) n hB (by simp[maxLen];omega) (size_madeCells _ _)
 have h2:(madeCells #[z] (n*1)).toList=List.replicate n z:=by rw[Nat.mul_one,toList_madeCells_one]
 rw[h2]at this
 unfold zce
 rw[List.length_replicate]
 exact this
theorem run_mkE {P:Program} (t e:TypeId) (i:TypeInfo) (z:Value) (by':Nat) (h1:P.underlying t=some (.slice e)) (h2:P.info? e=some i) (h3:i.zero=some z) (h4:i.size=1) (h5:i.bytes=by') (hby:by'<=32) (hz:z.cells=#[z])
 (n:Nat) (hn:n<=128) (w:World):(Instr.makeSlice t (.int .i64 (n:Int)) (.int .i64 (n:Int))).run P w= .ok (.slice (some ⟨w.heap.size,0,none⟩) n n) (mkE w e z n):=by
 have hb:i.bytes*n<=281474976710656:=by rw[h5];exact zLT (Nat.mul_le_mul hby hn) (by decide)
 have hb2:(i.bytes:Int)*(n:Int)<=281474976710656:=by
  have h:((i.bytes*n:Nat):Int)<=281474976710656:=by omega
  rwa[Int.natCast_mul]at h
 have hr:=run_make (P:=P) w t e i z h1 h2 h3 .i64 .i64 n n (by omega) (Int.le_refl _) hb2 (by omega)
 simp only[Int.toNat_natCast]at hr
 rw[hr,h4,hz]
 rfl
@[go_sem] theorem cell_mkE (w : World) (e : TypeId) (z : Value) (n : Nat) (p : Addr) (hp : p.block < w.heap.size) : (mkE w e z n).cell? p = w.cell? p := (ziv w e z n).cell hp
@[go_sem] theorem frozen_mkE (w : World) (e : TypeId) (z : Value) (n : Nat) (p : Addr) (hp : p.block < w.heap.size) : (mkE w e z n).frozen? p = w.frozen? p := (ziv w e z n).frozen hp
@[go_sem] theorem zhx (w : World) (e : TypeId) (z : Value) (n : Nat) : (mkE w e z n).heap.size = w.heap.size + 1 := mkE_size w e z n
theorem zce.mkB {B a:Nat} (w:World) (e:TypeId) (z:Value) (n:Nat) (ha:w.heap.size=a) (hB:B<=a) (hn:n<=128):zce (Go.Proofs.YtlpdkbmmbdfoiaaGreat.mkE w e z n) e B (.slice (some ⟨a,0,none⟩) n n) (List.replicate n z):=by
 subst ha;exact zce.mk w e z n hB hn
end Go.Proofs.YtlpdkbmmbdfoiaaGreat
