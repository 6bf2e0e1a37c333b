/- Lemmas. -/
import Derived.Test.YtlpdkbmmbdfoiaaGreatEGw8
import Derived.Test.YtlpdkbmmbdfoiaaGreatERr6
set_option linter.unusedVariables false
set_option linter.unusedSimpArgs false
namespace Go.Proofs.YtlpdkbmmbdfoiaaGreat
theorem zeq.one' :zeq 1:=⟨1,1,by decide,by decide,by decide,by decide⟩
theorem zeq.over {q:Rat} (h:zeq q):over 720 28800 q:=by
 obtain⟨a,b,ha,hb,hb2,rfl⟩:=h
 refine⟨((a*(720/b):Nat):Int),?_,?_⟩
 ·have h1:b*(720/b)=720:=by
   rcases(show b=1\/b=2\/b=3\/b=4 by omega)with rfl | rfl | rfl | rfl<;>rfl
  have h2:(720/b:Nat)≠0:=by
   rcases(show b=1\/b=2\/b=3\/b=4 by omega)with rfl | rfl | rfl | rfl<;>decide
  rw[zjr a b (720/b) h2,h1]
  rfl
 ·have h3:720/b<=720:=Nat.div_le_self _ _
  have h4:a*(720/b)<=4*720:=Nat.mul_le_mul ha h3
  rw[Int.natAbs_natCast]
  omega
theorem zju (c:CQ) (i j:Nat):rq c.raw i j=(c.rates.getD i []).getD j 0:=by
 unfold rq
 show(zaq c.raw i).getD j 0=_
 unfold zaq
 simp only[CQ.raw,zGD,List.getElem?_map]
 cases c.rates[i]? with
 | none=>simp[qs]
 | some r=>simp[zbu]
theorem zrr.sm {c:CQ} (h:zrr c):SmC c.raw where
 n5:=by simp[CQ.raw];have:=h.rl;have:=h.n5;omega
 r:=fun i j hi hj=>by
  rw[zju]
  have hl:c.raw.rates.length=c.start.length:=by simp[CQ.raw];exact h.rl
  exact(h.rate (by omega) (by omega)).over
 s:=fun i hi=>by
  have hl:c.raw.rates.length=c.start.length:=by simp[CQ.raw];exact h.rl
  show over 720 28800 ((qs (c.start.map RF.of)).getD i 0)
  rw[zbu,zGD,zGE (by omega)]
  exact(h.st _ (zGM _)).over
theorem zhs :zrr (cTwo (mkRat 1 3)):=by
 have h13:zeq (mkRat 1 3):=⟨1,3,by decide,by decide,by decide,rfl⟩
 have hs:∀ {a b:Rat},zeq a->zeq b->∀q∈ [a,b],zeq q:=fun{a b} ha hb q hq=>by
  simp at hq
  rcases hq with rfl | rfl
  ·exact ha
  ·exact hb
 refine⟨by decide,by decide,rfl,rfl,hs zeq.one' zeq.zero,by decide+kernel,fun i r hr=> ?_⟩
 have hi:i<2:=(List.getElem?_eq_some_iff.1 hr).1
 rcases(show i=0\/i=1 by omega)with rfl | rfl
 ·obtain rfl: [0,mkRat 1 3]=r:=by simpa [cTwo]using hr
  exact⟨rfl,hs zeq.zero h13,fun x hx=>by simpa using hx.symm,fun h=>by simp[cTwo]at h⟩
 ·obtain rfl: [0,0]=r:=by simpa [cTwo]using hr
  exact⟨rfl,hs zeq.zero zeq.zero,fun x hx=>by simpa using hx.symm,fun _ q hq=>by simpa using hq⟩
theorem lk_over {c:RC} {l:List Nat} (hv:zzp c) (hk:LK c.rates.length (rq c) (ziq c) l) (hs:SmC c) {b X:Nat->Rat} (hb:∀i,i<l.length->over 720 230400 (b i))
 (hx:∀i,i<l.length->sg l.length (fun j=>mmA (fun i j=>rq c (l.getD i 0) (l.getD j 0)) (fun i=>sg c.rates.length (rq c (l.getD i 0))) i j*X (l.getD j 0))=b i):
 ∃E,E≠0/\E<2^220/\∀t,t∈l->over E (2^240) (X t):=by
 have hle:l.length<=c.rates.length:=by
  have h1:=zjt (lo:=0) (n:=c.rates.length) hk.so fun x hx=>⟨zZL _,hk.lt x hx⟩
  omega
 have h5:l.length<6:=by have:=hs.n5;omega
 have hA:∀i j,i<l.length->j<l.length->over 720 230400 (mmA (fun i j=>rq c (l.getD i 0) (l.getD j 0)) (fun i=>sg c.rates.length (rq c (l.getD i 0))) i j):=fun i j hi hj=>by
  have h1:=hk.lt _ (zcq hi)
  have h2:=hk.lt _ (zcq hj)
  unfold mmA
  split
  ·exact(over.sg (by decide) fun t ht=>hs.r _ t h1 ht).mono (by have:=hs.n5;omega)
  ·exact(over.neg (hs.r _ _ h1 h2)).mono (by decide)
 obtain⟨E,hE,hEb,hI⟩:=sol_gen (n:=l.length) (D:=720) (B:=230400) (by decide) (by decide) hA (hk.dt (zcv hv)) (F:=720) (K:=230400) (by decide) hb hx
 have hB:=dtB5 _ h5
 refine⟨E*720,Nat.mul_ne_zero hE (by decide),?_,fun t ht=> ?_⟩
 ·exact zLL (zMR _ (zLT hEb (Nat.le_of_lt hB))) (show 2^200*720<2^220 by decide+kernel)
 ·obtain⟨i,hi,rfl⟩:=zbv ht
  refine(hI i hi).mono ?_
  exact zLT (Nat.mul_le_mul (show l.length<=5 by omega) (zMR _ (Nat.le_of_lt hB))) (show 5*(2^200*230400)<=2^240 by decide+kernel)
theorem hit_lk (n:Nat) (r:Mx) (lost:Nat->Prop):LK n r lost (lsP n fun s=>FT n r lost s/\¬lost s) where
 so:=lsP_so _ _
 lt:=fun s h=>(zhq.1 h).1
 nl:=fun s h=>(zhq.1 h).2.2
 ft:=fun s h=>(zhq.1 h).2.1
 cl:=fun s t h ht hp=>by
  by_cases h1:lost t
  ·exact Or.inr (Or.inl h1)
  ·by_cases h2:FT n r lost t
   ·exact Or.inl (zhq.2 ⟨ht,h2,h1⟩)
   ·exact Or.inr (Or.inr h2)
theorem over_big {E:Nat} (hE:E≠0) (hEb:E<2^220):over E (2^240) 1:=(over.one hE).mono (Nat.le_of_lt (Nat.lt_trans hEb (by decide+kernel)))
structure HitS (c:RC) (H:Nat->Rat):Prop where
 hit:HitC c H
 ov:∃E,E≠0/\E<2^220/\∀t,t<c.rates.length->over E (2^240) (H t)
structure TimeS (c:RC) (T:Nat->Rat):Prop where
 time:TimeC c T
 z:∀t,t<c.rates.length->¬Sure c.rates.length (rq c) (ziq c) t->T t=0
 ov:∃E,E≠0/\E<2^220/\∀t,t<c.rates.length->over E (2^240) (T t)
theorem hitC_over {c:RC} {H:Nat->Rat} (hv:zzp c) (hs:SmC c) (hH:HitC c H):∃E,E≠0/\E<2^220/\∀t,t<c.rates.length->over E (2^240) (H t):=by
 have hk:=hit_lk c.rates.length (rq c) (ziq c)
 generalize hl:lsP c.rates.length (fun s=>FT c.rates.length (rq c) (ziq c) s/\¬ziq c s)=l at hk
 have hb1:∀i,i<l.length->over 720 230400 (0+sg c.rates.length fun t=>if t∈l then 0 else rq c (l.getD i 0) t*H t):=fun i hi=>by
  rw[Rat.zero_add]
  refine(over.sg (B:=28800) (by decide) fun t ht=> ?_).mono (by have:=hs.n5;omega)
  split
  ·exact over.zero _ _
  ·rename_i hm
   by_cases h1:ziq c t
   ·rw[hH.one t ht h1,Rat.mul_one];exact hs.r _ _ (hk.lt _ (zcq hi)) ht
   ·by_cases h2:FT c.rates.length (rq c) (ziq c) t
    ·exact absurd (hl▸zhq.2 ⟨ht,h2,h1⟩) hm
    ·rw[hH.no t ht h2,Rat.mul_zero];exact over.zero _ _
 obtain⟨E,hE,hEb,hX⟩:=lk_over (X:=H) (b:=fun i=>0+sg c.rates.length fun t=>if t∈l then 0 else rq c (l.getD i 0) t*H t) hv hk hs hb1 (fun i hi=>hk.eq (zcv hv) (X:=H) (b:=fun _=>0) hi (by rw[Rat.zero_add];exact hH.eq _ (hk.lt _ (zcq hi)) (hk.nl _ (zcq hi))))
 refine⟨E,hE,hEb,fun t ht=> ?_⟩
 by_cases h1:ziq c t
 ·rw[hH.one t ht h1];exact over_big hE hEb
 ·by_cases h2:FT c.rates.length (rq c) (ziq c) t
  ·exact hX t (hl▸zhq.2 ⟨ht,h2,h1⟩)
  ·rw[hH.no t ht h2];exact over.zero _ _
theorem hit_s {c:RC} (hv:zzp c) (hs:SmC c):∃H,HitS c H:=by
 obtain⟨H,hH⟩:=hit_ex (zcv hv)
 exact⟨H,hH,hitC_over hv hs hH⟩
theorem TimeC.s {c:RC} {T:Nat->Rat} (hv:zzp c) (hs:SmC c) (hT:TimeC c T) (hz:∀t,t<c.rates.length->¬Sure c.rates.length (rq c) (ziq c) t->T t=0):TimeS c T:=by
 refine⟨hT,hz,?_⟩
 have hk:=sure_lk c.rates.length (rq c) (ziq c)
 have h1:∀t,t<c.rates.length->t∉lsP c.rates.length (fun s=>Sure c.rates.length (rq c) (ziq c) s/\¬ziq c s)->T t=0:=fun t ht h=>by
  by_cases hl:ziq c t
  ·exact hT.zero t ht hl
  ·exact hz t ht fun hu=>h (zhq.2 ⟨ht,hu,hl⟩)
 have h2:∀s,s∈lsP c.rates.length (fun s=>Sure c.rates.length (rq c) (ziq c) s/\¬ziq c s)->sg c.rates.length (rq c s)*T s=1+sg c.rates.length fun t=>rq c s t*T t:=fun s hs2=>by
  have h:=zhq.1 hs2
  exact hT.eq s h.1 h.2.2 h.2.1
 generalize hl:lsP c.rates.length (fun s=>Sure c.rates.length (rq c) (ziq c) s/\¬ziq c s)=l at hk h1 h2
 have hb1:∀i,i<l.length->over 720 230400 (1+sg c.rates.length fun t=>if t∈l then 0 else rq c (l.getD i 0) t*T t):=fun i hi=>by
  have e:(sg c.rates.length fun t=>if t∈l then 0 else rq c (l.getD i 0) t*T t)=0:=sg_zero' fun t ht=>by
   split
   ·rfl
   ·rename_i hm;rw[h1 t ht hm,Rat.mul_zero]
  rw[e,Rat.add_zero]
  exact(over.one (D:=720) (by decide)).mono (by decide)
 obtain⟨E,hE,hEb,hX⟩:=lk_over (X:=T) (b:=fun i=>1+sg c.rates.length fun t=>if t∈l then 0 else rq c (l.getD i 0) t*T t) hv hk hs hb1 (fun i hi=>hk.eq (zcv hv) (X:=T) (b:=fun _=>1) hi (h2 _ (zcq hi)))
 refine⟨E,hE,hEb,fun t ht=> ?_⟩
 by_cases hm:t∈l
 ·exact hX t hm
 ·rw[h1 t ht hm];exact over.zero _ _
theorem time_s {c:RC} (hv:zzp c) (hs:SmC c):∃T,TimeS c T:=by
 have hk:=sure_lk c.rates.length (rq c) (ziq c)
 obtain⟨T,h1,h2⟩:=hk.ex (zcv hv) (fun _=>0) (fun _=>1)
 have hT:TimeC c T:=⟨fun s hs h=>h1 s fun hmem=>(zhq.1 hmem).2.2 h,fun s hs h hu=>h2 s (zhq.2 ⟨hs,hu,h⟩)⟩
 exact⟨T,hT.s hv hs fun t ht h=>h1 t fun hmem=>h (zhq.1 hmem).2.1⟩
end Go.Proofs.YtlpdkbmmbdfoiaaGreat
namespace Go.Proofs.YtlpdkbmmbdfoiaaGreat
open Go.RowKit
def AllS (c:RC):Prop:=∀j,j<c.rates.length->Rch c j->Ftl c j
theorem rch_from {c:RC} {t:Nat} (h:Rch c t):∃s,s<c.rates.length/\0<(qs c.start).getD s 0/\RC1 c.rates.length (rq c) (fun j=>j=s) t:=by
 induction h with
 | base hi hS=>exact⟨_,hi,hS,Clo.base hi rfl⟩
 | step hc hj hL ih=>
   obtain⟨s,h1,h2,h3⟩:=ih
   exact⟨s,h1,h2,Clo.step h3 hj hL⟩
theorem rch_to {c:RC} {s t:Nat} (hs:0<(qs c.start).getD s 0) (h:RC1 c.rates.length (rq c) (fun j=>j=s) t):Rch c t:=by
 induction h with
 | base hi hS=>subst hS;exact Clo.base hi hs
 | step hc hj hL ih=>exact Clo.step ih hj hL
theorem alls_iff (c:RC):AllS c↔∀s,s<c.rates.length->0<(qs c.start).getD s 0->Sure c.rates.length (rq c) (ziq c) s:=by
 constructor
 ·intro h s hs h0 t ht
  exact h t (Clo.lt ht) (rch_to h0 ht)
 ·intro h t ht hr
  obtain⟨s,h1,h2,h3⟩:=rch_from hr
  exact h s h1 h2 t h3
def zjy (w0:World) (P:Prop) (R:Rat) (e:Ending) (w:World):Prop:=
 (P/\RF0 w0 R e w)\/(¬P/\e= .returned (.tuple #[.agg #[.bool false, .slice none 0 0, .slice none 0 0], .int .i64 14])/\Below w0.heap.size w0 w)
theorem RMean.f {w0:World} {c:RC} {R:Rat} {e:Ending} {w:World} (h:RMean w0 c R e w):zjy w0 (AllS c) R e w:=by
 rcases h with h | ⟨⟨j,h1,h2,h3⟩,h4⟩
 ·exact Or.inl h
 ·exact Or.inr ⟨fun h=>h3 (h j h1 h2),h4⟩
structure TC (c:CQ) (H T:Nat->Rat):Prop where
 tape:zrr c
 hit:HitS c.raw H
 time:TimeS c.raw T
abbrev SureQ (c:CQ) (i:Nat):Prop:=Sure c.raw.rates.length (rq c.raw) (ziq c.raw) i
theorem tape_tc {c:CQ} (h:zrr c):∃H T,TC c H T:=by
 obtain⟨H,hH⟩:=hit_s h.valid h.sm
 obtain⟨T,hT⟩:=time_s h.valid h.sm
 exact⟨H,T,h,hH,hT⟩
section
variable {c:CQ} {H T:Nat->Rat}
theorem TC.len (h:TC c H T):c.raw.rates.length=c.start.length:=by
 have:=h.tape.rl
 simp[CQ.raw];exact this
theorem TC.hit_c (h:TC c H T) {va:Value} {w:World} (ha:zdq w va c.raw):Calls Tryz.prog 43 #[va] w (RF0 w (stS c.raw H)):=Go.Proofs.YtlpdkbmmbdfoiaaGreat.hit_c ha h.tape.valid h.tape.sm h.hit.hit
theorem TC.mean_c (h:TC c H T) {va:Value} {w:World} (ha:zdq w va c.raw):Calls Tryz.prog 45 #[va] w (zjy w (AllS c.raw) (stS c.raw T)):=
 (Go.Proofs.YtlpdkbmmbdfoiaaGreat.mean_c ha h.tape.valid h.tape.sm h.time.time).mono fun _ _ k=>k.f
theorem TC.sH (h:TC c H T):stS c.raw H=sg c.start.length fun t=>c.start.getD t 0*H t:=by
 have e:qs c.raw.start=c.start:=zbu _
 unfold stS
 rw[e,h.len]
theorem TC.sT (h:TC c H T):stS c.raw T=sg c.start.length fun t=>c.start.getD t 0*T t:=by
 have e:qs c.raw.start=c.start:=zbu _
 unfold stS
 rw[e,h.len]
theorem TC.alls (h:TC c H T):AllS c.raw↔∀s,s<c.start.length->0<c.start.getD s 0->SureQ c s:=by
 have e:qs c.raw.start=c.start:=zbu _
 constructor
 ·intro k s hs h0
  exact(alls_iff _).1 k s (by rw[h.len];exact hs) (by rw[e];exact h0)
 ·intro k
  exact(alls_iff _).2 fun s hs h0=>k s (by rw[<-h.len];exact hs) (by rw[<-e];exact h0)
theorem TC.lost_h (h:TC c H T) {i:Nat} (hi:i<c.start.length) (hl:c.lost.getD i false=true):H i=1/\T i=0/\SureQ c i:=by
 have hn:=h.len
 have hl2:ziq c.raw i:=hl
 refine⟨h.hit.hit.one i (by omega) hl2,h.time.time.zero i (by omega) hl2,fun t ht=> ?_⟩
 have key:t=i:=by
  have hv:=h.tape.valid
  clear hl
  induction ht with
  | base hi hS=>exact hS
  | step hc hj hL ih=>
    subst ih
    rw[(zcv hv).ab _ _ (Clo.lt hc) hj hl2]at hL
    exact absurd hL (by decide)
 subst key
 exact Clo.base (Clo.lt ht) hl2
theorem TC.eq_h (h:TC c H T) {i:Nat} (hi:i<c.start.length) (hl:c.lost.getD i false=false):(sg c.start.length fun j=>(c.rates.getD i []).getD j 0)*H i=sg c.start.length fun j=>(c.rates.getD i []).getD j 0*H j:=by
 have hn:=h.len
 have k:=h.hit.hit.eq i (by omega) (fun e=>by unfold ziq at e;rw[show c.raw.lost=c.lost from rfl,hl]at e;cases e)
 rw[hn]at k
 rw[zma (f:=rq c.raw i) (g:=fun j=>(c.rates.getD i []).getD j 0) fun j _=>zju c i j,zma (f:=fun t=>rq c.raw i t*H t) (g:=fun j=>(c.rates.getD i []).getD j 0*H j) fun j _=>by rw[zju]]at k
 exact k
theorem TC.eq_t (h:TC c H T) {i:Nat} (hi:i<c.start.length) (hl:c.lost.getD i false=false) (hu:SureQ c i):(sg c.start.length fun j=>(c.rates.getD i []).getD j 0)*T i=1+sg c.start.length fun j=>(c.rates.getD i []).getD j 0*T j:=by
 have hn:=h.len
 have k:=h.time.time.eq i (by omega) (fun e=>by unfold ziq at e;rw[show c.raw.lost=c.lost from rfl,hl]at e;cases e) hu
 rw[hn]at k
 rw[zma (f:=rq c.raw i) (g:=fun j=>(c.rates.getD i []).getD j 0) fun j _=>zju c i j,zma (f:=fun t=>rq c.raw i t*T t) (g:=fun j=>(c.rates.getD i []).getD j 0*T j) fun j _=>by rw[zju]]at k
 exact k
end
end Go.Proofs.YtlpdkbmmbdfoiaaGreat
namespace Go.Proofs.YtlpdkbmmbdfoiaaGreat
theorem slimX5 :∀n,n<6->slimX n 720 230400 (dtB n 230400):=by
 intro n hn
 have h:∀n,n<6->(2*(bD 720 (dtB n 230400)*bN n 720 230400 (dtB n 230400)*(bD 720 (dtB n 230400)*bN n 720 230400 (dtB n 230400)*(bD 720 (dtB n 230400)*bN n 720 230400 (dtB n 230400))))<2^4096/\(720*dtB n 230400*720)^n<2^4096/\(bW n 720 230400 (dtB n 230400))^n<2^4096):=by decide+kernel
 obtain⟨h1,h2,h3⟩:=h n hn
 exact⟨zLR _,by decide,by decide,h1,h2,h3⟩
theorem rsolp_sm {c:RC} {l:List Nat} {mb:Bool} {x:Nat->Rat} (hv:zzp c) (h:zvq c l) (hs:SmC c) (hb:∀i,i<l.length->over 720 230400 (bqE mb c l i)) (hx:∀i,i<l.length->sg l.length (fun j=>zis c l i j*x j)=bqE mb c l i):
 RsolP c l mb/\(∀j,j<l.length->refX mb c l j=x j):=by
 have hk:=zxq h
 have h5:l.length<=5:=by have:=zft h;have:=hs.n5;omega
 have hc:=znv hv h hs hb hx
 have hreg:1<=l.length->dt l.length (zis c l)≠0:=fun hn=>(zmw hv h hs hb hn).1
 refine⟨⟨hc.lt,by omega,hc.fA,fun i k hi hk2=>zgw (zsv hs (hk.lt _ (zcq hi)) hk2) (Nat.lt_trans (show 230400<2^18 by decide) (zcu (by decide))),hc.w,fun hn=>zff (B:=fun i _=>bqE mb c l i) (hreg hn),fun hn=> ?_⟩,fun j hj=> ?_⟩
 ·refine slimR_minor (slimX5 _ (by omega)) hn (Nat.le_succ _) (fun i j hi hj=> ?_) (zff (B:=fun i _=>bqE mb c l i) (hreg hn))
  unfold zpa
  split
  ·rename_i hj2
   exact sm_A hv h hs hi hj2
  ·exact hb i hi
 ·have hr:=hreg (by omega)
  exact(zqi hr (sol_eq (zff (B:=fun i _=>bqE mb c l i) hr)) hj).trans (zqi hr hx hj).symm
theorem rsum_sm {c:RC} {l:List Nat} {mb:Bool} {x:Nat->Rat} (hv:zzp c) (h:zvq c l) (hs:SmC c) (hb:∀i,i<l.length->over 720 230400 (bqE mb c l i)) (hx:∀i,i<l.length->sg l.length (fun j=>zis c l i j*x j)=bqE mb c l i)
 {S:Rat} (hS:over 720 230400 S):RsumP c l x S:=by
 have hk:=zxq h
 have h5:l.length<=5:=by have:=zft h;have:=hs.n5;omega
 have hc:=znv hv h hs hb hx
 obtain⟨E,hE,hEb,hX⟩:=sm_x hv h hs hb hx
 have hEx:E<2^4096:=Nat.lt_trans hEb (zcu (by decide))
 have hE3:720*E≠0:=Nat.mul_ne_zero (by decide) hE
 have hE2:720*E<2^4096:=by
  have h1:720*E<=720*2^220:=zML _ (Nat.le_of_lt hEb)
  exact Nat.lt_trans (zLL h1 pow_a) (zcu (by decide))
 refine⟨fun i hi=>(hX i hi).fits hE (zcu (by decide)) hEx,hc.fp,fun k hk2=> ?_⟩
 have h1:over (720*E) (k*(28800*2^240)) (sg k fun i=>(qs c.start).getD (l.getD i 0) 0*x i):=over.sg hE3 fun i hi=>over.mul (hs.s _ (hk.lt _ (zcq (by omega)))) (hX i (by omega))
 have h2:over (720*E) (230400*E) S:=hS.scale hE
 have h3:=over.add hE3 h2 h1
 have h4:230400*E+k*(28800*2^240)<2^280:=by
  have h6:k*(28800*2^240)<=5*(28800*2^240):=zMR _ (by omega)
  have h7:230400*E<=230400*2^220:=zML _ (Nat.le_of_lt hEb)
  have h8:=pow_b
  rw[Nat.add_comm]at h8
  exact zLL (Nat.add_le_add h7 h6) h8
 exact h3.fits hE3 (Nat.lt_trans h4 (zcu (a:=280) (by decide))) hE2
theorem rhit_sm {c:RC} {H:Nat->Rat} (hv:zzp c) (hs:SmC c) (hH:HitC c H):∀l,zvq c l->∃x,RsolP c l false/\(∀j,j<l.length->refX false c l j=x j)/\RsumP c l x (lst c c.rates.length)/\lst c c.rates.length+sg l.length (fun i=>(qs c.start).getD (l.getD i 0) 0*x i)=stS c H:=by
 intro l h
 have hk:=zxq h
 have hb:∀i,i<l.length->over 720 230400 (bqE false c l i):=fun i hi=>zsv hs (hk.lt _ (zcq hi)) (zLR _)
 have hx:∀i,i<l.length->sg l.length (fun j=>zis c l i j*(fun i=>H (l.getD i 0)) j)=bqE false c l i:=fun i hi=>alive_hit hv h hH hi
 obtain⟨k1,k2⟩:=rsolp_sm hv h hs hb hx
 exact⟨_,k1,k2,rsum_sm hv h hs hb hx (zqw hs (zLR _)),by rw[Rat.add_comm];exact hit_sum hv h hH⟩
theorem rmean_sm {c:RC} {T:Nat->Rat} (hv:zzp c) (hs:SmC c) (hT:TimeC c T):(∀j,j<c.rates.length->Rch c j->Ftl c j)->∀l,zvq c l->∃x,RsolP c l true/\(∀j,j<l.length->refX true c l j=x j)/\RsumP c l x 0/\0+sg l.length (fun i=>(qs c.start).getD (l.getD i 0) 0*x i)=stS c T:=by
 intro hall l h
 have h1:over 720 230400 1:=(over.one (D:=720) (by decide)).mono (by decide)
 have hx:∀i,i<l.length->sg l.length (fun j=>zis c l i j*(fun i=>T (l.getD i 0)) j)=bqE true c l i:=fun i hi=>zjw hv h hall hT hi
 obtain⟨k1,k2⟩:=rsolp_sm (mb:=true) hv h hs (fun _ _=>h1) hx
 exact⟨_,k1,k2,rsum_sm (mb:=true) hv h hs (fun _ _=>h1) hx ((over.zero 720 0).mono (by decide)),by rw[Rat.zero_add];exact time_sum hv h hall hT⟩
theorem TC.rhit_c {c:CQ} {H T:Nat->Rat} (h:TC c H T) {va:Value} {w:World} (ha:zlq w va c):Calls Tryz.prog 121 #[va] w (RF0 w (stS c.raw H)):=
 rhit_any va c _ w ha h.tape.valid (fun k hk=>zgw (zqw h.tape.sm hk) (Nat.lt_trans (show 230400<2^18 by decide) (zcu (by decide)))) (rhit_sm h.tape.valid h.tape.sm h.hit.hit)
theorem TC.rmean_c {c:CQ} {H T:Nat->Rat} (h:TC c H T) {va:Value} {w:World} (ha:zlq w va c):Calls Tryz.prog 122 #[va] w (zjy w (AllS c.raw) (stS c.raw T)):=
 (rmean_any va c _ w ha h.tape.valid (rmean_sm h.tape.valid h.tape.sm h.time.time)).mono fun _ _ k=>k.f
end Go.Proofs.YtlpdkbmmbdfoiaaGreat
namespace Go.Proofs.YtlpdkbmmbdfoiaaGreat
open Go.RowKit
theorem zsy (a b:Nat) (y z:Int) (w:World) (hy:y=(a:Int)) (hz:z=(b:Int)) (ha:a<4294967296) (hb:b<4294967296) (hb0:b≠0):
 Calls Tryz.prog 18 #[.int .i64 y, .int .i64 z] w (RF0 w (fq false a b)):=by subst hy;subst hz;exact zgf a b w ha hb hb0
theorem zero_chain (w:World):zdq w (.agg #[.slice none 0 0, .slice none 0 0, .slice none 0 0]) ⟨[],[],[]⟩:=
 ⟨_,_,_,rfl,⟨zgc.nil,rfl,fun j h=>by simp at h⟩,zni.nil w,⟨zgc.nil,rfl,fun j h=>by simp at h⟩⟩
theorem posR_of {q:Rat} (hf:fits q) (hq:0<q):zfr (decide (q<0)) q.num.natAbs q.den:=by
 refine⟨zuc hf,decide_eq_false (fun h=>absurd (Rat.le_of_lt h) (Rat.not_le.2 hq)),fun h=> ?_⟩
 have h3:q=0:=Rat.num_eq_zero.1 (Int.natAbs_eq_zero.1 h)
 rw[h3]at hq;exact absurd hq (by decide)
theorem zuu {c:CQ} (ht:zrr c):∀i,i<c.raw.rates.length->∀q∈zaq c.raw i,zeu 2304 q:=fun i hi q hq=>by
 have hqv:=ht.valid
 have hm:c.raw.rates.length=c.start.length:=hqv.2.2.2.1.trans (by simp[CQ.raw])
 obtain⟨j,hj,rfl⟩:=List.getElem_of_mem hq
 have hl:=zix hqv (i:=i) (by have:=hqv.2.2.1;have:=hqv.2.2.2.1;omega)
 have e1:(zaq c.raw i)[j]=(c.rates.getD i []).getD j 0:=by
  have :zaq c.raw i=c.rates.getD i []:=zkr c i
  simp only[this,zGD (l:=c.rates.getD i [])]
  rw[zGE (by rw[<-this];exact hj)]
  rfl
 rw[e1]
 have hll9:c.raw.lost.length=c.start.length:=hqv.2.2.1.trans (by simp[CQ.raw])
 obtain⟨a,ha,e2⟩:=(ht.rate (i:=i) (j:=j) (by omega) (by omega)).twelve
 rw[e2,zjr a 12 12 (by decide)]
 exact⟨a*12,by omega,rfl⟩
theorem mass_rate {c:CQ} (ht:zrr c) (e:Nat) (he:e<=4):∃R,R<=23328/\zyp c.raw c.raw.rates.length+fq false e 2=mkRat ((R:Nat):Int) 144/\(e≠0->R≠0):=by
 have hqv:=ht.valid
 have hm:c.raw.rates.length=c.start.length:=hqv.2.2.2.1.trans (by simp[CQ.raw])
 obtain⟨A,hA,hAe⟩:zeu 23040 (zyp c.raw c.raw.rates.length):=zyy (P:=zeu 23040) (zeu.zero _) fun i hi=>big_sum hqv (by have:=ht.n5;omega) (zuu ht) hi
 refine⟨A+72*e,by omega,?_,fun h=>by omega⟩
 rw[hAe,zjr e 2 72 (by decide),mk_fq,mk_fq,Rat.mkRat_add_mkRat _ _ (by decide) (by decide),<-Int.add_mul]
 rw[show(A+72*e:Nat)=A+e*72 by omega]
 exact Rat.mkRat_mul_right (by decide)
theorem fq_nn (n d:Nat) (hd:d≠0):0<=fq false n d:=Rat.not_lt.1 (of_decide_eq_false (zqu false n d hd))
theorem start_over {c:CQ} (ht:zrr c):∀q∈qs c.raw.start,over 12 48 q:=fun q hq=>by
 have e:qs c.raw.start=c.start:=zbu _
 rw[e]at hq
 obtain⟨a,ha,rfl⟩:=(ht.st q hq).twelve
 exact⟨a,rfl,by simpa using ha⟩
theorem it_over {c:RC} {R:Nat} (hR0:R≠0) {ρ:Rat} (ho:∀i j,i<c.rates.length->j<c.rates.length->over R 48672 (zfq c ρ i j)) (hs:∀q∈qs c.start,over 12 48 q) (h5:c.rates.length<=5):∀k,∀q∈itV c ρ k,over (12*R^k) (48*243360^k) q
 | 0=>fun q hq=>by simpa using hs q hq
 | k+1=>fun q hq=>by
   have h:=stepV_over (c:=c) (R:=R) (D:=12*R^k) (B:=48*243360^k) (Nat.mul_ne_zero (by decide) (Nat.ne_of_gt (Nat.pow_pos (Nat.pos_of_ne_zero hR0)))) hR0 ho (it_over hR0 ho hs h5 k) q hq
   rw[Nat.pow_succ,<-Nat.mul_assoc]
   refine h.mono ?_
   rw[Nat.pow_succ,<-Nat.mul_assoc,Nat.mul_assoc]
   calc c.rates.length*(48*243360^k*48672)<=5*(48*243360^k*48672):=zMR _ h5
    _=48*(243360^k*243360):=by omega
structure MassS (c:RC) (ρ:Rat):Prop where
 fρ:fits ρ
 pos:0<ρ
 le:zyp c c.rates.length<=ρ
 h1:∀i j,i<c.rates.length->j<c.rates.length->fits ((zaq c i).getD j 0/ρ)
 h2:∀i,i<c.rates.length->fits (zgg (zaq c i)/ρ)/\fits (1-zgg (zaq c i)/ρ)
 hw:∀k,k<=4->wtA c ρ k<=3800
 fv:∀k,k<=4->∀q∈itV c ρ k,fits q
 fs:∀k,k<=4->∀ (p:Nat->Prop) [DecidablePred p] (m:Nat),m<=5->fits (sg m fun i=>if p i then(itV c ρ k).getD i 0 else 0)
theorem pow5 {R k:Nat} (hR0:R≠0) (hR:R<=23328) (hk:k<=4):12*R^k<2^64/\48*243360^k<2^80:=by
 have h1:R^k<=23328^4:=zLT (Nat.pow_le_pow_left hR k) (Nat.pow_le_pow_right (by decide) hk)
 have h2:243360^k<=243360^4:=Nat.pow_le_pow_right (by decide) hk
 exact⟨zLL (zML _ h1) (by decide+kernel),zLL (zML _ h2) (by decide+kernel)⟩
theorem mass_of {c:CQ} (ht:zrr c) {R:Nat} (hR0:R≠0) (hR:R<=23328) (hle:zyp c.raw c.raw.rates.length<=mkRat ((R:Nat):Int) 144):MassS c.raw (mkRat ((R:Nat):Int) 144):=by
 have hqv:=ht.valid
 have hm:c.raw.rates.length=c.start.length:=hqv.2.2.2.1.trans (by simp[CQ.raw])
 have h5:c.raw.rates.length<=5:=by have:=ht.n5;omega
 obtain⟨hok,ho⟩:=stepOk_of (c:=c.raw) hqv (by omega) (zuu ht) hR0 hR hle (v:= []) (by decide)
 have hit:=it_over (c:=c.raw) hR0 ho (start_over ht) h5
 have hD:∀k,12*R^k≠0:=fun k=>Nat.mul_ne_zero (by decide) (Nat.ne_of_gt (Nat.pow_pos (Nat.pos_of_ne_zero hR0)))
 refine⟨hok.fρ,hok.pos,hle,hok.h1,hok.h2,fun k hk=> ?_,fun k hk q hq=> ?_,fun k hk p _ m hm5=> ?_⟩
 ·obtain⟨p1,p2⟩:=pow5 hR0 hR hk
  have h1:wtF c.raw.rates.length c.raw.rates.length (zfq c.raw (mkRat ((R:Nat):Int) 144))<=c.raw.rates.length*(c.raw.rates.length*31):=wtF_le fun i j hi hj=>
   over.wt (a:=16) (b:=15) hR0 (ho i j hi hj) (by decide) (by omega)
  have h2:c.raw.rates.length*(c.raw.rates.length*31)<=5*(5*31):=Nat.mul_le_mul h5 (zMR _ h5)
  have h3:wts (itV c.raw (mkRat ((R:Nat):Int) 144) k)<=_:=ztu (K:=144) fun q hq=>(hit k q hq).wt (a:=80) (b:=64) (hD k) p2 p1
  rw[znq hqv]at h3
  unfold wtA
  omega
 ·obtain⟨p1,p2⟩:=pow5 hR0 hR hk
  exact(hit k q hq).fits (hD k) (Nat.lt_trans p2 (zcu (by decide))) (Nat.lt_trans p1 (zcu (by decide)))
 ·obtain⟨p1,p2⟩:=pow5 hR0 hR hk
  have h1:over (12*R^k) (m*(48*243360^k)) (sg m fun i=>if p i then(itV c.raw (mkRat ((R:Nat):Int) 144) k).getD i 0 else 0):=over.sg (hD k) fun i hi=>by
   split
   ·by_cases h2:i<(itV c.raw (mkRat ((R:Nat):Int) 144) k).length
    ·rw[zGD,zGE h2];exact hit k _ (zGM h2)
    ·rw[zGD,List.getElem?_eq_none (by omega)];exact over.zero _ _
   ·exact over.zero _ _
  have h2:m*(48*243360^k)<=5*2^80:=Nat.mul_le_mul hm5 (Nat.le_of_lt p2)
  exact h1.fits (hD k) (zLL h2 (Nat.lt_trans (show 5*2^80<2^90 by decide+kernel) (zcu (by decide)))) (Nat.lt_trans p1 (zcu (by decide)))
theorem MassS.after {c:RC} {ρ:Rat} (h:MassS c ρ) (hv:zzp c) {va vx:Value} {w:World} (ha:zdq w va c) (hx:zqa w vx ρ) {m:Nat} (hm:m<=5):
 Calls Tryz.prog 48 #[va,vx, .int .i64 (m:Nat)] w (fun e w'=>∃v,e= .returned (.tuple #[v, .int .i64 0])/\zbb w' v (itV c ρ m)/\Below w.heap.size w w'):=
 after_ok va vx c _ _ _ ρ m w ha hv hx.raw (posR_of h.fρ h.pos) (zvb ρ) (by omega) h.le h.h1 h.h2 (fun i hi=>h.hw i (by omega))
abbrev cTh :CQ:=cTwo (mkRat 1 3)
theorem cTh_r :(cTh.rates.getD 0 []).getD 0 0=0/\(cTh.rates.getD 0 []).getD 1 0=mkRat 1 3:=⟨rfl,rfl⟩
theorem third_pos :(0:Rat)<mkRat 1 3:=by decide+kernel
theorem cTh_sure {H T:Nat->Rat} (h:TC cTh H T):SureQ cTh 0:=fun t ht=>by
 have hn:cTh.raw.rates.length=2:=rfl
 have h1:FT cTh.raw.rates.length (rq cTh.raw) (ziq cTh.raw) 1:=Clo.base (by decide) rfl
 have h0:FT cTh.raw.rates.length (rq cTh.raw) (ziq cTh.raw) 0:=Clo.step h1 (by decide) (by
  show 0<rq cTh.raw 0 1
  rw[zju,cTh_r.2]
  exact third_pos)
 have hlt:=Clo.lt ht
 rw[hn]at hlt
 rcases(show t=0\/t=1 by omega)with rfl | rfl
 ·exact h0
 ·exact h1
theorem two_hm {H T:Nat->Rat} (h:TC cTh H T):stS cTh.raw H=1/\stS cTh.raw T=3/\AllS cTh.raw:=by
 have l1:=h.lost_h (i:=1) (by decide) rfl
 have e1:=h.eq_h (i:=0) (by decide) rfl
 have e2:=h.eq_t (i:=0) (by decide) rfl (cTh_sure h)
 have hl:cTh.start.length=2:=rfl
 have s0:cTh.start.getD 0 0=1:=rfl
 have s1:cTh.start.getD 1 0=0:=rfl
 obtain⟨r0,r1⟩:=cTh_r
 rw[h.sH,h.sT]
 rw[hl]at e1 e2 |-
 have m3:(3:Rat)*mkRat 1 3=1:=by decide+kernel
 simp only[sg,r0,r1,s0,s1,l1.1,l1.2.1]at e1 e2 |-
 refine⟨?_,?_,h.alls.2 fun s hs h0=> ?_⟩
 ·grind
 ·grind
 ·rw[hl]at hs
  rcases(show s=0\/s=1 by omega)with rfl | rfl
  ·exact cTh_sure h
  ·rw[s1]at h0;exact absurd h0 (by decide)
theorem third_R :mkRat ((48:Nat):Int) 144=mkRat 1 3:=by decide+kernel
theorem cTh_mass :MassS cTh.raw (mkRat 1 3):=by
 have h:=mass_of (c:=cTh) zhs (R:=48) (by decide) (by decide) (by decide+kernel)
 rwa[third_R]at h
theorem cTh_it :itV cTh.raw (mkRat 1 3) 1= [0,1]:=by decide+kernel
theorem cTh_hit {va:Value} {w:World} (ha:zlq w va cTh):Calls Tryz.prog 43 #[va] w (RF0 w 1):=by
 obtain⟨H,T,h⟩:=tape_tc zhs
 have k:=h.hit_c ha.raw
 rwa[(two_hm h).1]at k
theorem cTh_mean {va:Value} {w:World} (ha:zlq w va cTh):Calls Tryz.prog 45 #[va] w (RF0 w 3):=by
 obtain⟨H,T,h⟩:=tape_tc zhs
 have k:=h.mean_c ha.raw
 rw[(two_hm h).2.1]at k
 exact k.mono fun _ _ h1=>by
  rcases h1 with h1 | ⟨h1,_⟩
  ·exact h1.2
  ·exact absurd (two_hm h).2.2 h1
theorem cTh_after {va vx:Value} {w:World} (ha:zlq w va cTh) (hx:zqa w vx (mkRat 1 3)):Calls Tryz.prog 48 #[va,vx, .int .i64 1] w (fun e w'=>∃v,e= .returned (.tuple #[v, .int .i64 0])/\zbb w' v [0,1]/\Below w.heap.size w w'):=by
 have k:=cTh_mass.after (m:=1) zhs.valid ha.raw hx (by decide)
 rw[cTh_it]at k
 exact k
theorem kept6 {w0 X Y:World} {a1 a2 a3 a4 a5 a6:Addr} {x1 x2 x3 x4 x5 x6:Value}
 (h:X.cell? a1=some x1/\X.cell? a2=some x2/\X.cell? a3=some x3/\X.cell? a4=some x4/\X.cell? a5=some x5/\X.cell? a6=some x6/\Below w0.heap.size w0 X)
 (hb:Below X.heap.size X Y):Y.cell? a1=some x1/\Y.cell? a2=some x2/\Y.cell? a3=some x3/\Y.cell? a4=some x4/\Y.cell? a5=some x5/\Y.cell? a6=some x6/\Below w0.heap.size w0 Y:=by
 obtain⟨k1,k2,k3,k4,k5,k6,k13⟩:=h
 exact⟨zba hb k1,zba hb k2,zba hb k3,zba hb k4,zba hb k5,zba hb k6,zaa k13 hb⟩
theorem kept6b {w0 X:World} {a1 a2 a3 a4 a5 a6:Addr} {x1 x2 x3 x4 x5 x6:Value}
 (h:X.cell? a1=some x1/\X.cell? a2=some x2/\X.cell? a3=some x3/\X.cell? a4=some x4/\X.cell? a5=some x5/\X.cell? a6=some x6/\Below w0.heap.size w0 X):Below w0.heap.size w0 X:=h.2.2.2.2.2.2
theorem keep9 {w0 X Y:World} {a1 a2 a3 a4 a5 a6 a7 a8 a9:Addr} {x1 x2 x3 x4 x5 x6 x7 x8 x9:Value} (h:X.cell? a1=some x1/\X.cell? a2=some x2/\X.cell? a3=some x3/\X.cell? a4=some x4/\X.cell? a5=some x5/\X.cell? a6=some x6/\X.cell? a7=some x7/\X.cell? a8=some x8/\X.cell? a9=some x9/\Below w0.heap.size w0 X) (hb:Below X.heap.size X Y):Y.cell? a1=some x1/\Y.cell? a2=some x2/\Y.cell? a3=some x3/\Y.cell? a4=some x4/\Y.cell? a5=some x5/\Y.cell? a6=some x6/\Y.cell? a7=some x7/\Y.cell? a8=some x8/\Y.cell? a9=some x9/\Below w0.heap.size w0 Y:=by
 obtain⟨k1,k2,k3,k4,k5,k6,k7,k8,k9,k13⟩:=h
 exact⟨zba hb k1,zba hb k2,zba hb k3,zba hb k4,zba hb k5,zba hb k6,zba hb k7,zba hb k8,zba hb k9,zaa k13 hb⟩
theorem zwv {w0 X:World} {a1 a2 a3 a4 a5 a6 a7 a8 a9:Addr} {x1 x2 x3 x4 x5 x6 x7 x8 x9:Value} (h:X.cell? a1=some x1/\X.cell? a2=some x2/\X.cell? a3=some x3/\X.cell? a4=some x4/\X.cell? a5=some x5/\X.cell? a6=some x6/\X.cell? a7=some x7/\X.cell? a8=some x8/\X.cell? a9=some x9/\Below w0.heap.size w0 X):Below w0.heap.size w0 X:=h.2.2.2.2.2.2.2.2.2
theorem r2int_3 (w:World):Calls Tryz.prog 20 #[.int .i64 3] w (RF1 w 3):=by
 have h:=zdp 3 w (by decide)
 have e:fq false 3 1=3:=by decide+kernel
 rw[e]at h
 exact h
theorem r2make_13 (w:World):Calls Tryz.prog 18 #[.int .i64 1, .int .i64 3] w (RF0 w (mkRat 1 3)):=zsy 1 3 1 3 w rfl rfl (by decide) (by decide) (by decide)
set_option maxRecDepth 100000 in
set_option maxHeartbeats 6400000 in
theorem zoq (w:World):Calls Tryz.prog 46 #[] w (fun e w'=>e= .returned (.bool true)/\Below w.heap.size w w'):=by
 have HB:=zH (Below.refl w.heap.size w)
 go_enter Tryz.func46,Tryz.ntmps46
 go_upto_region 2 with(first
  |(go_at_call 18;(with_reducible refine(r2make_13 _).mono ?_);rintro e1 w1 ⟨v1,rfl,hv1,hb1⟩
    obtain⟨t1,x1,y1,rfl,⟨a11,l11,k11,rfl,_⟩,⟨a12,l12,k12,rfl,_⟩⟩:=hv1.isF
    have hba:=zca w1 (.cells #[.bool t1, .slice a11 l11 k11, .slice a12 l12 k12] 38)
    have hbb:=zaa hb1 hba
    have HC1:=zH (C3.new w1 38 (.bool t1) (.slice a11 l11 k11) (.slice a12 l12 k12))
    have HF1:=zH (hv1.below hba)
    replace HB:=zH (zaa HB.out hbb)
    clear hv1 hb1 hba hbb))
 obtain⟨b1,hb1⟩:∃b,w1.heap.size=b:=⟨_,rfl⟩
 rw[hb1]at HC1 |-
 clear hb1
 generalize w1.alloc (.cells #[.bool t1, .slice a11 l11 k11, .slice a12 l12 k12] 38)=W1 at *
 obtain⟨_,c0,c1,c2,_,_,_⟩:=HC1.out
 go_upto_region 3 with(first
  |(go_at_call 113;(with_reducible refine(two_any _ _ _ HF1.out).mono ?_);rintro e2 w2 ⟨v2,rfl,hv2,hb2⟩
    obtain⟨rv,sv,lv,rfl,hr,hs,hl⟩:=id hv2
    obtain⟨ra,rn,rk,rfl,_⟩:=id hr.sl
    obtain⟨sa,sn,sk,rfl,_⟩:=id hs.sl
    obtain⟨la,ln,lk,rfl,_⟩:=id (zhc.sl hl)
    have hba:=zca w2 (.cells #[.slice ra rn rk, .slice sa sn sk, .slice la ln lk] 28)
    have hbb:=zaa hb2 hba
    have HC2:=zH (C3.new w2 28 (.slice ra rn rk) (.slice sa sn sk) (.slice la ln lk))
    have HC:=zH (hv2.below hba)
    clear c0 c1 c2
    replace HB:=zH (zaa HB.out hbb);replace HC1:=zH (HC1.out.belowS hbb);replace HF1:=zH (HF1.out.below hbb)
    clear hr hs hl hv2 hb2 hba hbb))
 obtain⟨b2,hb2⟩:∃b,w2.heap.size=b:=⟨_,rfl⟩
 rw[hb2]at HC2 |-
 clear hb2
 generalize w2.alloc (.cells #[.slice ra rn rk, .slice sa sn sk, .slice la ln lk] 28)=W2 at *
 obtain⟨_,c0,c1,c2,_,_,_⟩:=HC2.out
 go_upto_region 4 with(first
  |(go_at_call 45;(with_reducible refine(cTh_mean HC.out).mono ?_);rintro e3 w3 ⟨v3,rfl,hv3,hb3⟩
    clear c0 c1 c2
    obtain⟨t3,x3,y3,rfl,⟨a31,l31,k31,rfl,_⟩,⟨a32,l32,k32,rfl,_⟩⟩:=hv3.isF
    have hba:=zca w3 (.cells #[.bool t3, .slice a31 l31 k31, .slice a32 l32 k32] 38)
    have hbb:=zaa hb3 hba
    have HC3:=zH (C3.new w3 38 (.bool t3) (.slice a31 l31 k31) (.slice a32 l32 k32))
    have HF3:=zH (hv3.below hba)
    replace HB:=zH (zaa HB.out hbb);replace HC1:=zH (HC1.out.belowS hbb);replace HF1:=zH (HF1.out.below hbb);replace HC2:=zH (HC2.out.belowS hbb);replace HC:=zH (HC.out.below hbb)
    clear hv3 hb3 hba hbb))
 obtain⟨b3,hb3⟩:∃b,w3.heap.size=b:=⟨_,rfl⟩
 rw[hb3]at HC3 |-
 clear hb3
 generalize w3.alloc (.cells #[.bool t3, .slice a31 l31 k31, .slice a32 l32 k32] 38)=W3 at *
 obtain⟨_,c0,c1,c2,_,_,_⟩:=HC2.out
 go_upto_region 5 with(first
  |(go_at_call 43;(with_reducible refine(cTh_hit HC.out).mono ?_);rintro e4 w4 ⟨v4,rfl,hv4,hb4⟩
    clear c0 c1 c2
    obtain⟨t4,x4,y4,rfl,⟨a41,l41,k41,rfl,_⟩,⟨a42,l42,k42,rfl,_⟩⟩:=hv4.isF
    have hba:=zca w4 (.cells #[.bool t4, .slice a41 l41 k41, .slice a42 l42 k42] 38)
    have hbb:=zaa hb4 hba
    have HC4:=zH (C3.new w4 38 (.bool t4) (.slice a41 l41 k41) (.slice a42 l42 k42))
    have HF4:=zH (hv4.below hba)
    replace HB:=zH (zaa HB.out hbb);replace HC1:=zH (HC1.out.belowS hbb);replace HF1:=zH (HF1.out.below hbb);replace HC2:=zH (HC2.out.belowS hbb);replace HC:=zH (HC.out.below hbb);replace HC3:=zH (HC3.out.belowS hbb);replace HF3:=zH (HF3.out.below hbb)
    clear hv4 hb4 hba hbb))
 obtain⟨b4,hb4⟩:∃b,w4.heap.size=b:=⟨_,rfl⟩
 rw[hb4]at HC4 |-
 clear hb4
 generalize w4.alloc (.cells #[.bool t4, .slice a41 l41 k41, .slice a42 l42 k42] 38)=W4 at *
 obtain⟨_,c0,c1,c2,_,_,_⟩:=HC2.out
 obtain⟨_,d0,d1,d2,_,_,_⟩:=HC1.out
 go_upto_region 6 with(first
  |(go_at_call 48;(with_reducible refine(cTh_after HC.out HF1.out).mono ?_);rintro e5 w5 ⟨v5,rfl,hv5,hb5⟩
    clear c0 c1 c2 d0 d1 d2
    have HV5:=zH hv5
    replace HB:=zH (zaa HB.out hb5);replace HC3:=zH (HC3.out.belowS hb5);replace HF3:=zH (HF3.out.below hb5);replace HC4:=zH (HC4.out.belowS hb5);replace HF4:=zH (HF4.out.below hb5)
    obtain⟨va5,vn5,vk5,rfl,_⟩:=id hv5.sl
    clear hv5 hb5))
 clear HC1 HF1 HC2 HC
 go_upto_region 7 with(first
  |(go_at_call 43;(with_reducible refine(hit_bad _ ⟨[],[],[]⟩ _ (zero_chain _) zero_bad).mono ?_);rintro e6 w6 ⟨rfl,hb6⟩
    have hba:=zca w6 (.cells #[.bool false, .slice none 0 0, .slice none 0 0] 38)
    have hbb:=zaa hb6 hba
    replace HB:=zH (zaa HB.out hbb);replace HC3:=zH (HC3.out.belowS hbb);replace HF3:=zH (HF3.out.below hbb);replace HC4:=zH (HC4.out.belowS hbb);replace HF4:=zH (HF4.out.below hbb);replace HV5:=zH (HV5.out.below hbb)
    clear hb6 hba hbb))
 generalize w6.alloc (.cells #[.bool false, .slice none 0 0, .slice none 0 0] 38)=W6 at *
 obtain⟨_,c0,c1,c2,_,_,_⟩:=HC3.out
 obtain⟨_,d0,d1,d2,_,_,_⟩:=HC4.out
 have S0:=zH (And.intro c0 (And.intro c1 (And.intro c2 (And.intro d0 (And.intro d1 (And.intro d2 (Below.refl W6.heap.size W6)))))))
 clear c0 c1 c2 d0 d1 d2 HC3 HC4
 have sv5:=HV5.out.sl
 go_region_held3 (fun w'=>w'.cell? ⟨b3,0,none⟩=some (.bool t3)/\w'.cell? ⟨b3,1,none⟩=some (.slice a31 l31 k31)/\w'.cell? ⟨b3,2,none⟩=some (.slice a32 l32 k32)/\
  w'.cell? ⟨b4,0,none⟩=some (.bool t4)/\w'.cell? ⟨b4,1,none⟩=some (.slice a41 l41 k41)/\w'.cell? ⟨b4,2,none⟩=some (.slice a42 l42 k42)/\
  Below W6.heap.size W6 w') (first
  | with_reducible exact kept6 S0.out (zja _)
  | with_reducible exact kept6 (by assumption) (zca _ _)
  | with_reducible exact kept6 (by assumption) (by assumption)) (first
  |(go_at_call 20;(with_reducible refine(r2int_3 _).mono ?_);rintro e7 w7 ⟨v7,rfl,hv7,hb7⟩)
  |(go_at_call 20;(with_reducible refine(zwi _).mono ?_);rintro e8 w8 ⟨v8,rfl,hv8,hb8⟩;obtain⟨t8,x8,y8,rfl,⟨a81,l81,k81,rfl,_⟩,⟨a82,l82,k82,rfl,_⟩⟩:=hv8.isF)
  |(go_at_call 20;(with_reducible refine(zas _).mono ?_);rintro e9 w9 ⟨v9,rfl,hv9,hb9⟩;obtain⟨t9,x9,y9,rfl,⟨a91,l91,k91,rfl,_⟩,⟨a92,l92,k92,rfl,_⟩⟩:=hv9.isF)
  |(go_at_call 61;(with_reducible refine(znt _ _ 3 3 _ (HF3.out.below (kept6b (by assumption))) hv7).mono ?_);rintro e10 w10 ⟨⟨q10,rfl,hq10⟩,hb10⟩;obtain rfl:q10=true:=hq10.2 rfl;clear hq10 hv7)
  |(go_at_call 61;(with_reducible refine(znt _ _ 1 1 _ (HF4.out.below (kept6b (by assumption))) (by first | assumption | exact hv9)).mono ?_);rintro e11 w11 ⟨⟨q11,rfl,hq11⟩,hb11⟩;obtain rfl:q11=true:=hq11.2 rfl;clear hq11)
  |(go_at_call 23;(with_reducible refine(znr _ _ [0,1] [0,1] _ (HV5.out.below (kept6b (by assumption))) (zbb.lit2 rfl (hv8.below (by assumption)) (by assumption))).mono ?_);rintro e12 w12 ⟨⟨q12,rfl,hq12⟩,hb12⟩;obtain rfl:q12=true:=hq12.2 rfl;clear hq12))
 all_goals
  have hEnd:=kept6b (by assumption)
  go_wp2_with fail
  go_ret
  exact⟨rfl,zaa HB.out hEnd⟩
set_option maxRecDepth 100000 in
set_option maxHeartbeats 1600000 in
theorem zov (va:Value) (c:RC) (w:World) (ha:zdq w va c) (hv:zzp c):Calls Tryz.prog 47 #[va] w (RF0 w (zyp c c.rates.length)):=by
 obtain⟨rv,sv,lv,rfl,hr,hs,hlo⟩:=id ha
 obtain⟨ra,rn,rk,rfl,_⟩:=id hr.sl
 obtain⟨sa,sn,sk,rfl,_⟩:=id hs.sl
 obtain⟨la,ln,lk,rfl,_⟩:=id (zhc.sl hlo)
 have hbx:=zca w (.cells #[.slice ra rn rk, .slice sa sn sk, .slice la ln lk] 28)
 have hb2:=zca (w.alloc (.cells #[.slice ra rn rk, .slice sa sn sk, .slice la ln lk] 28)) (.cells #[.bool false, .slice none 0 0, .slice none 0 0] 38)
 have HC:=zH ((C3.new w 28 (.slice ra rn rk) (.slice sa sn sk) (.slice la ln lk)).belowS hb2)
 have HR:=zH (C3.newB (b:=w.heap.size+1) (w.alloc (.cells #[.slice ra rn rk, .slice sa sn sk, .slice la ln lk] 28)) 38 (.bool false) (.slice none 0 0) (.slice none 0 0) (by simp))
 have HBW:=zH (zaa hbx hb2)
 have HA:=zH (ha.below HBW.out)
 have HV:=zH hv
 clear hr hs hlo ha hv hbx hb2
 go_enter Tryz.func47,Tryz.ntmps47
 go_upto_region 1 with fail
 generalize (w.alloc (.cells #[.slice ra rn rk, .slice sa sn sk, .slice la ln lk] 28)).alloc (.cells #[.bool false, .slice none 0 0, .slice none 0 0] 38)=W2 at *
 obtain⟨_,c0,c1,c2,_,_,_⟩:=HC.out
 go_wp2_with (first
  |(go_at_call 68;(with_reducible refine(zar _ c _ HA.out).mono ?_);rintro e2 w2 ⟨⟨b2,rfl,hv2⟩,hb2⟩;obtain rfl:b2=true:=hv2.2 HV.out;clear hv2
    have c0:=zba hb2 c0
    have c1:=zba hb2 c1
    have c2:=zba hb2 c2
    have HA2:=zH (HA.out.below hb2))
  |(go_at_call 114;(with_reducible refine(zvv _ c _ HA2.out HV.out).mono ?_);rintro e3 w3 ⟨v3,rfl,hv3,hb3⟩
    obtain⟨t3,x3,y3,rfl,⟨a31,l31,k31,rfl,_⟩,⟨a32,l32,k32,rfl,_⟩⟩:=hv3.isF
    have HB3:=zH (zaa hb2 hb3)
    have HV3:=zH hv3
    have HR3:=zH (HR.out.belowS HB3.out)
    obtain⟨_,r0,r1,r2,q0,q1,q2⟩:=HR3.out))
 refine zoa rfl rfl Tryz.aggF Tryz.sizeF (HR3.out.set _ _ _) rfl ?_
 exact⟨_,rfl,HV3.out.set3 HR3.out (fun z=>by simp) (fun z=>by simp) _ _ _,zga (zaa HBW.out HB3.out) (Nat.le_succ _) _ _ _⟩
set_option maxHeartbeats 12800000
def LimV (w:World) (v:Value) (s:Bool) (a b:List Nat):Prop:=
 ∃ (xa:Option Addr) (xn xk:Nat) (ya:Option Addr) (yn yk:Nat),v= .agg #[.bool s, .slice xa xn xk, .slice ya yn yk]/\zfc w (.slice xa xn xk) a/\zfc w (.slice ya yn yk) b
theorem LimV.below {w w':World} {v:Value} {s:Bool} {a b:List Nat} (h:LimV w v s a b) (hb:Below w.heap.size w w'):LimV w' v s a b:=by
 obtain⟨xa,xn,xk,ya,yn,yk,h1,h2,h3⟩:=h
 exact⟨xa,xn,xk,ya,yn,yk,h1,h2.below hb,h3.below hb⟩
def RLim (w0:World) (s:Bool) (a b:List Nat) (er:Int) (e:Ending) (w:World):Prop:=∃v,e= .returned (.tuple #[v, .int .i64 er])/\LimV w v s a b/\Below w0.heap.size w0 w
theorem zqa.lim {w:World} {v:Value} {q:Rat} (h:zqa w v q):LimV w v (decide (q<0)) (zla q.num.natAbs) (zla q.den):=by
 obtain⟨a,b,rfl,h1,h2⟩:=h
 obtain⟨a1,a2,a3,rfl,_⟩:=h1.v.sl
 obtain⟨b1,b2,b3,rfl,_⟩:=h2.v.sl
 exact⟨_,_,_,_,_,_,rfl,h1.v,h2.v⟩
theorem RF0.lim {w0:World} {q:Rat} {e:Ending} {w:World} (h:RF0 w0 q e w):RLim w0 (decide (q<0)) (zla q.num.natAbs) (zla q.den) 0 e w:=by
 obtain⟨v,h1,h2,h3⟩:=h
 exact⟨v,h1,h2.lim,h3⟩
theorem LimV.zero (w:World):LimV w (.agg #[.bool false, .slice none 0 0, .slice none 0 0]) false [] []:=⟨_,_,_,_,_,_,rfl,⟨zgc.nil,rfl,fun j h=>by simp at h,by simp[Lm]⟩,⟨zgc.nil,rfl,fun j h=>by simp at h,by simp[Lm]⟩⟩
theorem zjy.lim {w0:World} {P:Prop} {R:Rat} {e:Ending} {w:World} (h:zjy w0 P R e w):(P->RLim w0 (decide (R<0)) (zla R.num.natAbs) (zla R.den) 0 e w)/\(¬P->RLim w0 false [] [] 14 e w):=by
 rcases h with⟨h1,h2⟩ | ⟨h1,rfl,h3⟩
 ·exact⟨fun _=>h2.lim,fun h=>absurd h1 h⟩
 ·exact⟨fun h=>absurd h h1,fun _=>⟨_,rfl,LimV.zero _,h3⟩⟩
set_option maxRecDepth 100000 in
theorem zow (va vb:Value) (s:Bool) (x z:List Nat) (w:World) (ha:LimV w va s x z) (hb:LimV w vb s x z):
 Calls Tryz.prog 61 #[va,vb] w (fun e w'=>e= .returned (.bool true)/\Below w.heap.size w w'):=by
 obtain⟨a1a,a1n,a1c,a2a,a2n,a2c,rfl,n1,n2⟩:=ha
 obtain⟨b1a,b1n,b1c,b2a,b2n,b2c,rfl,m1,m2⟩:=hb
 have hbx:=zca w (.cells #[.bool s, .slice a1a a1n a1c, .slice a2a a2n a2c] 38)
 have hbx:=(hbx.alloc hbx.size (.cells #[.bool s, .slice b1a b1n b1c, .slice b2a b2n b2c] 38))
 have n1:=n1.below hbx
 have n2:=n2.below hbx
 have m1:=m1.below hbx
 have m2:=m2.below hbx
 have hC:=(C3.new w 38 (.bool s) (.slice a1a a1n a1c) (.slice a2a a2n a2c)).allocS (.cells #[.bool s, .slice b1a b1n b1c, .slice b2a b2n b2c] 38)
 have hD:=C3.new (w.alloc (.cells #[.bool s, .slice a1a a1n a1c, .slice a2a a2n a2c] 38)) 38 (.bool s) (.slice b1a b1n b1c) (.slice b2a b2n b2c)
 rw[show(w.alloc (.cells #[.bool s, .slice a1a a1n a1c, .slice a2a a2n a2c] 38)).heap.size=w.heap.size+1 from by simp]at hD
 have tok:True:=trivial
 go_enter Tryz.func61,Tryz.ntmps61
 go_wp2_with (first
  |(go_at_call 140;have _t:=tok;(with_reducible refine(zrh _ _ x x _ n1 m1).mono ?_);rintro e1 w1 ⟨⟨r1,rfl,h1⟩,hbel1⟩;obtain rfl:r1=true:=h1.2 rfl;clear h1 tok _t
    have n3:=n2.below hbel1
    have m3:=m2.below hbel1
    obtain⟨_,c0,c1,c2,_,_,_⟩:=hC.belowS hbel1
    obtain⟨_,d0,d1,d2,_,_,_⟩:=hD.belowS hbel1)
  |(go_at_call 140;(with_reducible refine(zrh _ _ z z _ n3 m3).mono ?_);rintro e2 w2 ⟨⟨r2,rfl,h2⟩,hbel2⟩;obtain rfl:r2=true:=h2.2 rfl;clear h2))
 go_ret
 exact⟨rfl,(hbx.trans (hbel1.mono hbx.size)).trans (hbel2.mono (hbx.trans (hbel1.mono hbx.size)).size)⟩
structure AgrF (c:CQ) (sL:Bool) (aL bL:List Nat) (sH:Bool) (aH bH:List Nat) (sM:Bool) (aM bM:List Nat) (eM:Int) (l:List Int):Prop where
 lc:∀w va,zlq w va c->Calls Tryz.prog 47 #[va] w (RLim w sL aL bL 0)
 lr:∀w va,zlq w va c->Calls Tryz.prog 17 #[va] w (RLim w sL aL bL 0)
 ac:∀w va,zlq w va c->Calls Tryz.prog 119 #[va] w (fun e w'=>∃v,e= .returned (.tuple #[v, .int .i64 0])/\zgv w' v l/\Below w.heap.size w w')
 ar:∀w va,zlq w va c->Calls Tryz.prog 120 #[va] w (fun e w'=>∃v,e= .returned (.tuple #[v, .int .i64 0])/\zgv w' v l/\Below w.heap.size w w')
 vc:∀w va,zlq w va c->Calls Tryz.prog 68 #[va] w (fun e w'=>e= .returned (.bool true)/\Below w.heap.size w w')
 vr:∀w va,zlq w va c->Calls Tryz.prog 69 #[va] w (fun e w'=>e= .returned (.bool true)/\Below w.heap.size w w')
 hc:∀w va,zlq w va c->Calls Tryz.prog 43 #[va] w (RLim w sH aH bH 0)
 hr:∀w va,zlq w va c->Calls Tryz.prog 121 #[va] w (RLim w sH aH bH 0)
 mc:∀w va,zlq w va c->Calls Tryz.prog 45 #[va] w (RLim w sM aM bM eM)
 mr:∀w va,zlq w va c->Calls Tryz.prog 122 #[va] w (RLim w sM aM bM eM)
set_option maxRecDepth 100000 in
theorem zkw (va:Value) (c:CQ) (sL:Bool) (aL bL:List Nat) (sH:Bool) (aH bH:List Nat) (sM:Bool) (aM bM:List Nat) (eM:Int) (l:List Int) (w:World) (ha:zlq w va c) (hF:AgrF c sL aL bL sH aH bH sM aM bM eM l):
 Calls Tryz.prog 52 #[va] w (fun e w'=>e= .returned (.bool true)/\Below w.heap.size w w'):=by
 obtain⟨rv,sv,lv,rfl,hr,hs,hl⟩:=id ha
 obtain⟨ra,rn,rk,rfl,_⟩:=id hr.sl
 obtain⟨sa,sn,sk,rfl,_⟩:=id hs.sl
 obtain⟨la,ln,lk,rfl,_⟩:=id (zhc.sl hl)
 have HB:=zH (zca w (.cells #[.slice ra rn rk, .slice sa sn sk, .slice la ln lk] 28))
 have HC0:=zH (C3.new w 28 (.slice ra rn rk) (.slice sa sn sk) (.slice la ln lk))
 have HA:=zH (ha.below HB.out)
 have HF:=zH hF
 have q1:(eM==eM)=true:=by simp
 have q3:(eM != eM)=false:=by simp
 clear hr hs hl ha hF
 go_enter Tryz.func52,Tryz.ntmps52
 go_upto_region 1 with fail
 obtain⟨b0,hb0⟩:∃b,w.heap.size=b:=⟨_,rfl⟩
 rw[hb0]at HC0 |-
 clear hb0
 generalize w.alloc (.cells #[.slice ra rn rk, .slice sa sn sk, .slice la ln lk] 28)=W0 at *
 obtain⟨_,c0,c1,c2,_,_,_⟩:=HC0.out
 go_upto_region 2 with(first
  |(go_at_call 47;(with_reducible refine(HF.out.lc _ _ HA.out).mono ?_);rintro e1 w1 ⟨v1,rfl,hv1,hb1⟩
    obtain⟨a11,l11,k11,a12,l12,k12,rfl,hx1,hy1⟩:=id hv1
    obtain⟨_,_,_,he1,_⟩:=id hx1.sl
    have hba:=zca w1 (.cells #[.bool sL, .slice a11 l11 k11, .slice a12 l12 k12] 38)
    have hbb:=zaa hb1 hba
    have HC1:=zH (C3.new w1 38 (.bool sL) (.slice a11 l11 k11) (.slice a12 l12 k12))
    have HF1:=zH (hv1.below hba)
    clear c0 c1 c2
    replace HB:=zH (zaa HB.out hbb);replace HC0:=zH (HC0.out.belowS hbb);replace HA:=zH (HA.out.below hbb)
    clear hv1 hb1 hba hbb hx1 hy1 he1))
 obtain⟨b1,hb1⟩:∃b,w1.heap.size=b:=⟨_,rfl⟩
 rw[hb1]at HC1 |-
 clear hb1
 generalize w1.alloc (.cells #[.bool sL, .slice a11 l11 k11, .slice a12 l12 k12] 38)=W1 at *
 obtain⟨_,c0,c1,c2,_,_,_⟩:=HC0.out
 go_upto_region 3 with(first
  |(go_at_call 17;(with_reducible refine(HF.out.lr _ _ HA.out).mono ?_);rintro e2 w2 ⟨v2,rfl,hv2,hb2⟩
    obtain⟨a21,l21,k21,a22,l22,k22,rfl,hx2,hy2⟩:=id hv2
    obtain⟨_,_,_,he2,_⟩:=id hx2.sl
    have hba:=zca w2 (.cells #[.bool sL, .slice a21 l21 k21, .slice a22 l22 k22] 38)
    have hbb:=zaa hb2 hba
    have HC2:=zH (C3.new w2 38 (.bool sL) (.slice a21 l21 k21) (.slice a22 l22 k22))
    have HF2:=zH (hv2.below hba)
    clear c0 c1 c2
    replace HB:=zH (zaa HB.out hbb);replace HC0:=zH (HC0.out.belowS hbb);replace HA:=zH (HA.out.below hbb);replace HC1:=zH (HC1.out.belowS hbb);replace HF1:=zH (HF1.out.below hbb)
    clear hv2 hb2 hba hbb hx2 hy2 he2))
 obtain⟨b2,hb2⟩:∃b,w2.heap.size=b:=⟨_,rfl⟩
 rw[hb2]at HC2 |-
 clear hb2
 generalize w2.alloc (.cells #[.bool sL, .slice a21 l21 k21, .slice a22 l22 k22] 38)=W2 at *
 obtain⟨_,c0,c1,c2,_,_,_⟩:=HC0.out
 go_upto_region 5 with(first
  |(go_at_call 119;(with_reducible refine(HF.out.ac _ _ HA.out).mono ?_);rintro e3 w3 ⟨v3,rfl,hv3,hb3⟩
    have HV3:=zH hv3
    have sv3:=zhc.sl hv3
    clear c0 c1 c2
    replace HB:=zH (zaa HB.out hb3);replace HC0:=zH (HC0.out.belowS hb3);replace HA:=zH (HA.out.below hb3);replace HC1:=zH (HC1.out.belowS hb3);replace HF1:=zH (HF1.out.below hb3);replace HC2:=zH (HC2.out.belowS hb3);replace HF2:=zH (HF2.out.below hb3)
    clear hv3 hb3
    obtain⟨_,c0,c1,c2,_,_,_⟩:=HC0.out)
  |(go_at_call 120;(with_reducible refine(HF.out.ar _ _ HA.out).mono ?_);rintro e4 w4 ⟨v4,rfl,hv4,hb4⟩
    have HV4:=zH hv4
    have sv4:=zhc.sl hv4
    clear c0 c1 c2
    replace HB:=zH (zaa HB.out hb4);replace HC0:=zH (HC0.out.belowS hb4);replace HA:=zH (HA.out.below hb4);replace HC1:=zH (HC1.out.belowS hb4);replace HF1:=zH (HF1.out.below hb4);replace HC2:=zH (HC2.out.belowS hb4);replace HF2:=zH (HF2.out.below hb4);replace HV3:=zH (HV3.out.below hb4)
    clear hv4 hb4
    obtain⟨_,c0,c1,c2,_,_,_⟩:=HC0.out))
 obtain⟨_,d0,d1,d2,_,_,_⟩:=HC1.out
 obtain⟨_,g0,g1,g2,_,_,_⟩:=HC2.out
 have S0:=zH (And.intro c0 (And.intro c1 (And.intro c2 (And.intro d0 (And.intro d1 (And.intro d2 (And.intro g0 (And.intro g1 (And.intro g2 (Below.refl w4.heap.size w4))))))))))
 clear c0 c1 c2 d0 d1 d2 g0 g1 g2
 go_cut [61] (fun u61 wy=>u61= .bool false/\Below w4.heap.size w4 wy)
 case first =>
  go_region_held3 (fun w'=>w'.cell? ⟨b0,0,none⟩=some (.slice ra rn rk)/\w'.cell? ⟨b0,1,none⟩=some (.slice sa sn sk)/\w'.cell? ⟨b0,2,none⟩=some (.slice la ln lk)/\
   w'.cell? ⟨b1,0,none⟩=some (.bool sL)/\w'.cell? ⟨b1,1,none⟩=some (.slice a11 l11 k11)/\w'.cell? ⟨b1,2,none⟩=some (.slice a12 l12 k12)/\
   w'.cell? ⟨b2,0,none⟩=some (.bool sL)/\w'.cell? ⟨b2,1,none⟩=some (.slice a21 l21 k21)/\w'.cell? ⟨b2,2,none⟩=some (.slice a22 l22 k22)/\Below w4.heap.size w4 w') (first
   | with_reducible exact keep9 S0.out (zja _)
   | with_reducible exact keep9 (by assumption) (by assumption)) (first
   |(go_at_call 61;(with_reducible refine(zow _ _ sL aL bL _ (HF1.out.below (zwv (by assumption))) (HF2.out.below (zwv (by assumption)))).mono ?_);rintro e10 w10 ⟨rfl,hb10⟩)
   |(go_at_call 85;(with_reducible refine(same_ints _ _ l l _ (HV3.out.below (zwv (by assumption))) (HV4.out.below (zwv (by assumption)))).mono ?_);rintro e11 w11 ⟨⟨q11,rfl,hq11⟩,hb11⟩;obtain rfl:q11=true:=hq11.2 rfl;clear hq11)
   |(go_at_call 68;(with_reducible refine(HF.out.vc _ _ (HA.out.below (zwv (by assumption)))).mono ?_);rintro e12 w12 ⟨rfl,hb12⟩)
   |(go_at_call 69;(with_reducible refine(HF.out.vr _ _ (HA.out.below (zwv (by assumption)))).mono ?_);rintro e13 w13 ⟨rfl,hb13⟩))
  all_goals
   have hE:=zwv (by assumption)
   go_wp2_with fail
   go_meet
   case rel=>exact⟨rfl,hE⟩
 case rest=>
  obtain⟨rfl,hbc⟩:=hcut
  obtain⟨W4,hw3⟩:∃w3,w3=wc:=⟨_,rfl⟩
  subst hw3
  clear HC1 HF1 HC2 HF2 HV3 HV4 S0
  replace HB:=zH (zaa HB.out hbc);replace HC0:=zH (HC0.out.belowS hbc);replace HA:=zH (HA.out.below hbc)
  clear hbc
  obtain⟨_,c0,c1,c2,_,_,_⟩:=HC0.out
  go_upto_region 8 with(first
   |(go_at_call 43;(with_reducible refine(HF.out.hc _ _ HA.out).mono ?_);rintro e5 w5 ⟨v5,rfl,hv5,hb5⟩
     obtain⟨a51,l51,k51,a52,l52,k52,rfl,hx5,hy5⟩:=id hv5
     obtain⟨_,_,_,he5,_⟩:=id hx5.sl
     have hba:=zca w5 (.cells #[.bool sH, .slice a51 l51 k51, .slice a52 l52 k52] 38)
     have hbb:=zaa hb5 hba
     have HC5:=zH (C3.new w5 38 (.bool sH) (.slice a51 l51 k51) (.slice a52 l52 k52))
     have HF5:=zH (hv5.below hba)
     clear c0 c1 c2
     replace HB:=zH (zaa HB.out hbb);replace HC0:=zH (HC0.out.belowS hbb);replace HA:=zH (HA.out.below hbb)
     clear hv5 hb5 hba hbb hx5 hy5 he5))
  obtain⟨b5,hb5⟩:∃b,w5.heap.size=b:=⟨_,rfl⟩
  rw[hb5]at HC5 |-
  clear hb5
  generalize w5.alloc (.cells #[.bool sH, .slice a51 l51 k51, .slice a52 l52 k52] 38)=W5 at *
  obtain⟨_,c0,c1,c2,_,_,_⟩:=HC0.out
  go_upto_region 9 with(first
   |(go_at_call 121;(with_reducible refine(HF.out.hr _ _ HA.out).mono ?_);rintro e6 w6 ⟨v6,rfl,hv6,hb6⟩
     obtain⟨a61,l61,k61,a62,l62,k62,rfl,hx6,hy6⟩:=id hv6
     obtain⟨_,_,_,he6,_⟩:=id hx6.sl
     have hba:=zca w6 (.cells #[.bool sH, .slice a61 l61 k61, .slice a62 l62 k62] 38)
     have hbb:=zaa hb6 hba
     have HC6:=zH (C3.new w6 38 (.bool sH) (.slice a61 l61 k61) (.slice a62 l62 k62))
     have HF6:=zH (hv6.below hba)
     clear c0 c1 c2
     replace HB:=zH (zaa HB.out hbb);replace HC0:=zH (HC0.out.belowS hbb);replace HA:=zH (HA.out.below hbb);replace HC5:=zH (HC5.out.belowS hbb);replace HF5:=zH (HF5.out.below hbb)
     clear hv6 hb6 hba hbb hx6 hy6 he6))
  obtain⟨b6,hb6⟩:∃b,w6.heap.size=b:=⟨_,rfl⟩
  rw[hb6]at HC6 |-
  clear hb6
  generalize w6.alloc (.cells #[.bool sH, .slice a61 l61 k61, .slice a62 l62 k62] 38)=W6 at *
  obtain⟨_,c0,c1,c2,_,_,_⟩:=HC0.out
  go_upto_region 10 with(first
   |(go_at_call 45;(with_reducible refine(HF.out.mc _ _ HA.out).mono ?_);rintro e7 w7 ⟨v7,rfl,hv7,hb7⟩
     obtain⟨a71,l71,k71,a72,l72,k72,rfl,hx7,hy7⟩:=id hv7
     obtain⟨_,_,_,he7,_⟩:=id hx7.sl
     have hba:=zca w7 (.cells #[.bool sM, .slice a71 l71 k71, .slice a72 l72 k72] 38)
     have hbb:=zaa hb7 hba
     have HC7:=zH (C3.new w7 38 (.bool sM) (.slice a71 l71 k71) (.slice a72 l72 k72))
     have HF7:=zH (hv7.below hba)
     clear c0 c1 c2
     replace HB:=zH (zaa HB.out hbb);replace HC0:=zH (HC0.out.belowS hbb);replace HA:=zH (HA.out.below hbb);replace HC5:=zH (HC5.out.belowS hbb);replace HF5:=zH (HF5.out.below hbb);replace HC6:=zH (HC6.out.belowS hbb);replace HF6:=zH (HF6.out.below hbb)
     clear hv7 hb7 hba hbb hx7 hy7 he7))
  obtain⟨b7,hb7⟩:∃b,w7.heap.size=b:=⟨_,rfl⟩
  rw[hb7]at HC7 |-
  clear hb7
  generalize w7.alloc (.cells #[.bool sM, .slice a71 l71 k71, .slice a72 l72 k72] 38)=W7 at *
  obtain⟨_,c0,c1,c2,_,_,_⟩:=HC0.out
  go_upto_region 11 with(first
   |(go_at_call 122;(with_reducible refine(HF.out.mr _ _ HA.out).mono ?_);rintro e8 w8 ⟨v8,rfl,hv8,hb8⟩
     obtain⟨a81,l81,k81,a82,l82,k82,rfl,hx8,hy8⟩:=id hv8
     obtain⟨_,_,_,he8,_⟩:=id hx8.sl
     have hba:=zca w8 (.cells #[.bool sM, .slice a81 l81 k81, .slice a82 l82 k82] 38)
     have hbb:=zaa hb8 hba
     have HC8:=zH (C3.new w8 38 (.bool sM) (.slice a81 l81 k81) (.slice a82 l82 k82))
     have HF8:=zH (hv8.below hba)
     clear c0 c1 c2
     replace HB:=zH (zaa HB.out hbb);replace HC0:=zH (HC0.out.belowS hbb);replace HC5:=zH (HC5.out.belowS hbb);replace HF5:=zH (HF5.out.below hbb);replace HC6:=zH (HC6.out.belowS hbb);replace HF6:=zH (HF6.out.below hbb);replace HC7:=zH (HC7.out.belowS hbb);replace HF7:=zH (HF7.out.below hbb)
     clear hv8 hb8 hba hbb hx8 hy8 he8))
  obtain⟨b8,hb8⟩:∃b,w8.heap.size=b:=⟨_,rfl⟩
  rw[hb8]at HC8 |-
  clear hb8
  generalize w8.alloc (.cells #[.bool sM, .slice a81 l81 k81, .slice a82 l82 k82] 38)=W8 at *
  obtain⟨_,c0,c1,c2,_,_,_⟩:=HC0.out
  clear c0 c1 c2
  obtain⟨_,c0,c1,c2,_,_,_⟩:=HC5.out
  obtain⟨_,d0,d1,d2,_,_,_⟩:=HC6.out
  obtain⟨_,g0,g1,g2,_,_,_⟩:=HC7.out
  obtain⟨_,h0,h1,h2,_,_,_⟩:=HC8.out
  go_wp2_with (first
   |(go_at_call 61;(with_reducible refine(zow _ _ sH aH bH _ HF5.out HF6.out).mono ?_);rintro e9 w9 ⟨rfl,hb9⟩
     clear c0 c1 c2 d0 d1 d2 g0 g1 g2 h0 h1 h2 HC5 HC6 HF5 HF6
     replace HB:=zH (zaa HB.out hb9);replace HC7:=zH (HC7.out.belowS hb9);replace HF7:=zH (HF7.out.below hb9);replace HC8:=zH (HC8.out.belowS hb9);replace HF8:=zH (HF8.out.below hb9)
     clear hb9
     obtain⟨_,g0,g1,g2,_,_,_⟩:=HC7.out
     obtain⟨_,h0,h1,h2,_,_,_⟩:=HC8.out)
   |(go_at_call 61;(with_reducible refine(zow _ _ sM aM bM _ HF7.out HF8.out).mono ?_);rintro e10 w10 ⟨rfl,hb10⟩
     replace HB:=zH (zaa HB.out hb10)
     clear hb10))
  go_ret
  exact⟨rfl,HB.out⟩
end Go.Proofs.YtlpdkbmmbdfoiaaGreat
