/- Lemmas. -/
import Derived.Test.YtlpdkbmmbdfoiaaGreatEGw7
set_option linter.unusedVariables false
namespace Go.Proofs.YtlpdkbmmbdfoiaaGreat
def fac (n m s:Nat) (A:Mx):Prop:=∃C R:Mx,∀i j,i<n->j<m->A i j=ztd s C R i j
def unitIn (n m r:Nat) (A:Mx):Prop:=∃X Y:Mx,∀a b,a<r->b<r->ztd n X (ztd m A Y) a b=zkf a b
theorem mul_congr {m:Nat} {A B C D:Mx} {i k i' k':Nat} (h1:∀j,j<m->A i j=C i' j) (h2:∀j,j<m->B j k=D j k'):ztd m A B i k=ztd m C D i' k':=
 zma fun j hj=>by rw[h1 j hj,h2 j hj]
theorem sg_cut {s r:Nat} {f:Nat->Rat} (h:s<=r) (h0:∀l,s<=l->l<r->f l=0):sg r f=sg s f:=by
 obtain⟨c,rfl⟩:∃c,r=s+c:=⟨r-s,by omega⟩
 rw[zbn,zma (n:=c) (g:=fun _=>0) (fun j hj=>h0 _ (by omega) (by omega)),zsi]
 grind
theorem dt_one (r:Nat):dt r zkf≠0:=by
 rw[zql (fun i j _ _ hij=>by unfold zkf;rw[if_neg hij])]
 exact pr_ne fun i _=>by unfold zkf;rw[if_pos rfl];decide+kernel
theorem unit_le {n m s r:Nat} {A:Mx} (hf:fac n m s A) (hu:unitIn n m r A):r<=s:=by
 obtain⟨C,R,hC⟩:=hf
 obtain⟨X,Y,hX⟩:=hu
 rcases Nat.lt_or_ge s r with h | h
 ·exfalso
  have e:dt r (ztd r (fun a l=>if l<s then ztd n X C a l else 0) (fun l b=>if l<s then ztd m R Y l b else 0))=dt r zkf:=zcd fun a b ha hb=>by
   rw[<-hX a b ha hb]
   have e1:ztd n X (ztd m A Y) a b=ztd s (ztd n X C) (ztd m R Y) a b:=by
    rw[mul_assoc]
    refine mul_congr (fun _ _=>rfl) fun i hi=> ?_
    rw[<-mul_assoc]
    exact mul_congr (fun j hj=>hC i j hi hj) fun _ _=>rfl
   rw[e1]
   unfold ztd
   rw[sg_cut (Nat.le_of_lt h) (fun l h1 h2=>by dsimp only;rw[if_neg (by omega),Rat.zero_mul])]
   exact zma fun l hl=>by dsimp only;rw[if_pos hl,if_pos hl]
  rw[dt_mul,zme (A:=fun l b=>if l<s then ztd m R Y l b else 0) (r:=r-1) (by omega) (fun j hj=>if_neg (by omega)),Rat.mul_zero]at e
  exact dt_one r e.symm
 ·exact h
def trM (A:Mx):Mx:=fun i j=>A j i
theorem fac_tr {n m s:Nat} {A:Mx} (h:fac n m s A):fac m n s (trM A):=by
 obtain⟨C,R,e⟩:=h
 refine⟨trM R,trM C,fun i j hi hj=> ?_⟩
 show A j i=_
 rw[e j i hj hi]
 exact zma fun l _=>Rat.mul_comm _ _
theorem unit_tr {n m r:Nat} {A:Mx} (h:unitIn n m r A):unitIn m n r (trM A):=by
 obtain⟨X,Y,e⟩:=h
 refine⟨trM Y,trM X,fun a b ha hb=> ?_⟩
 have e1:zkf a b=zkf b a:=by
  unfold zkf
  by_cases h:a=b
  ·rw[if_pos h,if_pos h.symm]
  ·rw[if_neg h,if_neg (fun e=>h e.symm)]
 rw[e1,<-e b a hb ha,<-mul_assoc]
 unfold ztd trM
 refine zma fun j _=> ?_
 rw[Rat.mul_comm]
 refine congrArg (X b j* ·) (zma fun i _=>Rat.mul_comm _ _)
theorem facC (n m t:Nat) (A:Mx):RowC n fun X _=>fac n m t X->fac n m t A where
 congr:=fun X Y s h hX hY=>hX (by
  obtain⟨C,R,e⟩:=hY
  exact⟨C,R,fun i j hi hj=>by rw[h i hi];exact e i j hi hj⟩)
 swap:=fun X s a b ha hb hab hX hY=>hX (by
  obtain⟨C,R,e⟩:=hY
  refine⟨swp C a b,R,fun i j hi hj=> ?_⟩
  have key:∀i',i'<n->swp X a b i'=X i->swp C a b i=C i'->X i j=ztd t (swp C a b) R i j:=fun i' hi' h1 h2=>by
   rw[<-h1,e i' j hi' hj]
   exact(congrFun (zrf h2) j).symm
  by_cases h1:i=a
  ·subst h1
   exact key b hb (by unfold swp;rw[if_neg (fun e=>hab e.symm),if_pos rfl]) (by unfold swp;rw[if_pos rfl])
  ·by_cases h2:i=b
   ·subst h2
    exact key a ha (by unfold swp;rw[if_pos rfl]) (by unfold swp;rw[if_neg h1,if_pos rfl])
   ·exact key i hi (by unfold swp;rw[if_neg h1,if_neg h2]) (by unfold swp;rw[if_neg h1,if_neg h2]))
 add:=fun X s i r c hi hr hir hX hY=>hX (by
  obtain⟨C,R,e⟩:=hY
  refine⟨zoc C i fun l=>C i l-c*C r l,R,fun k j hk hj=> ?_⟩
  have er:=e r j hr hj
  rw[zvc (fun e=>hir e.symm)]at er
  by_cases h1:k=i
  ·subst h1
   have ek:=e k j hk hj
   rw[zed]at ek
   have e2:ztd t (zoc C k fun l=>C k l-c*C r l) R k j=ztd t C R k j+(-c)*ztd t C R r j:=by
    unfold ztd
    rw[zed,<-zcb,<-zvd]
    exact zma fun l _=>by grind
   rw[e2,<-ek,<-er]
   grind
  ·have ek:=e k j hk hj
   rw[zvc h1]at ek
   rw[ek]
   exact(congrFun (zrf (zvc h1)) j).symm)
theorem combC (n m:Nat) (A:Mx):RowC n fun X _=>∃E:Mx,∀i j,i<n->j<m->X i j=ztd n E A i j where
 congr:=fun X Y s h hX=>by
  obtain⟨E,e⟩:=hX
  exact⟨E,fun i j hi hj=>by rw[<-h i hi];exact e i j hi hj⟩
 swap:=fun X s a b ha hb hab hX=>by
  obtain⟨E,e⟩:=hX
  refine⟨swp E a b,fun i j hi hj=> ?_⟩
  have key:∀i',i'<n->swp X a b i=X i'->swp E a b i=E i'->swp X a b i j=ztd n (swp E a b) A i j:=fun i' hi' h1 h2=>by
   rw[h1,e i' j hi' hj]
   exact(congrFun (zrf h2) j).symm
  by_cases h1:i=a
  ·subst h1
   exact key b hb (by unfold swp;rw[if_pos rfl]) (by unfold swp;rw[if_pos rfl])
  ·by_cases h2:i=b
   ·subst h2
    exact key a ha (by unfold swp;rw[if_neg h1,if_pos rfl]) (by unfold swp;rw[if_neg h1,if_pos rfl])
   ·exact key i hi (by unfold swp;rw[if_neg h1,if_neg h2]) (by unfold swp;rw[if_neg h1,if_neg h2])
 add:=fun X s i r c hi hr hir hX=>by
  obtain⟨E,e⟩:=hX
  refine⟨zoc E i fun l=>E i l+c*E r l,fun k j hk hj=> ?_⟩
  by_cases h1:k=i
  ·subst h1
   rw[zed,e k j hk hj,e r j hr hj]
   unfold ztd
   rw[zed,<-zcb,<-zvd]
   exact zma fun l _=>by grind
  ·rw[zvc h1,e k j hk hj]
   exact(congrFun (zrf (zvc h1)) j).symm
theorem elim_pivs (n:Nat) (A:Mx):∀k,∃p:Nat->Nat,∀l,l<(elim false n A k).r->p l<k/\(elim false n A k).A l (p l)≠0/\∀i,i<n->i≠l->(elim false n A k).A i (p l)=0
 | 0=>⟨fun _=>0,fun l hl=>absurd hl (by simp[elim])⟩
 | k+1=>by
   obtain⟨p,hp⟩:=elim_pivs n A k
   have hrn:=(zue false n A k).1
   have hge:=zvk n k (elim false n A k)
   rw[elim,zzf]
   by_cases hlt:pvt n k (elim false n A k)<n
   ·have hpn:=zfw hrn hlt
    rw[if_pos hlt]
    dsimp only
    generalize pvt n k (elim false n A k)=a at *
    generalize (elim false n A k).r=r at *
    generalize (elim false n A k).A=S at *
    refine⟨fun l=>if l<r then p l else k,fun l hl=> ?_⟩
    by_cases hlr:l<r
    ·obtain⟨h1,h2,h3⟩:=hp l hlr
     simp only[if_pos hlr]
     have hun:∀i,znj false (swp S r a) r k i (p l)=swp S r a i (p l):=fun i=>by
      unfold znj;rw[if_neg (fun h=>by omega)]
     refine⟨by omega,?_,fun i hi hil=> ?_⟩
     ·rw[hun];unfold swp;rw[if_neg (by omega),if_neg (by omega)];exact h2
     ·rw[hun];unfold swp;split
      ·exact h3 a hlt (by omega)
      ·split
       ·exact h3 r (by omega) (by omega)
       ·exact h3 i hi hil
    ·obtain rfl:l=r:=by omega
     simp only[if_neg hlr]
     have hkk:swp S l a l k≠0:=by rw[zek];exact hpn
     refine⟨by omega,?_,fun i hi hil=> ?_⟩
     ·rw[zpg (fun h=>h.1 rfl)];exact hkk
     ·unfold znj
      by_cases hz:swp S l a i k=0
      ·rw[if_neg (fun h=>h.1.2.2 hz)];exact hz
      ·rw[if_pos ⟨⟨hil,(fun z=>by cases z.1),hz⟩,zLR _⟩,Rat.div_mul_cancel hkk];grind
   ·rw[if_neg hlt]
    exact⟨p,fun l hl=>by obtain⟨h1,h2,h3⟩:=hp l hl;exact⟨by omega,h2,h3⟩⟩
theorem zvi (n m:Nat) (A:Mx):(elim true n A m).r=(elim false n A m).r:=(ztm (A:=A) (M:=A) (n:=n) (m:=m) true false (fun _ _ _ _=>rfl) m (zLR _)).1
theorem rank_fac (n m:Nat) (A:Mx):fac n m (elim false n A m).r A:=by
 refine zbd (facC n m (elim false n A m).r A) false (A:=A) (fun h=>h) m ⟨zkf,(elim false n A m).A,fun i j hi hj=> ?_⟩
 unfold ztd zkf
 by_cases h:i<(elim false n A m).r
 ·have e:sg (elim false n A m).r (fun l=>(if i=l then(1:Rat)else 0)*(elim false n A m).A l j)=sg (elim false n A m).r (fun l=>if i=l then(elim false n A m).A l j else 0):=zma fun l _=>by
   by_cases h1:i=l
   ·rw[if_pos h1,if_pos h1,Rat.one_mul]
   ·rw[if_neg h1,if_neg h1,Rat.zero_mul]
  rw[e,zfd h]
 ·rw[zyd false n A m i j (by omega) hi hj]
  exact(zsi _).symm.trans (zma fun l hl=>by rw[if_neg (by omega),Rat.zero_mul])
theorem rank_unit (n m:Nat) (A:Mx):unitIn n m (elim false n A m).r A:=by
 obtain⟨E,hE⟩:=zbd (combC n m A) false (A:=A) ⟨zkf,fun i j hi hj=>by
  unfold ztd zkf
  have e:sg n (fun l=>(if i=l then(1:Rat)else 0)*A l j)=sg n (fun l=>if i=l then A l j else 0):=zma fun l _=>by
   by_cases h1:i=l
   ·rw[if_pos h1,if_pos h1,Rat.one_mul]
   ·rw[if_neg h1,if_neg h1,Rat.zero_mul]
  rw[e,zfd hi]⟩ m
 obtain⟨p,hp⟩:=elim_pivs n A m
 have hrn:=(zue false n A m).1
 generalize (elim false n A m).r=r at *
 generalize (elim false n A m).A=T at *
 refine⟨E,fun j b=>if p b=j then 1/T b (p b)else 0,fun a b ha hb=> ?_⟩
 rw[<-mul_assoc]
 obtain⟨h1,h2,h3⟩:=hp b hb
 have e1:ztd m (ztd n E A) (fun j b=>if p b=j then 1/T b (p b)else 0) a b=sg m (fun j=>if p b=j then T a j*(1/T b (p b))else 0):=zma fun j hj=>by
  rw[<-hE a j (by omega) hj]
  dsimp only
  by_cases h4:p b=j
  ·rw[if_pos h4,if_pos h4]
  ·rw[if_neg h4,if_neg h4,Rat.mul_zero]
 rw[e1,zfd h1 (fun j=>T a j*(1/T b (p b)))]
 unfold zkf
 by_cases h5:a=b
 ·subst h5
  rw[if_pos rfl,Rat.mul_comm,Rat.div_mul_cancel h2]
 ·rw[if_neg h5,h3 a (by omega) h5,Rat.zero_mul]
theorem rank_uniq {n m s:Nat} {A:Mx} (hf:fac n m s A) (hu:unitIn n m s A):(elim true n A m).r=s:=by
 rw[zvi]
 have h1:=unit_le (rank_fac n m A) hu
 have h2:=unit_le hf (rank_unit n m A)
 omega
theorem rank_tr (n m:Nat) (A:Mx):(elim true m (trM A) n).r=(elim true n A m).r:=by
 rw[zvi n m]
 exact rank_uniq (fac_tr (rank_fac n m A)) (unit_tr (rank_unit n m A))
theorem rank_det (n:Nat) (A:Mx):(elim true n A n).r=n↔dt n A≠0:=by
 rw[zvi]
 have h:=elim_dt (M:=A) (n:=n)
 have hr:=(zue false n A n).1
 constructor
 ·exact fun e=>(h.1 e).2
 ·intro e
  rcases Nat.lt_or_ge (elim false n A n).r n with h1 | h1
  ·exact absurd (h.2 h1) e
  ·omega
theorem rightC (n:Nat) (C:Rat):RowC n fun B s=>C=s*dt n (fun i j=>B i (n+j)) where
 congr:=fun X Y s h hX=>by rw[hX,zcd (fun a b ha _=>by rw[h a ha])]
 swap:=fun X s a b ha hb hab hX=>by
  have e:(fun i j=>swp X a b i (n+j))=swp (fun i j=>X i (n+j)) a b:=by
   funext i j;unfold swp;split
   ·rfl
   ·split<;>rfl
  rw[hX,e,dt_swp ha hb hab];grind
 add:=fun X s i r c hi hr hir hX=>by
  have e:(fun a j=>zoc X i (fun b=>X i b+c*X r b) a (n+j))=zoc (fun i j=>X i (n+j)) i (fun b=>X i (n+b)+c*X r (n+b)):=by
   funext a j;unfold zoc;split<;>rfl
  rw[hX,e]
  rw[dt_add (A:=fun i j=>X i (n+j)) hi hr hir c]
theorem ker_of_dt {n:Nat} {A:Mx} (h:dt n A=0):∃c:Nat->Rat,(∃l,l<n/\c l≠0)/\∀i,i<n->sg n (fun l=>A i l*c l)=0:=by
 have hT:dt n (trM A)=0:=by
  by_cases h1:dt n (trM A)=0
  ·exact h1
  ·have h2:=(rank_det n (trM A)).2 h1
   rw[rank_tr]at h2
   exact absurd h ((rank_det n A).1 h2)
 have hr:=rank_less (B:=zkf) hT
 have hl:=zyd false n (zpa n (trM A) zkf) n
 have hk:=zbd (invC n (trM A)) false (A:=zpa n (trM A) zkf) (fun i j hi hj=>by
  rw[zae hj]
  have e:sg n (fun l=>zpa n (trM A) zkf i (n+l)*trM A l j)=sg n (fun l=>if i=l then trM A l j else 0):=zma fun l hl=>by
   rw[zfe];unfold zkf
   by_cases h5:i=l
   ·rw[if_pos h5,if_pos h5];grind
   ·rw[if_neg h5,if_neg h5];grind
  rw[e,zfd hi]) n
 have hd:=zbd (rightC n (dt n zkf)) false (A:=zpa n (trM A) zkf) (by
  have e:dt n (fun i j=>zpa n (trM A) zkf i (n+j))=dt n zkf:=zcd fun a b _ _=>zfe
  rw[e,Rat.one_mul]) n
 generalize (elim false n (zpa n (trM A) zkf) n).A=X at *
 generalize (elim false n (zpa n (trM A) zkf) n).r=r at *
 refine⟨fun l=>X (n-1) (n+l),?_,fun i hi=> ?_⟩
 ·apply Classical.byContradiction
  intro hno
  have hz:∀j,j<n->(fun i j=>X i (n+j)) (n-1) j=0:=fun j hj=>by
   by_cases h5:X (n-1) (n+j)=0
   ·exact h5
   ·exact absurd ⟨j,hj,h5⟩ hno
  rw[zme (A:=fun i j=>X i (n+j)) (show n-1<n by omega) hz,Rat.mul_zero]at hd
  exact dt_one n hd
 ·have h1:=hk (n-1) i (by omega) hi
  rw[hl (n-1) i (by omega) (by omega) hi]at h1
  rw[<-h1]
  exact zma fun l _=>by unfold trM;exact Rat.mul_comm _ _
theorem sg_le {n:Nat} {f g:Nat->Rat} (h:∀i,i<n->f i<=g i):sg n f<=sg n g:=by
 induction n with
 | zero=>exact Rat.le_refl
 | succ n ih=>rw[sg,sg];have:=ih fun i hi=>h i (by omega);have:=h n (by omega);grind
theorem sg_lt {n:Nat} {f g:Nat->Rat} (h:∀i,i<n->f i<=g i) {k:Nat} (hk:k<n) (hlt:f k<g k):sg n f<sg n g:=by
 induction n with
 | zero=>omega
 | succ n ih=>
   rw[sg,sg]
   have h1:=sg_le (n:=n) fun i hi=>h i (by omega)
   have h2:=h n (by omega)
   by_cases e:k=n
   ·subst e;grind
   ·have:=ih (fun i hi=>h i (by omega)) (by omega);grind
theorem max_at {x:Nat->Rat}:∀ {n:Nat},0<n->∃i,i<n/\∀j,j<n->x j<=x i
 | 1,_=>⟨0,by omega,fun j hj=>by obtain rfl:j=0:=by omega
                                 exact Rat.le_refl⟩
 | n+2,_=>by
   obtain⟨i,h1,h2⟩:=max_at (x:=x) (n:=n+1) (by omega)
   by_cases h:x (n+1)<=x i
   ·refine⟨i,by omega,fun j hj=> ?_⟩
    by_cases e:j=n+1
    ·subst e;exact h
    ·exact h2 j (by omega)
   ·refine⟨n+1,by omega,fun j hj=> ?_⟩
    by_cases e:j=n+1
    ·subst e;exact Rat.le_refl
    ·have:=h2 j (by omega);grind
def esc (n:Nat) (r:Mx) (o:Nat->Rat):Nat->Nat->Prop
 | 0,i=>sg n (r i)<o i
 | k+1,i=>esc n r o k i\/∃j,j<n/\0<r i j/\esc n r o k j
section
variable {n:Nat} {r:Mx} {o:Nat->Rat}
theorem mm_max (hr:∀i j,i<n->j<n->0<=r i j) (ho:∀i,i<n->sg n (r i)<=o i) (he:∀i,i<n->∃k,esc n r o k i) {x:Nat->Rat} (hx:∀i,i<n->o i*x i<=sg n fun j=>r i j*x j):∀i,i<n->x i<=0:=by
 intro i0 hi0
 obtain⟨im,h1,h2⟩:=max_at (x:=x) (n:=n) (by omega)
 by_cases hm:x im<=0
 ·have:=h2 i0 hi0;grind
 ·exfalso
  have hpos:0<x im:=Rat.not_le.1 hm
  obtain⟨m,hmx⟩:∃m,x im=m:=⟨_,rfl⟩
  rw[hmx]at h2 hpos
  have key:∀i,i<n->x i=m->(sg n fun j=>r i j*x j)<=sg n (r i)*m/\o i*m<=sg n fun j=>r i j*x j:=fun i hi hxi=>by
   refine⟨?_,by have:=hx i hi;rwa[hxi]at this⟩
   rw[<-znc]
   exact sg_le fun j hj=>Rat.mul_le_mul_of_nonneg_left (h2 j hj) (hr i j hi hj)
  have no:∀k i,i<n->x i=m->¬esc n r o k i:=by
   intro k
   induction k with
   | zero=>
     intro i hi hxi h
     obtain⟨k1,k2⟩:=key i hi hxi
     have h3:sg n (r i)*m<o i*m:=Rat.mul_lt_mul_of_pos_right h hpos
     grind
   | succ k ih=>
     intro i hi hxi h
     rcases h with h | ⟨j,hj,hrj,h⟩
     ·exact ih i hi hxi h
     ·obtain⟨k1,k2⟩:=key i hi hxi
      refine ih j hj ?_ h
      have h4:=h2 j hj
      by_cases h5:x j=m
      ·exact h5
      ·exfalso
       have h6:x j<m:=by grind
       have h7:(sg n fun j=>r i j*x j)<sg n (r i)*m:=by
        rw[<-znc]
        exact sg_lt (fun j hj=>Rat.mul_le_mul_of_nonneg_left (h2 j hj) (hr i j hi hj)) hj (Rat.mul_lt_mul_of_pos_left h6 hrj)
       have h8:sg n (r i)*m<=o i*m:=Rat.mul_le_mul_of_nonneg_right (ho i hi) (Rat.le_of_lt hpos)
       grind
  obtain⟨k,hk⟩:=he im h1
  exact no k im h1 hmx hk
def mmA (r:Mx) (o:Nat->Rat):Mx:=fun i j=>if i=j then o i else -r i j
theorem mmA_row (hd:∀i,i<n->r i i=0) {i:Nat} (hi:i<n) (x:Nat->Rat):sg n (fun j=>mmA r o i j*x j)=o i*x i-sg n fun j=>r i j*x j:=by
 have e:sg n (fun j=>mmA r o i j*x j)=sg n (fun j=>(if i=j then o i*x i else 0)+(-1)*(r i j*x j)):=zma fun j hj=>by
  unfold mmA
  by_cases h:i=j
  ·subst h;rw[if_pos rfl,if_pos rfl,hd i hi];grind
  ·rw[if_neg h,if_neg h];grind
 rw[e,zvd,zcb,zfd (f:=fun _=>o i*x i) hi]
 grind
theorem mm_dt (hd:∀i,i<n->r i i=0) (hr:∀i j,i<n->j<n->0<=r i j) (ho:∀i,i<n->sg n (r i)<=o i) (he:∀i,i<n->∃k,esc n r o k i):dt n (mmA r o)≠0:=by
 intro h
 obtain⟨c,⟨l,hl,hc⟩,hz⟩:=ker_of_dt h
 have e:∀i,i<n->o i*c i=sg n fun j=>r i j*c j:=fun i hi=>by
  have:=hz i hi
  rw[mmA_row hd hi]at this
  grind
 have h1:=mm_max hr ho he (x:=c) (fun i hi=>by rw[e i hi];exact Rat.le_refl) l hl
 have h2:=mm_max hr ho he (x:=fun j=>(-1)*c j) (fun i hi=>by
  have e2:sg n (fun j=>r i j*((-1)*c j))=(-1)*sg n (fun j=>r i j*c j):=by
   rw[<-zcb];exact zma fun j _=>by grind
  rw[e2,<-e i hi]
  have :o i*((-1)*c i)=(-1)*(o i*c i):=by grind
  rw[this];exact Rat.le_refl) l hl
 have h3:c l=0:=by grind
 exact hc h3
end
theorem sg_zero' {n:Nat} {f:Nat->Rat} (h:∀i,i<n->f i=0):sg n f=0:=by
 induction n with
 | zero=>rfl
 | succ n ih=>show sg n f+f n=0;rw[ih (fun i hi=>h i (by omega)),h n (by omega),Rat.add_zero]
theorem zkt :∀ {l:List Nat} {n:Nat},l.Pairwise (· < ·)->(∀x,x∈l->x<n+1)->n∈l->∃l',l=l'++ [n]/\(∀x,x∈l'->x<n)
 | [],n,_,_,h=>by simp at h
 | x::l,n,hp,hb,h=>by
   rw[List.pairwise_cons]at hp
   by_cases hn:n∈l
   ·obtain⟨l',e,hl⟩:=zkt hp.2 (fun y hy=>hb y (by simp[hy])) hn
    refine⟨x::l',by rw[e];rfl,fun y hy=> ?_⟩
    rcases List.mem_cons.1 hy with rfl | hy
    ·exact hp.1 n hn
    ·exact hl y hy
   ·rcases List.mem_cons.1 h with rfl | h
    ·cases l with
     | nil=>exact⟨[],rfl,fun y hy=>by simp at hy⟩
     | cons y l=>
       have h1:=hp.1 y (by simp)
       have h2:=hb y (by simp)
       omega
    ·exact absurd h hn
theorem getD_app_lt {l:List Nat} {x i:Nat} (h:i<l.length):(l++ [x]).getD i 0=l.getD i 0:=by
 rw[zGD,zGD,List.getElem?_append_left h]
theorem getD_app_eq {l:List Nat} {x:Nat}:(l++ [x]).getD l.length 0=x:=by
 rw[zGD,List.getElem?_append_right (zLR _)];simp
theorem zmt :∀ {n:Nat} {l:List Nat} {f:Nat->Rat},l.Pairwise (· < ·)->(∀x,x∈l->x<n)->(∀t,t<n->t∉l->f t=0)->sg n f=sg l.length fun i=>f (l.getD i 0)
 | 0,l,f,_,hb,_=>by
   cases l with
   | nil=>rfl
   | cons x l=>have:=hb x (by simp);omega
 | n+1,l,f,hp,hb,h0=>by
   by_cases hn:n∈l
   ·obtain⟨l',rfl,hl⟩:=zkt hp hb hn
    have hp':=(List.pairwise_append.1 hp).1
    have ih:=zmt (f:=f) hp' hl (fun t ht htl=>h0 t (by omega) (by simp;exact⟨htl,by omega⟩))
    show sg n f+f n=_
    rw[List.length_append]
    show _=sg l'.length _+f ((l'++ [n]).getD l'.length 0)
    rw[getD_app_eq,ih]
    congr 1
    exact zma fun i hi=>by rw[getD_app_lt hi]
   ·have hb':∀x,x∈l->x<n:=fun x hx=>by
     have:=hb x hx
     have :x≠n:=fun e=>hn (e▸hx)
     omega
    have ih:=zmt (f:=f) hp hb' (fun t ht htl=>h0 t (by omega) htl)
    show sg n f+f n=_
    rw[h0 n (by omega) hn,Rat.add_zero,ih]
structure MC (n:Nat) (r:Mx) (lost:Nat->Prop):Prop where
 d:∀i,i<n->r i i=0
 nn:∀i j,i<n->j<n->0<=r i j
 ab:∀i j,i<n->j<n->lost i->r i j=0
def FT (n:Nat) (r:Mx) (lost:Nat->Prop):Nat->Prop:=Clo n lost fun i j=>0<r j i
structure LK (n:Nat) (r:Mx) (lost:Nat->Prop) (l:List Nat):Prop where
 so:l.Pairwise (· < ·)
 lt:∀s,s∈l->s<n
 nl:∀s,s∈l->¬lost s
 ft:∀s,s∈l->FT n r lost s
 cl:∀s t,s∈l->t<n->0<r s t->t∈l\/lost t\/¬FT n r lost t
theorem sg_sub_le {n:Nat} {l:List Nat} {f:Nat->Rat} (hp:l.Pairwise (· < ·)) (hb:∀x,x∈l->x<n) (h0:∀t,t<n->0<=f t):sg l.length (fun i=>f (l.getD i 0))<=sg n f:=by
 have h1:=zmt (n:=n) (l:=l) (f:=fun t=>if t∈l then f t else 0) hp hb (fun t ht h=>by simp[h])
 have h2:sg l.length (fun i=>f (l.getD i 0))=sg l.length fun i=>if l.getD i 0∈l then f (l.getD i 0)else 0:=zma fun i hi=>by
  rw[if_pos (by rw[zGD,zGE hi];exact zGM hi)]
 rw[h2,<-h1]
 refine sg_le fun t ht=> ?_
 show(if t∈l then f t else 0)<=f t
 split
 ·exact Rat.le_refl
 ·exact h0 t ht
theorem sg_sub_lt {n:Nat} {l:List Nat} {f:Nat->Rat} (hp:l.Pairwise (· < ·)) (hb:∀x,x∈l->x<n) (h0:∀t,t<n->0<=f t) {k:Nat} (hk:k<n) (hkl:k∉l) (hf:0<f k):sg l.length (fun i=>f (l.getD i 0))<sg n f:=by
 have h1:=zmt (n:=n) (l:=l) (f:=fun t=>if t∈l then f t else 0) hp hb (fun t ht h=>by simp[h])
 have h2:sg l.length (fun i=>f (l.getD i 0))=sg l.length fun i=>if l.getD i 0∈l then f (l.getD i 0)else 0:=zma fun i hi=>by
  rw[if_pos (by rw[zGD,zGE hi];exact zGM hi)]
 rw[h2,<-h1]
 refine sg_lt (fun t ht=> ?_) hk (by show(if k∈l then f k else 0)<f k;rw[if_neg hkl];exact hf)
 show(if t∈l then f t else 0)<=f t
 split
 ·exact Rat.le_refl
 ·exact h0 t ht
theorem zcq {l:List Nat} {i:Nat} (hi:i<l.length):l.getD i 0∈l:=by
 rw[zGD,zGE hi];exact zGM hi
theorem zbv {l:List Nat} {s:Nat} (h:s∈l):∃i,i<l.length/\l.getD i 0=s:=by
 obtain⟨i,hi,e⟩:=List.mem_iff_getElem.1 h
 exact⟨i,hi,by rw[zGD,zGE hi];exact e⟩
theorem LK.esc {n:Nat} {r:Mx} {lost:Nat->Prop} {l:List Nat} (hm:MC n r lost) (h:LK n r lost l):∀ {s:Nat},FT n r lost s->∀i,i<l.length->l.getD i 0=s->∃k,esc l.length (fun i j=>r (l.getD i 0) (l.getD j 0)) (fun i=>sg n (r (l.getD i 0))) k i:=by
 intro s hs
 induction hs with
 | base hi hS=>
   intro i hil e
   exact absurd hS (h.nl _ (e▸zcq hil))
 | step hc hj hL ih=>
   rename_i a b
   intro i hil e
   have hbl:b∈l:=e▸zcq hil
   by_cases hal:a∈l
   ·obtain⟨j,hjl,ej⟩:=zbv hal
    obtain⟨k,hk⟩:=ih j hjl ej
    exact⟨k+1,Or.inr ⟨j,hjl,by show 0<r (l.getD i 0) (l.getD j 0);rw[e,ej];exact hL,hk⟩⟩
   ·refine⟨0,?_⟩
    show sg l.length (fun j=>r (l.getD i 0) (l.getD j 0))<sg n (r (l.getD i 0))
    rw[e]
    exact sg_sub_lt (f:=r b) h.so h.lt (fun t ht=>hm.nn b t hj ht) (Clo.lt hc) hal hL
theorem LK.dt {n:Nat} {r:Mx} {lost:Nat->Prop} {l:List Nat} (hm:MC n r lost) (h:LK n r lost l):dt l.length (mmA (fun i j=>r (l.getD i 0) (l.getD j 0)) fun i=>sg n (r (l.getD i 0)))≠0:=
 mm_dt (fun i hi=>hm.d _ (h.lt _ (zcq hi))) (fun i j hi hj=>hm.nn _ _ (h.lt _ (zcq hi)) (h.lt _ (zcq hj)))
  (fun i hi=>sg_sub_le (f:=r (l.getD i 0)) h.so h.lt fun t ht=>hm.nn _ t (h.lt _ (zcq hi)) ht) (fun i hi=>h.esc hm (h.ft _ (zcq hi)) i hi rfl)
theorem zwu {n:Nat} {l:List Nat} {f:Nat->Rat} (hp:l.Pairwise (· < ·)) (hb:∀x,x∈l->x<n):sg n f=sg l.length (fun i=>f (l.getD i 0))+sg n fun t=>if t∈l then 0 else f t:=by
 have h1:=zmt (n:=n) (l:=l) (f:=fun t=>if t∈l then f t else 0) hp hb (fun t ht h=>by simp[h])
 have h2:sg l.length (fun i=>f (l.getD i 0))=sg l.length fun i=>if l.getD i 0∈l then f (l.getD i 0)else 0:=zma fun i hi=>by rw[if_pos (zcq hi)]
 rw[h2,<-h1,<-zvd]
 refine zma fun t ht=> ?_
 by_cases h:t∈l
 ·simp[h,Rat.add_zero]
 ·simp[h,Rat.zero_add]
theorem zhu {l:List Nat} (hp:l.Pairwise (· < ·)) {i:Nat} (hi:i<l.length):l.idxOf (l.getD i 0)=i:=by
 have hn:l.Nodup:=hp.imp (fun h=>Nat.ne_of_lt h)
 rw[zGD,zGE hi]
 exact List.Nodup.idxOf_getElem hn i hi
theorem LK.eq {n:Nat} {r:Mx} {lost:Nat->Prop} {l:List Nat} (hm:MC n r lost) (h:LK n r lost l) {X b:Nat->Rat} {i:Nat} (hi:i<l.length) (he:sg n (r (l.getD i 0))*X (l.getD i 0)=b (l.getD i 0)+sg n fun t=>r (l.getD i 0) t*X t):
 sg l.length (fun j=>mmA (fun i j=>r (l.getD i 0) (l.getD j 0)) (fun i=>sg n (r (l.getD i 0))) i j*X (l.getD j 0))=b (l.getD i 0)+sg n fun t=>if t∈l then 0 else r (l.getD i 0) t*X t:=by
 rw[mmA_row (n:=l.length) (r:=fun i j=>r (l.getD i 0) (l.getD j 0)) (o:=fun i=>sg n (r (l.getD i 0))) (fun i hi=>hm.d _ (h.lt _ (zcq hi))) hi,he,zwu (l:=l) h.so h.lt]
 grind
theorem LK.ex {n:Nat} {r:Mx} {lost:Nat->Prop} {l:List Nat} (hm:MC n r lost) (h:LK n r lost l) (z b:Nat->Rat):∃X:Nat->Rat,(∀t,t∉l->X t=z t)/\∀s,s∈l->sg n (r s)*X s=b s+sg n fun t=>r s t*X t:=by
 have hdt:=h.dt hm
 have hx:=sol_eq (b:=fun i=>b (l.getD i 0)+sg n fun t=>if t∈l then 0 else r (l.getD i 0) t*z t) (zff (B:=fun i _=>b (l.getD i 0)+sg n fun t=>if t∈l then 0 else r (l.getD i 0) t*z t) hdt)
 generalize solE l.length (mmA (fun i j=>r (l.getD i 0) (l.getD j 0)) fun i=>sg n (r (l.getD i 0))) (fun i=>b (l.getD i 0)+sg n fun t=>if t∈l then 0 else r (l.getD i 0) t*z t)=x at hx
 refine⟨fun t=>if t∈l then x (l.idxOf t)else z t,fun t ht=>by simp[ht],fun s hs=> ?_⟩
 obtain⟨i,hi,rfl⟩:=zbv hs
 have h1:=hx i hi
 show sg n (r (l.getD i 0))*(if l.getD i 0∈l then x (l.idxOf (l.getD i 0))else z (l.getD i 0))=b (l.getD i 0)+sg n fun t=>r (l.getD i 0) t*(if t∈l then x (l.idxOf t)else z t)
 rw[mmA_row (n:=l.length) (r:=fun i j=>r (l.getD i 0) (l.getD j 0)) (o:=fun i=>sg n (r (l.getD i 0))) (fun i hi=>hm.d _ (h.lt _ (zcq hi))) hi]at h1
 have e1:sg l.length (fun j=>r (l.getD i 0) (l.getD j 0)*(if l.getD j 0∈l then x (l.idxOf (l.getD j 0))else z (l.getD j 0)))=sg l.length fun j=>r (l.getD i 0) (l.getD j 0)*x j:=zma fun j hj=>by
  rw[if_pos (zcq hj),zhu h.so hj]
 have e2:(sg n fun t=>if t∈l then 0 else r (l.getD i 0) t*(if t∈l then x (l.idxOf t)else z t))=sg n fun t=>if t∈l then 0 else r (l.getD i 0) t*z t:=zma fun t _=>by
  by_cases ht:t∈l<;>simp[ht]
 rw[zwu (l:=l) h.so h.lt (f:=fun t=>r (l.getD i 0) t*if t∈l then x (l.idxOf t)else z t),e1,e2,if_pos (zcq hi),zhu h.so hi]
 grind
def RC1 (n:Nat) (r:Mx) (S:Nat->Prop):Nat->Prop:=Clo n S fun i j=>0<r i j
theorem FT.back {n:Nat} {r:Mx} {lost:Nat->Prop} {s t:Nat} (h:FT n r lost t) (hs:s<n) (hp:0<r s t):FT n r lost s:=Clo.step h hs hp
structure HitF (n:Nat) (r:Mx) (lost:Nat->Prop) (H:Nat->Rat):Prop where
 one:∀s,s<n->lost s->H s=1
 no:∀s,s<n->¬FT n r lost s->H s=0
 eq:∀s,s<n->¬lost s->sg n (r s)*H s=sg n fun t=>r s t*H t
structure TimeF (n:Nat) (r:Mx) (lost:Nat->Prop) (U:Nat->Prop) (T:Nat->Rat):Prop where
 zero:∀s,s<n->lost s->T s=0
 eq:∀s,s<n->¬lost s->U s->sg n (r s)*T s=1+sg n fun t=>r s t*T t
open Classical in
/-- The states below n with a property, in order. -/
noncomputable def lsP (n:Nat) (p:Nat->Prop):List Nat:=(List.range n).filter fun s=>decide (p s)
theorem zhq {n:Nat} {p:Nat->Prop} {s:Nat}:s∈lsP n p↔s<n/\p s:=by
 classical
 unfold lsP
 rw[List.mem_filter,List.mem_range,decide_eq_true_iff]
theorem lsP_so (n:Nat) (p:Nat->Prop):(lsP n p).Pairwise (· < ·):=List.Pairwise.filter _ List.pairwise_lt_range
theorem hit_ex {n:Nat} {r:Mx} {lost:Nat->Prop} (hm:MC n r lost):∃H,HitF n r lost H:=by
 classical
 have hl:LK n r lost (lsP n fun s=>FT n r lost s/\¬lost s):={
  so:=lsP_so _ _
  lt:=fun s h=>(zhq.1 h).1
  nl:=fun s h=>(zhq.1 h).2.2
  ft:=fun s h=>(zhq.1 h).2.1
  cl:=fun s t h ht hp=>by
   by_cases h1:lost t
   ·exact Or.inr (Or.inl h1)
   ·by_cases h2:FT n r lost t
    ·exact Or.inl (zhq.2 ⟨ht,h2,h1⟩)
    ·exact Or.inr (Or.inr h2) }
 obtain⟨H,h1,h2⟩:=hl.ex hm (fun s=>if lost s then 1 else 0) (fun _=>0)
 have hno:∀s,s<n->¬FT n r lost s->H s=0:=fun s hs h=>by
  rw[h1 s (fun hmem=>h (zhq.1 hmem).2.1),if_neg (fun hl=>h (Clo.base hs hl))]
 refine⟨H,fun s hs h=>by rw[h1 s (fun hmem=>(zhq.1 hmem).2.2 h),if_pos h],hno,fun s hs h=> ?_⟩
 by_cases hf:FT n r lost s
 ·rw[h2 s (zhq.2 ⟨hs,hf,h⟩),Rat.zero_add]
 ·rw[hno s hs hf,Rat.mul_zero]
  refine(sg_zero' fun t ht=> ?_).symm
  by_cases hp:0<r s t
  ·rw[hno t ht (fun h3=>hf (h3.back hs hp)),Rat.mul_zero]
  ·have:=hm.nn s t hs ht
   have :r s t=0:=by grind
   rw[this,Rat.zero_mul]
def Sure (n:Nat) (r:Mx) (lost:Nat->Prop) (s:Nat):Prop:=∀t,RC1 n r (fun j=>j=s) t->FT n r lost t
theorem RC1.of {n:Nat} {r:Mx} {s t:Nat} (hs:s<n) (ht:t<n) (hp:0<r s t):∀ {u:Nat},RC1 n r (fun j=>j=t) u->RC1 n r (fun j=>j=s) u:=by
 intro u h
 induction h with
 | base hi hS=>subst hS;exact Clo.step (Clo.base hs rfl) hi hp
 | step hc hj hL ih=>exact Clo.step ih hj hL
theorem Sure.step {n:Nat} {r:Mx} {lost:Nat->Prop} {s t:Nat} (h:Sure n r lost s) (hs:s<n) (ht:t<n) (hp:0<r s t):Sure n r lost t:=fun u hu=>h u (RC1.of hs ht hp hu)
theorem Sure.ft {n:Nat} {r:Mx} {lost:Nat->Prop} {s:Nat} (h:Sure n r lost s) (hs:s<n):FT n r lost s:=h s (Clo.base hs rfl)
theorem sure_lk (n:Nat) (r:Mx) (lost:Nat->Prop):LK n r lost (lsP n fun s=>Sure n r lost s/\¬lost s) where
 so:=lsP_so _ _
 lt:=fun s h=>(zhq.1 h).1
 nl:=fun s h=>(zhq.1 h).2.2
 ft:=fun s h=>(zhq.1 h).2.1.ft (zhq.1 h).1
 cl:=fun s t h ht hp=>by
  have h0:=zhq.1 h
  by_cases h1:lost t
  ·exact Or.inr (Or.inl h1)
  ·exact Or.inl (zhq.2 ⟨ht,h0.2.1.step h0.1 ht hp,h1⟩)
def ziq (c:RC) (s:Nat):Prop:=c.lost.getD s false=true
theorem rq_nn {c:RC} (hv:zzp c) {i j:Nat} (hi:i<c.rates.length) (hj:j<c.rates.length):0<=rq c i j:=by
 obtain⟨h,e,hp⟩:=zcw hv hi hj
 rw[e]
 exact Rat.not_lt.1 hp.2
theorem zcv {c:RC} (hv:zzp c):MC c.rates.length (rq c) (ziq c) where
 d:=fun i hi=>by
  obtain⟨h,e,_⟩:=zcw hv hi hi
  have h6:=(hv.2.2.2.2.2.1 i _ (zGE hi)).2.1 _ (zGE h)
  rw[e]
  exact Rat.num_eq_zero.1 h6
 nn:=fun i j hi hj=>rq_nn hv hi hj
 ab:=fun i j hi hj hl=>by
  obtain⟨h,e,_⟩:=zcw hv hi hj
  have hil:i<c.lost.length:=by have:=hv.2.2.1;have:=hv.2.2.2.1;omega
  have h6:=(hv.2.2.2.2.2.1 i _ (zGE hi)).2.2 (by
   unfold ziq at hl
   rw[zrn hil]at hl
   rw[zGE hil,hl])
  rw[e]
  exact zoz h6 _ (List.mem_map.2 ⟨_,zGM h,rfl⟩)
theorem out_sg {c:RC} (hv:zzp c) {s:Nat} (hs:s<c.rates.length):zgg (zaq c s)=sg c.rates.length (rq c s):=by
 obtain⟨h2,h3,h4,h5⟩:=hv.row (i:=s) (by have:=hv.2.2.1;have:=hv.2.2.2.1;omega)
 have hl:(zaq c s).length=c.rates.length:=by rw[h5,zgq];have:=hv.2.2.1;have:=hv.2.2.2.1;omega
 rw[zup,hl]
 rfl
theorem zxq {c:RC} {l:List Nat} (h:zvq c l):LK c.rates.length (rq c) (ziq c) l where
 so:=h.sorted
 lt:=fun s hs=>((h.mem s).1 hs).1
 nl:=fun s hs e=>by have h1:=((h.mem s).1 hs).2.2.2;unfold ziq at e;rw[h1]at e;cases e
 ft:=fun s hs=>((h.mem s).1 hs).2.2.1
 cl:=fun s t hs ht hp=>by
  have h0:=(h.mem s).1 hs
  by_cases h1:ziq c t
  ·exact Or.inr (Or.inl h1)
  ·by_cases h2:Ftl c t
   ·exact Or.inl ((h.mem t).2 ⟨ht,Clo.step h0.2.1 ht hp,h2,by unfold ziq at h1;simpa using h1⟩)
   ·exact Or.inr (Or.inr h2)
theorem sysA_mm {c:RC} {l:List Nat} (hv:zzp c) (h:zvq c l) {i j:Nat} (hi:i<l.length):zis c l i j=mmA (fun i j=>rq c (l.getD i 0) (l.getD j 0)) (fun i=>sg c.rates.length (rq c (l.getD i 0))) i j:=by
 unfold zis mmA
 split
 ·exact out_sg hv ((zxq h).lt _ (zcq hi))
 ·grind
theorem alive_hit {c:RC} {l:List Nat} {H:Nat->Rat} (hv:zzp c) (h:zvq c l) (hH:HitF c.rates.length (rq c) (ziq c) H) {i:Nat} (hi:i<l.length):
 sg l.length (fun j=>zis c l i j*H (l.getD j 0))=lsr c (l.getD i 0) c.rates.length:=by
 have hk:=zxq h
 have hs:=zcq hi
 have h1:=hk.eq (zcv hv) (X:=H) (b:=fun _=>0) hi (by rw[Rat.zero_add];exact hH.eq _ (hk.lt _ hs) (hk.nl _ hs))
 rw[Rat.zero_add]at h1
 rw[zma fun j hj=>by rw[sysA_mm hv h hi],h1]
 unfold lsr
 refine zma fun t ht=> ?_
 by_cases hl:ziq c t
 ·have hm:t∉l:=fun e=>hk.nl t e hl
  rw[if_neg hm,if_pos (show c.lost.getD t false=true from hl),hH.one t ht hl,Rat.mul_one]
 ·rw[if_neg (show ¬c.lost.getD t false=true from hl)]
  by_cases hm:t∈l
  ·rw[if_pos hm]
  ·rw[if_neg hm]
   by_cases hp:0<rq c (l.getD i 0) t
   ·rcases hk.cl _ t hs ht hp with h2 | h2 | h2
    ·exact absurd h2 hm
    ·exact absurd h2 hl
    ·rw[hH.no t ht h2,Rat.mul_zero]
   ·have h2:=rq_nn hv (hk.lt _ hs) ht
    have h3:rq c (l.getD i 0) t=0:=by grind
    rw[h3,Rat.zero_mul]
theorem zpz {c:RC} (hv:zzp c) {t:Nat} (ht:t<c.rates.length):0<=(qs c.start).getD t 0:=by
 have h2:t<c.start.length:=by have:=hv.2.2.2.1;omega
 have h3:(qs c.start).getD t 0=(c.start[t]).q:=by
  unfold qs
  rw[zGD,List.getElem?_map,zGE h2];rfl
 rw[h3]
 exact Rat.not_lt.1 (hv.2.2.2.2.1.1 _ (zGM h2)).2.1
theorem hit_sum {c:RC} {l:List Nat} {H:Nat->Rat} (hv:zzp c) (h:zvq c l) (hH:HitF c.rates.length (rq c) (ziq c) H):
 sg l.length (fun i=>(qs c.start).getD (l.getD i 0) 0*H (l.getD i 0))+lst c c.rates.length=sg c.rates.length fun t=>(qs c.start).getD t 0*H t:=by
 have hk:=zxq h
 rw[zwu (l:=l) hk.so hk.lt (f:=fun t=>(qs c.start).getD t 0*H t)]
 congr 1
 unfold lst
 refine(zma fun t ht=> ?_)
 by_cases hl:ziq c t
 ·rw[if_pos (show c.lost.getD t false=true from hl),if_neg (fun e=>hk.nl t e hl),hH.one t ht hl,Rat.mul_one]
 ·rw[if_neg (show ¬c.lost.getD t false=true from hl)]
  by_cases hm:t∈l
  ·rw[if_pos hm]
  ·rw[if_neg hm]
   by_cases hp:0<(qs c.start).getD t 0
   ·have h2:¬Ftl c t:=fun hf=>hm ((h.mem t).2 ⟨ht,Clo.base ht hp,hf,by unfold ziq at hl;simpa using hl⟩)
    rw[hH.no t ht h2,Rat.mul_zero]
   ·have h2:=zpz hv ht
    have h3:(qs c.start).getD t 0=0:=by grind
    rw[h3,Rat.zero_mul]
theorem rch_more {c:RC} {s t:Nat} (h:Rch c s) (ht:RC1 c.rates.length (rq c) (fun j=>j=s) t):Rch c t:=by
 induction ht with
 | base hi hS=>subst hS;exact h
 | step hc hj hL ih=>exact Clo.step ih hj hL
theorem rch_sure {c:RC} (hall:∀j,j<c.rates.length->Rch c j->Ftl c j) {s:Nat} (h:Rch c s):Sure c.rates.length (rq c) (ziq c) s:=fun t ht=>hall t (Clo.lt ht) (rch_more h ht)
theorem zjw {c:RC} {l:List Nat} {T:Nat->Rat} (hv:zzp c) (h:zvq c l) (hall:∀j,j<c.rates.length->Rch c j->Ftl c j) (hT:TimeF c.rates.length (rq c) (ziq c) (Sure c.rates.length (rq c) (ziq c)) T) {i:Nat} (hi:i<l.length):
 sg l.length (fun j=>zis c l i j*T (l.getD j 0))=1:=by
 have hk:=zxq h
 have hs:=zcq hi
 have hr:=((h.mem _).1 hs).2.1
 have h1:=hk.eq (zcv hv) (X:=T) (b:=fun _=>1) hi (hT.eq _ (hk.lt _ hs) (hk.nl _ hs) (rch_sure hall hr))
 rw[zma fun j hj=>by rw[sysA_mm hv h hi],h1,sg_zero' fun t ht=> ?_,Rat.add_zero]
 by_cases hm:t∈l
 ·rw[if_pos hm]
 ·rw[if_neg hm]
  by_cases hl:ziq c t
  ·rw[hT.zero t ht hl,Rat.mul_zero]
  ·by_cases hp:0<rq c (l.getD i 0) t
   ·exact absurd ((h.mem t).2 ⟨ht,Clo.step hr ht hp,hall t ht (Clo.step hr ht hp),by unfold ziq at hl;simpa using hl⟩) hm
   ·have h2:=rq_nn hv (hk.lt _ hs) ht
    have h3:rq c (l.getD i 0) t=0:=by grind
    rw[h3,Rat.zero_mul]
theorem time_sum {c:RC} {l:List Nat} {T:Nat->Rat} (hv:zzp c) (h:zvq c l) (hall:∀j,j<c.rates.length->Rch c j->Ftl c j) (hT:TimeF c.rates.length (rq c) (ziq c) (Sure c.rates.length (rq c) (ziq c)) T):
 sg l.length (fun i=>(qs c.start).getD (l.getD i 0) 0*T (l.getD i 0))=sg c.rates.length fun t=>(qs c.start).getD t 0*T t:=by
 have hk:=zxq h
 rw[zwu (l:=l) hk.so hk.lt (f:=fun t=>(qs c.start).getD t 0*T t)]
 have hz:(sg c.rates.length fun t=>if t∈l then 0 else(qs c.start).getD t 0*T t)=0:= ?_
 ·rw[hz,Rat.add_zero]
 refine sg_zero' fun t ht=> ?_
 by_cases hm:t∈l
 ·rw[if_pos hm]
 ·rw[if_neg hm]
  by_cases hl:ziq c t
  ·rw[hT.zero t ht hl,Rat.mul_zero]
  ·by_cases hp:0<(qs c.start).getD t 0
   ·exact absurd ((h.mem t).2 ⟨ht,Clo.base ht hp,hall t ht (Clo.base ht hp),by unfold ziq at hl;simpa using hl⟩) hm
   ·have h2:=zpz hv ht
    have h3:(qs c.start).getD t 0=0:=by grind
    rw[h3,Rat.zero_mul]
structure SmC (c:RC):Prop where
 n5:c.rates.length<=5
 r:∀i j,i<c.rates.length->j<c.rates.length->over 720 28800 (rq c i j)
 s:∀i,i<c.rates.length->over 720 28800 ((qs c.start).getD i 0)
theorem slim5 :∀n,n<6->slimB n 720 230400 (dtB n 230400):=by
 intro n hn
 have h:∀n,n<6->(bD 720 (dtB n 230400)*(bD 720 (dtB n 230400)*bN n 720 230400 (dtB n 230400)*bD 720 (dtB n 230400))<2^4096/\bN n 720 230400 (dtB n 230400)*(bD 720 (dtB n 230400)*bN n 720 230400 (dtB n 230400)*bD 720 (dtB n 230400))+bN n 720 230400 (dtB n 230400)*bD 720 (dtB n 230400)*bN n 720 230400 (dtB n 230400)*bD 720 (dtB n 230400)<2^4096/\(720*dtB n 230400*720)^n<2^4096/\(bW n 720 230400 (dtB n 230400))^n<2^4096):=by decide+kernel
 obtain⟨h1,h2,h3,h4⟩:=h n hn
 exact⟨zLR _,by decide,by decide,h1,h2,h3,h4⟩
theorem zft {c:RC} {l:List Nat} (h:zvq c l):l.length<=c.rates.length:=by
 have h1:=zjt (lo:=0) (n:=c.rates.length) h.sorted fun x hx=>⟨zZL _,((h.mem x).1 hx).1⟩
 omega
theorem zgw {B:Nat} {q:Rat} (h:over 720 B q) (hB:B<2^4096):fits q:=h.fits (by decide) hB (by decide+kernel)
theorem sm_A {c:RC} {l:List Nat} (hv:zzp c) (h:zvq c l) (hs:SmC c) {i j:Nat} (hi:i<l.length) (hj:j<l.length):over 720 230400 (zis c l i j):=by
 have h1:=(zxq h).lt _ (zcq hi)
 have h2:=(zxq h).lt _ (zcq hj)
 unfold zis
 split
 ·rw[out_sg hv h1]
  exact(over.sg (by decide) fun t ht=>hs.r _ t h1 ht).mono (by have:=hs.n5;omega)
 ·exact(over.sub (by decide) (over.zero 720 0) (hs.r _ _ h1 h2)).mono (by decide)
theorem wt_28 {q:Rat} (h:over 720 230400 q):wt q<=28:=h.wt (a:=18) (b:=10) (by decide) (by decide) (by decide)
theorem zmw {c:RC} {l:List Nat} {b:Nat->Rat} (hv:zzp c) (h:zvq c l) (hs:SmC c) (hb:∀i,i<l.length->over 720 230400 (b i)) (hn:0<l.length):dt l.length (zis c l)≠0/\slimE false l.length (l.length+1) l.length (zpa l.length (zis c l) fun i _=>b i):=by
 have hd:dt l.length (zis c l)≠0:=by
  rw[zcd fun i j hi hj=>sysA_mm hv h hi]
  exact(zxq h).dt (zcv hv)
 have h5:l.length<6:=by have:=zft h;have:=hs.n5;omega
 refine⟨hd,slimE_minor (slim5 _ h5) hn (Nat.le_succ _) (fun i j hi hj=> ?_) (zff (B:=fun i _=>b i) hd)⟩
 unfold zpa
 split
 ·rename_i hj2
  exact sm_A hv h hs hi hj2
 ·exact hb i hi
theorem dtB5 :∀n,n<6->dtB n 230400<2^200:=by decide+kernel
theorem sm_x {c:RC} {l:List Nat} {b x:Nat->Rat} (hv:zzp c) (h:zvq c l) (hs:SmC c) (hb:∀i,i<l.length->over 720 230400 (b i)) (hx:∀i,i<l.length->sg l.length (fun j=>zis c l i j*x j)=b i):
 ∃E,E≠0/\E<2^220/\∀i,i<l.length->over E (2^240) (x i):=by
 by_cases hn:0<l.length
 ·obtain⟨hd,_⟩:=zmw hv h hs hb hn
  have h5:l.length<6:=by have:=zft h;have:=hs.n5;omega
  obtain⟨E,hE,hEb,hI⟩:=sol_gen (n:=l.length) (D:=720) (B:=230400) (by decide) (by decide) (fun i j hi hj=>sm_A hv h hs hi hj) hd (F:=720) (K:=230400) (by decide) hb hx
  have hB:=dtB5 _ h5
  refine⟨E*720,Nat.mul_ne_zero hE (by decide),?_,fun i hi=>(hI i hi).mono ?_⟩
  ·exact zLL (zMR _ (zLT hEb (Nat.le_of_lt hB))) (show 2^200*720<2^220 by decide+kernel)
  ·exact zLT (Nat.mul_le_mul (show l.length<=5 by omega) (zMR _ (Nat.le_of_lt hB))) (show 5*(2^200*230400)<=2^240 by decide+kernel)
 ·exact⟨1,by decide,by decide+kernel,fun i hi=>absurd hi (by omega)⟩
theorem pow_a :720*2^220<2^240:=by decide+kernel
theorem zcu {a:Nat} (h:a<4096):2^a<2^4096:=by
 generalize 4096=n at *
 exact Nat.pow_lt_pow_right (by decide) h
theorem znv {c:RC} {l:List Nat} {b x:Nat->Rat} (hv:zzp c) (h:zvq c l) (hs:SmC c) (hb:∀i,i<l.length->over 720 230400 (b i)) (hx:∀i,i<l.length->sg l.length (fun j=>zis c l i j*x j)=b i):zzt c l b x:=by
 have hk:=zxq h
 have h5:l.length<=5:=by have:=zft h;have:=hs.n5;omega
 have hA:zau l.length l.length (zis c l):=fun i j hi hj=>zgw (sm_A hv h hs hi hj) (by decide+kernel)
 have hfb:∀i,i<l.length->fits (b i):=fun i hi=>zgw (hb i hi) (by decide+kernel)
 have hw1:wtF l.length l.length (zis c l)<=700:=by
  have h1:=wtF_le (K:=28) (n:=l.length) (m:=l.length) (A:=zis c l) fun i j hi hj=>wt_28 (sm_A hv h hs hi hj)
  have h2:l.length*(l.length*28)<=5*(5*28):=Nat.mul_le_mul h5 (zMR _ h5)
  omega
 have hw2:wts (zib l.length b)<=140:=by
  have h1:=ztu (l:=zib l.length b) (K:=28) fun q hq=>by
   unfold zib at hq
   obtain⟨i,hi,rfl⟩:=List.mem_map.1 hq
   exact wt_28 (hb i (List.mem_range.1 hi))
  rw[zea]at h1
  omega
 have hw3:wts (qs c.start)<=140:=by
  have hl:(qs c.start).length=c.rates.length:=by rw[zgq];exact hv.2.2.2.1.symm
  have h1:=ztu (l:=qs c.start) (K:=28) fun q hq=>by
   obtain⟨i,hi,rfl⟩:=List.mem_iff_getElem.1 hq
   have h2:=hs.s i (by omega)
   rw[zGD,zGE hi,Option.getD_some]at h2
   exact wt_28 (h2.mono (by decide))
  have:=hs.n5
  rw[hl]at h1
  omega
 obtain⟨E,hE,hEb,hX⟩:=sm_x hv h hs hb hx
 have hEx:E<2^4096:=Nat.lt_trans hEb (by decide+kernel)
 have hE2:720*E<2^4096:=Nat.lt_trans (zLL (zML _ (Nat.le_of_lt hEb)) pow_a) (zcu (by decide))
 have hE3:720*E≠0:=Nat.mul_ne_zero (by decide) hE
 have hP:∀i,i<l.length->over (720*E) (28800*2^240) ((qs c.start).getD (l.getD i 0) 0*x i):=fun i hi=>over.mul (hs.s _ (hk.lt _ (zcq hi))) (hX i hi)
 exact{
  lt:=fun i hi=>hk.lt _ (zcq hi)
  le:=by omega
  fn:=fun i j hi hj=>zgw (over.sub (by decide) (over.zero 720 0) (hs.r _ _ (hk.lt _ (zcq hi)) (hk.lt _ (zcq hj)))) (by decide+kernel)
  fA:=hA
  fb:=hfb
  w:=by omega
  sys:=by
   by_cases hn:l.length=0
   ·exact Or.inl hn
   ·obtain⟨hd,hsl⟩:=zmw hv h hs hb (by omega)
    exact Or.inr ⟨by omega,by omega,hA,hfb,fun i hi=>(hX i hi).fits hE (by decide+kernel) hEx,by omega,hd,hsl,hx⟩
  fp:=fun i hi=>(hP i hi).fits hE3 (by decide+kernel) hE2
  fs:=fun k hk2=>((over.sg hE3 fun i hi=>hP i (by omega)).mono (show k*(28800*2^240)<=5*(28800*2^240)from zMR _ (by omega))).fits hE3 (by decide+kernel) hE2 }
def stS (c:RC) (X:Nat->Rat):Rat:=sg c.rates.length fun t=>(qs c.start).getD t 0*X t
abbrev HitC (c:RC) (H:Nat->Rat):Prop:=HitF c.rates.length (rq c) (ziq c) H
abbrev TimeC (c:RC) (T:Nat->Rat):Prop:=TimeF c.rates.length (rq c) (ziq c) (Sure c.rates.length (rq c) (ziq c)) T
theorem zsv {c:RC} (hs:SmC c) {s k:Nat} (h:s<c.rates.length) (hk:k<=c.rates.length):over 720 230400 (lsr c s k):=by
 unfold lsr
 have h5:=hs.n5
 refine(over.sg (B:=28800) (by decide) fun t ht=> ?_).mono (show k*28800<=230400 by omega)
 split
 ·exact hs.r _ _ h (by omega)
 ·exact over.zero _ _
theorem zqw {c:RC} (hs:SmC c) {k:Nat} (hk:k<=c.rates.length):over 720 230400 (lst c k):=by
 unfold lst
 have h5:=hs.n5
 refine(over.sg (B:=28800) (by decide) fun t ht=> ?_).mono (show k*28800<=230400 by omega)
 split
 ·exact hs.s _ (by omega)
 ·exact over.zero _ _
theorem pow_b :5*(28800*2^240)+230400*2^220<2^280:=by decide+kernel
theorem hit_sm {c:RC} {H:Nat->Rat} (hv:zzp c) (hs:SmC c) (hH:HitC c H):∀l,zvq c l->∃x,HitP c l x/\sg l.length (fun i=>(qs c.start).getD (l.getD i 0) 0*x i)+lst c c.rates.length=stS c H:=by
 intro l h
 have hk:=zxq h
 have hb:∀i,i<l.length->over 720 230400 (lsr c (l.getD i 0) c.rates.length):=fun i hi=>zsv hs (hk.lt _ (zcq hi)) (zLR _)
 have hx:=fun i (hi:i<l.length)=>alive_hit hv h hH hi
 have h5:l.length<=5:=by have:=zft h;have:=hs.n5;omega
 obtain⟨E,hE,hEb,hX⟩:=sm_x hv h hs hb hx
 have hE3:720*E≠0:=Nat.mul_ne_zero (by decide) hE
 have hE2:720*E<2^4096:=by
  have h1:720*E<=720*2^220:=zML _ (Nat.le_of_lt hEb)
  exact Nat.lt_trans (zLL h1 pow_a) (zcu (by decide))
 refine⟨fun i=>H (l.getD i 0),⟨znv hv h hs hb hx,fun i k hi hk2=>zgw (zsv hs (hk.lt _ (zcq hi)) hk2) (Nat.lt_trans (show 230400<2^18 by decide) (zcu (by decide))),fun k hk2=> ?_⟩,hit_sum hv h hH⟩
 have h1:over (720*E) (l.length*(28800*2^240)) (sg l.length fun i=>(qs c.start).getD (l.getD i 0) 0*H (l.getD i 0)):=over.sg hE3 fun i hi=>over.mul (hs.s _ (hk.lt _ (zcq hi))) (hX i hi)
 have h2:over (720*E) (230400*E) (lst c k):=(zqw hs hk2).scale hE
 have h3:=over.add hE3 h1 h2
 have h4:l.length*(28800*2^240)+230400*E<2^280:=by
  have h6:l.length*(28800*2^240)<=5*(28800*2^240):=zMR _ h5
  have h7:230400*E<=230400*2^220:=zML _ (Nat.le_of_lt hEb)
  exact zLL (Nat.add_le_add h6 h7) pow_b
 exact h3.fits hE3 (Nat.lt_trans h4 (zcu (a:=280) (by decide))) hE2
theorem mean_sm {c:RC} {T:Nat->Rat} (hv:zzp c) (hs:SmC c) (hT:TimeC c T):(∀j,j<c.rates.length->Rch c j->Ftl c j)->∀l,zvq c l->∃x,zzt c l (fun _=>1) x/\sg l.length (fun i=>(qs c.start).getD (l.getD i 0) 0*x i)=stS c T:=by
 intro hall l h
 have h1:over 720 230400 1:=(over.one (D:=720) (by decide)).mono (by decide)
 exact⟨fun i=>T (l.getD i 0),znv hv h hs (fun _ _=>h1) fun i hi=>zjw hv h hall hT hi,time_sum hv h hall hT⟩
theorem hit_c {va:Value} {c:RC} {H:Nat->Rat} {w:World} (ha:zdq w va c) (hv:zzp c) (hs:SmC c) (hH:HitC c H):Calls Tryz.prog 43 #[va] w (RF0 w (stS c H)):=hit_any va c _ w ha hv (hit_sm hv hs hH)
theorem mean_c {va:Value} {c:RC} {T:Nat->Rat} {w:World} (ha:zdq w va c) (hv:zzp c) (hs:SmC c) (hT:TimeC c T):Calls Tryz.prog 45 #[va] w (RMean w c (stS c T)):=mean_any va c _ w ha hv (mean_sm hv hs hT)
end Go.Proofs.YtlpdkbmmbdfoiaaGreat
namespace Go.Proofs.YtlpdkbmmbdfoiaaGreat
open Go.RowKit
section
variable {P:Program} {ops:Array Oper} {Q:Exit->Act->World->Prop}
def zxp (l:Array Bool) (i:Nat):Prop:=l.getD i false=true
theorem zxp.set {l:Array Bool} {i j:Nat} (h:zxp (l.setIfInBounds i true) j):j=i\/zxp l j:=by
 by_cases e:j=i
 ·exact Or.inl e
 ·refine Or.inr ?_
  unfold zxp at h |-
  rwa[getD_set_ne false (fun e2=>e e2.symm)]at h
theorem wpI.any {md:Region.Mode} (Inv:Array Bool->Act->World->Prop)
 (hstep:∀l a w i o,Inv l a w->Shut md ops l->¬zxp l i->ops[i]? =some o->(∀e∈o.after,Region.binds md e=true->zxp l e.on)->∀K:Act->World->Prop,Hid (∀b v,Inv (l.setIfInBounds i true) b v->K b v)->if Region.wanted o (yielded ops a.tmps)=true then o.wp P a w K Q else K (a.put o.dst undef) w)
 (hdone:∀l a w,Inv l a w->(∀i,i<ops.size->zxp l i)->Q .normal a w) (hacyc:∀ (l:Array Bool),l.size=ops.size->Region.ready md ops l= []->∀i,i<ops.size->zxp l i):
 ∀ (k:Nat) (l:Array Bool) (a:Act) (w:World),Inv l a w->Shut md ops l->l.size=ops.size->zwt l.toList<=k->wpAny P md ops Q k l a w
 | 0,l,a,w,hI,hsh,hs,hc=>by
   have hall:∀i,i<ops.size->zxp l i:=fun i hi=>by
    by_cases h:zxp l i
    ·exact h
    ·exfalso
     have hi2:i<l.toList.length:=by rw[Array.length_toList,hs];exact hi
     have hb:l.toList[i]? =some false:=by
      rw[Array.getElem?_toList]
      have h1:l[i]? =some (l[i]'(by rw[hs];exact hi)):=Array.getElem?_eq_getElem _
      unfold zxp at h
      rw[Array.getD_eq_getD_getElem?,h1]at h
      rw[h1]
      simpa using h
     have:=zgs hb
     omega
   refine⟨?_,hdone l a w hI hall⟩
   cases hr:Region.ready md ops l with
   | nil=>rfl
   | cons j t=>
     exfalso
     have hj:j∈Region.ready md ops l:=by rw[hr];simp
     obtain⟨h1,o,ho,_⟩:=mem_ready.1 hj
     exact zqg (hall j (Array.getElem?_eq_some_iff.1 ho).1) h1
 | k+1,l,a,w,hI,hsh,hs,hc=>by
   refine⟨fun hr=>hdone l a w hI (hacyc l hs hr),fun i hi=> ?_⟩
   obtain⟨h1,o,ho,hall⟩:=mem_ready.1 hi
   have hil:i<ops.size:=(Array.getElem?_eq_some_iff.1 ho).1
   have hrec:∀b v,Inv (l.setIfInBounds i true) b v->wpAny P md ops Q k (l.setIfInBounds i true) b v:=fun b v hb=>by
    refine wpI.any Inv hstep hdone hacyc k _ b v hb (hsh.set hi) (by simp[hs]) ?_
    have hb:l.toList[i]? =some false:=by
     rw[Array.getElem?_toList]
     have h2:l[i]? =some (l[i]'(by rw[hs];exact hil)):=Array.getElem?_eq_getElem _
     rw[Array.getD_eq_getD_getElem?,h2]at h1
     rw[h2]
     simpa using h1
    have:=zgs hb
    rw[Array.toList_setIfInBounds]
    omega
   have h2:=hstep l a w i o hI hsh (fun hd=>zqg hd h1) ho hall _ (zH hrec)
   unfold wpOp
   simp only[ho]
   by_cases hw:Region.wanted o (yielded ops a.tmps)=true
   ·rw[if_pos hw]at h2 |-
    exact Or.inl h2
   ·rw[if_neg hw]at h2 |-
    exact h2
def backB (md:Region.Mode) (ops:Array Oper):Bool:=
 (List.range ops.size).all fun j=>match ops[j]? with
  | none=>true
  | some o=>o.after.all fun e=> !Region.binds md e || decide (e.on<j)
theorem back_done {md:Region.Mode} (hb:backB md ops=true) (l:Array Bool) (hs:l.size=ops.size) (hr:Region.ready md ops l= []):∀ (n i:Nat),i<n->i<ops.size->zxp l i
 | 0,i,h,_=>by omega
 | n+1,i,h,hi=>by
   by_cases hd:zxp l i
   ·exact hd
   ·exfalso
    have ho:ops[i]? =some (ops[i]'hi):=Array.getElem?_eq_getElem _
    have hm:i∈Region.ready md ops l:=by
     refine mem_ready.2 ⟨?_,_,ho,fun e he hbe=> ?_⟩
     ·have h2:l[i]? =some (l[i]'(by rw[hs];exact hi)):=Array.getElem?_eq_getElem _
      unfold zxp at hd
      rw[Array.getD_eq_getD_getElem?,h2]at hd |-
      simpa using hd
     ·have h1:=List.all_eq_true.1 hb i (List.mem_range.2 hi)
      rw[ho]at h1
      have h3:=Array.all_eq_true_iff_forall_mem.1 h1 e he
      rw[hbe]at h3
      have h4:e.on<i:=by simpa using h3
      exact back_done hb l hs hr n e.on (by omega) (by omega)
    rw[hr]at hm
    cases hm
theorem cntF_rep (n:Nat):zwt (List.replicate n false)=n:=by simp[zwt]
theorem wpI.start {id:Nat} {a:Act} {w:World} (Inv:Array Bool->Act->World->Prop) (hm:P.follows .mixedOrders=true) (hb:backB .any ops=true) (h0:Inv (Array.replicate ops.size false) a w.drew)
 (hstep:∀l a w i o,Inv l a w->Shut .any ops l->¬zxp l i->ops[i]? =some o->(∀e∈o.after,Region.binds .any e=true->zxp l e.on)->∀K:Act->World->Prop,Hid (∀b v,Inv (l.setIfInBounds i true) b v->K b v)->if Region.wanted o (yielded ops a.tmps)=true then o.wp P a w K Q else K (a.put o.dst undef) w)
 (hdone:∀l a w,Inv l a w->(∀i,i<ops.size->zxp l i)->Q .normal a w):(Code.region id ops true).wp P Q a w:=
 wp_region_any hm (wpI.any Inv hstep hdone (fun l hs hr i hi=>back_done hb l hs hr (i+1) i (Nat.lt_succ_self i) hi) _ _ _ _ h0 (fun j o ho hl=>by rw[Array.getD_eq_getD_getElem?,Array.getElem?_replicate]at hl;split at hl<;>simp at hl) (by simp) (by rw[Array.toList_replicate,cntF_rep];exact zLR _))
end
end Go.Proofs.YtlpdkbmmbdfoiaaGreat
