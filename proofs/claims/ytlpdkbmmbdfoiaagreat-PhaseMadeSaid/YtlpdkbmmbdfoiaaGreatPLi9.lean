/- Lemmas. -/
import Derived.Test.YtlpdkbmmbdfoiaaGreatPSm4
set_option linter.unusedVariables false
set_option linter.unusedSimpArgs false
namespace Go.Proofs.YtlpdkbmmbdfoiaaGreat
def fac (n m s:Nat) (A:Mx):Prop:=∃C R:Mx,∀i j,i<n->j<m->A i j=zwe s C R i j
def unitIn (n m r:Nat) (A:Mx):Prop:=∃X Y:Mx,∀a b,a<r->b<r->zwe n X (zwe m A Y) a b=zhh a b
theorem mul_congr {m:Nat} {A B C D:Mx} {i k i' k':Nat} (h1:∀j,j<m->A i j=C i' j) (h2:∀j,j<m->B j k=D j k'):zwe m A B i k=zwe m C D i' k':=
 zqa λ j hj=>by rw[h1 j hj,h2 j hj]
theorem sg_cut {s r:Nat} {f:Nat->Rat} (h:s<=r) (h0:∀l,s<=l->l<r->f l=0):sg r f=sg s f:=by
 obtain⟨c,rfl⟩:∃c,r=s+c:=⟨r-s,zO⟩;rw[zjk,zqa (n:=c) (g:=λ _=>0) (λ j hj=>h0 _ zO zO),zfi];grind
theorem dt_one (r:Nat):dt r zhh≠0:=by
 rw[zfp (λ i j _ _ hij=>by unfold zhh;rw[zIN hij])];exact pr_ne λ i _=>by unfold zhh;rw[zIP rfl];decide+kernel
theorem unit_le {n m s r:Nat} {A:Mx} (hf:fac n m s A) (hu:unitIn n m r A):r<=s:=by
 obtain⟨C,R,hC⟩:=hf;obtain⟨X,Y,hX⟩:=hu;rcases zOG s r with h | h
 ·exfalso
  have e:dt r (zwe r (λ a l=>if l<s then zwe n X C a l else 0) (λ l b=>if l<s then zwe m R Y l b else 0))=dt r zhh:=zyd λ a b ha hb=>by
   rw[<-hX a b ha hb]
   have e1:zwe n X (zwe m A Y) a b=zwe s (zwe n X C) (zwe m R Y) a b:=by
    rw[mul_assoc];(refine mul_congr (λ _ _=>rfl) λ i hi=> ?_);rw[<-mul_assoc];exact mul_congr (λ j hj=>hC i j hi hj) λ _ _=>rfl
   rw[e1];unfold zwe;rw[sg_cut (zLO h) (λ l h1 h2=>by dsimp only;rw[zIN zO,Rat.zero_mul])];exact zqa λ l hl=>by dsimp only;rw[zIP hl,zIP hl]
  rw[dt_mul,zdg (A:=λ l b=>if l<s then zwe m R Y l b else 0) (r:=r-1) zO (λ j hj=>zIN zO),Rat.mul_zero]at e;exact dt_one r e.symm
 ·exact h
def trM (A:Mx):Mx:=λ i j=>A j i
theorem fac_tr {n m s:Nat} {A:Mx} (h:fac n m s A):fac m n s (trM A):=by
 obtain⟨C,R,e⟩:=h;refine⟨trM R,trM C,λ i j hi hj=> ?_⟩;show A j i=_
 rw[e j i hj hi];exact zqa λ l _=>Rat.mul_comm _ _
theorem unit_tr {n m r:Nat} {A:Mx} (h:unitIn n m r A):unitIn m n r (trM A):=by
 obtain⟨X,Y,e⟩:=h;refine⟨trM Y,trM X,λ a b ha hb=> ?_⟩
 have e1:zhh a b=zhh b a:=by
  unfold zhh;by_cases h:a=b
  ·rw[zIP h,zIP h.symm]
  ·rw[zIN h,zIN (λ e=>h e.symm)]
 rw[e1,<-e b a hb ha,<-mul_assoc];unfold zwe trM;refine zqa λ j _=> ?_
 rw[Rat.mul_comm];refine congrArg (X b j* ·) (zqa λ i _=>Rat.mul_comm _ _)
theorem facC (n m t:Nat) (A:Mx):RowC n λ X _=>fac n m t X->fac n m t A where
 congr:=λ X Y s h hX hY=>hX (by
  obtain⟨C,R,e⟩:=hY;exact⟨C,R,λ i j hi hj=>by rw[h i hi];exact e i j hi hj⟩)
 swap:=λ X s a b ha hb hab hX hY=>hX (by
  obtain⟨C,R,e⟩:=hY;refine⟨swp C a b,R,λ i j hi hj=> ?_⟩
  have key:∀i',i'<n->swp X a b i'=X i->swp C a b i=C i'->X i j=zwe t (swp C a b) R i j:=λ i' hi' h1 h2=>by
   rw[<-h1,e i' j hi' hj];exact(congrFun (zsh h2) j).symm
  by_cases h1:i=a
  ·subst h1;exact key b hb (by unfold swp;rw[zIN (λ e=>hab e.symm),zIP rfl]) (by unfold swp;rw[zIP rfl])
  ·by_cases h2:i=b
   ·subst h2;exact key a ha (by unfold swp;rw[zIP rfl]) (by unfold swp;rw[zIN h1,zIP rfl])
   ·exact key i hi (by unfold swp;rw[zIN h1,zIN h2]) (by unfold swp;rw[zIN h1,zIN h2]))
 add:=λ X s i r c hi hr hir hX hY=>hX (by
  obtain⟨C,R,e⟩:=hY;refine⟨zjd C i λ l=>C i l-c*C r l,R,λ k j hk hj=> ?_⟩;have er:=e r j hr hj;rw[zrd (λ e=>hir e.symm)]at er;by_cases h1:k=i
  ·subst h1;have ek:=e k j hk hj;rw[zbe]at ek
   have e2:zwe t (zjd C k λ l=>C k l-c*C r l) R k j=zwe t C R k j+(-c)*zwe t C R r j:=by
    unfold zwe;rw[zbe,<-zhb,<-zxg];exact zqa λ l _=>by grind
   rw[e2,<-ek,<-er];grind
  ·have ek:=e k j hk hj;rw[zrd h1]at ek;rw[ek];exact(congrFun (zsh (zrd h1)) j).symm)
theorem combC (n m:Nat) (A:Mx):RowC n λ X _=>∃E:Mx,∀i j,i<n->j<m->X i j=zwe n E A i j where
 congr:=λ X Y s h hX=>by
  obtain⟨E,e⟩:=hX;exact⟨E,λ i j hi hj=>by rw[<-h i hi];exact e i j hi hj⟩
 swap:=λ X s a b ha hb hab hX=>by
  obtain⟨E,e⟩:=hX;refine⟨swp E a b,λ i j hi hj=> ?_⟩
  have key:∀i',i'<n->swp X a b i=X i'->swp E a b i=E i'->swp X a b i j=zwe n (swp E a b) A i j:=λ i' hi' h1 h2=>by
   rw[h1,e i' j hi' hj];exact(congrFun (zsh h2) j).symm
  by_cases h1:i=a
  ·subst h1;exact key b hb (by unfold swp;rw[zIP rfl]) (by unfold swp;rw[zIP rfl])
  ·by_cases h2:i=b
   ·subst h2;exact key a ha (by unfold swp;rw[zIN h1,zIP rfl]) (by unfold swp;rw[zIN h1,zIP rfl])
   ·exact key i hi (by unfold swp;rw[zIN h1,zIN h2]) (by unfold swp;rw[zIN h1,zIN h2])
 add:=λ X s i r c hi hr hir hX=>by
  obtain⟨E,e⟩:=hX;refine⟨zjd E i λ l=>E i l+c*E r l,λ k j hk hj=> ?_⟩;by_cases h1:k=i
  ·subst h1;rw[zbe,e k j hk hj,e r j hr hj];unfold zwe;rw[zbe,<-zhb,<-zxg];exact zqa λ l _=>by grind
  ·rw[zrd h1,e k j hk hj];exact(congrFun (zsh (zrd h1)) j).symm
theorem elim_pivs (n:Nat) (A:Mx):∀k,∃p:Nat->Nat,∀l,l<(elim false n A k).r->p l<k/\(elim false n A k).A l (p l)≠0/\∀i,i<n->i≠l->(elim false n A k).A i (p l)=0
 | 0=>⟨λ _=>0,λ l hl=>absurd hl (by simp[elim])⟩
 | k+1=>by
   obtain⟨p,hp⟩:=elim_pivs n A k;have hrn:=(zcg false n A k).1;have hge:=zmm n k (elim false n A k);rw[elim,zrg];by_cases hlt:pvt n k (elim false n A k)<n
   ·have hpn:=zaq hrn hlt;rw[zIP hlt];dsimp only;generalize pvt n k (elim false n A k)=a at *
    generalize (elim false n A k).r=r at *
    generalize (elim false n A k).A=S at *
    refine⟨λ l=>if l<r then p l else k,λ l hl=> ?_⟩;by_cases hlr:l<r
    ·obtain⟨h1,h2,h3⟩:=hp l hlr;simp only[zIP hlr]
     have hun:∀i,zhj false (swp S r a) r k i (p l)=swp S r a i (p l):=λ i=>by
      unfold zhj;rw[zIN (λ h=>zO)]
     refine⟨zO,?_,λ i hi hil=> ?_⟩
     ·rw[hun];unfold swp;rw[zIN zO,zIN zO];exact h2
     ·rw[hun];unfold swp;split
      ·exact h3 a hlt zO
      ·split
       ·exact h3 r zO zO
       ·exact h3 i hi hil
    ·obtain rfl:l=r:=zO;simp only[zIN hlr];(have hkk:swp S l a l k≠0:=by rw[zjj];exact hpn);refine⟨zO,?_,λ i hi hil=> ?_⟩
     ·rw[znh (λ h=>h.1 rfl)];exact hkk
     ·unfold zhj;by_cases hz:swp S l a i k=0
      ·rw[zIN (λ h=>h.1.2.2 hz)];exact hz
      ·rw[zIP ⟨⟨hil,(λ z=>by cases z.1),hz⟩,zLR _⟩,Rat.div_mul_cancel hkk];grind
   ·rw[zIN hlt];exact⟨p,λ l hl=>by obtain⟨h1,h2,h3⟩:=hp l hl;exact⟨zO,h2,h3⟩⟩
theorem zrl (n m:Nat) (A:Mx):(elim true n A m).r=(elim false n A m).r:=(ziq (A:=A) (M:=A) (n:=n) (m:=m) true false (λ _ _ _ _=>rfl) m (zLR _)).1
theorem rank_fac (n m:Nat) (A:Mx):fac n m (elim false n A m).r A:=by
 refine zxd (facC n m (elim false n A m).r A) false (A:=A) (λ h=>h) m ⟨zhh,(elim false n A m).A,λ i j hi hj=> ?_⟩;unfold zwe zhh;by_cases h:i<(elim false n A m).r
 ·have e:sg (elim false n A m).r (λ l=>(if i=l then(1:Rat)else 0)*(elim false n A m).A l j)=sg (elim false n A m).r (λ l=>if i=l then(elim false n A m).A l j else 0):=zqa λ l _=>by
   by_cases h1:i=l
   ·rw[zIP h1,zIP h1,Rat.one_mul]
   ·rw[zIN h1,zIN h1,Rat.zero_mul]
  rw[e,zee h]
 ·rw[zoe false n A m i j zO hi hj];exact(zfi _).symm.trans (zqa λ l hl=>by rw[zIN zO,Rat.zero_mul])
theorem rank_unit (n m:Nat) (A:Mx):unitIn n m (elim false n A m).r A:=by
 obtain⟨E,hE⟩:=zxd (combC n m A) false (A:=A) ⟨zhh,λ i j hi hj=>by
  unfold zwe zhh
  have e:sg n (λ l=>(if i=l then(1:Rat)else 0)*A l j)=sg n (λ l=>if i=l then A l j else 0):=zqa λ l _=>by
   by_cases h1:i=l
   ·rw[zIP h1,zIP h1,Rat.one_mul]
   ·rw[zIN h1,zIN h1,Rat.zero_mul]
  rw[e,zee hi]⟩ m
 obtain⟨p,hp⟩:=elim_pivs n A m;have hrn:=(zcg false n A m).1;generalize (elim false n A m).r=r at *
 generalize (elim false n A m).A=T at *
 refine⟨E,λ j b=>if p b=j then 1/T b (p b)else 0,λ a b ha hb=> ?_⟩;rw[<-mul_assoc];obtain⟨h1,h2,h3⟩:=hp b hb
 have e1:zwe m (zwe n E A) (λ j b=>if p b=j then 1/T b (p b)else 0) a b=sg m (λ j=>if p b=j then T a j*(1/T b (p b))else 0):=zqa λ j hj=>by
  rw[<-hE a j zO hj];dsimp only;by_cases h4:p b=j
  ·rw[zIP h4,zIP h4]
  ·rw[zIN h4,zIN h4,Rat.mul_zero]
 rw[e1,zee h1 (λ j=>T a j*(1/T b (p b)))];unfold zhh;by_cases h5:a=b
 ·subst h5;rw[zIP rfl,Rat.mul_comm,Rat.div_mul_cancel h2]
 ·rw[zIN h5,h3 a zO h5,Rat.zero_mul]
theorem rank_uniq {n m s:Nat} {A:Mx} (hf:fac n m s A) (hu:unitIn n m s A):(elim true n A m).r=s:=by
 rw[zrl];have h1:=unit_le (rank_fac n m A) hu;have h2:=unit_le hf (rank_unit n m A);omega
theorem rank_tr (n m:Nat) (A:Mx):(elim true m (trM A) n).r=(elim true n A m).r:=by
 rw[zrl n m];exact rank_uniq (fac_tr (rank_fac n m A)) (unit_tr (rank_unit n m A))
theorem rank_det (n:Nat) (A:Mx):(elim true n A n).r=n↔dt n A≠0:=by
 rw[zrl];have h:=elim_dt (M:=A) (n:=n);have hr:=(zcg false n A n).1;constructor
 ·exact λ e=>(h.1 e).2
 ·intro e;rcases zOG (elim false n A n).r n with h1 | h1
  ·exact absurd (h.2 h1) e
  ·omega
theorem rightC (n:Nat) (C:Rat):RowC n λ B s=>C=s*dt n (λ i j=>B i (n+j)) where
 congr:=λ X Y s h hX=>by rw[hX,zyd (λ a b ha _=>by rw[h a ha])]
 swap:=λ X s a b ha hb hab hX=>by
  have e:(λ i j=>swp X a b i (n+j))=swp (λ i j=>X i (n+j)) a b:=by
   funext i j;unfold swp;split
   ·rfl
   ·split<;>rfl
  rw[hX,e,dt_swp ha hb hab];grind
 add:=λ X s i r c hi hr hir hX=>by
  have e:(λ a j=>zjd X i (λ b=>X i b+c*X r b) a (n+j))=zjd (λ i j=>X i (n+j)) i (λ b=>X i (n+b)+c*X r (n+b)):=by
   funext a j;unfold zjd;split<;>rfl
  rw[hX,e];rw[dt_add (A:=λ i j=>X i (n+j)) hi hr hir c]
theorem ker_of_dt {n:Nat} {A:Mx} (h:dt n A=0):∃c:Nat->Rat,(∃l,l<n/\c l≠0)/\∀i,i<n->sg n (λ l=>A i l*c l)=0:=by
 have hT:dt n (trM A)=0:=by
  by_cases h1:dt n (trM A)=0
  ·exact h1
  ·have h2:=(rank_det n (trM A)).2 h1;rw[rank_tr]at h2;exact absurd h ((rank_det n A).1 h2)
 have hr:=rank_less (B:=zhh) hT;have hl:=zoe false n (zra n (trM A) zhh) n
 have hk:=zxd (invC n (trM A)) false (A:=zra n (trM A) zhh) (λ i j hi hj=>by
  rw[zhe hj]
  have e:sg n (λ l=>zra n (trM A) zhh i (n+l)*trM A l j)=sg n (λ l=>if i=l then trM A l j else 0):=zqa λ l hl=>by
   rw[zkf];unfold zhh;by_cases h5:i=l
   ·rw[zIP h5,zIP h5];grind
   ·rw[zIN h5,zIN h5];grind
  rw[e,zee hi]) n
 have hd:=zxd (rightC n (dt n zhh)) false (A:=zra n (trM A) zhh) (by
  have e:dt n (λ i j=>zra n (trM A) zhh i (n+j))=dt n zhh:=zyd λ a b _ _=>zkf
  rw[e,Rat.one_mul]) n
 generalize (elim false n (zra n (trM A) zhh) n).A=X at *
 generalize (elim false n (zra n (trM A) zhh) n).r=r at *
 refine⟨λ l=>X (n-1) (n+l),?_,λ i hi=> ?_⟩
 ·apply Classical.byContradiction;intro hno
  have hz:∀j,j<n->(λ i j=>X i (n+j)) (n-1) j=0:=λ j hj=>by
   by_cases h5:X (n-1) (n+j)=0
   ·exact h5
   ·exact absurd ⟨j,hj,h5⟩ hno
  rw[zdg (A:=λ i j=>X i (n+j)) (show n-1<n by omega) hz,Rat.mul_zero]at hd;exact dt_one n hd
 ·have h1:=hk (n-1) i zO hi;rw[hl (n-1) i zO zO hi]at h1;rw[<-h1];exact zqa λ l _=>by unfold trM;exact Rat.mul_comm _ _
theorem sg_le {n:Nat} {f g:Nat->Rat} (h:∀i,i<n->f i<=g i):sg n f<=sg n g:=by
 induction n with
 | zero=>exact Rat.le_refl
 | succ n ih=>rw[sg,sg];have:=ih λ i hi=>h i zO;have:=h n zO;grind
theorem sg_lt {n:Nat} {f g:Nat->Rat} (h:∀i,i<n->f i<=g i) {k:Nat} (hk:k<n) (hlt:f k<g k):sg n f<sg n g:=by
 induction n with
 | zero=>omega
 | succ n ih=>
   rw[sg,sg];(have h1:=sg_le (n:=n) λ i hi=>h i zO);have h2:=h n zO;by_cases e:k=n
   ·subst e;grind
   ·have:=ih (λ i hi=>h i zO) zO;grind
theorem max_at {x:Nat->Rat}:∀ {n:Nat},0<n->∃i,i<n/\∀j,j<n->x j<=x i
 | 1,_=>⟨0,zO,λ j hj=>by (obtain rfl:j=0:=zO);exact Rat.le_refl⟩
 | n+2,_=>by
   obtain⟨i,h1,h2⟩:=max_at (x:=x) (n:=n+1) zO;by_cases h:x (n+1)<=x i
   ·refine⟨i,zO,λ j hj=> ?_⟩;by_cases e:j=n+1
    ·subst e;exact h
    ·exact h2 j zO
   ·refine⟨n+1,zO,λ j hj=> ?_⟩;by_cases e:j=n+1
    ·subst e;exact Rat.le_refl
    ·have:=h2 j zO;grind
def esc (n:Nat) (r:Mx) (o:Nat->Rat):Nat->Nat->Prop
 | 0,i=>sg n (r i)<o i
 | k+1,i=>esc n r o k i\/∃j,j<n/\0<r i j/\esc n r o k j
section
variable {n:Nat} {r:Mx} {o:Nat->Rat}
theorem mm_max (hr:∀i j,i<n->j<n->0<=r i j) (ho:∀i,i<n->sg n (r i)<=o i) (he:∀i,i<n->∃k,esc n r o k i) {x:Nat->Rat} (hx:∀i,i<n->o i*x i<=sg n λ j=>r i j*x j):∀i,i<n->x i<=0:=by
 intro i0 hi0;obtain⟨im,h1,h2⟩:=max_at (x:=x) (n:=n) zO;by_cases hm:x im<=0
 ·have:=h2 i0 hi0;grind
 ·exfalso;have hpos:0<x im:=Rat.not_le.1 hm;obtain⟨m,hmx⟩:∃m,x im=m:=⟨_,rfl⟩;rw[hmx]at h2 hpos
  have key:∀i,i<n->x i=m->(sg n λ j=>r i j*x j)<=sg n (r i)*m/\o i*m<=sg n λ j=>r i j*x j:=λ i hi hxi=>by
   refine⟨?_,by have:=hx i hi;rwa[hxi]at this⟩;rw[<-zbf];exact sg_le λ j hj=>Rat.mul_le_mul_of_nonneg_left (h2 j hj) (hr i j hi hj)
  have no:∀k i,i<n->x i=m->¬esc n r o k i:=by
   intro k
   induction k with
   | zero=>
     intro i hi hxi h;obtain⟨k1,k2⟩:=key i hi hxi;have h3:sg n (r i)*m<o i*m:=Rat.mul_lt_mul_of_pos_right h hpos;grind
   | succ k ih=>
     intro i hi hxi h;rcases h with h | ⟨j,hj,hrj,h⟩
     ·exact ih i hi hxi h
     ·obtain⟨k1,k2⟩:=key i hi hxi;refine ih j hj ?_ h;have h4:=h2 j hj;by_cases h5:x j=m
      ·exact h5
      ·exfalso;have h6:x j<m:=by grind
       have h7:(sg n λ j=>r i j*x j)<sg n (r i)*m:=by
        rw[<-zbf];exact sg_lt (λ j hj=>Rat.mul_le_mul_of_nonneg_left (h2 j hj) (hr i j hi hj)) hj (Rat.mul_lt_mul_of_pos_left h6 hrj)
       have h8:sg n (r i)*m<=o i*m:=Rat.mul_le_mul_of_nonneg_right (ho i hi) (Rat.le_of_lt hpos);grind
  obtain⟨k,hk⟩:=he im h1;exact no k im h1 hmx hk
def mmA (r:Mx) (o:Nat->Rat):Mx:=λ i j=>if i=j then o i else -r i j
theorem mmA_row (hd:∀i,i<n->r i i=0) {i:Nat} (hi:i<n) (x:Nat->Rat):sg n (λ j=>mmA r o i j*x j)=o i*x i-sg n λ j=>r i j*x j:=by
 have e:sg n (λ j=>mmA r o i j*x j)=sg n (λ j=>(if i=j then o i*x i else 0)+(-1)*(r i j*x j)):=zqa λ j hj=>by
  unfold mmA;by_cases h:i=j
  ·subst h;rw[zIP rfl,zIP rfl,hd i hi];grind
  ·rw[zIN h,zIN h];grind
 rw[e,zxg,zhb,zee (f:=λ _=>o i*x i) hi];grind
theorem mm_dt (hd:∀i,i<n->r i i=0) (hr:∀i j,i<n->j<n->0<=r i j) (ho:∀i,i<n->sg n (r i)<=o i) (he:∀i,i<n->∃k,esc n r o k i):dt n (mmA r o)≠0:=by
 intro h;obtain⟨c,⟨l,hl,hc⟩,hz⟩:=ker_of_dt h
 have e:∀i,i<n->o i*c i=sg n λ j=>r i j*c j:=λ i hi=>by
  have:=hz i hi;rw[mmA_row hd hi]at this;grind
 have h1:=mm_max hr ho he (x:=c) (λ i hi=>by rw[e i hi];exact Rat.le_refl) l hl
 have h2:=mm_max hr ho he (x:=λ j=>(-1)*c j) (λ i hi=>by
  have e2:sg n (λ j=>r i j*((-1)*c j))=(-1)*sg n (λ j=>r i j*c j):=by
   rw[<-zhb];exact zqa λ j _=>by grind
  rw[e2,<-e i hi];have :o i*((-1)*c i)=(-1)*(o i*c i):=by grind
  rw[this];exact Rat.le_refl) l hl
 have h3:c l=0:=by grind
 exact hc h3
end
end Go.Proofs.YtlpdkbmmbdfoiaaGreat
namespace Go.Proofs.YtlpdkbmmbdfoiaaGreat
open Go.RowKit
theorem kp1w {w0 X Y:World} {a1:Addr} {x1:Value} (h:X.cell? a1=some x1/\Below w0.heap.size w0 X) (hb:Below X.heap.size X Y):Y.cell? a1=some x1/\Below w0.heap.size w0 Y:=
 ⟨zba hb h.1,zaa h.2 hb⟩
theorem kp1a {w0 X:World} {a1:Addr} {x1:Value} (h:w0.cell? a1=some x1) (hb:Below w0.heap.size w0 X):X.cell? a1=some x1/\Below w0.heap.size w0 X:=⟨zba hb h,hb⟩
theorem kp1c {w0 X:World} {a1:Addr} {x1:Value} (h:X.cell? a1=some x1/\Below w0.heap.size w0 X):Below w0.heap.size w0 X:=h.2
theorem rowL_app (m m2:Nat) (A B:Mx) (i:Nat):zxa m (A i)++zxa m2 (B i)=zxa (m+m2) (zra m A B i):=by
 refine List.ext_getElem (by simp[zxa]) λ j h1 h2=> ?_
 rw[zqb];have hj:j<m+m2:=by rw[zda]at h2;exact h2
 unfold zra;by_cases h:j<m
 ·rw[zAL (by rw[zda];exact h),zqb,zIP h]
 ·rw[List.getElem_append_right (by rw[zda];omega),zqb,zIN h,zda]
theorem zqe.init {w:World} {T m wd:Nat} {x y z:Value} {d:Rat} (A:Mx) (hm:0<m) (hb:zkg w T #[.slice none 0 0, .int .i64 wd, .int .i64 (0:Nat),x,y,z, .int .i64 0]) (hf:zia w (.agg #[x,y,z]) d):zqe w T (.slice none 0 0) [] 0 m A wd 0 d:=by
 obtain⟨a,b,ha,h4,h5⟩:=hf;injection ha with ha
 injection ha with ha
 simp only[List.cons.injEq,and_true]at ha;obtain⟨rfl,rfl,rfl⟩:=ha;exact⟨⟨y,z,hb,h4,h5⟩,zkc.nil _ _ _ _,rfl,hm,λ i h=>by simp at h,λ i j h=>by simp at h⟩
theorem zqe.grownR {w w':World} {T n m wd rk:Nat} {vR u:Value} {rs:List Value} {A:Mx} {d:Rat} (h:zqe w T vR rs n m A wd rk d) (hg:w.grownBy w' u.ownBlock) (hn:zrb w u) (hT:u.ownBlock≠some T)
 (hR:vR.ownBlock=none\/vR.ownBlock≠u.ownBlock) (hr:∀i (hi:i<rs.length),rs[i].ownBlock≠u.ownBlock):zqe w' T vR rs n m A wd rk d:=by
 obtain⟨⟨a,b,h1,h2,h3⟩,own,rl,mp,row,ap⟩:=h;exact⟨⟨a,b,h1.grown hg hT,h2.grown hg hn,h3.grown hg hn⟩,own.grown hg hR,rl,mp,λ i hi=>(row i hi).grown hg hn (Or.inr (hr i hi)),ap⟩
theorem zqe.old {w:World} {T n m wd rk:Nat} {vR:Value} {rs:List Value} {A:Mx} {d:Rat} (h:zqe w T vR rs n m A wd rk d) {i:Nat} (hi:i<rs.length):∃g,rs[i].ownBlock=some g/\g<w.heap.size:=by
 obtain⟨g,h1,_,_,h2,_⟩:=(h.row i hi).blk (by rw[zda];exact h.mp);exact⟨g,h1,h2⟩
def RBeg (w0:World) (n m:Nat) (A:Mx) (wd:Nat) (e:Ending) (w:World):Prop:=
 ∃T vR rs,e= .returned (.pointer (some ⟨T,0,none⟩))/\Below w0.heap.size w0 w/\zqe w T vR rs n m A wd 0 1/\w0.heap.size<=T
set_option maxRecDepth 100000 in
set_option maxHeartbeats 3200000 in
theorem begin_two (va:Value) (bd:Addr) (bn bc:Nat) (n m m2:Nat) (A A2:Mx) (w:World) (ha:zij w va n m A) (hb:zij w (.slice (some bd) bn bc) n m2 A2) (hn1:1<=n) (hn:n<=100) (hm1:1<=m) (hm:m<=100) (hm21:1<=m2) (hm2:m2<=100):
 Calls Tryz.prog 204 #[va, .slice (some bd) bn bc] w (RBeg w n (m+m2) (zra m A A2) m):=by
 obtain⟨i3,hi3,hz3,hs3,hy3⟩:=info_parts Tryz.infoF;have hAP:=append_fr (P:=Tryz.prog) 25 38 i3 Tryz.underlying25 hi3 hz3 hs3 hy3;obtain⟨i4,hi4,hz4,hs4,hy4⟩:=info_parts Tryz.infoRow;have hAR:=zwh (P:=Tryz.prog) 24 25 i4 _ 24 Tryz.underlying24 hi4 hz4 hs4 hy4 zD rfl zZ;clear hi3 hz3 hs3 hy3 hi4 hz4 hs4 hy4;have sa:=ha.sl;have la:=ha.len;obtain⟨r0,hc0,hr0⟩:=ha.row 0 zO;have sl0:=hr0.sl;have ln0:slen r0=m:=by rw[hr0.len,zda]
 have HA:=zH ha;have S0:=zH hc0;have sb:=hb.sl;have lb:=hb.len;have HB0:=zH hb;clear hb;have i0:(0:Int)<(n:Nat):=zO;have i00:0<n:=zO;clear ha hr0;go_enter Tryz.func204,Tryz.ntmps204;go_wp2_with fail
 go_region_held3 (λ w'=>w'.cell? (ptr va 0)=some r0/\Below w.heap.size w w') (first
  | with_reducible exact kp1a S0.o (zfa _)
  | with_reducible exact kp1w (by assumption) (zca _ _)
  | with_reducible exact kp1w (by assumption) (by assumption)) (first
  |(go_at_call 218;(with_reducible refine(lnumber_one _).mono ?_);rintro e1 w1 ⟨v1,rfl,hv1,hb1⟩;obtain⟨t9,a1,l91,k91,a2,l92,k92,rfl⟩:=hv1.iF;have hB1:=zaa (kp1c (by assumption)) hb1))
 all_goals
  have hBZ:=kp1c (by assumption);have hI:=zqe.init (w:=w1.alloc (.cells #[.slice none 0 0, .int .i64 m, .int .i64 (0:Nat), .bool t9, .slice a1 l91 k91, .slice a2 l92 k92, .int .i64 0] 177)) (m:=(m+m2)) (zra m A A2) zO (zkg.new w1 _ _) (hv1.bw (zca _ _));have HI:=zH hI;have HBZ:=zH hBZ;have hTw:w.heap.size<=w1.heap.size:=hB1.size;clear hI hBZ hv1 hb1 hB1 hc0;go_wp2_with fail;obtain⟨T,hT⟩:∃T,w1.heap.size=T:=⟨_,rfl⟩;rw[hT]at HI hTw;rw[hT];have HT:=zH hT;clear hT;go_loopg [18] (n) (λ g u18 wr=>∃ (k:Nat) (vR:Value) (rs:List Value),k<=n/\g=n-k/\u18= .int .i64 k/\zqe wr T vR rs k (m+m2) (zra m A A2) m 0 1/\Below w.heap.size w wr);case atStart=>exact⟨0,_,[],zZL _,rfl,rfl,HI.o,HBZ.o⟩
  case round=>
   obtain⟨k,vR,rs,hk,hg,rfl,hTab,hbr⟩:=hrel;obtain⟨w2,hw2⟩:∃w2,w2=wr:=⟨_,rfl⟩;subst hw2;have HTAB:=zH hTab;have HBR:=zH hbr;have HG:=zH hg;clear HI HBZ;by_cases hkn:k<n
   ·obtain⟨rv,hrc,hrv⟩:=(HA.o.bw hbr).row k hkn;have hrlen:=hrv.len;rw[zda]at hrlen;obtain⟨ra,rn,rc,rfl,hs1,hs2,hs3⟩:=id hrv.sl
    obtain⟨ad,rfl⟩:∃ad,ra=some ad:=by
     cases ra with
     | none=>exfalso;have h5:=hs3 rfl;have h6:rn=m:=hrlen;omega
     | some ad=>exact⟨ad,rfl⟩
    (have hle1:([]:List Rat).length+(zxa m (A k)).length<=1000:=by rw[zda];simp;omega);have hTle:T+1<=w2.heap.size:=hTab.lt;have hnil:=zua.nil w2 38 (T+1);have HRV:=zH hrv;obtain⟨rv2,hrc2,hrv2⟩:=(HB0.o.bw hbr).row k hkn;have hrlen2:=hrv2.len;rw[zda]at hrlen2;obtain⟨ra2,rn2,rc2,rfl,ht1,ht2,ht3⟩:=id hrv2.sl
    obtain⟨ad2,rfl⟩:∃ad2,ra2=some ad2:=by
     cases ra2 with
     | none=>exfalso;have h5:=ht3 rfl;have h6:rn2=m2:=hrlen2;omega
     | some ad2=>exact⟨ad2,rfl⟩
    (have hle2:([]++zxa m (A k)).length+(zxa m2 (A2 k)).length<=1000:=by rw[List.nil_append,zda,zda];omega);have HRV2:=zH hrv2;clear hrv2 hrlen2 ht1 ht2 ht3;clear hTab hbr hg hs1 hs2 hs3 hrlen
    go_wp2_with (first
     |(at_builtin;refine hAP w2 rfl _ _ rfl (T+1) _ [] rfl hnil ad rn rc (zxa m (A k)) rfl HRV.o hle1 hTle ?_;intro v5 w5 hf5 hg5 hn5 ho5 sv5;obtain⟨u1,u2,u3,rfl,_⟩:=id sv5;have hb5:Below w2.heap.size w2 w5:=zja hg5 (zLR _) (λ k hk=>by cases hk);have hT5:=HTAB.o.bw hb5;(have hfl5:([]++zxa m (A k)).length=m:=by rw[List.nil_append,zda]);have HT5:=zH hT5;have HF5:=zH hf5;have HO5:=zH ho5;have HB5:=zH (zaa HBR.o hb5);have hle5:T+1<=w5.heap.size:=hT5.lt;have HRV5:=zH (HRV2.o.bw hb5);have hrc5:=zba hb5 hrc2;have hsf5:=hf5;clear hT5 hf5 hg5 hn5 ho5)
     |(at_builtin;refine hAP w5 rfl _ _ rfl (T+1) (.slice u1 u2 u3) ([]++zxa m (A k)) rfl hsf5 ad2 rn2 rc2 (zxa m2 (A2 k)) rfl HRV5.o hle2 hle5 ?_;intro v6 w6 hf6 hg6 hn6 ho6 sv6
       obtain⟨z1,z2,z3,rfl,_⟩:=id sv6;have hgb:=HF5.o.blk (by rw[List.nil_append,zda];omega)
       have hT6:=HT5.o.grownR hg6 hn6 (by obtain⟨g,e1,_,e2,_⟩:=hgb;rw[e1];intro e;injection e with e;omega) (by
        obtain⟨ys,y1,y2⟩:=HF5.o;exact HT5.o.own.kinds y1 zD) (λ i hi=>by
        obtain⟨g,e1,e2⟩:=HTAB.o.old hi;rw[e1];rcases HO5.o with h | h<;>rw[h]
        ·exact λ e=>by cases e
        ·intro e;injection e with e;omega)
       have hap6:∀i (hi:i<rs.length),rs[i].ownBlock≠(Value.slice z1 z2 z3).ownBlock:=λ i hi=>by
        obtain⟨g,e1,e2⟩:=HTAB.o.old hi;have h52:w2.heap.size<=w5.heap.size:=hb5.size;rw[e1];rcases ho6 with h | h<;>rw[h]
        ·rcases HO5.o with h | h<;>rw[h]
         ·exact λ e=>by cases e
         ·intro e;injection e with e;omega
        ·intro e;injection e with e;omega
       have HT6:=zH hT6;have HF6:=zH hf6;have HAP6:=zH hap6;have HB6:=zH (HB5.o.trans (zja hg6 (by have:=HT5.o.lt;omega) (λ k hk=>by obtain⟨g,e1,_,e2,_⟩:=hgb;rw[e1]at hk;injection hk with hk;omega)));obtain⟨_,_,_,_,_,_,t5,_⟩:=hT6.cells;have hown6:=hT6.own;(have hlen5:rs.length<=1000:=by rw[hT6.rl];omega);have hle6:T+1<=w6.heap.size:=hT6.lt;clear hT6 hf6 hg6 hn6 ho6 hap6 hgb hsf5)
     |(at_builtin;refine hAR w6 rfl _ _ rfl (T+1) _ vR rs rfl hown6 (.slice z1 z2 z3) rfl zZ rfl hlen5 hle6 ?_;intro v7 w7 ho7 hg7 hn7 hq7 sv7;obtain⟨y1,y2,y3,rfl,_⟩:=id sv7;have hpush:=HT6.o.push (r:= .slice z1 z2 z3) (by have h:=HF6.o;rw[List.nil_append,rowL_app]at h;exact h) HAP6.o ho7 hg7;have HP:=zH hpush;have HB7:=zH (HB6.o.trans (hpush.2.mono hTw));obtain⟨_,_,_,_,_,_,t0,_,_,_,_,_,_,_,tf⟩:=HT6.o.cells;have t7:=(zkg.cell (show zkg w7 T _ from(HT6.o.box.choose_spec.choose_spec.1).grown hg7 (λ e=>by have:=(HT6.o.own.block T e).1;omega)) 0 rfl);have f7:=(zkg.frozen (show zkg w7 T _ from(HT6.o.box.choose_spec.choose_spec.1).grown hg7 (λ e=>by have:=(HT6.o.own.block T e).1;omega)) 0);clear ho7 hg7 hn7 hq7 hpush t0 tf))
    go_roundg (n- (k+1));(case measure=>(have:=HG.o;omega));case rel=>exact⟨k+1,_,_,zO,rfl,by go_num,HP.o.1,HB7.o⟩
   ·obtain rfl:k=n:=zO;clear hTab hbr hg;go_wp2_with fail;go_ret;exact⟨T,vR,rs,rfl,HBR.o,HTAB.o,hTw⟩
set_option maxHeartbeats 3200000
set_option maxRecDepth 100000 in
theorem zro (va:Value) (m:List (List RF)) (w:World) (ha:MatN w va m) (hok:∀l∈m,∀x∈l,x.ok) (hl:∀l∈m,l.length<=65536) (hm:m.length<=65536):
 Calls Tryz.prog 168 #[va] w λ e w'=>e= .returned (.int .i64 (zqp m))/\Below w.heap.size w w':=by
 have sa:=ha.sl;have la:=ha.len;have HOK:=zH hok;have HL:=zH hl;clear hok hl;go_enter Tryz.func168,Tryz.ntmps168;go_wp2_with fail;go_loopw [3,13] (λ u3 u13 wr=>∃ (k:Nat),k<=m.length/\u13= .int .i64 k/\u3= .int .i64 (zqp (m.take k))/\Below w.heap.size w wr) (λ _ u13 _=>m.length- (intOf u13).toNat);case atStart=>exact⟨0,zZL _,rfl,rfl,zBR _ _⟩
 case round=>
  obtain⟨k,hk,rfl,rfl,hb⟩:=hrel;by_cases hkm:k<m.length
  ·obtain⟨rv,hrc,hrv⟩:=(ha.bw hb).at' k hkm
   have hW:zqp (m.take k)<=536870912*65536:=by
    have h1:=wtsM_le (m.take k) (λ l h=>HOK.o l (List.mem_of_mem_take h)) (λ l h=>HL.o l (List.mem_of_mem_take h));rw[zTK]at h1;omega
   have hlk:=HL.o m[k] (zGM hkm);have HOKL:=zH (HOK.o m[k] (zGM hkm));have HTM:=zH (wtsM_take m k hkm);generalize m[k]'hkm=l at *
   generalize zqp (m.take k)=W0 at *
   have srv:=hrv.sl;have lrv:=hrv.len;obtain⟨wo,rfl⟩:∃wo:World,wo=wr:=⟨_,rfl⟩;go_wp2_with fail;go_loopw [3,19] (λ u3 u19 wi=>∃ (j:Nat),j<=l.length/\u19= .int .i64 j/\u3= .int .i64 ((W0+wts (qs (l.take j)):Nat):Int)/\Below wo.heap.size wo wi) (λ _ u19 _=>l.length- (intOf u19).toNat);case atStart=>exact⟨0,zZL _,rfl,by simp[qs,wts],zBR _ _⟩
   case round=>
    obtain⟨j,hj,rfl,rfl,hbi⟩:=hrel;by_cases hjl:j<l.length
    ·obtain⟨xa,xb,c1,c2,c3,hxa,hxb⟩:=(hrv.bw hbi).at' j hjl;obtain⟨c1a,c1l,c1k,rfl,_⟩:=hxa.slen.1;obtain⟨c2a,c2l,c2k,rfl,_⟩:=hxb.slen.1;have HX:=zH (HOKL.o l[j] (zGM hjl));have HTS:=zH (wts_qs l j hjl)
     have hWj:wts (qs (l.take j))<=8192*65536:=by
      have h1:=wts_le (l.take j) (λ x h=>HOKL.o x (List.mem_of_mem_take h));rw[zTK]at h1;omega
     generalize l[j]'hjl=x at *
     generalize wts (qs (l.take j))=W1 at *
     have hA:zzb (wr.alloc (.cells #[.bool x.neg, .slice c1a c1l c1k, .slice c2a c2l c2k] 38)) (.agg #[.bool x.neg, .slice c1a c1l c1k, .slice c2a c2l c2k]) x.neg x.n x.d:=⟨_,_,rfl,hxa.bw (zca _ _),hxb.bw (zca _ _)⟩;have hb1:=zaa hbi (zca wr (.cells #[.bool x.neg, .slice c1a c1l c1k, .slice c2a c2l c2k] 38));obtain⟨hf1,hf2⟩:=RF.fits HX.o;have hn0:=zwd (n:=x.q.num.natAbs);have hd1:=zhg (n:=x.q.den);have hd0:=x.q.den_nz;obtain⟨bn,hbn⟩:∃bn,zza x.q.num.natAbs=bn:=⟨_,rfl⟩;obtain⟨bd,hbd⟩:∃bd,zza x.q.den=bd:=⟨_,rfl⟩;rw[hbn]at hf1 hn0;rw[hbd]at hf2 hd1;have HBN:=zH hbn;have HBD:=zH hbd;clear hbn hbd hxa hxb;by_cases hz:x.q.num=0
     ·(have hbz:bn=0:=by have:=hn0.1;omega);have HW:=zH (wt_zero hz);subst hbz;clear hz hn0 hd1 hd0
      go_wp2_with (first
       |(go_at_call 89;(with_reducible refine(zbo _ x _ hA HX.o).mono ?_);rintro e w7 ⟨v,rfl,hv,hb7⟩;obtain⟨xa2,xb2,rfl,hxa2,hxb2⟩:=hv;obtain⟨y1,y2,y3,rfl,_⟩:=hxa2.v.sl;obtain⟨y4,y5,y6,rfl,_⟩:=hxb2.v.sl;have hxa3:=(hxa2.bw (zca w7 (.cells #[.bool (decide (x.q<0)), .slice y1 y2 y3, .slice y4 y5 y6] 38))).nat;have hxb3:=(hxb2.bw (zca w7 (.cells #[.bool (decide (x.q<0)), .slice y1 y2 y3, .slice y4 y5 y6] 38))).nat;have hb8:=zaa (zaa hb1 hb7) (zca w7 (.cells #[.bool (decide (x.q<0)), .slice y1 y2 y3, .slice y4 y5 y6] 38)))
       |(go_at_call 156;first
         |((with_reducible refine(zbb _ _ _ hxa3).mono ?_);rintro e w' ⟨rfl,rfl⟩;rw[HBN.o])
         |((with_reducible refine(zbb _ _ _ hxb3).mono ?_);rintro e w' ⟨rfl,rfl⟩;rw[HBD.o])))
      go_roundw;(case rel=>exact⟨j+1,hjl,by go_num,by rw[HTS.o,HW.o];go_num,hb8⟩);case measure=>simp[intOf];omega
     ·have hbz:0<bn:=hn0.2 zO;(have hbz2:(((bn:Nat):Int)==0)=false:=by simp;omega);by_cases hd:x.q.den=1
      ·have HW:=zH (wt_int hz hd);(have hbd1:¬1<bd:=λ h=>by have:=hd1.1 h;omega);clear hz hn0 hd1 hd0 hd
       go_wp2_with (first
        |(go_at_call 89;(with_reducible refine(zbo _ x _ hA HX.o).mono ?_);rintro e w7 ⟨v,rfl,hv,hb7⟩;obtain⟨xa2,xb2,rfl,hxa2,hxb2⟩:=hv;obtain⟨y1,y2,y3,rfl,_⟩:=hxa2.v.sl;obtain⟨y4,y5,y6,rfl,_⟩:=hxb2.v.sl;have hxa3:=(hxa2.bw (zca w7 (.cells #[.bool (decide (x.q<0)), .slice y1 y2 y3, .slice y4 y5 y6] 38))).nat;have hxb3:=(hxb2.bw (zca w7 (.cells #[.bool (decide (x.q<0)), .slice y1 y2 y3, .slice y4 y5 y6] 38))).nat;have hb8:=zaa (zaa hb1 hb7) (zca w7 (.cells #[.bool (decide (x.q<0)), .slice y1 y2 y3, .slice y4 y5 y6] 38)))
        |(go_at_call 156;first
          |((with_reducible refine(zbb _ _ _ hxa3).mono ?_);rintro e w' ⟨rfl,rfl⟩;rw[HBN.o])
          |((with_reducible refine(zbb _ _ _ hxb3).mono ?_);rintro e w' ⟨rfl,rfl⟩;rw[HBD.o])))
       go_roundw;(case rel=>exact⟨j+1,hjl,by go_num,by rw[HTS.o,HW.o,HBN.o];go_num,hb8⟩);case measure=>simp[intOf];omega
      ·have HW:=zH (wt_frac hz hd);have hbd1:1<bd:=hd1.2 zO;clear hz hn0 hd1 hd0 hd
       go_wp2_with (first
        |(go_at_call 89;(with_reducible refine(zbo _ x _ hA HX.o).mono ?_);rintro e w7 ⟨v,rfl,hv,hb7⟩;obtain⟨xa2,xb2,rfl,hxa2,hxb2⟩:=hv;obtain⟨y1,y2,y3,rfl,_⟩:=hxa2.v.sl;obtain⟨y4,y5,y6,rfl,_⟩:=hxb2.v.sl;have hxa3:=(hxa2.bw (zca w7 (.cells #[.bool (decide (x.q<0)), .slice y1 y2 y3, .slice y4 y5 y6] 38))).nat;have hxb3:=(hxb2.bw (zca w7 (.cells #[.bool (decide (x.q<0)), .slice y1 y2 y3, .slice y4 y5 y6] 38))).nat;have hb8:=zaa (zaa hb1 hb7) (zca w7 (.cells #[.bool (decide (x.q<0)), .slice y1 y2 y3, .slice y4 y5 y6] 38)))
        |(go_at_call 156;first
          |((with_reducible refine(zbb _ _ _ hxa3).mono ?_);rintro e w' ⟨rfl,rfl⟩;rw[HBN.o])
          |((with_reducible refine(zbb _ _ _ hxb3).mono ?_);rintro e w' ⟨rfl,rfl⟩;rw[HBD.o])))
       go_roundw;(case rel=>exact⟨j+1,hjl,by go_num,by rw[HTS.o,HW.o,HBN.o,HBD.o];go_num,hb8⟩);case measure=>simp[intOf];omega
    ·obtain rfl:j=l.length:=zO;rw[List.take_length];go_wp2_with fail;go_roundw;(case rel=>exact⟨k+1,hkm,by go_num,by rw[HTM.o],hb.trans (hbi.mono hb.size)⟩);case measure=>simp[intOf];omega
  ·obtain rfl:k=m.length:=zO;rw[List.take_length];go_wp2_with fail;go_ret;exact⟨rfl,hb⟩
def vecP (l:List RF) (n:Nat):Prop:=(∀x∈l,x.ok)/\l.length=n
instance (l :List RF) (n:Nat):Decidable (vecP l n):=inferInstanceAs (Decidable (_/\_))
set_option maxRecDepth 100000 in
theorem zrj (va:Value) (l:List RF) (n:Nat) (w:World) (ha:zlg w va l) (hn:n<=65536):
 Calls Tryz.prog 167 #[va, .int .i64 n] w λ e w'=>e= .returned (.bool (decide (vecP l n)))/\Below w.heap.size w w':=by
 have sa:=ha.sl;have la:=ha.len;have hle:=sa.le;rw[la]at hle;have hlb:l.length<=9223372036854775807:=zO;clear hle;go_enter Tryz.func167,Tryz.ntmps167;go_wp2_with fail;go_loopw [9] (λ u9 wr=>∃ (k:Nat),k<=l.length/\u9= .int .i64 k/\(∀x∈l.take k,x.ok)/\Below w.heap.size w wr) (λ u9 _=>l.length- (intOf u9).toNat);case atStart=>exact⟨0,zZL _,rfl,λ x h=>by simp at h,zBR _ _⟩
 case round=>
  obtain⟨k,hk,rfl,hok,hb⟩:=hrel;have HOK:=zH hok;clear hok;by_cases hkl:k<l.length
  ·obtain⟨xa,xb,c1,c2,c3,hxa,hxb⟩:=(ha.bw hb).at' k hkl;obtain⟨c1a,c1l,c1k,rfl,_⟩:=hxa.slen.1;obtain⟨c2a,c2l,c2k,rfl,_⟩:=hxb.slen.1;obtain⟨x,hx⟩:∃x,l[k]'hkl=x:=⟨_,rfl⟩;rw[hx]at c1 hxa hxb;have HMEM:zI (x∈l):=zH (by rw[<-hx];exact zGM hkl);have HTK:zI (l.take (k+1)=l.take k++ [x]):=zH (by rw[zxc l k hkl,hx]);have hA:zzb (wr.alloc (.cells #[.bool x.neg, .slice c1a c1l c1k, .slice c2a c2l c2k] 38)) (.agg #[.bool x.neg, .slice c1a c1l c1k, .slice c2a c2l c2k]) x.neg x.n x.d:=⟨_,_,rfl,hxa.bw (zca _ _),hxb.bw (zca _ _)⟩;have hb1:=zaa hb (zca wr (.cells #[.bool x.neg, .slice c1a c1l c1k, .slice c2a c2l c2k] 38));clear hxa hxb hx;by_cases hko:x.ok
   ·have HX:zI (okN x.n x.d):=zH hko;clear hko;go_wp2_with (go_at_call 79;(with_reducible refine(zue _ x.neg x.n x.d _ hA HX.o).mono ?_);rintro e w7 ⟨rfl,hb7⟩);go_roundw
    case rel=>exact⟨k+1,hkl,by go_num,λ y hy=>by
     rw[HTK.o]at hy;rcases List.mem_append.1 hy with h | h
     ·exact HOK.o y h
     ·(have :y=x:=by simpa using h);rw[this];exact HX.o,zaa hb1 hb7⟩
    case measure=>simp[intOf];omega
   ·have HX:zI (¬okN x.n x.d):=zH hko;have HBAD:zI (¬vecP l n):=zH (λ h=>hko (h.1 x HMEM.o));clear hko;go_wp2_with (go_at_call 79;(with_reducible refine(valid_no _ x.neg x.n x.d _ hA HX.o).mono ?_);rintro e w7 ⟨rfl,hb7⟩);go_ret;exact⟨by rw[zDF HBAD.o];rfl,zaa hb1 hb7⟩
  ·obtain rfl:k=l.length:=zO
   have HD:zI (decide (vecP l n)=decide (l.length=n)):=zH (by
    have h:=HOK.o;rw[List.take_length]at h;by_cases h2:l.length=n
    ·rw[zDT h2,zDT (show vecP l n from⟨h,h2⟩)]
    ·rw[zDF h2,zDF (λ h3=>h2 h3.2)])
   go_wp2_with fail;go_ret;refine⟨?_,hb⟩;rw[HD.o];by_cases h2:l.length=n
   ·subst h2;simp
   ·have h3:¬ ((l.length:Int)=(n:Int)):=zO;simp[h2,h3]
def zde (m:List (List RF)):Prop:=1<=m.length/\m.length<=24/\1<=(m.headD []).length/\(m.headD []).length<=24/\∀l∈m,vecP l (m.headD []).length
instance (m :List (List RF)):Decidable (zde m):=inferInstanceAs (Decidable (_/\_/\_/\_/\_))
def RShape (w0:World) (m:List (List RF)) (e:Ending) (w:World):Prop:=
 e= .returned (if zde m then .tuple #[.int .i64 m.length, .int .i64 (m.headD []).length, .bool true]else .tuple #[.int .i64 0, .int .i64 0, .bool false])/\Below w0.heap.size w0 w
set_option maxRecDepth 100000 in
set_option maxHeartbeats 3200000 in
theorem shape_any (va:Value) (m:List (List RF)) (w:World) (ha:MatN w va m):
 Calls Tryz.prog 203 #[va] w (RShape w m):=by
 have sa:=ha.sl;have la:=ha.len;have hle:=sa.le;rw[la]at hle;have hlb:m.length<=9223372036854775807:=zO;clear hle;by_cases h1:m.length<1
 ·have HBAD:zI (¬zde m):=zH (λ h=>by have:=h.1;omega);go_enter Tryz.func203,Tryz.ntmps203;go_wp2_with fail;refine bodyPost_ret (v:= .tuple #[.int .i64 0, .int .i64 0, .bool false]) (by simp[results,Tryz.results203,go_sem]) rfl ⟨?_,zBR _ _⟩;rw[zIN HBAD.o]
 ·by_cases h2:24<m.length
  ·have HBAD:zI (¬zde m):=zH (λ h=>by have:=h.2.1;omega);go_enter Tryz.func203,Tryz.ntmps203;go_wp2_with fail;refine bodyPost_ret (v:= .tuple #[.int .i64 0, .int .i64 0, .bool false]) (by simp[results,Tryz.results203,go_sem]) rfl ⟨?_,zBR _ _⟩;rw[zIN HBAD.o]
  ·obtain⟨r0,hc0,hr0⟩:=ha.at' 0 zO
   have hd0:m.headD []=m[0]' zO:=by
    cases m with
    | nil=>simp at h1
    | cons a m=>rfl
   rw[<-hd0]at hr0;have sl0:=hr0.sl;have ln0:=hr0.len;obtain⟨x,hx⟩:∃x,m.headD []=x:=⟨_,rfl⟩;rw[hx]at hr0 ln0 hd0;have HX:=zH hx;have i0:0<m.length:=zO;clear hd0 hr0 hx h1;by_cases h3:x.length<1
   ·have HBAD:zI (¬zde m):=zH (λ h=>by have:=h.2.2.1;rw[HX.o]at this;omega);go_enter Tryz.func203,Tryz.ntmps203;go_wp2_with fail;refine bodyPost_ret (v:= .tuple #[.int .i64 0, .int .i64 0, .bool false]) (by simp[results,Tryz.results203,go_sem]) rfl ⟨?_,zBR _ _⟩;rw[zIN HBAD.o]
   ·by_cases h4:24<x.length
    ·have HBAD:zI (¬zde m):=zH (λ h=>by have:=h.2.2.2.1;rw[HX.o]at this;omega);go_enter Tryz.func203,Tryz.ntmps203;go_wp2_with fail;refine bodyPost_ret (v:= .tuple #[.int .i64 0, .int .i64 0, .bool false]) (by simp[results,Tryz.results203,go_sem]) rfl ⟨?_,zBR _ _⟩;rw[zIN HBAD.o]
    ·go_enter Tryz.func203,Tryz.ntmps203;go_wp2_with fail;go_loopw [31] (λ u31 wr=>∃ (k:Nat),k<=m.length/\u31= .int .i64 k/\(∀l∈m.take k,vecP l x.length)/\Below w.heap.size w wr) (λ u31 _=>m.length- (intOf u31).toNat);case atStart=>exact⟨0,zZL _,rfl,λ l h=>by simp at h,zBR _ _⟩
     case round=>
      obtain⟨k,hk,rfl,hok,hb⟩:=hrel;have HOK:=zH hok;have hc0:=zba hb hc0;clear hok;by_cases hkl:k<m.length
      ·obtain⟨rk,hrc,hrk⟩:=(ha.bw hb).at' k hkl;obtain⟨l,hl⟩:∃l,m[k]'hkl=l:=⟨_,rfl⟩;rw[hl]at hrk;have HMEM:zI (l∈m):=zH (by rw[<-hl];exact zGM hkl);have HTK:zI (m.take (k+1)=m.take k++ [l]):=zH (by rw[zxc m k hkl,hl]);have i1:x.length<=65536:=zO;clear hl;by_cases hv:vecP l x.length
       ·have HV:=zH hv;clear hv;go_wp2_with (go_at_call 167;(with_reducible refine(zrj _ l x.length _ hrk i1).mono ?_);rw[zDT HV.o];rintro e w7 ⟨rfl,hb7⟩);go_roundw
        case rel=>exact⟨k+1,hkl,by go_num,λ y hy=>by
         rw[HTK.o]at hy;rcases List.mem_append.1 hy with h | h
         ·exact HOK.o y h
         ·(have :y=l:=by simpa using h);rw[this];exact HV.o,zaa hb hb7⟩
        case measure=>simp[intOf];omega
       ·have HV:=zH hv;have HBAD:zI (¬zde m):=zH (λ h=>hv (by have:=h.2.2.2.2 l HMEM.o;rw[HX.o]at this;exact this));clear hv;go_wp2_with (go_at_call 167;(with_reducible refine(zrj _ l x.length _ hrk i1).mono ?_);rw[zDF HV.o];rintro e w7 ⟨rfl,hb7⟩);refine bodyPost_ret (v:= .tuple #[.int .i64 0, .int .i64 0, .bool false]) (by simp[results,Tryz.results203,go_sem]) rfl ⟨?_,zaa hb hb7⟩;rw[zIN HBAD.o]
      ·obtain rfl:k=m.length:=zO
       have HG:zI (zde m):=zH (by
        have h:=HOK.o;rw[List.take_length]at h;exact⟨zO,zO,by rw[HX.o];omega,by rw[HX.o];omega,by rw[HX.o];exact h⟩)
       go_wp2_with fail;go_quiet (fail);have hbN:=zna (B:=wr.heap.size) wr nq;go_wp2_with fail;refine bodyPost_ret (v:= .tuple #[.int .i64 m.length, .int .i64 x.length, .bool true]) (by simp[results,Tryz.results203,go_sem]) rfl ⟨?_,zaa hb hbN⟩;rw[zIP HG.o,HX.o]
theorem zql {n m:Nat} {A:Mx} (hn1:1<=n) (hn:n<=24) (hm1:1<=m) (hm:m<=24) (hf:fitM n m A):zde (rawM n m A):=
 ⟨by rw[zsc];exact hn1,by rw[zsc];exact hn,by rw[zii hn1];exact hm1,by rw[zii hn1];exact hm,λ l hl=>⟨rawM_ok hf l hl,by rw[zii hn1];exact zyq l hl⟩⟩
theorem shape_lin (va:Value) (n m:Nat) (A:Mx) (w:World) (ha:zij w va n m A) (hn1:1<=n) (hn:n<=24) (hm1:1<=m) (hm:m<=24) (hf:fitM n m A):
 Calls Tryz.prog 203 #[va] w λ e w'=>e= .returned (.tuple #[.int .i64 n, .int .i64 m, .bool true])/\Below w.heap.size w w':=by
 refine(shape_any va _ w ha.raw).mono ?_;rintro e w' ⟨rfl,hb⟩;rw[zIP (zql hn1 hn hm1 hm hf),zsc,zii hn1];exact⟨rfl,hb⟩
theorem weight_lin (va:Value) (n m:Nat) (A:Mx) (w:World) (ha:zij w va n m A) (hn:n<=24) (hm:m<=24) (hf:fitM n m A):
 Calls Tryz.prog 168 #[va] w λ e w'=>e= .returned (.int .i64 (wtF n m A))/\Below w.heap.size w w':=
 zro va _ w ha.raw (rawM_ok hf) (λ l hl=>by rw[zyq l hl];omega) (by rw[zsc];omega)
set_option maxHeartbeats 800000 in
theorem square_lin (va:Value) (n m:Nat) (A:Mx) (w:World) (ha:zij w va n m A) (hn1:1<=n) (hn:n<=24) (hm1:1<=m) (hm:m<=24) (hf:fitM n m A) (hnm:n=m):
 Calls Tryz.prog 166 #[va] w λ e w'=>e= .returned (.bool true)/\Below w.heap.size w w':=by
 subst hnm;have HF:=zH hf;clear hf;go_enter Tryz.func166,Tryz.ntmps166;go_wp2_with (go_at_call 203;(with_reducible refine(shape_lin va n n A _ ha hn1 hn hm1 hm HF.o).mono ?_);rintro e1 w1 ⟨rfl,hb1⟩);go_ret;exact⟨by simp,hb1⟩
end Go.Proofs.YtlpdkbmmbdfoiaaGreat
