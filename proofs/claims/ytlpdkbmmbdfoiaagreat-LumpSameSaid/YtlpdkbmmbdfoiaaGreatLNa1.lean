/-
  package natural: length, large, sized, Trim, Make, Cmp.
-/
import Derived.Test.YtlpdkbmmbdfoiaaGreatLMu1
import Derived.Test.YtlpdkbmmbdfoiaaGreatLMath24
import Derived.WalkKit
import Derived.WalkSpells
import Derived.WalkLawsBesides
import Derived.Deep.QuietTactic
import Derived.BigQuiet
import Derived.Lib.Hide
import Derived.Laws.AppendOwnNone
import Derived.Test.YtlpdkbmmbdfoiaaGreatProg
set_option linter.unusedVariables false
set_option linter.unusedSimpArgs false
namespace Go.Proofs.YtlpdkbmmbdfoiaaGreat
def fac (n m s:Nat) (A:Mx):Prop:=∃C R:Mx,∀i j,i<n→j<m→A i j=ztd s C R i j
def unitIn (n m r:Nat) (A:Mx):Prop:=∃X Y:Mx,∀a b,a<r→b<r→ztd n X (ztd m A Y) a b=zkf a b
theorem mul_congr {m:Nat} {A B C D:Mx} {i k i' k':Nat} (h1:∀j,j<m→A i j=C i' j) (h2:∀j,j<m→B j k=D j k'):ztd m A B i k=ztd m C D i' k':=
 zma fun j hj=>by rw[h1 j hj,h2 j hj]
theorem sg_cut {s r:Nat} {f:Nat→Rat} (h:s≤r) (h0:∀l,s≤l→l<r→f l=0):sg r f=sg s f:=by
 obtain⟨c,rfl⟩:∃c,r=s+c:=⟨r-s,by omega⟩
 rw[zbn,zma (n:=c) (g:=fun _=>0) (fun j hj=>h0 _ (by omega) (by omega)),zsi]
 grind
theorem dt_one (r:Nat):dt r zkf≠0:=by
 rw[zql (fun i j _ _ hij=>by unfold zkf;rw[if_neg hij])]
 exact pr_ne fun i _=>by unfold zkf;rw[if_pos rfl];decide+kernel
theorem unit_le {n m s r:Nat} {A:Mx} (hf:fac n m s A) (hu:unitIn n m r A):r≤s:=by
 obtain⟨C,R,hC⟩:=hf
 obtain⟨X,Y,hX⟩:=hu
 rcases Nat.lt_or_ge s r with h | h
 ·exfalso
  have e:dt r (ztd r (fun a l=>if l<s then ztd n X C a l else 0) (fun l b=>if l<s then ztd m R Y l b else 0))=dt r zkf:=zcd fun a b ha hb=>by
   rw[←hX a b ha hb]
   have e1:ztd n X (ztd m A Y) a b=ztd s (ztd n X C) (ztd m R Y) a b:=by
    rw[mul_assoc]
    refine mul_congr (fun _ _=>rfl) fun i hi=> ?_
    rw[←mul_assoc]
    exact mul_congr (fun j hj=>hC i j hi hj) fun _ _=>rfl
   rw[e1]
   unfold ztd
   rw[sg_cut (Nat.le_of_lt h) (fun l h1 h2=>by dsimp only;rw[if_neg (by omega),Rat.zero_mul])]
   exact zma fun l hl=>by dsimp only;rw[if_pos hl,if_pos hl]
  rw[dt_mul,zme (A:=fun l b=>if l<s then ztd m R Y l b else 0) (r:=r-1) (by omega) (fun j hj=>if_neg (by omega)),Rat.mul_zero]at e
  exact dt_one r e.symm
 ·exact h
def trM (A:Mx):Mx:=fun i j=>A j i
theorem fac_tr {n m s:Nat} {A:Mx} (h:fac n m s A):fac m n s (trM A):=by
 obtain⟨C,R,e⟩:=h
 refine⟨trM R,trM C,fun i j hi hj=> ?_⟩
 show A j i=_
 rw[e j i hj hi]
 exact zma fun l _=>Rat.mul_comm _ _
theorem unit_tr {n m r:Nat} {A:Mx} (h:unitIn n m r A):unitIn m n r (trM A):=by
 obtain⟨X,Y,e⟩:=h
 refine⟨trM Y,trM X,fun a b ha hb=> ?_⟩
 have e1:zkf a b=zkf b a:=by
  unfold zkf
  by_cases h:a=b
  ·rw[if_pos h,if_pos h.symm]
  ·rw[if_neg h,if_neg (fun e=>h e.symm)]
 rw[e1,←e b a hb ha,←mul_assoc]
 unfold ztd trM
 refine zma fun j _=> ?_
 rw[Rat.mul_comm]
 refine congrArg (X b j* ·) (zma fun i _=>Rat.mul_comm _ _)
theorem facC (n m t:Nat) (A:Mx):RowC n fun X _=>fac n m t X→fac n m t A where
 congr:=fun X Y s h hX hY=>hX (by
  obtain⟨C,R,e⟩:=hY
  exact⟨C,R,fun i j hi hj=>by rw[h i hi];exact e i j hi hj⟩)
 swap:=fun X s a b ha hb hab hX hY=>hX (by
  obtain⟨C,R,e⟩:=hY
  refine⟨swp C a b,R,fun i j hi hj=> ?_⟩
  have key:∀i',i'<n→swp X a b i'=X i→swp C a b i=C i'→X i j=ztd t (swp C a b) R i j:=fun i' hi' h1 h2=>by
   rw[←h1,e i' j hi' hj]
   exact(congrFun (zrf h2) j).symm
  by_cases h1:i=a
  ·subst h1
   exact key b hb (by unfold swp;rw[if_neg (fun e=>hab e.symm),if_pos rfl]) (by unfold swp;rw[if_pos rfl])
  ·by_cases h2:i=b
   ·subst h2
    exact key a ha (by unfold swp;rw[if_pos rfl]) (by unfold swp;rw[if_neg h1,if_pos rfl])
   ·exact key i hi (by unfold swp;rw[if_neg h1,if_neg h2]) (by unfold swp;rw[if_neg h1,if_neg h2]))
 add:=fun X s i r c hi hr hir hX hY=>hX (by
  obtain⟨C,R,e⟩:=hY
  refine⟨zoc C i fun l=>C i l-c*C r l,R,fun k j hk hj=> ?_⟩
  have er:=e r j hr hj
  rw[zvc (fun e=>hir e.symm)]at er
  by_cases h1:k=i
  ·subst h1
   have ek:=e k j hk hj
   rw[zed]at ek
   have e2:ztd t (zoc C k fun l=>C k l-c*C r l) R k j=ztd t C R k j+(-c)*ztd t C R r j:=by
    unfold ztd
    rw[zed,←zcb,←zvd]
    exact zma fun l _=>by grind
   rw[e2,←ek,←er]
   grind
  ·have ek:=e k j hk hj
   rw[zvc h1]at ek
   rw[ek]
   exact(congrFun (zrf (zvc h1)) j).symm)
theorem combC (n m:Nat) (A:Mx):RowC n fun X _=>∃E:Mx,∀i j,i<n→j<m→X i j=ztd n E A i j where
 congr:=fun X Y s h hX=>by
  obtain⟨E,e⟩:=hX
  exact⟨E,fun i j hi hj=>by rw[←h i hi];exact e i j hi hj⟩
 swap:=fun X s a b ha hb hab hX=>by
  obtain⟨E,e⟩:=hX
  refine⟨swp E a b,fun i j hi hj=> ?_⟩
  have key:∀i',i'<n→swp X a b i=X i'→swp E a b i=E i'→swp X a b i j=ztd n (swp E a b) A i j:=fun i' hi' h1 h2=>by
   rw[h1,e i' j hi' hj]
   exact(congrFun (zrf h2) j).symm
  by_cases h1:i=a
  ·subst h1
   exact key b hb (by unfold swp;rw[if_pos rfl]) (by unfold swp;rw[if_pos rfl])
  ·by_cases h2:i=b
   ·subst h2
    exact key a ha (by unfold swp;rw[if_neg h1,if_pos rfl]) (by unfold swp;rw[if_neg h1,if_pos rfl])
   ·exact key i hi (by unfold swp;rw[if_neg h1,if_neg h2]) (by unfold swp;rw[if_neg h1,if_neg h2])
 add:=fun X s i r c hi hr hir hX=>by
  obtain⟨E,e⟩:=hX
  refine⟨zoc E i fun l=>E i l+c*E r l,fun k j hk hj=> ?_⟩
  by_cases h1:k=i
  ·subst h1
   rw[zed,e k j hk hj,e r j hr hj]
   unfold ztd
   rw[zed,←zcb,←zvd]
   exact zma fun l _=>by grind
  ·rw[zvc h1,e k j hk hj]
   exact(congrFun (zrf (zvc h1)) j).symm
theorem elim_pivs (n:Nat) (A:Mx):∀k,∃p:Nat→Nat,∀l,l<(elim false n A k).r→p l<k∧(elim false n A k).A l (p l)≠0∧∀i,i<n→i≠l→(elim false n A k).A i (p l)=0
 | 0=>⟨fun _=>0,fun l hl=>absurd hl (by simp[elim])⟩
 | k+1=>by
   obtain⟨p,hp⟩:=elim_pivs n A k
   have hrn:=(zue false n A k).1
   have hge:=zvk n k (elim false n A k)
   rw[elim,zzf]
   by_cases hlt:pvt n k (elim false n A k)<n
   ·have hpn:=zfw hrn hlt
    rw[if_pos hlt]
    dsimp only
    generalize pvt n k (elim false n A k)=a at *
    generalize (elim false n A k).r=r at *
    generalize (elim false n A k).A=S at *
    refine⟨fun l=>if l<r then p l else k,fun l hl=> ?_⟩
    by_cases hlr:l<r
    ·obtain⟨h1,h2,h3⟩:=hp l hlr
     simp only[if_pos hlr]
     have hun:∀i,znj false (swp S r a) r k i (p l)=swp S r a i (p l):=fun i=>by
      unfold znj;rw[if_neg (fun h=>by omega)]
     refine⟨by omega,?_,fun i hi hil=> ?_⟩
     ·rw[hun];unfold swp;rw[if_neg (by omega),if_neg (by omega)];exact h2
     ·rw[hun];unfold swp;split
      ·exact h3 a hlt (by omega)
      ·split
       ·exact h3 r (by omega) (by omega)
       ·exact h3 i hi hil
    ·obtain rfl:l=r:=by omega
     simp only[if_neg hlr]
     have hkk:swp S l a l k≠0:=by rw[zek];exact hpn
     refine⟨by omega,?_,fun i hi hil=> ?_⟩
     ·rw[zpg (fun h=>h.1 rfl)];exact hkk
     ·unfold znj
      by_cases hz:swp S l a i k=0
      ·rw[if_neg (fun h=>h.1.2.2 hz)];exact hz
      ·rw[if_pos ⟨⟨hil,(fun z=>by cases z.1),hz⟩,Nat.le_refl _⟩,Rat.div_mul_cancel hkk];grind
   ·rw[if_neg hlt]
    exact⟨p,fun l hl=>by obtain⟨h1,h2,h3⟩:=hp l hl;exact⟨by omega,h2,h3⟩⟩
theorem zvi (n m:Nat) (A:Mx):(elim true n A m).r=(elim false n A m).r:=(ztm (A:=A) (M:=A) (n:=n) (m:=m) true false (fun _ _ _ _=>rfl) m (Nat.le_refl _)).1
theorem rank_fac (n m:Nat) (A:Mx):fac n m (elim false n A m).r A:=by
 refine zbd (facC n m (elim false n A m).r A) false (A:=A) (fun h=>h) m ⟨zkf,(elim false n A m).A,fun i j hi hj=> ?_⟩
 unfold ztd zkf
 by_cases h:i<(elim false n A m).r
 ·have e:sg (elim false n A m).r (fun l=>(if i=l then(1:Rat)else 0)*(elim false n A m).A l j)=sg (elim false n A m).r (fun l=>if i=l then(elim false n A m).A l j else 0):=zma fun l _=>by
   by_cases h1:i=l
   ·rw[if_pos h1,if_pos h1,Rat.one_mul]
   ·rw[if_neg h1,if_neg h1,Rat.zero_mul]
  rw[e,zfd h]
 ·rw[zyd false n A m i j (by omega) hi hj]
  exact(zsi _).symm.trans (zma fun l hl=>by rw[if_neg (by omega),Rat.zero_mul])
theorem rank_unit (n m:Nat) (A:Mx):unitIn n m (elim false n A m).r A:=by
 obtain⟨E,hE⟩:=zbd (combC n m A) false (A:=A) ⟨zkf,fun i j hi hj=>by
  unfold ztd zkf
  have e:sg n (fun l=>(if i=l then(1:Rat)else 0)*A l j)=sg n (fun l=>if i=l then A l j else 0):=zma fun l _=>by
   by_cases h1:i=l
   ·rw[if_pos h1,if_pos h1,Rat.one_mul]
   ·rw[if_neg h1,if_neg h1,Rat.zero_mul]
  rw[e,zfd hi]⟩ m
 obtain⟨p,hp⟩:=elim_pivs n A m
 have hrn:=(zue false n A m).1
 generalize (elim false n A m).r=r at *
 generalize (elim false n A m).A=T at *
 refine⟨E,fun j b=>if p b=j then 1/T b (p b)else 0,fun a b ha hb=> ?_⟩
 rw[←mul_assoc]
 obtain⟨h1,h2,h3⟩:=hp b hb
 have e1:ztd m (ztd n E A) (fun j b=>if p b=j then 1/T b (p b)else 0) a b=sg m (fun j=>if p b=j then T a j*(1/T b (p b))else 0):=zma fun j hj=>by
  rw[←hE a j (by omega) hj]
  dsimp only
  by_cases h4:p b=j
  ·rw[if_pos h4,if_pos h4]
  ·rw[if_neg h4,if_neg h4,Rat.mul_zero]
 rw[e1,zfd h1 (fun j=>T a j*(1/T b (p b)))]
 unfold zkf
 by_cases h5:a=b
 ·subst h5
  rw[if_pos rfl,Rat.mul_comm,Rat.div_mul_cancel h2]
 ·rw[if_neg h5,h3 a (by omega) h5,Rat.zero_mul]
theorem rank_uniq {n m s:Nat} {A:Mx} (hf:fac n m s A) (hu:unitIn n m s A):(elim true n A m).r=s:=by
 rw[zvi]
 have h1:=unit_le (rank_fac n m A) hu
 have h2:=unit_le hf (rank_unit n m A)
 omega
theorem rank_tr (n m:Nat) (A:Mx):(elim true m (trM A) n).r=(elim true n A m).r:=by
 rw[zvi n m]
 exact rank_uniq (fac_tr (rank_fac n m A)) (unit_tr (rank_unit n m A))
theorem rank_det (n:Nat) (A:Mx):(elim true n A n).r=n↔dt n A≠0:=by
 rw[zvi]
 have h:=elim_dt (M:=A) (n:=n)
 have hr:=(zue false n A n).1
 constructor
 ·exact fun e=>(h.1 e).2
 ·intro e
  rcases Nat.lt_or_ge (elim false n A n).r n with h1 | h1
  ·exact absurd (h.2 h1) e
  ·omega
theorem rightC (n:Nat) (C:Rat):RowC n fun B s=>C=s*dt n (fun i j=>B i (n+j)) where
 congr:=fun X Y s h hX=>by rw[hX,zcd (fun a b ha _=>by rw[h a ha])]
 swap:=fun X s a b ha hb hab hX=>by
  have e:(fun i j=>swp X a b i (n+j))=swp (fun i j=>X i (n+j)) a b:=by
   funext i j;unfold swp;split
   ·rfl
   ·split<;>rfl
  rw[hX,e,dt_swp ha hb hab];grind
 add:=fun X s i r c hi hr hir hX=>by
  have e:(fun a j=>zoc X i (fun b=>X i b+c*X r b) a (n+j))=zoc (fun i j=>X i (n+j)) i (fun b=>X i (n+b)+c*X r (n+b)):=by
   funext a j;unfold zoc;split<;>rfl
  rw[hX,e]
  rw[dt_add (A:=fun i j=>X i (n+j)) hi hr hir c]
theorem ker_of_dt {n:Nat} {A:Mx} (h:dt n A=0):∃c:Nat→Rat,(∃l,l<n∧c l≠0)∧∀i,i<n→sg n (fun l=>A i l*c l)=0:=by
 have hT:dt n (trM A)=0:=by
  by_cases h1:dt n (trM A)=0
  ·exact h1
  ·have h2:=(rank_det n (trM A)).2 h1
   rw[rank_tr]at h2
   exact absurd h ((rank_det n A).1 h2)
 have hr:=rank_less (B:=zkf) hT
 have hl:=zyd false n (zpa n (trM A) zkf) n
 have hk:=zbd (invC n (trM A)) false (A:=zpa n (trM A) zkf) (fun i j hi hj=>by
  rw[zae hj]
  have e:sg n (fun l=>zpa n (trM A) zkf i (n+l)*trM A l j)=sg n (fun l=>if i=l then trM A l j else 0):=zma fun l hl=>by
   rw[zfe];unfold zkf
   by_cases h5:i=l
   ·rw[if_pos h5,if_pos h5];grind
   ·rw[if_neg h5,if_neg h5];grind
  rw[e,zfd hi]) n
 have hd:=zbd (rightC n (dt n zkf)) false (A:=zpa n (trM A) zkf) (by
  have e:dt n (fun i j=>zpa n (trM A) zkf i (n+j))=dt n zkf:=zcd fun a b _ _=>zfe
  rw[e,Rat.one_mul]) n
 generalize (elim false n (zpa n (trM A) zkf) n).A=X at *
 generalize (elim false n (zpa n (trM A) zkf) n).r=r at *
 refine⟨fun l=>X (n-1) (n+l),?_,fun i hi=> ?_⟩
 ·apply Classical.byContradiction
  intro hno
  have hz:∀j,j<n→(fun i j=>X i (n+j)) (n-1) j=0:=fun j hj=>by
   by_cases h5:X (n-1) (n+j)=0
   ·exact h5
   ·exact absurd ⟨j,hj,h5⟩ hno
  rw[zme (A:=fun i j=>X i (n+j)) (show n-1<n by omega) hz,Rat.mul_zero]at hd
  exact dt_one n hd
 ·have h1:=hk (n-1) i (by omega) hi
  rw[hl (n-1) i (by omega) (by omega) hi]at h1
  rw[←h1]
  exact zma fun l _=>by unfold trM;exact Rat.mul_comm _ _
theorem sg_le {n:Nat} {f g:Nat→Rat} (h:∀i,i<n→f i≤g i):sg n f≤sg n g:=by
 induction n with
 | zero=>exact Rat.le_refl
 | succ n ih=>rw[sg,sg];have:=ih fun i hi=>h i (by omega);have:=h n (by omega);grind
theorem sg_lt {n:Nat} {f g:Nat→Rat} (h:∀i,i<n→f i≤g i) {k:Nat} (hk:k<n) (hlt:f k<g k):sg n f<sg n g:=by
 induction n with
 | zero=>omega
 | succ n ih=>
   rw[sg,sg]
   have h1:=sg_le (n:=n) fun i hi=>h i (by omega)
   have h2:=h n (by omega)
   by_cases e:k=n
   ·subst e;grind
   ·have:=ih (fun i hi=>h i (by omega)) (by omega);grind
theorem max_at {x:Nat→Rat}:∀ {n:Nat},0<n→∃i,i<n∧∀j,j<n→x j≤x i
 | 1,_=>⟨0,by omega,fun j hj=>by obtain rfl:j=0:=by omega
                                 exact Rat.le_refl⟩
 | n+2,_=>by
   obtain⟨i,h1,h2⟩:=max_at (x:=x) (n:=n+1) (by omega)
   by_cases h:x (n+1)≤x i
   ·refine⟨i,by omega,fun j hj=> ?_⟩
    by_cases e:j=n+1
    ·subst e;exact h
    ·exact h2 j (by omega)
   ·refine⟨n+1,by omega,fun j hj=> ?_⟩
    by_cases e:j=n+1
    ·subst e;exact Rat.le_refl
    ·have:=h2 j (by omega);grind
def esc (n:Nat) (r:Mx) (o:Nat→Rat):Nat→Nat→Prop
 | 0,i=>sg n (r i)<o i
 | k+1,i=>esc n r o k i∨∃j,j<n∧0<r i j∧esc n r o k j
section
variable {n:Nat} {r:Mx} {o:Nat→Rat}
theorem mm_max (hr:∀i j,i<n→j<n→0≤r i j) (ho:∀i,i<n→sg n (r i)≤o i) (he:∀i,i<n→∃k,esc n r o k i) {x:Nat→Rat} (hx:∀i,i<n→o i*x i≤sg n fun j=>r i j*x j):∀i,i<n→x i≤0:=by
 intro i0 hi0
 obtain⟨im,h1,h2⟩:=max_at (x:=x) (n:=n) (by omega)
 by_cases hm:x im≤0
 ·have:=h2 i0 hi0;grind
 ·exfalso
  have hpos:0<x im:=Rat.not_le.1 hm
  obtain⟨m,hmx⟩:∃m,x im=m:=⟨_,rfl⟩
  rw[hmx]at h2 hpos
  have key:∀i,i<n→x i=m→(sg n fun j=>r i j*x j)≤sg n (r i)*m∧o i*m≤sg n fun j=>r i j*x j:=fun i hi hxi=>by
   refine⟨?_,by have:=hx i hi;rwa[hxi]at this⟩
   rw[←znc]
   exact sg_le fun j hj=>Rat.mul_le_mul_of_nonneg_left (h2 j hj) (hr i j hi hj)
  have no:∀k i,i<n→x i=m→¬esc n r o k i:=by
   intro k
   induction k with
   | zero=>
     intro i hi hxi h
     obtain⟨k1,k2⟩:=key i hi hxi
     have h3:sg n (r i)*m<o i*m:=Rat.mul_lt_mul_of_pos_right h hpos
     grind
   | succ k ih=>
     intro i hi hxi h
     rcases h with h | ⟨j,hj,hrj,h⟩
     ·exact ih i hi hxi h
     ·obtain⟨k1,k2⟩:=key i hi hxi
      refine ih j hj ?_ h
      have h4:=h2 j hj
      by_cases h5:x j=m
      ·exact h5
      ·exfalso
       have h6:x j<m:=by grind
       have h7:(sg n fun j=>r i j*x j)<sg n (r i)*m:=by
        rw[←znc]
        exact sg_lt (fun j hj=>Rat.mul_le_mul_of_nonneg_left (h2 j hj) (hr i j hi hj)) hj (Rat.mul_lt_mul_of_pos_left h6 hrj)
       have h8:sg n (r i)*m≤o i*m:=Rat.mul_le_mul_of_nonneg_right (ho i hi) (Rat.le_of_lt hpos)
       grind
  obtain⟨k,hk⟩:=he im h1
  exact no k im h1 hmx hk
def mmA (r:Mx) (o:Nat→Rat):Mx:=fun i j=>if i=j then o i else -r i j
theorem mmA_row (hd:∀i,i<n→r i i=0) {i:Nat} (hi:i<n) (x:Nat→Rat):sg n (fun j=>mmA r o i j*x j)=o i*x i-sg n fun j=>r i j*x j:=by
 have e:sg n (fun j=>mmA r o i j*x j)=sg n (fun j=>(if i=j then o i*x i else 0)+(-1)*(r i j*x j)):=zma fun j hj=>by
  unfold mmA
  by_cases h:i=j
  ·subst h;rw[if_pos rfl,if_pos rfl,hd i hi];grind
  ·rw[if_neg h,if_neg h];grind
 rw[e,zvd,zcb,zfd (f:=fun _=>o i*x i) hi]
 grind
theorem mm_dt (hd:∀i,i<n→r i i=0) (hr:∀i j,i<n→j<n→0≤r i j) (ho:∀i,i<n→sg n (r i)≤o i) (he:∀i,i<n→∃k,esc n r o k i):dt n (mmA r o)≠0:=by
 intro h
 obtain⟨c,⟨l,hl,hc⟩,hz⟩:=ker_of_dt h
 have e:∀i,i<n→o i*c i=sg n fun j=>r i j*c j:=fun i hi=>by
  have:=hz i hi
  rw[mmA_row hd hi]at this
  grind
 have h1:=mm_max hr ho he (x:=c) (fun i hi=>by rw[e i hi];exact Rat.le_refl) l hl
 have h2:=mm_max hr ho he (x:=fun j=>(-1)*c j) (fun i hi=>by
  have e2:sg n (fun j=>r i j*((-1)*c j))=(-1)*sg n (fun j=>r i j*c j):=by
   rw[←zcb];exact zma fun j _=>by grind
  rw[e2,←e i hi]
  have :o i*((-1)*c i)=(-1)*(o i*c i):=by grind
  rw[this];exact Rat.le_refl) l hl
 have h3:c l=0:=by grind
 exact hc h3
end
theorem sg_zero' {n:Nat} {f:Nat→Rat} (h:∀i,i<n→f i=0):sg n f=0:=by
 induction n with
 | zero=>rfl
 | succ n ih=>show sg n f+f n=0;rw[ih (fun i hi=>h i (by omega)),h n (by omega),Rat.add_zero]
theorem zkt :∀ {l:List Nat} {n:Nat},l.Pairwise (· < ·)→(∀x,x∈l→x<n+1)→n∈l→∃l',l=l'++ [n]∧(∀x,x∈l'→x<n)
 | [],n,_,_,h=>by simp at h
 | x::l,n,hp,hb,h=>by
   rw[List.pairwise_cons]at hp
   by_cases hn:n∈l
   ·obtain⟨l',e,hl⟩:=zkt hp.2 (fun y hy=>hb y (by simp[hy])) hn
    refine⟨x::l',by rw[e];rfl,fun y hy=> ?_⟩
    rcases List.mem_cons.1 hy with rfl | hy
    ·exact hp.1 n hn
    ·exact hl y hy
   ·rcases List.mem_cons.1 h with rfl | h
    ·cases l with
     | nil=>exact⟨[],rfl,fun y hy=>by simp at hy⟩
     | cons y l=>
       have h1:=hp.1 y (by simp)
       have h2:=hb y (by simp)
       omega
    ·exact absurd h hn
theorem getD_app_lt {l:List Nat} {x i:Nat} (h:i<l.length):(l++ [x]).getD i 0=l.getD i 0:=by
 rw[List.getD_eq_getElem?_getD,List.getD_eq_getElem?_getD,List.getElem?_append_left h]
theorem getD_app_eq {l:List Nat} {x:Nat}:(l++ [x]).getD l.length 0=x:=by
 rw[List.getD_eq_getElem?_getD,List.getElem?_append_right (Nat.le_refl _)];simp
theorem zmt :∀ {n:Nat} {l:List Nat} {f:Nat→Rat},l.Pairwise (· < ·)→(∀x,x∈l→x<n)→(∀t,t<n→t∉l→f t=0)→sg n f=sg l.length fun i=>f (l.getD i 0)
 | 0,l,f,_,hb,_=>by
   cases l with
   | nil=>rfl
   | cons x l=>have:=hb x (by simp);omega
 | n+1,l,f,hp,hb,h0=>by
   by_cases hn:n∈l
   ·obtain⟨l',rfl,hl⟩:=zkt hp hb hn
    have hp':=(List.pairwise_append.1 hp).1
    have ih:=zmt (f:=f) hp' hl (fun t ht htl=>h0 t (by omega) (by simp;exact⟨htl,by omega⟩))
    show sg n f+f n=_
    rw[List.length_append]
    show _=sg l'.length _+f ((l'++ [n]).getD l'.length 0)
    rw[getD_app_eq,ih]
    congr 1
    exact zma fun i hi=>by rw[getD_app_lt hi]
   ·have hb':∀x,x∈l→x<n:=fun x hx=>by
     have:=hb x hx
     have :x≠n:=fun e=>hn (e▸hx)
     omega
    have ih:=zmt (f:=f) hp hb' (fun t ht htl=>h0 t (by omega) htl)
    show sg n f+f n=_
    rw[h0 n (by omega) hn,Rat.add_zero,ih]
end Go.Proofs.YtlpdkbmmbdfoiaaGreat
namespace Go.Proofs.YtlpdkbmmbdfoiaaGreat
theorem zH {p : Prop} (h : p) : Go.RowKit.Hid p := h
open Go.RowKit
def base :Value→Addr
 | .slice (some a) _ _=>a
 | _=>⟨0,0,none⟩
def ptr (v:Value) (k:Nat):Addr:=(base v).add k
theorem add_add (a:Addr) (j k:Nat):(a.add j).add k=a.add (j+k):=by
 unfold Addr.add
 by_cases hj:j=0<;>by_cases hk:k=0<;>simp[hj,hk]
 omega
theorem ptr_add (v:Value) (j k:Nat):(ptr v j).add k=ptr v (j+k):=add_add _ _ _
theorem zsa (v:Value) (k:Nat):(ptr v k).block=(base v).block:=by
 unfold ptr Addr.add;split<;>rfl
def slen :Value→Nat
 | .slice _ n _=>n
 | _=>0
def scap :Value→Nat
 | .slice _ _ c=>c
 | _=>0
def zgc (v:Value):Prop:=
 ∃a n cap,v= .slice a n cap∧n≤cap∧cap≤maxLen∧(a=none→cap=0)
theorem zgc.nil :zgc (.slice none 0 0):=⟨none,0,0,rfl,Nat.le_refl _,by simp[maxLen],fun _=>rfl⟩
theorem zgc.le {v:Value} (h:zgc v):slen v≤scap v∧scap v≤9223372036854775807:=by
 obtain⟨a,n,cap,rfl,h1,h2,_⟩:=h;simp[maxLen]at h2;simp[slen,scap];omega
def tk (v:Value) (n:Nat):Value:=match v with
 | .slice a _ cap=> .slice a n cap
 | v=>v
def tk3 (v:Value) (n:Nat):Value:=match v with
 | .slice a _ _=> .slice a n n
 | v=>v
def cut (size:Nat) (v:Value) (lo hi:Nat):Value:=match v with
 | .slice a _ cap=> .slice (if cap=lo then a else a.map (·.add (lo*size))) (hi-lo) (cap-lo)
 | v=>v
theorem zgc.tk {v:Value} {m:Nat} (h:zgc v) (hm:m≤scap v):zgc (tk v m):=by
 obtain⟨a,n,cap,rfl,h1,h2,h3⟩:=h;exact⟨a,m,cap,rfl,hm,h2,h3⟩
theorem zgc.tk3 {v:Value} {m:Nat} (h:zgc v) (hm:m≤scap v):zgc (tk3 v m):=by
 obtain⟨a,n,cap,rfl,h1,h2,h3⟩:=h;simp only[scap]at hm;exact⟨a,m,m,rfl,Nat.le_refl _,by omega,fun e=>by have:=h3 e;omega⟩
theorem zgc.cut {v:Value} {size lo hi:Nat} (h:zgc v) (hl:lo≤hi) (hh:hi≤scap v):zgc (cut size v lo hi):=by
 obtain⟨a,n,cap,rfl,h1,h2,h3⟩:=h
 simp only[scap]at hh
 refine⟨_,_,cap-lo,rfl,by omega,by omega,fun e=> ?_⟩
 split at e
 ·omega
 ·have :a=none:=by cases a<;>simp_all
  have:=h3 this;omega
theorem zgc.slen_tk {v:Value} (h:zgc v) (m:Nat):slen (Go.Proofs.YtlpdkbmmbdfoiaaGreat.tk v m)=m:=by obtain⟨a,n,cap,rfl,_⟩:=h;rfl
theorem zgc.slen_tk3 {v:Value} (h:zgc v) (m:Nat):slen (Go.Proofs.YtlpdkbmmbdfoiaaGreat.tk3 v m)=m:=by obtain⟨a,n,cap,rfl,_⟩:=h;rfl
theorem zgc.slen_cut {v:Value} (h:zgc v) (size lo hi:Nat):slen (Go.Proofs.YtlpdkbmmbdfoiaaGreat.cut size v lo hi)=hi-lo:=by obtain⟨a,n,cap,rfl,_⟩:=h;rfl
@[simp] theorem base_tk (v : Value) (m : Nat) : base (tk v m) = base v := by cases v <;> first | rfl | (rename_i a n c; cases a <;> rfl)
@[simp] theorem base_tk3 (v : Value) (m : Nat) : base (tk3 v m) = base v := by cases v <;> first | rfl | (rename_i a n c; cases a <;> rfl)
@[simp, go_sem] theorem ptr_tk (v : Value) (m k : Nat) : ptr (tk v m) k = ptr v k := by simp [ptr]
@[simp, go_sem] theorem ptr_tk3 (v : Value) (m k : Nat) : ptr (tk3 v m) k = ptr v k := by simp [ptr]
theorem zwk {v:Value} {size lo hi k:Nat} (h:zgc v) (hh:lo<scap v):ptr (cut size v lo hi) k=ptr v (lo*size+k):=by
 obtain⟨a,n,cap,rfl,h1,h2,h3⟩:=h
 simp only[scap]at hh
 cases a with
 | none=>have:=h3 rfl;omega
 | some a=>
   simp only[cut,ptr]
   rw[if_neg (by omega)]
   simp only[base,Option.map_some,add_add]
section
variable {P:Program} (w:World)
@[go_sem ↓] theorem run_len_sl {t ty : TypeId} {v : Value} (h : zgc v) (ht : P.underlying t = some (.slice (P.elem t))) :
 (Builtin.len_ #[t] ty #[v]).run P w= .ok (.int .i64 (slen v)) w:=by
  obtain⟨a,n,cap,rfl,_⟩:=h
  simp[Builtin.len_,run_underlying ht,goInt,slen]
@[go_sem ↓] theorem run_index_sl {t : TypeId} {v : Value} {i : Int} (h : zgc v) (ht : P.underlying t = some (.slice (P.elem t))) :
 (Instr.indexAt t v (.int .i64 i)).run P w=
  if 0≤i∧i<slen v then((sizeOf (P.elem t)).run P w).andThen fun s w=> .ok (.pointer (some (ptr v (i.toNat*s)))) w
  else(boundsPanic .i64 i (slen v) .index).run P w:=by
  obtain⟨a,n,cap,rfl,hn,_,h3⟩:=h
  cases a with
  | none=>
    have:=h3 rfl
    obtain rfl:n=0:=by omega
    rw[if_neg (by simp only[slen];omega)]
    simp[Instr.indexAt,run_underlying ht,asIntOf,slen]
  | some a=>
    by_cases hc:0≤i∧i<((slen (.slice (some a) n cap):Nat):Int)
    ·have hc':0≤i∧i<(n:Int):=hc
     rw[if_pos hc];simp[Instr.indexAt,run_underlying ht,asIntOf,hc',ptr,base]
    ·have hc':¬ (0≤i∧i<(n:Int)):=hc
     rw[if_neg hc];simp[Instr.indexAt,run_underlying ht,asIntOf,hc',slen]
@[go_sem ↓] theorem run_slice_tk {t : TypeId} {v : Value} {m : Int} (h : zgc v) (ht : P.underlying t = some (.slice (P.elem t))) (h0 : 0 ≤ m) (h1 : m ≤ scap v) :
 (Instr.slice t v none (some (.int .i64 m)) none).run P w=((sizeOf (P.elem t)).run P w).andThen fun _ w=> .ok (tk v m.toNat) w:=by
  obtain⟨a,n,cap,rfl,hn,_,h3⟩:=h
  simp only[scap]at h1
  simp[Instr.slice,run_underlying ht,Instr.sliceBounds,Instr.sliceBound,asIntOf,h0,h1,tk]
  cases a<;>simp[Addr.add]
@[go_sem ↓] theorem run_slice_tk3 {t : TypeId} {v : Value} {m : Int} (h : zgc v) (ht : P.underlying t = some (.slice (P.elem t))) (h0 : 0 ≤ m) (h1 : m ≤ scap v) :
 (Instr.slice t v none (some (.int .i64 m)) (some (.int .i64 m))).run P w=((sizeOf (P.elem t)).run P w).andThen fun _ w=> .ok (tk3 v m.toNat) w:=by
  obtain⟨a,n,cap,rfl,hn,_,h3⟩:=h
  simp only[scap]at h1
  have e:(m.toNat:Int)=m:=Int.toNat_of_nonneg h0
  simp[Instr.slice,run_underlying ht,Instr.sliceBounds,Instr.sliceBound,asIntOf,h0,h1,e,tk3]
  cases a<;>simp[Addr.add]
def sliceElse (P:Program) (w:World) (t:TypeId) (v:Value) (lo hi:Value):Result Value:=(Instr.slice t v (some lo) (some hi) none).run P w
@[go_sem ↓] theorem run_slice_cut {t : TypeId} {v : Value} {lo hi : Int} (h : zgc v) (ht : P.underlying t = some (.slice (P.elem t))) :
 (Instr.slice t v (some (.int .i64 lo)) (some (.int .i64 hi)) none).run P w=
  if 0≤lo∧lo≤hi∧hi≤scap v then((sizeOf (P.elem t)).run P w).andThen fun s w=> .ok (cut s v lo.toNat hi.toNat) w else sliceElse P w t v (.int .i64 lo) (.int .i64 hi):=by
  obtain⟨a,n,cap,rfl,hn,_,h3⟩:=h
  by_cases hc:0≤lo∧lo≤hi∧hi≤(scap (.slice a n cap):Int)
  ·have hc':=hc
   obtain⟨h0,h1,h2⟩:=hc'
   simp only[scap]at h2
   rw[if_pos hc]
   have e:(hi.toNat:Int)=hi:=Int.toNat_of_nonneg (by omega)
   have h00:0≤hi:=by omega
   simp[Instr.slice,run_underlying ht,Instr.sliceBounds,Instr.sliceBound,asIntOf,h0,h1,h00,h2,e,cut]
  ·rw[if_neg hc];rfl
@[go_sem ↓] theorem run_sliceAt_any {t : TypeId} {v : Value} {lo hi mx : Option Value} (h : P.underlying t = some (.slice (P.elem t))) :
 (Instr.sliceAt t v lo hi mx).run P w=(Instr.slice t v lo hi mx).run P w:=by
  simp[Instr.sliceAt,run_underlying h]
end
theorem zka {B:Nat} (w:World) (k:Nat):Below B w (w.drewN k):=⟨rfl,rfl,rfl,Nat.le_refl _,fun _ _=>rfl⟩
structure zfc (w:World) (v:Value) (l:List Nat):Prop where
 sl:zgc v
 len:slen v=l.length
 cell:∀ (j:Nat) (h:j<l.length),w.cell? (ptr v j)=some (.int .u32 (l[j]:Nat))
 lm:Lm l
theorem zfc.nil (w:World):zfc w (.slice none 0 0) []:=⟨zgc.nil,rfl,fun j h=>by simp at h,fun x h=>by simp at h⟩
theorem zfc.below {w w':World} {v:Value} {l:List Nat} (h:zfc w v l) (hb:Below w.heap.size w w'):zfc w' v l:=
 ⟨h.sl,h.len,fun j hj=>by
  have hc:=h.cell j hj
  have hlt:=World.block_lt_of_cell? w _ hc
  rw[hb.cell hlt];exact hc,h.lm⟩
theorem zfc.tk {w:World} {v:Value} {l:List Nat} (h:zfc w v l) (n:Nat) (hn:n≤l.length):zfc w (tk v n) (l.take n):=by
 have e:(l.take n).length=n:=by simp;omega
 have:=h.sl.le
 have:=h.len
 refine⟨h.sl.tk (by omega),by rw[e];exact h.sl.slen_tk n,fun j hj=> ?_,fun x hx=>h.lm x (List.mem_of_mem_take hx)⟩
 have:=h.cell j (by omega)
 simp[this]
theorem zfc.tk3 {w:World} {v:Value} {l:List Nat} (h:zfc w v l) (n:Nat) (hn:n≤l.length):zfc w (tk3 v n) (l.take n):=by
 have e:(l.take n).length=n:=by simp;omega
 have:=h.sl.le
 have:=h.len
 refine⟨h.sl.tk3 (by omega),by rw[e];exact h.sl.slen_tk3 n,fun j hj=> ?_,fun x hx=>h.lm x (List.mem_of_mem_take hx)⟩
 have:=h.cell j (by omega)
 simp[this]
theorem zfc.cut {w:World} {v:Value} {l:List Nat} (h:zfc w v l) (lo hi:Nat) (hl:lo≤hi) (hh:hi≤l.length):zfc w (cut 1 v lo hi) ((l.drop lo).take (hi-lo)):=by
 have e:((l.drop lo).take (hi-lo)).length=hi-lo:=by simp;omega
 have:=h.sl.le
 have:=h.len
 refine⟨h.sl.cut hl (by omega),by rw[e];exact h.sl.slen_cut 1 lo hi,fun j hj=> ?_,fun x hx=>h.lm x (List.mem_of_mem_drop (List.mem_of_mem_take hx))⟩
 rw[zwk h.sl (by omega),Nat.mul_one,h.cell (lo+j) (by omega)]
 simp
theorem zfc.lt {w:World} {v:Value} {l:List Nat} (h:zfc w v l) (j:Nat) (hj:j<l.length):l[j]<4294967296:=h.lm _ (List.getElem_mem hj)
def zce (w:World) (e:TypeId) (B:Nat) (v:Value) (es:List Value):Prop:=w.ownsRow B e 1 v es.length es
section
variable {w:World} {e:TypeId} {B:Nat} {v:Value} {es:List Value}
theorem zce.nil (w:World) (e:TypeId) (B:Nat):zce w e B (.slice none 0 0) []:=World.ownsRow_nil w B e 1
theorem zce.sl (h:zce w e B v es):zgc v:=by
 rcases h.2 with⟨rfl,h0⟩ | ⟨g,cap,cur,rfl,hb,hg,hn,hm,hs,ht⟩
 ·exact zgc.nil
 ·exact⟨_,_,_,rfl,hn,hm,fun e=>by cases e⟩
theorem zce.len (h:zce w e B v es):slen v=es.length:=by
 rcases h.2 with⟨rfl,h0⟩ | ⟨g,cap,cur,rfl,hb,hg,hn,hm,hs,ht⟩
 ·rw[h0];rfl
 ·rfl
theorem zce.cell (h:zce w e B v es) (j:Nat) (hj:j<es.length):w.cell? (ptr v j)=some es[j]:=by
 rcases h.2 with⟨rfl,h0⟩ | ⟨g,cap,cur,rfl,hb,hg,hn,hm,hs,ht⟩
 ·omega
 ·have:=World.ownsRow.cellAt h j (by omega)
  simp only[ptr,base,Addr.add_lit,Nat.zero_add]
  rw[this,List.getElem?_eq_getElem hj]
theorem zce.frozen (h:zce w e B v es) (j:Nat) (hj:j<es.length):w.frozen? (ptr v j)=false:=by
 rcases h.2 with⟨rfl,h0⟩ | ⟨g,cap,cur,rfl,hb,hg,hn,hm,hs,ht⟩
 ·omega
 ·have:=World.ownsRow.frozenAt h j
  simpa only[ptr,base,Addr.add_lit,Nat.zero_add]using this
theorem zce.block (h:zce w e B v es) (hj:0<es.length):B≤(base v).block∧(base v).block<w.heap.size:=by
 rcases h.2 with⟨rfl,h0⟩ | ⟨g,cap,cur,rfl,hb,hg,hn,hm,hs,ht⟩
 ·omega
 ·exact⟨hb,(Array.getElem?_eq_some_iff.1 hg).1⟩
theorem zna {w w':World} {row:Option Nat} {B:Nat} (hg:w.grownBy w' row) (hB:B≤w.heap.size) (hr:∀k,row=some k→B≤k):Below B w w':=
 (Below.refl B w).grown hg hB hr
theorem zze {w w':World} (h:Below w.heap.size w w'):w.grownBy w' none:=
 ⟨h.os,h.tape,h.output,h.size,fun k hk _=>h.block k hk⟩
theorem zce.below {w':World} (h:zce w e B v es) (hb:Below w.heap.size w w'):zce w' e B v es:=
 World.ownsRow.kept h (zze hb) (by cases hv:v.ownBlock<;>simp)
theorem zce.alloc (h:zce w e B v es) (o:Obj):zce (w.alloc o) e B v es:=World.ownsRow.alloc h o
theorem zce.set (h:zce w e B v es) (j:Nat) (hj:j<es.length) (u:Value):zce (w.setCell (ptr v j) u) e B v (es.set j u)∧Below B w (w.setCell (ptr v j) u):=by
 have hbl:=h.block (by omega)
 rcases h.2 with⟨rfl,h0⟩ | ⟨g,cap,cur,rfl,hb,hg,hn,hm,hs,ht⟩
 ·omega
 ·have hs:=World.ownsRow.stored h j u
  simp only[ptr,base,Addr.add_lit,Nat.zero_add]
  refine⟨?_,zna hs.2 (by simp only[base]at hbl;omega) (fun k hk=>by simp at hk;omega)⟩
  have:=hs.1
  unfold zce
  rw[List.length_set]
  exact this
theorem zce.other (h:zce w e B v es) (p:Addr) (u:Value) (hp:p.block≠(base v).block):zce (w.setCell p u) e B v es:=by
 refine⟨h.1,?_⟩
 rcases h.2 with⟨rfl,h0⟩ | ⟨g,cap,cur,rfl,hb,hg,hn,hm,hs,ht⟩
 ·exact .inl ⟨rfl,h0⟩
 ·refine .inr ⟨g,cap,cur,rfl,hb,?_,hn,hm,hs,ht⟩
  simp only[base]at hp
  rw[Below.heap_setCell _ _ _ _ (fun e=>hp e.symm)];exact hg
theorem zce.mono {B':Nat} (h:zce w e B v es) (hB:B'≤B):zce w e B' v es:=by
 refine⟨h.1,?_⟩
 rcases h.2 with⟨rfl,h0⟩ | ⟨g,cap,cur,rfl,hb,rest⟩
 ·exact .inl ⟨rfl,h0⟩
 ·exact .inr ⟨g,cap,cur,rfl,by omega,rest⟩
end
theorem zjh {P:Program} (w:World) {ops:Array Oper} {rest:List Oper} {o:Oper} {a:Act} {Q:Exit→Act→World→Prop}
 (hg:o.guard=none) (l c:Operand) (t:TypeId) (hop:o.op=Op.makeSlice t l c)
 (B:Nat) (e:TypeId) (i:TypeInfo) (z:Value) (h1:P.underlying t=some (.slice e)) (h2:P.info? e=some i) (h3:i.zero=some z) (h4:i.size=1) (hz1:z.cells=#[z])
 (n:Nat) (hl:a.eval l= .int .i64 n) (hc:a.eval c= .int .i64 n) (b2:i.bytes*n≤281474976710656) (b3:n≤maxLen) (b4:B≤w.heap.size)
 (hK:∀v w',zce w' e B v (List.replicate n z)→Below w.heap.size w w'→w.heap.size≤(base v).block→wpList P ops Q rest (a.put o.dst v) w'):
 wpList P ops Q (o::rest) a w:=by
 refine wpList_make_full w hg l c t hop B e i z 1 h1 h2 h3 h4 .i64 .i64 n n n hl hc rfl rfl b2 b3 b4 ?_
 intro w' hown hgr
 refine hK _ w' ?_ (zna hgr (Nat.le_refl _) (fun k hk=>by cases hk)) (by simp[base])
 have :(madeCells z.cells (n*1)).toList=List.replicate n z:=by rw[hz1,Nat.mul_one,toList_madeCells_one]
 rw[this]at hown
 unfold zce
 rw[List.length_replicate]
 exact hown
theorem zlj {P:Program} (w:World) (B:Nat) (t ty e:TypeId) (i:TypeInfo) (z:Value) (bytes:Nat) (ht:P.underlying t=some (.slice e)) (hi:P.info? e=some i) (hz:i.zero=some z)
 (hsize:i.size=1) (hby:i.bytes=bytes) (hzs:z.cells.size=1)
 (v:Value) (es:List Value) (hown:zce w e B v es) (x:Value) (hx:zgc x) (news:List Value) (hlen:slen x=news.length)
 (hnews:∀j (hj:j<news.length),w.cell? (ptr x j)=some news[j]) (h1:∀u∈news,u.oneCell'=true)
 (h63:es.length+news.length≤maxLen) (hbytes:(es.length+news.length)*bytes≤140737488355328) (hbase:B≤w.heap.size):
 ∃v' w',(Builtin.append_ #[t,t] ty #[v,x]).run P w= .ok v' w'∧zce w' e B v' (es++news)∧w.grownBy w' v.ownBlock:=by
 obtain⟨a,n,cap,rfl,hnc,hcm,hnil⟩:=hx
 simp only[slen]at hlen
 subst hlen
 cases a with
 | none=>
   have:=hnil rfl
   obtain rfl:cap=0:=this
   have hn:news= []:=List.eq_nil_of_length_eq_zero (by omega)
   subst hn
   refine⟨v,w,run_append_owned_none w B t ty e i 1 ht hi v es.length es hown,?_,⟨rfl,rfl,rfl,Nat.le_refl _,fun _ _ _=>rfl⟩⟩
   rw[List.append_nil];exact hown
 | some a=>
   obtain⟨v',w',h2,h3,h4,_⟩:=run_append_own (P:=P) w B t ty e i z 1 bytes ht hi hz hsize hby hzs (by omega) v es.length es hown a news.length cap news (by omega)
    (fun j u hu=>by
     have hj:j<news.length:=(List.getElem?_eq_some_iff.1 hu).1
     have:=hnews j hj
     simp only[ptr,base]at this
     rw[this];rw[List.getElem?_eq_getElem hj]at hu;exact hu) h1 h63 hbytes hbase
   refine⟨v',w',h2,?_,h4⟩
   unfold zce
   rw[List.length_append]
   exact h3
theorem zce.ownBlock {w:World} {e:TypeId} {B:Nat} {v:Value} {es:List Value} (h:zce w e B v es):∀k,v.ownBlock=some k→B≤k:=fun k hk=>(World.ownsRow.lt h k hk).1
theorem zie {P:Program} (w:World) {ops:Array Oper} {rest:List Oper} {o:Oper} {a:Act} {Q:Exit→Act→World→Prop} (hgd:o.guard=none) (s x:Operand) (t:TypeId)
 (ho:o.op= .call { callee:= .builtin .append,args:=#[s,x],argTypes:=#[t,t] })
 (B:Nat) (e:TypeId) (i:TypeInfo) (z:Value) (bytes:Nat) (ht:P.underlying t=some (.slice e)) (hi:P.info? e=some i) (hz:i.zero=some z)
 (hsize:i.size=1) (hby:i.bytes=bytes) (hzs:z.cells.size=1)
 (v:Value) (es:List Value) (hs:a.eval s=v) (hown:zce w e B v es) (xv:Value) (hxe:a.eval x=xv) (hx:zgc xv) (news:List Value) (hlen:slen xv=news.length)
 (hnews:∀j (hj:j<news.length),w.cell? (ptr xv j)=some news[j]) (h1:∀u∈news,u.oneCell'=true)
 (h63:es.length+news.length≤maxLen) (hbytes:(es.length+news.length)*bytes≤140737488355328) (hbase:B≤w.heap.size)
 (h:∀v' w',zce w' e B v' (es++news)→w.grownBy w' v.ownBlock→Below B w w'→wpList P ops Q rest (a.put o.dst v') w'):wpList P ops Q (o::rest) a w:=by
 refine wpList_plain hgd fun K hK=> ?_
 obtain⟨v',w',hr,h2,h3⟩:=zlj (P:=P) w B t o.type e i z bytes ht hi hz hsize hby hzs v es hown xv hx news hlen hnews h1 h63 hbytes hbase
 unfold Oper.wp execOp
 simp only[ho,resolve,invoke,builtin,Sem.run_bind,Sem.run_pure,Result.andThen_ok,List.map_toArray,List.map_cons,List.map_nil,hs,hxe,hr]
 exact hK _ _ (h v' w' h2 h3 (zna h3 hbase hown.ownBlock))
theorem zsj {P:Program} (w0:World) {ops:Array Oper} {rest:List Oper} {o:Oper} {a:Act} {Q:Exit→Act→World→Prop} (hgd:o.guard=none) (s x:Operand) (t:TypeId)
 (ho:o.op= .call { callee:= .builtin .append,args:=#[s,x],argTypes:=#[t,t] })
 (B:Nat) (e e':TypeId) (i:TypeInfo) (z:Value) (bytes:Nat) (ht:P.underlying t=some (.slice e)) (hi:P.info? e=some i) (hz:i.zero=some z)
 (hsize:i.size=1) (hby:i.bytes=bytes) (hzs:z.cells.size=1)
 (v:Value) (es:List Value) (hs:a.eval s=v) (hown:zce w0 e B v es) (u:Value) (hxe:a.eval x= .slice (some ⟨w0.heap.size,0,none⟩) 1 1) (h1:u.oneCell'=true)
 (h63:es.length+1≤maxLen) (hbytes:(es.length+1)*bytes≤140737488355328) (hbase:B≤w0.heap.size)
 (h:∀v' w',zce w' e B v' (es++ [u])→Below B w0 w'→wpList P ops Q rest (a.put o.dst v') w'):wpList P ops Q (o::rest) a (w0.alloc (.cells #[u] e')):=by
 refine zie (w0.alloc (.cells #[u] e')) hgd s x t ho B e i z bytes ht hi hz hsize hby hzs v es hs (hown.alloc _) _ hxe ⟨_,1,1,rfl,Nat.le_refl _,by simp[maxLen],fun e=>by cases e⟩ [u] rfl
  (fun j hj=> ?_) (fun u' hu'=>by simp at hu';subst hu';exact h1) h63 hbytes (by simp;omega) (fun v' w' h2 _ h3=>h v' w' h2 (((Below.refl B w0).alloc hbase _).trans h3))
 have hj0:j=0:=by simp at hj;omega
 subst hj0
 simp[ptr,base,Addr.add]
def u32V (x:Nat):Value:= .int .u32 (x:Nat)
structure zcc (w:World) (e:TypeId) (B:Nat) (v:Value) (o:List Nat):Prop where
 own:zce w e B v (o.map u32V)
 lm:Lm o
section
variable {w:World} {e:TypeId} {B:Nat} {v:Value} {o:List Nat}
theorem zcc.nil (w:World) (e:TypeId) (B:Nat):zcc w e B (.slice none 0 0) []:=⟨zce.nil w e B,fun x h=>by simp at h⟩
theorem zcc.nat (h:zcc w e B v o):zfc w v o:=
 ⟨h.own.sl,by rw[h.own.len,List.length_map],fun j hj=>by rw[h.own.cell j (by simpa using hj)];simp[u32V],h.lm⟩
theorem zcc.below {w':World} (h:zcc w e B v o) (hb:Below w.heap.size w w'):zcc w' e B v o:=⟨h.own.below hb,h.lm⟩
theorem zcc.frozen (h:zcc w e B v o) (j:Nat) (hj:j<o.length):w.frozen? (ptr v j)=false:=h.own.frozen j (by simpa using hj)
theorem zcc.block (h:zcc w e B v o) (hj:0<o.length):B≤(base v).block∧(base v).block<w.heap.size:=h.own.block (by simpa using hj)
theorem Lm.set {o:List Nat} (h:Lm o) (j x:Nat) (hx:x<4294967296):Lm (o.set j x):=fun y hy=>by
 rcases List.mem_or_eq_of_mem_set hy with h' | h'
 ·exact h y h'
 ·omega
theorem Lm.append {o p:List Nat} (h:Lm o) (h':Lm p):Lm (o++p):=fun y hy=>(List.mem_append.1 hy).elim (h y) (h' y)
theorem Lm.one {x:Nat} (h:x<4294967296):Lm [x]:=fun y hy=>by simp at hy;omega
theorem Lm.take {o:List Nat} (h:Lm o) (k:Nat):Lm (o.take k):=fun y hy=>h y (List.mem_of_mem_take hy)
theorem Lm.drop {o:List Nat} (h:Lm o) (k:Nat):Lm (o.drop k):=fun y hy=>h y (List.mem_of_mem_drop hy)
theorem Lm.replicate (n:Nat):Lm (List.replicate n 0):=fun y hy=>by have:=List.eq_of_mem_replicate hy;omega
theorem zcc.set (h:zcc w e B v o) (j:Nat) (hj:j<o.length) (x:Nat) (hx:x<4294967296):
 zcc (w.setCell (ptr v j) (.int .u32 (x:Nat))) e B v (o.set j x)∧Below B w (w.setCell (ptr v j) (.int .u32 (x:Nat))):=by
 have:=h.own.set j (by simpa using hj) (u32V x)
 refine⟨⟨?_,h.lm.set j x hx⟩,this.2⟩
 rw[List.map_set];exact this.1
end
theorem zkj {P:Program} (t e:TypeId) (i:TypeInfo) (ht:P.underlying t=some (.slice e)) (hi:P.info? e=some i) (hz:i.zero=some (.int .u32 0))
 (hsize:i.size=1) (hby:i.bytes=4) (w:World) {ops:Array Oper} {rest:List Oper} {o:Oper} {a:Act} {Q:Exit→Act→World→Prop} (hgd:o.guard=none) (s x:Operand)
 (ho:o.op= .call { callee:= .builtin .append,args:=#[s,x],argTypes:=#[t,t] }) (B:Nat)
 (v:Value) (es:List Nat) (hs:a.eval s=v) (hown:zcc w e B v es) (xv:Value) (hxe:a.eval x=xv) (l:List Nat) (hx:zfc w xv l) (hb:es.length+l.length≤35184372088832) (hbase:B≤w.heap.size)
 (h:∀v' w',zcc w' e B v' (es++l)→w.grownBy w' v.ownBlock→Below B w w'→wpList P ops Q rest (a.put o.dst v') w'):wpList P ops Q (o::rest) a w:=by
 refine zie w hgd s x t ho B e i (.int .u32 0) 4 ht hi hz hsize hby rfl v (es.map u32V) hs hown.own xv hxe hx.sl (l.map u32V) (by rw[hx.len,List.length_map])
  (fun j hj=>by rw[hx.cell j (by simpa using hj)];simp[u32V]) (fun u hu=>by obtain⟨x,_,rfl⟩:=List.mem_map.1 hu;rfl)
  (by simp[maxLen];omega) (by simp;omega) hbase ?_
 intro v' w' h2 h3 h4
 exact h v' w' ⟨by rw[List.map_append];exact h2,hown.lm.append hx.lm⟩ h3 h4
theorem zuf {P:Program} (t e:TypeId) (i:TypeInfo) (ht:P.underlying t=some (.slice e)) (hi:P.info? e=some i) (hz:i.zero=some (.int .u32 0))
 (hsize:i.size=1) (hby:i.bytes=4) (w0:World) {ops:Array Oper} {rest:List Oper} {o:Oper} {a:Act} {Q:Exit→Act→World→Prop} (hgd:o.guard=none) (s x:Operand)
 (ho:o.op= .call { callee:= .builtin .append,args:=#[s,x],argTypes:=#[t,t] }) (B:Nat) (e':TypeId)
 (v:Value) (es:List Nat) (hs:a.eval s=v) (hown:zcc w0 e B v es) (u:Int) (y:Nat) (hu:u=y) (hy:y<4294967296) (hxe:a.eval x= .slice (some ⟨w0.heap.size,0,none⟩) 1 1) (hb:es.length+1≤35184372088832) (hbase:B≤w0.heap.size)
 (h:∀v' w',zcc w' e B v' (es++ [y])→Below B w0 w'→wpList P ops Q rest (a.put o.dst v') w'):wpList P ops Q (o::rest) a (w0.alloc (.cells #[.int .u32 u] e')):=by
 subst hu
 refine zsj w0 hgd s x t ho B e e' i (.int .u32 0) 4 ht hi hz hsize hby rfl v (es.map u32V) hs hown.own (u32V y) hxe rfl (by simp[maxLen];omega) (by simp;omega) hbase ?_
 intro v' w' h2 h4
 exact h v' w' ⟨by rw[List.map_append];exact h2,hown.lm.append (Lm.one hy)⟩ h4
theorem zmd {P:Program} (t e:TypeId) (i:TypeInfo) (h1:P.underlying t=some (.slice e)) (h2:P.info? e=some i) (h3:i.zero=some (.int .u32 0)) (h4:i.size=1) (h5:i.bytes=4)
 (w:World) {ops:Array Oper} {rest:List Oper} {o:Oper} {a:Act} {Q:Exit→Act→World→Prop} (hg:o.guard=none) (l c:Operand) (hop:o.op=Op.makeSlice t l c)
 (B:Nat) (u:Int) (n:Nat) (hu:u=n) (hl:a.eval l= .int .i64 u) (hc:a.eval c= .int .i64 u) (b2:n≤35184372088832) (b4:B≤w.heap.size)
 (hK:∀v w',zcc w' e B v (List.replicate n 0)→Below w.heap.size w w'→w.heap.size≤(base v).block→wpList P ops Q rest (a.put o.dst v) w'):
 wpList P ops Q (o::rest) a w:=by
 subst hu
 refine zjh w hg l c t hop B e i (.int .u32 0) h1 h2 h3 h4 rfl n hl hc (by rw[h5];omega) (by simp[maxLen];omega) b4 ?_
 intro v w' a1 a2 a3
 exact hK v w' ⟨by rw[List.map_replicate];exact a1,Lm.replicate n⟩ a2 a3
set_option maxHeartbeats 400000
def zob (w:World) (v:Value) (n:Nat):Prop:=∃l,zfc w v l∧val l=n∧l.length≤4294967296
def zjb (w:World) (v:Value) (n:Nat):Prop:=zfc w v (zla n)∧zda n≤4294967296
theorem zjb.nat {w:World} {v:Value} {n:Nat} (h:zjb w v n):zob w v n:=⟨_,h.1,zha n,h.2⟩
theorem zjb.below {w w':World} {v:Value} {n:Nat} (h:zjb w v n) (hb:Below w.heap.size w w'):zjb w' v n:=⟨h.1.below hb,h.2⟩
theorem zob.below {w w':World} {v:Value} {n:Nat} (h:zob w v n) (hb:Below w.heap.size w w'):zob w' v n:=by
 obtain⟨l,h,e⟩:=h;exact⟨l,h.below hb,e⟩
theorem zjb.nil (w:World):zjb w (.slice none 0 0) 0:=by unfold zjb;rw[zbc,zzc];exact⟨zfc.nil w,by omega⟩
theorem zob.drawn {w:World} {v:Value} {n:Nat} (h:zob w v n) (k:Nat):zob (w.drewN k) v n:=h.below (zka w k)
theorem zjb.drawn {w:World} {v:Value} {n:Nat} (h:zjb w v n) (k:Nat):zjb (w.drewN k) v n:=h.below (zka w k)
theorem zfc.natN {w:World} {v:Value} {l:List Nat} (h:zfc w v l) (hl:l.length≤4294967296):zob w v (val l):=⟨l,h,rfl,hl⟩
theorem zsb {l:List Nat} (h:Lm l):zda (val l)≤l.length:=by rw[←zhj h];exact zgj l
theorem zfc.can {w:World} {v:Value} {l:List Nat} (h:zfc w v l) (hl:l.length≤4294967296):zjb w (Go.Proofs.YtlpdkbmmbdfoiaaGreat.tk v (zda (val l))) (val l):=by
 refine⟨?_,Nat.le_trans (zsb h.lm) hl⟩
 rw[zhl h.lm,←zhj h.lm];exact h.tk _ (zgj l)
theorem zfc.can3 {w:World} {v:Value} {l:List Nat} (h:zfc w v l) (hl:l.length≤4294967296):zjb w (Go.Proofs.YtlpdkbmmbdfoiaaGreat.tk3 v (zda (val l))) (val l):=by
 refine⟨?_,Nat.le_trans (zsb h.lm) hl⟩
 rw[zhl h.lm,←zhj h.lm];exact h.tk3 _ (zgj l)
theorem length_v (v:Value) (l:List Nat) (w:World) (h:zfc w v l):
 Calls Tryz.prog 198 #[v] w fun e w'=>e= .returned (.int .i64 (clen l))∧w=w':=by
 have hs:=h.sl
 have hlen:=h.len
 have hle:=hs.le
 go_enter Tryz.func198,Tryz.ntmps198
 go_wp2
 go_loop [3] (fun i=>∃k:Nat,k≤l.length∧i= .int .i64 k∧clen (l.take k)=clen l) (fun i=>(intOf i).toNat)
 case atStart=>exact⟨l.length,Nat.le_refl _,rfl,by rw[List.take_length]⟩
 case round=>
  obtain⟨k,hk,rfl,hce⟩:=hrel
  have HC:=zH hce;clear hce
  by_cases h0:0<k
  ·obtain⟨j,rfl⟩:∃j,k=j+1:=⟨k-1,by omega⟩
   have hj:j<l.length:=by omega
   have hc:=h.cell j hj
   go_wp2
   ·go_round
    case rel=>exact⟨j,by omega,rfl,by rw[←HC.out,zbf l j hj (by simp_all)]⟩
    case measure=>simp[intOf]
   ·go_ret
    exact⟨by rw[←HC.out,zki l j hj (by simp_all)];simp,rfl⟩
  ·have hk0:k=0:=by omega
   subst hk0
   go_wp2
   go_ret
   exact⟨by rw[←HC.out];simp[clen],rfl⟩
theorem zdb (v:Value) (n:Nat) (w:World) (h:zob w v n):
 Calls Tryz.prog 198 #[v] w fun e w'=>e= .returned (.int .i64 (zda n))∧w=w':=by
 obtain⟨l,h,rfl,_⟩:=h
 rw[←zhj h.lm]
 exact length_v v l w h
theorem large_any (v:Value) (n:Nat) (w:World) (h:zob w v n):
 Calls Tryz.prog 200 #[v] w fun e w'=>e= .returned (.bool (decide (512<zda n)))∧w=w':=by
 go_enter Tryz.func200,Tryz.ntmps200
 go_wp2_with (go_at_call 198;refine(zdb v n _ h).mono ?_;rintro e w' ⟨rfl,rfl⟩)
 go_ret
 exact⟨by congr 2;simp;omega,rfl⟩
def SizedP (w:World) (r:Value) (er:Int) (n:Nat):Prop:=(zda n≤512→er=0∧zjb w r n)∧(512<zda n→er=2∧zjb w r 0)
def zxm (w0:World) (n:Nat) (e:Ending) (w:World):Prop:=
 ∃r er,e= .returned (.tuple #[r, .int .i64 er])∧SizedP w r er n∧Below w0.heap.size w0 w
theorem zph (v:Value) (l:List Nat) (w:World) (h:zfc w v l) (hll:l.length≤4294967296):
 Calls Tryz.prog 201 #[v] w (zxm w (val l)):=by
 have hs:=h.sl
 have hlen:=h.len
 have hle:=hs.le
 have hcl:=zgj l
 rw[zhj h.lm]at hcl
 have hcs:zda (val l)≤scap v:=by omega
 go_enter Tryz.func201,Tryz.ntmps201
 go_wp2_with (go_at_call 198;refine(zdb v (val l) _ (h.natN hll)).mono ?_;rintro e w' ⟨rfl,rfl⟩)
 ·go_ret2
  have hbig:¬zda (val l)≤512:=by omega
  exact⟨_,2,rfl,⟨fun h=>by omega,fun _=>⟨rfl,zjb.nil w⟩⟩,Below.refl _ _⟩
 ·go_ret2
  have hbig:zda (val l)≤512:=by omega
  exact⟨_,0,rfl,⟨fun _=>⟨rfl,h.can3 hll⟩,fun h=>by omega⟩,Below.refl _ _⟩
theorem Tryz.info102 :(Tryz.prog.info? 142).map (fun i=>(i.zero,i.size,i.bytes))=some (some (.int .u32 0),1,4):=by kernel_rfl
def RNat (w0:World) (n:Nat) (e:Ending) (w:World):Prop:=∃r,e= .returned r∧zjb w r n∧Below w0.heap.size w0 w
theorem zjd (v:Value) (n:Nat) (w:World) (h:zob w v n):
 Calls Tryz.prog 194 #[v] w (RNat w n):=by
 have hN:=h
 obtain⟨l,hl,HE,hll⟩:=h
 have hs:=hl.sl
 have hlen:=hl.len
 have hle:=hs.le
 have hcan:=hl.can hll
 rw[HE]at hcan
 have hcl:=zsb hl.lm
 rw[HE]at hcl
 clear HE
 have hcs:zda n≤scap v:=by omega
 obtain⟨i0,hi,hz0,hz1,hz2⟩:=info_parts Tryz.info102
 have hroom:([]:List Nat).length+(zla n).length≤35184372088832:=by have:=hcan.2;unfold zda at this;simp;omega
 have hA:=zkj (P:=Tryz.prog) 36 142 i0 Tryz.underlying36 hi hz0 hz1 hz2
 go_enter Tryz.func194,Tryz.ntmps194
 go_wp2_with (first
  |(go_at_call 198;refine(zdb v n _ hN).mono ?_;rintro e w' ⟨rfl,rfl⟩)
  |(at_builtin;refine hA w rfl _ _ rfl w.heap.size _ [] rfl (zcc.nil _ _ _) _ rfl (zla n) hcan.1 hroom (Nat.le_refl _) ?_;intro v' w1 hown _ hbel))
 go_ret
 exact⟨v',rfl,⟨by simpa using hown.nat,hcan.2⟩,hbel⟩
end Go.Proofs.YtlpdkbmmbdfoiaaGreat
