/- Lemmas. -/
import Derived.Test.YtlpdkbmmbdfoiaaGreatPDt2
set_option linter.unusedVariables false
namespace Go.Proofs.YtlpdkbmmbdfoiaaGreat
theorem elim_full {b:Bool} {n:Nat} {M:Mx} (h:(elim b n M n).r=n):∀j,j<=n->(elim b n M (n-j)).r=n-j
 | 0,_=>by rw[Nat.sub_zero];exact h
 | j+1,hj=>by
   have ih:=elim_full h j zO;have h1:=(zcg b n M (n- (j+1))).2;rw[show n-j=(n- (j+1))+1 by omega,elim,zrg]at ih;split at ih
   ·have :(elim b n M (n- (j+1))).r+1=n- (j+1)+1:=ih;omega
   ·have :(elim b n M (n- (j+1))).r=n- (j+1)+1:=ih;omega
theorem zbg {b:Bool} {n:Nat} {M:Mx} (h:(elim b n M n).r=n) {k:Nat} (hk:k<=n):(elim b n M k).r=k:=by
 have:=elim_full h (n-k) zO;rwa[show n- (n-k)=k by omega]at this
theorem zmd {n:Nat} {M:Mx} (h:(elim false n M n).r=n):∀k,k<=n->
 (∀i j,i<n->j<k->i≠j->(elim false n M k).A i j=0)/\(∀j,j<k->(elim false n M k).A j j≠0)/\(elim false n M k).d=sgs false n M k*pr k λ i=>(elim false n M k).A i i
 | 0,_=>⟨λ i j _ hj=>zO,λ j hj=>zO,by simp[elim,sgs,pr]⟩
 | k+1,hk=>by
   obtain⟨h1,h2,h3⟩:=zmd h k zO;have hrk:=zbg h (k:=k) zO;have hrk1:=zbg h hk;have hl:=zoe false n M k;rw[elim,zrg]at hrk1;rw[elim,zrg,sgs]
   have hlt:pvt n k (elim false n M k)<n:=by
    by_cases h5:pvt n k (elim false n M k)<n
    ·exact h5
    ·rw[zIN h5,hrk]at hrk1;omega
   rw[zIP hlt,zIP hlt];dsimp only;have hge:=zmm n k (elim false n M k);have hpn:=zaq (zcg false n M k).1 hlt;generalize pvt n k (elim false n M k)=a at *
   (rw[hrk]at hge hl |-);obtain⟨S,hS⟩:∃S,(elim false n M k).A=S:=⟨_,rfl⟩;(rw[hS]at h1 h2 h3 hl hpn |-);have hkk:swp S k a k k≠0:=by rw[zjj];exact hpn
   have hsl:∀i j,i<n->j<k->i≠j->swp S k a i j=0:=λ i j hi hj hij=>by
    unfold swp;split
    ·exact hl a j hge hlt hj
    ·split
     ·exact hl k j (zLR _) zO hj
     ·exact h1 i j hi hj hij
   have hsd:∀j,j<k->swp S k a j j=S j j:=λ j hj=>by
    unfold swp;rw[zIN zO,zIN zO]
   have hdg:∀j,j<k->zhj false (swp S k a) k k j j=S j j:=λ j hj=>by
    unfold zhj;rw[zIN (λ h=>zO),hsd j hj]
   (have hdk:zhj false (swp S k a) k k k k=swp S k a k k:=by rw[znh (λ h=>h.1 rfl)]);refine⟨λ i j hi hj hij=> ?_,λ j hj=> ?_,?_⟩
   ·unfold zhj;by_cases hjk:j<k
    ·rw[zIN (λ h=>zO)];exact hsl i j hi hjk hij
    ·obtain rfl:j=k:=zO;by_cases hz:swp S j a i j=0
     ·rw[zIN (λ h=>h.1.2.2 hz)];exact hz
     ·rw[zIP ⟨⟨hij,(λ z=>by cases z.1),hz⟩,zLR _⟩,Rat.div_mul_cancel hkk];grind
   ·by_cases hjk:j<k
    ·rw[hdg j hjk];exact h2 j hjk
    ·obtain rfl:j=k:=zO;rw[hdk];exact hkk
   ·rw[pr,hdk];(have e:(pr k λ i=>zhj false (swp S k a) k k i i)=pr k λ i=>S i i:=pr_congr λ i hi=>hdg i hi);rw[e,h3];split
    ·exact Rat.mul_assoc _ _ _
    ·grind
theorem detC (n:Nat) (A:Mx):RowC n λ B s=>dt n A=s*dt n B where
 congr:=λ X Y s h hX=>by rw[hX,zyd (λ a b ha _=>by rw[h a ha])]
 swap:=λ X s a b ha hb hab hX=>by rw[hX,dt_swp ha hb hab];grind
 add:=λ X s i r c hi hr hir hX=>by rw[hX,dt_add hi hr hir]
theorem sgs_sq (b:Bool) (n:Nat) (M:Mx):∀k,sgs b n M k*sgs b n M k=1
 | 0=>by simp[sgs]
 | k+1=>by
   have:=sgs_sq b n M k;rw[sgs];split
   ·split
    ·exact this
    ·grind
   ·exact this
theorem zdg {n:Nat} {A:Mx} {r:Nat} (hr:r<n) (h:∀j,j<n->A r j=0):dt n A=0:=by
 rw[<-dt_zero (A:=A) hr];refine zyd λ a b ha hb=> ?_
 unfold zjd;split
 ·next e=>subst e;exact h b hb
 ·rfl
theorem pr_ne {n:Nat} {f:Nat->Rat} (h:∀i,i<n->f i≠0):pr n f≠0:=by
 induction n with
 | zero=>exact(by decide+kernel:(1:Rat)≠0)
 | succ n ih=>rw[pr];exact λ e=>by rcases Rat.mul_eq_zero.1 e with e | e;exact ih (λ i hi=>h i zO) e;exact h n zO e
theorem elim_dt {n:Nat} {M:Mx}:((elim false n M n).r=n->dt n M=(elim false n M n).d/\dt n M≠0)/\((elim false n M n).r<n->dt n M=0):=by
 have hk:=zxd (detC n M) false (A:=M) (by rw[Rat.one_mul]) n;refine⟨λ h=> ?_,λ h=> ?_⟩
 ·obtain⟨h1,h2,h3⟩:=zmd h n (zLR _);rw[zfp (λ i j hi hj hij=>h1 i j hi hj hij)]at hk;refine⟨by rw[hk,h3],?_⟩;rw[hk];intro e;rcases Rat.mul_eq_zero.1 e with e | e
  ·have:=sgs_sq false n M n;rw[e]at this;simp at this
  ·exact pr_ne h2 e
 ·have hz:=zdg (n:=n) (A:=(elim false n M n).A) (r:=n-1) zO (λ j hj=>zoe false n M n (n-1) j zO zO hj);rw[hk,hz];grind
def zra (m:Nat) (A B:Mx):Mx:=λ i j=>if j<m then A i j else B i (j-m)
theorem zhe {m:Nat} {A B:Mx} {i j:Nat} (h:j<m):zra m A B i j=A i j:=by unfold zra;rw[zIP h]
theorem zkf {m:Nat} {A B:Mx} {i j:Nat}:zra m A B i (m+j)=B i j:=by unfold zra;rw[zIN zO,show m+j-m=j by omega]
theorem dt_beside {n:Nat} (A B:Mx):dt n (zra n A B)=dt n A:=zyd λ a b _ hb=>zhe hb
theorem zcf {n:Nat} {A B:Mx} (h:dt n A≠0):(elim false n (zra n A B) n).r=n:=by
 have h1:=(elim_dt (M:=zra n A B) (n:=n)).2;rw[dt_beside]at h1;rcases zOG (elim false n (zra n A B) n).r n with h2 | h2
 ·exact absurd (h1 h2) h
 ·have:=(zcg false n (zra n A B) n).1;omega
theorem rank_less {n:Nat} {A B:Mx} (h:dt n A=0):(elim false n (zra n A B) n).r<n:=by
 have h1:=(elim_dt (M:=zra n A B) (n:=n)).1;rw[dt_beside]at h1;have:=(zcg false n (zra n A B) n).1;rcases zOG (elim false n (zra n A B) n).r n with h2 | h2
 ·exact h2
 ·exact absurd h (h1 zO).2
theorem zjk (n c:Nat) (f:Nat->Rat):sg (n+c) f=sg n f+sg c λ j=>f (n+j):=by
 induction c with
 | zero=>rw[Nat.add_zero];simp[sg];grind
 | succ c ih=>rw[<-Nat.add_assoc,sg,ih,sg];grind
theorem kerC (n m:Nat) (M:Mx) (y:Nat->Rat):RowC n λ X _=>(∀i,i<n->sg m (λ j=>X i j*y j)=0)->∀i,i<n->sg m (λ j=>M i j*y j)=0 where
 congr:=λ X Y s h hX hY=>hX λ i hi=>by rw[h i hi];exact hY i hi
 swap:=λ X s a b ha hb hab hX hY=>hX λ i hi=>by
  by_cases h1:i=a
  ·subst h1;have:=hY b hb;unfold swp at this;rw[zIN (λ e=>hab e.symm),zIP rfl]at this;exact this
  ·by_cases h2:i=b
   ·subst h2;have:=hY a ha;unfold swp at this;rw[zIP rfl]at this;exact this
   ·have:=hY i hi;unfold swp at this;rw[zIN h1,zIN h2]at this;exact this
 add:=λ X s i r c hi hr hir hX hY=>hX λ k hk=>by
  have hrr:=hY r hr;rw[zrd (λ e=>hir e.symm)]at hrr;by_cases h1:k=i
  ·subst h1;have h2:=hY k hk;rw[zbe]at h2
   have e:sg m (λ j=>(X k j+c*X r j)*y j)=sg m (λ j=>X k j*y j)+c*sg m (λ j=>X r j*y j):=by
    rw[<-zhb,<-zxg];exact zqa λ j _=>by grind
   rw[e,hrr]at h2;grind
  ·have h2:=hY k hk;rw[zrd h1]at h2;exact h2
theorem zdp {n c:Nat} {A B:Mx} (h:(elim false n (zra n A B) n).r=n) {q:Nat} (hq:q<c):∀i,i<n->
 sg n (λ j=>A i j*((elim false n (zra n A B) n).A j (n+q)/(elim false n (zra n A B) n).A j j))=B i q:=by
 obtain⟨h1,h2,_⟩:=zmd h n (zLR _);obtain⟨T,hT⟩:∃T,(elim false n (zra n A B) n).A=T:=⟨_,rfl⟩
 let y:Nat->Rat:=λ j=>if j<n then T j (n+q)/T j j else if j=n+q then -1 else 0
 have hk:=zxd (kerC n (n+c) (zra n A B) y) false (A:=zra n A B) (λ h=>h) n;rw[hT]at hk h1 h2 |-
 have hy:∀Z:Mx,∀i,sg (n+c) (λ j=>Z i j*y j)=sg n (λ j=>Z i j*(T j (n+q)/T j j))-Z i (n+q):=λ Z i=>by
  rw[zjk]
  have e1:sg n (λ j=>Z i j*y j)=sg n (λ j=>Z i j*(T j (n+q)/T j j)):=zqa λ j hj=>by
   show Z i j*(if j<n then _ else _)=_;rw[zIP hj]
  have e2:sg c (λ j=>Z i (n+j)*y (n+j))=sg c (λ j=>if q=j then Z i (n+j)*(-1)else 0):=zqa λ j hj=>by
   (show Z i (n+j)*(if n+j<n then _ else if n+j=n+q then -1 else 0)=_);rw[zIN zO];by_cases h5:q=j
   ·subst h5;rw[zIP rfl,zIP rfl]
   ·rw[zIN zO,zIN h5];grind
  rw[e1,e2,zee hq];grind
 have hz:=hk λ i hi=>by
  rw[hy]
  have e:sg n (λ j=>T i j*(T j (n+q)/T j j))=sg n (λ j=>if i=j then T j (n+q)else 0):=zqa λ j hj=>by
   by_cases h5:i=j
   ·subst h5;rw[zIP rfl,Rat.mul_comm,Rat.div_mul_cancel (h2 i hi)]
   ·rw[zIN h5,h1 i j hi hj h5];grind
  rw[e,zee hi];grind
 intro i hi;have:=hz i hi;rw[hy,zkf]at this;have e:sg n (λ j=>zra n A B i j*(T j (n+q)/T j j))=sg n (λ j=>A i j*(T j (n+q)/T j j)):=zqa λ j hj=>by rw[zhe hj]
 rw[e]at this;grind
def zhh :Mx:=λ i j=>if i=j then 1 else 0
theorem invC (n:Nat) (A:Mx):RowC n λ X _=>∀i j,i<n->j<n->sg n (λ l=>X i (n+l)*A l j)=X i j where
 congr:=λ X Y s h hX i j hi hj=>by rw[<-h i hi];exact hX i j hi hj
 swap:=λ X s a b ha hb hab hX i j hi hj=>by
  unfold swp;split
  ·exact hX b j hb hj
  ·split
   ·exact hX a j ha hj
   ·exact hX i j hi hj
 add:=λ X s i r c hi hr hir hX k j hk hj=>by
  by_cases h1:k=i
  ·subst h1;rw[zbe]
   have e:sg n (λ l=>(X k (n+l)+c*X r (n+l))*A l j)=sg n (λ l=>X k (n+l)*A l j)+c*sg n (λ l=>X r (n+l)*A l j):=by
    rw[<-zhb,<-zxg];exact zqa λ l _=>by grind
   rw[e,hX k j hk hj,hX r j hr hj]
  ·rw[zrd h1];exact hX k j hk hj
def znm (n:Nat) (A:Mx):Mx:=λ i j=>(elim false n (zra n A zhh) n).A i (n+j)/(elim false n (zra n A zhh) n).A i i
theorem inv_left {n:Nat} {A:Mx} (h:dt n A≠0) {i j:Nat} (hi:i<n) (hj:j<n):sg n (λ l=>znm n A i l*A l j)=zhh i j:=by
 have hr:=zcf (B:=zhh) h;obtain⟨h1,h2,_⟩:=zmd hr n (zLR _)
 have hk:=zxd (invC n A) false (A:=zra n A zhh) (λ i j hi hj=>by
  rw[zhe hj]
  have e:sg n (λ l=>zra n A zhh i (n+l)*A l j)=sg n (λ l=>if i=l then A l j else 0):=zqa λ l hl=>by
   rw[zkf];unfold zhh;by_cases h5:i=l
   ·rw[zIP h5,zIP h5];grind
   ·rw[zIN h5,zIN h5];grind
  rw[e,zee hi]) n i j hi hj
 unfold znm;obtain⟨T,hT⟩:∃T,(elim false n (zra n A zhh) n).A=T:=⟨_,rfl⟩;rw[hT]at h1 h2 hk |-
 have e:sg n (λ l=>T i (n+l)/T i i*A l j)=(1/T i i)*sg n (λ l=>T i (n+l)*A l j):=by
  rw[<-zhb];exact zqa λ l _=>by rw[Rat.div_def,Rat.div_def];grind
 rw[e,hk];unfold zhh;by_cases h5:i=j
 ·subst h5;rw[zIP rfl,Rat.div_mul_cancel (h2 i hi)]
 ·rw[zIN h5,h1 i j hi hj h5];grind
theorem inv_right {n:Nat} {A:Mx} (h:dt n A≠0) {i j:Nat} (hi:i<n) (hj:j<n):sg n (λ l=>A i l*znm n A l j)=zhh i j:=
 zdp (zcf (B:=zhh) h) hj i hi
theorem zwg {n:Nat} {A:Mx} (h:dt n A≠0) {x b:Nat->Rat} (hx:∀i,i<n->sg n (λ j=>A i j*x j)=b i) {i:Nat} (hi:i<n):x i=sg n (λ l=>znm n A i l*b l):=by
 have e1:sg n (λ l=>znm n A i l*b l)=sg n (λ l=>sg n (λ j=>znm n A i l*(A l j*x j))):=zqa λ l hl=>by rw[<-hx l hl,zhb]
 rw[e1,sg_comm]
 have e2:sg n (λ j=>sg n (λ l=>znm n A i l*(A l j*x j)))=sg n (λ j=>if i=j then x j else 0):=zqa λ j hj=>by
  have e3:sg n (λ l=>znm n A i l*(A l j*x j))=sg n (λ l=>znm n A i l*A l j)*x j:=by
   rw[<-zbf];exact zqa λ l _=>by grind
  rw[e3,inv_left h hi hj];unfold zhh;by_cases h5:i=j
  ·rw[zIP h5,zIP h5];grind
  ·rw[zIN h5,zIN h5];grind
 rw[e2,zee hi]
theorem inv_cramer {n:Nat} {A:Mx} (h:dt n A≠0) {i j:Nat} (hi:i<n) (hj:j<n):znm n A i j=dt n (zjd A j (zhh i))/dt n A:=by
 have e:dt n (zjd A j (zhh i))=dt n (zjd A j λ b=>sg n λ l=>znm n A i l*A l b):=zyd λ a b ha hb=>by
  unfold zjd;split
  ·exact(inv_left h hi hb).symm
  ·rfl
 have e2:sg n (λ l=>znm n A i l*dt n (zjd A j (A l)))=sg n (λ l=>if j=l then znm n A i l*dt n A else 0):=zqa λ l hl=>by
  by_cases h5:j=l
  ·subst h5;rw[zIP rfl,zhi]
  ·rw[zIN h5,zam hj hl h5 (by rw[zbe,zrd (λ e=>h5 e.symm)])];grind
 rw[e,dt_sum A hj,e2,zee hj,Rat.mul_div_cancel h]
def zwe (m:Nat) (A B:Mx):Mx:=λ i k=>sg m λ j=>A i j*B j k
theorem mul_assoc (m o:Nat) (A B C:Mx) (i k:Nat):zwe o (zwe m A B) C i k=zwe m A (zwe o B C) i k:=by
 unfold zwe
 have e1:sg o (λ j=>sg m (λ l=>A i l*B l j)*C j k)=sg o (λ j=>sg m (λ l=>A i l*(B l j*C j k))):=zqa λ j _=>by
  rw[<-zbf];exact zqa λ l _=>by grind
 rw[e1,sg_comm];exact zqa λ l _=>zhb _ _ _
theorem dt_rows {n:Nat} (c:Nat->Rat) (B:Mx):∀k,k<=n->dt n (λ i b=>if i<k then c i*B i b else B i b)=pr k c*dt n B
 | 0,_=>by
   have e:(fun(i:Nat) (b:Nat)=>if i<0 then c i*B i b else B i b)=B:=by
    funext i b;rw[zIN zO]
   rw[e,pr,Rat.one_mul]
 | k+1,hk=>by
   have ih:=dt_rows (n:=n) c B k zO
   have e:(fun(i:Nat) (b:Nat)=>if i<k+1 then c i*B i b else B i b)=zjd (λ i b=>if i<k then c i*B i b else B i b) k (λ b=>c k*B k b):=by
    funext i b;unfold zjd
    by_cases h1:i=k
    ·subst h1;rw[zIP zO,zIP rfl]
    ·rw[zIN h1];by_cases h2:i<k
     ·(rw[zIP zO];show _=if i<k then _ else _);rw[zIP h2]
     ·(rw[zIN zO];show _=if i<k then _ else _);rw[zIN h2]
   have e2:zjd (λ i b=>if i<k then c i*B i b else B i b) k (B k)=λ i b=>if i<k then c i*B i b else B i b:=by
    funext i b;unfold zjd
    by_cases h1:i=k
    ·subst h1;rw[zIP rfl,zIN zO]
    ·rw[zIN h1]
   rw[e,dt_scale _ (show k<n by omega),e2,ih,pr];grind
theorem zsh {m:Nat} {X B:Mx} {Y:Mx} {i i':Nat} (h:X i=Y i'):zwe m X B i=zwe m Y B i':=by
 funext k;unfold zwe;rw[h]
theorem mulC (n:Nat) (A B:Mx):RowC n λ X s=>dt n (zwe n A B)=s*dt n (zwe n X B) where
 congr:=λ X Y s h hX=>by
  rw[hX,zyd (λ a b ha _=>by rw[zsh (B:=B) (h a ha)])]
 swap:=λ X s a b ha hb hab hX=>by
  have e:zwe n (swp X a b) B=swp (zwe n X B) a b:=by
   funext i;unfold swp
   by_cases h1:i=a
   ·subst h1;rw[zIP rfl];exact zsh (by rw[zIP rfl])
   ·rw[zIN h1];by_cases h2:i=b
    ·subst h2;rw[zIP rfl];exact zsh (by rw[zIN h1,zIP rfl])
    ·rw[zIN h2];exact zsh (by rw[zIN h1,zIN h2])
  rw[hX,e,dt_swp ha hb hab];grind
 add:=λ X s i r c hi hr hir hX=>by
  have e:zwe n (zjd X i λ b=>X i b+c*X r b) B=zjd (zwe n X B) i λ b=>zwe n X B i b+c*zwe n X B r b:=by
   funext k b
   by_cases h1:k=i
   ·subst h1;rw[zbe];unfold zwe;rw[zbe,<-zhb,<-zxg];exact zqa λ j _=>by grind
   ·rw[zrd h1];exact congrFun (zsh (zrd h1)) b
  rw[hX,e,dt_add hi hr hir]
theorem dt_mul (n:Nat) (A B:Mx):dt n (zwe n A B)=dt n A*dt n B:=by
 have h1:=zxd (mulC n A B) false (A:=A) (by rw[Rat.one_mul]) n;have h2:=zxd (detC n A) false (A:=A) (by rw[Rat.one_mul]) n;rw[h1,h2];by_cases hr:(elim false n A n).r=n
 ·obtain⟨h3,h4,h5⟩:=zmd hr n (zLR _);rw[zfp (λ i j hi hj hij=>h3 i j hi hj hij)]
  have e:dt n (zwe n (elim false n A n).A B)=dt n (λ i b=>if i<n then(elim false n A n).A i i*B i b else B i b):=zyd λ i b hi hb=>by
   rw[zIP hi];unfold zwe
   have e2:sg n (λ j=>(elim false n A n).A i j*B j b)=sg n (λ j=>if i=j then(elim false n A n).A i j*B j b else 0):=zqa λ j hj=>by
    by_cases h6:i=j
    ·rw[zIP h6]
    ·rw[zIN h6,h3 i j hi hj h6];grind
   rw[e2,zee hi]
  rw[e,dt_rows (λ i=>(elim false n A n).A i i) B n (zLR _)];grind
 ·have hr2:(elim false n A n).r<n:=by have:=(zcg false n A n).1;omega
  have hz0:∀j,j<n->(elim false n A n).A (n-1) j=0:=λ j hj=>zoe false n A n (n-1) j zO zO hj
  rw[zdg (A:=(elim false n A n).A) (r:=n-1) zO hz0]
  rw[zdg (A:=zwe n (elim false n A n).A B) (r:=n-1) zO (λ j hj=>by
   unfold zwe;exact(zqa λ l hl=>by rw[hz0 l hl];grind).trans (zfi n))]
  grind
theorem dtB_pos {B:Nat} (hB:0<B):∀n,0<dtB n B
 | 0=>Nat.one_pos
 | n+1=>Nat.mul_pos (Nat.succ_pos n) (Nat.mul_pos hB (dtB_pos hB n))
theorem zor {B k n:Nat} (hB:0<B) (h:k<=n):dtB k B<=dtB n B:=by
 induction n with
 | zero=>(obtain rfl:k=0:=zO);exact zLR _
 | succ n ih=>
   by_cases hk:k=n+1
   ·subst hk;exact zLR _
   ·refine zLT (ih zO) ?_;rw[dtB];have h1:dtB n B<=B*dtB n B:=Nat.le_mul_of_pos_left _ hB;exact zLT h1 (Nat.le_mul_of_pos_left _ (Nat.succ_pos n))
theorem over.div2 {F G N K:Nat} {p q:Rat} (hF:F≠0) (hG:G≠0) (hp:over F N p) (hq:over G K q) (h0:q≠0):∃H,H≠0/\H<=F*K/\over H (N*G) (p/q):=by
 obtain⟨z,rfl,hz⟩:=hq;have hz0:z≠0:=over.zero' (B:=K) hG h0;have h1:=over.quo hG (over.one hG) hz0;have h2:=over.mul hp h1;refine⟨F*z.natAbs,zMZ hF zO,zML _ hz,?_⟩;have e:p/mkRat z G=p*(1/mkRat z G):=by rw[Rat.div_def,Rat.div_def,Rat.one_mul]
 rw[e];exact h2
theorem over.sub2 {F G N K:Nat} {p q:Rat} (hF:F≠0) (hG:G≠0) (hp:over F N p) (hq:over G K q):over (F*G) (N*G+K*F) (p-q):=by
 have h1:=over.scale hG hp;have h2:=over.scale hF hq;rw[Nat.mul_comm G F]at h2;exact over.sub (zMZ hF hG) h1 h2
theorem inv_gen {n D B:Nat} {A:Mx} (hD:D≠0) (hDB:D<=B) (hA:∀i j,i<n->j<n->over D B (A i j)) (h:dt n A≠0):∃E,E≠0/\E<=dtB n B/\∀i j,i<n->j<n->over E (dtB n B) (znm n A i j):=by
 obtain⟨z,hz,hzb⟩:=dt_over (n:=n) (D:=D) (m:=B) hD hA;have hDn:D^n≠0:=Nat.ne_of_gt (Nat.pow_pos (zPZ hD));have hz0:z≠0:=over.zero' (B:=0) hDn (hz▸h);refine⟨z.natAbs,zO,hzb,λ i j hi hj=> ?_⟩;rw[inv_cramer h hi hj,hz];refine over.quo hDn (dt_over hD λ a b ha hb=> ?_) hz0;unfold zjd;split
 ·unfold zhh;split
  ·exact(over.one hD).mono hDB
  ·exact over.zero _ _
 ·exact hA a b ha hb
theorem sol_gen {n D B:Nat} {A:Mx} (hD:D≠0) (hDB:D<=B) (hA:∀i j,i<n->j<n->over D B (A i j)) (h:dt n A≠0) {F K:Nat} (hF:F≠0) {x b:Nat->Rat} (hb:∀i,i<n->over F K (b i)) (hx:∀i,i<n->sg n (λ j=>A i j*x j)=b i):
 ∃E,E≠0/\E<=dtB n B/\∀i,i<n->over (E*F) (n*(dtB n B*K)) (x i):=by
 obtain⟨E,hE,hEb,hI⟩:=inv_gen hD hDB hA h;refine⟨E,hE,hEb,λ i hi=> ?_⟩;rw[zwg h hx hi];exact over.sg (zMZ hE hF) λ l hl=>over.mul (hI i l hi hl) (hb l hl)
theorem zkn {k:Nat} {P:Mx} (h:dt k P≠0) {c y:Nat->Rat} (hy:∀j,j<k->y j=sg k λ l=>c l*P l j) {l:Nat} (hl:l<k):c l=sg k λ j=>y j*znm k P j l:=by
 have e1:sg k (λ j=>y j*znm k P j l)=sg k (λ j=>sg k (λ t=>c t*(P t j*znm k P j l))):=zqa λ j hj=>by
  rw[hy j hj,<-zbf];exact zqa λ t _=>Rat.mul_assoc _ _ _
 rw[e1,sg_comm]
 have e2:sg k (λ t=>sg k (λ j=>c t*(P t j*znm k P j l)))=sg k (λ t=>if l=t then c t else 0):=zqa λ t ht=>by
  rw[zhb,inv_right h ht hl];unfold zhh;by_cases h5:t=l
  ·subst h5;rw[zIP rfl,zIP rfl,Rat.mul_one]
  ·rw[zIN h5,zIN (λ e=>h5 e.symm),Rat.mul_zero]
 rw[e2,zee hl]
def bW (n D B β:Nat):Nat:=B*(β*D)+n*(n*(B*β)*B)
def bN (n D B β:Nat):Nat:=bW n D B β+n*(bW n D B β*β*B)
def bD (D β:Nat):Nat:=D*β*D*(β*D)
def zop (n m k D β W:Nat) (M X:Mx):Prop:=
 (∃σ:Nat->Nat,(∀i,i<n->σ i<n)/\(∀i,k<=i->i<n->∃c:Nat->Rat,∀j,j<m->X i j=M (σ i) j-sg k λ l=>c l*M (σ l) j)/\∀i,i<k->∃c:Nat->Rat,∀j,j<m->X i j=sg k λ l=>c l*M (σ l) j)/\
  ∀i,i<k->∃G,G≠0/\G<=D*β*D/\over G W (X i i)
theorem zop.start (n m D β W:Nat) (M:Mx):zop n m 0 D β W M M:=
 ⟨⟨id,λ i h=>h,λ i _ _=>⟨λ _=>0,λ j _=>by simp[sg];grind⟩,λ i h=>zO⟩,λ i h=>zO⟩
section
variable {n m k D B β:Nat} {M X:Mx}
theorem zop.sizes (hD:D≠0) (hDB:D<=B) (hk:k<=n) (hnm:n<=m) (hβ:dtB k B<=β) (hM:zvm n m D B M) (h:zop n m k D β (bW n D B β) M X)
 (h0:∀i j,i<n->j<k->i≠j->X i j=0) (hp:∀j,j<k->X j j≠0):
 (∀i j,k<=i->i<n->j<m->∃G,G≠0/\G<=D*β*D/\over G (bW n D B β) (X i j))/\∀i j,i<k->j<m->∃G,G≠0/\G<=bD D β/\over G (n*(bW n D B β*β*B)) (X i j):=by
 obtain⟨⟨σ,hσ,h1,h2⟩,h3⟩:=h;obtain⟨P,hP⟩:∃P:Mx,P=λ i l=>M (σ i) l:=⟨_,rfl⟩;have hPM:∀i l,P i l=M (σ i) l:=λ i l=>by rw[hP]
 obtain⟨C,hC⟩:=Classical.axiomOfChoice (r:=fun(i:Nat) (c:Nat->Rat)=>i<k->∀j,j<m->X i j=sg k λ l=>c l*M (σ l) j) (λ i=>by
  by_cases hi:i<k
  ·obtain⟨c,hc⟩:=h2 i hi;exact⟨c,λ _=>hc⟩
  ·exact⟨λ _=>0,λ h=>absurd h hi⟩)
 have hdP:dt k P≠0:=by
  have e1:dt k (zwe k C P)=dt k X:=zyd λ a b ha hb=>by
   rw[hC a ha b zO];unfold zwe;exact zqa λ l _=>by rw[hPM]
  rw[dt_mul]at e1;intro hz;rw[hz,Rat.mul_zero]at e1;rw[zfp (λ i j hi hj hij=>h0 i j zO hj hij)]at e1;exact pr_ne hp e1.symm
 obtain⟨E,hE,hEb,hI⟩:=inv_gen hD hDB (λ i j hi hj=>by rw[hPM];exact hM _ _ (hσ i zO) zO) hdP;have hEβ:E<=β:=zLT hEb hβ;have hI':∀i j,i<k->j<k->over E β (znm k P i j):=λ i j hi hj=>(hI i j hi hj).mono hβ
 have hDED:D*E*D≠0:=zMZ (zMZ hD hE) hD;refine⟨λ i j hki hi hj=> ?_,λ i j hi hj=> ?_⟩
 ·obtain⟨c,hc⟩:=h1 i hki hi
  have hy:∀j,j<k->M (σ i) j=sg k λ l=>c l*P l j:=λ j hj=>by
   have:=hc j zO;rw[h0 i j hi hj zO]at this;(have e:(sg k λ l=>c l*P l j)=sg k λ l=>c l*M (σ l) j:=zqa λ l _=>by rw[hPM]);rw[e];grind
  have hcl:∀l,l<k->over (D*E) (k*(B*β)) (c l):=λ l hl=>by
   rw[zkn hdP hy hl];exact over.sg (zMZ hD hE) λ j hj=>over.mul (hM _ _ (hσ i hi) zO) (hI' j l hj hl)
  refine⟨D*E*D,hDED,zMR _ (zML _ hEβ),?_⟩;rw[hc j hj];have hs:over (D*E*D) (k*(k*(B*β)*B)) (sg k λ l=>c l*M (σ l) j):=over.sg hDED λ l hl=>over.mul (hcl l hl) (hM _ _ (hσ l zO) hj)
  have hm:over (D*E*D) (B*(E*D)) (M (σ i) j):=by
   have:=over.scale (m:=E*D) (zMZ hE hD) (hM _ _ (hσ i hi) hj);rwa[<-Nat.mul_assoc]at this
  refine(over.sub hDED hm hs).mono ?_;unfold bW;refine Nat.add_le_add (zML _ (zMR _ hEβ)) (zMM hk (zMR _ (zMR _ hk)))
 ·obtain⟨G,hG,hGb,hd⟩:=h3 i hi
  have hy:∀j,j<k->X i j=sg k λ l=>C i l*P l j:=λ j hj=>by
   rw[hC i hi j zO];exact zqa λ l _=>by rw[hPM]
  have hcl:∀l,l<k->over (G*E) (bW n D B β*β) (C i l):=λ l hl=>by
   rw[zkn hdP hy hl]
   have e:(sg k λ j=>X i j*znm k P j l)=sg k λ j=>if i=j then X i i*znm k P i l else 0:=zqa λ j hj=>by
    by_cases h5:i=j
    ·subst h5;rw[zIP rfl]
    ·rw[zIN h5,h0 i j zO hj h5,Rat.zero_mul]
   rw[e,zee (f:=λ _=>X i i*znm k P i l) hi];exact over.mul hd (hI' i l hi hl)
  have hGE:G*E*D≠0:=zMZ (zMZ hG hE) hD;refine⟨G*E*D,hGE,?_,?_⟩
  ·unfold bD;rw[Nat.mul_assoc];exact zMM hGb (zMR _ hEβ)
  ·rw[hC i hi j hj];refine(over.sg hGE λ l hl=>over.mul (hcl l hl) (hM _ _ (hσ l zO) hj)).mono ?_;exact zMR _ hk
theorem zop.step (hk:k<n) (hnm:n<=m) {W a:Nat} (ha:k<=a) (han:a<n) (h:zop n m k D β W M X) (hz:∀i j,k<=i->i<n->j<k->X i j=0)
 (hpiv:∃G,G≠0/\G<=D*β*D/\over G W (X a k)):zop n m (k+1) D β W M (zhj false (swp X k a) k k):=by
 obtain⟨⟨σ,hσ,h1,h2⟩,h3⟩:=h;obtain⟨τ,hτ⟩:∃τ:Nat->Nat,τ=λ i=>if i=k then σ a else if i=a then σ k else σ i:=⟨_,rfl⟩;have t0:∀l,l<k->τ l=σ l:=λ l hl=>by rw[hτ];simp only;rw[zIN zO,zIN zO]
 have tk:τ k=σ a:=by rw[hτ];dsimp only;rw[zIP rfl]
 have tn:∀i,i<n->τ i<n:=λ i hi=>by
  rw[hτ];simp only;split
  ·exact hσ a han
  ·split
   ·exact hσ k hk
   ·exact hσ i hi
 have zr:∀i,k<=i->i<n->∃c:Nat->Rat,∀j,j<m->swp X k a i j=M (τ i) j-sg k λ l=>c l*M (τ l) j:=λ i hki hi=>by
  have cg:∀ (c:Nat->Rat) (j:Nat),(sg k λ l=>c l*M (σ l) j)=sg k λ l=>c l*M (τ l) j:=λ c j=>zqa λ l hl=>by rw[t0 l hl]
  by_cases e1:i=k
  ·obtain⟨c,hc⟩:=h1 a ha han;refine⟨c,λ j hj=> ?_⟩;subst e1;rw[tk,<-cg,<-hc j hj];unfold swp;rw[zIP rfl]
  ·by_cases e2:i=a
   ·obtain⟨c,hc⟩:=h1 k (zLR _) hk;refine⟨c,λ j hj=> ?_⟩;(have e3:τ i=σ k:=by rw[hτ];simp only;rw[zIN e1,zIP e2]);rw[e3,<-cg,<-hc j hj];unfold swp;rw[zIN e1,zIP e2]
   ·obtain⟨c,hc⟩:=h1 i hki hi;refine⟨c,λ j hj=> ?_⟩;(have e3:τ i=σ i:=by rw[hτ];simp only;rw[zIN e1,zIN e2]);rw[e3,<-cg,<-hc j hj];unfold swp;rw[zIN e1,zIN e2]
 have zl:∀i,i<k->swp X k a i=X i:=λ i hi=>by unfold swp;rw[zIN zO,zIN zO]
 have zz:∀j,j<k->swp X k a k j=0:=λ j hj=>by
  unfold swp;rw[zIP rfl];exact hz a j ha han hj
 obtain⟨ck,hck⟩:=zr k (zLR _) hk;generalize hZ:swp X k a=Z at *
 have yr:∀i,∃f:Rat,∀j,zhj false Z k k i j=Z i j-f*Z k j:=λ i=>by
  by_cases hact:act false Z k k i
  ·refine⟨Z i k/Z k k,λ j=> ?_⟩;unfold zhj;by_cases hj:k<=j
   ·rw[zIP ⟨hact,hj⟩]
   ·rw[zIN (λ h=>hj h.2),zz j zO,Rat.mul_zero];grind
  ·exact⟨0,λ j=>by rw[znh hact];grind⟩
 have yk:∀j,zhj false Z k k k j=Z k j:=λ j=>by rw[znh (λ h=>h.1 rfl)]
 refine⟨⟨τ,tn,λ i hki hi=> ?_,λ i hik=> ?_⟩,λ i hik=> ?_⟩
 ·obtain⟨c,hc⟩:=zr i zO hi;obtain⟨f,hf⟩:=yr i;refine⟨λ l=>if l<k then c l-f*ck l else f,λ j hj=> ?_⟩
  have e1:(sg k λ l=>(if l<k then c l-f*ck l else f)*M (τ l) j)=sg k (λ l=>c l*M (τ l) j)+(-f)*sg k λ l=>ck l*M (τ l) j:=by
   rw[<-zhb,<-zxg];exact zqa λ l hl=>by rw[zIP hl];grind
  rw[hf j,hc j hj,hck j hj,sg,e1];dsimp only;rw[zIN (zIR k)];grind
 ·by_cases e1:i=k
  ·subst e1;refine⟨λ l=>if l<i then -ck l else 1,λ j hj=> ?_⟩
   have e2:(sg i λ l=>(if l<i then -ck l else 1)*M (τ l) j)=(-1)*sg i λ l=>ck l*M (τ l) j:=by
    rw[<-zhb];exact zqa λ l hl=>by rw[zIP hl];grind
   rw[yk,hck j hj,sg,e2];dsimp only;rw[zIN (zIR i)];grind
  ·obtain⟨c,hc⟩:=h2 i zO;obtain⟨f,hf⟩:=yr i;refine⟨λ l=>if l<k then c l+f*ck l else -f,λ j hj=> ?_⟩
   have e2:(sg k λ l=>(if l<k then c l+f*ck l else -f)*M (τ l) j)=sg k (λ l=>c l*M (τ l) j)+f*sg k λ l=>ck l*M (τ l) j:=by
    rw[<-zhb,<-zxg];exact zqa λ l hl=>by rw[zIP hl];grind
   (have e3:(sg k λ l=>c l*M (σ l) j)=sg k λ l=>c l*M (τ l) j:=zqa λ l hl=>by rw[t0 l hl]);rw[hf j,zl i zO,hc j hj,hck j hj,sg,e2,e3];dsimp only;rw[zIN (zIR k)];grind
 ·by_cases e1:i=k
  ·subst e1;rw[yk];(have e2:Z i i=X a i:=by rw[<-hZ];unfold swp;rw[zIP rfl]);rw[e2];exact hpiv
  ·have e2:zhj false Z k k i i=X i i:=by
    unfold zhj;rw[zIN (λ h=>zO),zl i zO]
   rw[e2];exact h3 i zO
theorem zep (hD:D≠0) (hDB:D<=B) (hnm:n<=m) (hβ:dtB n B<=β) (hM:zvm n m D B M) (h:(elim false n M n).r=n):∀k,k<=n->zop n m k D β (bW n D B β) M (elim false n M k).A
 | 0,_=>zop.start n m D β _ M
 | k+1,hk=>by
   have ih:=zep hD hDB hnm hβ hM h k zO;obtain⟨u1,u2,_⟩:=zmd h k zO;have hrk:=zbg h (k:=k) zO;have hrk1:=zbg h hk;have hl:=zoe false n M k;rw[elim,zrg]at hrk1;rw[elim,zrg]
   have hlt:pvt n k (elim false n M k)<n:=by
    by_cases h5:pvt n k (elim false n M k)<n
    ·exact h5
    ·rw[zIN h5,hrk]at hrk1;omega
   rw[zIP hlt];have hge:=zmm n k (elim false n M k);have hB:0<B:=zO;have hs:=ih.sizes hD hDB zO hnm (zLT (zor hB zO) hβ) hM u1 u2;dsimp only;(rw[hrk]at hge hl |-);exact ih.step hk hnm hge hlt (λ i j h1 h2 h3=>hl i j h1 h2 h3) (hs.1 _ _ hge hlt zO)
theorem sgs_pm (n:Nat) (M:Mx) (k:Nat):sgs false n M k=1\/sgs false n M k= -1:=by
 have h:=sgs_sq false n M k;by_cases h1:sgs false n M k=1
 ·exact Or.inl h1
 ·right
  have h2:sgs false n M k-1≠0:=λ e=>h1 (by grind)
  have h3:(sgs false n M k-1)*(sgs false n M k+1)=0:=by grind
  rcases Rat.mul_eq_zero.1 h3 with h4 | h4
  ·exact absurd h4 h2
  ·grind
theorem over_pr {G0 W:Nat} {f:Nat->Rat}:∀k,(∀i,i<k->∃G,G≠0/\G<=G0/\over G W (f i))->∃G,G≠0/\G<=G0^k/\over G (W^k) (pr k f)
 | 0,_=>⟨1,zD,zLR _,⟨1,by show(1:Rat)=mkRat 1 1;decide+kernel,zLR _⟩⟩
 | k+1,h=>by
   (obtain⟨G,h1,h2,h3⟩:=over_pr k λ i hi=>h i zO);obtain⟨H,g1,g2,g3⟩:=h k (zSS k);rw[pr,Nat.pow_succ,Nat.pow_succ];exact⟨G*H,zMZ h1 g1,zMM h2 g2,over.mul h3 g3⟩
end
section
variable {n m k D B β F K:Nat} {M X:Mx}
theorem zop.sizesR {D' β' W':Nat} (hD:D≠0) (hDB:D<=B) (hF:F≠0) (hk:k<=n) (hnm:n<=m) (hβ:dtB k B<=β) (hM:zvm n n D B M) (hR:∀i j,i<n->n<=j->j<m->over (D*F) (B*K) (M i j)) (h:zop n m k D' β' W' M X)
 (h3:∀i,i<k->∃G,G≠0/\G<=D*β*D/\over G (bW n D B β) (X i i))
 (h0:∀i j,i<n->j<k->i≠j->X i j=0) (hp:∀j,j<k->X j j≠0):
 (∀i j,k<=i->i<n->n<=j->j<m->∃G,G≠0/\G<=D*β*D*F/\over G (bW n D B β*K) (X i j))/\∀i j,i<k->n<=j->j<m->∃G,G≠0/\G<=bD D β*F/\over G (n*(bW n D B β*β*B)*K) (X i j):=by
 obtain⟨⟨σ,hσ,h1,h2⟩,_⟩:=h;obtain⟨P,hP⟩:∃P:Mx,P=λ i l=>M (σ i) l:=⟨_,rfl⟩;have hPM:∀i l,P i l=M (σ i) l:=λ i l=>by rw[hP]
 obtain⟨C,hC⟩:=Classical.axiomOfChoice (r:=fun(i:Nat) (c:Nat->Rat)=>i<k->∀j,j<m->X i j=sg k λ l=>c l*M (σ l) j) (λ i=>by
  by_cases hi:i<k
  ·obtain⟨c,hc⟩:=h2 i hi;exact⟨c,λ _=>hc⟩
  ·exact⟨λ _=>0,λ h=>absurd h hi⟩)
 have hdP:dt k P≠0:=by
  have e1:dt k (zwe k C P)=dt k X:=zyd λ a b ha hb=>by
   rw[hC a ha b zO];unfold zwe;exact zqa λ l _=>by rw[hPM]
  rw[dt_mul]at e1;intro hz;rw[hz,Rat.mul_zero]at e1;rw[zfp (λ i j hi hj hij=>h0 i j zO hj hij)]at e1;exact pr_ne hp e1.symm
 obtain⟨E,hE,hEb,hI⟩:=inv_gen hD hDB (λ i j hi hj=>by rw[hPM];exact hM _ _ (hσ i zO) zO) hdP;have hEβ:E<=β:=zLT hEb hβ;have hI':∀i j,i<k->j<k->over E β (znm k P i j):=λ i j hi hj=>(hI i j hi hj).mono hβ
 have hDED:D*E*D*F≠0:=zMZ (zMZ (zMZ hD hE) hD) hF;have q1:D*E*(D*F)=D*E*D*F:=(Nat.mul_assoc _ _ _).symm;have q2:D*F*(E*D)=D*E*D*F:=by ac_rfl
 refine⟨λ i j hki hi hjn hj=> ?_,λ i j hi hjn hj=> ?_⟩
 ·obtain⟨c,hc⟩:=h1 i hki hi
  have hy:∀j,j<k->M (σ i) j=sg k λ l=>c l*P l j:=λ j hj=>by
   have:=hc j zO;rw[h0 i j hi hj zO]at this;(have e:(sg k λ l=>c l*P l j)=sg k λ l=>c l*M (σ l) j:=zqa λ l _=>by rw[hPM]);rw[e];grind
  have hcl:∀l,l<k->over (D*E) (k*(B*β)) (c l):=λ l hl=>by
   rw[zkn hdP hy hl];exact over.sg (zMZ hD hE) λ j hj=>over.mul (hM _ _ (hσ i hi) zO) (hI' j l hj hl)
  refine⟨D*E*D*F,hDED,zMR _ (zMR _ (zML _ hEβ)),?_⟩;rw[hc j hj]
  have hs:over (D*E*D*F) (k*(k*(B*β)*(B*K))) (sg k λ l=>c l*M (σ l) j):=over.sg hDED λ l hl=>by
   have:=over.mul (hcl l hl) (hR _ _ (hσ l zO) hjn hj);rwa[q1]at this
  have hm:over (D*E*D*F) (B*K*(E*D)) (M (σ i) j):=by
   have:=over.scale (m:=E*D) (zMZ hE hD) (hR _ _ (hσ i hi) hjn hj);rwa[q2]at this
  refine(over.sub hDED hm hs).mono ?_;unfold bW;rw[Nat.add_mul];have e1:B*K*(E*D)=B*(E*D)*K:=by ac_rfl
  have e2:k*(k*(B*β)*(B*K))=k*(k*(B*β)*B)*K:=by ac_rfl
  rw[e1,e2];exact Nat.add_le_add (zMR _ (zML _ (zMR _ hEβ))) (zMR _ (zMM hk (zMR _ (zMR _ hk))))
 ·obtain⟨G,hG,hGb,hd⟩:=h3 i hi
  have hy:∀j,j<k->X i j=sg k λ l=>C i l*P l j:=λ j hj=>by
   rw[hC i hi j zO];exact zqa λ l _=>by rw[hPM]
  have hcl:∀l,l<k->over (G*E) (bW n D B β*β) (C i l):=λ l hl=>by
   rw[zkn hdP hy hl]
   have e:(sg k λ j=>X i j*znm k P j l)=sg k λ j=>if i=j then X i i*znm k P i l else 0:=zqa λ j hj=>by
    by_cases h5:i=j
    ·subst h5;rw[zIP rfl]
    ·rw[zIN h5,h0 i j zO hj h5,Rat.zero_mul]
   rw[e,zee (f:=λ _=>X i i*znm k P i l) hi];exact over.mul hd (hI' i l hi hl)
  have hGE:G*E*(D*F)≠0:=zMZ (zMZ hG hE) (zMZ hD hF);refine⟨G*E*(D*F),hGE,?_,?_⟩
  ·(have e1:G*E*(D*F)=G*(E*D)*F:=by ac_rfl);rw[e1];unfold bD;exact zMR _ (zMM hGb (zMR _ hEβ))
  ·rw[hC i hi j hj];refine(over.sg hGE λ l hl=>over.mul (hcl l hl) (hR _ _ (hσ l zO) hjn hj)).mono ?_;(have e1:k*(bW n D B β*β*(B*K))=k*(bW n D B β*β*B)*K:=by ac_rfl);rw[e1];exact zMR _ (zMR _ hk)
structure zrn (n D B β F K:Nat):Prop where
 b:dtB n B<=β
 d0:D≠0
 db:D<=B
 f0:1<=F
 k0:1<=K
 den:bD D β*F*(bD D β*bN n D B β*(bD D β*F))<2^4096
 num:bN n D B β*K*(bD D β*bN n D B β*(bD D β*F))+bN n D B β*bD D β*(bN n D B β*K)*(bD D β*F)<2^4096
 pw1:(D*β*D)^n<2^4096
 pw2:(bW n D B β)^n<2^4096
theorem zrn.mono {F' K':Nat} (h:zrn n D B β F K) (h1:1<=F') (h2:F'<=F) (h3:1<=K') (h4:K'<=K):zrn n D B β F' K':=by
 obtain⟨a1,a2,a3,a4,a5,a6,a7,a8,a9⟩:=h;refine⟨a1,a2,a3,h1,h3,zLL ?_ a6,zLL ?_ a7,a8,a9⟩
 ·exact zMM (zML _ h2) (zML _ (zML _ h2))
 ·exact Nat.add_le_add (zMM (zML _ h4) (zML _ (zML _ h2))) (zMM (zML _ (zML _ h4)) (zML _ h2))
theorem zhq (hb:dtB n B<=β) (hD:D≠0) (hDB:D<=B) (hF1:1<=F) (hK1:1<=K) (hw1:(D*β*D)^n<2^4096) (hw2:(bW n D B β)^n<2^4096) (hn:0<n) (hnm:n<=m) (hM:zvm n n D B M) (hR:∀i j,i<n->n<=j->j<m->over (D*F) (B*K) (M i j)) (h:(elim false n M n).r=n):
 (∀k,k<=n->(∀i j,i<n->j<n->∃G,G≠0/\G<=bD D β/\over G (bN n D B β) ((elim false n M k).A i j)))/\
 (∀k,k<=n->(∀i j,i<n->j<m->∃G,G≠0/\G<=bD D β*F/\over G (bN n D B β*K) ((elim false n M k).A i j)))/\
 (∀k,k<=n->∃G,G≠0/\G<2^4096/\∃K,K<2^4096/\over G K (elim false n M k).d)/\0<bD D β/\0<bN n D B β:=by
 have hF:F≠0:=zO;have hB:0<B:=zO;have hβ0:0<β:=zLM (dtB_pos hB n) hb;have hD1:0<D:=zO;have hBD:D*β*D<=bD D β:=Nat.le_mul_of_pos_right _ (Nat.mul_pos hβ0 hD1);have hBD1:0<bD D β:=zLM (Nat.mul_pos (Nat.mul_pos hD1 hβ0) hD1) hBD;have hW1:0<bW n D B β:=by unfold bW;exact zLM (Nat.mul_pos hB (Nat.mul_pos hβ0 hD1)) (Nat.le_add_right _ _)
 have hWN:bW n D B β<=bN n D B β:=Nat.le_add_right _ _;have hN1:0<bN n D B β:=zLM hW1 hWN;have hDF:bD D β<=bD D β*F:=Nat.le_mul_of_pos_right _ hF1;have hNK:bN n D B β<=bN n D B β*K:=Nat.le_mul_of_pos_right _ hK1
 have hMA:zvm n m (D*F) (B*F*K) M:=λ i j hi hj=>by
  rcases zOG j n with h1 | h1
  ·have h2:=over.scale (m:=F) hF (hM i j hi h1);exact h2.mono (Nat.le_mul_of_pos_right _ hK1)
  ·exact(hR i j hi h1 hj).mono (zMR _ (Nat.le_mul_of_pos_right _ hF1))
 have hall:=zep (β:=dtB n (B*F*K)) (zMZ hD hF) (zLT (zMR _ hDB) (Nat.le_mul_of_pos_right _ hK1)) hnm (zLR _) hMA h;have hpiv:=zep hD hDB (zLR n) hb hM h
 have elA:∀k,k<=n->(∀i j,i<n->j<n->∃G,G≠0/\G<=bD D β/\over G (bN n D B β) ((elim false n M k).A i j)):=λ k hk i j hi hj=>by
  have hc:=hpiv k hk;obtain⟨u1,u2,_⟩:=zmd h k hk;obtain⟨s1,s2⟩:=hc.sizes hD hDB hk (zLR n) (zLT (zor hB hk) hb) hM u1 u2;rcases zOG i k with h1 | h1
  ·obtain⟨G,g1,g2,g3⟩:=s2 i j h1 hj;exact⟨G,g1,g2,g3.mono (Nat.le_add_left _ _)⟩
  ·obtain⟨G,g1,g2,g3⟩:=s1 i j h1 hi hj;exact⟨G,g1,zLT g2 hBD,g3.mono hWN⟩
 have el:∀k,k<=n->(∀i j,i<n->j<m->∃G,G≠0/\G<=bD D β*F/\over G (bN n D B β*K) ((elim false n M k).A i j)):=λ k hk i j hi hj=>by
  rcases zOG j n with h1 | h1
  ·obtain⟨G,g1,g2,g3⟩:=elA k hk i j hi h1;exact⟨G,g1,zLT g2 hDF,g3.mono hNK⟩
  ·obtain⟨u1,u2,_⟩:=zmd h k hk;obtain⟨s1,s2⟩:=(hall k hk).sizesR hD hDB hF hk hnm (zLT (zor hB hk) hb) hM hR (hpiv k hk).2 u1 u2;rcases zOG i k with h2 | h2
   ·obtain⟨G,g1,g2,g3⟩:=s2 i j h2 h1 hj;exact⟨G,g1,g2,g3.mono (zMR _ (Nat.le_add_left _ _))⟩
   ·obtain⟨G,g1,g2,g3⟩:=s1 i j h2 hi h1 hj;exact⟨G,g1,zLT g2 (zMR _ hBD),g3.mono (zMR _ hWN)⟩
 have dd:∀k,k<=n->∃G,G≠0/\G<2^4096/\∃K,K<2^4096/\over G K (elim false n M k).d:=λ k hk=>by
  have hc:=hpiv k hk;obtain⟨u1,u2,u3⟩:=zmd h k hk;obtain⟨G,g1,g2,g3⟩:=over_pr k hc.2;have q1:(D*β*D)^k<=(D*β*D)^n:=Nat.pow_le_pow_right (Nat.mul_pos (Nat.mul_pos hD1 hβ0) hD1) hk;have q2:(bW n D B β)^k<=(bW n D B β)^n:=Nat.pow_le_pow_right hW1 hk;refine⟨G,g1,zLL (zLT g2 q1) hw1,_,zLL q2 hw2,?_⟩;rw[u3];rcases sgs_pm n M k with e | e
  ·rw[e,Rat.one_mul];exact g3
  ·rw[e,show(-1:Rat)*pr k (λ i=>(elim false n M k).A i i)= -pr k (λ i=>(elim false n M k).A i i)by grind];exact over.neg g3
 exact⟨elA,el,dd,hBD1,hN1⟩
theorem zsn (hx:zrn n D B β F K) (hn:0<n) (hnm:n<=m) (hM:zvm n n D B M) (hR:∀i j,i<n->n<=j->j<m->over (D*F) (B*K) (M i j)) (h:(elim false n M n).r=n):slimE false n m n M:=by
 obtain⟨elA,el,dd,hBD1,hN1⟩:=zhq hx.b hx.d0 hx.db hx.f0 hx.k0 hx.pw1 hx.pw2 hn hnm hM hR h;have hden:=hx.den;have hnum:=hx.num;have hDF:bD D β<=bD D β*F:=Nat.le_mul_of_pos_right _ hx.f0;have hNK:bN n D B β<=bN n D B β*K:=Nat.le_mul_of_pos_right _ hx.k0;obtain⟨D2,hD2⟩:∃x,bD D β*F=x:=⟨_,rfl⟩;obtain⟨N2,hN2⟩:∃x,bN n D B β*K=x:=⟨_,rfl⟩;rw[hD2]at hden hnum hDF el;rw[hN2]at hnum hNK el;have hD2p:0<D2:=zO;have hN2p:0<N2:=zO;have hP1:D2<=bD D β*bN n D B β*D2:=Nat.le_mul_of_pos_left _ (Nat.mul_pos hBD1 hN1);have hP2:D2<=D2*(bD D β*bN n D B β*D2):=Nat.le_mul_of_pos_right _ zO;have hP3:N2<=N2*(bD D β*bN n D B β*D2):=Nat.le_mul_of_pos_right _ zO;intro k hk;refine⟨λ a b ha hb=> ?_,?_,λ hkn=> ?_⟩
 ·obtain⟨G,g1,g2,g3⟩:=el k hk a b ha hb;exact g3.fits g1 zO zO
 ·obtain⟨G,g1,g2,K,g3,g4⟩:=dd k hk;exact g4.fits g1 g3 g2
 ·intro hlt;have hrk:=zbg h (k:=k) hk;have hge:=zmm n k (elim false n M k);have hpn:=zaq (zcg false n M k).1 hlt;refine⟨?_,?_,λ i hi hact=> ?_⟩
  ·obtain⟨G,g1,g2,K,g3,g4⟩:=dd k hk;exact(over.neg g4).fits g1 g3 g2
  ·obtain⟨G,g1,g2,K,g3,g4⟩:=dd (k+1) hkn;rw[elim,zrg,zIP hlt]at g4;exact g4.fits g1 g3 g2
  ·rw[hrk]at hge hact |-
   have hzA:∀a b,a<n->b<n->∃G,G≠0/\G<=bD D β/\over G (bN n D B β) (swp (elim false n M k).A k (pvt n k (elim false n M k)) a b):=λ a b ha hb=>by
    unfold swp;split
    ·exact elA k hk _ b hlt hb
    ·split
     ·exact elA k hk _ b hkn hb
     ·exact elA k hk _ b ha hb
   have hz:∀a b,a<n->b<m->∃G,G≠0/\G<=D2/\over G N2 (swp (elim false n M k).A k (pvt n k (elim false n M k)) a b):=λ a b ha hb=>by
    unfold swp;split
    ·exact el k hk _ b hlt hb
    ·split
     ·exact el k hk _ b hkn hb
     ·exact el k hk _ b ha hb
   (have hkk:swp (elim false n M k).A k (pvt n k (elim false n M k)) k k≠0:=by rw[zjj];exact hpn);generalize swp (elim false n M k).A k (pvt n k (elim false n M k))=Z at *
   obtain⟨G1,a1,a2,a3⟩:=hzA i k hi hkn;obtain⟨G2,b1,b2,b3⟩:=hzA k k hkn hkn;obtain⟨H,c1,c2,c3⟩:=over.div2 a1 b1 a3 b3 hkk;have hH:H<=bD D β*bN n D B β:=zLT c2 (zMR _ a2);have hHn:bN n D B β*G2<=bN n D B β*bD D β:=zML _ b2;have r1:bD D β*bN n D B β<=bD D β*bN n D B β*D2:=Nat.le_mul_of_pos_right _ hD2p;have r2:bD D β*bN n D B β*D2<=D2*(bD D β*bN n D B β*D2):=Nat.le_mul_of_pos_left _ hD2p;have r3:bN n D B β*bD D β<=bN n D B β*bD D β*N2:=Nat.le_mul_of_pos_right _ hN2p;have r4:bN n D B β*bD D β*N2<=bN n D B β*bD D β*N2*D2:=Nat.le_mul_of_pos_right _ hD2p;refine⟨c3.fits c1 zO zO,λ j hj hkj=> ?_⟩;obtain⟨G3,d1,d2,d3⟩:=hz k j hkn hj;obtain⟨G4,e1,e2,e3⟩:=hz i j hi hj;have m1:=over.mul c3 d3;have hm1:H*G3≠0:=zMZ c1 d1;have hm2:H*G3<=bD D β*bN n D B β*D2:=zMM hH d2;have hm3:bN n D B β*G2*N2<=bN n D B β*bD D β*N2:=zMR _ hHn;refine⟨m1.fits hm1 zO zO,?_⟩;have m2:=over.sub2 e1 hm1 e3 m1;have hm4:G4*(H*G3)<=D2*(bD D β*bN n D B β*D2):=zMM e2 hm2;have hm5:N2*(H*G3)<=N2*(bD D β*bN n D B β*D2):=zML _ hm2;have hm6:bN n D B β*G2*N2*G4<=bN n D B β*bD D β*N2*D2:=zMM hm3 e2;exact m2.fits (zMZ e1 hm1) zO zO
end
end Go.Proofs.YtlpdkbmmbdfoiaaGreat
