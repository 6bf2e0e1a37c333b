/- Lemmas. -/
import Derived.Test.YtlpdkbmmbdfoiaaGreatEOv
set_option linter.unusedVariables false
namespace Go.Proofs.YtlpdkbmmbdfoiaaGreat
def fp (z:Nat->Bool):Nat->Nat->Nat
 | 0,r=>r
 | f+1,r=>if z r=true then r else fp z f (r+1)
theorem fp_ge (z:Nat->Bool) (f r:Nat):r<=fp z f r/\fp z f r<=r+f:=by
 induction f generalizing r with
 | zero=>exact⟨Nat.le_refl _,Nat.le_refl _⟩
 | succ f ih=>rw[fp];have:=ih (r+1);split<;>omega
theorem zxv (z:Nat->Bool) (f r:Nat):∀i,r<=i->i<fp z f r->z i=false:=by
 induction f generalizing r with
 | zero=>intro i h1 h2;rw[fp]at h2;omega
 | succ f ih=>
   intro i h1 h2
   rw[fp]at h2
   split at h2
   ·omega
   ·next h=>
    rcases Nat.eq_or_lt_of_le h1 with h3 | h3
    ·subst h3;simpa using h
    ·exact ih (r+1) i h3 h2
theorem fp_at (z:Nat->Bool) (f r:Nat) (h:fp z f r<r+f):z (fp z f r)=true:=by
 induction f generalizing r with
 | zero=>rw[fp]at h;omega
 | succ f ih=>
   rw[fp]at h |-
   split
   ·next h1=>exact h1
   ·next h1=>rw[if_neg h1]at h;exact ih (r+1) (by omega)
theorem fp_eq {z:Nat->Bool} {f r k:Nat} (h1:r<=k) (h2:k<=r+f) (h3:∀i,r<=i->i<k->z i=false) (h4:k<r+f->z k=true):fp z f r=k:=by
 have g1:=fp_ge z f r
 rcases Nat.lt_trichotomy (fp z f r) k with h | h | h
 ·have:=fp_at z f r (by omega)
  rw[h3 _ g1.1 h]at this;cases this
 ·exact h
 ·have:=zxv z f r k h1 h
  rw[h4 (by omega)]at this;cases this
abbrev Mx :=Nat->Nat->Rat
def swp (A:Mx) (a b:Nat):Mx:=fun i=>if i=a then A b else if i=b then A a else A i
structure St where
 A:Mx
 r:Nat
 d:Rat
def act (below:Bool) (A:Mx) (r k i:Nat):Prop:=i≠r/\¬ (below=true/\i<r)/\A i k≠0
instance (below :Bool) (A:Mx) (r k i:Nat):Decidable (act below A r k i):=inferInstanceAs (Decidable (_/\_/\_))
def znj (below:Bool) (A:Mx) (r k:Nat):Mx:=fun i j=>if act below A r k i/\k<=j then A i j-A i k/A r k*A r j else A i j
def pvt (n k:Nat) (S:St):Nat:=fp (fun i=>decide (S.A i k≠0)) (n-S.r) S.r
def zzf (below:Bool) (n k:Nat) (S:St):St:=
 if pvt n k S<n then⟨znj below (swp S.A S.r (pvt n k S)) S.r k,S.r+1,(if pvt n k S=S.r then S.d else -S.d)*swp S.A S.r (pvt n k S) S.r k⟩else S
def elim (below:Bool) (n:Nat) (A:Mx):Nat->St
 | 0=>⟨A,0,1⟩
 | k+1=>zzf below n k (elim below n A k)
theorem zue (below:Bool) (n:Nat) (A:Mx) (k:Nat):(elim below n A k).r<=n/\(elim below n A k).r<=k:=by
 induction k with
 | zero=>exact⟨Nat.zero_le _,Nat.le_refl _⟩
 | succ k ih=>
   rw[elim,zzf]
   have:=fp_ge (fun i=>decide ((elim below n A k).A i k≠0)) (n- (elim below n A k).r) (elim below n A k).r
   split
   ·next h=>unfold pvt at h;show(elim below n A k).r+1<=n/\(elim below n A k).r+1<=k+1;omega
   ·omega
theorem estep_stop {below:Bool} {n k:Nat} {S:St} (h:n<=S.r):zzf below n k S=S:=by
 have:=fp_ge (fun i=>decide (S.A i k≠0)) (n-S.r) S.r
 rw[zzf,if_neg (by unfold pvt;omega)]
theorem elim_stop {below:Bool} {n:Nat} {A:Mx} {k:Nat} (h:(elim below n A k).r=n):∀j,k<=j->elim below n A j=elim below n A k
 | 0,hj=>by obtain rfl:k=0:=by omega
            rfl
 | j+1,hj=>by
   rcases Nat.eq_or_lt_of_le hj with h1 | h1
   ·rw[h1]
   ·have ih:=elim_stop h j (by omega)
    rw[elim,ih,estep_stop (by omega)]
def fitE (below:Bool) (n m k:Nat) (S:St):Prop:=
 pvt n k S<n->fits (-S.d)/\fits ((if pvt n k S=S.r then S.d else -S.d)*swp S.A S.r (pvt n k S) S.r k)/\
  ∀i,i<n->act below (swp S.A S.r (pvt n k S)) S.r k i->fits (swp S.A S.r (pvt n k S) i k/swp S.A S.r (pvt n k S) S.r k)/\
   ∀j,j<m->k<=j->fits (swp S.A S.r (pvt n k S) i k/swp S.A S.r (pvt n k S) S.r k*swp S.A S.r (pvt n k S) S.r j)/\
    fits (swp S.A S.r (pvt n k S) i j-swp S.A S.r (pvt n k S) i k/swp S.A S.r (pvt n k S) S.r k*swp S.A S.r (pvt n k S) S.r j)
theorem over.zero' {D B:Nat} {z:Int} (hD:D≠0) (h:mkRat z D≠0):z≠0:=fun e=>h (by rw[e];simp)
theorem div_mk {y z:Int} {D:Nat} (hD:D≠0) (hz:z≠0):mkRat y D/mkRat z D=mkRat (y*z.sign) z.natAbs:=by
 have hn:z.natAbs≠0:=by omega
 have hq:mkRat z D≠0:=fun e=>hz ((Rat.mkRat_eq_zero hD).1 e)
 have e:mkRat y D=mkRat (y*z.sign) z.natAbs*mkRat z D:=by
  rw[Rat.mkRat_mul_mkRat,Int.mul_assoc,Int.sign_mul_self,Int.mul_comm y]
  exact(Rat.mkRat_mul_left hn).symm
 rw[e,Rat.mul_div_cancel hq]
theorem over.quo {D B:Nat} {p:Rat} {z:Int} (hD:D≠0) (hp:over D B p) (hz:z≠0):over z.natAbs B (p/mkRat z D):=by
 obtain⟨y,rfl,h1⟩:=hp
 refine⟨y*z.sign,div_mk hD hz,?_⟩
 rw[Int.natAbs_mul,Int.natAbs_sign_of_ne_zero hz,Nat.mul_one]
 exact h1
theorem over.sub {D A B:Nat} {p q:Rat} (hD:D≠0) (hp:over D A p) (hq:over D B q):over D (A+B) (p-q):=by
 rw[Rat.sub_eq_add_neg];exact over.add hD hp (over.neg hq)
def overT (n m D B:Nat) (A:Mx):Prop:=∀i j,i<n->j<m->over D B (A i j)
def slim4 (x:Nat×Nat×Nat×Nat):Prop:=x.1<2^4096/\x.2.1<2^4096/\x.2.2.1<2^4096/\x.2.2.2<2^4096
instance (x :Nat×Nat×Nat×Nat):Decidable (slim4 x):=inferInstanceAs (Decidable (_/\_/\_/\_))
theorem zek {A:Mx} {a b:Nat}:swp A a b a=A b:=by unfold swp;rw[if_pos rfl]
theorem zfw {n k:Nat} {S:St} (hn:S.r<=n) (h:pvt n k S<n):S.A (pvt n k S) k≠0:=by
 have:=fp_at (fun i=>decide (S.A i k≠0)) (n-S.r) S.r (by unfold pvt at h;omega)
 unfold pvt
 simpa using this
theorem zvk (n k:Nat) (S:St):S.r<=pvt n k S:=(fp_ge _ _ _).1
def alt (i:Nat):Rat:=if i%2=0 then 1 else -1
theorem alt_succ (i:Nat):alt (i+1)= -alt i:=by
 unfold alt
 by_cases h:i%2=0
 ·rw[if_pos h,if_neg (by omega)]
 ·rw[if_neg h,if_pos (by omega)];decide+kernel
def mnr (A:Mx) (i:Nat):Mx:=fun a b=>A (if a<i then a else a+1) (b+1)
def dt :Nat->Mx->Rat
 | 0,_=>1
 | n+1,A=>sg (n+1) fun i=>alt i*A i 0*dt n (mnr A i)
theorem zcd {n:Nat} {A B:Mx} (h:∀a b,a<n->b<n->A a b=B a b):dt n A=dt n B:=by
 induction n generalizing A B with
 | zero=>rfl
 | succ n ih=>
   refine zma fun i hi=> ?_
   rw[h i 0 hi (by omega),ih (A:=mnr A i) (B:=mnr B i) (fun a b ha hb=>by unfold mnr;exact h _ _ (by split<;>omega) (by omega))]
def zoc (A:Mx) (r:Nat) (x:Nat->Rat):Mx:=fun a=>if a=r then x else A a
theorem zdg (A:Mx) (r:Nat):zoc A r (A r)=A:=by
 funext a;unfold zoc;split
 ·next h=>rw[h]
 ·rfl
theorem zed (A:Mx) (r:Nat) (x:Nat->Rat):zoc A r x r=x:=by unfold zoc;rw[if_pos rfl]
theorem zvc {A:Mx} {r a:Nat} {x:Nat->Rat} (h:a≠r):zoc A r x a=A a:=by unfold zoc;rw[if_neg h]
theorem zkk {A:Mx} {r s:Nat} {x y:Nat->Rat} (h:r≠s):zoc (zoc A r x) s y=zoc (zoc A s y) r x:=by
 funext a;unfold zoc
 by_cases h1:a=s
 ·subst h1;rw[if_pos rfl,if_neg (fun e=>h e.symm),if_pos rfl]
 ·rw[if_neg h1];split
  ·rfl
  ·rfl
theorem zsf (A:Mx) (r:Nat) (x:Nat->Rat):mnr (zoc A r x) r=mnr A r:=by
 funext a b;unfold mnr zoc
 rw[if_neg (by split<;>omega)]
theorem zmn {A:Mx} {r i:Nat} {x:Nat->Rat} (h:i≠r):mnr (zoc A r x) i=zoc (mnr A i) (if r<i then r else r-1) (fun b=>x (b+1)):=by
 funext a b;unfold mnr zoc
 by_cases h1:a=if r<i then r else r-1
 ·rw[if_pos h1,if_pos (by split at h1<;>split<;>omega)]
 ·rw[if_neg h1,if_neg (by split at h1<;>split<;>omega)]
theorem zum {n:Nat} (A:Mx) {r:Nat} (hr:r<n) (x y:Nat->Rat) (c:Rat):dt n (zoc A r fun b=>x b+c*y b)=dt n (zoc A r x)+c*dt n (zoc A r y):=by
 induction n generalizing A r x y with
 | zero=>omega
 | succ n ih=>
   rw[dt,dt,dt,<-zcb,<-zvd]
   refine zma fun i hi=> ?_
   by_cases h:i=r
   ·subst h
    rw[zed,zed,zed,zsf,zsf,zsf]
    grind
   ·rw[zvc h,zvc h,zvc h,zmn h,zmn h,zmn h]
    have h1:(if r<i then r else r-1)<n:=by split<;>omega
    have:=ih (mnr A i) h1 (fun b=>x (b+1)) (fun b=>y (b+1))
    rw[this]
    grind
theorem sg_pair {n r:Nat} {f:Nat->Rat} (hr:r+1<n) (h:∀i,i<n->i≠r->i≠r+1->f i=0):sg n f=f r+f (r+1):=by
 have e:sg n f=sg n (fun i=>(if r=i then f i else 0)+(if r+1=i then f i else 0)):=zma fun i hi=>by
  by_cases h1:r=i
  ·subst h1;rw[if_pos rfl,if_neg (by omega)];grind
  ·by_cases h2:r+1=i
   ·subst h2;rw[if_neg h1,if_pos rfl];grind
   ·rw[if_neg h1,if_neg h2,h i hi (fun e=>h1 e.symm) (fun e=>h2 e.symm)];grind
 rw[e,zvd,zfd (by omega),zfd hr]
theorem dt_adj {n:Nat} {A:Mx} {r:Nat} (hr:r+1<n) (h:A r=A (r+1)):dt n A=0:=by
 induction n generalizing A r with
 | zero=>omega
 | succ n ih=>
   rw[dt,sg_pair hr]
   ·have hm:mnr A r=mnr A (r+1):=by
     funext a b;unfold mnr
     by_cases h1:a<r
     ·rw[if_pos h1,if_pos (by omega)]
     ·by_cases h2:a=r
      ·subst h2;rw[if_neg h1,if_pos (by omega),h]
      ·rw[if_neg h1,if_neg (by omega)]
    rw[alt_succ,<-h,<-hm]
    grind
   ·intro i hi h1 h2
    have hz:dt n (mnr A i)=0:=by
     by_cases h3:i<r
     ·refine ih (r:=r-1) (by omega) ?_
      funext b;unfold mnr
      rw[if_neg (by omega),if_neg (by omega),show r-1+1=r by omega,h]
     ·refine ih (r:=r) (by omega) ?_
      funext b;unfold mnr
      rw[if_pos (by omega),if_pos (by omega),h]
    rw[hz,Rat.mul_zero]
theorem dt_zero {n:Nat} {A:Mx} {r:Nat} (hr:r<n):dt n (zoc A r fun _=>0)=0:=by
 have h:=zum A hr (fun _=>0) (fun _=>0) 1
 have e:(fun b:Nat=>(0:Rat)+1*0)=fun _=>0:=by funext b;grind
 rw[e]at h
 grind
theorem dt_scale {n:Nat} (A:Mx) {r:Nat} (hr:r<n) (x:Nat->Rat) (c:Rat):dt n (zoc A r fun b=>c*x b)=c*dt n (zoc A r x):=by
 have h:=zum A hr (fun _=>0) x c
 have e:(fun b:Nat=>(0:Rat)+c*x b)=fun b=>c*x b:=by funext b;grind
 rw[e,dt_zero hr]at h
 grind
theorem dt_exch {n a b:Nat} (ha:a<n) (hb:b<n) (hab:a≠b) (h0:∀ (A:Mx),A a=A b->dt n A=0) (A:Mx):dt n (swp A a b)= -dt n A:=by
 have D:∀x y,∃z,dt n (zoc (zoc A a x) b y)=z:=fun x y=>⟨_,rfl⟩
 have e1:swp A a b=zoc (zoc A a (A b)) b (A a):=by
  funext i;unfold swp zoc
  by_cases h1:i=a
  ·subst h1;rw[if_pos rfl,if_neg hab,if_pos rfl]
  ·rw[if_neg h1];split
   ·rfl
   ·rfl
 have e2:A=zoc (zoc A a (A a)) b (A b):=by rw[zdg,zdg]
 have key:∀x,dt n (zoc (zoc A a x) b x)=0:=fun x=>h0 _ (by rw[zed,zvc hab,zed])
 have s1:∀x y z,dt n (zoc (zoc A a (fun j=>x j+1*y j)) b z)=dt n (zoc (zoc A a x) b z)+1*dt n (zoc (zoc A a y) b z):=fun x y z=>by
  rw[zkk hab,zkk hab,zkk hab];exact zum _ ha x y 1
 have s2:∀x y z,dt n (zoc (zoc A a z) b (fun j=>x j+1*y j))=dt n (zoc (zoc A a z) b x)+1*dt n (zoc (zoc A a z) b y):=fun x y z=>zum _ hb x y 1
 have h:=key (fun j=>A a j+1*A b j)
 rw[s1,s2,s2,key,key]at h
 rw[e1]
 have e3:dt n A=dt n (zoc (zoc A a (A a)) b (A b)):=congrArg (dt n) e2
 rw[e3]
 grind
theorem dt_same {n:Nat}:∀ (k i:Nat) (A:Mx),i+1+k<n->A i=A (i+1+k)->dt n A=0
 | 0,i,A,hk,h=>dt_adj hk h
 | k+1,i,A,hk,h=>by
   have hs:=dt_exch (n:=n) (a:=i+1+k) (b:=i+1+k+1) (by omega) (by omega) (by omega) (fun B hB=>dt_adj (by omega) hB) A
   have hz:dt n (swp A (i+1+k) (i+1+k+1))=0:=dt_same k i _ (by omega) (by
    unfold swp
    rw[if_neg (by omega),if_neg (by omega),if_pos rfl]
    exact h)
   grind
theorem zej {n:Nat} {A:Mx} {i j:Nat} (hi:i<n) (hj:j<n) (hij:i≠j) (h:A i=A j):dt n A=0:=by
 rcases Nat.lt_or_gt_of_ne hij with h1 | h1
 ·exact dt_same (j-i-1) i A (by omega) (by rw[show i+1+(j-i-1)=j by omega];exact h)
 ·exact dt_same (i-j-1) j A (by omega) (by rw[show j+1+(i-j-1)=i by omega];exact h.symm)
theorem dt_swp {n a b:Nat} (ha:a<n) (hb:b<n) (hab:a≠b) (A:Mx):dt n (swp A a b)= -dt n A:=dt_exch ha hb hab (fun B h=>zej ha hb hab h) A
theorem dt_add {n i r:Nat} (hi:i<n) (hr:r<n) (hir:i≠r) (A:Mx) (c:Rat):dt n (zoc A i fun b=>A i b+c*A r b)=dt n A:=by
 have h:=zum A hi (A i) (A r) c
 have hz:dt n (zoc A i (A r))=0:=zej hi hr hir (by rw[zed,zvc (fun e=>hir e.symm)])
 rw[zdg,hz]at h
 rw[h];grind
theorem dt_sum {n:Nat} (A:Mx) {r:Nat} (hr:r<n) (f:Nat->Nat->Rat) (c:Nat->Rat):∀m,dt n (zoc A r fun b=>sg m fun l=>c l*f l b)=sg m fun l=>c l*dt n (zoc A r (f l))
 | 0=>by
   have e:(fun b=>sg 0 fun l=>c l*f l b)=fun _=>0:=by funext b;rfl
   rw[e,dt_zero hr];rfl
 | m+1=>by
   have e:(fun b=>sg (m+1) fun l=>c l*f l b)=fun b=>(sg m fun l=>c l*f l b)+c m*f m b:=by funext b;rfl
   rw[e,zum A hr,dt_sum A hr f c m];rfl
def pr :Nat->(Nat->Rat)->Rat
 | 0,_=>1
 | n+1,f=>pr n f*f n
theorem pr_congr {n:Nat} {f g:Nat->Rat} (h:∀i,i<n->f i=g i):pr n f=pr n g:=by
 induction n with
 | zero=>rfl
 | succ n ih=>rw[pr,pr,ih (fun i hi=>h i (by omega)),h n (by omega)]
theorem pr_first (n:Nat) (f:Nat->Rat):pr (n+1) f=f 0*pr n fun i=>f (i+1):=by
 induction n with
 | zero=>simp[pr]
 | succ n ih=>rw[pr,ih,pr];grind
theorem zql {n:Nat} {A:Mx} (h:∀i j,i<n->j<n->i≠j->A i j=0):dt n A=pr n fun i=>A i i:=by
 induction n generalizing A with
 | zero=>rfl
 | succ n ih=>
   have e:dt (n+1) A=sg (n+1) fun i=>if 0=i then alt i*A i 0*dt n (mnr A i)else 0:=zma fun i hi=>by
    by_cases h0:0=i
    ·rw[if_pos h0]
    ·rw[if_neg h0,h i 0 hi (by omega) (fun e=>h0 e.symm)];grind
   rw[e,zfd (show 0<n+1 by omega),pr_first,ih (A:=mnr A 0) (fun i j hi hj hij=>by
    unfold mnr;rw[if_neg (by omega)];exact h _ _ (by omega) (by omega) (by omega))]
   have e2:(pr n fun i=>mnr A 0 i i)=pr n fun i=>A (i+1) (i+1):=pr_congr fun i hi=>by unfold mnr;rw[if_neg (by omega)]
   rw[e2]
   have :alt 0=1:=by decide+kernel
   rw[this];grind
def dtB :Nat->Nat->Nat
 | 0,_=>1
 | n+1,m=>(n+1)*(m*dtB n m)
theorem over_alt {D B:Nat} {q:Rat} (i:Nat) (h:over D B q):over D B (alt i*q):=by
 unfold alt;split
 ·rw[Rat.one_mul];exact h
 ·have e:(-1:Rat)*q= -q:=by grind
  rw[e];exact over.neg h
theorem dt_over {n D m:Nat} {A:Mx} (hD:D≠0) (h:∀i j,i<n->j<n->over D m (A i j)):over (D^n) (dtB n m) (dt n A):=by
 induction n generalizing A with
 | zero=>exact⟨1,by simp[dt];decide+kernel,Nat.le_refl _⟩
 | succ n ih=>
   rw[dt,dtB]
   refine over.sg (Nat.ne_of_gt (Nat.pow_pos (Nat.pos_of_ne_zero hD))) fun i hi=> ?_
   have h1:=ih (A:=mnr A i) (fun a b ha hb=>by unfold mnr;exact h _ _ (by split<;>omega) (by omega))
   have h2:=over.mul (over_alt i (h i 0 hi (by omega))) h1
   rw[Nat.pow_succ,Nat.mul_comm (D^n) D]
   exact h2
def zui (A:Mx) (i r k e:Nat) (f:Rat):Mx:=fun a b=>if a=i/\k<=b/\b<e then A i b-f*A r b else A a b
theorem redTo_start (A:Mx) (i r k:Nat) (f:Rat):zui A i r k k f=A:=by
 funext a b;unfold zui;rw[if_neg (by omega)]
theorem redTo_at {A:Mx} {i r k e:Nat} {f:Rat}:zui A i r k e f i e=A i e:=by unfold zui;rw[if_neg (by omega)]
theorem redTo_row {A:Mx} {i r k e b:Nat} {f:Rat} (h:i≠r):zui A i r k e f r b=A r b:=by unfold zui;rw[if_neg (fun h2=>h h2.1.symm)]
def zzg (below:Bool) (A:Mx) (r k e:Nat):Mx:=fun a b=>if a<e then znj below A r k a b else A a b
theorem redP_zero (below:Bool) (A:Mx) (r k:Nat):zzg below A r k 0=A:=by
 funext a b;unfold zzg;rw[if_neg (by omega)]
theorem zpk {below:Bool} {A:Mx} {r k e:Nat}:zzg below A r k e e=A e:=by
 funext b;unfold zzg;rw[if_neg (by omega)]
theorem zpg {below:Bool} {A:Mx} {r k a:Nat} (h:¬act below A r k a):znj below A r k a=A a:=by
 funext b;unfold znj;rw[if_neg (fun h2=>h h2.1)]
theorem zuj {below:Bool} {A:Mx} {r k e:Nat}:zzg below A r k e r=A r:=by
 funext b;unfold zzg;split
 ·rw[zpg (fun h=>h.1 rfl)]
 ·rfl
theorem zsh {below:Bool} {A:Mx} {r k e:Nat} (h:¬act below A r k e):zzg below A r k (e+1)=zzg below A r k e:=by
 funext a b;unfold zzg
 by_cases h1:a=e
 ·subst h1;rw[if_pos (by omega),if_neg (by omega),zpg h]
 ·by_cases h2:a<e
  ·rw[if_pos (by omega),if_pos h2]
  ·rw[if_neg (by omega),if_neg h2]
theorem redP_red {below:Bool} {A:Mx} {r k e m:Nat} (h:act below A r k e):∀a b,b<m->zui (zzg below A r k e) e r k m (A e k/A r k) a b=zzg below A r k (e+1) a b:=by
 intro a b hb
 unfold zui
 rw[zpk,zuj]
 unfold zzg
 by_cases h1:a=e
 ·subst h1
  unfold znj
  by_cases h2:k<=b
  ·rw[if_pos ⟨rfl,h2,hb⟩,if_pos (by omega),if_pos ⟨h,h2⟩]
  ·rw[if_neg (by omega),if_neg (by omega),if_pos (by omega),if_neg (by omega)]
 ·rw[if_neg (by omega)]
  by_cases h2:a<e
  ·rw[if_pos h2,if_pos (show a<e+1 by omega)]
  ·rw[if_neg h2,if_neg (show ¬a<e+1 by omega)]
theorem redP_all {below:Bool} {A:Mx} {r k n:Nat}:∀a b,a<n->zzg below A r k n a b=znj below A r k a b:=by
 intro a b h;unfold zzg;rw[if_pos h]
def slimE (below:Bool) (n m wd:Nat) (A:Mx):Prop:=∀k,k<=wd->(∀a b,a<n->b<m->fits ((elim below n A k).A a b))/\fits (elim below n A k).d/\(k<wd->fitE below n m k (elim below n A k))
theorem fp_congr {y z:Nat->Bool} (f r:Nat) (h:∀i,r<=i->i<r+f->y i=z i):fp y f r=fp z f r:=by
 induction f generalizing r with
 | zero=>rfl
 | succ f ih=>rw[fp,fp,h r (Nat.le_refl _) (by omega),ih (r+1) (fun i h1 h2=>h i (by omega) (by omega))]
theorem ztm {n m:Nat} {A M:Mx} (b c:Bool) (h:∀i j,i<n->j<m->A i j=M i j):∀k,k<=m->
 (elim b n A k).r=(elim c n M k).r/\(elim b n A k).d=(elim c n M k).d/\∀i j,(elim b n A k).r<=i->i<n->j<m->(elim b n A k).A i j=(elim c n M k).A i j
 | 0,_=>⟨rfl,rfl,fun i j _ hi hj=>h i j hi hj⟩
 | k+1,hk=>by
   obtain⟨h1,h2,h3⟩:=ztm b c h k (by omega)
   have hr:=(zue b n A k).1
   rw[elim,elim]
   obtain⟨⟨X,r,d⟩,hX⟩:∃S,elim b n A k=S:=⟨_,rfl⟩
   obtain⟨⟨Y,s,e⟩,hY⟩:∃S,elim c n M k=S:=⟨_,rfl⟩
   rw[hX,hY]at h1 h2 h3
   rw[hX]at hr
   rw[hX,hY]
   dsimp only at h1 h2 h3 hr
   subst h1 h2
   have hp:pvt n k ⟨X,r,d⟩=pvt n k ⟨Y,r,d⟩:=fp_congr _ _ fun i hi1 hi2=>by
    have hi2:i<r+(n-r):=hi2
    have hi1:r<=i:=hi1
    show decide (X i k≠0)=decide (Y i k≠0)
    rw[h3 i k hi1 (by omega) (by omega)]
   unfold zzf
   rw[hp]
   have hge:r<=pvt n k ⟨Y,r,d⟩:=zvk n k ⟨Y,r,d⟩
   by_cases hlt:pvt n k ⟨Y,r,d⟩<n
   ·rw[if_pos hlt,if_pos hlt]
    dsimp only
    generalize pvt n k ⟨Y,r,d⟩=a at *
    have hsw:∀i j,r<=i->i<n->j<m->swp X r a i j=swp Y r a i j:=fun i j hi hin hj=>by
     unfold swp
     split
     ·exact h3 a j hge hlt hj
     ·split
      ·exact h3 r j (Nat.le_refl _) (by omega) hj
      ·exact h3 i j hi hin hj
    refine⟨rfl,?_,fun i j hi hin hj=> ?_⟩
    ·rw[hsw r k (Nat.le_refl _) (by omega) (by omega)]
    ·have hi':r<i:=hi
     unfold znj
     rw[hsw i j (by omega) hin hj,hsw i k (by omega) hin (by omega),hsw r k (Nat.le_refl _) (by omega) (by omega),hsw r j (Nat.le_refl _) (by omega) hj]
     have he:act b (swp X r a) r k i↔act c (swp Y r a) r k i:=by
      unfold act
      rw[hsw i k (by omega) hin (by omega)]
      exact⟨fun⟨p,q,s⟩=>⟨p,fun z=>by omega,s⟩,fun⟨p,q,s⟩=>⟨p,fun z=>by omega,s⟩⟩
     by_cases hact:act c (swp Y r a) r k i/\k<=j
     ·rw[if_pos hact,if_pos ⟨he.2 hact.1,hact.2⟩]
     ·rw[if_neg hact,if_neg (fun hh=>hact ⟨he.1 hh.1,hh.2⟩)]
   ·rw[if_neg hlt,if_neg hlt]
    exact⟨rfl,rfl,h3⟩
theorem hA_self {A:Mx} {a r:Nat} (h:a=r):swp A r a=A:=by
 subst h;funext i;unfold swp;split
 ·next h=>rw[h]
 ·rfl
structure RowC (n:Nat) (P:Mx->Rat->Prop):Prop where
 congr:∀A B s,(∀i,i<n->A i=B i)->P A s->P B s
 swap:∀A s a b,a<n->b<n->a≠b->P A s->P (swp A a b) (-s)
 add:∀A s i r c,i<n->r<n->i≠r->P A s->P (zoc A i fun b=>A i b+c*A r b) s
def sgs (b:Bool) (n:Nat) (A:Mx):Nat->Rat
 | 0=>1
 | k+1=>if pvt n k (elim b n A k)<n then(if pvt n k (elim b n A k)=(elim b n A k).r then sgs b n A k else -sgs b n A k)else sgs b n A k
theorem zyd (b:Bool) (n:Nat) (A:Mx):∀k i j,(elim b n A k).r<=i->i<n->j<k->(elim b n A k).A i j=0
 | 0,i,j,_,_,hj=>by omega
 | k+1,i,j,hi,hin,hj=>by
   have ih:=zyd b n A k
   rw[elim,zzf]at hi |-
   by_cases hlt:pvt n k (elim b n A k)<n
   ·rw[if_pos hlt]at hi |-
    dsimp only at hi |-
    have hge:=zvk n k (elim b n A k)
    have hpn:=zfw (zue b n A k).1 hlt
    generalize pvt n k (elim b n A k)=a at *
    have hs:∀i j,(elim b n A k).r<=i->i<n->j<k->swp (elim b n A k).A (elim b n A k).r a i j=0:=fun i j h1 h2 h3=>by
     unfold swp;split
     ·exact ih a j hge hlt h3
     ·split
      ·exact ih _ j (Nat.le_refl _) (by omega) h3
      ·exact ih i j h1 h2 h3
    unfold znj
    by_cases hjk:j<k
    ·rw[if_neg (by omega)];exact hs i j (by omega) hin hjk
    ·obtain rfl:j=k:=by omega
     by_cases hz:swp (elim b n A j).A (elim b n A j).r a i j=0
     ·rw[if_neg (fun h=>h.1.2.2 hz)];exact hz
     ·have hact:act b (swp (elim b n A j).A (elim b n A j).r a) (elim b n A j).r j i:=⟨by omega,fun z=>by omega,hz⟩
      rw[if_pos ⟨hact,Nat.le_refl _⟩]
      by_cases hp:swp (elim b n A j).A (elim b n A j).r a (elim b n A j).r j=0
      ·exfalso
       rw[zek]at hp
       exact hpn hp
      ·rw[Rat.div_mul_cancel hp];grind
   ·rw[if_neg hlt]at hi |-
    rcases Nat.lt_or_ge j k with h | h
    ·exact ih i j hi hin h
    ·obtain rfl:j=k:=by omega
     have hall:=zxv (fun i=>decide ((elim b n A j).A i j≠0)) (n- (elim b n A j).r) (elim b n A j).r i hi (by unfold pvt at hlt;omega)
     simpa using hall
theorem redP_succ {b:Bool} {A:Mx} {r k e:Nat} (h0:∀j,j<k->A r j=0) (he:e≠r):
 ∃c,zzg b A r k (e+1)=zoc (zzg b A r k e) e (fun j=>zzg b A r k e e j+c*zzg b A r k e r j):=by
 by_cases hact:act b A r k e
 ·refine⟨-(A e k/A r k),?_⟩
  rw[zpk,zuj]
  funext a j
  unfold zzg zoc
  by_cases h1:a=e
  ·subst h1
   rw[if_pos (by omega),if_pos rfl]
   unfold znj
   by_cases h2:k<=j
   ·rw[if_pos ⟨hact,h2⟩];grind
   ·rw[if_neg (fun h=>h2 h.2),h0 j (by omega)];grind
  ·rw[if_neg h1]
   show _=if a<e then znj b A r k a j else A a j
   by_cases h2:a<e
   ·rw[if_pos h2,if_pos (show a<e+1 by omega)]
   ·rw[if_neg h2,if_neg (show ¬a<e+1 by omega)]
 ·refine⟨0,?_⟩
  rw[zsh hact]
  have e1:(fun j=>zzg b A r k e e j+0*zzg b A r k e r j)=zzg b A r k e e:=by funext j;grind
  rw[e1,zdg]
theorem redu_kept {n:Nat} {P:Mx->Rat->Prop} (hP:RowC n P) {b:Bool} {A:Mx} {r k:Nat} {s:Rat} (hr:r<n) (h0:∀j,j<k->A r j=0) (h:P A s):P (znj b A r k) s:=by
 have key:∀e,e<=n->P (zzg b A r k e) s:=by
  intro e
  induction e with
  | zero=>intro _;rw[redP_zero];exact h
  | succ e ih=>
    intro he
    by_cases her:e=r
    ·rw[zsh (fun ha=>ha.1 her)];exact ih (by omega)
    ·obtain⟨c,hc⟩:=redP_succ (b:=b) h0 her
     rw[hc]
     exact hP.add _ s e r c (by omega) hr her (ih (by omega))
 refine hP.congr _ _ s (fun i hi=> ?_) (key n (Nat.le_refl _))
 funext j
 exact redP_all i j hi
theorem zbd {n:Nat} {P:Mx->Rat->Prop} (hP:RowC n P) (b:Bool) {A:Mx} (h:P A 1):∀k,P (elim b n A k).A (sgs b n A k)
 | 0=>h
 | k+1=>by
   have ih:=zbd hP b h k
   have hl:=zyd b n A k
   have hrn:=(zue b n A k).1
   rw[elim,zzf,sgs]
   by_cases hlt:pvt n k (elim b n A k)<n
   ·rw[if_pos hlt,if_pos hlt]
    dsimp only
    have hge:=zvk n k (elim b n A k)
    generalize pvt n k (elim b n A k)=a at *
    have hr:(elim b n A k).r<n:=by omega
    have hsw:P (swp (elim b n A k).A (elim b n A k).r a) (if a=(elim b n A k).r then sgs b n A k else -sgs b n A k):=by
     by_cases ha:a=(elim b n A k).r
     ·rw[if_pos ha,hA_self ha];exact ih
     ·rw[if_neg ha];exact hP.swap _ _ _ _ hr hlt (fun e=>ha e.symm) ih
    refine redu_kept hP hr (fun j hj=> ?_) hsw
    rw[zek]
    exact hl a j hge hlt hj
   ·rw[if_neg hlt,if_neg hlt];exact ih
theorem elim_full {b:Bool} {n:Nat} {M:Mx} (h:(elim b n M n).r=n):∀j,j<=n->(elim b n M (n-j)).r=n-j
 | 0,_=>by rw[Nat.sub_zero];exact h
 | j+1,hj=>by
   have ih:=elim_full h j (by omega)
   have h1:=(zue b n M (n- (j+1))).2
   rw[show n-j=(n- (j+1))+1 by omega,elim,zzf]at ih
   split at ih
   ·have :(elim b n M (n- (j+1))).r+1=n- (j+1)+1:=ih
    omega
   ·have :(elim b n M (n- (j+1))).r=n- (j+1)+1:=ih
    omega
theorem zol {b:Bool} {n:Nat} {M:Mx} (h:(elim b n M n).r=n) {k:Nat} (hk:k<=n):(elim b n M k).r=k:=by
 have:=elim_full h (n-k) (by omega)
 rwa[show n- (n-k)=k by omega]at this
theorem zad {n:Nat} {M:Mx} (h:(elim false n M n).r=n):∀k,k<=n->
 (∀i j,i<n->j<k->i≠j->(elim false n M k).A i j=0)/\(∀j,j<k->(elim false n M k).A j j≠0)/\(elim false n M k).d=sgs false n M k*pr k fun i=>(elim false n M k).A i i
 | 0,_=>⟨fun i j _ hj=>by omega,fun j hj=>by omega,by simp[elim,sgs,pr]⟩
 | k+1,hk=>by
   obtain⟨h1,h2,h3⟩:=zad h k (by omega)
   have hrk:=zol h (k:=k) (by omega)
   have hrk1:=zol h hk
   have hl:=zyd false n M k
   rw[elim,zzf]at hrk1
   rw[elim,zzf,sgs]
   have hlt:pvt n k (elim false n M k)<n:=by
    by_cases h5:pvt n k (elim false n M k)<n
    ·exact h5
    ·rw[if_neg h5,hrk]at hrk1;omega
   rw[if_pos hlt,if_pos hlt]
   dsimp only
   have hge:=zvk n k (elim false n M k)
   have hpn:=zfw (zue false n M k).1 hlt
   generalize pvt n k (elim false n M k)=a at *
   rw[hrk]at hge hl |-
   obtain⟨S,hS⟩:∃S,(elim false n M k).A=S:=⟨_,rfl⟩
   rw[hS]at h1 h2 h3 hl hpn |-
   have hkk:swp S k a k k≠0:=by rw[zek];exact hpn
   have hsl:∀i j,i<n->j<k->i≠j->swp S k a i j=0:=fun i j hi hj hij=>by
    unfold swp;split
    ·exact hl a j hge hlt hj
    ·split
     ·exact hl k j (Nat.le_refl _) (by omega) hj
     ·exact h1 i j hi hj hij
   have hsd:∀j,j<k->swp S k a j j=S j j:=fun j hj=>by
    unfold swp;rw[if_neg (by omega),if_neg (by omega)]
   have hdg:∀j,j<k->znj false (swp S k a) k k j j=S j j:=fun j hj=>by
    unfold znj;rw[if_neg (fun h=>by omega),hsd j hj]
   have hdk:znj false (swp S k a) k k k k=swp S k a k k:=by rw[zpg (fun h=>h.1 rfl)]
   refine⟨fun i j hi hj hij=> ?_,fun j hj=> ?_,?_⟩
   ·unfold znj
    by_cases hjk:j<k
    ·rw[if_neg (fun h=>by omega)];exact hsl i j hi hjk hij
    ·obtain rfl:j=k:=by omega
     by_cases hz:swp S j a i j=0
     ·rw[if_neg (fun h=>h.1.2.2 hz)];exact hz
     ·rw[if_pos ⟨⟨hij,(fun z=>by cases z.1),hz⟩,Nat.le_refl _⟩,Rat.div_mul_cancel hkk];grind
   ·by_cases hjk:j<k
    ·rw[hdg j hjk];exact h2 j hjk
    ·obtain rfl:j=k:=by omega
     rw[hdk];exact hkk
   ·rw[pr,hdk]
    have e:(pr k fun i=>znj false (swp S k a) k k i i)=pr k fun i=>S i i:=pr_congr fun i hi=>hdg i hi
    rw[e,h3]
    split
    ·exact Rat.mul_assoc _ _ _
    ·grind
theorem detC (n:Nat) (A:Mx):RowC n fun B s=>dt n A=s*dt n B where
 congr:=fun X Y s h hX=>by rw[hX,zcd (fun a b ha _=>by rw[h a ha])]
 swap:=fun X s a b ha hb hab hX=>by rw[hX,dt_swp ha hb hab];grind
 add:=fun X s i r c hi hr hir hX=>by rw[hX,dt_add hi hr hir]
theorem sgs_sq (b:Bool) (n:Nat) (M:Mx):∀k,sgs b n M k*sgs b n M k=1
 | 0=>by simp[sgs]
 | k+1=>by
   have:=sgs_sq b n M k
   rw[sgs]
   split
   ·split
    ·exact this
    ·grind
   ·exact this
theorem zme {n:Nat} {A:Mx} {r:Nat} (hr:r<n) (h:∀j,j<n->A r j=0):dt n A=0:=by
 rw[<-dt_zero (A:=A) hr]
 refine zcd fun a b ha hb=> ?_
 unfold zoc;split
 ·next e=>subst e;exact h b hb
 ·rfl
theorem pr_ne {n:Nat} {f:Nat->Rat} (h:∀i,i<n->f i≠0):pr n f≠0:=by
 induction n with
 | zero=>exact(by decide+kernel:(1:Rat)≠0)
 | succ n ih=>rw[pr];exact fun e=>by rcases Rat.mul_eq_zero.1 e with e | e;exact ih (fun i hi=>h i (by omega)) e;exact h n (by omega) e
theorem elim_dt {n:Nat} {M:Mx}:((elim false n M n).r=n->dt n M=(elim false n M n).d/\dt n M≠0)/\((elim false n M n).r<n->dt n M=0):=by
 have hk:=zbd (detC n M) false (A:=M) (by rw[Rat.one_mul]) n
 refine⟨fun h=> ?_,fun h=> ?_⟩
 ·obtain⟨h1,h2,h3⟩:=zad h n (Nat.le_refl _)
  rw[zql (fun i j hi hj hij=>h1 i j hi hj hij)]at hk
  refine⟨by rw[hk,h3],?_⟩
  rw[hk]
  intro e
  rcases Rat.mul_eq_zero.1 e with e | e
  ·have:=sgs_sq false n M n;rw[e]at this;simp at this
  ·exact pr_ne h2 e
 ·have hz:=zme (n:=n) (A:=(elim false n M n).A) (r:=n-1) (by omega) (fun j hj=>zyd false n M n (n-1) j (by omega) (by omega) hj)
  rw[hk,hz];grind
def zpa (m:Nat) (A B:Mx):Mx:=fun i j=>if j<m then A i j else B i (j-m)
theorem zae {m:Nat} {A B:Mx} {i j:Nat} (h:j<m):zpa m A B i j=A i j:=by unfold zpa;rw[if_pos h]
theorem zfe {m:Nat} {A B:Mx} {i j:Nat}:zpa m A B i (m+j)=B i j:=by unfold zpa;rw[if_neg (by omega),show m+j-m=j by omega]
theorem dt_beside {n:Nat} (A B:Mx):dt n (zpa n A B)=dt n A:=zcd fun a b _ hb=>zae hb
theorem zff {n:Nat} {A B:Mx} (h:dt n A≠0):(elim false n (zpa n A B) n).r=n:=by
 have h1:=(elim_dt (M:=zpa n A B) (n:=n)).2
 rw[dt_beside]at h1
 rcases Nat.lt_or_ge (elim false n (zpa n A B) n).r n with h2 | h2
 ·exact absurd (h1 h2) h
 ·have:=(zue false n (zpa n A B) n).1;omega
theorem rank_less {n:Nat} {A B:Mx} (h:dt n A=0):(elim false n (zpa n A B) n).r<n:=by
 have h1:=(elim_dt (M:=zpa n A B) (n:=n)).1
 rw[dt_beside]at h1
 have:=(zue false n (zpa n A B) n).1
 rcases Nat.lt_or_ge (elim false n (zpa n A B) n).r n with h2 | h2
 ·exact h2
 ·exact absurd h (h1 (by omega)).2
theorem zbn (n c:Nat) (f:Nat->Rat):sg (n+c) f=sg n f+sg c fun j=>f (n+j):=by
 induction c with
 | zero=>rw[Nat.add_zero];simp[sg];grind
 | succ c ih=>rw[<-Nat.add_assoc,sg,ih,sg];grind
theorem kerC (n m:Nat) (M:Mx) (y:Nat->Rat):RowC n fun X _=>(∀i,i<n->sg m (fun j=>X i j*y j)=0)->∀i,i<n->sg m (fun j=>M i j*y j)=0 where
 congr:=fun X Y s h hX hY=>hX fun i hi=>by rw[h i hi];exact hY i hi
 swap:=fun X s a b ha hb hab hX hY=>hX fun i hi=>by
  by_cases h1:i=a
  ·subst h1
   have:=hY b hb
   unfold swp at this
   rw[if_neg (fun e=>hab e.symm),if_pos rfl]at this
   exact this
  ·by_cases h2:i=b
   ·subst h2
    have:=hY a ha
    unfold swp at this
    rw[if_pos rfl]at this
    exact this
   ·have:=hY i hi
    unfold swp at this
    rw[if_neg h1,if_neg h2]at this
    exact this
 add:=fun X s i r c hi hr hir hX hY=>hX fun k hk=>by
  have hrr:=hY r hr
  rw[zvc (fun e=>hir e.symm)]at hrr
  by_cases h1:k=i
  ·subst h1
   have h2:=hY k hk
   rw[zed]at h2
   have e:sg m (fun j=>(X k j+c*X r j)*y j)=sg m (fun j=>X k j*y j)+c*sg m (fun j=>X r j*y j):=by
    rw[<-zcb,<-zvd]
    exact zma fun j _=>by grind
   rw[e,hrr]at h2
   grind
  ·have h2:=hY k hk
   rw[zvc h1]at h2
   exact h2
theorem znl {n c:Nat} {A B:Mx} (h:(elim false n (zpa n A B) n).r=n) {q:Nat} (hq:q<c):∀i,i<n->
 sg n (fun j=>A i j*((elim false n (zpa n A B) n).A j (n+q)/(elim false n (zpa n A B) n).A j j))=B i q:=by
 obtain⟨h1,h2,_⟩:=zad h n (Nat.le_refl _)
 obtain⟨T,hT⟩:∃T,(elim false n (zpa n A B) n).A=T:=⟨_,rfl⟩
 let y:Nat->Rat:=fun j=>if j<n then T j (n+q)/T j j else if j=n+q then -1 else 0
 have hk:=zbd (kerC n (n+c) (zpa n A B) y) false (A:=zpa n A B) (fun h=>h) n
 rw[hT]at hk h1 h2 |-
 have hy:∀Z:Mx,∀i,sg (n+c) (fun j=>Z i j*y j)=sg n (fun j=>Z i j*(T j (n+q)/T j j))-Z i (n+q):=fun Z i=>by
  rw[zbn]
  have e1:sg n (fun j=>Z i j*y j)=sg n (fun j=>Z i j*(T j (n+q)/T j j)):=zma fun j hj=>by
   show Z i j*(if j<n then _ else _)=_;rw[if_pos hj]
  have e2:sg c (fun j=>Z i (n+j)*y (n+j))=sg c (fun j=>if q=j then Z i (n+j)*(-1)else 0):=zma fun j hj=>by
   show Z i (n+j)*(if n+j<n then _ else if n+j=n+q then -1 else 0)=_
   rw[if_neg (by omega)]
   by_cases h5:q=j
   ·subst h5;rw[if_pos rfl,if_pos rfl]
   ·rw[if_neg (by omega),if_neg h5];grind
  rw[e1,e2,zfd hq]
  grind
 have hz:=hk fun i hi=>by
  rw[hy]
  have e:sg n (fun j=>T i j*(T j (n+q)/T j j))=sg n (fun j=>if i=j then T j (n+q)else 0):=zma fun j hj=>by
   by_cases h5:i=j
   ·subst h5;rw[if_pos rfl,Rat.mul_comm,Rat.div_mul_cancel (h2 i hi)]
   ·rw[if_neg h5,h1 i j hi hj h5];grind
  rw[e,zfd hi];grind
 intro i hi
 have:=hz i hi
 rw[hy,zfe]at this
 have e:sg n (fun j=>zpa n A B i j*(T j (n+q)/T j j))=sg n (fun j=>A i j*(T j (n+q)/T j j)):=zma fun j hj=>by rw[zae hj]
 rw[e]at this
 grind
def zkf :Mx:=fun i j=>if i=j then 1 else 0
theorem invC (n:Nat) (A:Mx):RowC n fun X _=>∀i j,i<n->j<n->sg n (fun l=>X i (n+l)*A l j)=X i j where
 congr:=fun X Y s h hX i j hi hj=>by rw[<-h i hi];exact hX i j hi hj
 swap:=fun X s a b ha hb hab hX i j hi hj=>by
  unfold swp
  split
  ·exact hX b j hb hj
  ·split
   ·exact hX a j ha hj
   ·exact hX i j hi hj
 add:=fun X s i r c hi hr hir hX k j hk hj=>by
  by_cases h1:k=i
  ·subst h1
   rw[zed]
   have e:sg n (fun l=>(X k (n+l)+c*X r (n+l))*A l j)=sg n (fun l=>X k (n+l)*A l j)+c*sg n (fun l=>X r (n+l)*A l j):=by
    rw[<-zcb,<-zvd]
    exact zma fun l _=>by grind
   rw[e,hX k j hk hj,hX r j hr hj]
  ·rw[zvc h1];exact hX k j hk hj
def zoj (n:Nat) (A:Mx):Mx:=fun i j=>(elim false n (zpa n A zkf) n).A i (n+j)/(elim false n (zpa n A zkf) n).A i i
theorem inv_left {n:Nat} {A:Mx} (h:dt n A≠0) {i j:Nat} (hi:i<n) (hj:j<n):sg n (fun l=>zoj n A i l*A l j)=zkf i j:=by
 have hr:=zff (B:=zkf) h
 obtain⟨h1,h2,_⟩:=zad hr n (Nat.le_refl _)
 have hk:=zbd (invC n A) false (A:=zpa n A zkf) (fun i j hi hj=>by
  rw[zae hj]
  have e:sg n (fun l=>zpa n A zkf i (n+l)*A l j)=sg n (fun l=>if i=l then A l j else 0):=zma fun l hl=>by
   rw[zfe];unfold zkf
   by_cases h5:i=l
   ·rw[if_pos h5,if_pos h5];grind
   ·rw[if_neg h5,if_neg h5];grind
  rw[e,zfd hi]) n i j hi hj
 unfold zoj
 obtain⟨T,hT⟩:∃T,(elim false n (zpa n A zkf) n).A=T:=⟨_,rfl⟩
 rw[hT]at h1 h2 hk |-
 have e:sg n (fun l=>T i (n+l)/T i i*A l j)=(1/T i i)*sg n (fun l=>T i (n+l)*A l j):=by
  rw[<-zcb]
  exact zma fun l _=>by rw[Rat.div_def,Rat.div_def];grind
 rw[e,hk]
 unfold zkf
 by_cases h5:i=j
 ·subst h5;rw[if_pos rfl,Rat.div_mul_cancel (h2 i hi)]
 ·rw[if_neg h5,h1 i j hi hj h5];grind
theorem inv_right {n:Nat} {A:Mx} (h:dt n A≠0) {i j:Nat} (hi:i<n) (hj:j<n):sg n (fun l=>A i l*zoj n A l j)=zkf i j:=
 znl (zff (B:=zkf) h) hj i hi
theorem zqi {n:Nat} {A:Mx} (h:dt n A≠0) {x b:Nat->Rat} (hx:∀i,i<n->sg n (fun j=>A i j*x j)=b i) {i:Nat} (hi:i<n):x i=sg n (fun l=>zoj n A i l*b l):=by
 have e1:sg n (fun l=>zoj n A i l*b l)=sg n (fun l=>sg n (fun j=>zoj n A i l*(A l j*x j))):=zma fun l hl=>by rw[<-hx l hl,zcb]
 rw[e1,zdn]
 have e2:sg n (fun j=>sg n (fun l=>zoj n A i l*(A l j*x j)))=sg n (fun j=>if i=j then x j else 0):=zma fun j hj=>by
  have e3:sg n (fun l=>zoj n A i l*(A l j*x j))=sg n (fun l=>zoj n A i l*A l j)*x j:=by
   rw[<-znc];exact zma fun l _=>by grind
  rw[e3,inv_left h hi hj];unfold zkf
  by_cases h5:i=j
  ·rw[if_pos h5,if_pos h5];grind
  ·rw[if_neg h5,if_neg h5];grind
 rw[e2,zfd hi]
theorem inv_cramer {n:Nat} {A:Mx} (h:dt n A≠0) {i j:Nat} (hi:i<n) (hj:j<n):zoj n A i j=dt n (zoc A j (zkf i))/dt n A:=by
 have e:dt n (zoc A j (zkf i))=dt n (zoc A j fun b=>sg n fun l=>zoj n A i l*A l b):=zcd fun a b ha hb=>by
  unfold zoc;split
  ·exact(inv_left h hi hb).symm
  ·rfl
 have e2:sg n (fun l=>zoj n A i l*dt n (zoc A j (A l)))=sg n (fun l=>if j=l then zoj n A i l*dt n A else 0):=zma fun l hl=>by
  by_cases h5:j=l
  ·subst h5;rw[if_pos rfl,zdg]
  ·rw[if_neg h5,zej hj hl h5 (by rw[zed,zvc (fun e=>h5 e.symm)])];grind
 rw[e,dt_sum A hj,e2,zfd hj,Rat.mul_div_cancel h]
def ztd (m:Nat) (A B:Mx):Mx:=fun i k=>sg m fun j=>A i j*B j k
theorem mul_assoc (m o:Nat) (A B C:Mx) (i k:Nat):ztd o (ztd m A B) C i k=ztd m A (ztd o B C) i k:=by
 unfold ztd
 have e1:sg o (fun j=>sg m (fun l=>A i l*B l j)*C j k)=sg o (fun j=>sg m (fun l=>A i l*(B l j*C j k))):=zma fun j _=>by
  rw[<-znc]
  exact zma fun l _=>by grind
 rw[e1,zdn]
 exact zma fun l _=>zcb _ _ _
theorem dt_rows {n:Nat} (c:Nat->Rat) (B:Mx):∀k,k<=n->dt n (fun i b=>if i<k then c i*B i b else B i b)=pr k c*dt n B
 | 0,_=>by
   have e:(fun(i:Nat) (b:Nat)=>if i<0 then c i*B i b else B i b)=B:=by
    funext i b;rw[if_neg (by omega)]
   rw[e,pr,Rat.one_mul]
 | k+1,hk=>by
   have ih:=dt_rows (n:=n) c B k (by omega)
   have e:(fun(i:Nat) (b:Nat)=>if i<k+1 then c i*B i b else B i b)=zoc (fun i b=>if i<k then c i*B i b else B i b) k (fun b=>c k*B k b):=by
    funext i b;unfold zoc
    by_cases h1:i=k
    ·subst h1;rw[if_pos (by omega),if_pos rfl]
    ·rw[if_neg h1]
     by_cases h2:i<k
     ·rw[if_pos (by omega)];show _=if i<k then _ else _
      rw[if_pos h2]
     ·rw[if_neg (by omega)];show _=if i<k then _ else _
      rw[if_neg h2]
   have e2:zoc (fun i b=>if i<k then c i*B i b else B i b) k (B k)=fun i b=>if i<k then c i*B i b else B i b:=by
    funext i b;unfold zoc
    by_cases h1:i=k
    ·subst h1;rw[if_pos rfl,if_neg (by omega)]
    ·rw[if_neg h1]
   rw[e,dt_scale _ (show k<n by omega),e2,ih,pr]
   grind
theorem zrf {m:Nat} {X B:Mx} {Y:Mx} {i i':Nat} (h:X i=Y i'):ztd m X B i=ztd m Y B i':=by
 funext k;unfold ztd;rw[h]
theorem mulC (n:Nat) (A B:Mx):RowC n fun X s=>dt n (ztd n A B)=s*dt n (ztd n X B) where
 congr:=fun X Y s h hX=>by
  rw[hX,zcd (fun a b ha _=>by rw[zrf (B:=B) (h a ha)])]
 swap:=fun X s a b ha hb hab hX=>by
  have e:ztd n (swp X a b) B=swp (ztd n X B) a b:=by
   funext i;unfold swp
   by_cases h1:i=a
   ·subst h1;rw[if_pos rfl];exact zrf (by rw[if_pos rfl])
   ·rw[if_neg h1]
    by_cases h2:i=b
    ·subst h2;rw[if_pos rfl];exact zrf (by rw[if_neg h1,if_pos rfl])
    ·rw[if_neg h2];exact zrf (by rw[if_neg h1,if_neg h2])
  rw[hX,e,dt_swp ha hb hab];grind
 add:=fun X s i r c hi hr hir hX=>by
  have e:ztd n (zoc X i fun b=>X i b+c*X r b) B=zoc (ztd n X B) i fun b=>ztd n X B i b+c*ztd n X B r b:=by
   funext k b
   by_cases h1:k=i
   ·subst h1
    rw[zed]
    unfold ztd
    rw[zed,<-zcb,<-zvd]
    exact zma fun j _=>by grind
   ·rw[zvc h1]
    exact congrFun (zrf (zvc h1)) b
  rw[hX,e,dt_add hi hr hir]
theorem dt_mul (n:Nat) (A B:Mx):dt n (ztd n A B)=dt n A*dt n B:=by
 have h1:=zbd (mulC n A B) false (A:=A) (by rw[Rat.one_mul]) n
 have h2:=zbd (detC n A) false (A:=A) (by rw[Rat.one_mul]) n
 rw[h1,h2]
 by_cases hr:(elim false n A n).r=n
 ·obtain⟨h3,h4,h5⟩:=zad hr n (Nat.le_refl _)
  rw[zql (fun i j hi hj hij=>h3 i j hi hj hij)]
  have e:dt n (ztd n (elim false n A n).A B)=dt n (fun i b=>if i<n then(elim false n A n).A i i*B i b else B i b):=zcd fun i b hi hb=>by
   rw[if_pos hi]
   unfold ztd
   have e2:sg n (fun j=>(elim false n A n).A i j*B j b)=sg n (fun j=>if i=j then(elim false n A n).A i j*B j b else 0):=zma fun j hj=>by
    by_cases h6:i=j
    ·rw[if_pos h6]
    ·rw[if_neg h6,h3 i j hi hj h6];grind
   rw[e2,zfd hi]
  rw[e,dt_rows (fun i=>(elim false n A n).A i i) B n (Nat.le_refl _)]
  grind
 ·have hr2:(elim false n A n).r<n:=by have:=(zue false n A n).1;omega
  have hz0:∀j,j<n->(elim false n A n).A (n-1) j=0:=fun j hj=>zyd false n A n (n-1) j (by omega) (by omega) hj
  rw[zme (A:=(elim false n A n).A) (r:=n-1) (by omega) hz0]
  rw[zme (A:=ztd n (elim false n A n).A B) (r:=n-1) (by omega) (fun j hj=>by
   unfold ztd
   exact(zma fun l hl=>by rw[hz0 l hl];grind).trans (zsi n))]
  grind
end Go.Proofs.YtlpdkbmmbdfoiaaGreat
