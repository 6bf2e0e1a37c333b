/-
  package linear: begin.
-/
import Derived.Test.YtlpdkbmmbdfoiaaGMu1
import Derived.Test.YtlpdkbmmbdfoiaaGEl2
import Derived.Test.YtlpdkbmmbdfoiaaGLi6
set_option linter.unusedVariables false
set_option linter.unusedSimpArgs false
namespace Go.Proofs.Ytlpdkbmmbdfoiaa
theorem dtB_pos {B:Nat} (hB:0<B):∀n,0<dtB n B
 | 0=>Nat.one_pos
 | n+1=>Nat.mul_pos (Nat.succ_pos n) (Nat.mul_pos hB (dtB_pos hB n))
theorem zun {B k n:Nat} (hB:0<B) (h:k≤n):dtB k B≤dtB n B:=by
 induction n with
 | zero=>obtain rfl:k=0:=by omega
         exact Nat.le_refl _
 | succ n ih=>
   by_cases hk:k=n+1
   ·subst hk;exact Nat.le_refl _
   ·refine Nat.le_trans (ih (by omega)) ?_
    rw[dtB]
    have h1:dtB n B≤B*dtB n B:=Nat.le_mul_of_pos_left _ hB
    exact Nat.le_trans h1 (Nat.le_mul_of_pos_left _ (Nat.succ_pos n))
theorem over.div2 {F G N K:Nat} {p q:Rat} (hF:F≠0) (hG:G≠0) (hp:over F N p) (hq:over G K q) (h0:q≠0):∃H,H≠0∧H≤F*K∧over H (N*G) (p/q):=by
 obtain⟨z,rfl,hz⟩:=hq
 have hz0:z≠0:=over.zero' (B:=K) hG h0
 have h1:=over.quo hG (over.one hG) hz0
 have h2:=over.mul hp h1
 refine⟨F*z.natAbs,Nat.mul_ne_zero hF (by omega),Nat.mul_le_mul_left _ hz,?_⟩
 have e:p/mkRat z G=p*(1/mkRat z G):=by rw[Rat.div_def,Rat.div_def,Rat.one_mul]
 rw[e];exact h2
theorem over.sub2 {F G N K:Nat} {p q:Rat} (hF:F≠0) (hG:G≠0) (hp:over F N p) (hq:over G K q):over (F*G) (N*G+K*F) (p-q):=by
 have h1:=over.scale hG hp
 have h2:=over.scale hF hq
 rw[Nat.mul_comm G F]at h2
 exact over.sub (Nat.mul_ne_zero hF hG) h1 h2
theorem inv_gen {n D B:Nat} {A:Mx} (hD:D≠0) (hDB:D≤B) (hA:∀i j,i<n→j<n→over D B (A i j)) (h:dt n A≠0):∃E,E≠0∧E≤dtB n B∧∀i j,i<n→j<n→over E (dtB n B) (zoj n A i j):=by
 obtain⟨z,hz,hzb⟩:=dt_over (n:=n) (D:=D) (m:=B) hD hA
 have hDn:D^n≠0:=Nat.ne_of_gt (Nat.pow_pos (Nat.pos_of_ne_zero hD))
 have hz0:z≠0:=over.zero' (B:=0) hDn (hz▸h)
 refine⟨z.natAbs,by omega,hzb,fun i j hi hj=> ?_⟩
 rw[inv_cramer h hi hj,hz]
 refine over.quo hDn (dt_over hD fun a b ha hb=> ?_) hz0
 unfold zoc;split
 ·unfold zkf;split
  ·exact(over.one hD).mono hDB
  ·exact over.zero _ _
 ·exact hA a b ha hb
theorem sol_gen {n D B:Nat} {A:Mx} (hD:D≠0) (hDB:D≤B) (hA:∀i j,i<n→j<n→over D B (A i j)) (h:dt n A≠0) {F K:Nat} (hF:F≠0) {x b:Nat→Rat} (hb:∀i,i<n→over F K (b i)) (hx:∀i,i<n→sg n (fun j=>A i j*x j)=b i):
 ∃E,E≠0∧E≤dtB n B∧∀i,i<n→over (E*F) (n*(dtB n B*K)) (x i):=by
 obtain⟨E,hE,hEb,hI⟩:=inv_gen hD hDB hA h
 refine⟨E,hE,hEb,fun i hi=> ?_⟩
 rw[zqi h hx hi]
 exact over.sg (Nat.mul_ne_zero hE hF) fun l hl=>over.mul (hI i l hi hl) (hb l hl)
theorem zbk {k:Nat} {P:Mx} (h:dt k P≠0) {c y:Nat→Rat} (hy:∀j,j<k→y j=sg k fun l=>c l*P l j) {l:Nat} (hl:l<k):c l=sg k fun j=>y j*zoj k P j l:=by
 have e1:sg k (fun j=>y j*zoj k P j l)=sg k (fun j=>sg k (fun t=>c t*(P t j*zoj k P j l))):=zma fun j hj=>by
  rw[hy j hj,←znc]
  exact zma fun t _=>Rat.mul_assoc _ _ _
 rw[e1,zdn]
 have e2:sg k (fun t=>sg k (fun j=>c t*(P t j*zoj k P j l)))=sg k (fun t=>if l=t then c t else 0):=zma fun t ht=>by
  rw[zcb,inv_right h ht hl]
  unfold zkf
  by_cases h5:t=l
  ·subst h5;rw[if_pos rfl,if_pos rfl,Rat.mul_one]
  ·rw[if_neg h5,if_neg (fun e=>h5 e.symm),Rat.mul_zero]
 rw[e2,zfd hl]
def bW (n D B β:Nat):Nat:=B*(β*D)+n*(n*(B*β)*B)
def bN (n D B β:Nat):Nat:=bW n D B β+n*(bW n D B β*β*B)
def bD (D β:Nat):Nat:=D*β*D*(β*D)
def zbm (n m k D β W:Nat) (M X:Mx):Prop:=
 (∃σ:Nat→Nat,(∀i,i<n→σ i<n)∧(∀i,k≤i→i<n→∃c:Nat→Rat,∀j,j<m→X i j=M (σ i) j-sg k fun l=>c l*M (σ l) j)∧∀i,i<k→∃c:Nat→Rat,∀j,j<m→X i j=sg k fun l=>c l*M (σ l) j)∧
  ∀i,i<k→∃G,G≠0∧G≤D*β*D∧over G W (X i i)
theorem zbm.start (n m D β W:Nat) (M:Mx):zbm n m 0 D β W M M:=
 ⟨⟨id,fun i h=>h,fun i _ _=>⟨fun _=>0,fun j _=>by simp[sg];grind⟩,fun i h=>by omega⟩,fun i h=>by omega⟩
section
variable {n m k D B β:Nat} {M X:Mx}
theorem zbm.sizes (hD:D≠0) (hDB:D≤B) (hk:k≤n) (hnm:n≤m) (hβ:dtB k B≤β) (hM:overT n m D B M) (h:zbm n m k D β (bW n D B β) M X)
 (h0:∀i j,i<n→j<k→i≠j→X i j=0) (hp:∀j,j<k→X j j≠0):
 (∀i j,k≤i→i<n→j<m→∃G,G≠0∧G≤D*β*D∧over G (bW n D B β) (X i j))∧∀i j,i<k→j<m→∃G,G≠0∧G≤bD D β∧over G (n*(bW n D B β*β*B)) (X i j):=by
 obtain⟨⟨σ,hσ,h1,h2⟩,h3⟩:=h
 obtain⟨P,hP⟩:∃P:Mx,P=fun i l=>M (σ i) l:=⟨_,rfl⟩
 have hPM:∀i l,P i l=M (σ i) l:=fun i l=>by rw[hP]
 obtain⟨C,hC⟩:=Classical.axiomOfChoice (r:=fun(i:Nat) (c:Nat→Rat)=>i<k→∀j,j<m→X i j=sg k fun l=>c l*M (σ l) j) (fun i=>by
  by_cases hi:i<k
  ·obtain⟨c,hc⟩:=h2 i hi;exact⟨c,fun _=>hc⟩
  ·exact⟨fun _=>0,fun h=>absurd h hi⟩)
 have hdP:dt k P≠0:=by
  have e1:dt k (ztd k C P)=dt k X:=zcd fun a b ha hb=>by
   rw[hC a ha b (by omega)]
   unfold ztd
   exact zma fun l _=>by rw[hPM]
  rw[dt_mul]at e1
  intro hz
  rw[hz,Rat.mul_zero]at e1
  rw[zql (fun i j hi hj hij=>h0 i j (by omega) hj hij)]at e1
  exact pr_ne hp e1.symm
 obtain⟨E,hE,hEb,hI⟩:=inv_gen hD hDB (fun i j hi hj=>by rw[hPM];exact hM _ _ (hσ i (by omega)) (by omega)) hdP
 have hEβ:E≤β:=Nat.le_trans hEb hβ
 have hI':∀i j,i<k→j<k→over E β (zoj k P i j):=fun i j hi hj=>(hI i j hi hj).mono hβ
 have hDED:D*E*D≠0:=Nat.mul_ne_zero (Nat.mul_ne_zero hD hE) hD
 refine⟨fun i j hki hi hj=> ?_,fun i j hi hj=> ?_⟩
 ·obtain⟨c,hc⟩:=h1 i hki hi
  have hy:∀j,j<k→M (σ i) j=sg k fun l=>c l*P l j:=fun j hj=>by
   have:=hc j (by omega)
   rw[h0 i j hi hj (by omega)]at this
   have e:(sg k fun l=>c l*P l j)=sg k fun l=>c l*M (σ l) j:=zma fun l _=>by rw[hPM]
   rw[e];grind
  have hcl:∀l,l<k→over (D*E) (k*(B*β)) (c l):=fun l hl=>by
   rw[zbk hdP hy hl]
   exact over.sg (Nat.mul_ne_zero hD hE) fun j hj=>over.mul (hM _ _ (hσ i hi) (by omega)) (hI' j l hj hl)
  refine⟨D*E*D,hDED,Nat.mul_le_mul_right _ (Nat.mul_le_mul_left _ hEβ),?_⟩
  rw[hc j hj]
  have hs:over (D*E*D) (k*(k*(B*β)*B)) (sg k fun l=>c l*M (σ l) j):=over.sg hDED fun l hl=>over.mul (hcl l hl) (hM _ _ (hσ l (by omega)) hj)
  have hm:over (D*E*D) (B*(E*D)) (M (σ i) j):=by
   have:=over.scale (m:=E*D) (Nat.mul_ne_zero hE hD) (hM _ _ (hσ i hi) hj)
   rwa[←Nat.mul_assoc]at this
  refine(over.sub hDED hm hs).mono ?_
  unfold bW
  refine Nat.add_le_add (Nat.mul_le_mul_left _ (Nat.mul_le_mul_right _ hEβ)) (Nat.mul_le_mul hk (Nat.mul_le_mul_right _ (Nat.mul_le_mul_right _ hk)))
 ·obtain⟨G,hG,hGb,hd⟩:=h3 i hi
  have hy:∀j,j<k→X i j=sg k fun l=>C i l*P l j:=fun j hj=>by
   rw[hC i hi j (by omega)]
   exact zma fun l _=>by rw[hPM]
  have hcl:∀l,l<k→over (G*E) (bW n D B β*β) (C i l):=fun l hl=>by
   rw[zbk hdP hy hl]
   have e:(sg k fun j=>X i j*zoj k P j l)=sg k fun j=>if i=j then X i i*zoj k P i l else 0:=zma fun j hj=>by
    by_cases h5:i=j
    ·subst h5;rw[if_pos rfl]
    ·rw[if_neg h5,h0 i j (by omega) hj h5,Rat.zero_mul]
   rw[e,zfd (f:=fun _=>X i i*zoj k P i l) hi]
   exact over.mul hd (hI' i l hi hl)
  have hGE:G*E*D≠0:=Nat.mul_ne_zero (Nat.mul_ne_zero hG hE) hD
  refine⟨G*E*D,hGE,?_,?_⟩
  ·unfold bD
   rw[Nat.mul_assoc]
   exact Nat.mul_le_mul hGb (Nat.mul_le_mul_right _ hEβ)
  ·rw[hC i hi j hj]
   refine(over.sg hGE fun l hl=>over.mul (hcl l hl) (hM _ _ (hσ l (by omega)) hj)).mono ?_
   exact Nat.mul_le_mul_right _ hk
theorem zbm.step (hk:k<n) (hnm:n≤m) {W a:Nat} (ha:k≤a) (han:a<n) (h:zbm n m k D β W M X) (hz:∀i j,k≤i→i<n→j<k→X i j=0)
 (hpiv:∃G,G≠0∧G≤D*β*D∧over G W (X a k)):zbm n m (k+1) D β W M (znj false (swp X k a) k k):=by
 obtain⟨⟨σ,hσ,h1,h2⟩,h3⟩:=h
 obtain⟨τ,hτ⟩:∃τ:Nat→Nat,τ=fun i=>if i=k then σ a else if i=a then σ k else σ i:=⟨_,rfl⟩
 have t0:∀l,l<k→τ l=σ l:=fun l hl=>by rw[hτ];simp only;rw[if_neg (by omega),if_neg (by omega)]
 have tk:τ k=σ a:=by rw[hτ];dsimp only;rw[if_pos rfl]
 have tn:∀i,i<n→τ i<n:=fun i hi=>by
  rw[hτ];simp only;split
  ·exact hσ a han
  ·split
   ·exact hσ k hk
   ·exact hσ i hi
 have zr:∀i,k≤i→i<n→∃c:Nat→Rat,∀j,j<m→swp X k a i j=M (τ i) j-sg k fun l=>c l*M (τ l) j:=fun i hki hi=>by
  have cg:∀ (c:Nat→Rat) (j:Nat),(sg k fun l=>c l*M (σ l) j)=sg k fun l=>c l*M (τ l) j:=fun c j=>zma fun l hl=>by rw[t0 l hl]
  by_cases e1:i=k
  ·obtain⟨c,hc⟩:=h1 a ha han
   refine⟨c,fun j hj=> ?_⟩
   subst e1
   rw[tk,←cg,←hc j hj]
   unfold swp;rw[if_pos rfl]
  ·by_cases e2:i=a
   ·obtain⟨c,hc⟩:=h1 k (Nat.le_refl _) hk
    refine⟨c,fun j hj=> ?_⟩
    have e3:τ i=σ k:=by rw[hτ];simp only;rw[if_neg e1,if_pos e2]
    rw[e3,←cg,←hc j hj]
    unfold swp;rw[if_neg e1,if_pos e2]
   ·obtain⟨c,hc⟩:=h1 i hki hi
    refine⟨c,fun j hj=> ?_⟩
    have e3:τ i=σ i:=by rw[hτ];simp only;rw[if_neg e1,if_neg e2]
    rw[e3,←cg,←hc j hj]
    unfold swp;rw[if_neg e1,if_neg e2]
 have zl:∀i,i<k→swp X k a i=X i:=fun i hi=>by unfold swp;rw[if_neg (by omega),if_neg (by omega)]
 have zz:∀j,j<k→swp X k a k j=0:=fun j hj=>by
  unfold swp;rw[if_pos rfl];exact hz a j ha han hj
 obtain⟨ck,hck⟩:=zr k (Nat.le_refl _) hk
 generalize hZ:swp X k a=Z at *
 have yr:∀i,∃f:Rat,∀j,znj false Z k k i j=Z i j-f*Z k j:=fun i=>by
  by_cases hact:act false Z k k i
  ·refine⟨Z i k/Z k k,fun j=> ?_⟩
   unfold znj
   by_cases hj:k≤j
   ·rw[if_pos ⟨hact,hj⟩]
   ·rw[if_neg (fun h=>hj h.2),zz j (by omega),Rat.mul_zero];grind
  ·exact⟨0,fun j=>by rw[zpg hact];grind⟩
 have yk:∀j,znj false Z k k k j=Z k j:=fun j=>by rw[zpg (fun h=>h.1 rfl)]
 refine⟨⟨τ,tn,fun i hki hi=> ?_,fun i hik=> ?_⟩,fun i hik=> ?_⟩
 ·obtain⟨c,hc⟩:=zr i (by omega) hi
  obtain⟨f,hf⟩:=yr i
  refine⟨fun l=>if l<k then c l-f*ck l else f,fun j hj=> ?_⟩
  have e1:(sg k fun l=>(if l<k then c l-f*ck l else f)*M (τ l) j)=sg k (fun l=>c l*M (τ l) j)+(-f)*sg k fun l=>ck l*M (τ l) j:=by
   rw[←zcb,←zvd]
   exact zma fun l hl=>by rw[if_pos hl];grind
  rw[hf j,hc j hj,hck j hj,sg,e1]
  dsimp only
  rw[if_neg (Nat.lt_irrefl k)]
  grind
 ·by_cases e1:i=k
  ·subst e1
   refine⟨fun l=>if l<i then -ck l else 1,fun j hj=> ?_⟩
   have e2:(sg i fun l=>(if l<i then -ck l else 1)*M (τ l) j)=(-1)*sg i fun l=>ck l*M (τ l) j:=by
    rw[←zcb]
    exact zma fun l hl=>by rw[if_pos hl];grind
   rw[yk,hck j hj,sg,e2]
   dsimp only
   rw[if_neg (Nat.lt_irrefl i)]
   grind
  ·obtain⟨c,hc⟩:=h2 i (by omega)
   obtain⟨f,hf⟩:=yr i
   refine⟨fun l=>if l<k then c l+f*ck l else -f,fun j hj=> ?_⟩
   have e2:(sg k fun l=>(if l<k then c l+f*ck l else -f)*M (τ l) j)=sg k (fun l=>c l*M (τ l) j)+f*sg k fun l=>ck l*M (τ l) j:=by
    rw[←zcb,←zvd]
    exact zma fun l hl=>by rw[if_pos hl];grind
   have e3:(sg k fun l=>c l*M (σ l) j)=sg k fun l=>c l*M (τ l) j:=zma fun l hl=>by rw[t0 l hl]
   rw[hf j,zl i (by omega),hc j hj,hck j hj,sg,e2,e3]
   dsimp only
   rw[if_neg (Nat.lt_irrefl k)]
   grind
 ·by_cases e1:i=k
  ·subst e1
   rw[yk]
   have e2:Z i i=X a i:=by rw[←hZ];unfold swp;rw[if_pos rfl]
   rw[e2];exact hpiv
  ·have e2:znj false Z k k i i=X i i:=by
    unfold znj
    rw[if_neg (fun h=>by omega),zl i (by omega)]
   rw[e2];exact h3 i (by omega)
theorem zpl (hD:D≠0) (hDB:D≤B) (hnm:n≤m) (hβ:dtB n B≤β) (hM:overT n m D B M) (h:(elim false n M n).r=n):∀k,k≤n→zbm n m k D β (bW n D B β) M (elim false n M k).A
 | 0,_=>zbm.start n m D β _ M
 | k+1,hk=>by
   have ih:=zpl hD hDB hnm hβ hM h k (by omega)
   obtain⟨u1,u2,_⟩:=zad h k (by omega)
   have hrk:=zol h (k:=k) (by omega)
   have hrk1:=zol h hk
   have hl:=zyd false n M k
   rw[elim,zzf]at hrk1
   rw[elim,zzf]
   have hlt:pvt n k (elim false n M k)<n:=by
    by_cases h5:pvt n k (elim false n M k)<n
    ·exact h5
    ·rw[if_neg h5,hrk]at hrk1;omega
   rw[if_pos hlt]
   have hge:=zvk n k (elim false n M k)
   have hB:0<B:=by omega
   have hs:=ih.sizes hD hDB (by omega) hnm (Nat.le_trans (zun hB (by omega)) hβ) hM u1 u2
   dsimp only
   rw[hrk]at hge hl ⊢
   exact ih.step hk hnm hge hlt (fun i j h1 h2 h3=>hl i j h1 h2 h3) (hs.1 _ _ hge hlt (by omega))
theorem sgs_pm (n:Nat) (M:Mx) (k:Nat):sgs false n M k=1∨sgs false n M k= -1:=by
 have h:=sgs_sq false n M k
 by_cases h1:sgs false n M k=1
 ·exact Or.inl h1
 ·right
  have h2:sgs false n M k-1≠0:=fun e=>h1 (by grind)
  have h3:(sgs false n M k-1)*(sgs false n M k+1)=0:=by grind
  rcases Rat.mul_eq_zero.1 h3 with h4 | h4
  ·exact absurd h4 h2
  ·grind
theorem over_pr {G0 W:Nat} {f:Nat→Rat}:∀k,(∀i,i<k→∃G,G≠0∧G≤G0∧over G W (f i))→∃G,G≠0∧G≤G0^k∧over G (W^k) (pr k f)
 | 0,_=>⟨1,by decide,Nat.le_refl _,⟨1,by show(1:Rat)=mkRat 1 1;decide+kernel,Nat.le_refl _⟩⟩
 | k+1,h=>by
   obtain⟨G,h1,h2,h3⟩:=over_pr k fun i hi=>h i (by omega)
   obtain⟨H,g1,g2,g3⟩:=h k (Nat.lt_succ_self k)
   rw[pr,Nat.pow_succ,Nat.pow_succ]
   exact⟨G*H,Nat.mul_ne_zero h1 g1,Nat.mul_le_mul h2 g2,over.mul h3 g3⟩
end
section
variable {n m k D B β F K:Nat} {M X:Mx}
theorem zbm.sizesR {D' β' W':Nat} (hD:D≠0) (hDB:D≤B) (hF:F≠0) (hk:k≤n) (hnm:n≤m) (hβ:dtB k B≤β) (hM:overT n n D B M) (hR:∀i j,i<n→n≤j→j<m→over (D*F) (B*K) (M i j)) (h:zbm n m k D' β' W' M X)
 (h3:∀i,i<k→∃G,G≠0∧G≤D*β*D∧over G (bW n D B β) (X i i))
 (h0:∀i j,i<n→j<k→i≠j→X i j=0) (hp:∀j,j<k→X j j≠0):
 (∀i j,k≤i→i<n→n≤j→j<m→∃G,G≠0∧G≤D*β*D*F∧over G (bW n D B β*K) (X i j))∧∀i j,i<k→n≤j→j<m→∃G,G≠0∧G≤bD D β*F∧over G (n*(bW n D B β*β*B)*K) (X i j):=by
 obtain⟨⟨σ,hσ,h1,h2⟩,_⟩:=h
 obtain⟨P,hP⟩:∃P:Mx,P=fun i l=>M (σ i) l:=⟨_,rfl⟩
 have hPM:∀i l,P i l=M (σ i) l:=fun i l=>by rw[hP]
 obtain⟨C,hC⟩:=Classical.axiomOfChoice (r:=fun(i:Nat) (c:Nat→Rat)=>i<k→∀j,j<m→X i j=sg k fun l=>c l*M (σ l) j) (fun i=>by
  by_cases hi:i<k
  ·obtain⟨c,hc⟩:=h2 i hi;exact⟨c,fun _=>hc⟩
  ·exact⟨fun _=>0,fun h=>absurd h hi⟩)
 have hdP:dt k P≠0:=by
  have e1:dt k (ztd k C P)=dt k X:=zcd fun a b ha hb=>by
   rw[hC a ha b (by omega)]
   unfold ztd
   exact zma fun l _=>by rw[hPM]
  rw[dt_mul]at e1
  intro hz
  rw[hz,Rat.mul_zero]at e1
  rw[zql (fun i j hi hj hij=>h0 i j (by omega) hj hij)]at e1
  exact pr_ne hp e1.symm
 obtain⟨E,hE,hEb,hI⟩:=inv_gen hD hDB (fun i j hi hj=>by rw[hPM];exact hM _ _ (hσ i (by omega)) (by omega)) hdP
 have hEβ:E≤β:=Nat.le_trans hEb hβ
 have hI':∀i j,i<k→j<k→over E β (zoj k P i j):=fun i j hi hj=>(hI i j hi hj).mono hβ
 have hDED:D*E*D*F≠0:=Nat.mul_ne_zero (Nat.mul_ne_zero (Nat.mul_ne_zero hD hE) hD) hF
 have q1:D*E*(D*F)=D*E*D*F:=(Nat.mul_assoc _ _ _).symm
 have q2:D*F*(E*D)=D*E*D*F:=by ac_rfl
 refine⟨fun i j hki hi hjn hj=> ?_,fun i j hi hjn hj=> ?_⟩
 ·obtain⟨c,hc⟩:=h1 i hki hi
  have hy:∀j,j<k→M (σ i) j=sg k fun l=>c l*P l j:=fun j hj=>by
   have:=hc j (by omega)
   rw[h0 i j hi hj (by omega)]at this
   have e:(sg k fun l=>c l*P l j)=sg k fun l=>c l*M (σ l) j:=zma fun l _=>by rw[hPM]
   rw[e];grind
  have hcl:∀l,l<k→over (D*E) (k*(B*β)) (c l):=fun l hl=>by
   rw[zbk hdP hy hl]
   exact over.sg (Nat.mul_ne_zero hD hE) fun j hj=>over.mul (hM _ _ (hσ i hi) (by omega)) (hI' j l hj hl)
  refine⟨D*E*D*F,hDED,Nat.mul_le_mul_right _ (Nat.mul_le_mul_right _ (Nat.mul_le_mul_left _ hEβ)),?_⟩
  rw[hc j hj]
  have hs:over (D*E*D*F) (k*(k*(B*β)*(B*K))) (sg k fun l=>c l*M (σ l) j):=over.sg hDED fun l hl=>by
   have:=over.mul (hcl l hl) (hR _ _ (hσ l (by omega)) hjn hj)
   rwa[q1]at this
  have hm:over (D*E*D*F) (B*K*(E*D)) (M (σ i) j):=by
   have:=over.scale (m:=E*D) (Nat.mul_ne_zero hE hD) (hR _ _ (hσ i hi) hjn hj)
   rwa[q2]at this
  refine(over.sub hDED hm hs).mono ?_
  unfold bW
  rw[Nat.add_mul]
  have e1:B*K*(E*D)=B*(E*D)*K:=by ac_rfl
  have e2:k*(k*(B*β)*(B*K))=k*(k*(B*β)*B)*K:=by ac_rfl
  rw[e1,e2]
  exact Nat.add_le_add (Nat.mul_le_mul_right _ (Nat.mul_le_mul_left _ (Nat.mul_le_mul_right _ hEβ))) (Nat.mul_le_mul_right _ (Nat.mul_le_mul hk (Nat.mul_le_mul_right _ (Nat.mul_le_mul_right _ hk))))
 ·obtain⟨G,hG,hGb,hd⟩:=h3 i hi
  have hy:∀j,j<k→X i j=sg k fun l=>C i l*P l j:=fun j hj=>by
   rw[hC i hi j (by omega)]
   exact zma fun l _=>by rw[hPM]
  have hcl:∀l,l<k→over (G*E) (bW n D B β*β) (C i l):=fun l hl=>by
   rw[zbk hdP hy hl]
   have e:(sg k fun j=>X i j*zoj k P j l)=sg k fun j=>if i=j then X i i*zoj k P i l else 0:=zma fun j hj=>by
    by_cases h5:i=j
    ·subst h5;rw[if_pos rfl]
    ·rw[if_neg h5,h0 i j (by omega) hj h5,Rat.zero_mul]
   rw[e,zfd (f:=fun _=>X i i*zoj k P i l) hi]
   exact over.mul hd (hI' i l hi hl)
  have hGE:G*E*(D*F)≠0:=Nat.mul_ne_zero (Nat.mul_ne_zero hG hE) (Nat.mul_ne_zero hD hF)
  refine⟨G*E*(D*F),hGE,?_,?_⟩
  ·have e1:G*E*(D*F)=G*(E*D)*F:=by ac_rfl
   rw[e1]
   unfold bD
   exact Nat.mul_le_mul_right _ (Nat.mul_le_mul hGb (Nat.mul_le_mul_right _ hEβ))
  ·rw[hC i hi j hj]
   refine(over.sg hGE fun l hl=>over.mul (hcl l hl) (hR _ _ (hσ l (by omega)) hjn hj)).mono ?_
   have e1:k*(bW n D B β*β*(B*K))=k*(bW n D B β*β*B)*K:=by ac_rfl
   rw[e1]
   exact Nat.mul_le_mul_right _ (Nat.mul_le_mul_right _ hk)
structure slimR (n D B β F K:Nat):Prop where
 b:dtB n B≤β
 d0:D≠0
 db:D≤B
 f0:1≤F
 k0:1≤K
 den:bD D β*F*(bD D β*bN n D B β*(bD D β*F))<2^4096
 num:bN n D B β*K*(bD D β*bN n D B β*(bD D β*F))+bN n D B β*bD D β*(bN n D B β*K)*(bD D β*F)<2^4096
 pw1:(D*β*D)^n<2^4096
 pw2:(bW n D B β)^n<2^4096
theorem slimR.mono {F' K':Nat} (h:slimR n D B β F K) (h1:1≤F') (h2:F'≤F) (h3:1≤K') (h4:K'≤K):slimR n D B β F' K':=by
 obtain⟨a1,a2,a3,a4,a5,a6,a7,a8,a9⟩:=h
 refine⟨a1,a2,a3,h1,h3,Nat.lt_of_le_of_lt ?_ a6,Nat.lt_of_le_of_lt ?_ a7,a8,a9⟩
 ·exact Nat.mul_le_mul (Nat.mul_le_mul_left _ h2) (Nat.mul_le_mul_left _ (Nat.mul_le_mul_left _ h2))
 ·exact Nat.add_le_add (Nat.mul_le_mul (Nat.mul_le_mul_left _ h4) (Nat.mul_le_mul_left _ (Nat.mul_le_mul_left _ h2))) (Nat.mul_le_mul (Nat.mul_le_mul_left _ (Nat.mul_le_mul_left _ h4)) (Nat.mul_le_mul_left _ h2))
theorem slimE_right (hx:slimR n D B β F K) (hn:0<n) (hnm:n≤m) (hM:overT n n D B M) (hR:∀i j,i<n→n≤j→j<m→over (D*F) (B*K) (M i j)) (h:(elim false n M n).r=n):slimE false n m n M:=by
 have hD:=hx.d0
 have hDB:=hx.db
 have hF:F≠0:=by have:=hx.f0;omega
 have hB:0<B:=by omega
 have hβ0:0<β:=Nat.lt_of_lt_of_le (dtB_pos hB n) hx.b
 have hD1:0<D:=by omega
 have hBD:D*β*D≤bD D β:=Nat.le_mul_of_pos_right _ (Nat.mul_pos hβ0 hD1)
 have hBD1:0<bD D β:=Nat.lt_of_lt_of_le (Nat.mul_pos (Nat.mul_pos hD1 hβ0) hD1) hBD
 have hW1:0<bW n D B β:=by unfold bW;exact Nat.lt_of_lt_of_le (Nat.mul_pos hB (Nat.mul_pos hβ0 hD1)) (Nat.le_add_right _ _)
 have hWN:bW n D B β≤bN n D B β:=Nat.le_add_right _ _
 have hN1:0<bN n D B β:=Nat.lt_of_lt_of_le hW1 hWN
 have hden:=hx.den
 have hnum:=hx.num
 have hDF:bD D β≤bD D β*F:=Nat.le_mul_of_pos_right _ hx.f0
 have hNK:bN n D B β≤bN n D B β*K:=Nat.le_mul_of_pos_right _ hx.k0
 have hMA:overT n m (D*F) (B*F*K) M:=fun i j hi hj=>by
  rcases Nat.lt_or_ge j n with h1 | h1
  ·have h2:=over.scale (m:=F) hF (hM i j hi h1)
   exact h2.mono (Nat.le_mul_of_pos_right _ hx.k0)
  ·exact(hR i j hi h1 hj).mono (Nat.mul_le_mul_right _ (Nat.le_mul_of_pos_right _ hx.f0))
 have hall:=zpl (β:=dtB n (B*F*K)) (Nat.mul_ne_zero hD hF) (Nat.le_trans (Nat.mul_le_mul_right _ hDB) (Nat.le_mul_of_pos_right _ hx.k0)) hnm (Nat.le_refl _) hMA h
 have hpiv:=zpl hD hDB (Nat.le_refl n) hx.b hM h
 have elA:∀k,k≤n→(∀i j,i<n→j<n→∃G,G≠0∧G≤bD D β∧over G (bN n D B β) ((elim false n M k).A i j)):=fun k hk i j hi hj=>by
  have hc:=hpiv k hk
  obtain⟨u1,u2,_⟩:=zad h k hk
  obtain⟨s1,s2⟩:=hc.sizes hD hDB hk (Nat.le_refl n) (Nat.le_trans (zun hB hk) hx.b) hM u1 u2
  rcases Nat.lt_or_ge i k with h1 | h1
  ·obtain⟨G,g1,g2,g3⟩:=s2 i j h1 hj
   exact⟨G,g1,g2,g3.mono (Nat.le_add_left _ _)⟩
  ·obtain⟨G,g1,g2,g3⟩:=s1 i j h1 hi hj
   exact⟨G,g1,Nat.le_trans g2 hBD,g3.mono hWN⟩
 have el:∀k,k≤n→(∀i j,i<n→j<m→∃G,G≠0∧G≤bD D β*F∧over G (bN n D B β*K) ((elim false n M k).A i j)):=fun k hk i j hi hj=>by
  rcases Nat.lt_or_ge j n with h1 | h1
  ·obtain⟨G,g1,g2,g3⟩:=elA k hk i j hi h1
   exact⟨G,g1,Nat.le_trans g2 hDF,g3.mono hNK⟩
  ·obtain⟨u1,u2,_⟩:=zad h k hk
   obtain⟨s1,s2⟩:=(hall k hk).sizesR hD hDB hF hk hnm (Nat.le_trans (zun hB hk) hx.b) hM hR (hpiv k hk).2 u1 u2
   rcases Nat.lt_or_ge i k with h2 | h2
   ·obtain⟨G,g1,g2,g3⟩:=s2 i j h2 h1 hj
    exact⟨G,g1,g2,g3.mono (Nat.mul_le_mul_right _ (Nat.le_add_left _ _))⟩
   ·obtain⟨G,g1,g2,g3⟩:=s1 i j h2 hi h1 hj
    exact⟨G,g1,Nat.le_trans g2 (Nat.mul_le_mul_right _ hBD),g3.mono (Nat.mul_le_mul_right _ hWN)⟩
 obtain⟨D2,hD2⟩:∃x,bD D β*F=x:=⟨_,rfl⟩
 obtain⟨N2,hN2⟩:∃x,bN n D B β*K=x:=⟨_,rfl⟩
 rw[hD2]at hden hnum hDF el
 rw[hN2]at hnum hNK el
 have hD2p:0<D2:=by omega
 have hN2p:0<N2:=by omega
 have hP1:D2≤bD D β*bN n D B β*D2:=Nat.le_mul_of_pos_left _ (Nat.mul_pos hBD1 hN1)
 have hP2:D2≤D2*(bD D β*bN n D B β*D2):=Nat.le_mul_of_pos_right _ (by omega)
 have hP3:N2≤N2*(bD D β*bN n D B β*D2):=Nat.le_mul_of_pos_right _ (by omega)
 have dd:∀k,k≤n→∃G,G≠0∧G<2^4096∧∃K,K<2^4096∧over G K (elim false n M k).d:=fun k hk=>by
  have hc:=hpiv k hk
  obtain⟨u1,u2,u3⟩:=zad h k hk
  obtain⟨G,g1,g2,g3⟩:=over_pr k hc.2
  have q1:(D*β*D)^k≤(D*β*D)^n:=Nat.pow_le_pow_right (Nat.mul_pos (Nat.mul_pos hD1 hβ0) hD1) hk
  have q2:(bW n D B β)^k≤(bW n D B β)^n:=Nat.pow_le_pow_right hW1 hk
  refine⟨G,g1,Nat.lt_of_le_of_lt (Nat.le_trans g2 q1) hx.pw1,_,Nat.lt_of_le_of_lt q2 hx.pw2,?_⟩
  rw[u3]
  rcases sgs_pm n M k with e | e
  ·rw[e,Rat.one_mul];exact g3
  ·rw[e,show(-1:Rat)*pr k (fun i=>(elim false n M k).A i i)= -pr k (fun i=>(elim false n M k).A i i)by grind];exact over.neg g3
 intro k hk
 refine⟨fun a b ha hb=> ?_,?_,fun hkn=> ?_⟩
 ·obtain⟨G,g1,g2,g3⟩:=el k hk a b ha hb
  exact g3.fits g1 (by omega) (by omega)
 ·obtain⟨G,g1,g2,K,g3,g4⟩:=dd k hk
  exact g4.fits g1 g3 g2
 ·intro hlt
  have hrk:=zol h (k:=k) hk
  have hge:=zvk n k (elim false n M k)
  have hpn:=pvt_ne (zue false n M k).1 hlt
  refine⟨?_,?_,fun i hi hact=> ?_⟩
  ·obtain⟨G,g1,g2,K,g3,g4⟩:=dd k hk
   exact(over.neg g4).fits g1 g3 g2
  ·obtain⟨G,g1,g2,K,g3,g4⟩:=dd (k+1) hkn
   rw[elim,zzf,if_pos hlt]at g4
   exact g4.fits g1 g3 g2
  ·rw[hrk]at hge hact ⊢
   have hzA:∀a b,a<n→b<n→∃G,G≠0∧G≤bD D β∧over G (bN n D B β) (swp (elim false n M k).A k (pvt n k (elim false n M k)) a b):=fun a b ha hb=>by
    unfold swp;split
    ·exact elA k hk _ b hlt hb
    ·split
     ·exact elA k hk _ b hkn hb
     ·exact elA k hk _ b ha hb
   have hz:∀a b,a<n→b<m→∃G,G≠0∧G≤D2∧over G N2 (swp (elim false n M k).A k (pvt n k (elim false n M k)) a b):=fun a b ha hb=>by
    unfold swp;split
    ·exact el k hk _ b hlt hb
    ·split
     ·exact el k hk _ b hkn hb
     ·exact el k hk _ b ha hb
   have hkk:swp (elim false n M k).A k (pvt n k (elim false n M k)) k k≠0:=by rw[zek];exact hpn
   generalize swp (elim false n M k).A k (pvt n k (elim false n M k))=Z at *
   obtain⟨G1,a1,a2,a3⟩:=hzA i k hi hkn
   obtain⟨G2,b1,b2,b3⟩:=hzA k k hkn hkn
   obtain⟨H,c1,c2,c3⟩:=over.div2 a1 b1 a3 b3 hkk
   have hH:H≤bD D β*bN n D B β:=Nat.le_trans c2 (Nat.mul_le_mul_right _ a2)
   have hHn:bN n D B β*G2≤bN n D B β*bD D β:=Nat.mul_le_mul_left _ b2
   have r1:bD D β*bN n D B β≤bD D β*bN n D B β*D2:=Nat.le_mul_of_pos_right _ hD2p
   have r2:bD D β*bN n D B β*D2≤D2*(bD D β*bN n D B β*D2):=Nat.le_mul_of_pos_left _ hD2p
   have r3:bN n D B β*bD D β≤bN n D B β*bD D β*N2:=Nat.le_mul_of_pos_right _ hN2p
   have r4:bN n D B β*bD D β*N2≤bN n D B β*bD D β*N2*D2:=Nat.le_mul_of_pos_right _ hD2p
   refine⟨c3.fits c1 (by omega) (by omega),fun j hj hkj=> ?_⟩
   obtain⟨G3,d1,d2,d3⟩:=hz k j hkn hj
   obtain⟨G4,e1,e2,e3⟩:=hz i j hi hj
   have m1:=over.mul c3 d3
   have hm1:H*G3≠0:=Nat.mul_ne_zero c1 d1
   have hm2:H*G3≤bD D β*bN n D B β*D2:=Nat.mul_le_mul hH d2
   have hm3:bN n D B β*G2*N2≤bN n D B β*bD D β*N2:=Nat.mul_le_mul_right _ hHn
   refine⟨m1.fits hm1 (by omega) (by omega),?_⟩
   have m2:=over.sub2 e1 hm1 e3 m1
   have hm4:G4*(H*G3)≤D2*(bD D β*bN n D B β*D2):=Nat.mul_le_mul e2 hm2
   have hm5:N2*(H*G3)≤N2*(bD D β*bN n D B β*D2):=Nat.mul_le_mul_left _ hm2
   have hm6:bN n D B β*G2*N2*G4≤bN n D B β*bD D β*N2*D2:=Nat.mul_le_mul hm3 e2
   exact m2.fits (Nat.mul_ne_zero e1 hm1) (by omega) (by omega)
end
def fac (n m s:Nat) (A:Mx):Prop:=∃C R:Mx,∀i j,i<n→j<m→A i j=ztd s C R i j
def unitIn (n m r:Nat) (A:Mx):Prop:=∃X Y:Mx,∀a b,a<r→b<r→ztd n X (ztd m A Y) a b=zkf a b
theorem mul_congr {m:Nat} {A B C D:Mx} {i k i' k':Nat} (h1:∀j,j<m→A i j=C i' j) (h2:∀j,j<m→B j k=D j k'):ztd m A B i k=ztd m C D i' k':=
 zma fun j hj=>by rw[h1 j hj,h2 j hj]
theorem sg_cut {s r:Nat} {f:Nat→Rat} (h:s≤r) (h0:∀l,s≤l→l<r→f l=0):sg r f=sg s f:=by
 obtain⟨c,rfl⟩:∃c,r=s+c:=⟨r-s,by omega⟩
 rw[zbn,zma (n:=c) (g:=fun _=>0) (fun j hj=>h0 _ (by omega) (by omega)),zsi]
 grind
theorem dt_one (r:Nat):dt r zkf≠0:=by
 rw[zql (fun i j _ _ hij=>by unfold zkf;rw[if_neg hij])]
 exact pr_ne fun i _=>by unfold zkf;rw[if_pos rfl];decide+kernel
theorem unit_le {n m s r:Nat} {A:Mx} (hf:fac n m s A) (hu:unitIn n m r A):r≤s:=by
 obtain⟨C,R,hC⟩:=hf
 obtain⟨X,Y,hX⟩:=hu
 rcases Nat.lt_or_ge s r with h | h
 ·exfalso
  have e:dt r (ztd r (fun a l=>if l<s then ztd n X C a l else 0) (fun l b=>if l<s then ztd m R Y l b else 0))=dt r zkf:=zcd fun a b ha hb=>by
   rw[←hX a b ha hb]
   have e1:ztd n X (ztd m A Y) a b=ztd s (ztd n X C) (ztd m R Y) a b:=by
    rw[mul_assoc]
    refine mul_congr (fun _ _=>rfl) fun i hi=> ?_
    rw[←mul_assoc]
    exact mul_congr (fun j hj=>hC i j hi hj) fun _ _=>rfl
   rw[e1]
   unfold ztd
   rw[sg_cut (Nat.le_of_lt h) (fun l h1 h2=>by dsimp only;rw[if_neg (by omega),Rat.zero_mul])]
   exact zma fun l hl=>by dsimp only;rw[if_pos hl,if_pos hl]
  rw[dt_mul,zme (A:=fun l b=>if l<s then ztd m R Y l b else 0) (r:=r-1) (by omega) (fun j hj=>if_neg (by omega)),Rat.mul_zero]at e
  exact dt_one r e.symm
 ·exact h
def trM (A:Mx):Mx:=fun i j=>A j i
theorem fac_tr {n m s:Nat} {A:Mx} (h:fac n m s A):fac m n s (trM A):=by
 obtain⟨C,R,e⟩:=h
 refine⟨trM R,trM C,fun i j hi hj=> ?_⟩
 show A j i=_
 rw[e j i hj hi]
 exact zma fun l _=>Rat.mul_comm _ _
theorem unit_tr {n m r:Nat} {A:Mx} (h:unitIn n m r A):unitIn m n r (trM A):=by
 obtain⟨X,Y,e⟩:=h
 refine⟨trM Y,trM X,fun a b ha hb=> ?_⟩
 have e1:zkf a b=zkf b a:=by
  unfold zkf
  by_cases h:a=b
  ·rw[if_pos h,if_pos h.symm]
  ·rw[if_neg h,if_neg (fun e=>h e.symm)]
 rw[e1,←e b a hb ha,←mul_assoc]
 unfold ztd trM
 refine zma fun j _=> ?_
 rw[Rat.mul_comm]
 refine congrArg (X b j* ·) (zma fun i _=>Rat.mul_comm _ _)
theorem facC (n m t:Nat) (A:Mx):RowC n fun X _=>fac n m t X→fac n m t A where
 congr:=fun X Y s h hX hY=>hX (by
  obtain⟨C,R,e⟩:=hY
  exact⟨C,R,fun i j hi hj=>by rw[h i hi];exact e i j hi hj⟩)
 swap:=fun X s a b ha hb hab hX hY=>hX (by
  obtain⟨C,R,e⟩:=hY
  refine⟨swp C a b,R,fun i j hi hj=> ?_⟩
  have key:∀i',i'<n→swp X a b i'=X i→swp C a b i=C i'→X i j=ztd t (swp C a b) R i j:=fun i' hi' h1 h2=>by
   rw[←h1,e i' j hi' hj]
   exact(congrFun (zrf h2) j).symm
  by_cases h1:i=a
  ·subst h1
   exact key b hb (by unfold swp;rw[if_neg (fun e=>hab e.symm),if_pos rfl]) (by unfold swp;rw[if_pos rfl])
  ·by_cases h2:i=b
   ·subst h2
    exact key a ha (by unfold swp;rw[if_pos rfl]) (by unfold swp;rw[if_neg h1,if_pos rfl])
   ·exact key i hi (by unfold swp;rw[if_neg h1,if_neg h2]) (by unfold swp;rw[if_neg h1,if_neg h2]))
 add:=fun X s i r c hi hr hir hX hY=>hX (by
  obtain⟨C,R,e⟩:=hY
  refine⟨zoc C i fun l=>C i l-c*C r l,R,fun k j hk hj=> ?_⟩
  have er:=e r j hr hj
  rw[zvc (fun e=>hir e.symm)]at er
  by_cases h1:k=i
  ·subst h1
   have ek:=e k j hk hj
   rw[zed]at ek
   have e2:ztd t (zoc C k fun l=>C k l-c*C r l) R k j=ztd t C R k j+(-c)*ztd t C R r j:=by
    unfold ztd
    rw[zed,←zcb,←zvd]
    exact zma fun l _=>by grind
   rw[e2,←ek,←er]
   grind
  ·have ek:=e k j hk hj
   rw[zvc h1]at ek
   rw[ek]
   exact(congrFun (zrf (zvc h1)) j).symm)
theorem combC (n m:Nat) (A:Mx):RowC n fun X _=>∃E:Mx,∀i j,i<n→j<m→X i j=ztd n E A i j where
 congr:=fun X Y s h hX=>by
  obtain⟨E,e⟩:=hX
  exact⟨E,fun i j hi hj=>by rw[←h i hi];exact e i j hi hj⟩
 swap:=fun X s a b ha hb hab hX=>by
  obtain⟨E,e⟩:=hX
  refine⟨swp E a b,fun i j hi hj=> ?_⟩
  have key:∀i',i'<n→swp X a b i=X i'→swp E a b i=E i'→swp X a b i j=ztd n (swp E a b) A i j:=fun i' hi' h1 h2=>by
   rw[h1,e i' j hi' hj]
   exact(congrFun (zrf h2) j).symm
  by_cases h1:i=a
  ·subst h1
   exact key b hb (by unfold swp;rw[if_pos rfl]) (by unfold swp;rw[if_pos rfl])
  ·by_cases h2:i=b
   ·subst h2
    exact key a ha (by unfold swp;rw[if_neg h1,if_pos rfl]) (by unfold swp;rw[if_neg h1,if_pos rfl])
   ·exact key i hi (by unfold swp;rw[if_neg h1,if_neg h2]) (by unfold swp;rw[if_neg h1,if_neg h2])
 add:=fun X s i r c hi hr hir hX=>by
  obtain⟨E,e⟩:=hX
  refine⟨zoc E i fun l=>E i l+c*E r l,fun k j hk hj=> ?_⟩
  by_cases h1:k=i
  ·subst h1
   rw[zed,e k j hk hj,e r j hr hj]
   unfold ztd
   rw[zed,←zcb,←zvd]
   exact zma fun l _=>by grind
  ·rw[zvc h1,e k j hk hj]
   exact(congrFun (zrf (zvc h1)) j).symm
theorem elim_pivs (n:Nat) (A:Mx):∀k,∃p:Nat→Nat,∀l,l<(elim false n A k).r→p l<k∧(elim false n A k).A l (p l)≠0∧∀i,i<n→i≠l→(elim false n A k).A i (p l)=0
 | 0=>⟨fun _=>0,fun l hl=>absurd hl (by simp[elim])⟩
 | k+1=>by
   obtain⟨p,hp⟩:=elim_pivs n A k
   have hrn:=(zue false n A k).1
   have hge:=zvk n k (elim false n A k)
   rw[elim,zzf]
   by_cases hlt:pvt n k (elim false n A k)<n
   ·have hpn:=pvt_ne hrn hlt
    rw[if_pos hlt]
    dsimp only
    generalize pvt n k (elim false n A k)=a at *
    generalize (elim false n A k).r=r at *
    generalize (elim false n A k).A=S at *
    refine⟨fun l=>if l<r then p l else k,fun l hl=> ?_⟩
    by_cases hlr:l<r
    ·obtain⟨h1,h2,h3⟩:=hp l hlr
     simp only[if_pos hlr]
     have hun:∀i,znj false (swp S r a) r k i (p l)=swp S r a i (p l):=fun i=>by
      unfold znj;rw[if_neg (fun h=>by omega)]
     refine⟨by omega,?_,fun i hi hil=> ?_⟩
     ·rw[hun];unfold swp;rw[if_neg (by omega),if_neg (by omega)];exact h2
     ·rw[hun];unfold swp;split
      ·exact h3 a hlt (by omega)
      ·split
       ·exact h3 r (by omega) (by omega)
       ·exact h3 i hi hil
    ·obtain rfl:l=r:=by omega
     simp only[if_neg hlr]
     have hkk:swp S l a l k≠0:=by rw[zek];exact hpn
     refine⟨by omega,?_,fun i hi hil=> ?_⟩
     ·rw[zpg (fun h=>h.1 rfl)];exact hkk
     ·unfold znj
      by_cases hz:swp S l a i k=0
      ·rw[if_neg (fun h=>h.1.2.2 hz)];exact hz
      ·rw[if_pos ⟨⟨hil,(fun z=>by cases z.1),hz⟩,Nat.le_refl _⟩,Rat.div_mul_cancel hkk];grind
   ·rw[if_neg hlt]
    exact⟨p,fun l hl=>by obtain⟨h1,h2,h3⟩:=hp l hl;exact⟨by omega,h2,h3⟩⟩
theorem zvi (n m:Nat) (A:Mx):(elim true n A m).r=(elim false n A m).r:=(ztm (A:=A) (M:=A) (n:=n) (m:=m) true false (fun _ _ _ _=>rfl) m (Nat.le_refl _)).1
theorem rank_fac (n m:Nat) (A:Mx):fac n m (elim false n A m).r A:=by
 refine zbd (facC n m (elim false n A m).r A) false (A:=A) (fun h=>h) m ⟨zkf,(elim false n A m).A,fun i j hi hj=> ?_⟩
 unfold ztd zkf
 by_cases h:i<(elim false n A m).r
 ·have e:sg (elim false n A m).r (fun l=>(if i=l then(1:Rat)else 0)*(elim false n A m).A l j)=sg (elim false n A m).r (fun l=>if i=l then(elim false n A m).A l j else 0):=zma fun l _=>by
   by_cases h1:i=l
   ·rw[if_pos h1,if_pos h1,Rat.one_mul]
   ·rw[if_neg h1,if_neg h1,Rat.zero_mul]
  rw[e,zfd h]
 ·rw[zyd false n A m i j (by omega) hi hj]
  exact(zsi _).symm.trans (zma fun l hl=>by rw[if_neg (by omega),Rat.zero_mul])
theorem rank_unit (n m:Nat) (A:Mx):unitIn n m (elim false n A m).r A:=by
 obtain⟨E,hE⟩:=zbd (combC n m A) false (A:=A) ⟨zkf,fun i j hi hj=>by
  unfold ztd zkf
  have e:sg n (fun l=>(if i=l then(1:Rat)else 0)*A l j)=sg n (fun l=>if i=l then A l j else 0):=zma fun l _=>by
   by_cases h1:i=l
   ·rw[if_pos h1,if_pos h1,Rat.one_mul]
   ·rw[if_neg h1,if_neg h1,Rat.zero_mul]
  rw[e,zfd hi]⟩ m
 obtain⟨p,hp⟩:=elim_pivs n A m
 have hrn:=(zue false n A m).1
 generalize (elim false n A m).r=r at *
 generalize (elim false n A m).A=T at *
 refine⟨E,fun j b=>if p b=j then 1/T b (p b)else 0,fun a b ha hb=> ?_⟩
 rw[←mul_assoc]
 obtain⟨h1,h2,h3⟩:=hp b hb
 have e1:ztd m (ztd n E A) (fun j b=>if p b=j then 1/T b (p b)else 0) a b=sg m (fun j=>if p b=j then T a j*(1/T b (p b))else 0):=zma fun j hj=>by
  rw[←hE a j (by omega) hj]
  dsimp only
  by_cases h4:p b=j
  ·rw[if_pos h4,if_pos h4]
  ·rw[if_neg h4,if_neg h4,Rat.mul_zero]
 rw[e1,zfd h1 (fun j=>T a j*(1/T b (p b)))]
 unfold zkf
 by_cases h5:a=b
 ·subst h5
  rw[if_pos rfl,Rat.mul_comm,Rat.div_mul_cancel h2]
 ·rw[if_neg h5,h3 a (by omega) h5,Rat.zero_mul]
theorem rank_uniq {n m s:Nat} {A:Mx} (hf:fac n m s A) (hu:unitIn n m s A):(elim true n A m).r=s:=by
 rw[zvi]
 have h1:=unit_le (rank_fac n m A) hu
 have h2:=unit_le hf (rank_unit n m A)
 omega
theorem rank_tr (n m:Nat) (A:Mx):(elim true m (trM A) n).r=(elim true n A m).r:=by
 rw[zvi n m]
 exact rank_uniq (fac_tr (rank_fac n m A)) (unit_tr (rank_unit n m A))
theorem rank_det (n:Nat) (A:Mx):(elim true n A n).r=n↔dt n A≠0:=by
 rw[zvi]
 have h:=elim_dt (M:=A) (n:=n)
 have hr:=(zue false n A n).1
 constructor
 ·exact fun e=>(h.1 e).2
 ·intro e
  rcases Nat.lt_or_ge (elim false n A n).r n with h1 | h1
  ·exact absurd (h.2 h1) e
  ·omega
theorem rightC (n:Nat) (C:Rat):RowC n fun B s=>C=s*dt n (fun i j=>B i (n+j)) where
 congr:=fun X Y s h hX=>by rw[hX,zcd (fun a b ha _=>by rw[h a ha])]
 swap:=fun X s a b ha hb hab hX=>by
  have e:(fun i j=>swp X a b i (n+j))=swp (fun i j=>X i (n+j)) a b:=by
   funext i j;unfold swp;split
   ·rfl
   ·split<;>rfl
  rw[hX,e,dt_swp ha hb hab];grind
 add:=fun X s i r c hi hr hir hX=>by
  have e:(fun a j=>zoc X i (fun b=>X i b+c*X r b) a (n+j))=zoc (fun i j=>X i (n+j)) i (fun b=>X i (n+b)+c*X r (n+b)):=by
   funext a j;unfold zoc;split<;>rfl
  rw[hX,e]
  rw[dt_add (A:=fun i j=>X i (n+j)) hi hr hir c]
theorem ker_of_dt {n:Nat} {A:Mx} (h:dt n A=0):∃c:Nat→Rat,(∃l,l<n∧c l≠0)∧∀i,i<n→sg n (fun l=>A i l*c l)=0:=by
 have hT:dt n (trM A)=0:=by
  by_cases h1:dt n (trM A)=0
  ·exact h1
  ·have h2:=(rank_det n (trM A)).2 h1
   rw[rank_tr]at h2
   exact absurd h ((rank_det n A).1 h2)
 have hr:=rank_less (B:=zkf) hT
 have hl:=zyd false n (zpa n (trM A) zkf) n
 have hk:=zbd (invC n (trM A)) false (A:=zpa n (trM A) zkf) (fun i j hi hj=>by
  rw[zae hj]
  have e:sg n (fun l=>zpa n (trM A) zkf i (n+l)*trM A l j)=sg n (fun l=>if i=l then trM A l j else 0):=zma fun l hl=>by
   rw[zfe];unfold zkf
   by_cases h5:i=l
   ·rw[if_pos h5,if_pos h5];grind
   ·rw[if_neg h5,if_neg h5];grind
  rw[e,zfd hi]) n
 have hd:=zbd (rightC n (dt n zkf)) false (A:=zpa n (trM A) zkf) (by
  have e:dt n (fun i j=>zpa n (trM A) zkf i (n+j))=dt n zkf:=zcd fun a b _ _=>zfe
  rw[e,Rat.one_mul]) n
 generalize (elim false n (zpa n (trM A) zkf) n).A=X at *
 generalize (elim false n (zpa n (trM A) zkf) n).r=r at *
 refine⟨fun l=>X (n-1) (n+l),?_,fun i hi=> ?_⟩
 ·apply Classical.byContradiction
  intro hno
  have hz:∀j,j<n→(fun i j=>X i (n+j)) (n-1) j=0:=fun j hj=>by
   by_cases h5:X (n-1) (n+j)=0
   ·exact h5
   ·exact absurd ⟨j,hj,h5⟩ hno
  rw[zme (A:=fun i j=>X i (n+j)) (show n-1<n by omega) hz,Rat.mul_zero]at hd
  exact dt_one n hd
 ·have h1:=hk (n-1) i (by omega) hi
  rw[hl (n-1) i (by omega) (by omega) hi]at h1
  rw[←h1]
  exact zma fun l _=>by unfold trM;exact Rat.mul_comm _ _
theorem sg_le {n:Nat} {f g:Nat→Rat} (h:∀i,i<n→f i≤g i):sg n f≤sg n g:=by
 induction n with
 | zero=>exact Rat.le_refl
 | succ n ih=>rw[sg,sg];have:=ih fun i hi=>h i (by omega);have:=h n (by omega);grind
theorem sg_lt {n:Nat} {f g:Nat→Rat} (h:∀i,i<n→f i≤g i) {k:Nat} (hk:k<n) (hlt:f k<g k):sg n f<sg n g:=by
 induction n with
 | zero=>omega
 | succ n ih=>
   rw[sg,sg]
   have h1:=sg_le (n:=n) fun i hi=>h i (by omega)
   have h2:=h n (by omega)
   by_cases e:k=n
   ·subst e;grind
   ·have:=ih (fun i hi=>h i (by omega)) (by omega);grind
theorem max_at {x:Nat→Rat}:∀ {n:Nat},0<n→∃i,i<n∧∀j,j<n→x j≤x i
 | 1,_=>⟨0,by omega,fun j hj=>by obtain rfl:j=0:=by omega
                                 exact Rat.le_refl⟩
 | n+2,_=>by
   obtain⟨i,h1,h2⟩:=max_at (x:=x) (n:=n+1) (by omega)
   by_cases h:x (n+1)≤x i
   ·refine⟨i,by omega,fun j hj=> ?_⟩
    by_cases e:j=n+1
    ·subst e;exact h
    ·exact h2 j (by omega)
   ·refine⟨n+1,by omega,fun j hj=> ?_⟩
    by_cases e:j=n+1
    ·subst e;exact Rat.le_refl
    ·have:=h2 j (by omega);grind
def esc (n:Nat) (r:Mx) (o:Nat→Rat):Nat→Nat→Prop
 | 0,i=>sg n (r i)<o i
 | k+1,i=>esc n r o k i∨∃j,j<n∧0<r i j∧esc n r o k j
section
variable {n:Nat} {r:Mx} {o:Nat→Rat}
theorem mm_max (hr:∀i j,i<n→j<n→0≤r i j) (ho:∀i,i<n→sg n (r i)≤o i) (he:∀i,i<n→∃k,esc n r o k i) {x:Nat→Rat} (hx:∀i,i<n→o i*x i≤sg n fun j=>r i j*x j):∀i,i<n→x i≤0:=by
 intro i0 hi0
 obtain⟨im,h1,h2⟩:=max_at (x:=x) (n:=n) (by omega)
 by_cases hm:x im≤0
 ·have:=h2 i0 hi0;grind
 ·exfalso
  have hpos:0<x im:=Rat.not_le.1 hm
  obtain⟨m,hmx⟩:∃m,x im=m:=⟨_,rfl⟩
  rw[hmx]at h2 hpos
  have key:∀i,i<n→x i=m→(sg n fun j=>r i j*x j)≤sg n (r i)*m∧o i*m≤sg n fun j=>r i j*x j:=fun i hi hxi=>by
   refine⟨?_,by have:=hx i hi;rwa[hxi]at this⟩
   rw[←znc]
   exact sg_le fun j hj=>Rat.mul_le_mul_of_nonneg_left (h2 j hj) (hr i j hi hj)
  have no:∀k i,i<n→x i=m→¬esc n r o k i:=by
   intro k
   induction k with
   | zero=>
     intro i hi hxi h
     obtain⟨k1,k2⟩:=key i hi hxi
     have h3:sg n (r i)*m<o i*m:=Rat.mul_lt_mul_of_pos_right h hpos
     grind
   | succ k ih=>
     intro i hi hxi h
     rcases h with h | ⟨j,hj,hrj,h⟩
     ·exact ih i hi hxi h
     ·obtain⟨k1,k2⟩:=key i hi hxi
      refine ih j hj ?_ h
      have h4:=h2 j hj
      by_cases h5:x j=m
      ·exact h5
      ·exfalso
       have h6:x j<m:=by grind
       have h7:(sg n fun j=>r i j*x j)<sg n (r i)*m:=by
        rw[←znc]
        exact sg_lt (fun j hj=>Rat.mul_le_mul_of_nonneg_left (h2 j hj) (hr i j hi hj)) hj (Rat.mul_lt_mul_of_pos_left h6 hrj)
       have h8:sg n (r i)*m≤o i*m:=Rat.mul_le_mul_of_nonneg_right (ho i hi) (Rat.le_of_lt hpos)
       grind
  obtain⟨k,hk⟩:=he im h1
  exact no k im h1 hmx hk
def mmA (r:Mx) (o:Nat→Rat):Mx:=fun i j=>if i=j then o i else -r i j
theorem mmA_row (hd:∀i,i<n→r i i=0) {i:Nat} (hi:i<n) (x:Nat→Rat):sg n (fun j=>mmA r o i j*x j)=o i*x i-sg n fun j=>r i j*x j:=by
 have e:sg n (fun j=>mmA r o i j*x j)=sg n (fun j=>(if i=j then o i*x i else 0)+(-1)*(r i j*x j)):=zma fun j hj=>by
  unfold mmA
  by_cases h:i=j
  ·subst h;rw[if_pos rfl,if_pos rfl,hd i hi];grind
  ·rw[if_neg h,if_neg h];grind
 rw[e,zvd,zcb,zfd (f:=fun _=>o i*x i) hi]
 grind
theorem mm_dt (hd:∀i,i<n→r i i=0) (hr:∀i j,i<n→j<n→0≤r i j) (ho:∀i,i<n→sg n (r i)≤o i) (he:∀i,i<n→∃k,esc n r o k i):dt n (mmA r o)≠0:=by
 intro h
 obtain⟨c,⟨l,hl,hc⟩,hz⟩:=ker_of_dt h
 have e:∀i,i<n→o i*c i=sg n fun j=>r i j*c j:=fun i hi=>by
  have:=hz i hi
  rw[mmA_row hd hi]at this
  grind
 have h1:=mm_max hr ho he (x:=c) (fun i hi=>by rw[e i hi];exact Rat.le_refl) l hl
 have h2:=mm_max hr ho he (x:=fun j=>(-1)*c j) (fun i hi=>by
  have e2:sg n (fun j=>r i j*((-1)*c j))=(-1)*sg n (fun j=>r i j*c j):=by
   rw[←zcb];exact zma fun j _=>by grind
  rw[e2,←e i hi]
  have :o i*((-1)*c i)=(-1)*(o i*c i):=by grind
  rw[this];exact Rat.le_refl) l hl
 have h3:c l=0:=by grind
 exact hc h3
theorem mm_nonneg (hd:∀i,i<n→r i i=0) (hr:∀i j,i<n→j<n→0≤r i j) (ho:∀i,i<n→sg n (r i)≤o i) (he:∀i,i<n→∃k,esc n r o k i) {x b:Nat→Rat} (hb:∀i,i<n→0≤b i)
 (hx:∀i,i<n→sg n (fun j=>mmA r o i j*x j)=b i):∀i,i<n→0≤x i:=by
 intro l hl
 have h2:=mm_max hr ho he (x:=fun j=>(-1)*x j) (fun i hi=>by
  have e2:sg n (fun j=>r i j*((-1)*x j))=(-1)*sg n (fun j=>r i j*x j):=by
   rw[←zcb];exact zma fun j _=>by grind
  have h3:=hx i hi
  rw[mmA_row hd hi]at h3
  have h4:=hb i hi
  rw[e2];grind) l hl
 grind
end
end Go.Proofs.Ytlpdkbmmbdfoiaa
namespace Go.Proofs.Ytlpdkbmmbdfoiaa
open Go.RowKit
theorem kp1w {w0 X Y:World} {a1:Addr} {x1:Value} (h:X.cell? a1=some x1∧Below w0.heap.size w0 X) (hb:Below X.heap.size X Y):Y.cell? a1=some x1∧Below w0.heap.size w0 Y:=
 ⟨zba hb h.1,zaa h.2 hb⟩
theorem kp1a {w0 X:World} {a1:Addr} {x1:Value} (h:w0.cell? a1=some x1) (hb:Below w0.heap.size w0 X):X.cell? a1=some x1∧Below w0.heap.size w0 X:=⟨zba hb h,hb⟩
theorem kp1c {w0 X:World} {a1:Addr} {x1:Value} (h:X.cell? a1=some x1∧Below w0.heap.size w0 X):Below w0.heap.size w0 X:=h.2
theorem rowL_app (m m2:Nat) (A B:Mx) (i:Nat):zib m (A i)++zib m2 (B i)=zib (m+m2) (zpa m A B i):=by
 refine List.ext_getElem (by simp[zib]) fun j h1 h2=> ?_
 rw[ztb]
 have hj:j<m+m2:=by rw[zea]at h2;exact h2
 unfold zpa
 by_cases h:j<m
 ·rw[List.getElem_append_left (by rw[zea];exact h),ztb,if_pos h]
 ·rw[List.getElem_append_right (by rw[zea];omega),ztb,if_neg h,zea]
theorem znd.init {w:World} {T m wd:Nat} {x y z:Value} {d:Rat} (A:Mx) (hm:0<m) (hb:zjf w T #[.slice none 0 0, .int .i64 wd, .int .i64 (0:Nat),x,y,z, .int .i64 0]) (hf:zqa w (.agg #[x,y,z]) d):znd w T (.slice none 0 0) [] 0 m A wd 0 d:=by
 obtain⟨a,b,ha,h4,h5⟩:=hf
 injection ha with ha
 injection ha with ha
 simp only[List.cons.injEq,and_true]at ha
 obtain⟨rfl,rfl,rfl⟩:=ha
 exact⟨⟨y,z,hb,h4,h5⟩,zlc.nil _ _ _ _,rfl,hm,fun i h=>by simp at h,fun i j h=>by simp at h⟩
theorem znd.grownR {w w':World} {T n m wd rk:Nat} {vR u:Value} {rs:List Value} {A:Mx} {d:Rat} (h:znd w T vR rs n m A wd rk d) (hg:w.grownBy w' u.ownBlock) (hn:zlb w u) (hT:u.ownBlock≠some T)
 (hR:vR.ownBlock=none∨vR.ownBlock≠u.ownBlock) (hr:∀i (hi:i<rs.length),rs[i].ownBlock≠u.ownBlock):znd w' T vR rs n m A wd rk d:=by
 obtain⟨⟨a,b,h1,h2,h3⟩,own,rl,mp,row,ap⟩:=h
 exact⟨⟨a,b,h1.grown hg hT,h2.grown hg hn,h3.grown hg hn⟩,own.grown hg hR,rl,mp,fun i hi=>(row i hi).grown hg hn (Or.inr (hr i hi)),ap⟩
theorem znd.old {w:World} {T n m wd rk:Nat} {vR:Value} {rs:List Value} {A:Mx} {d:Rat} (h:znd w T vR rs n m A wd rk d) {i:Nat} (hi:i<rs.length):∃g,rs[i].ownBlock=some g∧g<w.heap.size:=by
 obtain⟨g,h1,_,_,h2,_⟩:=(h.row i hi).blk (by rw[zea];exact h.mp)
 exact⟨g,h1,h2⟩
def RBeg (w0:World) (n m:Nat) (A:Mx) (wd:Nat) (e:Ending) (w:World):Prop:=
 ∃T vR rs,e= .returned (.pointer (some ⟨T,0,none⟩))∧Below w0.heap.size w0 w∧znd w T vR rs n m A wd 0 1∧w0.heap.size≤T
end Go.Proofs.Ytlpdkbmmbdfoiaa
