/- Lemmas. -/
import Derived.Test.YtlpdkbmmbdfoiaaGreatEMu1
import Derived.WalkSpells
import Derived.WalkLawsBesides
import Derived.BigQuiet
import Derived.Lib.Hide
import Derived.Laws.AppendOwnNone
import Derived.Test.YtlpdkbmmbdfoiaaGreatProg
set_option linter.unusedVariables false
set_option linter.unusedSimpArgs false
namespace Go.Proofs.YtlpdkbmmbdfoiaaGreat
theorem dtB_pos {B:Nat} (hB:0<B):∀n,0<dtB n B
 | 0=>Nat.one_pos
 | n+1=>Nat.mul_pos (Nat.succ_pos n) (Nat.mul_pos hB (dtB_pos hB n))
theorem zun {B k n:Nat} (hB:0<B) (h:k<=n):dtB k B<=dtB n B:=by
 induction n with
 | zero=>obtain rfl:k=0:=by omega
         exact Nat.le_refl _
 | succ n ih=>
   by_cases hk:k=n+1
   ·subst hk;exact Nat.le_refl _
   ·refine Nat.le_trans (ih (by omega)) ?_
    rw[dtB]
    have h1:dtB n B<=B*dtB n B:=Nat.le_mul_of_pos_left _ hB
    exact Nat.le_trans h1 (Nat.le_mul_of_pos_left _ (Nat.succ_pos n))
theorem over.div2 {F G N K:Nat} {p q:Rat} (hF:F≠0) (hG:G≠0) (hp:over F N p) (hq:over G K q) (h0:q≠0):∃H,H≠0/\H<=F*K/\over H (N*G) (p/q):=by
 obtain⟨z,rfl,hz⟩:=hq
 have hz0:z≠0:=over.zero' (B:=K) hG h0
 have h1:=over.quo hG (over.one hG) hz0
 have h2:=over.mul hp h1
 refine⟨F*z.natAbs,Nat.mul_ne_zero hF (by omega),Nat.mul_le_mul_left _ hz,?_⟩
 have e:p/mkRat z G=p*(1/mkRat z G):=by rw[Rat.div_def,Rat.div_def,Rat.one_mul]
 rw[e];exact h2
theorem over.sub2 {F G N K:Nat} {p q:Rat} (hF:F≠0) (hG:G≠0) (hp:over F N p) (hq:over G K q):over (F*G) (N*G+K*F) (p-q):=by
 have h1:=over.scale hG hp
 have h2:=over.scale hF hq
 rw[Nat.mul_comm G F]at h2
 exact over.sub (Nat.mul_ne_zero hF hG) h1 h2
theorem inv_gen {n D B:Nat} {A:Mx} (hD:D≠0) (hDB:D<=B) (hA:∀i j,i<n->j<n->over D B (A i j)) (h:dt n A≠0):∃E,E≠0/\E<=dtB n B/\∀i j,i<n->j<n->over E (dtB n B) (zoj n A i j):=by
 obtain⟨z,hz,hzb⟩:=dt_over (n:=n) (D:=D) (m:=B) hD hA
 have hDn:D^n≠0:=Nat.ne_of_gt (Nat.pow_pos (Nat.pos_of_ne_zero hD))
 have hz0:z≠0:=over.zero' (B:=0) hDn (hz▸h)
 refine⟨z.natAbs,by omega,hzb,fun i j hi hj=> ?_⟩
 rw[inv_cramer h hi hj,hz]
 refine over.quo hDn (dt_over hD fun a b ha hb=> ?_) hz0
 unfold zoc;split
 ·unfold zkf;split
  ·exact(over.one hD).mono hDB
  ·exact over.zero _ _
 ·exact hA a b ha hb
theorem sol_gen {n D B:Nat} {A:Mx} (hD:D≠0) (hDB:D<=B) (hA:∀i j,i<n->j<n->over D B (A i j)) (h:dt n A≠0) {F K:Nat} (hF:F≠0) {x b:Nat->Rat} (hb:∀i,i<n->over F K (b i)) (hx:∀i,i<n->sg n (fun j=>A i j*x j)=b i):
 ∃E,E≠0/\E<=dtB n B/\∀i,i<n->over (E*F) (n*(dtB n B*K)) (x i):=by
 obtain⟨E,hE,hEb,hI⟩:=inv_gen hD hDB hA h
 refine⟨E,hE,hEb,fun i hi=> ?_⟩
 rw[zqi h hx hi]
 exact over.sg (Nat.mul_ne_zero hE hF) fun l hl=>over.mul (hI i l hi hl) (hb l hl)
theorem zbk {k:Nat} {P:Mx} (h:dt k P≠0) {c y:Nat->Rat} (hy:∀j,j<k->y j=sg k fun l=>c l*P l j) {l:Nat} (hl:l<k):c l=sg k fun j=>y j*zoj k P j l:=by
 have e1:sg k (fun j=>y j*zoj k P j l)=sg k (fun j=>sg k (fun t=>c t*(P t j*zoj k P j l))):=zma fun j hj=>by
  rw[hy j hj,<-znc]
  exact zma fun t _=>Rat.mul_assoc _ _ _
 rw[e1,zdn]
 have e2:sg k (fun t=>sg k (fun j=>c t*(P t j*zoj k P j l)))=sg k (fun t=>if l=t then c t else 0):=zma fun t ht=>by
  rw[zcb,inv_right h ht hl]
  unfold zkf
  by_cases h5:t=l
  ·subst h5;rw[if_pos rfl,if_pos rfl,Rat.mul_one]
  ·rw[if_neg h5,if_neg (fun e=>h5 e.symm),Rat.mul_zero]
 rw[e2,zfd hl]
def bW (n D B β:Nat):Nat:=B*(β*D)+n*(n*(B*β)*B)
def bN (n D B β:Nat):Nat:=bW n D B β+n*(bW n D B β*β*B)
def bD (D β:Nat):Nat:=D*β*D*(β*D)
def zbm (n m k D β W:Nat) (M X:Mx):Prop:=
 (∃σ:Nat->Nat,(∀i,i<n->σ i<n)/\(∀i,k<=i->i<n->∃c:Nat->Rat,∀j,j<m->X i j=M (σ i) j-sg k fun l=>c l*M (σ l) j)/\∀i,i<k->∃c:Nat->Rat,∀j,j<m->X i j=sg k fun l=>c l*M (σ l) j)/\
  ∀i,i<k->∃G,G≠0/\G<=D*β*D/\over G W (X i i)
theorem zbm.start (n m D β W:Nat) (M:Mx):zbm n m 0 D β W M M:=
 ⟨⟨id,fun i h=>h,fun i _ _=>⟨fun _=>0,fun j _=>by simp[sg];grind⟩,fun i h=>by omega⟩,fun i h=>by omega⟩
section
variable {n m k D B β:Nat} {M X:Mx}
theorem zbm.sizes (hD:D≠0) (hDB:D<=B) (hk:k<=n) (hnm:n<=m) (hβ:dtB k B<=β) (hM:overT n m D B M) (h:zbm n m k D β (bW n D B β) M X)
 (h0:∀i j,i<n->j<k->i≠j->X i j=0) (hp:∀j,j<k->X j j≠0):
 (∀i j,k<=i->i<n->j<m->∃G,G≠0/\G<=D*β*D/\over G (bW n D B β) (X i j))/\∀i j,i<k->j<m->∃G,G≠0/\G<=bD D β/\over G (n*(bW n D B β*β*B)) (X i j):=by
 obtain⟨⟨σ,hσ,h1,h2⟩,h3⟩:=h
 obtain⟨P,hP⟩:∃P:Mx,P=fun i l=>M (σ i) l:=⟨_,rfl⟩
 have hPM:∀i l,P i l=M (σ i) l:=fun i l=>by rw[hP]
 obtain⟨C,hC⟩:=Classical.axiomOfChoice (r:=fun(i:Nat) (c:Nat->Rat)=>i<k->∀j,j<m->X i j=sg k fun l=>c l*M (σ l) j) (fun i=>by
  by_cases hi:i<k
  ·obtain⟨c,hc⟩:=h2 i hi;exact⟨c,fun _=>hc⟩
  ·exact⟨fun _=>0,fun h=>absurd h hi⟩)
 have hdP:dt k P≠0:=by
  have e1:dt k (ztd k C P)=dt k X:=zcd fun a b ha hb=>by
   rw[hC a ha b (by omega)]
   unfold ztd
   exact zma fun l _=>by rw[hPM]
  rw[dt_mul]at e1
  intro hz
  rw[hz,Rat.mul_zero]at e1
  rw[zql (fun i j hi hj hij=>h0 i j (by omega) hj hij)]at e1
  exact pr_ne hp e1.symm
 obtain⟨E,hE,hEb,hI⟩:=inv_gen hD hDB (fun i j hi hj=>by rw[hPM];exact hM _ _ (hσ i (by omega)) (by omega)) hdP
 have hEβ:E<=β:=Nat.le_trans hEb hβ
 have hI':∀i j,i<k->j<k->over E β (zoj k P i j):=fun i j hi hj=>(hI i j hi hj).mono hβ
 have hDED:D*E*D≠0:=Nat.mul_ne_zero (Nat.mul_ne_zero hD hE) hD
 refine⟨fun i j hki hi hj=> ?_,fun i j hi hj=> ?_⟩
 ·obtain⟨c,hc⟩:=h1 i hki hi
  have hy:∀j,j<k->M (σ i) j=sg k fun l=>c l*P l j:=fun j hj=>by
   have:=hc j (by omega)
   rw[h0 i j hi hj (by omega)]at this
   have e:(sg k fun l=>c l*P l j)=sg k fun l=>c l*M (σ l) j:=zma fun l _=>by rw[hPM]
   rw[e];grind
  have hcl:∀l,l<k->over (D*E) (k*(B*β)) (c l):=fun l hl=>by
   rw[zbk hdP hy hl]
   exact over.sg (Nat.mul_ne_zero hD hE) fun j hj=>over.mul (hM _ _ (hσ i hi) (by omega)) (hI' j l hj hl)
  refine⟨D*E*D,hDED,Nat.mul_le_mul_right _ (Nat.mul_le_mul_left _ hEβ),?_⟩
  rw[hc j hj]
  have hs:over (D*E*D) (k*(k*(B*β)*B)) (sg k fun l=>c l*M (σ l) j):=over.sg hDED fun l hl=>over.mul (hcl l hl) (hM _ _ (hσ l (by omega)) hj)
  have hm:over (D*E*D) (B*(E*D)) (M (σ i) j):=by
   have:=over.scale (m:=E*D) (Nat.mul_ne_zero hE hD) (hM _ _ (hσ i hi) hj)
   rwa[<-Nat.mul_assoc]at this
  refine(over.sub hDED hm hs).mono ?_
  unfold bW
  refine Nat.add_le_add (Nat.mul_le_mul_left _ (Nat.mul_le_mul_right _ hEβ)) (Nat.mul_le_mul hk (Nat.mul_le_mul_right _ (Nat.mul_le_mul_right _ hk)))
 ·obtain⟨G,hG,hGb,hd⟩:=h3 i hi
  have hy:∀j,j<k->X i j=sg k fun l=>C i l*P l j:=fun j hj=>by
   rw[hC i hi j (by omega)]
   exact zma fun l _=>by rw[hPM]
  have hcl:∀l,l<k->over (G*E) (bW n D B β*β) (C i l):=fun l hl=>by
   rw[zbk hdP hy hl]
   have e:(sg k fun j=>X i j*zoj k P j l)=sg k fun j=>if i=j then X i i*zoj k P i l else 0:=zma fun j hj=>by
    by_cases h5:i=j
    ·subst h5;rw[if_pos rfl]
    ·rw[if_neg h5,h0 i j (by omega) hj h5,Rat.zero_mul]
   rw[e,zfd (f:=fun _=>X i i*zoj k P i l) hi]
   exact over.mul hd (hI' i l hi hl)
  have hGE:G*E*D≠0:=Nat.mul_ne_zero (Nat.mul_ne_zero hG hE) hD
  refine⟨G*E*D,hGE,?_,?_⟩
  ·unfold bD
   rw[Nat.mul_assoc]
   exact Nat.mul_le_mul hGb (Nat.mul_le_mul_right _ hEβ)
  ·rw[hC i hi j hj]
   refine(over.sg hGE fun l hl=>over.mul (hcl l hl) (hM _ _ (hσ l (by omega)) hj)).mono ?_
   exact Nat.mul_le_mul_right _ hk
theorem zbm.step (hk:k<n) (hnm:n<=m) {W a:Nat} (ha:k<=a) (han:a<n) (h:zbm n m k D β W M X) (hz:∀i j,k<=i->i<n->j<k->X i j=0)
 (hpiv:∃G,G≠0/\G<=D*β*D/\over G W (X a k)):zbm n m (k+1) D β W M (znj false (swp X k a) k k):=by
 obtain⟨⟨σ,hσ,h1,h2⟩,h3⟩:=h
 obtain⟨τ,hτ⟩:∃τ:Nat->Nat,τ=fun i=>if i=k then σ a else if i=a then σ k else σ i:=⟨_,rfl⟩
 have t0:∀l,l<k->τ l=σ l:=fun l hl=>by rw[hτ];simp only;rw[if_neg (by omega),if_neg (by omega)]
 have tk:τ k=σ a:=by rw[hτ];dsimp only;rw[if_pos rfl]
 have tn:∀i,i<n->τ i<n:=fun i hi=>by
  rw[hτ];simp only;split
  ·exact hσ a han
  ·split
   ·exact hσ k hk
   ·exact hσ i hi
 have zr:∀i,k<=i->i<n->∃c:Nat->Rat,∀j,j<m->swp X k a i j=M (τ i) j-sg k fun l=>c l*M (τ l) j:=fun i hki hi=>by
  have cg:∀ (c:Nat->Rat) (j:Nat),(sg k fun l=>c l*M (σ l) j)=sg k fun l=>c l*M (τ l) j:=fun c j=>zma fun l hl=>by rw[t0 l hl]
  by_cases e1:i=k
  ·obtain⟨c,hc⟩:=h1 a ha han
   refine⟨c,fun j hj=> ?_⟩
   subst e1
   rw[tk,<-cg,<-hc j hj]
   unfold swp;rw[if_pos rfl]
  ·by_cases e2:i=a
   ·obtain⟨c,hc⟩:=h1 k (Nat.le_refl _) hk
    refine⟨c,fun j hj=> ?_⟩
    have e3:τ i=σ k:=by rw[hτ];simp only;rw[if_neg e1,if_pos e2]
    rw[e3,<-cg,<-hc j hj]
    unfold swp;rw[if_neg e1,if_pos e2]
   ·obtain⟨c,hc⟩:=h1 i hki hi
    refine⟨c,fun j hj=> ?_⟩
    have e3:τ i=σ i:=by rw[hτ];simp only;rw[if_neg e1,if_neg e2]
    rw[e3,<-cg,<-hc j hj]
    unfold swp;rw[if_neg e1,if_neg e2]
 have zl:∀i,i<k->swp X k a i=X i:=fun i hi=>by unfold swp;rw[if_neg (by omega),if_neg (by omega)]
 have zz:∀j,j<k->swp X k a k j=0:=fun j hj=>by
  unfold swp;rw[if_pos rfl];exact hz a j ha han hj
 obtain⟨ck,hck⟩:=zr k (Nat.le_refl _) hk
 generalize hZ:swp X k a=Z at *
 have yr:∀i,∃f:Rat,∀j,znj false Z k k i j=Z i j-f*Z k j:=fun i=>by
  by_cases hact:act false Z k k i
  ·refine⟨Z i k/Z k k,fun j=> ?_⟩
   unfold znj
   by_cases hj:k<=j
   ·rw[if_pos ⟨hact,hj⟩]
   ·rw[if_neg (fun h=>hj h.2),zz j (by omega),Rat.mul_zero];grind
  ·exact⟨0,fun j=>by rw[zpg hact];grind⟩
 have yk:∀j,znj false Z k k k j=Z k j:=fun j=>by rw[zpg (fun h=>h.1 rfl)]
 refine⟨⟨τ,tn,fun i hki hi=> ?_,fun i hik=> ?_⟩,fun i hik=> ?_⟩
 ·obtain⟨c,hc⟩:=zr i (by omega) hi
  obtain⟨f,hf⟩:=yr i
  refine⟨fun l=>if l<k then c l-f*ck l else f,fun j hj=> ?_⟩
  have e1:(sg k fun l=>(if l<k then c l-f*ck l else f)*M (τ l) j)=sg k (fun l=>c l*M (τ l) j)+(-f)*sg k fun l=>ck l*M (τ l) j:=by
   rw[<-zcb,<-zvd]
   exact zma fun l hl=>by rw[if_pos hl];grind
  rw[hf j,hc j hj,hck j hj,sg,e1]
  dsimp only
  rw[if_neg (Nat.lt_irrefl k)]
  grind
 ·by_cases e1:i=k
  ·subst e1
   refine⟨fun l=>if l<i then -ck l else 1,fun j hj=> ?_⟩
   have e2:(sg i fun l=>(if l<i then -ck l else 1)*M (τ l) j)=(-1)*sg i fun l=>ck l*M (τ l) j:=by
    rw[<-zcb]
    exact zma fun l hl=>by rw[if_pos hl];grind
   rw[yk,hck j hj,sg,e2]
   dsimp only
   rw[if_neg (Nat.lt_irrefl i)]
   grind
  ·obtain⟨c,hc⟩:=h2 i (by omega)
   obtain⟨f,hf⟩:=yr i
   refine⟨fun l=>if l<k then c l+f*ck l else -f,fun j hj=> ?_⟩
   have e2:(sg k fun l=>(if l<k then c l+f*ck l else -f)*M (τ l) j)=sg k (fun l=>c l*M (τ l) j)+f*sg k fun l=>ck l*M (τ l) j:=by
    rw[<-zcb,<-zvd]
    exact zma fun l hl=>by rw[if_pos hl];grind
   have e3:(sg k fun l=>c l*M (σ l) j)=sg k fun l=>c l*M (τ l) j:=zma fun l hl=>by rw[t0 l hl]
   rw[hf j,zl i (by omega),hc j hj,hck j hj,sg,e2,e3]
   dsimp only
   rw[if_neg (Nat.lt_irrefl k)]
   grind
 ·by_cases e1:i=k
  ·subst e1
   rw[yk]
   have e2:Z i i=X a i:=by rw[<-hZ];unfold swp;rw[if_pos rfl]
   rw[e2];exact hpiv
  ·have e2:znj false Z k k i i=X i i:=by
    unfold znj
    rw[if_neg (fun h=>by omega),zl i (by omega)]
   rw[e2];exact h3 i (by omega)
theorem zpl (hD:D≠0) (hDB:D<=B) (hnm:n<=m) (hβ:dtB n B<=β) (hM:overT n m D B M) (h:(elim false n M n).r=n):∀k,k<=n->zbm n m k D β (bW n D B β) M (elim false n M k).A
 | 0,_=>zbm.start n m D β _ M
 | k+1,hk=>by
   have ih:=zpl hD hDB hnm hβ hM h k (by omega)
   obtain⟨u1,u2,_⟩:=zad h k (by omega)
   have hrk:=zol h (k:=k) (by omega)
   have hrk1:=zol h hk
   have hl:=zyd false n M k
   rw[elim,zzf]at hrk1
   rw[elim,zzf]
   have hlt:pvt n k (elim false n M k)<n:=by
    by_cases h5:pvt n k (elim false n M k)<n
    ·exact h5
    ·rw[if_neg h5,hrk]at hrk1;omega
   rw[if_pos hlt]
   have hge:=zvk n k (elim false n M k)
   have hB:0<B:=by omega
   have hs:=ih.sizes hD hDB (by omega) hnm (Nat.le_trans (zun hB (by omega)) hβ) hM u1 u2
   dsimp only
   rw[hrk]at hge hl |-
   exact ih.step hk hnm hge hlt (fun i j h1 h2 h3=>hl i j h1 h2 h3) (hs.1 _ _ hge hlt (by omega))
theorem sgs_pm (n:Nat) (M:Mx) (k:Nat):sgs false n M k=1\/sgs false n M k= -1:=by
 have h:=sgs_sq false n M k
 by_cases h1:sgs false n M k=1
 ·exact Or.inl h1
 ·right
  have h2:sgs false n M k-1≠0:=fun e=>h1 (by grind)
  have h3:(sgs false n M k-1)*(sgs false n M k+1)=0:=by grind
  rcases Rat.mul_eq_zero.1 h3 with h4 | h4
  ·exact absurd h4 h2
  ·grind
theorem over_pr {G0 W:Nat} {f:Nat->Rat}:∀k,(∀i,i<k->∃G,G≠0/\G<=G0/\over G W (f i))->∃G,G≠0/\G<=G0^k/\over G (W^k) (pr k f)
 | 0,_=>⟨1,by decide,Nat.le_refl _,⟨1,by show(1:Rat)=mkRat 1 1;decide+kernel,Nat.le_refl _⟩⟩
 | k+1,h=>by
   obtain⟨G,h1,h2,h3⟩:=over_pr k fun i hi=>h i (by omega)
   obtain⟨H,g1,g2,g3⟩:=h k (Nat.lt_succ_self k)
   rw[pr,Nat.pow_succ,Nat.pow_succ]
   exact⟨G*H,Nat.mul_ne_zero h1 g1,Nat.mul_le_mul h2 g2,over.mul h3 g3⟩
structure slimB (n D B β:Nat):Prop where
 b:dtB n B<=β
 d0:D≠0
 db:D<=B
 den:bD D β*(bD D β*bN n D B β*bD D β)<2^4096
 num:bN n D B β*(bD D β*bN n D B β*bD D β)+bN n D B β*bD D β*bN n D B β*bD D β<2^4096
 pw1:(D*β*D)^n<2^4096
 pw2:(bW n D B β)^n<2^4096
theorem slimE_minor (hx:slimB n D B β) (hn:0<n) (hnm:n<=m) (hM:overT n m D B M) (h:(elim false n M n).r=n):slimE false n m n M:=by
 have hD:=hx.d0
 have hDB:=hx.db
 have hB:0<B:=by omega
 have hβ0:0<β:=Nat.lt_of_lt_of_le (dtB_pos hB n) hx.b
 have hD1:0<D:=by omega
 have hBD:D*β*D<=bD D β:=Nat.le_mul_of_pos_right _ (Nat.mul_pos hβ0 hD1)
 have hBD1:0<bD D β:=Nat.lt_of_lt_of_le (Nat.mul_pos (Nat.mul_pos hD1 hβ0) hD1) hBD
 have hW1:0<bW n D B β:=by unfold bW;exact Nat.lt_of_lt_of_le (Nat.mul_pos hB (Nat.mul_pos hβ0 hD1)) (Nat.le_add_right _ _)
 have hWN:bW n D B β<=bN n D B β:=Nat.le_add_right _ _
 have hN1:0<bN n D B β:=Nat.lt_of_lt_of_le hW1 hWN
 have hden:=hx.den
 have hnum:=hx.num
 have el:∀k,k<=n->(∀i j,i<n->j<m->∃G,G≠0/\G<=bD D β/\over G (bN n D B β) ((elim false n M k).A i j)):=fun k hk i j hi hj=>by
  have hc:=zpl hD hDB hnm hx.b hM h k hk
  obtain⟨u1,u2,_⟩:=zad h k hk
  obtain⟨s1,s2⟩:=hc.sizes hD hDB hk hnm (Nat.le_trans (zun hB hk) hx.b) hM u1 u2
  rcases Nat.lt_or_ge i k with h1 | h1
  ·obtain⟨G,g1,g2,g3⟩:=s2 i j h1 hj
   exact⟨G,g1,g2,g3.mono (Nat.le_add_left _ _)⟩
  ·obtain⟨G,g1,g2,g3⟩:=s1 i j h1 hi hj
   exact⟨G,g1,Nat.le_trans g2 hBD,g3.mono hWN⟩
 have hP1:bD D β<=bD D β*bN n D B β*bD D β:=Nat.le_mul_of_pos_left _ (Nat.mul_pos hBD1 hN1)
 have hP2:bD D β<=bD D β*(bD D β*bN n D B β*bD D β):=Nat.le_mul_of_pos_right _ (Nat.lt_of_lt_of_le hBD1 hP1)
 have hP3:bN n D B β<=bN n D B β*(bD D β*bN n D B β*bD D β):=Nat.le_mul_of_pos_right _ (Nat.lt_of_lt_of_le hBD1 hP1)
 have dd:∀k,k<=n->∃G,G≠0/\G<2^4096/\∃K,K<2^4096/\over G K (elim false n M k).d:=fun k hk=>by
  have hc:=zpl hD hDB hnm hx.b hM h k hk
  obtain⟨u1,u2,u3⟩:=zad h k hk
  obtain⟨G,g1,g2,g3⟩:=over_pr k hc.2
  have q1:(D*β*D)^k<=(D*β*D)^n:=Nat.pow_le_pow_right (Nat.mul_pos (Nat.mul_pos hD1 hβ0) hD1) hk
  have q2:(bW n D B β)^k<=(bW n D B β)^n:=Nat.pow_le_pow_right hW1 hk
  refine⟨G,g1,Nat.lt_of_le_of_lt (Nat.le_trans g2 q1) hx.pw1,_,Nat.lt_of_le_of_lt q2 hx.pw2,?_⟩
  rw[u3]
  rcases sgs_pm n M k with e | e
  ·rw[e,Rat.one_mul];exact g3
  ·rw[e,show(-1:Rat)*pr k (fun i=>(elim false n M k).A i i)= -pr k (fun i=>(elim false n M k).A i i)by grind];exact over.neg g3
 intro k hk
 refine⟨fun a b ha hb=> ?_,?_,fun hkn=> ?_⟩
 ·obtain⟨G,g1,g2,g3⟩:=el k hk a b ha hb
  exact g3.fits g1 (by omega) (by omega)
 ·obtain⟨G,g1,g2,K,g3,g4⟩:=dd k hk
  exact g4.fits g1 g3 g2
 ·intro hlt
  have hrk:=zol h (k:=k) hk
  have hge:=zvk n k (elim false n M k)
  have hpn:=zfw (zue false n M k).1 hlt
  refine⟨?_,?_,fun i hi hact=> ?_⟩
  ·obtain⟨G,g1,g2,K,g3,g4⟩:=dd k hk
   exact(over.neg g4).fits g1 g3 g2
  ·obtain⟨G,g1,g2,K,g3,g4⟩:=dd (k+1) hkn
   rw[elim,zzf,if_pos hlt]at g4
   exact g4.fits g1 g3 g2
  ·rw[hrk]at hge hact |-
   have hz:∀a b,a<n->b<m->∃G,G≠0/\G<=bD D β/\over G (bN n D B β) (swp (elim false n M k).A k (pvt n k (elim false n M k)) a b):=fun a b ha hb=>by
    unfold swp;split
    ·exact el k hk _ b hlt hb
    ·split
     ·exact el k hk _ b hkn hb
     ·exact el k hk _ b ha hb
   have hkk:swp (elim false n M k).A k (pvt n k (elim false n M k)) k k≠0:=by rw[zek];exact hpn
   generalize swp (elim false n M k).A k (pvt n k (elim false n M k))=Z at *
   obtain⟨G1,a1,a2,a3⟩:=hz i k hi (by omega)
   obtain⟨G2,b1,b2,b3⟩:=hz k k hkn (by omega)
   obtain⟨H,c1,c2,c3⟩:=over.div2 a1 b1 a3 b3 hkk
   have hH:H<=bD D β*bN n D B β:=Nat.le_trans c2 (Nat.mul_le_mul_right _ a2)
   have hHn:bN n D B β*G2<=bN n D B β*bD D β:=Nat.mul_le_mul_left _ b2
   have r1:bD D β*bN n D B β<=bD D β*bN n D B β*bD D β:=Nat.le_mul_of_pos_right _ hBD1
   have r2:bD D β*bN n D B β*bD D β<=bD D β*(bD D β*bN n D B β*bD D β):=Nat.le_mul_of_pos_left _ hBD1
   have r3:bN n D B β*bD D β<=bN n D B β*bD D β*bN n D B β:=Nat.le_mul_of_pos_right _ hN1
   have r4:bN n D B β*bD D β*bN n D B β<=bN n D B β*bD D β*bN n D B β*bD D β:=Nat.le_mul_of_pos_right _ hBD1
   refine⟨c3.fits c1 (by omega) (by omega),fun j hj hkj=> ?_⟩
   obtain⟨G3,d1,d2,d3⟩:=hz k j hkn hj
   obtain⟨G4,e1,e2,e3⟩:=hz i j hi hj
   have m1:=over.mul c3 d3
   have hm1:H*G3≠0:=Nat.mul_ne_zero c1 d1
   have hm2:H*G3<=bD D β*bN n D B β*bD D β:=Nat.mul_le_mul hH d2
   have hm3:bN n D B β*G2*bN n D B β<=bN n D B β*bD D β*bN n D B β:=Nat.mul_le_mul_right _ hHn
   refine⟨m1.fits hm1 (by omega) (by omega),?_⟩
   have m2:=over.sub2 e1 hm1 e3 m1
   have hm4:G4*(H*G3)<=bD D β*(bD D β*bN n D B β*bD D β):=Nat.mul_le_mul e2 hm2
   have hm5:bN n D B β*(H*G3)<=bN n D B β*(bD D β*bN n D B β*bD D β):=Nat.mul_le_mul_left _ hm2
   have hm6:bN n D B β*G2*bN n D B β*G4<=bN n D B β*bD D β*bN n D B β*bD D β:=Nat.mul_le_mul hm3 e2
   exact m2.fits (Nat.mul_ne_zero e1 hm1) (by omega) (by omega)
end
end Go.Proofs.YtlpdkbmmbdfoiaaGreat
namespace Go.Proofs.YtlpdkbmmbdfoiaaGreat
theorem zH {p : Prop} (h : p) : Go.RowKit.Hid p := h
theorem zLR (n:Nat):n<=n:=Nat.le_refl n
theorem zLT {n m k:Nat} (h:n<=m) (h2:m<=k):n<=k:=Nat.le_trans h h2
theorem zZL (n:Nat):0<=n:=Nat.zero_le n
theorem zGE {α:Type _} {l:List α} {i:Nat} (h:i<l.length):l[i]? =some l[i]:=List.getElem?_eq_getElem h
theorem zGD {α:Type _} {l:List α} {i:Nat} {a:α}:l.getD i a=l[i]?.getD a:=List.getD_eq_getElem?_getD
theorem zGM {α:Type _} {l:List α} {n:Nat} (h:n<l.length):l[n]∈l:=List.getElem_mem h
theorem zLL {n m k:Nat} (h:n<=m) (h2:m<k):n<k:=Nat.lt_of_le_of_lt h h2
theorem zLM {n m k:Nat} (h:n<m) (h2:m<=k):n<k:=Nat.lt_of_lt_of_le h h2
theorem zMR {m n:Nat} (k:Nat) (h:m<=n):m*k<=n*k:=Nat.mul_le_mul_right k h
theorem zML {m n:Nat} (k:Nat) (h:m<=n):k*m<=k*n:=Nat.mul_le_mul_left k h
open Go.RowKit
def base :Value->Addr
 | .slice (some a) _ _=>a
 | _=>⟨0,0,none⟩
def ptr (v:Value) (k:Nat):Addr:=(base v).add k
theorem add_add (a:Addr) (j k:Nat):(a.add j).add k=a.add (j+k):=by
 unfold Addr.add
 by_cases hj:j=0<;>by_cases hk:k=0<;>simp[hj,hk]
 omega
theorem ptr_add (v:Value) (j k:Nat):(ptr v j).add k=ptr v (j+k):=add_add _ _ _
theorem zsa (v:Value) (k:Nat):(ptr v k).block=(base v).block:=by
 unfold ptr Addr.add;split<;>rfl
def slen :Value->Nat
 | .slice _ n _=>n
 | _=>0
def scap :Value->Nat
 | .slice _ _ c=>c
 | _=>0
def zgc (v:Value):Prop:=
 ∃a n cap,v= .slice a n cap/\n<=cap/\cap<=maxLen/\(a=none->cap=0)
theorem zgc.nil :zgc (.slice none 0 0):=⟨none,0,0,rfl,zLR _,by simp[maxLen],fun _=>rfl⟩
theorem zgc.le {v:Value} (h:zgc v):slen v<=scap v/\scap v<=9223372036854775807:=by
 obtain⟨a,n,cap,rfl,h1,h2,_⟩:=h;simp[maxLen]at h2;simp[slen,scap];omega
def tk (v:Value) (n:Nat):Value:=match v with
 | .slice a _ cap=> .slice a n cap
 | v=>v
def tk3 (v:Value) (n:Nat):Value:=match v with
 | .slice a _ _=> .slice a n n
 | v=>v
def cut (size:Nat) (v:Value) (lo hi:Nat):Value:=match v with
 | .slice a _ cap=> .slice (if cap=lo then a else a.map (·.add (lo*size))) (hi-lo) (cap-lo)
 | v=>v
theorem zgc.tk {v:Value} {m:Nat} (h:zgc v) (hm:m<=scap v):zgc (tk v m):=by
 obtain⟨a,n,cap,rfl,h1,h2,h3⟩:=h;exact⟨a,m,cap,rfl,hm,h2,h3⟩
theorem zgc.tk3 {v:Value} {m:Nat} (h:zgc v) (hm:m<=scap v):zgc (tk3 v m):=by
 obtain⟨a,n,cap,rfl,h1,h2,h3⟩:=h;simp only[scap]at hm;exact⟨a,m,m,rfl,zLR _,by omega,fun e=>by have:=h3 e;omega⟩
theorem zgc.cut {v:Value} {size lo hi:Nat} (h:zgc v) (hl:lo<=hi) (hh:hi<=scap v):zgc (cut size v lo hi):=by
 obtain⟨a,n,cap,rfl,h1,h2,h3⟩:=h
 simp only[scap]at hh
 refine⟨_,_,cap-lo,rfl,by omega,by omega,fun e=> ?_⟩
 split at e
 ·omega
 ·have :a=none:=by cases a<;>simp_all
  have:=h3 this;omega
theorem zgc.slen_tk {v:Value} (h:zgc v) (m:Nat):slen (Go.Proofs.YtlpdkbmmbdfoiaaGreat.tk v m)=m:=by obtain⟨a,n,cap,rfl,_⟩:=h;rfl
theorem zgc.slen_tk3 {v:Value} (h:zgc v) (m:Nat):slen (Go.Proofs.YtlpdkbmmbdfoiaaGreat.tk3 v m)=m:=by obtain⟨a,n,cap,rfl,_⟩:=h;rfl
theorem zgc.slen_cut {v:Value} (h:zgc v) (size lo hi:Nat):slen (Go.Proofs.YtlpdkbmmbdfoiaaGreat.cut size v lo hi)=hi-lo:=by obtain⟨a,n,cap,rfl,_⟩:=h;rfl
@[simp] theorem base_tk (v : Value) (m : Nat) : base (tk v m) = base v := by cases v <;> first | rfl | (rename_i a n c; cases a <;> rfl)
@[simp] theorem base_tk3 (v : Value) (m : Nat) : base (tk3 v m) = base v := by cases v <;> first | rfl | (rename_i a n c; cases a <;> rfl)
@[simp, go_sem] theorem ptr_tk (v : Value) (m k : Nat) : ptr (tk v m) k = ptr v k := by simp [ptr]
@[simp, go_sem] theorem ptr_tk3 (v : Value) (m k : Nat) : ptr (tk3 v m) k = ptr v k := by simp [ptr]
theorem zwk {v:Value} {size lo hi k:Nat} (h:zgc v) (hh:lo<scap v):ptr (cut size v lo hi) k=ptr v (lo*size+k):=by
 obtain⟨a,n,cap,rfl,h1,h2,h3⟩:=h
 simp only[scap]at hh
 cases a with
 | none=>have:=h3 rfl;omega
 | some a=>
   simp only[cut,ptr]
   rw[if_neg (by omega)]
   simp only[base,Option.map_some,add_add]
section
variable {P:Program} (w:World)
@[go_sem ↓] theorem run_len_sl {t ty : TypeId} {v : Value} (h : zgc v) (ht : P.underlying t = some (.slice (P.elem t))) :
 (Builtin.len_ #[t] ty #[v]).run P w= .ok (.int .i64 (slen v)) w:=by
  obtain⟨a,n,cap,rfl,_⟩:=h
  simp[Builtin.len_,run_underlying ht,goInt,slen]
@[go_sem ↓] theorem run_index_sl {t : TypeId} {v : Value} {i : Int} (h : zgc v) (ht : P.underlying t = some (.slice (P.elem t))) :
 (Instr.indexAt t v (.int .i64 i)).run P w=
  if 0<=i/\i<slen v then((sizeOf (P.elem t)).run P w).andThen fun s w=> .ok (.pointer (some (ptr v (i.toNat*s)))) w
  else(boundsPanic .i64 i (slen v) .index).run P w:=by
  obtain⟨a,n,cap,rfl,hn,_,h3⟩:=h
  cases a with
  | none=>
    have:=h3 rfl
    obtain rfl:n=0:=by omega
    rw[if_neg (by simp only[slen];omega)]
    simp[Instr.indexAt,run_underlying ht,asIntOf,slen]
  | some a=>
    by_cases hc:0<=i/\i<((slen (.slice (some a) n cap):Nat):Int)
    ·have hc':0<=i/\i<(n:Int):=hc
     rw[if_pos hc];simp[Instr.indexAt,run_underlying ht,asIntOf,hc',ptr,base]
    ·have hc':¬ (0<=i/\i<(n:Int)):=hc
     rw[if_neg hc];simp[Instr.indexAt,run_underlying ht,asIntOf,hc',slen]
@[go_sem ↓] theorem run_slice_tk {t : TypeId} {v : Value} {m : Int} (h : zgc v) (ht : P.underlying t = some (.slice (P.elem t))) (h0 : 0 <= m) (h1 : m <= scap v) :
 (Instr.slice t v none (some (.int .i64 m)) none).run P w=((sizeOf (P.elem t)).run P w).andThen fun _ w=> .ok (tk v m.toNat) w:=by
  obtain⟨a,n,cap,rfl,hn,_,h3⟩:=h
  simp only[scap]at h1
  simp[Instr.slice,run_underlying ht,Instr.sliceBounds,Instr.sliceBound,asIntOf,h0,h1,tk]
  cases a<;>simp[Addr.add]
@[go_sem ↓] theorem run_slice_tk3 {t : TypeId} {v : Value} {m : Int} (h : zgc v) (ht : P.underlying t = some (.slice (P.elem t))) (h0 : 0 <= m) (h1 : m <= scap v) :
 (Instr.slice t v none (some (.int .i64 m)) (some (.int .i64 m))).run P w=((sizeOf (P.elem t)).run P w).andThen fun _ w=> .ok (tk3 v m.toNat) w:=by
  obtain⟨a,n,cap,rfl,hn,_,h3⟩:=h
  simp only[scap]at h1
  have e:(m.toNat:Int)=m:=Int.toNat_of_nonneg h0
  simp[Instr.slice,run_underlying ht,Instr.sliceBounds,Instr.sliceBound,asIntOf,h0,h1,e,tk3]
  cases a<;>simp[Addr.add]
def sliceElse (P:Program) (w:World) (t:TypeId) (v:Value) (lo hi:Value):Result Value:=(Instr.slice t v (some lo) (some hi) none).run P w
@[go_sem ↓] theorem run_slice_cut {t : TypeId} {v : Value} {lo hi : Int} (h : zgc v) (ht : P.underlying t = some (.slice (P.elem t))) :
 (Instr.slice t v (some (.int .i64 lo)) (some (.int .i64 hi)) none).run P w=
  if 0<=lo/\lo<=hi/\hi<=scap v then((sizeOf (P.elem t)).run P w).andThen fun s w=> .ok (cut s v lo.toNat hi.toNat) w else sliceElse P w t v (.int .i64 lo) (.int .i64 hi):=by
  obtain⟨a,n,cap,rfl,hn,_,h3⟩:=h
  by_cases hc:0<=lo/\lo<=hi/\hi<=(scap (.slice a n cap):Int)
  ·have hc':=hc
   obtain⟨h0,h1,h2⟩:=hc'
   simp only[scap]at h2
   rw[if_pos hc]
   have e:(hi.toNat:Int)=hi:=Int.toNat_of_nonneg (by omega)
   have h00:0<=hi:=by omega
   simp[Instr.slice,run_underlying ht,Instr.sliceBounds,Instr.sliceBound,asIntOf,h0,h1,h00,h2,e,cut]
  ·rw[if_neg hc];rfl
@[go_sem ↓] theorem run_sliceAt_any {t : TypeId} {v : Value} {lo hi mx : Option Value} (h : P.underlying t = some (.slice (P.elem t))) :
 (Instr.sliceAt t v lo hi mx).run P w=(Instr.slice t v lo hi mx).run P w:=by
  simp[Instr.sliceAt,run_underlying h]
end
theorem zka {B:Nat} (w:World) (k:Nat):Below B w (w.drewN k):=⟨rfl,rfl,rfl,zLR _,fun _ _=>rfl⟩
structure zfc (w:World) (v:Value) (l:List Nat):Prop where
 sl:zgc v
 len:slen v=l.length
 cell:∀ (j:Nat) (h:j<l.length),w.cell? (ptr v j)=some (.int .u32 (l[j]:Nat))
 lm:Lm l
theorem zfc.nil (w:World):zfc w (.slice none 0 0) []:=⟨zgc.nil,rfl,fun j h=>by simp at h,fun x h=>by simp at h⟩
theorem zfc.below {w w':World} {v:Value} {l:List Nat} (h:zfc w v l) (hb:Below w.heap.size w w'):zfc w' v l:=
 ⟨h.sl,h.len,fun j hj=>by
  have hc:=h.cell j hj
  have hlt:=World.block_lt_of_cell? w _ hc
  rw[hb.cell hlt];exact hc,h.lm⟩
theorem zfc.tk {w:World} {v:Value} {l:List Nat} (h:zfc w v l) (n:Nat) (hn:n<=l.length):zfc w (tk v n) (l.take n):=by
 have e:(l.take n).length=n:=by simp;omega
 have:=h.sl.le
 have:=h.len
 refine⟨h.sl.tk (by omega),by rw[e];exact h.sl.slen_tk n,fun j hj=> ?_,fun x hx=>h.lm x (List.mem_of_mem_take hx)⟩
 have:=h.cell j (by omega)
 simp[this]
theorem zfc.tk3 {w:World} {v:Value} {l:List Nat} (h:zfc w v l) (n:Nat) (hn:n<=l.length):zfc w (tk3 v n) (l.take n):=by
 have e:(l.take n).length=n:=by simp;omega
 have:=h.sl.le
 have:=h.len
 refine⟨h.sl.tk3 (by omega),by rw[e];exact h.sl.slen_tk3 n,fun j hj=> ?_,fun x hx=>h.lm x (List.mem_of_mem_take hx)⟩
 have:=h.cell j (by omega)
 simp[this]
theorem zfc.cut {w:World} {v:Value} {l:List Nat} (h:zfc w v l) (lo hi:Nat) (hl:lo<=hi) (hh:hi<=l.length):zfc w (cut 1 v lo hi) ((l.drop lo).take (hi-lo)):=by
 have e:((l.drop lo).take (hi-lo)).length=hi-lo:=by simp;omega
 have:=h.sl.le
 have:=h.len
 refine⟨h.sl.cut hl (by omega),by rw[e];exact h.sl.slen_cut 1 lo hi,fun j hj=> ?_,fun x hx=>h.lm x (List.mem_of_mem_drop (List.mem_of_mem_take hx))⟩
 rw[zwk h.sl (by omega),Nat.mul_one,h.cell (lo+j) (by omega)]
 simp
theorem zfc.lt {w:World} {v:Value} {l:List Nat} (h:zfc w v l) (j:Nat) (hj:j<l.length):l[j]<4294967296:=h.lm _ (zGM hj)
def zce (w:World) (e:TypeId) (B:Nat) (v:Value) (es:List Value):Prop:=w.ownsRow B e 1 v es.length es
section
variable {w:World} {e:TypeId} {B:Nat} {v:Value} {es:List Value}
theorem zce.nil (w:World) (e:TypeId) (B:Nat):zce w e B (.slice none 0 0) []:=World.ownsRow_nil w B e 1
theorem zce.sl (h:zce w e B v es):zgc v:=by
 rcases h.2 with⟨rfl,h0⟩ | ⟨g,cap,cur,rfl,hb,hg,hn,hm,hs,ht⟩
 ·exact zgc.nil
 ·exact⟨_,_,_,rfl,hn,hm,fun e=>by cases e⟩
theorem zce.len (h:zce w e B v es):slen v=es.length:=by
 rcases h.2 with⟨rfl,h0⟩ | ⟨g,cap,cur,rfl,hb,hg,hn,hm,hs,ht⟩
 ·rw[h0];rfl
 ·rfl
theorem zce.cell (h:zce w e B v es) (j:Nat) (hj:j<es.length):w.cell? (ptr v j)=some es[j]:=by
 rcases h.2 with⟨rfl,h0⟩ | ⟨g,cap,cur,rfl,hb,hg,hn,hm,hs,ht⟩
 ·omega
 ·have:=World.ownsRow.cellAt h j (by omega)
  simp only[ptr,base,Addr.add_lit,Nat.zero_add]
  rw[this,zGE hj]
theorem zce.frozen (h:zce w e B v es) (j:Nat) (hj:j<es.length):w.frozen? (ptr v j)=false:=by
 rcases h.2 with⟨rfl,h0⟩ | ⟨g,cap,cur,rfl,hb,hg,hn,hm,hs,ht⟩
 ·omega
 ·have:=World.ownsRow.frozenAt h j
  simpa only[ptr,base,Addr.add_lit,Nat.zero_add]using this
theorem zce.block (h:zce w e B v es) (hj:0<es.length):B<=(base v).block/\(base v).block<w.heap.size:=by
 rcases h.2 with⟨rfl,h0⟩ | ⟨g,cap,cur,rfl,hb,hg,hn,hm,hs,ht⟩
 ·omega
 ·exact⟨hb,(Array.getElem?_eq_some_iff.1 hg).1⟩
theorem zna {w w':World} {row:Option Nat} {B:Nat} (hg:w.grownBy w' row) (hB:B<=w.heap.size) (hr:∀k,row=some k->B<=k):Below B w w':=
 (Below.refl B w).grown hg hB hr
theorem zze {w w':World} (h:Below w.heap.size w w'):w.grownBy w' none:=
 ⟨h.os,h.tape,h.output,h.size,fun k hk _=>h.block k hk⟩
theorem zce.below {w':World} (h:zce w e B v es) (hb:Below w.heap.size w w'):zce w' e B v es:=
 World.ownsRow.kept h (zze hb) (by cases hv:v.ownBlock<;>simp)
theorem zce.alloc (h:zce w e B v es) (o:Obj):zce (w.alloc o) e B v es:=World.ownsRow.alloc h o
theorem zce.set (h:zce w e B v es) (j:Nat) (hj:j<es.length) (u:Value):zce (w.setCell (ptr v j) u) e B v (es.set j u)/\Below B w (w.setCell (ptr v j) u):=by
 have hbl:=h.block (by omega)
 rcases h.2 with⟨rfl,h0⟩ | ⟨g,cap,cur,rfl,hb,hg,hn,hm,hs,ht⟩
 ·omega
 ·have hs:=World.ownsRow.stored h j u
  simp only[ptr,base,Addr.add_lit,Nat.zero_add]
  refine⟨?_,zna hs.2 (by simp only[base]at hbl;omega) (fun k hk=>by simp at hk;omega)⟩
  have:=hs.1
  unfold zce
  rw[List.length_set]
  exact this
theorem zce.other (h:zce w e B v es) (p:Addr) (u:Value) (hp:p.block≠(base v).block):zce (w.setCell p u) e B v es:=by
 refine⟨h.1,?_⟩
 rcases h.2 with⟨rfl,h0⟩ | ⟨g,cap,cur,rfl,hb,hg,hn,hm,hs,ht⟩
 ·exact .inl ⟨rfl,h0⟩
 ·refine .inr ⟨g,cap,cur,rfl,hb,?_,hn,hm,hs,ht⟩
  simp only[base]at hp
  rw[Below.heap_setCell _ _ _ _ (fun e=>hp e.symm)];exact hg
theorem zce.mono {B':Nat} (h:zce w e B v es) (hB:B'<=B):zce w e B' v es:=by
 refine⟨h.1,?_⟩
 rcases h.2 with⟨rfl,h0⟩ | ⟨g,cap,cur,rfl,hb,rest⟩
 ·exact .inl ⟨rfl,h0⟩
 ·exact .inr ⟨g,cap,cur,rfl,by omega,rest⟩
end
theorem zjh {P:Program} (w:World) {ops:Array Oper} {rest:List Oper} {o:Oper} {a:Act} {Q:Exit->Act->World->Prop}
 (hg:o.guard=none) (l c:Operand) (t:TypeId) (hop:o.op=Op.makeSlice t l c)
 (B:Nat) (e:TypeId) (i:TypeInfo) (z:Value) (h1:P.underlying t=some (.slice e)) (h2:P.info? e=some i) (h3:i.zero=some z) (h4:i.size=1) (hz1:z.cells=#[z])
 (n:Nat) (hl:a.eval l= .int .i64 n) (hc:a.eval c= .int .i64 n) (b2:i.bytes*n<=281474976710656) (b3:n<=maxLen) (b4:B<=w.heap.size)
 (hK:∀v w',zce w' e B v (List.replicate n z)->Below w.heap.size w w'->w.heap.size<=(base v).block->wpList P ops Q rest (a.put o.dst v) w'):
 wpList P ops Q (o::rest) a w:=by
 refine wpList_make_full w hg l c t hop B e i z 1 h1 h2 h3 h4 .i64 .i64 n n n hl hc rfl rfl b2 b3 b4 ?_
 intro w' hown hgr
 refine hK _ w' ?_ (zna hgr (zLR _) (fun k hk=>by cases hk)) (by simp[base])
 have :(madeCells z.cells (n*1)).toList=List.replicate n z:=by rw[hz1,Nat.mul_one,toList_madeCells_one]
 rw[this]at hown
 unfold zce
 rw[List.length_replicate]
 exact hown
theorem zlj {P:Program} (w:World) (B:Nat) (t ty e:TypeId) (i:TypeInfo) (z:Value) (bytes:Nat) (ht:P.underlying t=some (.slice e)) (hi:P.info? e=some i) (hz:i.zero=some z)
 (hsize:i.size=1) (hby:i.bytes=bytes) (hzs:z.cells.size=1)
 (v:Value) (es:List Value) (hown:zce w e B v es) (x:Value) (hx:zgc x) (news:List Value) (hlen:slen x=news.length)
 (hnews:∀j (hj:j<news.length),w.cell? (ptr x j)=some news[j]) (h1:∀u∈news,u.oneCell'=true)
 (h63:es.length+news.length<=maxLen) (hbytes:(es.length+news.length)*bytes<=140737488355328) (hbase:B<=w.heap.size):
 ∃v' w',(Builtin.append_ #[t,t] ty #[v,x]).run P w= .ok v' w'/\zce w' e B v' (es++news)/\w.grownBy w' v.ownBlock:=by
 obtain⟨a,n,cap,rfl,hnc,hcm,hnil⟩:=hx
 simp only[slen]at hlen
 subst hlen
 cases a with
 | none=>
   have:=hnil rfl
   obtain rfl:cap=0:=this
   have hn:news= []:=List.eq_nil_of_length_eq_zero (by omega)
   subst hn
   refine⟨v,w,run_append_owned_none w B t ty e i 1 ht hi v es.length es hown,?_,⟨rfl,rfl,rfl,zLR _,fun _ _ _=>rfl⟩⟩
   rw[List.append_nil];exact hown
 | some a=>
   obtain⟨v',w',h2,h3,h4,_⟩:=run_append_own (P:=P) w B t ty e i z 1 bytes ht hi hz hsize hby hzs (by omega) v es.length es hown a news.length cap news (by omega)
    (fun j u hu=>by
     have hj:j<news.length:=(List.getElem?_eq_some_iff.1 hu).1
     have:=hnews j hj
     simp only[ptr,base]at this
     rw[this];rw[zGE hj]at hu;exact hu) h1 h63 hbytes hbase
   refine⟨v',w',h2,?_,h4⟩
   unfold zce
   rw[List.length_append]
   exact h3
theorem zce.ownBlock {w:World} {e:TypeId} {B:Nat} {v:Value} {es:List Value} (h:zce w e B v es):∀k,v.ownBlock=some k->B<=k:=fun k hk=>(World.ownsRow.lt h k hk).1
theorem zie {P:Program} (w:World) {ops:Array Oper} {rest:List Oper} {o:Oper} {a:Act} {Q:Exit->Act->World->Prop} (hgd:o.guard=none) (s x:Operand) (t:TypeId)
 (ho:o.op= .call { callee:= .builtin .append,args:=#[s,x],argTypes:=#[t,t] })
 (B:Nat) (e:TypeId) (i:TypeInfo) (z:Value) (bytes:Nat) (ht:P.underlying t=some (.slice e)) (hi:P.info? e=some i) (hz:i.zero=some z)
 (hsize:i.size=1) (hby:i.bytes=bytes) (hzs:z.cells.size=1)
 (v:Value) (es:List Value) (hs:a.eval s=v) (hown:zce w e B v es) (xv:Value) (hxe:a.eval x=xv) (hx:zgc xv) (news:List Value) (hlen:slen xv=news.length)
 (hnews:∀j (hj:j<news.length),w.cell? (ptr xv j)=some news[j]) (h1:∀u∈news,u.oneCell'=true)
 (h63:es.length+news.length<=maxLen) (hbytes:(es.length+news.length)*bytes<=140737488355328) (hbase:B<=w.heap.size)
 (h:∀v' w',zce w' e B v' (es++news)->w.grownBy w' v.ownBlock->Below B w w'->wpList P ops Q rest (a.put o.dst v') w'):wpList P ops Q (o::rest) a w:=by
 refine wpList_plain hgd fun K hK=> ?_
 obtain⟨v',w',hr,h2,h3⟩:=zlj (P:=P) w B t o.type e i z bytes ht hi hz hsize hby hzs v es hown xv hx news hlen hnews h1 h63 hbytes hbase
 unfold Oper.wp execOp
 simp only[ho,resolve,invoke,builtin,Sem.run_bind,Sem.run_pure,Result.andThen_ok,List.map_toArray,List.map_cons,List.map_nil,hs,hxe,hr]
 exact hK _ _ (h v' w' h2 h3 (zna h3 hbase hown.ownBlock))
theorem zsj {P:Program} (w0:World) {ops:Array Oper} {rest:List Oper} {o:Oper} {a:Act} {Q:Exit->Act->World->Prop} (hgd:o.guard=none) (s x:Operand) (t:TypeId)
 (ho:o.op= .call { callee:= .builtin .append,args:=#[s,x],argTypes:=#[t,t] })
 (B:Nat) (e e':TypeId) (i:TypeInfo) (z:Value) (bytes:Nat) (ht:P.underlying t=some (.slice e)) (hi:P.info? e=some i) (hz:i.zero=some z)
 (hsize:i.size=1) (hby:i.bytes=bytes) (hzs:z.cells.size=1)
 (v:Value) (es:List Value) (hs:a.eval s=v) (hown:zce w0 e B v es) (u:Value) (hxe:a.eval x= .slice (some ⟨w0.heap.size,0,none⟩) 1 1) (h1:u.oneCell'=true)
 (h63:es.length+1<=maxLen) (hbytes:(es.length+1)*bytes<=140737488355328) (hbase:B<=w0.heap.size)
 (h:∀v' w',zce w' e B v' (es++ [u])->Below B w0 w'->wpList P ops Q rest (a.put o.dst v') w'):wpList P ops Q (o::rest) a (w0.alloc (.cells #[u] e')):=by
 refine zie (w0.alloc (.cells #[u] e')) hgd s x t ho B e i z bytes ht hi hz hsize hby hzs v es hs (hown.alloc _) _ hxe ⟨_,1,1,rfl,zLR _,by simp[maxLen],fun e=>by cases e⟩ [u] rfl
  (fun j hj=> ?_) (fun u' hu'=>by simp at hu';subst hu';exact h1) h63 hbytes (by simp;omega) (fun v' w' h2 _ h3=>h v' w' h2 (((Below.refl B w0).alloc hbase _).trans h3))
 have hj0:j=0:=by simp at hj;omega
 subst hj0
 simp[ptr,base,Addr.add]
def u32V (x:Nat):Value:= .int .u32 (x:Nat)
structure zcc (w:World) (e:TypeId) (B:Nat) (v:Value) (o:List Nat):Prop where
 own:zce w e B v (o.map u32V)
 lm:Lm o
section
variable {w:World} {e:TypeId} {B:Nat} {v:Value} {o:List Nat}
theorem zcc.nil (w:World) (e:TypeId) (B:Nat):zcc w e B (.slice none 0 0) []:=⟨zce.nil w e B,fun x h=>by simp at h⟩
theorem zcc.nat (h:zcc w e B v o):zfc w v o:=
 ⟨h.own.sl,by rw[h.own.len,List.length_map],fun j hj=>by rw[h.own.cell j (by simpa using hj)];simp[u32V],h.lm⟩
theorem zcc.below {w':World} (h:zcc w e B v o) (hb:Below w.heap.size w w'):zcc w' e B v o:=⟨h.own.below hb,h.lm⟩
theorem zcc.frozen (h:zcc w e B v o) (j:Nat) (hj:j<o.length):w.frozen? (ptr v j)=false:=h.own.frozen j (by simpa using hj)
theorem zcc.block (h:zcc w e B v o) (hj:0<o.length):B<=(base v).block/\(base v).block<w.heap.size:=h.own.block (by simpa using hj)
theorem Lm.set {o:List Nat} (h:Lm o) (j x:Nat) (hx:x<4294967296):Lm (o.set j x):=fun y hy=>by
 rcases List.mem_or_eq_of_mem_set hy with h' | h'
 ·exact h y h'
 ·omega
theorem Lm.append {o p:List Nat} (h:Lm o) (h':Lm p):Lm (o++p):=fun y hy=>(List.mem_append.1 hy).elim (h y) (h' y)
theorem Lm.one {x:Nat} (h:x<4294967296):Lm [x]:=fun y hy=>by simp at hy;omega
theorem Lm.take {o:List Nat} (h:Lm o) (k:Nat):Lm (o.take k):=fun y hy=>h y (List.mem_of_mem_take hy)
theorem Lm.drop {o:List Nat} (h:Lm o) (k:Nat):Lm (o.drop k):=fun y hy=>h y (List.mem_of_mem_drop hy)
theorem Lm.replicate (n:Nat):Lm (List.replicate n 0):=fun y hy=>by have:=List.eq_of_mem_replicate hy;omega
theorem zcc.set (h:zcc w e B v o) (j:Nat) (hj:j<o.length) (x:Nat) (hx:x<4294967296):
 zcc (w.setCell (ptr v j) (.int .u32 (x:Nat))) e B v (o.set j x)/\Below B w (w.setCell (ptr v j) (.int .u32 (x:Nat))):=by
 have:=h.own.set j (by simpa using hj) (u32V x)
 refine⟨⟨?_,h.lm.set j x hx⟩,this.2⟩
 rw[List.map_set];exact this.1
end
theorem zkj {P:Program} (t e:TypeId) (i:TypeInfo) (ht:P.underlying t=some (.slice e)) (hi:P.info? e=some i) (hz:i.zero=some (.int .u32 0))
 (hsize:i.size=1) (hby:i.bytes=4) (w:World) {ops:Array Oper} {rest:List Oper} {o:Oper} {a:Act} {Q:Exit->Act->World->Prop} (hgd:o.guard=none) (s x:Operand)
 (ho:o.op= .call { callee:= .builtin .append,args:=#[s,x],argTypes:=#[t,t] }) (B:Nat)
 (v:Value) (es:List Nat) (hs:a.eval s=v) (hown:zcc w e B v es) (xv:Value) (hxe:a.eval x=xv) (l:List Nat) (hx:zfc w xv l) (hb:es.length+l.length<=35184372088832) (hbase:B<=w.heap.size)
 (h:∀v' w',zcc w' e B v' (es++l)->w.grownBy w' v.ownBlock->Below B w w'->wpList P ops Q rest (a.put o.dst v') w'):wpList P ops Q (o::rest) a w:=by
 refine zie w hgd s x t ho B e i (.int .u32 0) 4 ht hi hz hsize hby rfl v (es.map u32V) hs hown.own xv hxe hx.sl (l.map u32V) (by rw[hx.len,List.length_map])
  (fun j hj=>by rw[hx.cell j (by simpa using hj)];simp[u32V]) (fun u hu=>by obtain⟨x,_,rfl⟩:=List.mem_map.1 hu;rfl)
  (by simp[maxLen];omega) (by simp;omega) hbase ?_
 intro v' w' h2 h3 h4
 exact h v' w' ⟨by rw[List.map_append];exact h2,hown.lm.append hx.lm⟩ h3 h4
theorem zuf {P:Program} (t e:TypeId) (i:TypeInfo) (ht:P.underlying t=some (.slice e)) (hi:P.info? e=some i) (hz:i.zero=some (.int .u32 0))
 (hsize:i.size=1) (hby:i.bytes=4) (w0:World) {ops:Array Oper} {rest:List Oper} {o:Oper} {a:Act} {Q:Exit->Act->World->Prop} (hgd:o.guard=none) (s x:Operand)
 (ho:o.op= .call { callee:= .builtin .append,args:=#[s,x],argTypes:=#[t,t] }) (B:Nat) (e':TypeId)
 (v:Value) (es:List Nat) (hs:a.eval s=v) (hown:zcc w0 e B v es) (u:Int) (y:Nat) (hu:u=y) (hy:y<4294967296) (hxe:a.eval x= .slice (some ⟨w0.heap.size,0,none⟩) 1 1) (hb:es.length+1<=35184372088832) (hbase:B<=w0.heap.size)
 (h:∀v' w',zcc w' e B v' (es++ [y])->Below B w0 w'->wpList P ops Q rest (a.put o.dst v') w'):wpList P ops Q (o::rest) a (w0.alloc (.cells #[.int .u32 u] e')):=by
 subst hu
 refine zsj w0 hgd s x t ho B e e' i (.int .u32 0) 4 ht hi hz hsize hby rfl v (es.map u32V) hs hown.own (u32V y) hxe rfl (by simp[maxLen];omega) (by simp;omega) hbase ?_
 intro v' w' h2 h4
 exact h v' w' ⟨by rw[List.map_append];exact h2,hown.lm.append (Lm.one hy)⟩ h4
theorem zmd {P:Program} (t e:TypeId) (i:TypeInfo) (h1:P.underlying t=some (.slice e)) (h2:P.info? e=some i) (h3:i.zero=some (.int .u32 0)) (h4:i.size=1) (h5:i.bytes=4)
 (w:World) {ops:Array Oper} {rest:List Oper} {o:Oper} {a:Act} {Q:Exit->Act->World->Prop} (hg:o.guard=none) (l c:Operand) (hop:o.op=Op.makeSlice t l c)
 (B:Nat) (u:Int) (n:Nat) (hu:u=n) (hl:a.eval l= .int .i64 u) (hc:a.eval c= .int .i64 u) (b2:n<=35184372088832) (b4:B<=w.heap.size)
 (hK:∀v w',zcc w' e B v (List.replicate n 0)->Below w.heap.size w w'->w.heap.size<=(base v).block->wpList P ops Q rest (a.put o.dst v) w'):
 wpList P ops Q (o::rest) a w:=by
 subst hu
 refine zjh w hg l c t hop B e i (.int .u32 0) h1 h2 h3 h4 rfl n hl hc (by rw[h5];omega) (by simp[maxLen];omega) b4 ?_
 intro v w' a1 a2 a3
 exact hK v w' ⟨by rw[List.map_replicate];exact a1,Lm.replicate n⟩ a2 a3
set_option maxHeartbeats 400000
def zob (w:World) (v:Value) (n:Nat):Prop:=∃l,zfc w v l/\val l=n/\l.length<=4294967296
def zjb (w:World) (v:Value) (n:Nat):Prop:=zfc w v (zla n)/\zda n<=4294967296
theorem zjb.nat {w:World} {v:Value} {n:Nat} (h:zjb w v n):zob w v n:=⟨_,h.1,zha n,h.2⟩
theorem zjb.below {w w':World} {v:Value} {n:Nat} (h:zjb w v n) (hb:Below w.heap.size w w'):zjb w' v n:=⟨h.1.below hb,h.2⟩
theorem zob.below {w w':World} {v:Value} {n:Nat} (h:zob w v n) (hb:Below w.heap.size w w'):zob w' v n:=by
 obtain⟨l,h,e⟩:=h;exact⟨l,h.below hb,e⟩
theorem zjb.nil (w:World):zjb w (.slice none 0 0) 0:=by unfold zjb;rw[zbc,zzc];exact⟨zfc.nil w,by omega⟩
theorem zob.drawn {w:World} {v:Value} {n:Nat} (h:zob w v n) (k:Nat):zob (w.drewN k) v n:=h.below (zka w k)
theorem zjb.drawn {w:World} {v:Value} {n:Nat} (h:zjb w v n) (k:Nat):zjb (w.drewN k) v n:=h.below (zka w k)
theorem zfc.natN {w:World} {v:Value} {l:List Nat} (h:zfc w v l) (hl:l.length<=4294967296):zob w v (val l):=⟨l,h,rfl,hl⟩
theorem zsb {l:List Nat} (h:Lm l):zda (val l)<=l.length:=by rw[<-zhj h];exact zgj l
theorem zfc.can {w:World} {v:Value} {l:List Nat} (h:zfc w v l) (hl:l.length<=4294967296):zjb w (Go.Proofs.YtlpdkbmmbdfoiaaGreat.tk v (zda (val l))) (val l):=by
 refine⟨?_,zLT (zsb h.lm) hl⟩
 rw[zhl h.lm,<-zhj h.lm];exact h.tk _ (zgj l)
theorem zfc.can3 {w:World} {v:Value} {l:List Nat} (h:zfc w v l) (hl:l.length<=4294967296):zjb w (Go.Proofs.YtlpdkbmmbdfoiaaGreat.tk3 v (zda (val l))) (val l):=by
 refine⟨?_,zLT (zsb h.lm) hl⟩
 rw[zhl h.lm,<-zhj h.lm];exact h.tk3 _ (zgj l)
theorem length_v (v:Value) (l:List Nat) (w:World) (h:zfc w v l):
 Calls Tryz.prog 198 #[v] w fun e w'=>e= .returned (.int .i64 (clen l))/\w=w':=by
 have hs:=h.sl
 have hlen:=h.len
 have hle:=hs.le
 go_enter Tryz.func198,Tryz.ntmps198
 go_wp2
 go_loop [3] (fun i=>∃k:Nat,k<=l.length/\i= .int .i64 k/\clen (l.take k)=clen l) (fun i=>(intOf i).toNat)
 case atStart=>exact⟨l.length,zLR _,rfl,by rw[List.take_length]⟩
 case round=>
  obtain⟨k,hk,rfl,hce⟩:=hrel
  have HC:=zH hce;clear hce
  by_cases h0:0<k
  ·obtain⟨j,rfl⟩:∃j,k=j+1:=⟨k-1,by omega⟩
   have hj:j<l.length:=by omega
   have hc:=h.cell j hj
   go_wp2
   ·go_round
    case rel=>exact⟨j,by omega,rfl,by rw[<-HC.out,zbf l j hj (by simp_all)]⟩
    case measure=>simp[intOf]
   ·go_ret
    exact⟨by rw[<-HC.out,zki l j hj (by simp_all)];simp,rfl⟩
  ·have hk0:k=0:=by omega
   subst hk0
   go_wp2
   go_ret
   exact⟨by rw[<-HC.out];simp[clen],rfl⟩
theorem zdb (v:Value) (n:Nat) (w:World) (h:zob w v n):
 Calls Tryz.prog 198 #[v] w fun e w'=>e= .returned (.int .i64 (zda n))/\w=w':=by
 obtain⟨l,h,rfl,_⟩:=h
 rw[<-zhj h.lm]
 exact length_v v l w h
theorem large_any (v:Value) (n:Nat) (w:World) (h:zob w v n):
 Calls Tryz.prog 200 #[v] w fun e w'=>e= .returned (.bool (decide (512<zda n)))/\w=w':=by
 go_enter Tryz.func200,Tryz.ntmps200
 go_wp2_with (go_at_call 198;refine(zdb v n _ h).mono ?_;rintro e w' ⟨rfl,rfl⟩)
 go_ret
 exact⟨by congr 2;simp;omega,rfl⟩
def SizedP (w:World) (r:Value) (er:Int) (n:Nat):Prop:=(zda n<=512->er=0/\zjb w r n)/\(512<zda n->er=2/\zjb w r 0)
def zxm (w0:World) (n:Nat) (e:Ending) (w:World):Prop:=
 ∃r er,e= .returned (.tuple #[r, .int .i64 er])/\SizedP w r er n/\Below w0.heap.size w0 w
theorem zph (v:Value) (l:List Nat) (w:World) (h:zfc w v l) (hll:l.length<=4294967296):
 Calls Tryz.prog 201 #[v] w (zxm w (val l)):=by
 have hs:=h.sl
 have hlen:=h.len
 have hle:=hs.le
 have hcl:=zgj l
 rw[zhj h.lm]at hcl
 have hcs:zda (val l)<=scap v:=by omega
 go_enter Tryz.func201,Tryz.ntmps201
 go_wp2_with (go_at_call 198;refine(zdb v (val l) _ (h.natN hll)).mono ?_;rintro e w' ⟨rfl,rfl⟩)
 ·go_ret2
  have hbig:¬zda (val l)<=512:=by omega
  exact⟨_,2,rfl,⟨fun h=>by omega,fun _=>⟨rfl,zjb.nil w⟩⟩,Below.refl _ _⟩
 ·go_ret2
  have hbig:zda (val l)<=512:=by omega
  exact⟨_,0,rfl,⟨fun _=>⟨rfl,h.can3 hll⟩,fun h=>by omega⟩,Below.refl _ _⟩
theorem Tryz.info102 :(Tryz.prog.info? 142).map (fun i=>(i.zero,i.size,i.bytes))=some (some (.int .u32 0),1,4):=by kernel_rfl
def RNat (w0:World) (n:Nat) (e:Ending) (w:World):Prop:=∃r,e= .returned r/\zjb w r n/\Below w0.heap.size w0 w
theorem zjd (v:Value) (n:Nat) (w:World) (h:zob w v n):
 Calls Tryz.prog 194 #[v] w (RNat w n):=by
 have hN:=h
 obtain⟨l,hl,HE,hll⟩:=h
 have hs:=hl.sl
 have hlen:=hl.len
 have hle:=hs.le
 have hcan:=hl.can hll
 rw[HE]at hcan
 have hcl:=zsb hl.lm
 rw[HE]at hcl
 clear HE
 have hcs:zda n<=scap v:=by omega
 obtain⟨i0,hi,hz0,hz1,hz2⟩:=info_parts Tryz.info102
 have hroom:([]:List Nat).length+(zla n).length<=35184372088832:=by have:=hcan.2;unfold zda at this;simp;omega
 have hA:=zkj (P:=Tryz.prog) 36 142 i0 Tryz.underlying36 hi hz0 hz1 hz2
 go_enter Tryz.func194,Tryz.ntmps194
 go_wp2_with (first
  |(go_at_call 198;refine(zdb v n _ hN).mono ?_;rintro e w' ⟨rfl,rfl⟩)
  |(at_builtin;refine hA w rfl _ _ rfl w.heap.size _ [] rfl (zcc.nil _ _ _) _ rfl (zla n) hcan.1 hroom (zLR _) ?_;intro v' w1 hown _ hbel))
 go_ret
 exact⟨v',rfl,⟨by simpa using hown.nat,hcan.2⟩,hbel⟩
theorem zud (v:Value) (n:Nat) (w:World) (h:zob w v n) (hn:zda n<=512):
 Calls Tryz.prog 200 #[v] w fun e w'=>e= .returned (.bool false)/\w=w':=
 (large_any v n w h).mono fun e w' ⟨h1,h2⟩=>⟨by rw[h1,decide_eq_false (by omega)],h2⟩
theorem zob.scap {w:World} {v:Value} {n:Nat} (h:zob w v n):zgc v/\zda n<=scap v/\zjb w (Go.Proofs.YtlpdkbmmbdfoiaaGreat.tk v (zda n)) n:=by
 obtain⟨l,hl,rfl,hll⟩:=h
 have:=hl.len
 have:=hl.sl.le
 have:=zsb hl.lm
 exact⟨hl.sl,by omega,hl.can hll⟩
set_option maxHeartbeats 800000 in
theorem add_any (va vb:Value) (m n:Nat) (w:World) (ha:zob w va m) (hb:zob w vb n) (hm:zda m<=512) (hn:zda n<=512):
 Calls Tryz.prog 158 #[va,vb] w (zxm w (m+n)):=by
 obtain⟨sa,ca,ka⟩:=ha.scap
 obtain⟨sb,cb,kb⟩:=hb.scap
 obtain⟨i0,hi,hz0,hz1,hz2⟩:=info_parts Tryz.info102
 have hM:=zmd (P:=Tryz.prog) 36 142 i0 Tryz.underlying36 hi hz0 hz1 hz2
 go_enter Tryz.func158,Tryz.ntmps158
 go_wp2_with (go_at_call 200;first | ((with_reducible refine(zud va m _ ha hm).mono ?_);rintro e w' ⟨rfl,rfl⟩) | ((with_reducible refine(zud vb n _ hb hn).mono ?_);rintro e w' ⟨rfl,rfl⟩))
 go_quiet ((go_at_call 198;first | with_reducible exact Calls.quiet_of_same ((zdb va m _ (ha.drawn _)).mono fun e w' ⟨h1,h2⟩=>⟨h1,h2.symm⟩) | with_reducible exact Calls.quiet_of_same ((zdb vb n _ (hb.drawn _)).mono fun e w' ⟨h1,h2⟩=>⟨h1,h2.symm⟩)))
 have l1:slen (tk va (zda m))=zda m:=ka.1.len
 have l2:slen (tk vb (zda n))=zda n:=kb.1.len
 have s1:=ka.1.sl
 have s2:=kb.1.sl
 clear ha hb sa sb ca cb
 generalize tk va (zda m)=xa at *
 generalize tk vb (zda n)=xb at *
 have kb':=kb.drawn nq
 have ka':=ka.drawn nq
 have hbel:=zka (B:=w.heap.size) w nq
 generalize w.drewN nq=W at *
 by_cases hlt:zda m<zda n
 ·skip
  go_wp2_with (refine hM _ rfl _ _ rfl W.heap.size _ (zda n+1) rfl rfl rfl (by omega) (zLR _) ?_;intro v w1 hown hb1 hvb)
  have hbw:Below w.heap.size w w1:=hbel.trans (hb1.mono hbel.size)
  clear hM
  go_loopw [7,36] (fun u7 u36 wr=>∃ (k c:Nat) (o:List Nat),k<=zda n/\u36= .int .i64 k/\u7= .int .u64 c/\c<=1/\zcc wr 142 W.heap.size v o/\o.length=zda n+1/\
   val (o.take k)+pw k*c=val ((zla n).take k)+val ((zla m).take k)/\Below W.heap.size W wr) (fun _ u36 _=>zda n- (intOf u36).toNat)
  case atStart=>exact⟨0,0,_,zZL _,rfl,rfl,by omega,hown,by simp,by simp[val],hb1⟩
  case round=>
   obtain⟨k,c,o,hk,rfl,rfl,hc,hownr,hol,hval,hbr⟩:=hrel
   have hcx:=((kb'.below hbr).1).cell
   have hcy:=((ka'.below hbr).1).cell
   have sv:=hownr.nat.sl
   have lv:slen v=zda n+1:=by rw[hownr.nat.len,hol]
   have HV:=zH hval
   clear hval
   by_cases hkp:k<zda n
   ·have hx:=hcx k hkp
    have hx1:(zla n)[k]'hkp<4294967296:=zrb n _ (zGM _)
    have hfz:=hownr.frozen k (by omega)
    have hco:=hownr.nat.cell k (by omega)
    clear hcx
    by_cases hkq:k<zda m
    ·have hy:=hcy k hkq
     have hy1:(zla m)[k]'hkq<4294967296:=zrb m _ (zGM _)
     clear hcy
     have HX:=zH (zia (zla n) k hkp)
     have HY:=zH (zia (zla m) k hkq)
     generalize (zla n)[k]'hkp=x at *
     generalize (zla m)[k]'hkq=y at *
     go_wp2
     have hset:=hownr.set k (by omega) ((c+x+y)%4294967296) (by omega)
     rw[show(((c+x+y)%4294967296:Nat):Int)=((c:Int)+x+y)%4294967296 from by omega]at hset
     go_roundw
     case rel=>exact⟨k+1,(c+x+y)/4294967296,_,by omega,by go_num,by go_num,by omega,hset.1,by simp[hol],zli (by omega) HX.out HY.out HV.out,hbr.trans hset.2⟩
     case measure=>simp[intOf];omega
    ·have HX:=zH (zia (zla n) k hkp)
     have HY:=zH (zje (zla m) k (by unfold zda at hkq;omega))
     clear hcy
     generalize (zla n)[k]'hkp=x at *
     go_wp2
     have hset:=hownr.set k (by omega) ((c+x+0)%4294967296) (by omega)
     rw[show(((c+x+0)%4294967296:Nat):Int)=((c:Int)+x)%4294967296 from by omega]at hset
     go_roundw
     case rel=>exact⟨k+1,(c+x+0)/4294967296,_,by omega,by go_num,by go_num,by omega,hset.1,by simp[hol],zli (by omega) HX.out (by rw[HY.out];rfl) HV.out,hbr.trans hset.2⟩
     case measure=>simp[intOf];omega
   ·have hkk:k=zda n:=by omega
    subst hkk
    clear hcx hcy
    have hfz:=hownr.frozen (zda n) (by omega)
    have hco:=hownr.nat.cell (zda n) (by omega)
    have hset:=hownr.set (zda n) (by omega) c (by omega)
    have hv2:val (o.set (zda n) c)=m+n:=by
     have e:=zkb o (zda n) c (by omega)
     rw[List.take_of_length_le (by simp;omega)]at e
     rw[e,HV.out,List.take_of_length_le (show zda n<=zda n from zLR _),List.take_of_length_le (show zda m<=zda n by omega),zha,zha,Nat.add_comm]
    have HS:=zH (zph v _ _ hset.1.nat (by simp;omega))
    have HV2:=zH hv2
    have HB:=zH (hbr.trans hset.2)
    clear hset hv2 hbr HV
    go_wp2_with (go_at_call 201;refine HS.out.mono ?_;rintro e w' ⟨r,er,rfl,hr,hbl⟩)
    go_ret2
    rw[HV2.out]at hr
    exact⟨r,er,rfl,hr,hbel.trans ((HB.out.trans (hbl.mono HB.out.size)).mono hbel.size)⟩
 ·skip
  go_wp2_with (refine hM _ rfl _ _ rfl W.heap.size _ (zda m+1) rfl rfl rfl (by omega) (zLR _) ?_;intro v w1 hown hb1 hvb)
  have hbw:Below w.heap.size w w1:=hbel.trans (hb1.mono hbel.size)
  clear hM
  go_loopw [7,36] (fun u7 u36 wr=>∃ (k c:Nat) (o:List Nat),k<=zda m/\u36= .int .i64 k/\u7= .int .u64 c/\c<=1/\zcc wr 142 W.heap.size v o/\o.length=zda m+1/\
   val (o.take k)+pw k*c=val ((zla m).take k)+val ((zla n).take k)/\Below W.heap.size W wr) (fun _ u36 _=>zda m- (intOf u36).toNat)
  case atStart=>exact⟨0,0,_,zZL _,rfl,rfl,by omega,hown,by simp,by simp[val],hb1⟩
  case round=>
   obtain⟨k,c,o,hk,rfl,rfl,hc,hownr,hol,hval,hbr⟩:=hrel
   have hcx:=((ka'.below hbr).1).cell
   have hcy:=((kb'.below hbr).1).cell
   have sv:=hownr.nat.sl
   have lv:slen v=zda m+1:=by rw[hownr.nat.len,hol]
   have HV:=zH hval
   clear hval
   by_cases hkp:k<zda m
   ·have hx:=hcx k hkp
    have hx1:(zla m)[k]'hkp<4294967296:=zrb m _ (zGM _)
    have hfz:=hownr.frozen k (by omega)
    have hco:=hownr.nat.cell k (by omega)
    clear hcx
    by_cases hkq:k<zda n
    ·have hy:=hcy k hkq
     have hy1:(zla n)[k]'hkq<4294967296:=zrb n _ (zGM _)
     clear hcy
     have HX:=zH (zia (zla m) k hkp)
     have HY:=zH (zia (zla n) k hkq)
     generalize (zla m)[k]'hkp=x at *
     generalize (zla n)[k]'hkq=y at *
     go_wp2
     have hset:=hownr.set k (by omega) ((c+x+y)%4294967296) (by omega)
     rw[show(((c+x+y)%4294967296:Nat):Int)=((c:Int)+x+y)%4294967296 from by omega]at hset
     go_roundw
     case rel=>exact⟨k+1,(c+x+y)/4294967296,_,by omega,by go_num,by go_num,by omega,hset.1,by simp[hol],zli (by omega) HX.out HY.out HV.out,hbr.trans hset.2⟩
     case measure=>simp[intOf];omega
    ·have HX:=zH (zia (zla m) k hkp)
     have HY:=zH (zje (zla n) k (by unfold zda at hkq;omega))
     clear hcy
     generalize (zla m)[k]'hkp=x at *
     go_wp2
     have hset:=hownr.set k (by omega) ((c+x+0)%4294967296) (by omega)
     rw[show(((c+x+0)%4294967296:Nat):Int)=((c:Int)+x)%4294967296 from by omega]at hset
     go_roundw
     case rel=>exact⟨k+1,(c+x+0)/4294967296,_,by omega,by go_num,by go_num,by omega,hset.1,by simp[hol],zli (by omega) HX.out (by rw[HY.out];rfl) HV.out,hbr.trans hset.2⟩
     case measure=>simp[intOf];omega
   ·have hkk:k=zda m:=by omega
    subst hkk
    clear hcx hcy
    have hfz:=hownr.frozen (zda m) (by omega)
    have hco:=hownr.nat.cell (zda m) (by omega)
    have hset:=hownr.set (zda m) (by omega) c (by omega)
    have hv2:val (o.set (zda m) c)=m+n:=by
     have e:=zkb o (zda m) c (by omega)
     rw[List.take_of_length_le (by simp;omega)]at e
     rw[e,HV.out,List.take_of_length_le (show zda m<=zda m from zLR _),List.take_of_length_le (show zda n<=zda m by omega),zha,zha,Nat.add_comm]
    have HS:=zH (zph v _ _ hset.1.nat (by simp;omega))
    have HV2:=zH hv2
    have HB:=zH (hbr.trans hset.2)
    clear hset hv2 hbr HV
    go_wp2_with (go_at_call 201;refine HS.out.mono ?_;rintro e w' ⟨r,er,rfl,hr,hbl⟩)
    go_ret2
    rw[HV2.out]at hr
    exact⟨r,er,rfl,hr,hbel.trans ((HB.out.trans (hbl.mono HB.out.size)).mono hbel.size)⟩
end Go.Proofs.YtlpdkbmmbdfoiaaGreat
