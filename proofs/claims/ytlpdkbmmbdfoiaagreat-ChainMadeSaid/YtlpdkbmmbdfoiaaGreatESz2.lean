/- Lemmas. -/
import Derived.Test.YtlpdkbmmbdfoiaaGreatELi9
set_option linter.unusedVariables false
namespace Go.Proofs.YtlpdkbmmbdfoiaaGreat
theorem wts_sgN (l:List Rat):wts l=sgN l.length fun i=>wt (l.getD i 0):=by
 have key:∀k,k<=l.length->wts (l.take k)=sgN k fun i=>wt (l.getD i 0):=by
  intro k
  induction k with
  | zero=>intro _;rfl
  | succ k ih=>
    intro h
    rw[wts_take l k (by omega),sgN,ih (by omega)]
    simp[List.getD,zGE (show k<l.length by omega)]
 have:=key l.length (zLR _)
 rwa[List.take_length]at this
theorem wtF_succ (n m:Nat) (A:Mx):wtF (n+1) m A=wtF n m A+wts (zib m (A n)):=by
 unfold wtF zxr rawM
 rw[List.range_succ,List.map_append,List.map_append,List.sum_append]
 simp only[List.map_cons,List.map_nil,List.sum_cons,List.sum_nil,Nat.add_zero]
 congr 1
 have e:qs ((zib m (A n)).map RF.of)=zib m (A n):=by
  unfold qs;rw[List.map_map]
  have :(RF.q∘RF.of)=id:=by funext q;exact RF.of_q q
  rw[this,List.map_id]
 rw[e]
theorem wts_mem {l:List Rat} {q:Rat} (h:q∈l):wt q<=wts l:=by
 induction l with
 | nil=>simp at h
 | cons x l ih=>
   rw[zmg]
   rcases List.mem_cons.1 h with h | h
   ·subst h;omega
   ·have:=ih h;omega
theorem col_le (m:Nat) (A:Mx) {j:Nat} (hj:j<m):∀n,(sgN n fun i=>wt (A i j))<=wtF n m A
 | 0=>zLR _
 | n+1=>by
   rw[sgN,wtF_succ]
   have h1:=col_le m A hj n
   have h2:wt (A n j)<=wts (zib m (A n)):=wts_mem (by unfold zib;exact List.mem_map.2 ⟨j,List.mem_range.2 hj,rfl⟩)
   omega
theorem sgN_add (n:Nat) (f g:Nat->Nat):(sgN n fun i=>f i+g i)=sgN n f+sgN n g:=by
 induction n with
 | zero=>rfl
 | succ n ih=>rw[sgN,sgN,sgN,ih];omega
theorem sgN_mem {n i:Nat} (f:Nat->Nat) (h:i<n):f i<=sgN n f:=by
 induction n with
 | zero=>omega
 | succ n ih=>
   rw[sgN]
   by_cases e:i=n
   ·subst e;omega
   ·have:=ih (by omega);omega
section
variable {n:Nat} {A:Mx} {v:List Rat}
theorem step_w (hl:v.length=n) (hw:wtF n n A+wts v<=3800) {j:Nat} (hj:j<n):(sgN n fun i=>wt (v.getD i 0)+wt (A i j))<=3800:=by
 rw[sgN_add]
 have h1:=col_le n A hj n
 have h2:=wts_sgN v
 rw[hl]at h2
 omega
theorem step_prod (hl:v.length=n) (hw:wtF n n A+wts v<=3800) {i j:Nat} (hi:i<n) (hj:j<n):fits (v.getD i 0*A i j):=by
 refine mul_fits26 ?_
 have h1:=sgN_mem (fun i=>wt (v.getD i 0)+wt (A i j)) hi
 have h2:=step_w hl hw hj
 exact zLT h1 h2
theorem zvu (hl:v.length=n) (hw:wtF n n A+wts v<=3800) {k j:Nat} (hk:k<=n) (hj:j<n):fits (sg k fun i=>v.getD i 0*A i j):=
 sg_mul_fits (step_w hl hw hj) k hk
end
end Go.Proofs.YtlpdkbmmbdfoiaaGreat
