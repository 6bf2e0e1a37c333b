/-
  Weights of a matrix and a vector against the sizes of their products. No code is walked here.
-/
import Derived.Test.YtlpdkbmmbdfoiaaGreatHSa2
import Derived.Test.YtlpdkbmmbdfoiaaGreatHWt
set_option linter.unusedVariables false
set_option linter.unusedSimpArgs false
namespace Go.Proofs.YtlpdkbmmbdfoiaaGreat
open Go.RowKit
def rawM (n m:Nat) (A:Mx):List (List RF):=(List.range n).map fun i=>(zib m (A i)).map RF.of
theorem zpc (n m:Nat) (A:Mx):(rawM n m A).length=n:=by simp[rawM]
theorem rawM_get (n m:Nat) (A:Mx) (i:Nat) (h:i<(rawM n m A).length):(rawM n m A)[i]=(zib m (A i)).map RF.of:=by simp[rawM]
theorem zam.raw {w:World} {v:Value} {n m:Nat} {A:Mx} (h:zam w v n m A):MatN w v (rawM n m A):=
 ⟨h.sl,by rw[h.len,zpc],fun j hj=>by
  rw[zpc]at hj
  obtain⟨r,h1,h2⟩:=h.row j hj
  exact⟨r,h1,by rw[rawM_get];exact h2.raw⟩⟩
def zau (n m:Nat) (A:Mx):Prop:=∀i j,i<n→j<m→fits (A i j)
theorem zgn {n m:Nat} {A:Mx} {l:List RF} (h:l∈rawM n m A):∃i,i<n∧l=(zib m (A i)).map RF.of:=by
 obtain⟨i,hi,rfl⟩:=List.mem_map.1 h
 exact⟨i,List.mem_range.1 hi,rfl⟩
theorem zyu {n m:Nat} {A:Mx} (hf:zau n m A):∀l∈rawM n m A,∀x∈l,x.ok:=by
 intro l hl x hx
 obtain⟨i,hi,rfl⟩:=zgn hl
 obtain⟨q,hq,rfl⟩:=List.mem_map.1 hx
 obtain⟨j,hj,rfl⟩:=List.mem_map.1 hq
 exact RF.of_ok (hf i j hi (List.mem_range.1 hj))
theorem zhn {n m:Nat} {A:Mx}:∀l∈rawM n m A,l.length=m:=by
 intro l hl
 obtain⟨i,hi,rfl⟩:=zgn hl
 rw[List.length_map,zea]
theorem zth {n m:Nat} {A:Mx} (hn:1≤n):((rawM n m A).headD []).length=m:=by
 cases h:rawM n m A with
 | nil=>have:=zpc n m A;rw[h]at this;simp at this;omega
 | cons a l=>exact zhn (A:=A) (n:=n) a (by rw[h];simp)
def wtF (n m:Nat) (A:Mx):Nat:=zxr (rawM n m A)
theorem zbb.setc {w:World} {v:Value} {q:List Rat} (h:zbb w v q) {p:Addr} {x:Value} (hp:(base v).block≠p.block) (hc:w.cell? p=some x) (hx:∀z,x≠ .int .u32 z) (u:Value):zbb (w.setCell p u) v q:=by
 have hne:∀k,p≠ptr v k:=fun k e=>hp (by rw[e,zsa])
 refine⟨h.sl,h.len,fun j hj=> ?_⟩
 obtain⟨a,b,h1,h2,h3,h4,h5⟩:=h.at' j hj
 exact⟨a,b,by rw[World.cell?_setCell_other _ _ _ _ (hne _)];exact h1,by rw[World.cell?_setCell_other _ _ _ _ (hne _)];exact h2,by rw[World.cell?_setCell_other _ _ _ _ (hne _)];exact h3,⟨h4.v.over hc hx u,h4.2⟩,⟨h5.v.over hc hx u,h5.2⟩⟩
theorem fracs_one {w:World} {b:Nat} {x y z:Value} {r:Rat} (hb:zjf w b #[x,y,z]) (hf:zqa w (.agg #[x,y,z]) r):zbb w (.slice (some ⟨b,0,none⟩) 1 1) [r]:=by
 obtain⟨a1,b1,ha,h4,h5⟩:=hf
 injection ha with ha
 injection ha with ha
 simp only[List.cons.injEq,and_true]at ha
 obtain⟨rfl,rfl,rfl⟩:=ha
 refine⟨⟨_,1,1,rfl,Nat.le_refl _,by simp[maxLen],fun e=>by cases e⟩,rfl,fun j hj=> ?_⟩
 obtain rfl:j=0:=by simp at hj;omega
 have hp:∀k,ptr (.slice (some ⟨b,0,none⟩) 1 1) k=⟨b,k,none⟩:=fun k=>by simp only[ptr,base,Addr.add_lit,Nat.zero_add]
 exact⟨y,z,by rw[hp];exact hb.cell 0 rfl,by rw[hp];exact hb.cell 1 rfl,by rw[hp];exact hb.cell 2 rfl,h4,h5⟩
theorem mat_one {w:World} {b:Nat} {r:Value} {q:List RF} (hb:zjf w b #[r]) (hq:zni w r q):MatN w (.slice (some ⟨b,0,none⟩) 1 1) [q]:=by
 refine⟨⟨_,1,1,rfl,Nat.le_refl _,by simp[maxLen],fun e=>by cases e⟩,rfl,fun j hj=> ?_⟩
 obtain rfl:j=0:=by simp at hj;omega
 have hp:∀k,ptr (.slice (some ⟨b,0,none⟩) 1 1) k=⟨b,k,none⟩:=fun k=>by simp only[ptr,base,Addr.add_lit,Nat.zero_add]
 exact⟨r,by rw[hp];exact hb.cell 0 rfl,hq⟩
theorem zvh (l:List Rat):qs (l.map RF.of)=l:=by
 unfold qs;rw[List.map_map]
 have :(RF.q∘RF.of)=id:=by funext q;exact RF.of_q q
 rw[this,List.map_id]
theorem wts_rowL {n K:Nat} {f:Nat→Rat} (h:∀j,j<n→wt (f j)≤K):wts (zib n f)≤n*K:=by
 induction n with
 | zero=>simp[zib,wts]
 | succ n ih=>
   have h1:=ih fun j hj=>h j (by omega)
   have h2:=h n (Nat.lt_succ_self n)
   have e:zib (n+1) f=zib n f++ [f n]:=by unfold zib;rw[List.range_succ,List.map_append];rfl
   rw[e,zsu,Nat.succ_mul]
   omega
theorem wts_rawV {n K:Nat} {f:Nat→Rat} (h:∀j,j<n→wt (f j)≤K):wts (qs ((zib n f).map RF.of))≤n*K:=by
 rw[zvh];exact wts_rowL h
theorem sum_map_le {l:List (List RF)} {g:List RF→Nat} {K:Nat} (h:∀x∈l,g x≤K):(l.map g).sum≤l.length*K:=by
 induction l with
 | nil=>simp
 | cons x l ih=>
   have h1:=h x (by simp)
   have h2:=ih fun y hy=>h y (by simp[hy])
   rw[List.map_cons,List.sum_cons,List.length_cons,Nat.succ_mul]
   omega
theorem wtF_le {n m K:Nat} {A:Mx} (h:∀i j,i<n→j<m→wt (A i j)≤K):wtF n m A≤n*(m*K):=by
 unfold wtF zxr
 have h2:=sum_map_le (l:=rawM n m A) (g:=fun l=>wts (qs l)) (K:=m*K) fun l hl=>by
  obtain⟨i,hi,rfl⟩:=zgn hl
  exact wts_rawV fun j hj=>h i j hi hj
 rw[zpc]at h2
 exact h2
end Go.Proofs.YtlpdkbmmbdfoiaaGreat
namespace Go.Proofs.YtlpdkbmmbdfoiaaGreat
theorem wts_sgN (l:List Rat):wts l=sgN l.length fun i=>wt (l.getD i 0):=by
 have key:∀k,k≤l.length→wts (l.take k)=sgN k fun i=>wt (l.getD i 0):=by
  intro k
  induction k with
  | zero=>intro _;rfl
  | succ k ih=>
    intro h
    rw[wts_take l k (by omega),sgN,ih (by omega)]
    simp[List.getD,List.getElem?_eq_getElem (show k<l.length by omega)]
 have:=key l.length (Nat.le_refl _)
 rwa[List.take_length]at this
theorem wtF_succ (n m:Nat) (A:Mx):wtF (n+1) m A=wtF n m A+wts (zib m (A n)):=by
 unfold wtF zxr rawM
 rw[List.range_succ,List.map_append,List.map_append,List.sum_append]
 simp only[List.map_cons,List.map_nil,List.sum_cons,List.sum_nil,Nat.add_zero]
 congr 1
 have e:qs ((zib m (A n)).map RF.of)=zib m (A n):=by
  unfold qs;rw[List.map_map]
  have :(RF.q∘RF.of)=id:=by funext q;exact RF.of_q q
  rw[this,List.map_id]
 rw[e]
theorem wts_mem {l:List Rat} {q:Rat} (h:q∈l):wt q≤wts l:=by
 induction l with
 | nil=>simp at h
 | cons x l ih=>
   rw[zmg]
   rcases List.mem_cons.1 h with h | h
   ·subst h;omega
   ·have:=ih h;omega
theorem col_le (m:Nat) (A:Mx) {j:Nat} (hj:j<m):∀n,(sgN n fun i=>wt (A i j))≤wtF n m A
 | 0=>Nat.le_refl _
 | n+1=>by
   rw[sgN,wtF_succ]
   have h1:=col_le m A hj n
   have h2:wt (A n j)≤wts (zib m (A n)):=wts_mem (by unfold zib;exact List.mem_map.2 ⟨j,List.mem_range.2 hj,rfl⟩)
   omega
theorem sgN_add (n:Nat) (f g:Nat→Nat):(sgN n fun i=>f i+g i)=sgN n f+sgN n g:=by
 induction n with
 | zero=>rfl
 | succ n ih=>rw[sgN,sgN,sgN,ih];omega
theorem sgN_mem {n i:Nat} (f:Nat→Nat) (h:i<n):f i≤sgN n f:=by
 induction n with
 | zero=>omega
 | succ n ih=>
   rw[sgN]
   by_cases e:i=n
   ·subst e;omega
   ·have:=ih (by omega);omega
section
variable {n:Nat} {A:Mx} {v:List Rat}
theorem step_w (hl:v.length=n) (hw:wtF n n A+wts v≤3800) {j:Nat} (hj:j<n):(sgN n fun i=>wt (v.getD i 0)+wt (A i j))≤3800:=by
 rw[sgN_add]
 have h1:=col_le n A hj n
 have h2:=wts_sgN v
 rw[hl]at h2
 omega
theorem step_prod (hl:v.length=n) (hw:wtF n n A+wts v≤3800) {i j:Nat} (hi:i<n) (hj:j<n):fits (v.getD i 0*A i j):=by
 refine mul_fits26 ?_
 have h1:=sgN_mem (fun i=>wt (v.getD i 0)+wt (A i j)) hi
 have h2:=step_w hl hw hj
 exact Nat.le_trans h1 h2
theorem zvu (hl:v.length=n) (hw:wtF n n A+wts v≤3800) {k j:Nat} (hk:k≤n) (hj:j<n):fits (sg k fun i=>v.getD i 0*A i j):=
 sg_mul_fits (step_w hl hw hj) k hk
end
end Go.Proofs.YtlpdkbmmbdfoiaaGreat
