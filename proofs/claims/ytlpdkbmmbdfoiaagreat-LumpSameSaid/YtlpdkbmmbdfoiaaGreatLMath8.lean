/-
  The order of fractions.
-/
import Derived.Test.YtlpdkbmmbdfoiaaGreatLFr2
import Derived.Test.YtlpdkbmmbdfoiaaGreatLMath24
import Derived.Test.YtlpdkbmmbdfoiaaGreatLNa1
import Derived.Lib.OwnKind
set_option linter.unusedVariables false
set_option linter.unusedSimpArgs false
namespace Go.Proofs.YtlpdkbmmbdfoiaaGreat
open Go.RowKit
@[go_sem] theorem ptr_off1 (v : Value) (k : Nat) : (⟨(ptr v k).block, (ptr v k).off + 1, none⟩ : Addr) = ptr v (k + 1) := by rw [← ptr_add]; simp [Addr.add]
@[go_sem] theorem ptr_off2 (v : Value) (k : Nat) : (⟨(ptr v k).block, (ptr v k).off + 2, none⟩ : Addr) = ptr v (k + 2) := by rw [← ptr_add]; simp [Addr.add]
structure RF where
 neg:Bool
 n:Nat
 d:Nat
def RF.q (x:RF):Rat:=fq x.neg x.n x.d
def RF.ok (x:RF):Prop:=okN x.n x.d
instance (x :RF):Decidable x.ok:=inferInstanceAs (Decidable (okN _ _))
def RF.of (q:Rat):RF:=⟨decide (q<0),q.num.natAbs,q.den⟩
theorem RF.of_q (q:Rat):(RF.of q).q=q:=zvb q
theorem RF.of_ok {q:Rat} (h:fits q):(RF.of q).ok:=⟨q.den_nz,h.2,h.1⟩
def FracAt (w:World) (v:Value) (k:Nat) (x:RF):Prop:=
 ∃a b,w.cell? (ptr v k)=some (.bool x.neg)∧w.cell? (ptr v (k+1))=some a∧w.cell? (ptr v (k+2))=some b∧zob w a x.n∧zob w b x.d
theorem zba {w w':World} (hb:Below w.heap.size w w') {p:Addr} {x:Value} (h:w.cell? p=some x):w'.cell? p=some x:=by
 have hlt:=World.block_lt_of_cell? w _ h
 rw[hb.cell hlt];exact h
theorem FracAt.below {w w':World} {v:Value} {k:Nat} {x:RF} (h:FracAt w v k x) (hb:Below w.heap.size w w'):FracAt w' v k x:=by
 obtain⟨a,b,h1,h2,h3,h4,h5⟩:=h
 exact⟨a,b,zba hb h1,zba hb h2,zba hb h3,h4.below hb,h5.below hb⟩
structure zni (w:World) (v:Value) (l:List RF):Prop where
 sl:zgc v
 len:slen v=l.length
 at':∀ (j:Nat) (h:j<l.length),FracAt w v (j*3) l[j]
theorem zni.below {w w':World} {v:Value} {l:List RF} (h:zni w v l) (hb:Below w.heap.size w w'):zni w' v l:=
 ⟨h.sl,h.len,fun j hj=>(h.at' j hj).below hb⟩
theorem zni.nil (w:World):zni w (.slice none 0 0) []:=⟨zgc.nil,rfl,fun j h=>by simp at h⟩
structure zbb (w:World) (v:Value) (qs:List Rat):Prop where
 sl:zgc v
 len:slen v=qs.length
 at':∀ (j:Nat) (h:j<qs.length),∃a b,w.cell? (ptr v (j*3))=some (.bool (decide (qs[j]<0)))∧w.cell? (ptr v (j*3+1))=some a∧w.cell? (ptr v (j*3+2))=some b∧zjb w a qs[j].num.natAbs∧zjb w b qs[j].den
theorem zbb.below {w w':World} {v:Value} {l:List Rat} (h:zbb w v l) (hb:Below w.heap.size w w'):zbb w' v l:=
 ⟨h.sl,h.len,fun j hj=>by
  obtain⟨a,b,h1,h2,h3,h4,h5⟩:=h.at' j hj
  exact⟨a,b,zba hb h1,zba hb h2,zba hb h3,h4.below hb,h5.below hb⟩⟩
theorem zbb.raw {w:World} {v:Value} {qs:List Rat} (h:zbb w v qs):zni w v (qs.map RF.of):=
 ⟨h.sl,by rw[h.len,List.length_map],fun j hj=>by
  obtain⟨a,b,h1,h2,h3,h4,h5⟩:=h.at' j (by simpa using hj)
  rw[List.getElem_map]
  exact⟨a,b,h1,h2,h3,h4.nat,h5.nat⟩⟩
structure zhc (w:World) (v:Value) (l:List Value):Prop where
 sl:zgc v
 len:slen v=l.length
 cell:∀ (j:Nat) (h:j<l.length),w.cell? (ptr v j)=some l[j]
theorem zhc.below {w w':World} {v:Value} {l:List Value} (h:zhc w v l) (hb:Below w.heap.size w w'):zhc w' v l:=
 ⟨h.sl,h.len,fun j hj=>zba hb (h.cell j hj)⟩
def zcm (w:World) (v:Value) (l:List Bool):Prop:=zhc w v (l.map Value.bool)
def zgv (w:World) (v:Value) (l:List Int):Prop:=zhc w v (l.map (Value.int .i64))
theorem zcm.below {w w':World} {v:Value} {l:List Bool} (h:zcm w v l) (hb:Below w.heap.size w w'):zcm w' v l:=zhc.below h hb
theorem zgv.below {w w':World} {v:Value} {l:List Int} (h:zgv w v l) (hb:Below w.heap.size w w'):zgv w' v l:=zhc.below h hb
theorem zcm.at' {w:World} {v:Value} {l:List Bool} (h:zcm w v l) (j:Nat) (hj:j<l.length):w.cell? (ptr v j)=some (.bool l[j]):=by
 have:=h.cell j (by simpa using hj);simpa using this
theorem zgv.at' {w:World} {v:Value} {l:List Int} (h:zgv w v l) (j:Nat) (hj:j<l.length):w.cell? (ptr v j)=some (.int .i64 l[j]):=by
 have:=h.cell j (by simpa using hj);simpa using this
theorem zcm.len {w:World} {v:Value} {l:List Bool} (h:zcm w v l):slen v=l.length:=by have:=zhc.len h;simpa using this
theorem zgv.len {w:World} {v:Value} {l:List Int} (h:zgv w v l):slen v=l.length:=by have:=zhc.len h;simpa using this
structure zlw (w:World) (v:Value) (m:List (List RF)):Prop where
 sl:zgc v
 len:slen v=m.length
 at':∀ (j:Nat) (h:j<m.length),∃r,w.cell? (ptr v j)=some r∧zni w r m[j]
theorem zlw.below {w w':World} {v:Value} {m:List (List RF)} (h:zlw w v m) (hb:Below w.heap.size w w'):zlw w' v m:=
 ⟨h.sl,h.len,fun j hj=>by obtain⟨r,h1,h2⟩:=h.at' j hj;exact⟨r,zba hb h1,h2.below hb⟩⟩
structure RC where
 rates:List (List RF)
 start:List RF
 lost:List Bool
def zdq (w:World) (v:Value) (c:RC):Prop:=∃r s l,v= .agg #[r,s,l]∧zlw w r c.rates∧zni w s c.start∧zcm w l c.lost
theorem zdq.below {w w':World} {v:Value} {c:RC} (h:zdq w v c) (hb:Below w.heap.size w w'):zdq w' v c:=by
 obtain⟨r,s,l,rfl,h1,h2,h3⟩:=h;exact⟨r,s,l,rfl,h1.below hb,h2.below hb,h3.below hb⟩
def qs (l:List RF):List Rat:=l.map RF.q
theorem zgq (l:List RF):(qs l).length=l.length:=by simp[qs]
theorem qs_take (l:List RF) (k:Nat):(qs l).take k=qs (l.take k):=by unfold qs;rw[List.map_take]
theorem zqt (l:List RF) (k:Nat) (h:k<l.length):(qs l)[k]'(by rw[zgq];exact h)=l[k].q:=by simp[qs]
theorem lsum_qs (l:List RF) (k:Nat) (h:k<l.length):zgg (qs (l.take (k+1)))=zgg (qs (l.take k))+l[k].q:=by
 rw[zxc l k h];unfold qs;rw[List.map_append];exact zgl _ _
end Go.Proofs.YtlpdkbmmbdfoiaaGreat
namespace Go.Proofs.YtlpdkbmmbdfoiaaGreat
inductive Clo (n:Nat) (S:Nat→Prop) (L:Nat→Nat→Prop):Nat→Prop
 | base {i:Nat}:i<n→S i→Clo n S L i
 | step {i j:Nat}:Clo n S L i→j<n→L i j→Clo n S L j
theorem Clo.lt {n:Nat} {S:Nat→Prop} {L:Nat→Nat→Prop} {i:Nat} (h:Clo n S L i):i<n:=by cases h<;>assumption
def zwt (l:List Bool):Nat:=(l.filter (fun b=> !b)).length
theorem zgs :∀ {l:List Bool} {k:Nat},l[k]? =some false→zwt (l.set k true)+1=zwt l
 | [],k,h=>by simp at h
 | b::l,0,h=>by
   simp at h
   subst h
   simp[zwt]
 | b::l,k+1,h=>by
   have ih:=zgs (l:=l) (k:=k) (by simpa using h)
   cases b
   ·simp only[List.set_cons_succ]
    unfold zwt at ih ⊢
    simp only[List.filter_cons]
    simp
    omega
   ·simp only[List.set_cons_succ]
    unfold zwt at ih ⊢
    simp only[List.filter_cons]
    simp
    omega
structure GInv (n:Nat) (S:Nat→Prop) (L:Nat→Nat→Prop) (bs:List Bool) (q:List Nat):Prop where
 len:bs.length=n
 sound:∀j,j<n→bs.getD j false=true→Clo n S L j
 base:∀j,j<n→S j→bs.getD j false=true
 done:∀i,i<n→bs.getD i false=true→i∉q→∀j,j<n→L i j→bs.getD j false=true
 inq:∀i,i∈q→i<n∧bs.getD i false=true
structure zxt (n:Nat) (S:Nat→Prop) (L:Nat→Nat→Prop) (bs:List Bool) (h:Nat) (q:List Nat) (k:Nat):Prop where
 len:bs.length=n
 sound:∀j,j<n→bs.getD j false=true→Clo n S L j
 base:∀j,j<n→S j→bs.getD j false=true
 done:∀i,i<n→bs.getD i false=true→i≠h→i∉q→∀j,j<n→L i j→bs.getD j false=true
 inq:∀i,i∈q→i<n∧bs.getD i false=true
 hin:h<n∧bs.getD h false=true
 doneh:∀j,j<n→j<k→L h j→bs.getD j false=true
section
variable {n:Nat} {S:Nat→Prop} {L:Nat→Nat→Prop} {bs:List Bool} {h k:Nat} {q:List Nat}
theorem GInv.start (hl:bs.length=n) (hb:∀j,j<n→(bs.getD j false=true↔S j)) (hq:∀i,i<n→bs.getD i false=true→i∈q) (hin:∀i,i∈q→i<n∧bs.getD i false=true):GInv n S L bs q:=
 ⟨hl,fun j hj h=>Clo.base hj ((hb j hj).1 h),fun j hj h=>(hb j hj).2 h,fun i hi h hnq=>absurd (hq i hi h) hnq,hin⟩
theorem GInv.all (g:GInv n S L bs []):∀j,j<n→(bs.getD j false=true↔Clo n S L j):=by
 intro j hj
 refine⟨g.sound j hj,fun hc=> ?_⟩
 induction hc with
 | base hi hs=>exact g.base _ hi hs
 | step hc hj2 hl ih=>exact g.done _ hc.lt (ih hc.lt) (by simp) _ hj2 hl
theorem GInv.head (g:GInv n S L bs (h::q)):zxt n S L bs h q 0:=
 ⟨g.len,g.sound,g.base,fun i hi hb hne hnq=>g.done i hi hb (by simp;exact⟨hne,hnq⟩),fun i hi=>g.inq i (by simp[hi]),g.inq h (by simp),fun j _ hj=>by omega⟩
theorem zxt.finish (g:zxt n S L bs h q n):GInv n S L bs q:=
 ⟨g.len,g.sound,g.base,fun i hi hb hnq j hj hl=>by
  by_cases e:i=h
  ·subst e;exact g.doneh j hj hj hl
  ·exact g.done i hi hb e hnq j hj hl,g.inq⟩
theorem zxt.skip (g:zxt n S L bs h q k) (hk:bs.getD k false=true∨¬L h k):zxt n S L bs h q (k+1):=
 ⟨g.len,g.sound,g.base,g.done,g.inq,g.hin,fun j hj hjk hl=>by
  by_cases e:j=k
  ·subst e
   rcases hk with h1 | h1
   ·exact h1
   ·exact absurd hl h1
  ·exact g.doneh j hj (by omega) hl⟩
theorem zfs (l:List Bool) (k j:Nat) (hk:k<l.length):(l.set k true).getD j false=if j=k then true else l.getD j false:=by
 by_cases e:j=k
 ·subst e;simp[List.getD,hk]
 ·rw[if_neg e]
  simp only[List.getD]
  rw[List.getElem?_set_ne (fun e'=>e e'.symm)]
theorem zxt.push (g:zxt n S L bs h q k) (hk:k<n) (hl:L h k):zxt n S L (bs.set k true) h (q++ [k]) (k+1):=by
 have hkl:k<bs.length:=by rw[g.len];exact hk
 have up:∀j,bs.getD j false=true→(bs.set k true).getD j false=true:=fun j hj=>by rw[zfs _ _ _ hkl];split<;>first | rfl | exact hj
 refine⟨by rw[List.length_set];exact g.len,fun j hj hb=> ?_,fun j hj hs=>up j (g.base j hj hs),fun i hi hb hne hnq j hj hlj=> ?_,fun i hi=> ?_,⟨g.hin.1,up _ g.hin.2⟩,fun j hj hjk hlj=> ?_⟩
 ·rw[zfs _ _ _ hkl]at hb
  by_cases e:j=k
  ·subst e;exact Clo.step (g.sound h g.hin.1 g.hin.2) hj hl
  ·rw[if_neg e]at hb;exact g.sound j hj hb
 ·have hik:i≠k:=fun e=>hnq (by rw[e];simp)
  rw[zfs _ _ _ hkl,if_neg hik]at hb
  exact up j (g.done i hi hb hne (fun e=>hnq (by simp[e])) j hj hlj)
 ·rcases List.mem_append.1 hi with h1 | h1
  ·exact⟨(g.inq i h1).1,up i (g.inq i h1).2⟩
  ·simp at h1
   subst h1
   exact⟨hk,by rw[zfs _ _ _ hkl,if_pos rfl]⟩
 ·rw[zfs _ _ _ hkl]
  by_cases e:j=k
  ·rw[if_pos e]
  ·rw[if_neg e];exact g.doneh j hj (by omega) hlj
end
structure MC (n:Nat) (r:Mx) (lost:Nat→Prop):Prop where
 d:∀i,i<n→r i i=0
 nn:∀i j,i<n→j<n→0≤r i j
 ab:∀i j,i<n→j<n→lost i→r i j=0
def FT (n:Nat) (r:Mx) (lost:Nat→Prop):Nat→Prop:=Clo n lost fun i j=>0<r j i
structure LK (n:Nat) (r:Mx) (lost:Nat→Prop) (l:List Nat):Prop where
 so:l.Pairwise (· < ·)
 lt:∀s,s∈l→s<n
 nl:∀s,s∈l→¬lost s
 ft:∀s,s∈l→FT n r lost s
 cl:∀s t,s∈l→t<n→0<r s t→t∈l∨lost t∨¬FT n r lost t
theorem sg_sub_le {n:Nat} {l:List Nat} {f:Nat→Rat} (hp:l.Pairwise (· < ·)) (hb:∀x,x∈l→x<n) (h0:∀t,t<n→0≤f t):sg l.length (fun i=>f (l.getD i 0))≤sg n f:=by
 have h1:=zmt (n:=n) (l:=l) (f:=fun t=>if t∈l then f t else 0) hp hb (fun t ht h=>by simp[h])
 have h2:sg l.length (fun i=>f (l.getD i 0))=sg l.length fun i=>if l.getD i 0∈l then f (l.getD i 0)else 0:=zma fun i hi=>by
  rw[if_pos (by rw[List.getD_eq_getElem?_getD,List.getElem?_eq_getElem hi];exact List.getElem_mem hi)]
 rw[h2,←h1]
 refine sg_le fun t ht=> ?_
 show(if t∈l then f t else 0)≤f t
 split
 ·exact Rat.le_refl
 ·exact h0 t ht
theorem sg_sub_lt {n:Nat} {l:List Nat} {f:Nat→Rat} (hp:l.Pairwise (· < ·)) (hb:∀x,x∈l→x<n) (h0:∀t,t<n→0≤f t) {k:Nat} (hk:k<n) (hkl:k∉l) (hf:0<f k):sg l.length (fun i=>f (l.getD i 0))<sg n f:=by
 have h1:=zmt (n:=n) (l:=l) (f:=fun t=>if t∈l then f t else 0) hp hb (fun t ht h=>by simp[h])
 have h2:sg l.length (fun i=>f (l.getD i 0))=sg l.length fun i=>if l.getD i 0∈l then f (l.getD i 0)else 0:=zma fun i hi=>by
  rw[if_pos (by rw[List.getD_eq_getElem?_getD,List.getElem?_eq_getElem hi];exact List.getElem_mem hi)]
 rw[h2,←h1]
 refine sg_lt (fun t ht=> ?_) hk (by show(if k∈l then f k else 0)<f k;rw[if_neg hkl];exact hf)
 show(if t∈l then f t else 0)≤f t
 split
 ·exact Rat.le_refl
 ·exact h0 t ht
theorem zcq {l:List Nat} {i:Nat} (hi:i<l.length):l.getD i 0∈l:=by
 rw[List.getD_eq_getElem?_getD,List.getElem?_eq_getElem hi];exact List.getElem_mem hi
theorem zbv {l:List Nat} {s:Nat} (h:s∈l):∃i,i<l.length∧l.getD i 0=s:=by
 obtain⟨i,hi,e⟩:=List.mem_iff_getElem.1 h
 exact⟨i,hi,by rw[List.getD_eq_getElem?_getD,List.getElem?_eq_getElem hi];exact e⟩
theorem LK.esc {n:Nat} {r:Mx} {lost:Nat→Prop} {l:List Nat} (hm:MC n r lost) (h:LK n r lost l):∀ {s:Nat},FT n r lost s→∀i,i<l.length→l.getD i 0=s→∃k,esc l.length (fun i j=>r (l.getD i 0) (l.getD j 0)) (fun i=>sg n (r (l.getD i 0))) k i:=by
 intro s hs
 induction hs with
 | base hi hS=>
   intro i hil e
   exact absurd hS (h.nl _ (e▸zcq hil))
 | step hc hj hL ih=>
   rename_i a b
   intro i hil e
   have hbl:b∈l:=e▸zcq hil
   by_cases hal:a∈l
   ·obtain⟨j,hjl,ej⟩:=zbv hal
    obtain⟨k,hk⟩:=ih j hjl ej
    exact⟨k+1,Or.inr ⟨j,hjl,by show 0<r (l.getD i 0) (l.getD j 0);rw[e,ej];exact hL,hk⟩⟩
   ·refine⟨0,?_⟩
    show sg l.length (fun j=>r (l.getD i 0) (l.getD j 0))<sg n (r (l.getD i 0))
    rw[e]
    exact sg_sub_lt (f:=r b) h.so h.lt (fun t ht=>hm.nn b t hj ht) (Clo.lt hc) hal hL
theorem LK.dt {n:Nat} {r:Mx} {lost:Nat→Prop} {l:List Nat} (hm:MC n r lost) (h:LK n r lost l):dt l.length (mmA (fun i j=>r (l.getD i 0) (l.getD j 0)) fun i=>sg n (r (l.getD i 0)))≠0:=
 mm_dt (fun i hi=>hm.d _ (h.lt _ (zcq hi))) (fun i j hi hj=>hm.nn _ _ (h.lt _ (zcq hi)) (h.lt _ (zcq hj)))
  (fun i hi=>sg_sub_le (f:=r (l.getD i 0)) h.so h.lt fun t ht=>hm.nn _ t (h.lt _ (zcq hi)) ht) (fun i hi=>h.esc hm (h.ft _ (zcq hi)) i hi rfl)
end Go.Proofs.YtlpdkbmmbdfoiaaGreat
namespace Go.Proofs.YtlpdkbmmbdfoiaaGreat
open Go.RowKit
def zqb (w:World) (e:TypeId) (B:Nat) (v:Value) (n:Nat):Prop:=
 ∃g cs,v= .slice (some ⟨g,0,none⟩) n n∧w.ownsRow B e 3 v n cs∧∀c∈cs,∀z,c≠ .int .u32 z
section
variable {w:World} {e:TypeId} {B n:Nat} {v:Value}
theorem zqb.ptr (h:zqb w e B v n):∃g,∀k,Go.Proofs.YtlpdkbmmbdfoiaaGreat.ptr v k=⟨g,k,none⟩:=by
 obtain⟨g,cs,rfl,_⟩:=h
 exact⟨g,fun k=>by simp only[Go.Proofs.YtlpdkbmmbdfoiaaGreat.ptr,base,Addr.add_lit,Nat.zero_add]⟩
theorem zqb.inj (h:zqb w e B v n) {i j:Nat} (hij:i≠j):Go.Proofs.YtlpdkbmmbdfoiaaGreat.ptr v i≠Go.Proofs.YtlpdkbmmbdfoiaaGreat.ptr v j:=by
 obtain⟨g,hg⟩:=h.ptr
 rw[hg,hg]
 intro h;injection h with h1 h2;exact hij h2
theorem zqb.sl (h:zqb w e B v n):zgc v:=by
 obtain⟨g,cs,rfl,h1,_⟩:=h
 rcases h1.2 with⟨h',_⟩ | ⟨g',cap,cur,h',_,_,h2,h3,_⟩
 ·cases h'
 ·injection h' with h4 h5 h6
  subst h6
  exact⟨_,_,_,rfl,h2,h3,fun e=>by cases e⟩
theorem zqb.len (h:zqb w e B v n):slen v=n:=by obtain⟨g,cs,rfl,_⟩:=h;rfl
theorem zqb.cell (h:zqb w e B v n) (j:Nat) (hj:j<n*3):∃x,w.cell? (Go.Proofs.YtlpdkbmmbdfoiaaGreat.ptr v j)=some x∧∀z,x≠ .int .u32 z:=by
 obtain⟨g,cs,rfl,h1,h2⟩:=h
 have hl:cs.length=n*3:=h1.1
 have:=World.ownsRow.cellAt h1 j hj
 rw[List.getElem?_eq_getElem (by omega)]at this
 refine⟨cs[j]'(by omega),?_,h2 _ (List.getElem_mem _)⟩
 simpa only[Go.Proofs.YtlpdkbmmbdfoiaaGreat.ptr,base,Addr.add_lit,Nat.zero_add]using this
theorem zqb.frozen (h:zqb w e B v n) (j:Nat):w.frozen? (Go.Proofs.YtlpdkbmmbdfoiaaGreat.ptr v j)=false:=by
 obtain⟨g,cs,rfl,h1,h2⟩:=h
 have:=World.ownsRow.frozenAt h1 j
 simpa only[Go.Proofs.YtlpdkbmmbdfoiaaGreat.ptr,base,Addr.add_lit,Nat.zero_add]using this
theorem zqb.block (h:zqb w e B v n):B≤(base v).block∧(base v).block<w.heap.size:=by
 obtain⟨g,cs,rfl,h1,h2⟩:=h
 rcases h1.2 with⟨h',_⟩ | ⟨g',cap,cur,h',hb,hg,_⟩
 ·cases h'
 ·injection h' with h4
  injection h4 with h4
  injection h4 with h4
  subst h4
  exact⟨hb,(Array.getElem?_eq_some_iff.1 hg).1⟩
theorem zqb.below {w':World} (h:zqb w e B v n) (hb:Below w.heap.size w w'):zqb w' e B v n:=by
 obtain⟨g,cs,rfl,h1,h2⟩:=h
 exact⟨g,cs,rfl,World.ownsRow.kept h1 (zze hb) (Or.inr (by simp[Value.ownBlock])),h2⟩
theorem zqb.mono {B':Nat} (h:zqb w e B v n) (hB:B'≤B):zqb w e B' v n:=by
 obtain⟨g,cs,rfl,h1,h2⟩:=h
 refine⟨g,cs,rfl,⟨h1.1,?_⟩,h2⟩
 rcases h1.2 with⟨h',_⟩ | ⟨g',cap,cur,h',hb,rest⟩
 ·cases h'
 ·exact .inr ⟨g',cap,cur,h',by omega,rest⟩
theorem zqb.set (h:zqb w e B v n) (j:Nat) (u:Value) (hu:∀z,u≠ .int .u32 z):zqb (w.setCell (Go.Proofs.YtlpdkbmmbdfoiaaGreat.ptr v j) u) e B v n∧Below B w (w.setCell (Go.Proofs.YtlpdkbmmbdfoiaaGreat.ptr v j) u):=by
 have hbl:=h.block
 obtain⟨g,cs,rfl,h1,h2⟩:=h
 have hs:=World.ownsRow.stored h1 j u
 have hp:Go.Proofs.YtlpdkbmmbdfoiaaGreat.ptr (.slice (some ⟨g,0,none⟩) n n) j=⟨g,j,none⟩:=by simp only[Go.Proofs.YtlpdkbmmbdfoiaaGreat.ptr,base,Addr.add_lit,Nat.zero_add]
 rw[hp]
 refine⟨⟨g,_,rfl,hs.1,fun c hc=> ?_⟩,zna hs.2 (by simp only[base]at hbl;omega) (fun k hk=>by simp[base]at hbl hk;omega)⟩
 rcases List.mem_or_eq_of_mem_set hc with h' | h'
 ·exact h2 c h'
 ·subst h';exact hu
def zlg (w:World) (v:Value) (j:Nat) (q:Rat):Prop:=
 ∃a b,w.cell? (Go.Proofs.YtlpdkbmmbdfoiaaGreat.ptr v (j*3))=some (.bool (decide (q<0)))∧w.cell? (Go.Proofs.YtlpdkbmmbdfoiaaGreat.ptr v (j*3+1))=some a∧w.cell? (Go.Proofs.YtlpdkbmmbdfoiaaGreat.ptr v (j*3+2))=some b∧zjb w a q.num.natAbs∧zjb w b q.den
theorem zlg.below {w':World} {j:Nat} {q:Rat} (h:zlg w v j q) (hb:Below w.heap.size w w'):zlg w' v j q:=by
 obtain⟨a,b,h1,h2,h3,h4,h5⟩:=h
 exact⟨a,b,zba hb h1,zba hb h2,zba hb h3,h4.below hb,h5.below hb⟩
theorem zqb.set3 (h:zqb w e B v n) (i:Nat) (x y z:Value) (hx:∀k,x≠ .int .u32 k) (hy:∀k,y≠ .int .u32 k) (hz:∀k,z≠ .int .u32 k):
 zqb (((w.setCell (Go.Proofs.YtlpdkbmmbdfoiaaGreat.ptr v (i*3)) x).setCell (Go.Proofs.YtlpdkbmmbdfoiaaGreat.ptr v (i*3+1)) y).setCell (Go.Proofs.YtlpdkbmmbdfoiaaGreat.ptr v (i*3+2)) z) e B v n∧
  Below B w (((w.setCell (Go.Proofs.YtlpdkbmmbdfoiaaGreat.ptr v (i*3)) x).setCell (Go.Proofs.YtlpdkbmmbdfoiaaGreat.ptr v (i*3+1)) y).setCell (Go.Proofs.YtlpdkbmmbdfoiaaGreat.ptr v (i*3+2)) z):=by
 have h1:=h.set (i*3) x hx
 have h2:=h1.1.set (i*3+1) y hy
 have h3:=h2.1.set (i*3+2) z hz
 exact⟨h3.1,(h1.2.trans h2.2).trans h3.2⟩
theorem zjb.over1 (h:zqb w e B v n) {x:Value} {m:Nat} (hx:zjb w x m) (j:Nat) (hj:j<n*3) (u:Value):zjb (w.setCell (Go.Proofs.YtlpdkbmmbdfoiaaGreat.ptr v j) u) x m:=by
 obtain⟨c,h1,h2⟩:=h.cell j hj
 exact⟨hx.v.over h1 h2 u,hx.2⟩
theorem zjb.over3 (h:zqb w e B v n) {c:Value} {m:Nat} (hc:zjb w c m) (i:Nat) (hi:i<n) (x y z:Value) (hx:∀k,x≠ .int .u32 k) (hy:∀k,y≠ .int .u32 k):
 zjb (((w.setCell (Go.Proofs.YtlpdkbmmbdfoiaaGreat.ptr v (i*3)) x).setCell (Go.Proofs.YtlpdkbmmbdfoiaaGreat.ptr v (i*3+1)) y).setCell (Go.Proofs.YtlpdkbmmbdfoiaaGreat.ptr v (i*3+2)) z) c m:=by
 have h1:=h.set (i*3) x hx
 have h2:=h1.1.set (i*3+1) y hy
 exact zjb.over1 h2.1 (zjb.over1 h1.1 (zjb.over1 h hc _ (by omega) _) _ (by omega) _) _ (by omega) _
theorem zne (h:zqb w e B v n) (i k:Nat) (hk:k≠i*3) (hk1:k≠i*3+1) (hk2:k≠i*3+2) (x y z:Value):
 (((w.setCell (Go.Proofs.YtlpdkbmmbdfoiaaGreat.ptr v (i*3)) x).setCell (Go.Proofs.YtlpdkbmmbdfoiaaGreat.ptr v (i*3+1)) y).setCell (Go.Proofs.YtlpdkbmmbdfoiaaGreat.ptr v (i*3+2)) z).cell? (Go.Proofs.YtlpdkbmmbdfoiaaGreat.ptr v k)=w.cell? (Go.Proofs.YtlpdkbmmbdfoiaaGreat.ptr v k):=by
 rw[World.cell?_setCell_other _ _ _ _ (h.inj (Ne.symm hk2)),World.cell?_setCell_other _ _ _ _ (h.inj (Ne.symm hk1)),World.cell?_setCell_other _ _ _ _ (h.inj (Ne.symm hk))]
theorem zlg.set3_other (h:zqb w e B v n) {i j:Nat} (hi:i<n) (hij:i≠j) {q:Rat} (hj:zlg w v j q) (x y z:Value) (hx:∀k,x≠ .int .u32 k) (hy:∀k,y≠ .int .u32 k):
 zlg (((w.setCell (Go.Proofs.YtlpdkbmmbdfoiaaGreat.ptr v (i*3)) x).setCell (Go.Proofs.YtlpdkbmmbdfoiaaGreat.ptr v (i*3+1)) y).setCell (Go.Proofs.YtlpdkbmmbdfoiaaGreat.ptr v (i*3+2)) z) v j q:=by
 obtain⟨a,b,h1,h2,h3,h4,h5⟩:=hj
 refine⟨a,b,?_,?_,?_,zjb.over3 h h4 i hi x y z hx hy,zjb.over3 h h5 i hi x y z hx hy⟩
 ·rw[zne h i _ (by omega) (by omega) (by omega)];exact h1
 ·rw[zne h i _ (by omega) (by omega) (by omega)];exact h2
 ·rw[zne h i _ (by omega) (by omega) (by omega)];exact h3
theorem zlg.set3 (h:zqb w e B v n) {i:Nat} (hi:i<n) {q:Rat} {x y z:Value} (hf:zqa w (.agg #[x,y,z]) q):
 zlg (((w.setCell (Go.Proofs.YtlpdkbmmbdfoiaaGreat.ptr v (i*3)) x).setCell (Go.Proofs.YtlpdkbmmbdfoiaaGreat.ptr v (i*3+1)) y).setCell (Go.Proofs.YtlpdkbmmbdfoiaaGreat.ptr v (i*3+2)) z) v i q:=by
 obtain⟨a,b,ha,h4,h5⟩:=hf
 injection ha with ha
 injection ha with ha
 simp only[List.cons.injEq,and_true]at ha
 obtain⟨rfl,rfl,rfl⟩:=ha
 have nx:∀k,Value.bool (decide (q<0))≠ .int .u32 k:=fun k=>by simp
 have ny:∀k,y≠ .int .u32 k:=fun k=>by obtain⟨a1,n1,c1,e1,_⟩:=h4.v.sl;subst e1;simp
 obtain⟨c0,d0,_⟩:=h.cell (i*3) (by omega)
 obtain⟨c1,d1,_⟩:=h.cell (i*3+1) (by omega)
 obtain⟨c2,d2,_⟩:=h.cell (i*3+2) (by omega)
 have n01:=h.inj (show i*3≠i*3+1 by omega)
 have n02:=h.inj (show i*3≠i*3+2 by omega)
 have n12:=h.inj (show i*3+1≠i*3+2 by omega)
 refine⟨y,z,?_,?_,?_,zjb.over3 h h4 i hi _ _ _ nx ny,zjb.over3 h h5 i hi _ _ _ nx ny⟩
 ·rw[World.cell?_setCell_other _ _ _ _ n02.symm,World.cell?_setCell_other _ _ _ _ n01.symm]
  exact World.cell?_setCell_same _ _ _ d0
 ·rw[World.cell?_setCell_other _ _ _ _ n12.symm]
  exact World.cell?_setCell_same _ _ _ (u:=c1) (by rw[World.cell?_setCell_other _ _ _ _ n01];exact d1)
 ·exact World.cell?_setCell_same _ _ _ (u:=c2) (by rw[World.cell?_setCell_other _ _ _ _ n12,World.cell?_setCell_other _ _ _ _ n02];exact d2)
end
theorem zon {P:Program} (t e:TypeId) (i:TypeInfo) (h1:P.underlying t=some (.slice e)) (h2:P.info? e=some i) (h3:i.zero=some (.agg #[.bool false, .slice none 0 0, .slice none 0 0])) (h4:i.size=3) (h5:i.bytes≤64)
 (w:World) {ops:Array Oper} {rest:List Oper} {o:Oper} {a:Act} {Q:Exit→Act→World→Prop} (hg:o.guard=none) (l c:Operand) (hop:o.op=Op.makeSlice t l c)
 (B:Nat) (u:Int) (n:Nat) (hu:u=n) (hl:a.eval l= .int .i64 u) (hc:a.eval c= .int .i64 u) (b2:n≤4398046511104) (b4:B≤w.heap.size)
 (hK:∀v w',zqb w' e B v n→Below w.heap.size w w'→w.heap.size≤(base v).block→wpList P ops Q rest (a.put o.dst v) w'):
 wpList P ops Q (o::rest) a w:=by
 subst hu
 refine wpList_make_full w hg l c t hop B e i _ 3 h1 h2 h3 h4 .i64 .i64 n n n hl hc rfl rfl (Nat.le_trans (Nat.mul_le_mul_right _ h5) (by omega)) (by unfold maxLen;omega) b4 ?_
 intro w' hown hgr
 refine hK _ w' ⟨_,_,rfl,hown,fun x hx z=> ?_⟩ (zna hgr (Nat.le_refl _) (fun k hk=>by cases hk)) (by simp[base])
 have hx2:x∈(madeCells #[Value.bool false, .slice none 0 0, .slice none 0 0] (n*3)).toList:=hx
 unfold madeCells at hx2
 simp only[Array.toList_map,List.mem_map,Array.mem_toList_iff]at hx2
 obtain⟨k,hk,rfl⟩:=hx2
 have h7:k%3<3:=Nat.mod_lt _ (by decide)
 have h8:(#[Value.bool false, .slice none 0 0, .slice none 0 0]:Array Value).size=3:=rfl
 rw[h8]
 rcases(show k%3=0∨k%3=1∨k%3=2 by omega)with h9 | h9 | h9<;>rw[h9]<;>simp
def zlb (w:World) (v:Value):Prop:=∀g,v.ownBlock=some g→∀cur e fz,w.heap[g]? =some (.cells cur e fz)→∀c∈cur.toList,∀z,c≠ .int .u32 z
theorem zlb.nil (w:World):zlb w (.slice none 0 0):=fun g h=>by cases h
theorem zai {z:Array Value} {n:Nat} {c:Value} (h:c∈(Builtin.zeroCells z n).toList):c∈z.toList:=by
 unfold Builtin.zeroCells at h
 simp at h
 obtain⟨a,h1,h2⟩:=h
 have hz:0<z.size:=Nat.pos_of_ne_zero (fun h=>by rw[h]at h1;omega)
 rw[getElem!_pos z (a%z.size) (Nat.mod_lt _ hz)]at h2
 rw[←h2]
 simp
theorem zwd {P:Program} (w:World) (B:Nat) (t ty e:TypeId) (i:TypeInfo) (z:Value) (size bytes:Nat) (ht:P.underlying t=some (.slice e)) (hi:P.info? e=some i) (hz:i.zero=some z)
 (hsize:i.size=size) (hby:i.bytes=bytes) (hzs:z.cells.size=size) (hsz:0<size)
 (v:Value) (n:Nat) (xs:List Value) (hown:w.ownsRow B e size v n xs) (a:Addr) (m c:Nat) (news:List Value) (hl:news.length=m*size)
 (hnews:∀j u,news[j]? =some u→w.cell? (a.add j)=some u) (h1:∀u∈news,u.oneCell'=true)
 (h63:n+m≤maxLen) (hbytes:(n+m)*bytes≤140737488355328) (hbase:B≤w.heap.size)
 (hnl:zlb w v) (hnn:∀c∈news,∀z,c≠ .int .u32 z) (hnz:∀c∈z.cells.toList,∀z,c≠ .int .u32 z):
 ∃v' w',(Builtin.append_ #[t,t] ty #[v, .slice (some a) m c]).run P w= .ok v' w'∧w'.ownsRow B e size v' (n+m) (xs++news)∧w.grownBy w' v.ownBlock∧
  (v'.ownBlock=v.ownBlock∨v'.ownBlock=some w.heap.size)∧zlb w' v':=by
 obtain⟨v',w',h2,h3,h4,_⟩:=run_append_own (P:=P) w B t ty e i z size bytes ht hi hz hsize hby hzs hsz v n xs hown a m c news hl hnews h1 h63 hbytes hbase
 refine⟨v',w',h2,h3,h4,?_⟩
 have fresh:∀ (cs:Array Value) (k kc:Nat),(∀c∈cs.toList,∀z,c≠ .int .u32 z)→zlb (w.drew.alloc (.cells cs e)) (.slice (some ⟨w.heap.size,0,none⟩) k kc):=by
  intro cs k kc h g' hg' cur' e' fz' hc' c hc
  simp only[Value.ownBlock,Option.some.injEq]at hg'
  subst hg'
  rw[show(w.drew.alloc (.cells cs e)).heap[w.heap.size]? =some (.cells cs e (0,0))from heap_alloc_new w.drew _]at hc'
  injection hc' with hc'
  injection hc' with hc' _
  subst hc'
  exact h c hc
 have hsmall:n+m≤9223372036854775807:=by simp only[maxLen]at h63;omega
 rcases hown.2 with⟨rfl,rfl⟩ | ⟨g,cap,cur,rfl,hbg,hg,hnc,hcm,hcs,htake⟩
 ·have hx:xs= []:=List.eq_nil_of_length_eq_zero (by simpa using hown.1)
  subst hx
  by_cases hm:m=0
  ·subst hm
   refine(fun h=>⟨Or.inl (by rw[h]),by rw[h];exact zlb.nil _⟩:v'= .slice none 0 0→_) ?_
   rcases h3.2 with⟨rfl,_⟩ | ⟨g,cap,cur,rfl,_,_,h5,_⟩
   ·rfl
   ·exfalso
    have hn:news= []:=List.eq_nil_of_length_eq_zero (by simpa using hl)
    subst hn
    have hr:(Builtin.append_ #[t,t] ty #[.slice none 0 0, .slice (some a) 0 c]).run P w= .ok (.slice none 0 0) w:=by
     simp[Builtin.append_,run_underlying ht,sizeOf,typeInfo,hi,Builtin.lenOf,Builtin.firstCells,loadCells,loadCellsFrom]
    rw[hr]at h2
    injection h2 with h2 _
    cases h2
  ·have hr:=run_append_nil (P:=P) w t ty e i z ht hi hz a m c news (by rw[hl,hsize]) hnews (by omega) (by omega) (by rw[hby];have hb:=hbytes;simp only[Nat.zero_add]at hb;omega)
   rw[hr]at h2
   injection h2 with h2 h2w
   refine⟨Or.inr (by rw[←h2];rfl),?_⟩
   rw[←h2,←h2w]
   exact fresh _ _ _ (fun c hc=>by
    simp only[Array.toList_append,List.mem_append]at hc
    rcases hc with h | h
    ·exact hnn c h
    ·exact hnz c (zai h))
 ·by_cases hroom:n+m≤cap
  ·have hfit:n*i.size+news.length≤cur.size:=by rw[hl,hcs,hsize,←Nat.add_mul];exact Nat.mul_le_mul_right _ hroom
   have hr:=run_append_room (P:=P) w t ty e i ht hi g n cap cur hg a m c news (by rw[hl,hsize]) hnews h1 hroom hfit
   rw[hr]at h2
   injection h2 with h2 h2w
   refine⟨Or.inl (by rw[←h2];rfl),?_⟩
   rw[←h2,←h2w]
   intro g' hg' cur' e' fz' hc' c hc
   simp only[Value.ownBlock,Option.some.injEq]at hg'
   subst hg'
   rw[setRow_heap w g cur _ e _ hg]at hc'
   injection hc' with hc'
   injection hc' with hc' _
   subst hc'
   have hcc:=hnl g rfl cur e _ hg
   simp only[List.mem_append]at hc
   rcases hc with(h | h) | h
   ·exact hcc c (List.mem_of_mem_take h)
   ·exact hnn c h
   ·exact hcc c (List.mem_of_mem_drop h)
  ·have holds:∀j u,xs[j]? =some u→w.cell? ((⟨g,0,none⟩:Addr).add j)=some u:=hown.cells (g:=g) rfl
   have hr:=run_append_grow (P:=P) w t ty e i z ht hi hz ⟨g,0,none⟩ n cap xs (by rw[hown.1,hsize]) holds a m c news (by rw[hl,hsize]) hnews (by omega) (by omega) (growslice_fits (by omega) (by rw[hby];exact hbytes))
   rw[hr]at h2
   injection h2 with h2 h2w
   refine⟨Or.inr (by rw[←h2];rfl),?_⟩
   rw[←h2,←h2w]
   have hcc:=hnl g rfl cur e _ hg
   rw[←htake]
   exact fresh _ _ _ (fun c hc=>by
    simp only[Array.toList_append,List.mem_append]at hc
    rcases hc with(h | h) | h
    ·exact hcc c (List.mem_of_mem_take h)
    ·exact hnn c h
    ·exact hnz c (zai h))
structure zlc (w:World) (e:TypeId) (B size:Nat) (v:Value) (n:Nat) (xs:List Value):Prop where
 own:w.ownsRow B e size v n xs
 nl:zlb w v
section
variable {w:World} {e:TypeId} {B size n:Nat} {v:Value} {xs:List Value}
theorem zlc.nil (w:World) (e:TypeId) (B size:Nat):zlc w e B size (.slice none 0 0) 0 []:=⟨World.ownsRow_nil w B e size,zlb.nil _⟩
theorem zlc.sl (h:zlc w e B size v n xs):zgc v:=by
 rcases h.own.2 with⟨rfl,h0⟩ | ⟨g,cap,cur,rfl,hb,hg,hn,hm,hs,ht⟩
 ·exact zgc.nil
 ·exact⟨_,_,_,rfl,hn,hm,fun e=>by cases e⟩
theorem zlc.len (h:zlc w e B size v n xs):slen v=n:=by
 rcases h.own.2 with⟨rfl,h0⟩ | ⟨g,cap,cur,rfl,hb,hg,hn,hm,hs,ht⟩
 ·rw[h0];rfl
 ·rfl
theorem zlc.clen (h:zlc w e B size v n xs):xs.length=n*size:=h.own.1
theorem zlc.cell (h:zlc w e B size v n xs) (j:Nat) (hj:j<xs.length):w.cell? (ptr v j)=some xs[j]:=by
 have hl:=h.own.1
 obtain⟨ho,_⟩:=h
 rcases ho.2 with⟨rfl,h0⟩ | ⟨g,cap,cur,rfl,hb,hg,hn,hm,hs,ht⟩
 ·rw[h0]at hl;omega
 ·have:=World.ownsRow.cellAt ho j (by omega)
  simp only[ptr,base,Addr.add_lit,Nat.zero_add]
  rw[this,List.getElem?_eq_getElem hj]
theorem zlc.grown {w':World} {row:Option Nat} (h:zlc w e B size v n xs) (hg:w.grownBy w' row) (hne:v.ownBlock=none∨v.ownBlock≠row):zlc w' e B size v n xs:=by
 refine⟨World.ownsRow.kept h.own hg hne,fun g hgv cur e' fz hc c hcc=> ?_⟩
 have hlt:=(World.ownsRow.lt h.own g hgv).2
 rw[hg.block g hlt (by rw[←hgv];rcases hne with h1 | h1;· rw[h1]at hgv;cases hgv
                       ·exact h1)]at hc
 exact h.nl g hgv cur e' fz hc c hcc
theorem zlc.below {w':World} (h:zlc w e B size v n xs) (hb:Below w.heap.size w w'):zlc w' e B size v n xs:=
 h.grown (zze hb) (by cases hv:v.ownBlock<;>simp)
theorem zlc.block (h:zlc w e B size v n xs):∀k,v.ownBlock=some k→B≤k∧k<w.heap.size:=World.ownsRow.lt h.own
theorem zfc.grownR {w':World} {row:Option Nat} {x:Value} {l:List Nat} (h:zfc w x l) (hg:w.grownBy w' row) (hn:∀v,v.ownBlock=row→zlb w v):zfc w' x l:=by
 refine⟨h.sl,h.len,fun j hj=> ?_,h.lm⟩
 have hc:=h.cell j hj
 refine hg.cell hc (fun e=> ?_)
 have h2:=hn (.slice (some ⟨(ptr x j).block,0,none⟩) 0 0) (by rw[←e];rfl) (ptr x j).block rfl
 unfold World.cell? at hc
 split at hc
 ·rename_i cur e' fz hh
  split at hc
  ·cases hc
  ·exact h2 cur e' fz hh _ (by have:=Array.mem_of_getElem? hc;simpa using this) _ rfl
 ·cases hc
theorem zlb.any {v u:Value} (h:zlb w v) (he:u.ownBlock=v.ownBlock):zlb w u:=fun g hg=>h g (by rw[←he];exact hg)
theorem zjb.grown {w':World} {x:Value} {m:Nat} (h:zjb w x m) (hg:w.grownBy w' v.ownBlock) (hn:zlb w v):zjb w' x m:=⟨h.1.grownR hg (fun u hu=>hn.any hu),h.2⟩
theorem zqa.grown {w':World} {x:Value} {q:Rat} (h:zqa w x q) (hg:w.grownBy w' v.ownBlock) (hn:zlb w v):zqa w' x q:=by
 obtain⟨a,b,rfl,h1,h2⟩:=h;exact⟨a,b,rfl,h1.grown hg hn,h2.grown hg hn⟩
end
theorem zwf {P:Program} (w0:World) {ops:Array Oper} {rest:List Oper} {o:Oper} {a:Act} {Q:Exit→Act→World→Prop} (hgd:o.guard=none) (s x:Operand) (t:TypeId)
 (ho:o.op= .call { callee:= .builtin .append,args:=#[s,x],argTypes:=#[t,t] })
 (B:Nat) (e e':TypeId) (i:TypeInfo) (z:Value) (size bytes:Nat) (ht:P.underlying t=some (.slice e)) (hi:P.info? e=some i) (hz:i.zero=some z)
 (hsize:i.size=size) (hby:i.bytes=bytes) (hzs:z.cells.size=size) (hsz:0<size) (hnz:∀c∈z.cells.toList,∀z,c≠ .int .u32 z)
 (v:Value) (n:Nat) (xs:List Value) (hs:a.eval s=v) (hown:zlc w0 e B size v n xs) (news:Array Value) (hns:news.size=size) (hxe:a.eval x= .slice (some ⟨w0.heap.size,0,none⟩) 1 1)
 (h1:∀u∈news.toList,u.oneCell'=true) (hnn:∀c∈news.toList,∀z,c≠ .int .u32 z)
 (h63:n+1≤maxLen) (hbytes:(n+1)*bytes≤140737488355328) (hbase:B≤w0.heap.size)
 (h:∀v' w',zlc w' e B size v' (n+1) (xs++news.toList)→w0.grownBy w' v.ownBlock→(v'.ownBlock=v.ownBlock∨v'.ownBlock=some (w0.heap.size+1))→wpList P ops Q rest (a.put o.dst v') w'):
 wpList P ops Q (o::rest) a (w0.alloc (.cells news e')):=by
 refine wpList_plain hgd fun K hK=> ?_
 have hg0:=World.grownBy_alloc w0 (.cells news e') (v.ownBlock)
 have hown1:=hown.below (zca w0 (.cells news e'))
 obtain⟨v',w',hr,h2,h3,h4,h5⟩:=zwd (P:=P) (w0.alloc (.cells news e')) B t o.type e i z size bytes ht hi hz hsize hby hzs hsz v n xs hown1.own ⟨w0.heap.size,0,none⟩ 1 1 news.toList (by simp[hns])
  (fun j u hu=>by
   have hc:=cell_of_row (w0.alloc (.cells news e')) w0.heap.size j news e' (0,0) (heap_alloc_new w0 _)
   rw[Addr.add_lit,Nat.zero_add,hc];simpa using hu) h1 h63 hbytes (by simp;omega) hown1.nl hnn hnz
 unfold Oper.wp execOp
 simp only[ho,resolve,invoke,builtin,Sem.run_bind,Sem.run_pure,Result.andThen_ok,List.map_toArray,List.map_cons,List.map_nil,hs,hxe,hr]
 exact hK _ _ (h v' w' ⟨h2,h5⟩ (zsc hg0 h3) (by simpa using h4))
structure zhb (B:Nat) (w w':World):Prop where
 size:w.heap.size≤w'.heap.size
 row:∀g,B≤g→g<w.heap.size→w'.heap[g]? =w.heap[g]?
 limb:∀p z,w.cell? p=some (.int .u32 z)→w'.cell? p=some (.int .u32 z)
theorem zhb.refl (B:Nat) (w:World):zhb B w w:=⟨Nat.le_refl _,fun _ _ _=>rfl,fun _ _ h=>h⟩
theorem zhb.trans {B:Nat} {a b c:World} (h:zhb B a b) (k:zhb B b c):zhb B a c:=
 ⟨Nat.le_trans h.size k.size,fun g h1 h2=>(k.row g h1 (Nat.lt_of_lt_of_le h2 h.size)).trans (h.row g h1 h2),fun p z hp=>k.limb p z (h.limb p z hp)⟩
theorem zhb.below {B:Nat} {w w':World} (h:Below w.heap.size w w'):zhb B w w':=⟨h.size,fun g _ h2=>h.block g h2,fun p z hp=>zba h hp⟩
theorem zhb.set {B:Nat} {w:World} {p:Addr} {x:Value} (hp:p.block<B) (hc:w.cell? p=some x) (hx:∀z,x≠ .int .u32 z) (u:Value):zhb B w (w.setCell p u):=by
 refine⟨by simp[World.setCell],fun g h1 h2=>Below.heap_setCell _ _ _ _ (by omega),fun q z hq=> ?_⟩
 rw[World.cell?_setCell_other]
 ·exact hq
 ·intro e
  rw[←e,hc]at hq
  injection hq with hq
  exact hx _ hq
theorem zfc.moves {B:Nat} {w w':World} {v:Value} {l:List Nat} (h:zfc w v l) (hm:zhb B w w'):zfc w' v l:=⟨h.sl,h.len,fun j hj=>hm.limb _ _ (h.cell j hj),h.lm⟩
theorem zjb.moves {B:Nat} {w w':World} {v:Value} {n:Nat} (h:zjb w v n) (hm:zhb B w w'):zjb w' v n:=⟨h.v.moves hm,h.2⟩
theorem zlc.moves {B B':Nat} {w w':World} {e:TypeId} {size n:Nat} {v:Value} {xs:List Value} (h:zlc w e B' size v n xs) (hm:zhb B w w') (hB:B≤B'):zlc w' e B' size v n xs:=by
 have hlt:=h.block
 refine⟨⟨h.own.1,?_⟩,fun g hg cur e' fz hc=> ?_⟩
 ·rcases h.own.2 with⟨rfl,h0⟩ | ⟨g,cap,cur,rfl,hb,hg,rest⟩
  ·exact .inl ⟨rfl,h0⟩
  ·refine .inr ⟨g,cap,cur,rfl,hb,?_,rest⟩
   rw[hm.row g (Nat.le_trans hB hb) (hlt g rfl).2];exact hg
 ·obtain⟨h1,h2⟩:=hlt g hg
  rw[hm.row g (Nat.le_trans hB h1) h2]at hc
  exact h.nl g hg cur e' fz hc
theorem zlc.kinds {w:World} {e e':TypeId} {B B' size size' n n':Nat} {v v':Value} {xs xs':List Value} (h:zlc w e B size v n xs) (h':zlc w e' B' size' v' n' xs') (hne:e≠e'):v.ownBlock=none∨v.ownBlock≠v'.ownBlock:=by
 cases hv:v.ownBlock with
 | none=>exact Or.inl rfl
 | some g=>
   refine Or.inr (fun he=> ?_)
   obtain⟨c,fz,h1⟩:=Lib.ownsRow_kind h.own g hv
   obtain⟨c',fz',h2⟩:=Lib.ownsRow_kind h'.own g he.symm
   rw[h1]at h2
   injection h2 with h2
   injection h2 with _ h2
   exact hne h2
def zwe (w:World) (xs:List Value) (q:List Rat):Prop:=
 ∀ (j:Nat) (h:j<q.length),∃a b,xs[j*3]? =some (.bool (decide (q[j]<0)))∧xs[j*3+1]? =some a∧xs[j*3+2]? =some b∧zjb w a q[j].num.natAbs∧zjb w b q[j].den
def zya (w:World) (e:TypeId) (B:Nat) (v:Value) (q:List Rat):Prop:=∃xs,zlc w e B 3 v q.length xs∧zwe w xs q
section
variable {w:World} {e:TypeId} {B:Nat} {v:Value} {q:List Rat}
theorem zya.nil (w:World) (e:TypeId) (B:Nat):zya w e B (.slice none 0 0) []:=⟨[],zlc.nil _ _ _ _,fun j h=>by simp at h⟩
theorem zya.fracs (h:zya w e B v q):zbb w v q:=by
 obtain⟨xs,h1,h2⟩:=h
 refine⟨h1.sl,h1.len,fun j hj=> ?_⟩
 obtain⟨a,b,e1,e2,e3,e4,e5⟩:=h2 j hj
 have hc:∀i u,xs[i]? =some u→w.cell? (ptr v i)=some u:=fun i u hi=>by
  obtain⟨h6,h7⟩:=List.getElem?_eq_some_iff.1 hi
  rw[h1.cell i h6,h7]
 exact⟨a,b,hc _ _ e1,hc _ _ e2,hc _ _ e3,e4,e5⟩
theorem zya.sl (h:zya w e B v q):zgc v:=h.fracs.sl
theorem zya.block (h:zya w e B v q):∀k,v.ownBlock=some k→B≤k∧k<w.heap.size:=by obtain⟨xs,h1,_⟩:=h;exact h1.block
theorem zya.moves {B':Nat} {w':World} (h:zya w e B v q) (hm:zhb B' w w') (hB:B'≤B):zya w' e B v q:=by
 obtain⟨xs,h1,h2⟩:=h
 refine⟨xs,h1.moves hm hB,fun j hj=> ?_⟩
 obtain⟨a,b,e1,e2,e3,e4,e5⟩:=h2 j hj
 exact⟨a,b,e1,e2,e3,e4.moves hm,e5.moves hm⟩
theorem zwe.grown {w':World} {u:Value} {xs:List Value} (h2:zwe w xs q) (hg:w.grownBy w' u.ownBlock) (hn:zlb w u):zwe w' xs q:=fun j hj=>by
 obtain⟨a,b,e1,e2,e3,e4,e5⟩:=h2 j hj
 exact⟨a,b,e1,e2,e3,e4.grown hg hn,e5.grown hg hn⟩
theorem zya.grown {w':World} {u:Value} (h:zya w e B v q) (hg:w.grownBy w' u.ownBlock) (hn:zlb w u) (hne:v.ownBlock=none∨v.ownBlock≠u.ownBlock):zya w' e B v q:=by
 obtain⟨xs,h1,h2⟩:=h
 exact⟨xs,h1.grown hg hne,h2.grown hg hn⟩
theorem zya.mono {B':Nat} (h:zya w e B v q) (hB:B'≤B):zya w e B' v q:=by
 obtain⟨xs,h1,h2⟩:=h
 refine⟨xs,⟨⟨h1.own.1,?_⟩,h1.nl⟩,h2⟩
 rcases h1.own.2 with h | ⟨g,cap,cur,rfl,hb,rest⟩
 ·exact .inl h
 ·exact .inr ⟨g,cap,cur,rfl,by omega,rest⟩
theorem zwe.snoc {xs:List Value} (h2:zwe w xs q) (hl:xs.length=q.length*3) {x y z:Value} {r:Rat} (hf:zqa w (.agg #[x,y,z]) r):zwe w (xs++ [x,y,z]) (q++ [r]):=by
 intro j hj
 obtain⟨a,b,ha,h4,h5⟩:=hf
 injection ha with ha
 injection ha with ha
 simp only[List.cons.injEq,and_true]at ha
 obtain⟨rfl,rfl,rfl⟩:=ha
 rcases Nat.lt_or_ge j q.length with h | h
 ·obtain⟨a,b,e1,e2,e3,e4,e5⟩:=h2 j h
  rw[List.getElem_append_left h]
  exact⟨a,b,by rw[List.getElem?_append_left (by omega)];exact e1,by rw[List.getElem?_append_left (by omega)];exact e2,by rw[List.getElem?_append_left (by omega)];exact e3,e4,e5⟩
 ·obtain rfl:j=q.length:=by simp at hj;omega
  have e0:(q++ [r])[q.length]'hj=r:=by simp
  rw[e0,←hl]
  refine⟨y,z,?_,?_,?_,h4,h5⟩
  ·rw[List.getElem?_append_right (Nat.le_refl _)];simp
  ·rw[List.getElem?_append_right (by omega)];simp
  ·rw[List.getElem?_append_right (by omega)];simp
end
theorem zpp {P:Program} (t e:TypeId) (i:TypeInfo) (ht:P.underlying t=some (.slice e)) (hi:P.info? e=some i) (hz:i.zero=some (.agg #[.bool false, .slice none 0 0, .slice none 0 0])) (hsize:i.size=3) (hby:i.bytes=56)
 (w0:World) {ops:Array Oper} {rest:List Oper} {o:Oper} {a:Act} {Q:Exit→Act→World→Prop} (hgd:o.guard=none) (s x:Operand)
 (ho:o.op= .call { callee:= .builtin .append,args:=#[s,x],argTypes:=#[t,t] }) (B:Nat) (e':TypeId)
 (v:Value) (q:List Rat) (hs:a.eval s=v) (hown:zya w0 e B v q) (c0 c1 c2:Value) (r:Rat) (hf:zqa w0 (.agg #[c0,c1,c2]) r) (hxe:a.eval x= .slice (some ⟨w0.heap.size,0,none⟩) 1 1) (hn:q.length≤1000) (hbase:B≤w0.heap.size)
 (h:∀v' w',zya w' e B v' (q++ [r])→w0.grownBy w' v.ownBlock→zlb w0 v→(v'.ownBlock=v.ownBlock∨v'.ownBlock=some (w0.heap.size+1))→zgc v'→wpList P ops Q rest (a.put o.dst v') w'):
 wpList P ops Q (o::rest) a (w0.alloc (.cells #[c0,c1,c2] e')):=by
 obtain⟨xs,h1,h2⟩:=hown
 have hl:xs.length=q.length*3:=h1.clen
 have hf2:=hf
 obtain⟨a1,b1,ha,h4,h5⟩:=hf2
 injection ha with ha
 injection ha with ha
 simp only[List.cons.injEq,and_true]at ha
 obtain⟨rfl,rfl,rfl⟩:=ha
 obtain⟨p1,p2,p3,rfl,_⟩:=h4.v.sl
 obtain⟨s1,s2,s3,rfl,_⟩:=h5.v.sl
 refine zwf w0 hgd s x t ho B e e' i _ 3 56 ht hi hz hsize hby rfl (by decide) (fun c hc z=>by
  have hc2:c∈ [Value.bool false, .slice none 0 0, .slice none 0 0]:=hc
  simp at hc2;rcases hc2 with rfl | rfl<;>simp) v q.length xs hs h1 #[.bool (decide (r<0)), .slice p1 p2 p3, .slice s1 s2 s3] rfl hxe
  (fun u hu=>by simp at hu;rcases hu with rfl | rfl | rfl<;>rfl) (fun u hu z=>by simp at hu;rcases hu with rfl | rfl | rfl<;>simp) (by simp[maxLen];omega) (by omega) hbase ?_
 intro v' w' k1 k2 k3
 refine h v' w' ⟨_,?_,(zwe.snoc (r:=r) h2 hl hf).grown k2 h1.nl⟩ k2 h1.nl k3 k1.sl
 rw[List.length_append]
 exact k1
theorem zxl {P:Program} (t e:TypeId) (i:TypeInfo) (z:Value) (bytes:Nat) (ht:P.underlying t=some (.slice e)) (hi:P.info? e=some i) (hz:i.zero=some z) (hsize:i.size=1) (hby:i.bytes=bytes) (hby2:bytes≤64) (hzc:z.cells=#[z]) (hzn:∀k,z≠ .int .u32 k)
 (w0:World) {ops:Array Oper} {rest:List Oper} {o:Oper} {a:Act} {Q:Exit→Act→World→Prop} (hgd:o.guard=none) (s x:Operand)
 (ho:o.op= .call { callee:= .builtin .append,args:=#[s,x],argTypes:=#[t,t] }) (B:Nat) (e':TypeId)
 (v:Value) (xs:List Value) (hs:a.eval s=v) (hown:zlc w0 e B 1 v xs.length xs) (c:Value) (hc1:c.oneCell'=true) (hcn:∀k,c≠ .int .u32 k) (hxe:a.eval x= .slice (some ⟨w0.heap.size,0,none⟩) 1 1) (hn:xs.length≤1000) (hbase:B≤w0.heap.size)
 (h:∀v' w',zlc w' e B 1 v' (xs++ [c]).length (xs++ [c])→w0.grownBy w' v.ownBlock→zlb w0 v→(v'.ownBlock=v.ownBlock∨v'.ownBlock=some (w0.heap.size+1))→zgc v'→wpList P ops Q rest (a.put o.dst v') w'):
 wpList P ops Q (o::rest) a (w0.alloc (.cells #[c] e')):=by
 refine zwf w0 hgd s x t ho B e e' i _ 1 bytes ht hi hz hsize hby (by rw[hzc];rfl) (by decide) (fun d hd=>by rw[hzc]at hd;simp at hd;subst hd;exact hzn) v xs.length xs hs hown #[c] rfl hxe
  (fun u hu=>by simp at hu;subst hu;exact hc1) (fun u hu z=>by simp at hu;subst hu;exact hcn z) (by simp[maxLen];omega) (by have :(xs.length+1)*bytes≤1001*64:=Nat.mul_le_mul (by omega) hby2;omega) hbase ?_
 intro v' w' k1 k2 k3
 refine h v' w' ?_ k2 hown.nl k3 k1.sl
 rw[List.length_append]
 exact k1
theorem make_one (w:World):Calls Tryz.prog 187 #[.int .u64 1] w (RNat w 1):=zxj 1 (by decide) w
theorem C3.frac {w:World} {v0 v1 v2:Value} {q:Rat} (h:zqa w (.agg #[v0,v1,v2]) q):∃s a1 l1 k1 a2 l2 k2,v0= .bool s∧v1= .slice a1 l1 k1∧v2= .slice a2 l2 k2:=by
 obtain⟨s,x,y,e,⟨a1,l1,k1,rfl,_⟩,⟨a2,l2,k2,rfl,_⟩⟩:=h.isF
 injection e with e
 injection e with e
 simp at e
 exact⟨s,a1,l1,k1,a2,l2,k2,e.1,e.2.1,e.2.2⟩
theorem C3.set_other {w:World} {b b':Nat} {v0 v1 v2:Value} (h:C3 w b v0 v1 v2) (hb:b≠b') (u0 u1 u2:Value):C3 (((w.setCell ⟨b',0,none⟩ u0).setCell ⟨b',1,none⟩ u1).setCell ⟨b',2,none⟩ u2) b v0 v1 v2:=by
 obtain⟨lt,c0,c1,c2,f0,f1,f2⟩:=h
 refine⟨by simpa [World.setCell]using lt,?_,?_,?_,?_,?_,?_⟩<;>go_simp
theorem zuc {q:Rat} (h:fits q):okN q.num.natAbs q.den:=⟨q.den_nz,h.2,h.1⟩
set_option maxHeartbeats 1600000 in
theorem sum_frac (va:Value) (l:List RF) (w:World) (ha:zni w va l) (hok:∀x∈l,x.ok) (hfit:∀k,k≤l.length→fits (zgg (qs (l.take k)))):
 Calls Tryz.prog 137 #[va] w fun e w'=>∃v,e= .returned (.tuple #[v, .int .i64 0])∧zqa w' v (zgg (qs l))∧Below w.heap.size w w':=by
 have sa:=ha.sl
 have la:=ha.len
 have hle:=sa.le
 rw[la]at hle
 have hlb:l.length≤9223372036854775807:=by omega
 have HOK:=zH hok
 have HFIT:=zH hfit
 clear hok hfit hle
 go_enter Tryz.func137,Tryz.ntmps137
 go_wp2_with (go_at_call 187;(with_reducible refine(make_one _).mono ?_);rintro e w1 ⟨r1,rfl,hr1,hb1⟩;obtain⟨a1,l1,k1,rfl,_⟩:=hr1.v.sl)
 have hb0:=(zca w (.cells #[.bool false, .slice none 0 0, .slice none 0 0] 38))
 have hbw:=zaa hb0 hb1
 have hr:=(C3.new w 38 _ _ _).belowS hb1
 have hlt:w.heap.size<w1.heap.size:=hr.lt
 have hr2:=hr.allocS (.cells #[.bool false, .slice none 0 0, .slice a1 l1 k1] 38)
 have hs2:=C3.new w1 38 (.bool false) (.slice none 0 0) (.slice a1 l1 k1)
 have hb2:=zaa hbw (zca w1 (.cells #[.bool false, .slice none 0 0, .slice a1 l1 k1] 38))
 have hf2:zqa (w1.alloc (.cells #[.bool false, .slice none 0 0, .slice a1 l1 k1] 38)) (.agg #[.bool false, .slice none 0 0, .slice a1 l1 k1]) 0:=⟨_,_,rfl,zjb.nil _,hr1.below (zca _ _)⟩
 generalize w1.alloc (.cells #[.bool false, .slice none 0 0, .slice a1 l1 k1] 38)=W1 at *
 generalize w1.heap.size=S at *
 clear hb0 hb1 hbw hr hr1
 go_loopw [13] (fun u13 wr=>∃ (k:Nat) (v0 v1 v2:Value),k≤l.length∧u13= .int .i64 k∧C3 wr S v0 v1 v2∧zqa wr (.agg #[v0,v1,v2]) (zgg (qs (l.take k)))∧C3 wr w.heap.size (.bool false) (.slice none 0 0) (.slice none 0 0)∧Below w.heap.size w wr) (fun u13 _=>l.length- (intOf u13).toNat)
 case atStart=>exact⟨0,_,_,_,Nat.zero_le _,rfl,hs2,hf2,hr2,hb2⟩
 case round=>
  obtain⟨k,v0,v1,v2,hk,rfl,hs,hf,hr,hb⟩:=hrel
  clear hs2 hf2 hr2 hb2
  obtain⟨s0,b1,m1,j1,b2,m2,j2,rfl,rfl,rfl⟩:=C3.frac hf
  have HS:=zH hs
  have HR:=zH hr
  have HF:=zH hf
  obtain⟨_,s1,s2,s3,s4,s5,s6⟩:=hs
  obtain⟨_,q1,q2,q3,q4,q5,q6⟩:=hr
  clear hf
  by_cases hkl:k<l.length
  ·obtain⟨xa,xb,c1,c2,c3,hxa,hxb⟩:=(ha.below hb).at' k hkl
   obtain⟨c1a,c1l,c1k,rfl,_⟩:=hxa.slen.1
   obtain⟨c2a,c2l,c2k,rfl,_⟩:=hxb.slen.1
   have hA:zdc (wr.alloc (.cells #[.bool l[k].neg, .slice c1a c1l c1k, .slice c2a c2l c2k] 38)) (.agg #[.bool l[k].neg, .slice c1a c1l c1k, .slice c2a c2l c2k]) l[k].neg l[k].n l[k].d:=⟨_,_,rfl,hxa.below (zca _ _),hxb.below (zca _ _)⟩
   have hB:=(HF.out.raw).below (zca wr (.cells #[.bool l[k].neg, .slice c1a c1l c1k, .slice c2a c2l c2k] 38))
   have hs1:=HS.out.allocS (.cells #[.bool l[k].neg, .slice c1a c1l c1k, .slice c2a c2l c2k] 38)
   have hr1:=HR.out.allocS (.cells #[.bool l[k].neg, .slice c1a c1l c1k, .slice c2a c2l c2k] 38)
   have hb1:=zaa hb (zca wr (.cells #[.bool l[k].neg, .slice c1a c1l c1k, .slice c2a c2l c2k] 38))
   have HO:Hid (okN l[k].n l[k].d):=zH (HOK.out l[k] (List.getElem_mem hkl))
   have HQ:=zH (zuc (HFIT.out k hk))
   have HE:Hid (fq (decide (zgg (qs (l.take k))<0)) (zgg (qs (l.take k))).num.natAbs (zgg (qs (l.take k))).den+fq l[k].neg l[k].n l[k].d=zgg (qs (l.take (k+1)))):=zH (by rw[zvb,lsum_qs l k hkl];rfl)
   have HF1:=zH (HFIT.out (k+1) hkl)
   clear hb hxa hxb
   go_wp2_with (go_at_call 80;(with_reducible refine(zco _ _ _ _ _ _ _ _ _ hB hA HQ.out HO.out).mono ?_);rw[HE.out];rintro e w7 ⟨v,er,rfl,hb7,hv7,_⟩
                obtain⟨rfl,hv8⟩:=hv7 HF1.out
                obtain⟨t9,x9,y9,rfl,⟨a1,l91,k1,rfl,_⟩,⟨a2,l92,k2,rfl,_⟩⟩:=hv8.isF
                have hs8:=(hs1.belowS hb7).allocS (.cells #[.bool t9, .slice a1 l91 k1, .slice a2 l92 k2] 38)
                have hr8:=(hr1.belowS hb7).allocS (.cells #[.bool t9, .slice a1 l91 k1, .slice a2 l92 k2] 38)
                have hb8:=zaa (zaa hb1 hb7) (zca w7 (.cells #[.bool t9, .slice a1 l91 k1, .slice a2 l92 k2] 38))
                have hv9:=hv8.below (zca w7 (.cells #[.bool t9, .slice a1 l91 k1, .slice a2 l92 k2] 38))
                have HS8:=zH hs8
                obtain⟨_,d1,d2,d3,d4,d5,d6⟩:=hs8)
   go_roundw
   case rel=>exact⟨k+1,_,_,_,hkl,by go_num,HS8.out.set _ _ _,hv9.set3 HS8.out (fun z=>by simp) (fun z=>by simp) _ _ _,hr8.set_other (by omega) _ _ _,zga hb8 (by omega) _ _ _⟩
   case measure=>simp[intOf];omega
  ·obtain rfl:k=l.length:=by omega
   have HF2:Hid (zqa wr (.agg #[.bool s0, .slice b1 m1 j1, .slice b2 m2 j2]) (zgg (qs l))):=zH (by have h5:=HF.out;rw[List.take_length]at h5;exact h5)
   clear HF
   go_wp2
   refine zoa rfl rfl Tryz.aggF Tryz.sizeF (HR.out.set _ _ _) rfl ?_
   exact⟨_,rfl,HF2.out.set3 HR.out (fun z=>by simp) (fun z=>by simp) _ _ _,zga hb (Nat.le_refl _) _ _ _⟩
end Go.Proofs.YtlpdkbmmbdfoiaaGreat
namespace Go.Proofs.YtlpdkbmmbdfoiaaGreat
theorem znn (a:Int) (b:Nat) (hb:b≠0):mkRat a b<0↔a<0:=by
 have e:mkRat a b=fq (decide (a<0)) a.natAbs b:=by
  unfold fq sgn
  congr 1
  by_cases h:a<0
  ·rw[if_pos (decide_eq_true h)];omega
  ·rw[decide_eq_false h];simp;omega
 have h:=zqu (decide (a<0)) a.natAbs b hb
 rw[e]
 by_cases h0:a<0
 ·rw[decide_eq_true h0]at h ⊢
  have hg:0<a.natAbs/Nat.gcd a.natAbs b:=Nat.div_pos (Nat.le_of_dvd (by omega) (Nat.gcd_dvd_left _ _)) (Nat.gcd_pos_of_pos_left _ (by omega))
  rw[decide_eq_true hg]at h
  simp only[Bool.and_self,decide_eq_true_eq]at h
  exact⟨fun _=>h0,fun _=>h⟩
 ·rw[decide_eq_false h0]at h ⊢
  simp only[Bool.false_and,decide_eq_false_iff_not]at h
  exact⟨fun h'=>absurd h' h,fun h'=>absurd h' h0⟩
theorem fq_lt (s t:Bool) (n d m e:Nat) (hd:d≠0) (he:e≠0):fq s n d<fq t m e↔sgn s (n*e)<sgn t (m*d):=by
 have h1:fq s n d<fq t m e↔fq s n d-fq t m e<0:=by
  rw[Rat.lt_iff_sub_pos,Rat.lt_iff_sub_pos (fq s n d-fq t m e)]
  have :(0:Rat)- (fq s n d-fq t m e)=fq t m e-fq s n d:=by grind
  rw[this]
 have h2: -fq t m e=fq (!t) m e:=by
  unfold fq
  rw[Rat.neg_mkRat]
  congr 1
  unfold sgn;cases t<;>simp
 rw[h1,Rat.sub_eq_add_neg,h2,fq_add _ _ _ _ _ _ hd he,znn _ _ (Nat.mul_ne_zero hd he)]
 have h3:sgn (!t) (m*d)= -sgn t (m*d):=by unfold sgn;cases t<;>simp
 rw[h3]
 omega
def zsr (p q:Rat):Int:=if p<q then -1 else if q<p then 1 else 0
theorem cmpR_eq (s t:Bool) (n d m e:Nat) (hd:d≠0) (he:e≠0):
 zsr (fq s n d) (fq t m e)=if s&& !decide (n=0)&&(t&& !decide (m=0))then -zfj (n*e) (m*d)else if s&& !decide (n=0)then -1 else if t&& !decide (m=0)then 1 else zfj (n*e) (m*d):=by
 have hA:n*e=0↔n=0:=by rw[Nat.mul_eq_zero];exact⟨fun h=>h.resolve_right he,Or.inl⟩
 have hB:m*d=0↔m=0:=by rw[Nat.mul_eq_zero];exact⟨fun h=>h.resolve_right hd,Or.inl⟩
 have h1:=fq_lt s t n d m e hd he
 have h2:=fq_lt t s m e n d he hd
 have e1:zsr (fq s n d) (fq t m e)=if sgn s (n*e)<sgn t (m*d)then -1 else if sgn t (m*d)<sgn s (n*e)then 1 else 0:=by
  unfold zsr
  simp only[h1,h2]
 rw[e1]
 clear e1 h1 h2
 generalize n*e=A at *
 generalize m*d=B at *
 unfold zfj sgn
 have c1:decide (n=0)=decide (A=0):=by simp only[hA]
 have c2:decide (m=0)=decide (B=0):=by simp only[hB]
 rw[c1,c2]
 clear c1 c2 hA hB
 by_cases hA:A=0<;>by_cases hB:B=0<;>cases s<;>cases t<;>simp[hA,hB]<;>(repeat' split)<;>omega
end Go.Proofs.YtlpdkbmmbdfoiaaGreat
