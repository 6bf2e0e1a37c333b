/-
  Tape.Chain, the inner loop's state. No code is walked here.
-/
import Derived.Test.YtlpdkbmmbdfoiaaGCh2
import Derived.Test.YtlpdkbmmbdfoiaaGKp
import Derived.Test.YtlpdkbmmbdfoiaaGRa3
import Derived.Test.YtlpdkbmmbdfoiaaGMk1
import Derived.Test.YtlpdkbmmbdfoiaaGOrd
import Derived.Test.YtlpdkbmmbdfoiaaGOwR
import Derived.Test.YtlpdkbmmbdfoiaaGEl1
import Derived.Deep.CutRange
import Derived.Deep.DeepCutAuto
import Derived.Deep.LoopGhost
import Derived.Deep.RegionHeld3
import Derived.Lib.SliceRun
set_option linter.unusedVariables false
set_option linter.unusedSimpArgs false
namespace Go.Proofs.Ytlpdkbmmbdfoiaa
open Go.RowKit
def stateP (c:RC) (i:Nat) (r:List RF):Prop:=rowP r c.start.length∧(∀x,r[i]? =some x→x.q.num=0)∧(c.lost[i]? =some true→wts (qs r)=0)
def validP (c:RC):Prop:=1≤c.start.length∧c.start.length≤128∧c.lost.length=c.start.length∧c.rates.length=c.start.length∧rowP c.start c.start.length∧
 (∀i r,c.rates[i]? =some r→stateP c i r)∧zgg (qs c.start)=1
theorem rowP.fits {l:List RF} {n:Nat} (h:rowP l n) (k:Nat):fits (zgg (qs (l.take k))):=by
 have h1:∀q∈qs l,0≤q:=fun q hq=>by
  obtain⟨x,hx,rfl⟩:=List.mem_map.1 hq
  exact Rat.not_lt.1 (h.1 x hx).2.1
 rw[←qs_take]
 exact lsum_fits (List.take_sublist k _) h1 h.2.2
theorem cmp_can (va vb:Value) (p q:Rat) (w:World) (ha:zqa w va p) (hb:zqa w vb q) (hp:fits p) (hq:fits q):
 Calls Try.prog 57 #[va,vb] w fun en w'=>en= .returned (.tuple #[.int .i64 (cmpR p q), .int .i64 0])∧Below w.heap.size w w':=by
 have h:=cmp_frac va vb _ _ _ _ _ _ w ha.raw hb.raw (zuc hp) (zuc hq)
 rw[zvb,zvb]at h
 exact h
@[go_sem] theorem slen_slice (a : Option Addr) (n c : Nat) : slen (.slice a n c) = n := rfl
def rawM (n m:Nat) (A:Mx):List (List RF):=(List.range n).map fun i=>(zib m (A i)).map RF.of
theorem zpc (n m:Nat) (A:Mx):(rawM n m A).length=n:=by simp[rawM]
theorem rawM_get (n m:Nat) (A:Mx) (i:Nat) (h:i<(rawM n m A).length):(rawM n m A)[i]=(zib m (A i)).map RF.of:=by simp[rawM]
theorem zam.raw {w:World} {v:Value} {n m:Nat} {A:Mx} (h:zam w v n m A):MatN w v (rawM n m A):=
 ⟨h.sl,by rw[h.len,zpc],fun j hj=>by
  rw[zpc]at hj
  obtain⟨r,h1,h2⟩:=h.row j hj
  exact⟨r,h1,by rw[rawM_get];exact h2.raw⟩⟩
def fitM (n m:Nat) (A:Mx):Prop:=∀i j,i<n→j<m→fits (A i j)
theorem zgn {n m:Nat} {A:Mx} {l:List RF} (h:l∈rawM n m A):∃i,i<n∧l=(zib m (A i)).map RF.of:=by
 obtain⟨i,hi,rfl⟩:=List.mem_map.1 h
 exact⟨i,List.mem_range.1 hi,rfl⟩
theorem rawM_ok {n m:Nat} {A:Mx} (hf:fitM n m A):∀l∈rawM n m A,∀x∈l,x.ok:=by
 intro l hl x hx
 obtain⟨i,hi,rfl⟩:=zgn hl
 obtain⟨q,hq,rfl⟩:=List.mem_map.1 hx
 obtain⟨j,hj,rfl⟩:=List.mem_map.1 hq
 exact RF.of_ok (hf i j hi (List.mem_range.1 hj))
theorem zhn {n m:Nat} {A:Mx}:∀l∈rawM n m A,l.length=m:=by
 intro l hl
 obtain⟨i,hi,rfl⟩:=zgn hl
 rw[List.length_map,zea]
theorem zth {n m:Nat} {A:Mx} (hn:1≤n):((rawM n m A).headD []).length=m:=by
 cases h:rawM n m A with
 | nil=>have:=zpc n m A;rw[h]at this;simp at this;omega
 | cons a l=>exact zhn (A:=A) (n:=n) a (by rw[h];simp)
def wtF (n m:Nat) (A:Mx):Nat:=wtsM (rawM n m A)
theorem zbb.setc {w:World} {v:Value} {q:List Rat} (h:zbb w v q) {p:Addr} {x:Value} (hp:(base v).block≠p.block) (hc:w.cell? p=some x) (hx:∀z,x≠ .int .u32 z) (u:Value):zbb (w.setCell p u) v q:=by
 have hne:∀k,p≠ptr v k:=fun k e=>hp (by rw[e,zsa])
 refine⟨h.sl,h.len,fun j hj=> ?_⟩
 obtain⟨a,b,h1,h2,h3,h4,h5⟩:=h.at' j hj
 exact⟨a,b,by rw[World.cell?_setCell_other _ _ _ _ (hne _)];exact h1,by rw[World.cell?_setCell_other _ _ _ _ (hne _)];exact h2,by rw[World.cell?_setCell_other _ _ _ _ (hne _)];exact h3,⟨h4.v.over hc hx u,h4.2⟩,⟨h5.v.over hc hx u,h5.2⟩⟩
theorem fracs_one {w:World} {b:Nat} {x y z:Value} {r:Rat} (hb:zjf w b #[x,y,z]) (hf:zqa w (.agg #[x,y,z]) r):zbb w (.slice (some ⟨b,0,none⟩) 1 1) [r]:=by
 obtain⟨a1,b1,ha,h4,h5⟩:=hf
 injection ha with ha
 injection ha with ha
 simp only[List.cons.injEq,and_true]at ha
 obtain⟨rfl,rfl,rfl⟩:=ha
 refine⟨⟨_,1,1,rfl,Nat.le_refl _,by simp[maxLen],fun e=>by cases e⟩,rfl,fun j hj=> ?_⟩
 obtain rfl:j=0:=by simp at hj;omega
 have hp:∀k,ptr (.slice (some ⟨b,0,none⟩) 1 1) k=⟨b,k,none⟩:=fun k=>by simp only[ptr,base,Addr.add_lit,Nat.zero_add]
 exact⟨y,z,by rw[hp];exact hb.cell 0 rfl,by rw[hp];exact hb.cell 1 rfl,by rw[hp];exact hb.cell 2 rfl,h4,h5⟩
theorem mat_one {w:World} {b:Nat} {r:Value} {q:List RF} (hb:zjf w b #[r]) (hq:zni w r q):MatN w (.slice (some ⟨b,0,none⟩) 1 1) [q]:=by
 refine⟨⟨_,1,1,rfl,Nat.le_refl _,by simp[maxLen],fun e=>by cases e⟩,rfl,fun j hj=> ?_⟩
 obtain rfl:j=0:=by simp at hj;omega
 have hp:∀k,ptr (.slice (some ⟨b,0,none⟩) 1 1) k=⟨b,k,none⟩:=fun k=>by simp only[ptr,base,Addr.add_lit,Nat.zero_add]
 exact⟨r,by rw[hp];exact hb.cell 0 rfl,hq⟩
theorem zvh (l:List Rat):qs (l.map RF.of)=l:=by
 unfold qs;rw[List.map_map]
 have :(RF.q∘RF.of)=id:=by funext q;exact RF.of_q q
 rw[this,List.map_id]
theorem wts_rowL {n K:Nat} {f:Nat→Rat} (h:∀j,j<n→wt (f j)≤K):wts (zib n f)≤n*K:=by
 induction n with
 | zero=>simp[zib,wts]
 | succ n ih=>
   have h1:=ih fun j hj=>h j (by omega)
   have h2:=h n (Nat.lt_succ_self n)
   have e:zib (n+1) f=zib n f++ [f n]:=by unfold zib;rw[List.range_succ,List.map_append];rfl
   rw[e,wts_snoc,Nat.succ_mul]
   omega
theorem wts_rawV {n K:Nat} {f:Nat→Rat} (h:∀j,j<n→wt (f j)≤K):wts (qs ((zib n f).map RF.of))≤n*K:=by
 rw[zvh];exact wts_rowL h
theorem sum_map_le {l:List (List RF)} {g:List RF→Nat} {K:Nat} (h:∀x∈l,g x≤K):(l.map g).sum≤l.length*K:=by
 induction l with
 | nil=>simp
 | cons x l ih=>
   have h1:=h x (by simp)
   have h2:=ih fun y hy=>h y (by simp[hy])
   rw[List.map_cons,List.sum_cons,List.length_cons,Nat.succ_mul]
   omega
theorem wtF_le {n m K:Nat} {A:Mx} (h:∀i j,i<n→j<m→wt (A i j)≤K):wtF n m A≤n*(m*K):=by
 unfold wtF wtsM
 have h2:=sum_map_le (l:=rawM n m A) (g:=fun l=>wts (qs l)) (K:=m*K) fun l hl=>by
  obtain⟨i,hi,rfl⟩:=zgn hl
  exact wts_rawV fun j hj=>h i j hi hj
 rw[zpc]at h2
 exact h2
theorem keep6w {w0 X Y:World} {a1 a2 a3 a4 a5 a6:Addr} {x1 x2 x3 x4 x5 x6:Value} (h:X.cell? a1=some x1∧X.cell? a2=some x2∧X.cell? a3=some x3∧X.cell? a4=some x4∧X.cell? a5=some x5∧X.cell? a6=some x6∧Below w0.heap.size w0 X) (hb:Below X.heap.size X Y):
 Y.cell? a1=some x1∧Y.cell? a2=some x2∧Y.cell? a3=some x3∧Y.cell? a4=some x4∧Y.cell? a5=some x5∧Y.cell? a6=some x6∧Below w0.heap.size w0 Y:=by
 obtain⟨k1,k2,k3,k4,k5,k6,k7⟩:=h
 exact⟨zba hb k1,zba hb k2,zba hb k3,zba hb k4,zba hb k5,zba hb k6,zaa k7 hb⟩
theorem keep6a {w0 X:World} {a1 a2 a3 a4 a5 a6:Addr} {x1 x2 x3 x4 x5 x6:Value} (h:w0.cell? a1=some x1∧w0.cell? a2=some x2∧w0.cell? a3=some x3∧w0.cell? a4=some x4∧w0.cell? a5=some x5∧w0.cell? a6=some x6) (hb:Below w0.heap.size w0 X):
 X.cell? a1=some x1∧X.cell? a2=some x2∧X.cell? a3=some x3∧X.cell? a4=some x4∧X.cell? a5=some x5∧X.cell? a6=some x6∧Below w0.heap.size w0 X:=by
 obtain⟨k1,k2,k3,k4,k5,k6⟩:=h
 exact⟨zba hb k1,zba hb k2,zba hb k3,zba hb k4,zba hb k5,zba hb k6,hb⟩
theorem zgi {w0 X:World} {a1 a2 a3 a4 a5 a6:Addr} {x1 x2 x3 x4 x5 x6:Value} (h:X.cell? a1=some x1∧X.cell? a2=some x2∧X.cell? a3=some x3∧X.cell? a4=some x4∧X.cell? a5=some x5∧X.cell? a6=some x6∧Below w0.heap.size w0 X):Below w0.heap.size w0 X:=h.2.2.2.2.2.2
theorem keep6s {w0 X:World} {a1 a2 a3 a4 a5 a6:Addr} {x1 x2 x3 x4 x5 x6:Value} (h:w0.cell? a1=some x1∧w0.cell? a2=some x2∧w0.cell? a3=some x3∧w0.cell? a4=some x4∧w0.cell? a5=some x5∧w0.cell? a6=some x6) (hb:Below w0.heap.size w0 X) {b:Nat} (hB:w0.heap.size≤b) (x y z:Value):
 (((X.setCell ⟨b,0,none⟩ x).setCell ⟨b,1,none⟩ y).setCell ⟨b,2,none⟩ z).cell? a1=some x1∧(((X.setCell ⟨b,0,none⟩ x).setCell ⟨b,1,none⟩ y).setCell ⟨b,2,none⟩ z).cell? a2=some x2∧(((X.setCell ⟨b,0,none⟩ x).setCell ⟨b,1,none⟩ y).setCell ⟨b,2,none⟩ z).cell? a3=some x3∧
 (((X.setCell ⟨b,0,none⟩ x).setCell ⟨b,1,none⟩ y).setCell ⟨b,2,none⟩ z).cell? a4=some x4∧(((X.setCell ⟨b,0,none⟩ x).setCell ⟨b,1,none⟩ y).setCell ⟨b,2,none⟩ z).cell? a5=some x5∧(((X.setCell ⟨b,0,none⟩ x).setCell ⟨b,1,none⟩ y).setCell ⟨b,2,none⟩ z).cell? a6=some x6∧Below w0.heap.size w0 (((X.setCell ⟨b,0,none⟩ x).setCell ⟨b,1,none⟩ y).setCell ⟨b,2,none⟩ z):=
 keep6a h (zga hb hB x y z)
@[go_sem] theorem slen_lit2 (a : Option Addr) (n c : Nat) : slen (.slice a n c) = n := rfl
def rowsQ (c:RC) (i:Nat):List Rat:=qs (c.rates.getD i [])
theorem validP.row {c:RC} (h:validP c) {i:Nat} (hi:i<c.lost.length):∃h2:i<c.rates.length,(c.rates[i]).length=c.lost.length∧rowP c.rates[i] (c.rates[i]).length∧rowsQ c i=qs c.rates[i]:=by
 obtain⟨h1,h2,h3,h4,h5,h6,h7⟩:=h
 have hi2:i<c.rates.length:=by omega
 obtain⟨r1,_⟩:=h6 i _ (List.getElem?_eq_getElem hi2)
 have hl:(c.rates[i]).length=c.start.length:=r1.2.1
 refine⟨hi2,by rw[hl,h3],by rw[hl];exact r1,?_⟩
 unfold rowsQ
 simp only[List.getD,List.getElem?_eq_getElem hi2,Option.getD_some]
def oth (y:Int) (n:Nat):Int:=if n%2=0 then y+((n/2+1:Nat):Int)else y- ((n/2+1:Nat):Int)
theorem oth_ne (y:Int) (n:Nat):oth y n≠y:=by unfold oth;split<;>omega
@[go_sem] theorem oth_beq (y : Int) (n : Nat) : (oth y n == y) = false := by simpa using oth_ne y n
@[go_sem] theorem beq_oth (y : Int) (n : Nat) : (y == oth y n) = false := by simpa using fun h => oth_ne y n h.symm
@[go_sem] theorem oth_bne (y : Int) (n : Nat) : (oth y n != y) = true := by simpa using oth_ne y n
@[go_sem] theorem bne_oth (y : Int) (n : Nat) : (y != oth y n) = true := by simpa using fun h => oth_ne y n h.symm
@[go_sem] theorem int_beq_self (y : Int) : (y == y) = true := by simp
@[go_sem] theorem int_bne_self (y : Int) : (y != y) = false := by simp
def bsums (bl:List Int) (row:List Rat) (n:Nat):List Rat:=(List.range n).map fun b:Nat=>bsum bl row b
end Go.Proofs.Ytlpdkbmmbdfoiaa
namespace Go.Proofs.Ytlpdkbmmbdfoiaa
def zcq (own:Int) (p q:List Rat):Prop:=∀ (i:Nat) (x y:Rat),(i:Int)≠own→p[i]? =some x→q[i]? =some y→x=y
theorem zcq.refl (own:Int) (p:List Rat):zcq own p p:=fun i x y _ h1 h2=>by rw[h1]at h2;injection h2
theorem zcq.symm {own:Int} {p q:List Rat} (h:zcq own p q):zcq own q p:=fun i x y h0 h1 h2=>(h i y x h0 h2 h1).symm
theorem zcq.trans {own:Int} {p q r:List Rat} (h:zcq own p q) (k:zcq own q r) (hl:p.length=q.length):zcq own p r:=fun i x z h0 h1 h2=>by
 have hi:i<q.length:=by rw[←hl];exact(List.getElem?_eq_some_iff.1 h1).1
 have h3:q[i]? =some (q[i]'hi):=List.getElem?_eq_getElem hi
 rw[h i x _ h0 h1 h3,k i _ z h0 h3 h2]
def agree (bl:List Int) (f:Nat→List Rat) (g:Nat→Bool) (i j:Nat):Prop:=∀b,bl[i]? =some b→bl[j]? =some b→g i=g j∧zcq b (f i) (f j)
structure Heads (bl:List Int) (f:Nat→List Rat) (g:Nat→Bool) (k:Nat) (rep:Nat→Nat):Prop where
 lt:∀b,b<cnt (bl.take k)→rep b<k∧bl[rep b]? =some (b:Int)
 agree:∀i (b:Nat),i<k→bl[i]? =some (b:Int)→g i=g (rep b)∧zcq b (f i) (f (rep b))
theorem Heads.zero (bl:List Int) (f:Nat→List Rat) (g:Nat→Bool):Heads bl f g 0 (fun _=>0):=⟨fun b h=>by simp[cnt]at h,fun i b h=>by omega⟩
def firstB (bl:List Int) (b:Nat):Nat:=bl.findIdx (fun x=>decide (x=(b:Int)))
def zdq (q:Rat):Prop:=∃a b:Nat,a≤4∧1≤b∧b≤4∧q=fq false a b
theorem zdq.cases (P:Rat→Prop) [DecidablePred P] (h:∀a,a<5→∀b,b<5→b≠0→P (fq false a b)) {q:Rat} (hq:zdq q):P q:=by
 obtain⟨a,b,h1,h2,h3,rfl⟩:=hq
 exact h a (by omega) b (by omega) (by omega)
theorem zdq.num {q:Rat} (h:zdq q):q.num.natAbs≤4:=zdq.cases (fun q=>q.num.natAbs≤4) (by decide) h
theorem zdq.den {q:Rat} (h:zdq q):q.den≤4:=zdq.cases (fun q=>q.den≤4) (by decide) h
theorem zkq {n:Nat} (h:n≤4):zua n≤3:=zwb.2 (by omega)
theorem zdq.fits {q:Rat} (h:zdq q):fits q:=⟨Nat.le_trans (zkq h.num) (by decide),Nat.le_trans (zkq h.den) (by decide)⟩
def RowF (n lo i:Nat) (r:List Rat) (m:Nat):Prop:=r.length=m∧(∀q∈r,zdq q)∧(∀x:Rat,r[i]? =some x→x=0)∧((n:Int)-lo≤i→∀q∈r,q=0)
theorem RowF.nil (n lo i:Nat):RowF n lo i [] 0:=⟨rfl,fun q h=>by simp at h,fun x h=>by simp at h,fun _ q h=>by simp at h⟩
end Go.Proofs.Ytlpdkbmmbdfoiaa
namespace Go.Proofs.Ytlpdkbmmbdfoiaa
open Go.RowKit
def ChkI (c:RC) (bl:List Int) (tF tB:TypeId) (B3 B4 B5:Nat) (v3 v4:Value) (k:Nat) (rep:Nat→Nat) (es:List Value) (fs:List Bool) (wr:World):Prop:=
 Heads bl (fun i=>bsums bl (rowsQ c i) (cnt bl)) (fun i=>c.lost.getD i false) k rep∧zce wr tF B3 v3 es∧es.length=cnt bl∧zce wr tB B4 v4 (fs.map Value.bool)∧fs.length=cnt bl∧
 (∀b,b<cnt (bl.take k)→∃a n kk,es[b]? =some (.slice (some a) n kk)∧zbb wr (.slice (some a) n kk) (bsums bl (rowsQ c (rep b)) (cnt bl))∧B5≤a.block∧fs[b]? =some (c.lost.getD (rep b) false))∧
 (∀b,cnt (bl.take k)≤b→b<cnt bl→es[b]? =some (.slice none 0 0))
theorem ChkI.start {c:RC} {bl:List Int} {tF tB:TypeId} {B3 B4:Nat} (B5:Nat) {v3 v4:Value} {w:World} (h3:zce w tF B3 v3 (List.replicate (cnt bl) (.slice none 0 0))) (h4:zce w tB B4 v4 (List.replicate (cnt bl) (.bool false))):
 ChkI c bl tF tB B3 B4 B5 v3 v4 0 (fun _=>0) (List.replicate (cnt bl) (.slice none 0 0)) (List.replicate (cnt bl) false) w:=by
 refine⟨Heads.zero _ _ _,h3,by simp,by rw[List.map_replicate];exact h4,by simp,fun b hb=> ?_,fun b _ hb=> ?_⟩
 ·simp[cnt_nil]at hb
 ·rw[List.getElem?_replicate,if_pos hb]
theorem ChkI.below {c:RC} {bl:List Int} {tF tB:TypeId} {B3 B4 B5:Nat} {v3 v4:Value} {k:Nat} {rep:Nat→Nat} {es:List Value} {fs:List Bool} {wr w5:World}
 (h:ChkI c bl tF tB B3 B4 B5 v3 v4 k rep es fs wr) (hb:Below wr.heap.size wr w5):ChkI c bl tF tB B3 B4 B5 v3 v4 k rep es fs w5:=by
 obtain⟨hH,h3,hel,h4,hfl,hseen,hnew⟩:=h
 refine⟨hH,h3.below hb,hel,h4.below hb,hfl,fun b hb'=> ?_,hnew⟩
 obtain⟨a,n,kk,q1,q2,q3,q4⟩:=hseen b hb'
 exact⟨a,n,kk,q1,q2.below hb,q3,q4⟩
structure ClsV (w:World) (v:Value) (cl:List (Int×List Rat)):Prop where
 sl:zgc v
 len:slen v=cl.length
 at':∀ (j:Nat) (h:j<cl.length),∃r,w.cell? (ptr v (j*2))=some (.int .i64 cl[j].1)∧w.cell? (ptr v (j*2+1))=some r∧zbb w r cl[j].2
theorem ClsV.below {w w':World} {v:Value} {cl:List (Int×List Rat)} (h:ClsV w v cl) (hb:Below w.heap.size w w'):ClsV w' v cl:=
 ⟨h.sl,h.len,fun j hj=>by obtain⟨r,e1,e2,e3⟩:=h.at' j hj;exact⟨r,zba hb e1,zba hb e2,e3.below hb⟩⟩
end Go.Proofs.Ytlpdkbmmbdfoiaa
namespace Go.Proofs.Ytlpdkbmmbdfoiaa
def SplitP (bl:List Int) (f:Nat→List Rat) (nx:List Int):Prop:=
 okB nx∧nx.length=bl.length∧∀ (i j:Nat) (a b:Int),bl[i]? =some a→bl[j]? =some b→(nx[i]? =nx[j]? ↔a=b∧zcq a (f i) (f j))
theorem okB_has {l:List Int} (h:okB l) (k:Nat):∀b:Nat,b<cnt (l.take k)→∃j,j<k∧l[j]? =some (b:Int):=by
 induction k with
 | zero=>intro b hb;simp[cnt]at hb
 | succ k ih=>
   intro b hb
   by_cases hk:k<l.length
   ·have hc:=zeq l k hk
    by_cases h1:l[k]=(cnt (l.take k):Int)
    ·rw[if_pos h1]at hc
     by_cases h2:b=cnt (l.take k)
     ·exact⟨k,by omega,by rw[List.getElem?_eq_getElem hk,h1,h2]⟩
     ·obtain⟨j,h3,h4⟩:=ih b (by omega)
      exact⟨j,by omega,h4⟩
    ·rw[if_neg h1]at hc
     obtain⟨j,h3,h4⟩:=ih b (by omega)
     exact⟨j,by omega,h4⟩
   ·rw[List.take_of_length_le (by omega)]at hb
    have h5:cnt l=cnt (l.take k):=by rw[List.take_of_length_le (by omega)]
    obtain⟨j,h3,h4⟩:=ih b (by omega)
    exact⟨j,by omega,h4⟩
theorem okB_new {l:List Int} (h:okB l) {j k:Nat} {b:Int} (hj:l[j]? =some b) (hjk:j<k):b<(cnt (l.take k):Int):=by
 obtain⟨h1,h2⟩:=h j b hj
 obtain⟨h3,h4⟩:=List.getElem?_eq_some_iff.1 hj
 have h5:=zeq l j h3
 have h6:=zgq l (show j+1≤k by omega)
 split at h5<;>omega
theorem SplitP.mono {bl nx:List Int} {f:Nat→List Rat} (h:SplitP bl f nx) (hok:okB bl) (k:Nat):cnt (bl.take k)≤cnt (nx.take k):=by
 obtain⟨h1,h2,h3⟩:=h
 induction k with
 | zero=>exact Nat.le_refl _
 | succ k ih=>
   by_cases hk:k<bl.length
   ·have hk2:k<nx.length:=by omega
    have hc:=zeq bl k hk
    have hd:=zeq nx k hk2
    by_cases h4:bl[k]=(cnt (bl.take k):Int)
    ·rw[if_pos h4]at hc
     by_cases h5:nx[k]=(cnt (nx.take k):Int)
     ·rw[if_pos h5]at hd;omega
     ·exfalso
      obtain⟨h6,h7⟩:=h1 k _ (List.getElem?_eq_getElem hk2)
      obtain⟨b,hb⟩:∃b:Nat,nx[k]=(b:Int):=⟨nx[k].toNat,by omega⟩
      obtain⟨j,h8,h9⟩:=okB_has h1 k b (by omega)
      have hj:j<bl.length:=by omega
      have h10:=(h3 j k _ _ (List.getElem?_eq_getElem hj) (List.getElem?_eq_getElem hk)).1 (by rw[h9,List.getElem?_eq_getElem hk2,hb])
      have h11:=okB_new hok (List.getElem?_eq_getElem hj) h8
      rw[h10.1]at h11
      omega
    ·rw[if_neg h4]at hc
     have:=zlq nx k
     omega
   ·rw[List.take_of_length_le (by omega),List.take_of_length_le (by omega)]
    rw[List.take_of_length_le (by omega),List.take_of_length_le (by omega)]at ih
    exact ih
def midQ (q:Rat):Prop:=∃a b:Nat,a≤16∧1≤b∧b≤16∧q=fq false a b
theorem midQ.num {q:Rat} (h:midQ q):q.num.natAbs≤16:=by
 obtain⟨a,b,h1,h2,h3,rfl⟩:=h
 rw[zif _ _ _ (by omega)]
 exact Nat.le_trans (Nat.div_le_self _ _) h1
theorem midQ.den {q:Rat} (h:midQ q):q.den≤16:=by
 obtain⟨a,b,h1,h2,h3,rfl⟩:=h
 rw[zsm _ _ _ (by omega)]
 exact Nat.le_trans (Nat.div_le_self _ _) h3
theorem midQ.fits {q:Rat} (h:midQ q):fits q:=⟨zwb.2 (Nat.lt_of_le_of_lt h.num (by decide+kernel)),zwb.2 (Nat.lt_of_le_of_lt h.den (by decide+kernel))⟩
theorem foldl_shift (l:List Rat) (s x:Rat):l.foldl (· + ·) (s+x)=l.foldl (· + ·) s+x:=by
 induction l generalizing s with
 | nil=>rfl
 | cons y l ih=>
   simp only[List.foldl_cons]
   rw[show s+x+y=s+y+x by grind,ih]
section
variable {c:CQ} {of:List Int} {share:List Rat}
end
theorem zxp (x:Rat) (l:List Rat):zgg (x::l)=zgg l+x:=by
 unfold zgg
 rw[List.foldl_cons,foldl_shift]
def bigQ (N:Nat) (q:Rat):Prop:=∃a:Nat,a≤N∧q=fq false a 144
theorem bigQ.mono {N M:Nat} {q:Rat} (h:bigQ N q) (hm:N≤M):bigQ M q:=by obtain⟨a,h1,h2⟩:=h;exact⟨a,by omega,h2⟩
theorem bigQ.num {N:Nat} {q:Rat} (h:bigQ N q):q.num.natAbs≤N:=by
 obtain⟨a,h1,rfl⟩:=h
 rw[zif _ _ _ (by omega)]
 exact Nat.le_trans (Nat.div_le_self _ _) h1
theorem bigQ.den {N:Nat} {q:Rat} (h:bigQ N q):q.den≤144:=by
 obtain⟨a,h1,rfl⟩:=h
 rw[zsm _ _ _ (by omega)]
 exact Nat.div_le_self _ _
theorem bigQ.fits {q:Rat} (h:bigQ 23040 q):fits q:=⟨zwb.2 (Nat.lt_of_le_of_lt h.num (by decide+kernel)),zwb.2 (Nat.lt_of_le_of_lt h.den (by decide+kernel))⟩
theorem wts_all3 {l:List Rat} {K:Nat} (h:∀q∈l,wt q≤K):wts l≤l.length*K:=by
 induction l with
 | nil=>simp[wts]
 | cons x l ih=>
   have h1:=h x (by simp)
   have h2:=ih fun q hq=>h q (by simp[hq])
   rw[zmg,List.length_cons,Nat.succ_mul]
   omega
section
variable {c:RC}
end
end Go.Proofs.Ytlpdkbmmbdfoiaa
namespace Go.Proofs.Ytlpdkbmmbdfoiaa
set_option maxHeartbeats 6400000
open Go.RowKit
theorem zvg.wt {q:Rat} (h:zvg q):Go.Proofs.Ytlpdkbmmbdfoiaa.wt q≤64:=by
 unfold Go.Proofs.Ytlpdkbmmbdfoiaa.wt
 have h1:=h.2.1
 have h2:=h.2.2
 split
 ·omega
 ·split<;>omega
theorem lim_sum {l m:List Rat} (hs:l.Sublist m) (hl:∀q∈m,zvg q) (hn:m.length≤40):fits (zgg l):=
 lsum_fits hs (fun q hq=>(hl q hq).1) (by
  have:=wts_all3 (l:=m) (K:=64) fun q hq=>(hl q hq).wt
  omega)
theorem ztn (va:Value) (l:List Rat) (w:World) (ha:zbb w va l) (hl:∀q∈l,zvg q) (hn:l.length≤40):Calls Try.prog 55 #[va] w (RF0 w (zgg l)):=by
 have h:=sum_frac va (l.map RF.of) w ha.raw (fun x hx=>by obtain⟨y,hy,rfl⟩:=List.mem_map.1 hx;exact RF.of_ok (hl y hy).fits) (fun k hk=>by
  rw[←List.map_take,zvh]
  exact lim_sum (List.take_sublist _ _) hl hn)
 rw[zvh]at h
 exact h
set_option maxRecDepth 100000 in
theorem zym (w:World) (nm:Value):Calls Try.prog 22 #[.agg #[nm, .slice none 0 0, .slice none 0 0, .slice none 0 0]] w (fun e w'=>e= .returned (.bool false)∧Below w.heap.size w w'):=by
 obtain⟨_,c0,c1,c2,c3,_,_,_,_⟩:=C4.new w 26 nm (.slice none 0 0) (.slice none 0 0) (.slice none 0 0)
 have HB:=zH (zca w (.cells #[nm, .slice none 0 0, .slice none 0 0, .slice none 0 0] 26))
 go_enter Try.func22,Try.ntmps22
 go_wp2_with (first
  |(go_at_call 51;(with_reducible refine(fin_any 0 1 4 _).mono ?_);rintro e4 w4 ⟨rfl,rfl⟩))
 go_ret
 exact⟨rfl,HB.out⟩
set_option maxRecDepth 100000 in
theorem zbh (va:Value) (l:LQ) (w:World) (ha:zhm w va l) (hl:zxb l):Calls Try.prog 22 #[va] w (fun e w'=>e= .returned (.bool true)∧Below w.heap.size w w'):=by
 obtain⟨nm,sv,rv,ev,rfl,hs,hr,he⟩:=id ha
 obtain⟨ra,rn,rk,rfl,_⟩:=id hr.sl
 obtain⟨sa,sn,sk,rfl,_⟩:=id hs.sl
 obtain⟨ea,en,ek,rfl,_⟩:=id he.sl
 have hba:=zca w (.cells #[nm, .slice sa sn sk, .slice ra rn rk, .slice ea en ek] 26)
 have HC:=zH (C4.new w 26 nm (.slice sa sn sk) (.slice ra rn rk) (.slice ea en ek))
 have HA:=zH (ha.below hba)
 have HS:=zH (hs.below hba)
 have HR:=zH (hr.below hba)
 have HE:=zH (he.below hba)
 have HBW:=zH hba
 have hsn:sn=l.start.length:=hs.len
 have hen:en=l.start.length:=he.len.trans hl.el
 have hrn:rn=l.start.length:=hr.len.trans hl.rl
 obtain⟨n,hnn⟩:∃n,l.start.length=n:=⟨_,rfl⟩
 have HN:=zH hnn
 rw[hnn]at hen hsn hrn
 have n1:1≤n:=by rw[←hnn];exact hl.n1
 have n4:n≤4:=by rw[←hnn];exact hl.n4
 obtain rfl:en=n:=hen
 obtain rfl:sn=en:=hsn
 obtain rfl:rn=sn:=hrn
 have HL:=zH hl
 have srt:=hr.sl
 have sxt:=he.sl
 have sst:=hs.sl
 have hin:(decide ((1:Int)≤(rn:Nat))&&decide (((rn:Nat):Int)≤4))=true:=by
  rw[decide_eq_true (show(1:Int)≤(rn:Nat)by omega),decide_eq_true (show((rn:Nat):Int)≤4 by omega)];rfl
 have HIN:=zH hin
 clear hs hr he ha hl hba hnn hin
 go_enter Try.func22,Try.ntmps22
 go_upto_region 1 with fail
 obtain⟨b,hb⟩:∃b,w.heap.size=b:=⟨_,rfl⟩
 rw[hb]at HC ⊢
 clear hb
 generalize w.alloc (.cells #[nm, .slice sa rn sk, .slice ra rn rk, .slice ea rn ek] 26)=W1 at *
 obtain⟨_,c0,c1,c2,c3,_,_,_,_⟩:=HC.out
 go_upto_region 4 with(first
  |(go_at_call 51;(with_reducible refine(fin_any _ _ _ _).mono ?_);rw[HIN.out];rintro e4 w4 ⟨rfl,hw4⟩;rw[hw4];clear hw4)
  |(go_at_call 52;(with_reducible refine(fall_ok _ l.start W1 HS.out HL.out.st (by have:=HL.out.n4;omega)).mono ?_);rintro e5 w5 ⟨rfl,hb5⟩
    have HB5:=zH hb5
    clear c0 c1 c2 c3
    obtain⟨_,c0,c1,c2,c3,_,_,_,_⟩:=HC.out.belowS hb5
    clear hb5)
  |(go_at_call 52;(with_reducible refine(fall_ok _ l.exit w5 (HE.out.below HB5.out) HL.out.ex (by have:=HL.out.n4;have:=HL.out.el;omega)).mono ?_);rintro e6 w6 ⟨rfl,hb6⟩
    have HB6:=zH (zaa HB5.out hb6)
    clear c0 c1 c2 c3
    obtain⟨_,c0,c1,c2,c3,_,_,_,_⟩:=HC.out.belowS HB6.out
    clear hb6))
 go_wp2_with fail
 clear c0 c1 c2 c3
 go_loopg [47] (rn) (fun g u47 wr=>∃ (k:Nat),k≤rn∧g=rn-k∧u47= .int .i64 k∧Below W1.heap.size W1 wr)
 case atStart=>exact⟨0,Nat.zero_le _,rfl,rfl,HB6.out⟩
 case round=>
  obtain⟨k,hk,hg,rfl,hbr⟩:=hrel
  obtain⟨wb,hwb⟩:∃wb,wb=wr:=⟨_,rfl⟩
  subst hwb
  have HG:=zH hg
  have HBR:=zH hbr
  clear hg hbr
  by_cases hkl:k<rn
  ·have hir:k<l.rates.length:=by rw[HL.out.rl,HN.out];exact hkl
   obtain⟨rw1,hrv,hrow⟩:=HR.out.at' k hir
   obtain⟨rl1,rl2,rl3⟩:=HL.out.row k hir
   obtain⟨ua,un,uk,rfl,_⟩:=id hrow.sl
   have srow:=hrow.sl
   have hun:un=rn:=by have h:=hrow.len;rw[rl1,HN.out]at h;exact h
   subst hun
   have hkr:k<(l.rates[k]'hir).length:=by rw[rl1,HN.out];exact hkl
   obtain⟨ts,as1,ls1,ks1,as2,ls2,ks2,g1,g2,g3,hfs⟩:=(hrow.below HBR.out).cellsAt (k:=k) hkr
   rw[rl3]at hfs
   have HROW:=zH hrow
   have HRL:=zH rl2
   have HRLN:Hid ((l.rates[k]'hir).length≤1000):=zH (by rw[rl1,HN.out];omega)
   have HFS:=zH hfs
   have hri:=zba HBR.out hrv
   have S0:=zH (And.intro g1 (And.intro g2 g3))
   have i1:(0:Int)≤(k:Int):=by omega
   have i2:(k:Int)<(un:Nat):=by omega
   clear hrv hrow rl1 rl2 rl3 hfs g1 g2 g3
   go_wp2_with (first
    |(go_at_call 52;(with_reducible refine(fall_ok _ _ _ (HROW.out.below HBR.out) HRL.out HRLN.out).mono ?_);rintro e5 w5 ⟨rfl,hb5⟩
      have HB5:=zH hb5
      have g1:=zba hb5 S0.out.1
      have g2:=zba hb5 S0.out.2.1
      have g3:=zba hb5 S0.out.2.2
      clear hb5)
    |(go_at_call 54;(with_reducible refine(ztf _ 0 _ (HFS.out.below HB5.out)).mono ?_);rintro e7 w7 ⟨rfl,hb7⟩
      have HB7:=zH (zaa HBR.out (zaa HB5.out hb7))
      clear hb7))
   go_roundg (un- (k+1))
   case measure=>(have:=HG.out;omega)
   case rel=>exact⟨k+1,by omega,rfl,by go_num,HB7.out⟩
  ·have HSUM:Hid (zgg l.start=1):=zH HL.out.sum
   have HNL:Hid (l.start.length≤40):=zH (by have:=HL.out.n4;omega)
   obtain rfl:k=rn:=by omega
   obtain⟨_,c0,c1,c2,c3,_,_,_,_⟩:=HC.out.belowS HBR.out
   go_upto_region 11 with(first
    |(go_at_call 55;(with_reducible refine(ztn _ l.start _ (HS.out.below HBR.out) HL.out.st HNL.out).mono ?_);rw[HSUM.out];rintro e8 w8 ⟨v8,rfl,hv8,hb8⟩
      obtain⟨t8,x8,y8,rfl,⟨a81,l81,k81,rfl,_⟩,⟨a82,l82,k82,rfl,_⟩⟩:=hv8.isF
      have hba:=zca w8 (.cells #[.bool t8, .slice a81 l81 k81, .slice a82 l82 k82] 32)
      have hbb:=zaa hb8 hba
      have HC8:=zH (C3.new w8 32 (.bool t8) (.slice a81 l81 k81) (.slice a82 l82 k82))
      have HF8:=zH (hv8.below hba)
      have HB8:=zH (zaa HBR.out hbb)
      clear hv8 hb8 hba hbb c0 c1 c2 c3))
   obtain⟨b8,hb8⟩:∃b,w8.heap.size=b:=⟨_,rfl⟩
   rw[hb8]at HC8 ⊢
   clear hb8
   generalize w8.alloc (.cells #[.bool t8, .slice a81 l81 k81, .slice a82 l82 k82] 32)=W8 at *
   go_upto_region 12 with(first
    |(go_at_call 56;(with_reducible refine(make_11 _).mono ?_);rintro e9 w9 ⟨v9,rfl,hv9,hb9⟩
      obtain⟨t9,x9,y9,rfl,⟨a91,l91,k91,rfl,_⟩,⟨a92,l92,k92,rfl,_⟩⟩:=hv9.isF
      have hba:=zca w9 (.cells #[.bool t9, .slice a91 l91 k91, .slice a92 l92 k92] 32)
      have hbb:=zaa hb9 hba
      have HC9:=zH (C3.new w9 32 (.bool t9) (.slice a91 l91 k91) (.slice a92 l92 k92))
      have HF9:=zH (hv9.below hba)
      replace HC8:=zH (HC8.out.belowS hbb)
      replace HF8:=zH (HF8.out.below hbb)
      replace HB8:=zH (zaa HB8.out hbb)
      clear hv9 hb9 hba hbb))
   obtain⟨b9,hb9⟩:∃b,w9.heap.size=b:=⟨_,rfl⟩
   rw[hb9]at HC9 ⊢
   clear hb9
   generalize w9.alloc (.cells #[.bool t9, .slice a91 l91 k91, .slice a92 l92 k92] 32)=W9 at *
   obtain⟨_,d0,d1,d2,_,_,_⟩:=HC8.out
   obtain⟨_,p0,p1,p2,_,_,_⟩:=HC9.out
   obtain⟨_,c0,c1,c2,c3,_,_,_,_⟩:=HC.out.belowS HB8.out
   go_wp2_with (first
    |(go_at_call 57;(with_reducible refine(cmp_can _ _ 1 1 _ HF8.out HF9.out (by decide) (by decide)).mono ?_);rw[(zji 1 1).2 rfl];rintro e10 w10 ⟨rfl,hb10⟩
      have HB10:=zH (zaa HB8.out hb10)
      clear c0 c1 c2 c3 d0 d1 d2 p0 p1 p2
      obtain⟨_,c0,c1,c2,c3,_,_,_,_⟩:=HC.out.belowS HB10.out
      clear hb10)
    |(go_at_call 58;(with_reducible refine(fends_ok _ l _ (HA.out.below HB10.out) HL.out).mono ?_);rintro e11 w11 ⟨rfl,hb11⟩
      have HB11:=zH (zaa HB10.out hb11)
      clear hb11))
   go_ret
   exact⟨rfl,HBW.out.trans (HB11.out.mono HBW.out.size)⟩
set_option maxRecDepth 100000 in
set_option maxHeartbeats 3200000 in
theorem blank1_any (b n:Nat) (w:World) (hc:w.cell? ⟨b,0,none⟩=some (.int .i64 (n:Nat))) (hn1:1≤n) (hn:n≤4):
 Calls Try.prog 124 #[.pointer (some ⟨b,0,none⟩)] w (fun e w'=>∃v,e= .returned v∧zqb w' 32 w.heap.size v n∧(∀t,t<n→zlg w' v t 0)∧Below w.heap.size w w'):=by
 obtain⟨i0,hi,hz0,hz1,hz2⟩:=info_parts Try.infoF
 have hM:=zon (P:=Try.prog) 23 32 i0 Try.underlying23 hi hz0 hz1 (by rw[hz2];decide)
 clear hi hz0 hz1 hz2
 go_enter Try.func124,Try.ntmps124
 go_wp2_with (refine hM w rfl _ _ rfl w.heap.size _ n rfl rfl rfl (by omega) (Nat.le_refl _) ?_
              intro vO w5 hO5 hb5 hvO
              have HO5:=zH hO5
              have HB5:=zH hb5
              have slO:=hO5.sl
              have lnO:=hO5.len
              clear hO5 hb5)
 clear hM
 go_loopg [8] (n) (fun g u8 wr=>∃ (i:Nat),i≤n∧g=n-i∧u8= .int .i64 i∧zqb wr 32 w.heap.size vO n∧(∀t,t<i→zlg wr vO t 0)∧Below w.heap.size w wr)
 case atStart=>exact⟨0,Nat.zero_le _,rfl,rfl,HO5.out,fun t h=>by omega,HB5.out⟩
 case round=>
  obtain⟨i,hin,hg,rfl,ho,he,hbr⟩:=hrel
  obtain⟨w6,hw6⟩:∃w6,w6=wr:=⟨_,rfl⟩
  subst hw6
  have HG:=zH hg
  have HE:=zH he
  have HO:=zH ho
  have HBR:=zH hbr
  clear he hg HO5 HB5
  by_cases hil:i<n
  ·have i1:(0:Int)≤(i:Int):=by omega
   have i2:(i:Int)<(n:Nat):=by omega
   clear ho hbr
   go_wp2_with (first
    |(go_at_call 23;(with_reducible refine(zqe _).mono ?_);rintro e31 w31 ⟨v31,rfl,hv31,hb31⟩
      obtain⟨t6,x31,y31,rfl,⟨a61,l61,k61,rfl,_⟩,⟨a62,l62,k62,rfl,_⟩⟩:=hv31.isF
      have ho3:=HO.out.below hb31
      obtain⟨c0,d0,_⟩:=ho3.cell (i*3) (by omega)
      obtain⟨c1,d1,_⟩:=ho3.cell (i*3+1) (by omega)
      obtain⟨c2,d2,_⟩:=ho3.cell (i*3+2) (by omega)
      have f0:=ho3.frozen (i*3)
      have f1:=ho3.frozen (i*3+1)
      have f2:=ho3.frozen (i*3+2)
      have n01:=ho3.inj (show i*3≠i*3+1 by omega)
      have n02:=ho3.inj (show i*3≠i*3+2 by omega)
      have n12:=ho3.inj (show i*3+1≠i*3+2 by omega)
      have HS3:=zH (ho3.set3 i (.bool t6) (.slice a61 l61 k61) (.slice a62 l62 k62) (fun z=>by simp) (fun z=>by simp) (fun z=>by simp))
      have HE3:=zH (fun t ht=>(HE.out t ht).below hb31)
      have HO3:=zH ho3
      have HV6:=zH hv31
      have HB3:=zH (zfa HBR.out hb31 HBR.out.size)
      clear ho3 hv31 hb31))
   go_roundg (n- (i+1))
   case measure=>(have:=HG.out;omega)
   case rel=>
    refine⟨i+1,by omega,rfl,by go_num,HS3.out.1,fun t ht=> ?_,HB3.out.trans HS3.out.2⟩
    rcases Nat.lt_or_ge t i with h6 | h6
    ·exact zlg.set3_other HO3.out hil (by omega) (HE3.out t h6) _ _ _ (fun z=>by simp) (fun z=>by simp)
    ·obtain rfl:t=i:=by omega
     exact zlg.set3 HO3.out hil HV6.out
  ·obtain rfl:i=n:=by omega
   go_wp2_with fail
   go_ret
   exact⟨vO,rfl,HO.out,HE.out,HBR.out⟩
def zuh (s:Bool) (n d:Nat):Prop:=okN n d∧0<fq s n d∧zua (fq s n d).num.natAbs≤32∧zua (fq s n d).den≤32
def QuoI (c:RC) (bl:List Int) (tF tB:TypeId) (B3 B4 B5:Nat) (v3 v4:Value) (k:Nat) (es:List Value) (fs:List Bool) (wr:World):Prop:=
 zce wr tF B3 v3 es∧es.length=cnt bl∧zce wr tB B4 v4 (fs.map Value.bool)∧fs.length=cnt bl∧
 (∀b,b<cnt (bl.take k)→∃a n kk,es[b]? =some (.slice (some a) n kk)∧zbb wr (.slice (some a) n kk) ((bsums bl (rowsQ c (firstB bl b)) (cnt bl)).set b 0)∧B5≤a.block∧fs[b]? =some (c.lost.getD (firstB bl b) false))∧
 (∀b,cnt (bl.take k)≤b→b<cnt bl→es[b]? =some (.slice none 0 0))
theorem QuoI.start {c:RC} {bl:List Int} {tF tB:TypeId} {B3 B4:Nat} (B5:Nat) {v3 v4:Value} {w:World} (h3:zce w tF B3 v3 (List.replicate (cnt bl) (.slice none 0 0))) (h4:zce w tB B4 v4 (List.replicate (cnt bl) (.bool false))):
 QuoI c bl tF tB B3 B4 B5 v3 v4 0 (List.replicate (cnt bl) (.slice none 0 0)) (List.replicate (cnt bl) false) w:=by
 refine⟨h3,by simp,by rw[List.map_replicate];exact h4,by simp,fun b hb=> ?_,fun b _ hb=> ?_⟩
 ·simp[cnt_nil]at hb
 ·rw[List.getElem?_replicate,if_pos hb]
def Fr (w:World) (bt:Nat) (wx:World):Prop:=C3 wx w.heap.size (.slice none 0 0) (.slice none 0 0) (.slice none 0 0)∧(∀B,B≤bt→B≤w.heap.size→Below B w wx)
theorem Fr.below {w wx wy:World} {bt:Nat} (h:Fr w bt wx) (hb:Below wx.heap.size wx wy):Fr w bt wy:=
 ⟨h.1.belowS hb,fun B h1 h2=>(h.2 B h1 h2).trans (hb.mono (by have:=h.1.lt;omega))⟩
theorem Fr.set {w wx:World} {bt:Nat} (h:Fr w bt wx) (p:Addr) (hp:w.heap.size<p.block) (u:Value):Fr w bt (wx.setCell p u):=
 ⟨h.1.other p u (by omega),fun B' h1 h2=>(h.2 B' h1 h2).setCell (by omega) u⟩
theorem zlc.over {w:World} {e:TypeId} {B size n:Nat} {v:Value} {xs:List Value} (h:zlc w e B size v n xs) {p:Addr} (hp:v.ownBlock=none∨v.ownBlock≠some p.block) (u:Value):zlc (w.setCell p u) e B size v n xs:=by
 have key:∀g,v.ownBlock=some g→(w.setCell p u).heap[g]? =w.heap[g]? :=fun g hg=>Below.heap_setCell _ _ _ _ (by
  intro e;rcases hp with h1 | h1
  ·rw[hg]at h1;cases h1
  ·exact h1 (by rw[hg,e]))
 refine⟨⟨h.own.1,?_⟩,fun g hg cur e' fz hc=> ?_⟩
 ·rcases h.own.2 with h' | ⟨g,cap,cur,rfl,hb,hg,rest⟩
  ·exact .inl h'
  ·exact .inr ⟨g,cap,cur,rfl,hb,by rw[key g rfl];exact hg,rest⟩
 ·rw[key g hg]at hc
  exact h.nl g hg cur e' fz hc
theorem zya.over {w:World} {e:TypeId} {B:Nat} {v:Value} {q:List Rat} (h:zya w e B v q) {p:Addr} {x:Value} (hp:v.ownBlock=none∨v.ownBlock≠some p.block) (hc:w.cell? p=some x) (hx:∀z,x≠ .int .u32 z) (u:Value):zya (w.setCell p u) e B v q:=by
 obtain⟨xs,h1,h2⟩:=h
 refine⟨xs,h1.over hp u,fun j hj=> ?_⟩
 obtain⟨a,b,e1,e2,e3,e4,e5⟩:=h2 j hj
 exact⟨a,b,e1,e2,e3,⟨e4.1.over hc hx u,e4.2⟩,⟨e5.1.over hc hx u,e5.2⟩⟩
theorem zhb.high {B:Nat} {w0 w:World} (h:zhb B w0 w) {p:Addr} {x:Value} (hp:w0.heap.size≤p.block) (hc:w.cell? p=some x) (hx:∀z,x≠ .int .u32 z) (u:Value):zhb B w0 (w.setCell p u):=by
 refine⟨by simpa [World.setCell]using h.size,fun g h1 h2=> ?_,fun q z hq=> ?_⟩
 ·rw[Below.heap_setCell _ _ _ _ (by omega)];exact h.row g h1 h2
 ·rw[World.cell?_setCell_other]
  ·exact h.limb q z hq
  ·intro e
   have:=h.limb q z hq
   rw[←e,hc]at this
   injection this with this
   exact hx _ this
theorem zhb.grow {B:Nat} {w0 w w':World} {v:Value} (h:zhb B w0 w) (hg:w.grownBy w' v.ownBlock) (hn:zlb w v) (hv:∀k,v.ownBlock=some k→w0.heap.size≤k):zhb B w0 w':=by
 have hs:w.heap.size≤w'.heap.size:=hg.size
 refine⟨Nat.le_trans h.size hs,fun g h1 h2=> ?_,fun q z hq=> ?_⟩
 ·rw[hg.block g (Nat.lt_of_lt_of_le h2 h.size) (fun e=>by have:=hv g e.symm;omega)]
  exact h.row g h1 h2
 ·have hc:=h.limb q z hq
  refine hg.cell hc (fun e=> ?_)
  have h2:=hn q.block e.symm
  unfold World.cell? at hc
  split at hc
  ·rename_i cur e' fz hh
   split at hc
   ·cases hc
   ·exact h2 cur e' fz hh _ (by have:=Array.mem_of_getElem? hc;simpa using this) _ rfl
  ·cases hc
structure InS (w0:World) (bt:Nat) (l:List Nat) (B b5:Nat) (vr vs vl:Value) (wA:World) (rv:Value) (row:List Rat) (w:World):Prop where
 fr:zya w 32 wA.heap.size rv row
 mv:zhb B wA w
 tp:∃a,zvf w bt l B a
 bx:C3 w b5 vr vs vl
 fm:Fr w0 bt w
 nums:bt<B∧b5<B∧w0.heap.size<B∧B≤wA.heap.size∧zgc vr∧zgc vs∧zgc vl
section
variable {w0 wA w w':World} {bt B b5:Nat} {l:List Nat} {vr vs vl rv:Value} {row:List Rat}
theorem InS.below (h:InS w0 bt l B b5 vr vs vl wA rv row w) (hb:Below w.heap.size w w'):InS w0 bt l B b5 vr vs vl wA rv row w':=by
 obtain⟨fr,mv,⟨a,tp⟩,bx,fm,nums⟩:=h
 exact⟨fr.moves (zhb.below hb) (Nat.le_refl _),mv.trans (zhb.below hb),⟨a,tp.below hb⟩,bx.belowS hb,fm.below hb,nums⟩
theorem InS.set (h:InS w0 bt l B b5 vr vs vl wA rv row w) {p:Addr} {x:Value} (hp:wA.heap.size≤p.block) (hr:rv.ownBlock=none∨rv.ownBlock≠some p.block) (hc:w.cell? p=some x) (hx:∀z,x≠ .int .u32 z) (hx8:∀z,x≠ .int .u8 z) (u:Value):
 InS w0 bt l B b5 vr vs vl wA rv row (w.setCell p u):=by
 obtain⟨fr,mv,⟨a,tp⟩,bx,fm,n1,n2,n3,n4,n5,n6,n7⟩:=h
 exact⟨fr.over hr hc hx u,mv.high hp hc hx u,⟨a,tp.set (by omega) hc hx8 u⟩,bx.other p u (by omega),fm.set p (by omega) u,n1,n2,n3,n4,n5,n6,n7⟩
theorem InS.set3 (h:InS w0 bt l B b5 vr vs vl wA rv row w) {b:Nat} {t0:Bool} {x0 y0:Value} (hC:C3 w b (.bool t0) x0 y0) (sx:zgc x0) (sy:zgc y0) (hb:wA.heap.size≤b) (hr:rv.ownBlock=none∨rv.ownBlock≠some b) (u0 u1 u2:Value):
 InS w0 bt l B b5 vr vs vl wA rv row (((w.setCell ⟨b,0,none⟩ u0).setCell ⟨b,1,none⟩ u1).setCell ⟨b,2,none⟩ u2):=by
 obtain⟨_,c0,c1,c2,_,_,_⟩:=hC
 have h1:=h.set (p:=⟨b,0,none⟩) hb hr c0 (fun z=>by simp) (fun z=>by simp) u0
 have h2:=h1.set (p:=⟨b,1,none⟩) hb hr (by rw[World.cell?_setCell_other _ _ _ _ (by simp)];exact c1) sx.noLimb sx.noByte u1
 exact h2.set (p:=⟨b,2,none⟩) hb hr (by rw[World.cell?_setCell_other _ _ _ _ (by simp),World.cell?_setCell_other _ _ _ _ (by simp)];exact c2) sy.noLimb sy.noByte u2
theorem InS.start {rs:List Value} {rates:List (List Rat)} {start:List Rat} {lost:List Bool} (c:ChW wA bt l B b5 vr vs vl rs rates start lost) (hF:Fr w0 bt wA) (hw:w0.heap.size<B):InS w0 bt l B b5 vr vs vl wA (.slice none 0 0) [] wA:=
 ⟨zya.nil _ _ _,zhb.refl _ _,c.tape,c.box,hF,c.bt5.1,c.bt5.2.1,hw,c.sz,c.ra.sl,c.st.sl,c.lo.sl⟩
theorem ChW.set3 {rs:List Value} {rates:List (List Rat)} {start:List Rat} {lost:List Bool} (h:ChW w bt l B b5 vr vs vl rs rates start lost) {b:Nat} (hC:C3 w b (.slice none 0 0) (.slice none 0 0) (.slice none 0 0)) (hb:b<B) (hbt:b≠bt) (hb5:b≠b5) (u0 u1 u2:Value):
 ChW (((w.setCell ⟨b,0,none⟩ u0).setCell ⟨b,1,none⟩ u1).setCell ⟨b,2,none⟩ u2) bt l B b5 vr vs vl rs rates start lost:=by
 obtain⟨_,c0,c1,c2,_,_,_⟩:=hC
 have c1':(w.setCell ⟨b,0,none⟩ u0).cell? ⟨b,1,none⟩=some (.slice none 0 0):=by rw[World.cell?_setCell_other _ _ _ _ (by simp)];exact c1
 have c2':((w.setCell ⟨b,0,none⟩ u0).setCell ⟨b,1,none⟩ u1).cell? ⟨b,2,none⟩=some (.slice none 0 0):=by rw[World.cell?_setCell_other _ _ _ _ (by simp),World.cell?_setCell_other _ _ _ _ (by simp)];exact c2
 have one:∀ (w:World) (k:Nat) (u:Value),ChW w bt l B b5 vr vs vl rs rates start lost→w.cell? ⟨b,k,none⟩=some (.slice none 0 0)→ChW (w.setCell ⟨b,k,none⟩ u) bt l B b5 vr vs vl rs rates start lost:=fun w k u h hc=>by
  obtain⟨a,ht⟩:=h.tape
  exact h.of (zhb.set hb hc (fun z=>by simp) u) ⟨a,ht.set hbt hc (fun z=>by simp) u⟩ (h.box.other _ u hb5)
 exact one _ 2 u2 (one _ 1 u1 (one _ 0 u0 h c0) c1') c2'
end
end Go.Proofs.Ytlpdkbmmbdfoiaa
