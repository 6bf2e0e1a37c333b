/-
  Sizes of the alive states' system of a small chain. No program is named here.
-/
import Derived.Test.YtlpdkbmmbdfoiaaGreatLMath16
import Derived.Test.YtlpdkbmmbdfoiaaGreatLMath6b
import Derived.Test.YtlpdkbmmbdfoiaaGreatLMath24
import Derived.Test.YtlpdkbmmbdfoiaaGreatLMu1
import Derived.Test.YtlpdkbmmbdfoiaaGreatLSz1
import Derived.Test.YtlpdkbmmbdfoiaaGreatLSz2
import Derived.Test.YtlpdkbmmbdfoiaaGreatLLi9
import Derived.Test.YtlpdkbmmbdfoiaaGreatLSa2
import Derived.Test.YtlpdkbmmbdfoiaaGreatLOrd
import Derived.Test.YtlpdkbmmbdfoiaaGreatLHs1
set_option linter.unusedVariables false
namespace Go.Proofs.YtlpdkbmmbdfoiaaGreat
structure zgz (n:Nat) (of:List Int) (share:List Rat):Prop where
 len:share.length=of.length
 le:of.length≤10
 ok:okB of
 num:cnt of=n
 sm:∀q∈share,zeq q
 one:∀i:Nat,i<n→bsum of share (i:Int)=1
def zxw (c:CQ) (of:List Int) (share:List Rat):CQ:=
 ⟨(List.range of.length).map fun a=>(List.range of.length).map fun b=>if of.getD a 0=of.getD b 0 then 0 else(c.rates.getD (of.getD a 0).toNat []).getD (of.getD b 0).toNat 0*share.getD b 0,
  (List.range of.length).map fun a=>c.start.getD (of.getD a 0).toNat 0*share.getD a 0,
  (List.range of.length).map fun a=>c.lost.getD (of.getD a 0).toNat false⟩
def zhz (q:Rat):Prop:=∃a b:Nat,a≤16∧1≤b∧b≤16∧q=fq false a b
theorem zeq.mul {p q:Rat} (hp:zeq p) (hq:zeq q):zhz (p*q):=by
 obtain⟨a,b,h1,h2,h3,rfl⟩:=hp
 obtain⟨c,d,h4,h5,h6,rfl⟩:=hq
 exact⟨a*c,b*d,Nat.mul_le_mul h1 h4,Nat.mul_le_mul h2 h5,Nat.mul_le_mul h3 h6,fq_mul _ _ _ _ _ _⟩
theorem zhz.zero :zhz 0:=⟨0,1,by decide,by decide,by decide,by decide⟩
theorem zhz.num {q:Rat} (h:zhz q):q.num.natAbs≤16:=by
 obtain⟨a,b,h1,h2,h3,rfl⟩:=h
 rw[zif _ _ _ (by omega)]
 exact Nat.le_trans (Nat.div_le_self _ _) h1
theorem zhz.den {q:Rat} (h:zhz q):q.den≤16:=by
 obtain⟨a,b,h1,h2,h3,rfl⟩:=h
 rw[zsm _ _ _ (by omega)]
 exact Nat.le_trans (Nat.div_le_self _ _) h3
theorem zhz.nonneg {q:Rat} (h:zhz q):¬q<0:=by
 obtain⟨a,b,h1,h2,h3,rfl⟩:=h
 have:=zqu false a b (by omega)
 simp at this
 first | exact this | exact Rat.not_lt.2 this
theorem zhz.wt {q:Rat} (h:zhz q):wt q≤10:=by
 have h1:zua q.num.natAbs≤5:=zwb.2 (by have:=h.num;omega)
 have h2:zua q.den≤5:=zwb.2 (by have:=h.den;omega)
 unfold Go.Proofs.YtlpdkbmmbdfoiaaGreat.wt
 split
 ·omega
 ·split<;>omega
theorem zhz.fits {q:Rat} (h:zhz q):fits q:=⟨zwb.2 (Nat.lt_of_le_of_lt h.num (by decide+kernel)),zwb.2 (Nat.lt_of_le_of_lt h.den (by decide+kernel))⟩
theorem wts_mid {l:List Rat} (h:∀q∈l,zhz q):wts l≤10*l.length:=by
 induction l with
 | nil=>simp[wts]
 | cons x l ih=>
   have h1:=(h x (by simp)).wt
   have h2:=ih (fun q hq=>h q (by simp[hq]))
   rw[zmg,List.length_cons]
   omega
theorem rowP_mid {l:List Rat} {n:Nat} (hn:l.length=n) (hn5:n≤128) (h:∀q∈l,zhz q):zlr (l.map RF.of) n:=by
 refine⟨fun x hx=> ?_,by rw[List.length_map];exact hn,by rw[zbu];have:=wts_mid h;omega⟩
 obtain⟨q,hq,rfl⟩:=List.mem_map.1 hx
 have hs:=h q hq
 refine⟨RF.of_ok hs.fits,?_⟩
 rw[RF.of_q]
 exact⟨hs.nonneg,zzb.2 (by have:=hs.num;simp[pw];omega),zzb.2 (by have:=hs.den;simp[pw];omega)⟩
theorem bsum_mul {of:List Int} {share row:List Rat} (hl:share.length=of.length) (hr:row.length=of.length) (i:Nat) (x:Rat) (h:∀ (k:Nat) (h1:k<of.length) (h2:k<row.length) (h3:k<share.length),of[k]=(i:Int)→row[k]=x*share[k]):
 ∀k,k≤of.length→bsum (of.take k) (row.take k) (i:Int)=x*bsum (of.take k) (share.take k) (i:Int):=by
 intro k
 induction k with
 | zero=>intro _;simp[bsum,zxz,zgg]
 | succ k ih=>
   intro hk
   have h1:k<of.length:=by omega
   have h2:k<row.length:=by omega
   have h3:k<share.length:=by omega
   rw[zjx _ _ _ _ h1 h2,zjx _ _ _ _ h1 h3,ih (by omega)]
   by_cases hb:of[k]=(i:Int)
   ·rw[if_pos hb,if_pos hb,h k h1 h2 h3 hb,Rat.mul_add]
   ·rw[if_neg hb,if_neg hb]
theorem zby {of:List Int} {row:List Rat} (hr:row.length=of.length) (b:Int):bsum (of.take of.length) (row.take of.length) b=bsum of row b:=by
 rw[List.take_length,List.take_of_length_le (by omega)]
theorem zbz (l:List Rat) (s x:Rat):l.foldl (· + ·) (s+x)=l.foldl (· + ·) s+x:=by
 induction l generalizing s with
 | nil=>rfl
 | cons y l ih=>
   simp only[List.foldl_cons]
   rw[show s+x+y=s+y+x by grind,ih]
theorem foldl_set (l:List Rat) (s:Rat) (i:Nat) (h:i<l.length) (x:Rat):(l.set i (l[i]+x)).foldl (· + ·) s=l.foldl (· + ·) s+x:=by
 induction l generalizing s i with
 | nil=>simp at h
 | cons y l ih=>
   cases i with
   | zero=>
     simp only[List.set_cons_zero,List.foldl_cons,List.getElem_cons_zero]
     rw[show s+(y+x)=s+y+x by grind,zbz]
   | succ i=>
     simp only[List.set_cons_succ,List.foldl_cons,List.getElem_cons_succ]
     exact ih _ _ (by simpa using h)
theorem lsum_set {l:List Rat} {i:Nat} (h:i<l.length) (x:Rat):zgg (l.set i (l[i]+x))=zgg l+x:=foldl_set l 0 i h x
theorem bsums_step {of:List Int} {row:List Rat} {n k b:Nat} (h1:k<of.length) (h2:k<row.length) (hb:of[k]=(b:Int)) (hbn:b<n):
 ztw (of.take (k+1)) (row.take (k+1)) n=(ztw (of.take k) (row.take k) n).set b ((ztw (of.take k) (row.take k) n)[b]'(by rw[zsw];exact hbn)+row[k]):=by
 refine List.ext_getElem (by simp[zsw]) (fun j h3 h4=> ?_)
 rw[zsw]at h3
 rw[zuw _ _ _ _ h3,zjx _ _ _ _ h1 h2,List.getElem_set]
 have e:=zuw (of.take k) (row.take k) n b hbn
 by_cases hj:b=j
 ·subst hj
  rw[if_pos hb,if_pos rfl,e]
 ·rw[if_neg (by rw[hb];omega),if_neg hj,zuw _ _ _ _ h3]
theorem zfy {of:List Int} {row:List Rat} {n:Nat} (hr:row.length=of.length) (hb:∀ (k:Nat) (h:k<of.length),0≤of[k]∧of[k]<(n:Int)):∀k,k≤of.length→zgg (ztw (of.take k) (row.take k) n)=zgg (row.take k):=by
 intro k
 induction k with
 | zero=>
   intro _
   have :ztw (of.take 0) (row.take 0) n=List.replicate n 0:=List.ext_getElem (by simp[zsw]) (fun j h1 h2=>by
    rw[zsw]at h1
    rw[zuw _ _ _ _ h1]
    simp[bsum,zxz,zgg])
   rw[this]
   have hz:∀n:Nat,zgg (List.replicate n 0)=0:=fun n=>by
    induction n with
    | zero=>rfl
    | succ n ih=>rw[List.replicate_succ',zgl,ih,Rat.zero_add]
   rw[hz];rfl
 | succ k ih=>
   intro hk
   have h1:k<of.length:=by omega
   have h2:k<row.length:=by omega
   obtain⟨h3,h4⟩:=hb k h1
   obtain⟨b,hbb⟩:∃b:Nat,of[k]=(b:Int):=⟨of[k].toNat,by omega⟩
   rw[bsums_step h1 h2 hbb (by omega),lsum_set,ih (by omega),lsum_take _ _ h2]
section
variable {c:CQ} {of:List Int} {share:List Rat}
theorem zgz.blk {n:Nat} (h:zgz n of share) {a:Nat} (ha:a<of.length):∃i:Nat,i<n∧of[a]=(i:Int)∧of.getD a 0=(i:Int):=by
 obtain⟨h1,h2⟩:=h.ok.lt (List.getElem?_eq_getElem ha)
 refine⟨of[a].toNat,by rw[h.num]at h2;omega,by omega,?_⟩
 simp only[List.getD,List.getElem?_eq_getElem ha,Option.getD_some]
 omega
theorem zgz.sh {n:Nat} (h:zgz n of share) {a:Nat} (ha:a<of.length):share.getD a 0=share[a]'(by rw[h.len];exact ha):=by
 simp[List.getD,List.getElem?_eq_getElem (show a<share.length by rw[h.len];exact ha)]
def zzw (c:CQ) (of:List Int) (share:List Rat) (a:Nat):List Rat:=
 (List.range of.length).map fun b=>if of.getD a 0=of.getD b 0 then 0 else(c.rates.getD (of.getD a 0).toNat []).getD (of.getD b 0).toNat 0*share.getD b 0
theorem zsx {a b:Nat} (hb:b<of.length):(zzw c of share a)[b]'(by simp[zzw];exact hb)=if of.getD a 0=of.getD b 0 then 0 else(c.rates.getD (of.getD a 0).toNat []).getD (of.getD b 0).toNat 0*share.getD b 0:=by simp[zzw]
theorem zmz (ht:zrr c) (h:zgz c.start.length of share) {a i:Nat} (ha:a<of.length) (hi:of.getD a 0=(i:Int)) (hin:i<c.start.length) (j:Nat) (hj:j<c.start.length):
 bsum of (zzw c of share a) (j:Int)=if j=i then 0 else(c.rates.getD i []).getD j 0:=by
 have hrl:(zzw c of share a).length=of.length:=by simp[zzw]
 have key:=bsum_mul (of:=of) (share:=share) (row:=zzw c of share a) h.len hrl j (if j=i then 0 else(c.rates.getD i []).getD j 0) (fun k h1 h2 h3 hk=>by
  obtain⟨i',_,e1,e2⟩:=h.blk h1
  have hij:i'=j:=by omega
  subst hij
  rw[zsx h1,hi,e2,h.sh h1]
  by_cases hji:i'=i
  ·subst hji
   rw[if_pos rfl,if_pos rfl,Rat.zero_mul]
  ·rw[if_neg (by omega),if_neg hji]
   simp) of.length (Nat.le_refl _)
 rw[zby hrl,zby h.len,h.one j hj]at key
 rw[key]
 exact Rat.mul_one _
theorem copStart_sum (ht:zrr c) (h:zgz c.start.length of share) (j:Nat) (hj:j<c.start.length):bsum of (zxw c of share).start (j:Int)=c.start[j]:=by
 have hrl:(zxw c of share).start.length=of.length:=by simp[zxw]
 have key:=bsum_mul (of:=of) (share:=share) (row:=(zxw c of share).start) h.len hrl j (c.start[j]) (fun k h1 h2 h3 hk=>by
  obtain⟨i',hi',e1,e2⟩:=h.blk h1
  have hij:i'=j:=by omega
  subst hij
  simp only[zxw,List.getElem_map,List.getElem_range]
  rw[e2,h.sh h1]
  simp[List.getD,List.getElem?_eq_getElem hi']) of.length (Nat.le_refl _)
 rw[zby hrl,zby h.len,h.one j hj]at key
 rw[key]
 exact Rat.mul_one _
end
section
variable {c:CQ} {of:List Int} {share:List Rat}
theorem zrr.rate (ht:zrr c) {i j:Nat} (hi:i<c.start.length) (hj:j<c.start.length):zeq ((c.rates.getD i []).getD j 0):=by
 have h1:i<c.rates.length:=by rw[ht.rl];exact hi
 obtain⟨r1,r2,_⟩:=ht.rows i _ (List.getElem?_eq_getElem h1)
 have h2:j<c.rates[i].length:=by rw[r1];exact hj
 simp only[List.getD,List.getElem?_eq_getElem h1,Option.getD_some,List.getElem?_eq_getElem h2]
 exact r2 _ (List.getElem_mem h2)
theorem zgz.pos (ht:zrr c) (h:zgz c.start.length of share):2≤of.length:=by
 have h1:=cnt_le of of.length
 rw[List.take_length,h.num]at h1
 have:=ht.n2
 omega
theorem znz (ht:zrr c) (h:zgz c.start.length of share) {a:Nat} (ha:a<of.length):∀q∈zzw c of share a,zhz q:=by
 intro q hq
 obtain⟨b,hb,rfl⟩:=List.mem_map.1 hq
 have hb2:b<of.length:=by simpa using hb
 obtain⟨i,hi,_,e1⟩:=h.blk ha
 obtain⟨j,hj,_,e2⟩:=h.blk hb2
 rw[e1,e2,h.sh hb2]
 split
 ·exact zhz.zero
 ·exact(ht.rate (by simpa using hi) (by simpa using hj)).mul (h.sm _ (List.getElem_mem _))
theorem copStart_mid (ht:zrr c) (h:zgz c.start.length of share):∀q∈(zxw c of share).start,zhz q:=by
 intro q hq
 obtain⟨a,ha,rfl⟩:=List.mem_map.1 hq
 have ha2:a<of.length:=by simpa using ha
 obtain⟨i,hi,_,e1⟩:=h.blk ha2
 rw[e1,h.sh ha2]
 have :c.start.getD ((i:Nat):Int).toNat 0=c.start[i]:=by simp[List.getD,List.getElem?_eq_getElem hi]
 rw[this]
 exact(ht.st _ (List.getElem_mem hi)).mul (h.sm _ (List.getElem_mem _))
theorem ziz (ht:zrr c) (h:zgz c.start.length of share):ztw of (zxw c of share).start c.start.length=c.start:=
 List.ext_getElem (by rw[zsw]) (fun j h1 h2=>by rw[zuw _ _ _ _ h2];exact copStart_sum ht h j h2)
theorem zcz (ht:zrr c) (h:zgz c.start.length of share):zzp (zxw c of share).raw:=by
 have hp:=h.pos ht
 have hle:=h.le
 refine⟨by simp[CQ.raw,zxw];omega,by simp[CQ.raw,zxw];omega,by simp[CQ.raw,zxw],by simp[CQ.raw,zxw],?_,fun a r hr=> ?_,?_⟩
 ·have:=rowP_mid (n:=of.length) (l:=(zxw c of share).start) (by simp[zxw]) (by omega) (copStart_mid ht h)
  simpa [CQ.raw,zxw]using this
 ·simp only[CQ.raw,List.getElem?_map,Option.map_eq_some_iff]at hr
  obtain⟨r',hr',rfl⟩:=hr
  have ha:a<of.length:=by have:=(List.getElem?_eq_some_iff.1 hr').1;simpa [zxw]using this
  have hrr:zzw c of share a=r':=by simpa [zxw,zzw,ha]using hr'
  subst hrr
  obtain⟨i,hi,_,e1⟩:=h.blk ha
  refine⟨?_,fun x hx=> ?_,fun hl=> ?_⟩
  ·have:=rowP_mid (n:=of.length) (l:=zzw c of share a) (by simp[zzw]) (by omega) (znz ht h ha)
   simpa [CQ.raw,zxw]using this
  ·rw[List.getElem?_map,Option.map_eq_some_iff]at hx
   obtain⟨q,hq,rfl⟩:=hx
   have h1:=(List.getElem?_eq_some_iff.1 hq).2
   rw[zsx ha,if_pos rfl]at h1
   rw[RF.of_q,←h1]
   rfl
  ·rw[zbu]
   have hlost:c.lost[i]? =some true:=by
    simp only[CQ.raw,zxw,List.getElem?_map,List.getElem?_range ha,Option.map_some,e1]at hl
    have hil:i<c.lost.length:=by rw[ht.ll];exact hi
    simpa [List.getD,List.getElem?_eq_getElem hil]using hl
   have h1:i<c.rates.length:=by rw[ht.rl];exact hi
   obtain⟨r1,_,_,r4⟩:=ht.rows i _ (List.getElem?_eq_getElem h1)
   have hz:=r4 hlost
   have hall:∀q∈zzw c of share a,q=0:=fun q hq=>by
    obtain⟨b,hb,rfl⟩:=List.mem_map.1 hq
    have hb2:b<of.length:=by simpa using hb
    obtain⟨j,hj,_,e2⟩:=h.blk hb2
    rw[e1,e2]
    split
    ·rfl
    ·have h2:j<c.rates[i].length:=by rw[r1];exact hj
     have h3:(c.rates.getD ((i:Nat):Int).toNat []).getD ((j:Nat):Int).toNat 0=0:=by
      simp only[Int.toNat_natCast,List.getD,List.getElem?_eq_getElem h1,Option.getD_some,List.getElem?_eq_getElem h2]
      exact hz _ (List.getElem_mem h2)
     rw[h3,Rat.zero_mul]
   have :∀l:List Rat,(∀q∈l,q=0)→wts l=0:=fun l=>by
    induction l with
    | nil=>intro _;rfl
    | cons x l ih=>
      intro h
      rw[zmg,ih (fun q hq=>h q (by simp[hq])),h x (by simp)]
      decide
   exact this _ hall
 ·have e:qs (zxw c of share).raw.start=(zxw c of share).start:=zbu _
  rw[e]
  have hrl:(zxw c of share).start.length=of.length:=by simp[zxw]
  have h1:=zfy (of:=of) (row:=(zxw c of share).start) (n:=c.start.length) hrl (fun k hk=>by
   obtain⟨i,hi,e1,_⟩:=h.blk hk
   omega) of.length (Nat.le_refl _)
  rw[List.take_length,List.take_of_length_le (by omega),ziz ht h]at h1
  rw[←h1]
  exact ht.sum
theorem zzx {a:Nat} (ha:a<of.length):zaq (zxw c of share).raw a=zzw c of share a:=by
 rw[zkr]
 simp[zxw,zzw,List.getD,ha]
theorem cop_lost (h:zgz c.start.length of share) {a i:Nat} (ha:a<of.length) (e1:of.getD a 0=(i:Int)):(zxw c of share).raw.lost.getD a false=c.lost.getD i false:=by
 simp only[CQ.raw,zxw,List.getD,List.getElem?_map,List.getElem?_range ha,Option.map_some,Option.getD_some]
 have :(of[a]?.getD 0)=(i:Int):=e1
 rw[this]
 rfl
theorem cop_check (ht:zrr c) (h:zgz c.start.length of share):zex (zxw c of share).raw of:=by
 have hp:=h.pos ht
 refine⟨h.ok,by omega,by simp[CQ.raw,zxw],zcz ht h,fun a a' b ha ha'=> ?_⟩
 have h1:=(List.getElem?_eq_some_iff.1 ha).1
 have h2:=(List.getElem?_eq_some_iff.1 ha').1
 obtain⟨i,hi,x1,e1⟩:=h.blk h1
 obtain⟨i',hi',x2,e2⟩:=h.blk h2
 have hb1:b=(i:Int):=by rw[List.getElem?_eq_getElem h1,x1]at ha;injection ha with ha;exact ha.symm
 have hb2:b=(i':Int):=by rw[List.getElem?_eq_getElem h2,x2]at ha';injection ha' with ha';exact ha'.symm
 obtain rfl:i=i':=by omega
 refine⟨by show(zxw c of share).raw.lost.getD a false=(zxw c of share).raw.lost.getD a' false;rw[cop_lost h h1 e1,cop_lost h h2 e2],fun j x y hj hx hy=> ?_⟩
 simp only[h.num]at hx hy
 have hjn:=(List.getElem?_eq_some_iff.1 hx).1
 rw[zsw]at hjn
 have hx2:=(List.getElem?_eq_some_iff.1 hx).2
 have hy2:=(List.getElem?_eq_some_iff.1 hy).2
 rw[zuw _ _ _ _ hjn,zzx h1,zmz ht h h1 e1 hi j hjn]at hx2
 rw[zuw _ _ _ _ hjn,zzx h2,zmz ht h h2 e2 hi j hjn]at hy2
 rw[←hx2,←hy2]
end
theorem zyx (x:Rat) (l:List Rat):zgg (x::l)=zgg l+x:=by
 unfold zgg
 rw[List.foldl_cons,zbz]
def selZ (bl:List Int) (row:List Rat) (b:Int):List Rat:=List.zipWith (fun x q=>if x=b then q else 0) bl row
theorem zez (x:Int) (bl:List Int) (q:Rat) (row:List Rat) (b:Int):bsum (x::bl) (q::row) b=if x=b then bsum bl row b+q else bsum bl row b:=by
 unfold bsum zxz
 rw[List.zip_cons_cons,List.filter_cons]
 by_cases h:x=b
 ·rw[if_pos (by simp[h]),if_pos h,List.map_cons,zyx]
 ·rw[if_neg (by simp[h]),if_neg h]
theorem zmx (row:List Rat) (b:Int):bsum [] row b=0:=by simp[bsum,zxz,zgg]
theorem zux (bl:List Int) (b:Int):bsum bl [] b=0:=by simp[bsum,zxz,zgg]
theorem bsum_selZ (bl:List Int) (row:List Rat) (b:Int):bsum bl row b=zgg (selZ bl row b):=by
 induction bl generalizing row with
 | nil=>rw[zmx];rfl
 | cons x bl ih=>cases row with
   | nil=>rw[zux];rfl
   | cons q row=>
     rw[zez]
     show _=zgg ((if x=b then q else 0)::selZ bl row b)
     rw[zyx,←ih]
     split
     ·rfl
     ·rw[Rat.add_zero]
theorem zwz (L:List Int) (g:Int→Int) (row:List Rat) (b β:Int):bsum L (selZ (L.map g) row b) β=if g β=b then bsum L row β else 0:=by
 induction L generalizing row with
 | nil=>rw[zmx,zmx];split<;>rfl
 | cons x L ih=>cases row with
   | nil=>
     show bsum (x::L) [] β=_
     rw[zux];split<;>rfl
   | cons q row=>
     show bsum (x::L) ((if g x=b then q else 0)::selZ (L.map g) row b) β=_
     rw[zez,zez,ih]
     by_cases h:x=β
     ·subst h
      by_cases h2:g x=b
      ·simp only[if_pos h2,if_true]
      ·simp only[if_neg h2,if_true]
       exact Rat.add_zero _
     ·simp only[if_neg h]
theorem zry (bl:List Int) (row:List Rat) (b:Int) (h:row.length=bl.length):(selZ bl row b).length=bl.length:=by simp[selZ,h]
theorem bsum_map {L:List Int} {n:Nat} (hL:∀ (k:Nat) (h:k<L.length),0≤L[k]∧L[k]<(n:Int)) (g:Int→Int) (row:List Rat) (hr:row.length=L.length) (b:Int):
 bsum (L.map g) row b=zgg ((List.range n).map fun β:Nat=>if g β=b then bsum L row β else 0):=by
 have h1:=zfy (of:=L) (row:=selZ (L.map g) row b) (n:=n) (by rw[zry _ _ _ (by simpa using hr)];simp) hL L.length (Nat.le_refl _)
 rw[List.take_length,List.take_of_length_le (by rw[zry _ _ _ (by simpa using hr)];simp),←bsum_selZ]at h1
 rw[←h1]
 congr 1
 unfold ztw
 exact List.map_congr_left (fun β _=>zwz L g row b β)
theorem bsum_regroup {L bl:List Int} {n:Nat} {r r':List Rat} (hlen:bl.length=L.length) (hr:r.length=L.length) (hr':r'.length=L.length) (hL:∀ (k:Nat) (h:k<L.length),0≤L[k]∧L[k]<(n:Int))
 (href:∀i j:Nat,L[i]? =L[j]? →bl[i]? =bl[j]?) (b:Int) (h:∀β:Nat,β<n→(∀k:Nat,L[k]? =some (β:Int)→bl[k]? =some b)→bsum L r β=bsum L r' β):bsum bl r b=bsum bl r' b:=by
 have hg:bl=L.map (fun x=>bl.getD (L.findIdx (fun y=>decide (y=x))) (b+1)):=by
  refine List.ext_getElem (by simpa using hlen) (fun k h1 h2=> ?_)
  have hk:k<L.length:=by omega
  rw[List.getElem_map]
  have h3:L.findIdx (fun y=>decide (y=L[k]))<L.length:=List.findIdx_lt_length_of_exists ⟨_,List.getElem_mem hk,by simp⟩
  have h4:=List.findIdx_getElem (xs:=L) (p:=fun y=>decide (y=L[k])) (w:=h3)
  simp only[decide_eq_true_eq]at h4
  have h5:=href k (L.findIdx (fun y=>decide (y=L[k]))) (by rw[List.getElem?_eq_getElem hk,List.getElem?_eq_getElem h3,h4])
  simp only[List.getD,←h5,List.getElem?_eq_getElem h1,Option.getD_some]
 generalize hgg:(fun x:Int=>bl.getD (L.findIdx (fun y=>decide (y=x))) (b+1))=g at hg
 rw[hg,bsum_map hL g r hr,bsum_map hL g r' hr']
 congr 1
 refine List.map_congr_left (fun β hβ=> ?_)
 by_cases h1:g β=b
 ·rw[if_pos h1,if_pos h1]
  refine h β (by simpa using hβ) (fun k hk=> ?_)
  rw[hg,List.getElem?_map,hk]
  simp[h1]
 ·rw[if_neg h1,if_neg h1]
structure Stab (c:RC) (n:Nat) (L:List Int):Prop where
 len:L.length=c.lost.length
 bd:∀ (k:Nat) (h:k<L.length),0≤L[k]∧L[k]<(n:Int)
 lost:∀i j:Nat,i<L.length→L[i]? =L[j]? →c.lost.getD i false=c.lost.getD j false
 rate:∀ (i j:Nat),i<L.length→L[i]? =L[j]? →∀β:Nat,β<n→L[i]? ≠some (β:Int)→bsum L (zaq c i) β=bsum L (zaq c j) β
theorem Stab.of_check {c:RC} {L:List Int} (h:zex c L):Stab c (cnt L) L:=by
 obtain⟨h1,h2,h3,h4,h5⟩:=h
 refine⟨by rw[h3];exact h4.2.2.1.symm,fun k hk=>h1.lt (List.getElem?_eq_getElem hk),fun i j hi hij=> ?_,fun i j hi hij β hβ hne=> ?_⟩
 ·exact(h5 i j _ (List.getElem?_eq_getElem hi) (by rw[←hij];exact List.getElem?_eq_getElem hi)).1
 ·have h6:=(h5 i j _ (List.getElem?_eq_getElem hi) (by rw[←hij];exact List.getElem?_eq_getElem hi)).2
  rw[List.getElem?_eq_getElem hi]at hne
  exact h6 β _ _ (fun e=>hne (by rw[e])) (by rw[List.getElem?_eq_getElem (by rw[zsw];exact hβ),zuw _ _ _ _ hβ]) (by rw[List.getElem?_eq_getElem (by rw[zsw];exact hβ),zuw _ _ _ _ hβ])
theorem zix {c:RC} (h:zzp c) {i:Nat} (hi:i<c.lost.length):(zaq c i).length=c.lost.length:=by
 obtain⟨h1,h2,h3,h4,h5,h6,h7⟩:=h
 have hi2:i<c.rates.length:=by omega
 unfold zaq
 simp only[List.getD,List.getElem?_eq_getElem hi2,Option.getD_some]
 rw[zgq,(h6 i _ (List.getElem?_eq_getElem hi2)).1.2.1,h3]
theorem two_marks (x y z:Bool):some (if x=z then(0:Int)else 1)=some (if y=z then 0 else 1)↔x=y:=by revert x y z;decide
theorem lostB_iff {c:RC} {i j:Nat} (hi:i<c.lost.length) (hj:j<c.lost.length):(zgx c)[i]? =(zgx c)[j]? ↔c.lost.getD i false=c.lost.getD j false:=by
 unfold zgx
 simp only[List.getElem?_map,List.getElem?_eq_getElem hi,List.getElem?_eq_getElem hj,Option.map_some,List.getD,Option.getD_some]
 exact two_marks _ _ _
theorem Refs.lost {c:RC} {bl:List Int} (h:Refs c bl) (hn:0<c.lost.length) {i j:Nat} (hi:i<c.lost.length) (hj:j<c.lost.length) (hij:bl[i]? =bl[j]?):c.lost.getD i false=c.lost.getD j false:=by
 induction h with
 | zero=>exact(lostB_iff hi hj).1 hij
 | step h1 h2 ih=>
   have hl:=(h1.ok hn).2
   have h3:=(h2.2.2 i j _ _ (List.getElem?_eq_getElem (by rw[hl];exact hi)) (List.getElem?_eq_getElem (by rw[hl];exact hj))).1 hij
   exact ih (by rw[List.getElem?_eq_getElem (by rw[hl];exact hi),List.getElem?_eq_getElem (by rw[hl];exact hj),h3.1])
theorem get_eq_lt {α β:Type} {l:List α} {m:List β} (h:l.length=m.length) {i j:Nat} (hij:l[i]? =l[j]?):(i<l.length∧j<l.length)∨(m[i]? =none∧m[j]? =none):=by
 by_cases h1:i<l.length
 ·by_cases h2:j<l.length
  ·exact Or.inl ⟨h1,h2⟩
  ·rw[List.getElem?_eq_getElem h1,List.getElem?_eq_none (by omega)]at hij;simp at hij
 ·by_cases h2:j<l.length
  ·rw[List.getElem?_eq_getElem h2,List.getElem?_eq_none (by omega)]at hij;simp at hij
  ·exact Or.inr ⟨List.getElem?_eq_none (by omega),List.getElem?_eq_none (by omega)⟩
theorem Refs.coarser {c:RC} {n:Nat} {L bl:List Int} (hv:zzp c) (hS:Stab c n L) (h:Refs c bl):∀i j:Nat,L[i]? =L[j]? →bl[i]? =bl[j]? :=by
 have hn:0<c.lost.length:=by have:=hv.1;have:=hv.2.2.1;omega
 induction h with
 | zero=>
   intro i j hij
   rcases get_eq_lt (m:=zgx c) (by rw[hS.len];simp[zgx]) hij with⟨h1,h2⟩ | ⟨h1,h2⟩
   ·exact(lostB_iff (by rw[←hS.len];exact h1) (by rw[←hS.len];exact h2)).2 (hS.lost i j h1 hij)
   ·rw[h1,h2]
 | @step bl nx h1 h2 ih=>
   intro i j hij
   have hl:=(h1.ok hn).2
   rcases get_eq_lt (m:=nx) (by rw[hS.len,h2.2.1,hl]) hij with⟨h3,h4⟩ | ⟨h3,h4⟩
   ·have hi:i<bl.length:=by rw[hl,←hS.len];exact h3
    have hj:j<bl.length:=by rw[hl,←hS.len];exact h4
    have hb:=ih i j hij
    rw[List.getElem?_eq_getElem hi,List.getElem?_eq_getElem hj]at hb
    injection hb with hb
    refine(h2.2.2 i j _ _ (List.getElem?_eq_getElem hi) (List.getElem?_eq_getElem hj)).2 ⟨hb,fun t x y ht hx hy=> ?_⟩
    unfold sumF at hx hy
    have htn:=(List.getElem?_eq_some_iff.1 hx).1
    rw[zsw]at htn
    rw[List.getElem?_eq_getElem (by rw[zsw];exact htn),zuw _ _ _ _ htn]at hx hy
    injection hx with hx
    injection hy with hy
    rw[←hx,←hy]
    refine bsum_regroup (n:=n) (by rw[hl,hS.len]) (by rw[zix hv (by rw[←hS.len];exact h3),hS.len]) (by rw[zix hv (by rw[←hS.len];exact h4),hS.len]) hS.bd ih _ (fun β hβ hk=> ?_)
    refine hS.rate i j h3 hij β hβ (fun e=>ht ?_)
    have:=hk i e
    rw[List.getElem?_eq_getElem hi]at this
    injection this with this
    exact this.symm
   ·rw[h3,h4]
theorem zfx.inc {bl nx:List Int} {f:Nat→List Rat} (h:zfx bl f nx) (hok:okB bl) (k:Nat) (hk:k<bl.length):bl[k]=(cnt (bl.take k):Int)→nx[k]'(by rw[h.2.1];exact hk)=(cnt (nx.take k):Int):=by
 obtain⟨h1,h2,h3⟩:=h
 intro h4
 have hk2:k<nx.length:=by omega
 by_cases h5:nx[k]=(cnt (nx.take k):Int)
 ·exact h5
 ·exfalso
  obtain⟨h6,h7⟩:=h1 k _ (List.getElem?_eq_getElem hk2)
  obtain⟨b,hb⟩:∃b:Nat,nx[k]=(b:Int):=⟨nx[k].toNat,by omega⟩
  obtain⟨j,h8,h9⟩:=zuy h1 k b (by omega)
  have hj:j<bl.length:=by omega
  have h10:=(h3 j k _ _ (List.getElem?_eq_getElem hj) (List.getElem?_eq_getElem hk)).1 (by rw[h9,List.getElem?_eq_getElem hk2,hb])
  have h11:=okB_new hok (List.getElem?_eq_getElem hj) h8
  rw[h10.1]at h11
  omega
theorem zfx.gap {bl nx:List Int} {f:Nat→List Rat} (h:zfx bl f nx) (hok:okB bl) (k:Nat) (hk:k<bl.length):cnt (bl.take (k+1))+cnt (nx.take k)≤cnt (nx.take (k+1))+cnt (bl.take k):=by
 have hk2:k<nx.length:=by rw[h.2.1];exact hk
 have hc:=zww bl k hk
 have hd:=zww nx k hk2
 have hi:=h.inc hok k hk
 by_cases h1:bl[k]=(cnt (bl.take k):Int)
 ·rw[if_pos h1]at hc
  rw[if_pos (hi h1)]at hd
  omega
 ·rw[if_neg h1]at hc
  have:=zwx nx k
  omega
theorem zfx.gaps {bl nx:List Int} {f:Nat→List Rat} (h:zfx bl f nx) (hok:okB bl) (k:Nat):∀m,k+m≤bl.length→cnt (bl.take (k+m))+cnt (nx.take k)≤cnt (nx.take (k+m))+cnt (bl.take k):=by
 intro m
 induction m with
 | zero=>intro _;simp[Nat.add_comm]
 | succ m ih=>
   intro hm
   have h1:=ih (by omega)
   have h2:=h.gap hok (k+m) (by omega)
   rw[show k+(m+1)=k+m+1 from by omega]
   omega
theorem zfx.same {bl nx:List Int} {f:Nat→List Rat} (h:zfx bl f nx) (hok:okB bl) (hc:cnt nx=cnt bl):nx=bl:=by
 have hl:=h.2.1
 have all:∀k,k≤bl.length→cnt (nx.take k)=cnt (bl.take k):=fun k hk=>by
  have h1:=h.gaps hok k (bl.length-k) (by omega)
  rw[show k+(bl.length-k)=bl.length from by omega,List.take_length,List.take_of_length_le (l:=nx) (i:=bl.length) (by omega),hc]at h1
  have h2:=h.mono hok k
  omega
 have key:∀k,k≤bl.length→nx.take k=bl.take k:=by
  intro k
  induction k with
  | zero=>intro _;rfl
  | succ k ih=>
    intro hk
    have ih:=ih (by omega)
    have hk1:k<bl.length:=by omega
    have hk2:k<nx.length:=by omega
    rw[zxc nx k hk2,zxc bl k hk1,ih]
    congr 2
    have e1:=zww nx k hk2
    have e2:=zww bl k hk1
    have e3:=all k (by omega)
    have e4:=all (k+1) hk
    by_cases h1:nx[k]=(cnt (nx.take k):Int)
    ·rw[if_pos h1]at e1
     by_cases h2:bl[k]=(cnt (bl.take k):Int)
     ·rw[h1,h2,e3]
     ·rw[if_neg h2]at e2;omega
    ·obtain⟨h6,h7⟩:=h.1 k _ (List.getElem?_eq_getElem hk2)
     obtain⟨b,hb⟩:∃b:Nat,nx[k]=(b:Int):=⟨nx[k].toNat,by omega⟩
     obtain⟨j,h8,h9⟩:=zuy h.1 k b (by omega)
     have hj:j<bl.length:=by omega
     have h10:=(h.2.2 j k _ _ (List.getElem?_eq_getElem hj) (List.getElem?_eq_getElem hk1)).1 (by rw[h9,List.getElem?_eq_getElem hk2,hb])
     have h11:(nx.take k)[j]? =(bl.take k)[j]? :=by rw[ih]
     rw[List.getElem?_take_of_lt h8,List.getElem?_take_of_lt h8,h9,List.getElem?_eq_getElem hj]at h11
     injection h11 with h11
     rw[hb,←h10.1,h11]
 have:=key bl.length (Nat.le_refl _)
 rw[List.take_length,List.take_of_length_le (by omega)]at this
 exact this
theorem zox.refs {c:RC} {nx:List Int} (h:zox c nx) (hn:0<c.lost.length):Refs c nx∧zfx nx (sumF c nx) nx:=by
 obtain⟨bl,h1,h2,h3⟩:=h
 obtain rfl:=h2.same (h1.ok hn).1 h3
 exact⟨h1,h2⟩
theorem zox.check {c:RC} {nx:List Int} (h:zox c nx) (hv:zzp c):zex c nx:=by
 have hn:0<c.lost.length:=by have:=hv.1;have:=hv.2.2.1;omega
 obtain⟨h1,h2⟩:=h.refs hn
 have hl:=(h1.ok hn).2
 refine⟨(h1.ok hn).1,by omega,by rw[hl];exact hv.2.2.1,hv,fun i j b hi hj=> ?_⟩
 have hi1:=(List.getElem?_eq_some_iff.1 hi).1
 have hj1:=(List.getElem?_eq_some_iff.1 hj).1
 refine⟨h1.lost hn (by omega) (by omega) (by rw[hi,hj]),?_⟩
 exact((h2.2.2 i j b b hi hj).1 (by rw[hi,hj])).2
theorem zox.coarser {c:RC} {n:Nat} {L nx:List Int} (h:zox c nx) (hv:zzp c) (hS:Stab c n L):∀i j:Nat,L[i]? =L[j]? →nx[i]? =nx[j]? :=by
 have hn:0<c.lost.length:=by have:=hv.1;have:=hv.2.2.1;omega
 exact(h.refs hn).1.coarser hv hS
theorem zax {bl:List Int} (hok:okB bl) {b:Nat} (h:b<cnt bl):zvw bl b<bl.length∧bl[zvw bl b]? =some (b:Int):=by
 obtain⟨k,h1,h2⟩:=zuy hok bl.length b (by rw[List.take_length];exact h)
 have h3:zvw bl b<bl.length:=by
  unfold zvw
  exact List.findIdx_lt_length_of_exists ⟨_,List.mem_of_getElem? h2,by simp⟩
 refine⟨h3,?_⟩
 have h4:=List.findIdx_getElem (xs:=bl) (p:=fun x=>decide (x=(b:Int))) (w:=h3)
 simp only[decide_eq_true_eq]at h4
 rw[List.getElem?_eq_getElem h3]
 exact congrArg some h4
theorem zsz {c:RC} {bl:List Int} {x:Nat} (hx:x<cnt bl):zaq (quo c bl).raw x=(ztw bl (zaq c (zvw bl x)) (cnt bl)).set x 0:=by
 rw[zkr];simp[quo,List.getD,hx]
theorem quo_lost {c:RC} {bl:List Int} {x:Nat} (hx:x<cnt bl):(quo c bl).raw.lost.getD x false=c.lost.getD (zvw bl x) false:=by
 simp[CQ.raw,quo,List.getD,hx]
def zeu (N:Nat) (q:Rat):Prop:=∃a:Nat,a≤N∧q=fq false a 144
theorem zeu.zero (N:Nat):zeu N 0:=⟨0,Nat.zero_le _,by decide+kernel⟩
theorem zeu.mono {N M:Nat} {q:Rat} (h:zeu N q) (hm:N≤M):zeu M q:=by obtain⟨a,h1,h2⟩:=h;exact⟨a,by omega,h2⟩
theorem zjr (a b m:Nat) (hm:m≠0):fq false a b=fq false (a*m) (b*m):=by
 unfold fq sgn
 simp only[Bool.false_eq_true,if_false]
 rw[show((a*m:Nat):Int)=(a:Int)*(m:Int)from by simp,Rat.mkRat_mul_right hm]
theorem zeu.add {N M:Nat} {p q:Rat} (hp:zeu N p) (hq:zeu M q):zeu (N+M) (p+q):=by
 obtain⟨a,h1,rfl⟩:=hp
 obtain⟨b,h2,rfl⟩:=hq
 refine⟨a+b,by omega,?_⟩
 rw[zhh false a 144 b 144 (by decide) (by decide),zjr (a+b) 144 144 (by decide),Nat.add_mul]
theorem zeq.twelve {q:Rat} (h:zeq q):∃a:Nat,a≤48∧q=fq false a 12:=by
 obtain⟨a,b,h1,h2,h3,rfl⟩:=h
 have hb:b=1∨b=2∨b=3∨b=4:=by omega
 rcases hb with rfl | rfl | rfl | rfl
 ·exact⟨a*12,by omega,zjr a 1 12 (by decide)⟩
 ·exact⟨a*6,by omega,zjr a 2 6 (by decide)⟩
 ·exact⟨a*4,by omega,zjr a 3 4 (by decide)⟩
 ·exact⟨a*3,by omega,zjr a 4 3 (by decide)⟩
theorem zeq.big {p q:Rat} (hp:zeq p) (hq:zeq q):zeu 2304 (p*q):=by
 obtain⟨a,h1,rfl⟩:=hp.twelve
 obtain⟨b,h2,rfl⟩:=hq.twelve
 exact⟨a*b,Nat.mul_le_mul h1 h2,fq_mul _ _ _ _ _ _⟩
theorem zeu.sum {N:Nat} {l:List Rat} (h:∀q∈l,zeu N q):zeu (N*l.length) (zgg l):=by
 induction l with
 | nil=>exact zeu.zero _
 | cons x l ih=>
   rw[zyx,List.length_cons,Nat.mul_succ]
   exact(ih (fun q hq=>h q (by simp[hq]))).add (h x (by simp))
theorem zeu.bsum {N m:Nat} {bl:List Int} {row:List Rat} (h:∀q∈row,zeu N q) (hm:row.length≤m) (b:Int):zeu (N*m) (bsum bl row b):=by
 have hs:=zmy bl row b
 exact(zeu.sum (fun q hq=>h q (hs.subset hq))).mono (Nat.mul_le_mul_left _ (Nat.le_trans hs.length_le hm))
theorem zeu.num {N:Nat} {q:Rat} (h:zeu N q):q.num.natAbs≤N:=by
 obtain⟨a,h1,rfl⟩:=h
 rw[zif _ _ _ (by omega)]
 exact Nat.le_trans (Nat.div_le_self _ _) h1
theorem zeu.den {N:Nat} {q:Rat} (h:zeu N q):q.den≤144:=by
 obtain⟨a,h1,rfl⟩:=h
 rw[zsm _ _ _ (by omega)]
 exact Nat.div_le_self _ _
theorem zeu.nonneg {N:Nat} {q:Rat} (h:zeu N q):¬q<0:=by
 obtain⟨a,h1,rfl⟩:=h
 have:=zqu false a 144 (by omega)
 simp at this
 first | exact this | exact Rat.not_lt.2 this
theorem zeu.wt {q:Rat} (h:zeu 23040 q):wt q≤23:=by
 have h1:zua q.num.natAbs≤15:=zwb.2 (by have:=h.num;omega)
 have h2:zua q.den≤8:=zwb.2 (by have:=h.den;omega)
 unfold Go.Proofs.YtlpdkbmmbdfoiaaGreat.wt
 split
 ·omega
 ·split<;>omega
theorem zeu.fits {q:Rat} (h:zeu 23040 q):fits q:=⟨zwb.2 (Nat.lt_of_le_of_lt h.num (by decide+kernel)),zwb.2 (Nat.lt_of_le_of_lt h.den (by decide+kernel))⟩
theorem wts_big {l:List Rat} (h:∀q∈l,zeu 23040 q):wts l≤23*l.length:=by
 induction l with
 | nil=>simp[wts]
 | cons x l ih=>
   have h1:=(h x (by simp)).wt
   have h2:=ih (fun q hq=>h q (by simp[hq]))
   rw[zmg,List.length_cons]
   omega
theorem rowP_big {l:List Rat} {n:Nat} (hn:l.length=n) (hn5:n≤128) (h:∀q∈l,zeu 23040 q):zlr (l.map RF.of) n:=by
 refine⟨fun x hx=> ?_,by rw[List.length_map];exact hn,by rw[zbu];have:=wts_big h;omega⟩
 obtain⟨q,hq,rfl⟩:=List.mem_map.1 hx
 have hs:=h q hq
 refine⟨RF.of_ok hs.fits,?_⟩
 rw[RF.of_q]
 exact⟨hs.nonneg,zzb.2 (by have:=hs.num;simp[pw];omega),zzb.2 (by have:=hs.den;simp[pw];omega)⟩
theorem lsum_zero :∀ {l:List Rat},(∀q∈l,q=0)→zgg l=0:=by
 intro l
 induction l with
 | nil=>intro _;rfl
 | cons x l ih=>
   intro h
   rw[zyx,ih (fun q hq=>h q (by simp[hq])),h x (by simp),Rat.add_zero]
theorem zvy {bl:List Int} {row:List Rat} {n:Nat} {q:Rat} (h:q∈ztw bl row n):∃b:Int,q=bsum bl row b:=by
 obtain⟨b,_,rfl⟩:=List.mem_map.1 h
 exact⟨_,rfl⟩
theorem quo_valid {c:RC} {nx:List Int} (hck:zex c nx) (hle:nx.length≤10) (hs:∀q∈qs c.start,zeu 2304 q) (hr:∀i,i<nx.length→∀q∈zaq c i,zeu 2304 q):zzp (quo c nx).raw:=by
 obtain⟨hok,h0,hlen,hv,hag⟩:=hck
 have hp:=cnt_pos hok h0
 have hn:=cnt_le nx nx.length
 rw[List.take_length]at hn
 have hll:c.lost.length=nx.length:=by rw[hv.2.2.1,hlen]
 refine⟨by simp[CQ.raw,quo,zsw];omega,by simp[CQ.raw,quo,zsw];omega,by simp[CQ.raw,quo,zsw],by simp[CQ.raw,quo,zsw],?_,fun i r hri=> ?_,?_⟩
 ·have:=rowP_big (n:=cnt nx) (l:=ztw nx (qs c.start) (cnt nx)) (zsw _ _ _) (by omega) (fun q hq=>by
   obtain⟨b,rfl⟩:=zvy hq
   exact zeu.bsum (m:=10) hs (by rw[zgq,←hlen];exact hle) b)
  simpa [CQ.raw,quo,zsw]using this
 ·simp only[CQ.raw,List.getElem?_map,Option.map_eq_some_iff]at hri
  obtain⟨r',hr',rfl⟩:=hri
  have hi:i<cnt nx:=by have:=(List.getElem?_eq_some_iff.1 hr').1;simpa [quo]using this
  have e:(ztw nx (zaq c (zvw nx i)) (cnt nx)).set i 0=r':=by simpa [quo,hi]using hr'
  subst e
  obtain⟨f1,f2⟩:=zax hok hi
  have hrl:=zix hv (i:=zvw nx i) (by omega)
  have hbig:∀q∈(ztw nx (zaq c (zvw nx i)) (cnt nx)).set i 0,zeu 23040 q:=fun q hq=>by
   rcases List.mem_or_eq_of_mem_set hq with h | rfl
   ·obtain⟨b,rfl⟩:=zvy h
    exact zeu.bsum (m:=10) (hr _ f1) (by omega) b
   ·exact zeu.zero _
  refine⟨?_,fun x hx=> ?_,fun hl=> ?_⟩
  ·have:=rowP_big (n:=cnt nx) (by rw[List.length_set,zsw]) (by omega) hbig
   simpa [CQ.raw,quo,zsw]using this
  ·rw[List.getElem?_map,Option.map_eq_some_iff]at hx
   obtain⟨q,hq,rfl⟩:=hx
   rw[List.getElem?_set_self (by rw[zsw];exact hi)]at hq
   injection hq with hq
   rw[RF.of_q,←hq]
   rfl
  ·rw[zbu]
   have hlost:c.lost.getD (zvw nx i) false=true:=by
    rw[←quo_lost (c:=c) hi]
    simp only[List.getD]
    have :(quo c nx).raw.lost[i]? =some true:=hl
    rw[this];rfl
   have hf:zvw nx i<c.rates.length:=by rw[hv.2.2.2.1,←hlen];exact f1
   have h4:=(hv.2.2.2.2.2.1 (zvw nx i) _ (List.getElem?_eq_getElem hf)).2.2 (by
    have hfl:zvw nx i<c.lost.length:=by omega
    simp only[List.getD,List.getElem?_eq_getElem hfl,Option.getD_some]at hlost
    rw[List.getElem?_eq_getElem hfl,hlost])
   have hz:∀q∈zaq c (zvw nx i),q=0:=by
    have :zaq c (zvw nx i)=qs (c.rates[zvw nx i]):=by
     unfold zaq
     simp only[List.getD,List.getElem?_eq_getElem hf,Option.getD_some]
    rw[this]
    exact zoz h4
   refine zny (fun q hq=> ?_)
   rcases List.mem_or_eq_of_mem_set hq with h | rfl
   ·obtain⟨b,rfl⟩:=zvy h
    exact lsum_zero (fun q hq=>hz q ((zmy nx _ b).subset hq))
   ·rfl
 ·rw[ziy]
  have h1:=zfy (of:=nx) (row:=qs c.start) (n:=cnt nx) (by rw[zgq,hlen]) (fun k hk=>hok.lt (List.getElem?_eq_getElem hk)) nx.length (Nat.le_refl _)
  rw[List.take_length,List.take_of_length_le (by rw[zgq,hlen];exact Nat.le_refl _)]at h1
  show zgg (ztw nx (qs c.start) (cnt nx))=1
  rw[h1]
  exact hv.2.2.2.2.2.2
theorem ztz {c:CQ} {of nx:List Int} {share:List Rat} (ht:zrr c) (h:zgz c.start.length of share) (hck:zex (zxw c of share).raw nx):zzp (quo (zxw c of share).raw nx).raw:=by
 have hlen:nx.length=of.length:=by have:=hck.2.2.1;simpa [CQ.raw,zxw]using this
 refine quo_valid hck (by rw[hlen];exact h.le) (fun q hq=> ?_) (fun i hi q hq=> ?_)
 ·rw[ziy]at hq
  obtain⟨a,ha,rfl⟩:=List.mem_map.1 hq
  have ha2:a<of.length:=by simpa using ha
  obtain⟨i,hi,_,e1⟩:=h.blk ha2
  rw[e1,h.sh ha2]
  have :c.start.getD ((i:Nat):Int).toNat 0=c.start[i]:=by simp[List.getD,List.getElem?_eq_getElem hi]
  rw[this]
  exact(ht.st _ (List.getElem_mem hi)).big (h.sm _ (List.getElem_mem _))
 ·rw[zzx (by rw[←hlen];exact hi)]at hq
  obtain⟨b,hb,rfl⟩:=List.mem_map.1 hq
  have hb2:b<of.length:=by simpa using hb
  obtain⟨x,hx,_,e1⟩:=h.blk (show i<of.length by rw[←hlen];exact hi)
  obtain⟨j,hj,_,e2⟩:=h.blk hb2
  rw[e1,e2,h.sh hb2]
  split
  ·exact zeu.zero _
  ·exact(ht.rate (by simpa using hx) (by simpa using hj)).big (h.sm _ (List.getElem_mem _))
def zky (n:Nat) (rows:Nat→List Rat) (ρ:Rat) (v:List Rat):List Rat:=(List.range n).map fun j=>sg n fun i=>v.getD i 0*zkx n (fun i j=>(rows i).getD j 0) ρ i j
theorem zhy (n:Nat) (rows:Nat→List Rat) (ρ:Rat) (v:List Rat):(zky n rows ρ v).length=n:=by simp[zky]
theorem stepQ_get {n:Nat} {rows:Nat→List Rat} {ρ:Rat} {v:List Rat} {j:Nat} (h:j<n):(zky n rows ρ v).getD j 0=sg n fun i=>v.getD i 0*zkx n (fun i j=>(rows i).getD j 0) ρ i j:=by
 simp[zky,List.getD,h]
theorem diag_zero {c:RC} (h:zzp c) {i:Nat} (hi:i<c.start.length):(zaq c i).getD i 0=0:=by
 obtain⟨h1,h2,h3,h4,h5,h6,h7⟩:=h
 have hil:i<c.rates.length:=by omega
 obtain⟨k1,k2,k3⟩:=h6 i _ (List.getElem?_eq_getElem hil)
 have hl:(c.rates[i]'hil).length=c.start.length:=k1.2.1
 have e:zaq c i=qs (c.rates[i]'hil):=by simp[zaq,List.getD,List.getElem?_eq_getElem hil]
 have h8:i<(qs (c.rates[i]'hil)).length:=by rw[zgq];omega
 rw[e,List.getD,List.getElem?_eq_getElem h8,Option.getD_some,zqt _ _ (by omega)]
 have:=k2 _ (List.getElem?_eq_getElem (show i<(c.rates[i]'hil).length by omega))
 exact Rat.num_eq_zero.1 this
theorem zcy {bl:List Int} (hok:okB bl) {row:List Rat} (hl:row.length=bl.length) (b:Nat):bsum bl row b=sg bl.length (fun j=>if (bl.getD j 0).toNat=b then row.getD j 0 else 0):=by
 have h:=bsum_sg bl row b hl.symm bl.length (Nat.le_refl _)
 rw[List.take_length,←hl,List.take_length,hl]at h
 rw[h]
 refine zma fun j hj=> ?_
 have hg:bl[j]? =some (bl.getD j 0):=by simp[List.getD,List.getElem?_eq_getElem hj]
 have:=(hok.lt hg).1
 by_cases hb:bl.getD j 0=(b:Int)
 ·rw[if_pos hb,if_pos (by omega)]
 ·rw[if_neg hb,if_neg (by omega)]
theorem ztx {bl:List Int} {row:List Rat} {n j:Nat} (h:j<n):(ztw bl row n).getD j 0=bsum bl row j:=by
 simp[ztw,List.getD,h]
theorem lump_lists {c:RC} {bl:List Int} (h:zex c bl) (ρ:Rat) {v:List Rat} (hv:v.length=bl.length):
 ztw bl (zky bl.length (zaq c) ρ v) (cnt bl)=zky (cnt bl) (zaq (quo c bl).raw) ρ (ztw bl v (cnt bl)):=by
 obtain⟨hok,h0,hlen,hval,hag⟩:=h
 have hll:c.lost.length=c.start.length:=hval.2.2.1
 have hblk:∀i,i<bl.length→(bl.getD i 0).toNat<cnt bl∧bl[i]? =some (((bl.getD i 0).toNat:Nat):Int):=fun i hi=>by
  have hg:bl[i]? =some (bl.getD i 0):=by simp[List.getD,List.getElem?_eq_getElem hi]
  obtain⟨h1,h2⟩:=hok.lt hg
  refine⟨by omega,?_⟩
  rw[hg]
  congr 1
  omega
 have hrl:∀i,i<bl.length→(zaq c i).length=bl.length:=fun i hi=>by rw[zix hval (by omega)];omega
 refine List.ext_getElem (by rw[zsw,zhy]) fun b h1 h2=> ?_
 rw[zsw]at h1
 have key:=lump_step (n:=bl.length) (m:=cnt bl) (blk:=fun i=>(bl.getD i 0).toNat) (fun i hi=>(hblk i hi).1) (R:=fun i j=>(zaq c i).getD j 0) (Q:=fun a b=>(zaq (quo c bl).raw a).getD b 0) ρ
  (fun i hi=>diag_zero hval (by omega)) (fun i hi a ha hne=>by
   obtain⟨k1,k2⟩:=hblk i hi
   obtain⟨f1,f2⟩:=zax hok k1
   rw[zsz k1]
   have e1:((ztw bl (zaq c (zvw bl (bl.getD i 0).toNat)) (cnt bl)).set (bl.getD i 0).toNat 0).getD a 0=bsum bl (zaq c (zvw bl (bl.getD i 0).toNat)) a:=by
    simp only[List.getD]at hne ⊢
    rw[List.getElem?_set_ne hne]
    exact ztx ha
   have e2:=(hag _ _ _ f2 k2).2 a _ _ (by omega) (by rw[List.getElem?_eq_getElem (by rw[zsw];exact ha),zuw _ _ _ _ ha]) (by rw[List.getElem?_eq_getElem (by rw[zsw];exact ha),zuw _ _ _ _ ha])
   rw[e1,e2,zcy hok (hrl i hi)])
  (fun b hb=>by
   rw[zsz hb]
   simp[List.getD,zsw,hb])
  (fun i=>v.getD i 0) (b:=b) h1
 have e1:(ztw bl (zky bl.length (zaq c) ρ v) (cnt bl))[b]'(by rw[zsw];exact h1)=bsum bl (zky bl.length (zaq c) ρ v) b:=zuw _ _ _ _ h1
 have e2:(zky (cnt bl) (zaq (quo c bl).raw) ρ (ztw bl v (cnt bl)))[b]'h2=(zky (cnt bl) (zaq (quo c bl).raw) ρ (ztw bl v (cnt bl))).getD b 0:=by simp[List.getD,List.getElem?_eq_getElem h2]
 rw[e1,e2,zcy hok (zhy _ _ _ _),stepQ_get h1]
 refine Eq.trans (zma fun j hj=> ?_) (key.trans (zma fun a ha=> ?_))
 ·rw[stepQ_get hj]
 ·rw[ztx ha,zcy hok hv]
theorem zeu.over {N:Nat} {q:Rat} (h:zeu N q):over 144 N q:=by
 obtain⟨a,h1,rfl⟩:=h
 exact⟨a,by simp[Go.Proofs.YtlpdkbmmbdfoiaaGreat.fq,sgn],by simpa using h1⟩
def zqy (c:RC) (ρ:Rat) (v:List Rat):List Rat:=zib c.rates.length fun j=>sg c.rates.length fun i=>v.getD i 0*zfq c ρ i j
theorem stepV_length (c:RC) (ρ:Rat) (v:List Rat):(zqy c ρ v).length=c.rates.length:=zea _ _
theorem zpy {c:RC} (hv:zzp c) (ρ:Rat) (v:List Rat):zqy c ρ v=zky c.rates.length (zaq c) ρ⁻¹ v:=by
 unfold zqy zky zib
 refine List.map_congr_left fun j hj=>zma fun i hi=> ?_
 rw[stepE_stepM c c.rates.length ρ (by rw[zix hv (by have:=hv.2.2.1;have:=hv.2.2.2.1;omega)];have:=hv.2.2.1;have:=hv.2.2.2.1;omega)]
theorem mk_fq (a d:Nat):fq false a d=mkRat ((a:Nat):Int) d:=rfl
theorem over.lsum {D B:Nat} (hD:D≠0) {l:List Rat} (h:∀q∈l,over D B q):over D (l.length*B) (zgg l):=by
 rw[zup]
 exact over.sg hD fun i hi=>by
  rw[List.getD_eq_getElem?_getD,List.getElem?_eq_getElem hi]
  exact h _ (List.getElem_mem hi)
theorem over.bsum {D B m:Nat} (hD:D≠0) {bl:List Int} {row:List Rat} (h:∀q∈row,over D B q) (hm:row.length≤m) (b:Int):over D (m*B) (bsum bl row b):=by
 have hs:=zmy bl row b
 exact(over.lsum hD (fun q hq=>h q (hs.subset hq))).mono (Nat.mul_le_mul_right _ (Nat.le_trans hs.length_le hm))
theorem over.take {D B:Nat} {l:List Rat} (h:∀q∈l,over D B q) (k:Nat):∀q∈l.take k,over D B q:=fun q hq=>h q (List.mem_of_mem_take hq)
theorem ztu {l:List Rat} {K:Nat} (h:∀q∈l,wt q≤K):wts l≤l.length*K:=by
 induction l with
 | nil=>simp[wts]
 | cons x l ih=>
   have h1:=h x (by simp)
   have h2:=ih fun q hq=>h q (by simp[hq])
   rw[zmg,List.length_cons,Nat.succ_mul]
   omega
section
variable {c:RC}
theorem big_sum (hv:zzp c) (hn:c.rates.length≤10) (hr:∀i,i<c.rates.length→∀q∈zaq c i,zeu 2304 q) {i:Nat} (hi:i<c.rates.length):zeu 23040 (zgg (zaq c i)):=by
 have h1:=zix hv (i:=i) (by have:=hv.2.2.1;have:=hv.2.2.2.1;omega)
 refine(zeu.sum (hr i hi)).mono ?_
 have:=hv.2.2.1
 have:=hv.2.2.2.1
 omega
end
theorem fitS_of {D B:Nat} (hD:D≠0) {bl:List Int} {row:List Rat} (hl:row.length≤10) (h:∀q∈row,over D B q) (hB:10*B<2^4096) (hD2:D<2^4096):fitS (row.map RF.of) bl:=by
 intro k hk
 have e:qs (row.map RF.of)=row:=zvh row
 rw[e]
 exact(over.bsum hD (over.take h (k+1)) (by rw[List.length_take];omega) _).fits hD hB hD2
theorem zft {c:RC} {l:List Nat} (h:zvq c l):l.length≤c.rates.length:=by
 have h1:=zjt (lo:=0) (n:=c.rates.length) h.sorted fun x hx=>⟨Nat.zero_le _,((h.mem x).1 hx).1⟩
 omega
theorem zcu {a:Nat} (h:a<4096):2^a<2^4096:=by
 generalize 4096=n at *
 exact Nat.pow_lt_pow_right (by decide) h
end Go.Proofs.YtlpdkbmmbdfoiaaGreat
