/-
  What the walks of many packages share: fractions as results, constants, what types' zero values are.
-/
import Derived.Test.YtlpdkbmmbdfoiaaGreatHRa7
import Derived.Test.YtlpdkbmmbdfoiaaGreatHStep
import Derived.Test.YtlpdkbmmbdfoiaaGreatHMath7
set_option linter.unusedVariables false
set_option linter.unusedSimpArgs false
namespace Go.Proofs.YtlpdkbmmbdfoiaaGreat
set_option maxHeartbeats 800000
open Go.RowKit
theorem zvj (va vb:Value) (m n:Nat) (w:World) (ha:zob w va m) (hb:zob w vb n) (h:n≠0) (hm:zda m≤512) (hn:zda n≤512):
 Calls Tryz.prog 150 #[va,vb] w (RDiv2 w m n):=by
 have HM:=zH hm
 have HN:=zH hn
 have H0:=zH h
 have hnz:zda n≠0:=fun h'=>h (zta.1 h')
 have hnz2:(((zda n:Nat):Int)==0)=false:=by simpa using hnz
 clear hm hn hnz h
 have tok1:True:=trivial
 go_enter Tryz.func150,Tryz.ntmps150
 go_wp2_with (first
  |(go_at_call 152;first
    |((with_reducible refine(zyc va m _ ha HM.out).mono ?_);rintro e wa ⟨rfl,hba⟩)
    |((with_reducible refine(zyc vb n _ (hb.below hba) HN.out).mono ?_);rintro e wb ⟨rfl,hbb⟩;have hbw:=zaa hba hbb))
  |(go_at_call 106;have _t:=tok1;(with_reducible refine(zra vb n _ (hb.below hbw)).mono ?_);rintro e wc ⟨r0,rfl,hr0,hb0⟩;clear tok1 _t;have sl0:=hr0.v.sl;have ln0:slen r0=zda n:=hr0.v.len;have hbw0:=zaa hbw hb0)
  |(go_at_call 106;first
     |((with_reducible refine(zra va m _ (ha.below hbw0)).mono ?_);rintro e w1 ⟨ra,rfl,hra,hb1⟩;have hbw1:=zaa hbw0 hb1)
     |((with_reducible refine(zra vb n _ (hb.below hbw1)).mono ?_);rintro e w2 ⟨rb,rfl,hrb,hb2⟩;have hbw2:=zaa hbw1 hb2;have hra2:=hra.below hb2))
  |(go_at_call 196;(with_reducible refine(zqk ra rb m n _ hra2 hrb H0.out HM.out).mono ?_);rintro e w3 ⟨q,r,rfl,hq,hr,hb3⟩;have hbw3:=zaa hbw2 hb3))
 go_ret3
 exact⟨q,r,rfl,hq,hr,hbw3⟩
theorem zen (va vb:Value) (m n:Nat) (w:World) (ha:zob w va m) (hb:zob w vb n) (hm:zda m≤512) (hn:zda n≤512):
 Calls Tryz.prog 149 #[va,vb] w (RNat0 w (Nat.gcd m n)):=by
 have HM:=zH hm
 have HN:=zH hn
 clear hm hn
 go_enter Tryz.func149,Tryz.ntmps149
 go_wp2_with (first
  |(go_at_call 152;first
    |((with_reducible refine(zyc va m _ ha HM.out).mono ?_);rintro e wa ⟨rfl,hba⟩)
    |((with_reducible refine(zyc vb n _ (hb.below hba) HN.out).mono ?_);rintro e wb ⟨rfl,hbb⟩;have hbw0:=zaa hba hbb))
  |(go_at_call 106;first
     |((with_reducible refine(zra va m _ (ha.below hbw0)).mono ?_);rintro e w1 ⟨ra,rfl,hra,hb1⟩;have hbw1:=zaa hbw0 hb1)
     |((with_reducible refine(zra vb n _ (hb.below hbw1)).mono ?_);rintro e w2 ⟨rb,rfl,hrb,hb2⟩;have hbw:=zaa hbw1 hb2;have hra2:=hra.below hb2)))
 go_loopw [6,7] (fun u0 u1 wr=>∃ (x y:Nat),zjb wr u0 x∧zjb wr u1 y∧zda x≤512∧zda y≤512∧Nat.gcd x y=Nat.gcd m n∧Below w.heap.size w wr) (fun _ u1 wr=>natOf wr u1)
 case atStart=>exact⟨m,n,hra2,hrb,HM.out,HN.out,rfl,hbw⟩
 case round=>
  obtain⟨x,y,hx,hy,hx5,hy5,hg,hbr⟩:=hrel
  clear ha hb hra hrb hra2 hb1 hb2 hbw hbw0 hbw1 hba hbb
  obtain⟨sx,lx⟩:zgc u6∧slen u6=zda x:=⟨hx.v.sl,hx.v.len⟩
  obtain⟨sy,ly⟩:zgc u7∧slen u7=zda y:=⟨hy.v.sl,hy.v.len⟩
  have HX:=zH hx5
  have HY:=zH hy5
  have HG:=zH hg
  have hxb:zda x≤4294967296:=by omega
  have hyb:zda y≤4294967296:=by omega
  clear hx5 hy5 hg
  by_cases hy0:y=0
  ·have hyz:zda y=0:=zta.2 hy0
   have hfin:x=Nat.gcd m n:=by rw[←HG.out,hy0,Nat.gcd_zero_right]
   have HF:=zH hfin
   clear hfin hy0
   go_wp2
   go_ret2
   exact⟨_,rfl,HF.out▸hx,hbr⟩
  ·have hyz:0<zda y:=by have :zda y≠0:=fun h'=>hy0 (zta.1 h');omega
   have HY0:=zH hy0
   clear hy0
   go_wp2_with (go_at_call 196;(with_reducible refine(zqk _ _ x y _ hx hy HY0.out HX.out).mono ?_);rintro e w3 ⟨q,r,rfl,hq,hr,hbl⟩)
   have hy3:=hy.below hbl
   have hbr3:=hbr.trans (hbl.mono hbr.size)
   go_wp2
   go_roundw
   case rel=>exact⟨y,x%y,hy3,hr,HY.out,Nat.le_trans (zfb (Nat.le_of_lt (Nat.mod_lt _ (Nat.pos_of_ne_zero HY0.out)))) HY.out,by rw[←HG.out,Nat.gcd_comm y,←Nat.gcd_rec,Nat.gcd_comm],hbr3⟩
   case measure=>rw[zwj hr,zwj hy];exact Nat.mod_lt _ (Nat.pos_of_ne_zero HY0.out)
end Go.Proofs.YtlpdkbmmbdfoiaaGreat
namespace Go.Proofs.YtlpdkbmmbdfoiaaGreat
def zgg (l:List Rat):Rat:=l.foldl (· + ·) 0
theorem zgl (l:List Rat) (x:Rat):zgg (l++ [x])=zgg l+x:=by unfold zgg;rw[List.foldl_append];rfl
theorem lsum_take (l:List Rat) (k:Nat) (h:k<l.length):zgg (l.take (k+1))=zgg (l.take k)+l[k]:=by rw[zxc l k h,zgl]
def wt (q:Rat):Nat:=if q.num=0 then 0 else zua q.num.natAbs+if q.den=1 then 0 else zua q.den
def wts (l:List Rat):Nat:=(l.map wt).sum
theorem zmg (x:Rat) (l:List Rat):wts (x::l)=wt x+wts l:=by simp[wts]
theorem zsu (l:List Rat) (x:Rat):wts (l++ [x])=wts l+wt x:=by simp[wts]
theorem wts_take (l:List Rat) (k:Nat) (h:k<l.length):wts (l.take (k+1))=wts (l.take k)+wt l[k]:=by rw[zxc l k h,zsu]
theorem wts_sub {l m:List Rat} (h:l.Sublist m):wts l≤wts m:=by
 induction h with
 | slnil=>exact Nat.le_refl _
 | cons x _ ih=>rw[zmg];omega
 | cons_cons x _ ih=>rw[zmg,zmg];omega
def slim (q:Rat) (k:Nat):Prop:=∃N D:Nat,D≠0∧q=fq false N D∧N+D≤2^k
theorem slim_zero :slim 0 0:=⟨0,1,by decide,by decide,by decide⟩
theorem slim_add {p q:Rat} {j k:Nat} (hp:slim p j) (hq:slim q k):slim (p+q) (j+k):=by
 obtain⟨N,D,h1,rfl,h2⟩:=hp
 obtain⟨n,d,h3,rfl,h4⟩:=hq
 refine⟨N*d+n*D,D*d,Nat.mul_ne_zero h1 h3,zhh _ _ _ _ _ h1 h3,?_⟩
 rw[Nat.pow_add]
 have h5:=Nat.mul_le_mul h2 h4
 rw[Nat.add_mul,Nat.mul_add,Nat.mul_add]at h5
 have e:n*D=D*n:=Nat.mul_comm _ _
 have:=Nat.zero_le (N*n)
 omega
theorem slim_wt (q:Rat) (h:0≤q):slim q (wt q):=by
 refine⟨q.num.natAbs,q.den,q.den_nz,?_,?_⟩
 ·have e:=zvb q
  rw[decide_eq_false (Rat.not_lt.2 h)]at e
  exact e.symm
 ·unfold wt
  have h0:zua q.num.natAbs≤zua q.num.natAbs:=Nat.le_refl _
  have h1:zua q.den≤zua q.den:=Nat.le_refl _
  rw[zwb]at h0 h1
  split
  ·next hz=>
   have e:q=0:=Rat.num_eq_zero.1 hz
   subst e
   decide
  ·split
   ·next hz hd=>simp only[hd,Nat.add_zero];omega
   ·next hz hd=>
    have hn:q.num.natAbs≠0:=by omega
    have hd0:=q.den_nz
    have h2:1<zua q.den:=zse.2 (by omega)
    have h3:0<zua q.num.natAbs:=zld.2 hn
    rw[Nat.pow_add]
    have e1:2^1≤2^zua q.num.natAbs:=Nat.pow_le_pow_right (by decide) h3
    have e2:2^1≤2^zua q.den:=Nat.pow_le_pow_right (by decide) (by omega)
    generalize 2^zua q.num.natAbs=A at *
    generalize 2^zua q.den=B at *
    obtain⟨a,rfl⟩:∃a,A=a+2:=⟨A-2,by omega⟩
    obtain⟨b,rfl⟩:∃b,B=b+2:=⟨B-2,by omega⟩
    have e3:(a+2)*(b+2)=a*b+2*a+2*b+4:=by grind
    rw[e3]
    have:=Nat.zero_le (a*b)
    omega
theorem slim_lsum (l:List Rat) (h:∀q∈l,0≤q):slim (zgg l) (wts l):=by
 have key:∀ (m:List Rat) (s:Rat) (k:Nat),slim s k→(∀q∈m,0≤q)→slim (m.foldl (· + ·) s) (k+wts m):=by
  intro m
  induction m with
  | nil=>intro s k hs _;exact hs
  | cons x m ih=>
    intro s k hs hm
    rw[List.foldl_cons,zmg,←Nat.add_assoc]
    exact ih _ _ (slim_add hs (slim_wt x (hm x (by simp)))) (fun q hq=>hm q (by simp[hq]))
 have:=key l 0 0 slim_zero h
 rwa[Nat.zero_add]at this
theorem zre {n k:Nat} (h:n<2^k):zua n≤k:=zwb.2 h
theorem slim_fits {q:Rat} {k:Nat} (h:slim q k) (hk:k≤4095):fits q:=by
 obtain⟨N,D,h1,rfl,h3⟩:=h
 have h5:2^k<2^(k+1):=Nat.pow_lt_pow_right (by decide) (Nat.lt_succ_self k)
 have h6:k+1≤4096:=by omega
 refine⟨?_,?_⟩
 ·rw[zif _ _ _ h1]
  exact Nat.le_trans (zre (Nat.lt_of_le_of_lt (Nat.div_le_self _ _) (Nat.lt_of_le_of_lt (Nat.le_trans (Nat.le_add_right N D) h3) h5))) h6
 ·rw[zsm _ _ _ h1]
  exact Nat.le_trans (zre (Nat.lt_of_le_of_lt (Nat.div_le_self _ _) (Nat.lt_of_le_of_lt (Nat.le_trans (Nat.le_add_left D N) h3) h5))) h6
theorem lsum_fits {l m:List Rat} (hs:l.Sublist m) (h:∀q∈m,0≤q) (hw:wts m≤3800):fits (zgg l):=
 slim_fits (slim_lsum l (fun q hq=>h q (hs.subset hq))) (by have:=wts_sub hs;omega)
end Go.Proofs.YtlpdkbmmbdfoiaaGreat
namespace Go.Proofs.YtlpdkbmmbdfoiaaGreat
open Go.RowKit
@[go_sem] theorem ptr_off1 (v : Value) (k : Nat) : (⟨(ptr v k).block, (ptr v k).off + 1, none⟩ : Addr) = ptr v (k + 1) := by rw [← ptr_add]; simp [Addr.add]
@[go_sem] theorem ptr_off2 (v : Value) (k : Nat) : (⟨(ptr v k).block, (ptr v k).off + 2, none⟩ : Addr) = ptr v (k + 2) := by rw [← ptr_add]; simp [Addr.add]
structure RF where
 neg:Bool
 n:Nat
 d:Nat
def RF.q (x:RF):Rat:=fq x.neg x.n x.d
def RF.ok (x:RF):Prop:=okN x.n x.d
instance (x :RF):Decidable x.ok:=inferInstanceAs (Decidable (okN _ _))
def RF.of (q:Rat):RF:=⟨decide (q<0),q.num.natAbs,q.den⟩
theorem RF.of_q (q:Rat):(RF.of q).q=q:=zvb q
theorem RF.of_ok {q:Rat} (h:fits q):(RF.of q).ok:=⟨q.den_nz,h.2,h.1⟩
def FracAt (w:World) (v:Value) (k:Nat) (x:RF):Prop:=
 ∃a b,w.cell? (ptr v k)=some (.bool x.neg)∧w.cell? (ptr v (k+1))=some a∧w.cell? (ptr v (k+2))=some b∧zob w a x.n∧zob w b x.d
theorem zba {w w':World} (hb:Below w.heap.size w w') {p:Addr} {x:Value} (h:w.cell? p=some x):w'.cell? p=some x:=by
 have hlt:=World.block_lt_of_cell? w _ h
 rw[hb.cell hlt];exact h
theorem FracAt.below {w w':World} {v:Value} {k:Nat} {x:RF} (h:FracAt w v k x) (hb:Below w.heap.size w w'):FracAt w' v k x:=by
 obtain⟨a,b,h1,h2,h3,h4,h5⟩:=h
 exact⟨a,b,zba hb h1,zba hb h2,zba hb h3,h4.below hb,h5.below hb⟩
structure zni (w:World) (v:Value) (l:List RF):Prop where
 sl:zgc v
 len:slen v=l.length
 at':∀ (j:Nat) (h:j<l.length),FracAt w v (j*3) l[j]
theorem zni.below {w w':World} {v:Value} {l:List RF} (h:zni w v l) (hb:Below w.heap.size w w'):zni w' v l:=
 ⟨h.sl,h.len,fun j hj=>(h.at' j hj).below hb⟩
theorem zni.nil (w:World):zni w (.slice none 0 0) []:=⟨zgc.nil,rfl,fun j h=>by simp at h⟩
structure zbb (w:World) (v:Value) (qs:List Rat):Prop where
 sl:zgc v
 len:slen v=qs.length
 at':∀ (j:Nat) (h:j<qs.length),∃a b,w.cell? (ptr v (j*3))=some (.bool (decide (qs[j]<0)))∧w.cell? (ptr v (j*3+1))=some a∧w.cell? (ptr v (j*3+2))=some b∧zjb w a qs[j].num.natAbs∧zjb w b qs[j].den
theorem zbb.below {w w':World} {v:Value} {l:List Rat} (h:zbb w v l) (hb:Below w.heap.size w w'):zbb w' v l:=
 ⟨h.sl,h.len,fun j hj=>by
  obtain⟨a,b,h1,h2,h3,h4,h5⟩:=h.at' j hj
  exact⟨a,b,zba hb h1,zba hb h2,zba hb h3,h4.below hb,h5.below hb⟩⟩
theorem zbb.raw {w:World} {v:Value} {qs:List Rat} (h:zbb w v qs):zni w v (qs.map RF.of):=
 ⟨h.sl,by rw[h.len,List.length_map],fun j hj=>by
  obtain⟨a,b,h1,h2,h3,h4,h5⟩:=h.at' j (by simpa using hj)
  rw[List.getElem_map]
  exact⟨a,b,h1,h2,h3,h4.nat,h5.nat⟩⟩
structure zhc (w:World) (v:Value) (l:List Value):Prop where
 sl:zgc v
 len:slen v=l.length
 cell:∀ (j:Nat) (h:j<l.length),w.cell? (ptr v j)=some l[j]
theorem zhc.below {w w':World} {v:Value} {l:List Value} (h:zhc w v l) (hb:Below w.heap.size w w'):zhc w' v l:=
 ⟨h.sl,h.len,fun j hj=>zba hb (h.cell j hj)⟩
def zcm (w:World) (v:Value) (l:List Bool):Prop:=zhc w v (l.map Value.bool)
def zgv (w:World) (v:Value) (l:List Int):Prop:=zhc w v (l.map (Value.int .i64))
theorem zcm.below {w w':World} {v:Value} {l:List Bool} (h:zcm w v l) (hb:Below w.heap.size w w'):zcm w' v l:=zhc.below h hb
theorem zgv.below {w w':World} {v:Value} {l:List Int} (h:zgv w v l) (hb:Below w.heap.size w w'):zgv w' v l:=zhc.below h hb
theorem zcm.at' {w:World} {v:Value} {l:List Bool} (h:zcm w v l) (j:Nat) (hj:j<l.length):w.cell? (ptr v j)=some (.bool l[j]):=by
 have:=h.cell j (by simpa using hj);simpa using this
theorem zgv.at' {w:World} {v:Value} {l:List Int} (h:zgv w v l) (j:Nat) (hj:j<l.length):w.cell? (ptr v j)=some (.int .i64 l[j]):=by
 have:=h.cell j (by simpa using hj);simpa using this
theorem zcm.len {w:World} {v:Value} {l:List Bool} (h:zcm w v l):slen v=l.length:=by have:=zhc.len h;simpa using this
structure MatN (w:World) (v:Value) (m:List (List RF)):Prop where
 sl:zgc v
 len:slen v=m.length
 at':∀ (j:Nat) (h:j<m.length),∃r,w.cell? (ptr v j)=some r∧zni w r m[j]
theorem MatN.below {w w':World} {v:Value} {m:List (List RF)} (h:MatN w v m) (hb:Below w.heap.size w w'):MatN w' v m:=
 ⟨h.sl,h.len,fun j hj=>by obtain⟨r,h1,h2⟩:=h.at' j hj;exact⟨r,zba hb h1,h2.below hb⟩⟩
structure RC where
 rates:List (List RF)
 start:List RF
 lost:List Bool
def zdq (w:World) (v:Value) (c:RC):Prop:=∃r s l,v= .agg #[r,s,l]∧MatN w r c.rates∧zni w s c.start∧zcm w l c.lost
theorem zdq.below {w w':World} {v:Value} {c:RC} (h:zdq w v c) (hb:Below w.heap.size w w'):zdq w' v c:=by
 obtain⟨r,s,l,rfl,h1,h2,h3⟩:=h;exact⟨r,s,l,rfl,h1.below hb,h2.below hb,h3.below hb⟩
def qs (l:List RF):List Rat:=l.map RF.q
theorem zgq (l:List RF):(qs l).length=l.length:=by simp[qs]
theorem qs_take (l:List RF) (k:Nat):(qs l).take k=qs (l.take k):=by unfold qs;rw[List.map_take]
theorem zqt (l:List RF) (k:Nat) (h:k<l.length):(qs l)[k]'(by rw[zgq];exact h)=l[k].q:=by simp[qs]
theorem lsum_qs (l:List RF) (k:Nat) (h:k<l.length):zgg (qs (l.take (k+1)))=zgg (qs (l.take k))+l[k].q:=by
 rw[zxc l k h];unfold qs;rw[List.map_append];exact zgl _ _
theorem make_one (w:World):Calls Tryz.prog 187 #[.int .u64 1] w (RNat w 1):=zxj 1 (by decide) w
theorem C3.frac {w:World} {v0 v1 v2:Value} {q:Rat} (h:zqa w (.agg #[v0,v1,v2]) q):∃s a1 l1 k1 a2 l2 k2,v0= .bool s∧v1= .slice a1 l1 k1∧v2= .slice a2 l2 k2:=by
 obtain⟨s,x,y,e,⟨a1,l1,k1,rfl,_⟩,⟨a2,l2,k2,rfl,_⟩⟩:=h.isF
 injection e with e
 injection e with e
 simp at e
 exact⟨s,a1,l1,k1,a2,l2,k2,e.1,e.2.1,e.2.2⟩
theorem C3.set_other {w:World} {b b':Nat} {v0 v1 v2:Value} (h:C3 w b v0 v1 v2) (hb:b≠b') (u0 u1 u2:Value):C3 (((w.setCell ⟨b',0,none⟩ u0).setCell ⟨b',1,none⟩ u1).setCell ⟨b',2,none⟩ u2) b v0 v1 v2:=by
 obtain⟨lt,c0,c1,c2,f0,f1,f2⟩:=h
 refine⟨by simpa [World.setCell]using lt,?_,?_,?_,?_,?_,?_⟩<;>go_simp
theorem zuc {q:Rat} (h:fits q):okN q.num.natAbs q.den:=⟨q.den_nz,h.2,h.1⟩
set_option maxHeartbeats 1600000 in
theorem sum_frac (va:Value) (l:List RF) (w:World) (ha:zni w va l) (hok:∀x∈l,x.ok) (hfit:∀k,k≤l.length→fits (zgg (qs (l.take k)))):
 Calls Tryz.prog 137 #[va] w fun e w'=>∃v,e= .returned (.tuple #[v, .int .i64 0])∧zqa w' v (zgg (qs l))∧Below w.heap.size w w':=by
 have sa:=ha.sl
 have la:=ha.len
 have hle:=sa.le
 rw[la]at hle
 have hlb:l.length≤9223372036854775807:=by omega
 have HOK:=zH hok
 have HFIT:=zH hfit
 clear hok hfit hle
 go_enter Tryz.func137,Tryz.ntmps137
 go_wp2_with (go_at_call 187;(with_reducible refine(make_one _).mono ?_);rintro e w1 ⟨r1,rfl,hr1,hb1⟩;obtain⟨a1,l1,k1,rfl,_⟩:=hr1.v.sl)
 have hb0:=(zca w (.cells #[.bool false, .slice none 0 0, .slice none 0 0] 38))
 have hbw:=zaa hb0 hb1
 have hr:=(C3.new w 38 _ _ _).belowS hb1
 have hlt:w.heap.size<w1.heap.size:=hr.lt
 have hr2:=hr.allocS (.cells #[.bool false, .slice none 0 0, .slice a1 l1 k1] 38)
 have hs2:=C3.new w1 38 (.bool false) (.slice none 0 0) (.slice a1 l1 k1)
 have hb2:=zaa hbw (zca w1 (.cells #[.bool false, .slice none 0 0, .slice a1 l1 k1] 38))
 have hf2:zqa (w1.alloc (.cells #[.bool false, .slice none 0 0, .slice a1 l1 k1] 38)) (.agg #[.bool false, .slice none 0 0, .slice a1 l1 k1]) 0:=⟨_,_,rfl,zjb.nil _,hr1.below (zca _ _)⟩
 generalize w1.alloc (.cells #[.bool false, .slice none 0 0, .slice a1 l1 k1] 38)=W1 at *
 generalize w1.heap.size=S at *
 clear hb0 hb1 hbw hr hr1
 go_loopw [13] (fun u13 wr=>∃ (k:Nat) (v0 v1 v2:Value),k≤l.length∧u13= .int .i64 k∧C3 wr S v0 v1 v2∧zqa wr (.agg #[v0,v1,v2]) (zgg (qs (l.take k)))∧C3 wr w.heap.size (.bool false) (.slice none 0 0) (.slice none 0 0)∧Below w.heap.size w wr) (fun u13 _=>l.length- (intOf u13).toNat)
 case atStart=>exact⟨0,_,_,_,Nat.zero_le _,rfl,hs2,hf2,hr2,hb2⟩
 case round=>
  obtain⟨k,v0,v1,v2,hk,rfl,hs,hf,hr,hb⟩:=hrel
  clear hs2 hf2 hr2 hb2
  obtain⟨s0,b1,m1,j1,b2,m2,j2,rfl,rfl,rfl⟩:=C3.frac hf
  have HS:=zH hs
  have HR:=zH hr
  have HF:=zH hf
  obtain⟨_,s1,s2,s3,s4,s5,s6⟩:=hs
  obtain⟨_,q1,q2,q3,q4,q5,q6⟩:=hr
  clear hf
  by_cases hkl:k<l.length
  ·obtain⟨xa,xb,c1,c2,c3,hxa,hxb⟩:=(ha.below hb).at' k hkl
   obtain⟨c1a,c1l,c1k,rfl,_⟩:=hxa.slen.1
   obtain⟨c2a,c2l,c2k,rfl,_⟩:=hxb.slen.1
   have hA:zdc (wr.alloc (.cells #[.bool l[k].neg, .slice c1a c1l c1k, .slice c2a c2l c2k] 38)) (.agg #[.bool l[k].neg, .slice c1a c1l c1k, .slice c2a c2l c2k]) l[k].neg l[k].n l[k].d:=⟨_,_,rfl,hxa.below (zca _ _),hxb.below (zca _ _)⟩
   have hB:=(HF.out.raw).below (zca wr (.cells #[.bool l[k].neg, .slice c1a c1l c1k, .slice c2a c2l c2k] 38))
   have hs1:=HS.out.allocS (.cells #[.bool l[k].neg, .slice c1a c1l c1k, .slice c2a c2l c2k] 38)
   have hr1:=HR.out.allocS (.cells #[.bool l[k].neg, .slice c1a c1l c1k, .slice c2a c2l c2k] 38)
   have hb1:=zaa hb (zca wr (.cells #[.bool l[k].neg, .slice c1a c1l c1k, .slice c2a c2l c2k] 38))
   have HO:Hid (okN l[k].n l[k].d):=zH (HOK.out l[k] (List.getElem_mem hkl))
   have HQ:=zH (zuc (HFIT.out k hk))
   have HE:Hid (fq (decide (zgg (qs (l.take k))<0)) (zgg (qs (l.take k))).num.natAbs (zgg (qs (l.take k))).den+fq l[k].neg l[k].n l[k].d=zgg (qs (l.take (k+1)))):=zH (by rw[zvb,lsum_qs l k hkl];rfl)
   have HF1:=zH (HFIT.out (k+1) hkl)
   clear hb hxa hxb
   go_wp2_with (go_at_call 80;(with_reducible refine(zco _ _ _ _ _ _ _ _ _ hB hA HQ.out HO.out).mono ?_);rw[HE.out];rintro e w7 ⟨v,er,rfl,hb7,hv7,_⟩
                obtain⟨rfl,hv8⟩:=hv7 HF1.out
                obtain⟨t9,x9,y9,rfl,⟨a1,l91,k1,rfl,_⟩,⟨a2,l92,k2,rfl,_⟩⟩:=hv8.isF
                have hs8:=(hs1.belowS hb7).allocS (.cells #[.bool t9, .slice a1 l91 k1, .slice a2 l92 k2] 38)
                have hr8:=(hr1.belowS hb7).allocS (.cells #[.bool t9, .slice a1 l91 k1, .slice a2 l92 k2] 38)
                have hb8:=zaa (zaa hb1 hb7) (zca w7 (.cells #[.bool t9, .slice a1 l91 k1, .slice a2 l92 k2] 38))
                have hv9:=hv8.below (zca w7 (.cells #[.bool t9, .slice a1 l91 k1, .slice a2 l92 k2] 38))
                have HS8:=zH hs8
                obtain⟨_,d1,d2,d3,d4,d5,d6⟩:=hs8)
   go_roundw
   case rel=>exact⟨k+1,_,_,_,hkl,by go_num,HS8.out.set _ _ _,hv9.set3 HS8.out (fun z=>by simp) (fun z=>by simp) _ _ _,hr8.set_other (by omega) _ _ _,zga hb8 (by omega) _ _ _⟩
   case measure=>simp[intOf];omega
  ·obtain rfl:k=l.length:=by omega
   have HF2:Hid (zqa wr (.agg #[.bool s0, .slice b1 m1 j1, .slice b2 m2 j2]) (zgg (qs l))):=zH (by have h5:=HF.out;rw[List.take_length]at h5;exact h5)
   clear HF
   go_wp2
   refine zoa rfl rfl Tryz.aggF Tryz.sizeF (HR.out.set _ _ _) rfl ?_
   exact⟨_,rfl,HF2.out.set3 HR.out (fun z=>by simp) (fun z=>by simp) _ _ _,zga hb (Nat.le_refl _) _ _ _⟩
end Go.Proofs.YtlpdkbmmbdfoiaaGreat
namespace Go.Proofs.YtlpdkbmmbdfoiaaGreat
theorem znn (a:Int) (b:Nat) (hb:b≠0):mkRat a b<0↔a<0:=by
 have e:mkRat a b=fq (decide (a<0)) a.natAbs b:=by
  unfold fq sgn
  congr 1
  by_cases h:a<0
  ·rw[if_pos (decide_eq_true h)];omega
  ·rw[decide_eq_false h];simp;omega
 have h:=zqu (decide (a<0)) a.natAbs b hb
 rw[e]
 by_cases h0:a<0
 ·rw[decide_eq_true h0]at h ⊢
  have hg:0<a.natAbs/Nat.gcd a.natAbs b:=Nat.div_pos (Nat.le_of_dvd (by omega) (Nat.gcd_dvd_left _ _)) (Nat.gcd_pos_of_pos_left _ (by omega))
  rw[decide_eq_true hg]at h
  simp only[Bool.and_self,decide_eq_true_eq]at h
  exact⟨fun _=>h0,fun _=>h⟩
 ·rw[decide_eq_false h0]at h ⊢
  simp only[Bool.false_and,decide_eq_false_iff_not]at h
  exact⟨fun h'=>absurd h' h,fun h'=>absurd h' h0⟩
theorem fq_lt (s t:Bool) (n d m e:Nat) (hd:d≠0) (he:e≠0):fq s n d<fq t m e↔sgn s (n*e)<sgn t (m*d):=by
 have h1:fq s n d<fq t m e↔fq s n d-fq t m e<0:=by
  rw[Rat.lt_iff_sub_pos,Rat.lt_iff_sub_pos (fq s n d-fq t m e)]
  have :(0:Rat)- (fq s n d-fq t m e)=fq t m e-fq s n d:=by grind
  rw[this]
 have h2: -fq t m e=fq (!t) m e:=by
  unfold fq
  rw[Rat.neg_mkRat]
  congr 1
  unfold sgn;cases t<;>simp
 rw[h1,Rat.sub_eq_add_neg,h2,fq_add _ _ _ _ _ _ hd he,znn _ _ (Nat.mul_ne_zero hd he)]
 have h3:sgn (!t) (m*d)= -sgn t (m*d):=by unfold sgn;cases t<;>simp
 rw[h3]
 omega
def zsr (p q:Rat):Int:=if p<q then -1 else if q<p then 1 else 0
theorem cmpR_eq (s t:Bool) (n d m e:Nat) (hd:d≠0) (he:e≠0):
 zsr (fq s n d) (fq t m e)=if s&& !decide (n=0)&&(t&& !decide (m=0))then -zfj (n*e) (m*d)else if s&& !decide (n=0)then -1 else if t&& !decide (m=0)then 1 else zfj (n*e) (m*d):=by
 have hA:n*e=0↔n=0:=by rw[Nat.mul_eq_zero];exact⟨fun h=>h.resolve_right he,Or.inl⟩
 have hB:m*d=0↔m=0:=by rw[Nat.mul_eq_zero];exact⟨fun h=>h.resolve_right hd,Or.inl⟩
 have h1:=fq_lt s t n d m e hd he
 have h2:=fq_lt t s m e n d he hd
 have e1:zsr (fq s n d) (fq t m e)=if sgn s (n*e)<sgn t (m*d)then -1 else if sgn t (m*d)<sgn s (n*e)then 1 else 0:=by
  unfold zsr
  simp only[h1,h2]
 rw[e1]
 clear e1 h1 h2
 generalize n*e=A at *
 generalize m*d=B at *
 unfold zfj sgn
 have c1:decide (n=0)=decide (A=0):=by simp only[hA]
 have c2:decide (m=0)=decide (B=0):=by simp only[hB]
 rw[c1,c2]
 clear c1 c2 hA hB
 by_cases hA:A=0<;>by_cases hB:B=0<;>cases s<;>cases t<;>simp[hA,hB]<;>(repeat' split)<;>omega
end Go.Proofs.YtlpdkbmmbdfoiaaGreat
namespace Go.Proofs.YtlpdkbmmbdfoiaaGreat
open Go.RowKit
theorem fits_ok (s:Bool) {n d:Nat} (h:okN n d):fits (fq s n d):=by
 rw[zll s n d h.1]
 exact⟨Nat.le_trans (znm (Nat.div_le_self _ _)) h.2.2,Nat.le_trans (znm (Nat.div_le_self _ _)) h.2.1⟩
def RRed (w0:World) (s:Bool) (n d:Nat) (e:Ending) (w:World):Prop:=
 ∃v er,e= .returned (.tuple #[v, .int .i64 er])∧Below w0.heap.size w0 w∧(okN n d→er=0∧zqa w v (fq s n d))∧(¬okN n d→er=1∧v=zeroF)
theorem zys (v:Value) (s:Bool) (n d:Nat) (w:World) (h:zdc w v s n d) (hk:¬okN n d):
 Calls Tryz.prog 79 #[v] w fun e w'=>e= .returned (.bool false)∧Below w.heap.size w w':=
 (valid_any v s n d w h).mono fun e w' ⟨h1,h2⟩=>⟨by rw[h1,decide_eq_false hk],h2⟩
theorem zcf (w:World) (t:TypeId) (x0 x1 x2 y0 y1 y2:Value) (W:World)
 (hW:W=(w.alloc (.cells #[x0,x1,x2] t)).alloc (.cells #[y0,y1,y2] t)):
 C3 W w.heap.size x0 x1 x2∧C3 W (w.heap.size+1) y0 y1 y2∧Below w.heap.size w W:=by
 subst hW
 have e1:(w.alloc (.cells #[x0,x1,x2] t)).heap.size=w.heap.size+1:=by show(w.heap.push _).size=_;simp
 refine⟨(C3.new w t x0 x1 x2).allocS _,?_,?_⟩
 ·rw[←e1];exact C3.new _ t y0 y1 y2
 ·exact(zca w _).trans ((zca _ _).mono (zca w _).size)
set_option maxHeartbeats 1600000 in
theorem zef (va:Value) (s:Bool) (n d:Nat) (w:World) (ha:zdc w va s n d):
 Calls Tryz.prog 89 #[va] w (RRed w s n d):=by
 have hA:=ha
 obtain⟨xn,xd,rfl,hxn,hxd⟩:=ha
 obtain⟨an,ln,kn,rfl,_⟩:=hxn.slen.1
 obtain⟨ad,ld,kd,rfl,_⟩:=hxd.slen.1
 go_enter Tryz.func89,Tryz.ntmps89
 go_wp2_with fail
 obtain⟨W,hW⟩:∃W,W=((w.alloc (.cells #[.bool s, .slice an ln kn, .slice ad ld kd] 38)).alloc (.cells #[.bool false, .slice none 0 0, .slice none 0 0] 38)):=⟨_,rfl⟩
 obtain⟨bx,bz,hbw⟩:=zcf w 38 _ _ _ _ _ _ W hW
 rw[←hW]
 clear hW
 have HBX:=zH bx
 have HBZ:=zH bz
 obtain⟨_,q1,q2,q3,q4,q5,q6⟩:=bx
 clear bz
 by_cases hk:okN n d
 ·have K:=zH hk
  have NN:=zH (Nat.le_trans (zgd (n:=n) (k:=128) hk.2.2) (show 128≤512 by decide))
  have ND:=zH (Nat.le_trans (zgd (n:=d) (k:=128) hk.2.1) (show 128≤512 by decide))
  have FT:=zH (fits_ok s hk)
  have D0:=zH hk.1
  clear hk
  go_wp2_with (first
   |(go_at_call 79;(with_reducible refine(zrd _ s n d _ (hA.below hbw) K.out).mono ?_);rintro e9 w1 ⟨rfl,hv1⟩
     obtain⟨_,f1,f2,f3,f4,f5,f6⟩:=HBX.out.belowS hv1
     have hbw1:=zaa hbw hv1)
   |(go_at_call 142;(with_reducible refine(zub s _ _ n d _ (hxn.below hbw1) (hxd.below hbw1) D0.out NN.out ND.out).mono ?_);rintro e9 w7 ⟨v,er7,rfl,hv5,hv2,hv3⟩
     have hv4:=hv2 FT.out
     obtain⟨t9,x9,y9,rfl,⟨a1,l91,k1,rfl,_⟩,⟨a2,l92,k2,rfl,_⟩⟩:=zpb (w0:=w) hv2 hv3
     have hC:=(HBZ.out.belowS hv1).belowS hv5
     have HC:=zH hC
     have hbz:=zaa hbw1 hv5
     obtain⟨_,d0,d1,d2,e0,e1,e2⟩:=hC))
  refine zoa rfl rfl Tryz.aggF Tryz.sizeF (HC.out.set _ _ _) rfl ?_
  exact⟨_,_,rfl,zga hbz (by omega) _ _ _,fun h=>⟨rfl,hv4.2.set3 HC.out (fun z=>by simp) (fun z=>by simp) _ _ _⟩,fun h=>absurd K.out h⟩
 ·have K:=zH hk
  clear hk
  go_wp2_with (first
   |(go_at_call 79;(with_reducible refine(zys _ s n d _ (hA.below hbw) K.out).mono ?_);rintro e9 w1 ⟨rfl,hv1⟩
     have hC:=HBZ.out.belowS hv1
     have HC:=zH hC
     have hbz:=zaa hbw hv1
     obtain⟨_,d0,d1,d2,e0,e1,e2⟩:=hC))
  refine zoa rfl rfl Tryz.aggF Tryz.sizeF (HC.out.set _ _ _) rfl ?_
  exact⟨_,_,rfl,zga hbz (by omega) _ _ _,fun h=>absurd h K.out,fun _=>⟨rfl,rfl⟩⟩
theorem zxa {P:Program} {ops:Array Oper} {o:Oper} {a:Act} {w:World} {K:Act→World→Prop} {Q:Exit→Act→World→Prop} {E:Prop} (f:FuncId) (argv:Array Value) (hg:Region.wanted o (yielded ops a.tmps)=true)
 (hrun:(execOp a.eval o).run P w= .ok (.enter f argv) w) {R:Ending→World→Prop} (hc:Calls P f argv w R) (h:∀e w',R e w'→∃v,e= .returned v∧K (a.put o.dst v) w'):
 if Region.wanted o (yielded ops a.tmps)=true then Oper.wp P o a w K Q else E:=by
 rw[if_pos hg]
 unfold Oper.wp
 rw[hrun,Oper.upon_enter]
 refine hc.mono fun e w' hr=> ?_
 obtain⟨v,rfl,hk⟩:=h e w' hr
 exact hk
def zqb (w:World) (e:TypeId) (B:Nat) (v:Value) (n:Nat):Prop:=
 ∃g cs,v= .slice (some ⟨g,0,none⟩) n n∧w.ownsRow B e 3 v n cs∧∀c∈cs,∀z,c≠ .int .u32 z
section
variable {w:World} {e:TypeId} {B n:Nat} {v:Value}
theorem zqb.ptr (h:zqb w e B v n):∃g,∀k,Go.Proofs.YtlpdkbmmbdfoiaaGreat.ptr v k=⟨g,k,none⟩:=by
 obtain⟨g,cs,rfl,_⟩:=h
 exact⟨g,fun k=>by simp only[Go.Proofs.YtlpdkbmmbdfoiaaGreat.ptr,base,Addr.add_lit,Nat.zero_add]⟩
theorem zqb.inj (h:zqb w e B v n) {i j:Nat} (hij:i≠j):Go.Proofs.YtlpdkbmmbdfoiaaGreat.ptr v i≠Go.Proofs.YtlpdkbmmbdfoiaaGreat.ptr v j:=by
 obtain⟨g,hg⟩:=h.ptr
 rw[hg,hg]
 intro h;injection h with h1 h2;exact hij h2
theorem zqb.sl (h:zqb w e B v n):zgc v:=by
 obtain⟨g,cs,rfl,h1,_⟩:=h
 rcases h1.2 with⟨h',_⟩ | ⟨g',cap,cur,h',_,_,h2,h3,_⟩
 ·cases h'
 ·injection h' with h4 h5 h6
  subst h6
  exact⟨_,_,_,rfl,h2,h3,fun e=>by cases e⟩
theorem zqb.len (h:zqb w e B v n):slen v=n:=by obtain⟨g,cs,rfl,_⟩:=h;rfl
theorem zqb.cell (h:zqb w e B v n) (j:Nat) (hj:j<n*3):∃x,w.cell? (Go.Proofs.YtlpdkbmmbdfoiaaGreat.ptr v j)=some x∧∀z,x≠ .int .u32 z:=by
 obtain⟨g,cs,rfl,h1,h2⟩:=h
 have hl:cs.length=n*3:=h1.1
 have:=World.ownsRow.cellAt h1 j hj
 rw[List.getElem?_eq_getElem (by omega)]at this
 refine⟨cs[j]'(by omega),?_,h2 _ (List.getElem_mem _)⟩
 simpa only[Go.Proofs.YtlpdkbmmbdfoiaaGreat.ptr,base,Addr.add_lit,Nat.zero_add]using this
theorem zqb.frozen (h:zqb w e B v n) (j:Nat):w.frozen? (Go.Proofs.YtlpdkbmmbdfoiaaGreat.ptr v j)=false:=by
 obtain⟨g,cs,rfl,h1,h2⟩:=h
 have:=World.ownsRow.frozenAt h1 j
 simpa only[Go.Proofs.YtlpdkbmmbdfoiaaGreat.ptr,base,Addr.add_lit,Nat.zero_add]using this
theorem zqb.block (h:zqb w e B v n):B≤(base v).block∧(base v).block<w.heap.size:=by
 obtain⟨g,cs,rfl,h1,h2⟩:=h
 rcases h1.2 with⟨h',_⟩ | ⟨g',cap,cur,h',hb,hg,_⟩
 ·cases h'
 ·injection h' with h4
  injection h4 with h4
  injection h4 with h4
  subst h4
  exact⟨hb,(Array.getElem?_eq_some_iff.1 hg).1⟩
theorem zqb.below {w':World} (h:zqb w e B v n) (hb:Below w.heap.size w w'):zqb w' e B v n:=by
 obtain⟨g,cs,rfl,h1,h2⟩:=h
 exact⟨g,cs,rfl,World.ownsRow.kept h1 (zze hb) (Or.inr (by simp[Value.ownBlock])),h2⟩
theorem zqb.set (h:zqb w e B v n) (j:Nat) (u:Value) (hu:∀z,u≠ .int .u32 z):zqb (w.setCell (Go.Proofs.YtlpdkbmmbdfoiaaGreat.ptr v j) u) e B v n∧Below B w (w.setCell (Go.Proofs.YtlpdkbmmbdfoiaaGreat.ptr v j) u):=by
 have hbl:=h.block
 obtain⟨g,cs,rfl,h1,h2⟩:=h
 have hs:=World.ownsRow.stored h1 j u
 have hp:Go.Proofs.YtlpdkbmmbdfoiaaGreat.ptr (.slice (some ⟨g,0,none⟩) n n) j=⟨g,j,none⟩:=by simp only[Go.Proofs.YtlpdkbmmbdfoiaaGreat.ptr,base,Addr.add_lit,Nat.zero_add]
 rw[hp]
 refine⟨⟨g,_,rfl,hs.1,fun c hc=> ?_⟩,zna hs.2 (by simp only[base]at hbl;omega) (fun k hk=>by simp[base]at hbl hk;omega)⟩
 rcases List.mem_or_eq_of_mem_set hc with h' | h'
 ·exact h2 c h'
 ·subst h';exact hu
def zlg (w:World) (v:Value) (j:Nat) (q:Rat):Prop:=
 ∃a b,w.cell? (Go.Proofs.YtlpdkbmmbdfoiaaGreat.ptr v (j*3))=some (.bool (decide (q<0)))∧w.cell? (Go.Proofs.YtlpdkbmmbdfoiaaGreat.ptr v (j*3+1))=some a∧w.cell? (Go.Proofs.YtlpdkbmmbdfoiaaGreat.ptr v (j*3+2))=some b∧zjb w a q.num.natAbs∧zjb w b q.den
theorem zlg.below {w':World} {j:Nat} {q:Rat} (h:zlg w v j q) (hb:Below w.heap.size w w'):zlg w' v j q:=by
 obtain⟨a,b,h1,h2,h3,h4,h5⟩:=h
 exact⟨a,b,zba hb h1,zba hb h2,zba hb h3,h4.below hb,h5.below hb⟩
theorem zqb.set3 (h:zqb w e B v n) (i:Nat) (x y z:Value) (hx:∀k,x≠ .int .u32 k) (hy:∀k,y≠ .int .u32 k) (hz:∀k,z≠ .int .u32 k):
 zqb (((w.setCell (Go.Proofs.YtlpdkbmmbdfoiaaGreat.ptr v (i*3)) x).setCell (Go.Proofs.YtlpdkbmmbdfoiaaGreat.ptr v (i*3+1)) y).setCell (Go.Proofs.YtlpdkbmmbdfoiaaGreat.ptr v (i*3+2)) z) e B v n∧
  Below B w (((w.setCell (Go.Proofs.YtlpdkbmmbdfoiaaGreat.ptr v (i*3)) x).setCell (Go.Proofs.YtlpdkbmmbdfoiaaGreat.ptr v (i*3+1)) y).setCell (Go.Proofs.YtlpdkbmmbdfoiaaGreat.ptr v (i*3+2)) z):=by
 have h1:=h.set (i*3) x hx
 have h2:=h1.1.set (i*3+1) y hy
 have h3:=h2.1.set (i*3+2) z hz
 exact⟨h3.1,(h1.2.trans h2.2).trans h3.2⟩
theorem zjb.over1 (h:zqb w e B v n) {x:Value} {m:Nat} (hx:zjb w x m) (j:Nat) (hj:j<n*3) (u:Value):zjb (w.setCell (Go.Proofs.YtlpdkbmmbdfoiaaGreat.ptr v j) u) x m:=by
 obtain⟨c,h1,h2⟩:=h.cell j hj
 exact⟨hx.v.over h1 h2 u,hx.2⟩
theorem zjb.over3 (h:zqb w e B v n) {c:Value} {m:Nat} (hc:zjb w c m) (i:Nat) (hi:i<n) (x y z:Value) (hx:∀k,x≠ .int .u32 k) (hy:∀k,y≠ .int .u32 k):
 zjb (((w.setCell (Go.Proofs.YtlpdkbmmbdfoiaaGreat.ptr v (i*3)) x).setCell (Go.Proofs.YtlpdkbmmbdfoiaaGreat.ptr v (i*3+1)) y).setCell (Go.Proofs.YtlpdkbmmbdfoiaaGreat.ptr v (i*3+2)) z) c m:=by
 have h1:=h.set (i*3) x hx
 have h2:=h1.1.set (i*3+1) y hy
 exact zjb.over1 h2.1 (zjb.over1 h1.1 (zjb.over1 h hc _ (by omega) _) _ (by omega) _) _ (by omega) _
theorem zne (h:zqb w e B v n) (i k:Nat) (hk:k≠i*3) (hk1:k≠i*3+1) (hk2:k≠i*3+2) (x y z:Value):
 (((w.setCell (Go.Proofs.YtlpdkbmmbdfoiaaGreat.ptr v (i*3)) x).setCell (Go.Proofs.YtlpdkbmmbdfoiaaGreat.ptr v (i*3+1)) y).setCell (Go.Proofs.YtlpdkbmmbdfoiaaGreat.ptr v (i*3+2)) z).cell? (Go.Proofs.YtlpdkbmmbdfoiaaGreat.ptr v k)=w.cell? (Go.Proofs.YtlpdkbmmbdfoiaaGreat.ptr v k):=by
 rw[World.cell?_setCell_other _ _ _ _ (h.inj (Ne.symm hk2)),World.cell?_setCell_other _ _ _ _ (h.inj (Ne.symm hk1)),World.cell?_setCell_other _ _ _ _ (h.inj (Ne.symm hk))]
theorem zlg.set3_other (h:zqb w e B v n) {i j:Nat} (hi:i<n) (hij:i≠j) {q:Rat} (hj:zlg w v j q) (x y z:Value) (hx:∀k,x≠ .int .u32 k) (hy:∀k,y≠ .int .u32 k):
 zlg (((w.setCell (Go.Proofs.YtlpdkbmmbdfoiaaGreat.ptr v (i*3)) x).setCell (Go.Proofs.YtlpdkbmmbdfoiaaGreat.ptr v (i*3+1)) y).setCell (Go.Proofs.YtlpdkbmmbdfoiaaGreat.ptr v (i*3+2)) z) v j q:=by
 obtain⟨a,b,h1,h2,h3,h4,h5⟩:=hj
 refine⟨a,b,?_,?_,?_,zjb.over3 h h4 i hi x y z hx hy,zjb.over3 h h5 i hi x y z hx hy⟩
 ·rw[zne h i _ (by omega) (by omega) (by omega)];exact h1
 ·rw[zne h i _ (by omega) (by omega) (by omega)];exact h2
 ·rw[zne h i _ (by omega) (by omega) (by omega)];exact h3
theorem zlg.set3 (h:zqb w e B v n) {i:Nat} (hi:i<n) {q:Rat} {x y z:Value} (hf:zqa w (.agg #[x,y,z]) q):
 zlg (((w.setCell (Go.Proofs.YtlpdkbmmbdfoiaaGreat.ptr v (i*3)) x).setCell (Go.Proofs.YtlpdkbmmbdfoiaaGreat.ptr v (i*3+1)) y).setCell (Go.Proofs.YtlpdkbmmbdfoiaaGreat.ptr v (i*3+2)) z) v i q:=by
 obtain⟨a,b,ha,h4,h5⟩:=hf
 injection ha with ha
 injection ha with ha
 simp only[List.cons.injEq,and_true]at ha
 obtain⟨rfl,rfl,rfl⟩:=ha
 have nx:∀k,Value.bool (decide (q<0))≠ .int .u32 k:=fun k=>by simp
 have ny:∀k,y≠ .int .u32 k:=fun k=>by obtain⟨a1,n1,c1,e1,_⟩:=h4.v.sl;subst e1;simp
 obtain⟨c0,d0,_⟩:=h.cell (i*3) (by omega)
 obtain⟨c1,d1,_⟩:=h.cell (i*3+1) (by omega)
 obtain⟨c2,d2,_⟩:=h.cell (i*3+2) (by omega)
 have n01:=h.inj (show i*3≠i*3+1 by omega)
 have n02:=h.inj (show i*3≠i*3+2 by omega)
 have n12:=h.inj (show i*3+1≠i*3+2 by omega)
 refine⟨y,z,?_,?_,?_,zjb.over3 h h4 i hi _ _ _ nx ny,zjb.over3 h h5 i hi _ _ _ nx ny⟩
 ·rw[World.cell?_setCell_other _ _ _ _ n02.symm,World.cell?_setCell_other _ _ _ _ n01.symm]
  exact World.cell?_setCell_same _ _ _ d0
 ·rw[World.cell?_setCell_other _ _ _ _ n12.symm]
  exact World.cell?_setCell_same _ _ _ (u:=c1) (by rw[World.cell?_setCell_other _ _ _ _ n01];exact d1)
 ·exact World.cell?_setCell_same _ _ _ (u:=c2) (by rw[World.cell?_setCell_other _ _ _ _ n12,World.cell?_setCell_other _ _ _ _ n02];exact d2)
end
theorem zon {P:Program} (t e:TypeId) (i:TypeInfo) (h1:P.underlying t=some (.slice e)) (h2:P.info? e=some i) (h3:i.zero=some (.agg #[.bool false, .slice none 0 0, .slice none 0 0])) (h4:i.size=3) (h5:i.bytes≤64)
 (w:World) {ops:Array Oper} {rest:List Oper} {o:Oper} {a:Act} {Q:Exit→Act→World→Prop} (hg:o.guard=none) (l c:Operand) (hop:o.op=Op.makeSlice t l c)
 (B:Nat) (u:Int) (n:Nat) (hu:u=n) (hl:a.eval l= .int .i64 u) (hc:a.eval c= .int .i64 u) (b2:n≤4398046511104) (b4:B≤w.heap.size)
 (hK:∀v w',zqb w' e B v n→Below w.heap.size w w'→w.heap.size≤(base v).block→wpList P ops Q rest (a.put o.dst v) w'):
 wpList P ops Q (o::rest) a w:=by
 subst hu
 refine wpList_make_full w hg l c t hop B e i _ 3 h1 h2 h3 h4 .i64 .i64 n n n hl hc rfl rfl (Nat.le_trans (Nat.mul_le_mul_right _ h5) (by omega)) (by unfold maxLen;omega) b4 ?_
 intro w' hown hgr
 refine hK _ w' ⟨_,_,rfl,hown,fun x hx z=> ?_⟩ (zna hgr (Nat.le_refl _) (fun k hk=>by cases hk)) (by simp[base])
 have hx2:x∈(madeCells #[Value.bool false, .slice none 0 0, .slice none 0 0] (n*3)).toList:=hx
 unfold madeCells at hx2
 simp only[Array.toList_map,List.mem_map,Array.mem_toList_iff]at hx2
 obtain⟨k,hk,rfl⟩:=hx2
 have h7:k%3<3:=Nat.mod_lt _ (by decide)
 have h8:(#[Value.bool false, .slice none 0 0, .slice none 0 0]:Array Value).size=3:=rfl
 rw[h8]
 rcases(show k%3=0∨k%3=1∨k%3=2 by omega)with h9 | h9 | h9<;>rw[h9]<;>simp
theorem zkl :fits 0:=by decide
theorem zdt :fits 1:=by decide
def RF0 (w0:World) (q:Rat) (e:Ending) (w:World):Prop:=∃v,e= .returned (.tuple #[v, .int .i64 0])∧zqa w v q∧Below w0.heap.size w0 w
def RF1 (w0:World) (q:Rat) (e:Ending) (w:World):Prop:=∃v,e= .returned v∧zqa w v q∧Below w0.heap.size w0 w
theorem zmi.ok {w0:World} {q q':Rat} {e:Ending} {w:World} (h:zmi w0 q e w) (hq:q=q') (hf:fits q'):RF0 w0 q' e w:=by
 subst hq
 obtain⟨v,er,rfl,h1,h2,_⟩:=h
 obtain⟨rfl,h3⟩:=h2 hf
 exact⟨v,rfl,h3,h1⟩
theorem make_01 (w:World):Calls Tryz.prog 67 #[.int .i64 0, .int .i64 1] w (RF0 w 0):=
 (zel 0 1 w (by decide) (by decide) (by decide) (by decide) (by decide)).mono fun _ _ h=>h.ok (by decide) zkl
theorem make_11 (w:World):Calls Tryz.prog 67 #[.int .i64 1, .int .i64 1] w (RF0 w 1):=
 (zel 1 1 w (by decide) (by decide) (by decide) (by decide) (by decide)).mono fun _ _ h=>h.ok (by decide) zdt
theorem zmj {fn:Func} {p:Tmp} {ty:TypeId} (h:fn.results=#[.cell p ty]) (tmps:Array Value) (P:Program) (w:World):
 (results fn tmps).run P w=((asAddr (tmps.getD p undef)).run P w).andThen fun a w=>(loadVar ty a).run P w:=by
 simp[results,h]
theorem zab {P:Program} {fn:Func} {R:Ending→World→Prop} {a:Act} {w:World} {p:Tmp} {ty:TypeId} {b:Nat} {v0 v1 v2:Value} (h:fn.results=#[.cell p ty])
 (hp:a.tmps.getD p undef= .pointer (some ⟨b,0,none⟩)) (hagg:∀w,(isAgg ty).run P w= .ok true w) (hs:∀w,(sizeOf ty).run P w= .ok 3 w) (hc:C3 w b v0 v1 v2) (hd:a.defers= [])
 (hR:R (.returned (.agg #[v0,v1,v2])) w):bodyPost P fn R .ret a w:=by
 refine bodyPost_ret ?_ hd hR
 rw[zmj h,hp]
 simp only[asAddr,Sem.run_pure,Result.andThen_ok,load_c3 hagg hs hc]
theorem Tryz.infoF :(Tryz.prog.info? 38).map (fun i=>(i.zero,i.size,i.bytes))=some (some (.agg #[.bool false, .slice none 0 0, .slice none 0 0]),3,56):=by kernel_rfl
theorem zfa {w w1 w2:World} {B:Nat} (h:Below B w w1) (h':Below w1.heap.size w1 w2) (hB:B≤w1.heap.size:=by exact h.size):Below B w w2:=h.trans (h'.mono hB)
theorem zqb.fracs {w:World} {e:TypeId} {B n:Nat} {v:Value} (h:zqb w e B v n) {l:List Rat} (hl:l.length=n) (he:∀j (hj:j<l.length),zlg w v j l[j]):zbb w v l:=
 ⟨h.sl,by rw[h.len,hl],he⟩
theorem Tryz.infoRow :(Tryz.prog.info? 25).map (fun i=>(i.zero,i.size,i.bytes))=some (some (.slice none 0 0),1,24):=by kernel_rfl
theorem Tryz.infoBool :(Tryz.prog.info? 4).map (fun i=>(i.zero,i.size,i.bytes))=some (some (.bool false),1,1):=by kernel_rfl
theorem Tryz.infoInt :(Tryz.prog.info? 3).map (fun i=>(i.zero,i.size,i.bytes))=some (some (.int .i64 0),1,8):=by kernel_rfl
theorem C3.other {w:World} {b:Nat} {v0 v1 v2:Value} (h:C3 w b v0 v1 v2) (p:Addr) (u:Value) (hp:p.block≠b):C3 (w.setCell p u) b v0 v1 v2:=by
 obtain⟨lt,c0,c1,c2,f0,f1,f2⟩:=h
 have hne:∀k,p≠⟨b,k,none⟩:=fun k e=>hp (by rw[e])
 have hf:∀q,(w.setCell p u).frozen? q=w.frozen? q:=fun q=>by simp
 exact⟨by simpa [World.setCell]using lt,by rw[World.cell?_setCell_other _ _ _ _ (hne _)];exact c0,by rw[World.cell?_setCell_other _ _ _ _ (hne _)];exact c1,by rw[World.cell?_setCell_other _ _ _ _ (hne _)];exact c2,
  by rw[hf];exact f0,by rw[hf];exact f1,by rw[hf];exact f2⟩
theorem C3.set0 {w:World} {b:Nat} {v0 v1 v2:Value} (h:C3 w b v0 v1 v2) (u:Value):C3 (w.setCell ⟨b,0,none⟩ u) b u v1 v2:=by
 obtain⟨lt,c0,c1,c2,f0,f1,f2⟩:=h
 refine⟨by simpa [World.setCell]using lt,?_,?_,?_,?_,?_,?_⟩<;>go_simp
theorem C3.set1 {w:World} {b:Nat} {v0 v1 v2:Value} (h:C3 w b v0 v1 v2) (u:Value):C3 (w.setCell ⟨b,1,none⟩ u) b v0 u v2:=by
 obtain⟨lt,c0,c1,c2,f0,f1,f2⟩:=h
 refine⟨by simpa [World.setCell]using lt,?_,?_,?_,?_,?_,?_⟩<;>go_simp
theorem C3.set2 {w:World} {b:Nat} {v0 v1 v2:Value} (h:C3 w b v0 v1 v2) (u:Value):C3 (w.setCell ⟨b,2,none⟩ u) b v0 v1 u:=by
 obtain⟨lt,c0,c1,c2,f0,f1,f2⟩:=h
 refine⟨by simpa [World.setCell]using lt,?_,?_,?_,?_,?_,?_⟩<;>go_simp
theorem zvo (w:World):w.drew.heap.size=w.heap.size:=rfl
theorem zfk (w:World) (o:Obj):(w.alloc o).heap.size=w.heap.size+1:=by simp
theorem C3.newB {b:Nat} (w:World) (t:TypeId) (v0 v1 v2:Value) (hb:w.heap.size=b):C3 (w.alloc (.cells #[v0,v1,v2] t)) b v0 v1 v2:=by subst hb;exact C3.new w t v0 v1 v2
theorem C3.grownB {w w':World} {b:Nat} {v0 v1 v2:Value} {r:Option Nat} (h:C3 w b v0 v1 v2) (hg:w.grownBy w' r) (hr:r≠some b):C3 w' b v0 v1 v2:=by
 have e:=hg.block b h.lt (fun h=>hr h.symm)
 obtain⟨lt,c0,c1,c2,f0,f1,f2⟩:=h
 have hc:∀k,w'.cell? ⟨b,k,none⟩=w.cell? ⟨b,k,none⟩:=fun k=>by simp[World.cell?,e]
 have hf:∀k,w'.frozen? ⟨b,k,none⟩=w.frozen? ⟨b,k,none⟩:=fun k=>by simp[World.frozen?,e]
 exact⟨Nat.lt_of_lt_of_le lt hg.size,by rw[hc];exact c0,by rw[hc];exact c1,by rw[hc];exact c2,by rw[hf];exact f0,by rw[hf];exact f1,by rw[hf];exact f2⟩
end Go.Proofs.YtlpdkbmmbdfoiaaGreat
