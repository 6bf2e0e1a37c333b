/-
  Single states as blocks: the quotient is the chain. No program is named here.
-/
import Derived.Test.YtlpdkbmmbdfoiaaGreatLSa2
import Derived.Test.YtlpdkbmmbdfoiaaGreatLSz1
import Derived.Lib.SliceRun
set_option linter.unusedVariables false
set_option linter.unusedSimpArgs false
namespace Go.Proofs.YtlpdkbmmbdfoiaaGreat
open Go.RowKit
set_option maxRecDepth 100000 in
set_option maxHeartbeats 1600000 in
theorem znr (va vb:Value) (a b:List Rat) (w:World) (ha:zbb w va a) (hb:zbb w vb b):
 Calls Tryz.prog 23 #[va,vb] w (zyz w (a=b)):=by
 have sa:=ha.sl
 have la:=ha.len
 have sb:=hb.sl
 have lb:=hb.len
 have hle:=sa.le
 have hle2:=sb.le
 rw[la]at hle
 rw[lb]at hle2
 have hlb:a.length≤9223372036854775807:=by omega
 have hlb2:b.length≤9223372036854775807:=by omega
 clear hle hle2
 by_cases hlen:a.length=b.length
 ·skip
  have hL:=zH hlen
  rw[←hlen]at lb
  clear hlen
  go_enter Tryz.func23,Tryz.ntmps23
  go_wp2_with fail
  go_loopw [5] (fun u5 wr=>∃ (k:Nat),k≤a.length∧u5= .int .i64 k∧(∀ (j:Nat) (h1:j<a.length) (h2:j<b.length),j<k→a[j]=b[j])∧Below w.heap.size w wr) (fun u5 _=>a.length- (intOf u5).toNat)
  case atStart=>exact⟨0,Nat.zero_le _,rfl,fun j _ _ h=>by omega,Below.refl _ _⟩
  case round=>
   obtain⟨k,hk,rfl,hst,hbr⟩:=hrel
   have HST:=zH hst
   clear hst
   by_cases hkl:k<a.length
   ·have hkb:k<b.length:=by rw[←hL.out];exact hkl
    have hdr:=zja (B:=wr.heap.size) wr
    have hbd:=zaa hbr hdr
    obtain⟨a1,a2,c1,c2,c3,n1,n2⟩:=(ha.below hbd).at' k hkl
    obtain⟨b1,b2,d1,d2,d3,m1,m2⟩:=(hb.below hbd).at' k hkb
    have i1:(0:Int)≤(k:Int):=by omega
    have i2:(k:Int)<(a.length:Nat):=by omega
    generalize ha':a[k]'hkl=x at *
    generalize hb':b[k]'hkb=y at *
    have HA:=zH ha'
    have HB:=zH hb'
    clear ha' hb'
    have hX:zqa wr.drew (.agg #[.bool (decide (x<0)),a1,a2]) x:=⟨_,_,rfl,n1,n2⟩
    have hY:zqa wr.drew (.agg #[.bool (decide (y<0)),b1,b2]) y:=⟨_,_,rfl,m1,m2⟩
    clear n1 n2 m1 m2
    go_wp2_with fail
    go_region_held3 (fun w'=>w'.cell? (ptr va (k*3))=some (.bool (decide (x<0)))∧w'.cell? (ptr va (k*3+1))=some a1∧w'.cell? (ptr va (k*3+2))=some a2∧w'.cell? (ptr vb (k*3))=some (.bool (decide (y<0)))∧w'.cell? (ptr vb (k*3+1))=some b1∧w'.cell? (ptr vb (k*3+2))=some b2) (exact⟨c1,c2,c3,d1,d2,d3⟩) (first
     |(go_at_call 61;(with_reducible refine(znt _ _ x y _ hX hY).mono ?_);rintro e9 w9 ⟨⟨r9,rfl,h9⟩,hb9⟩
       have c1:=zba hb9 c1
       have c2:=zba hb9 c2
       have c3:=zba hb9 c3
       have d1:=zba hb9 d1
       have d2:=zba hb9 d2
       have d3:=zba hb9 d3))
    clear c1 c2 c3 d1 d2 d3 hX hY
    have hbr2:=zaa hbd hb9
    by_cases hxy:x=y
    ·obtain rfl:r9=true:=h9.2 hxy
     have HST2:Hid (∀ (j:Nat) (h1:j<a.length) (h2:j<b.length),j<k+1→a[j]=b[j]):=zH (fun j h1 h2 h3=>by
      rcases Nat.lt_or_ge j k with h4 | h4
      ·exact HST.out j h1 h2 h4
      ·obtain rfl:j=k:=by omega
       rw[HA.out,HB.out,hxy])
     clear hxy h9
     go_wp2
     go_roundw
     case rel=>exact⟨k+1,by omega,by go_num,HST2.out,hbr2⟩
     case measure=>simp[intOf];omega
    ·obtain rfl:r9=false:=Bool.eq_false_iff.2 (fun h=>hxy (h9.1 h))
     have HXY:=zH hxy
     clear hxy h9
     go_wp2
     go_ret
     exact⟨⟨false,rfl,by simp;intro h;subst h;exact HXY.out (HA.out.symm.trans HB.out)⟩,hbr2⟩
   ·go_wp2_with fail
    go_ret
    refine⟨⟨true,rfl,by simp;exact ztt hL.out (fun j h1 h2=>HST.out j h1 h2 (by omega))⟩,hbr⟩
 ·skip
  have hne:((a.length:Int)==(b.length:Int))=false:=by simp;omega
  go_enter Tryz.func23,Tryz.ntmps23
  go_wp2_with fail
  go_ret
  exact⟨⟨false,rfl,by simp;intro h;exact hlen (by rw[h])⟩,Below.refl _ _⟩
structure MatC (w:World) (v:Value) (m:List (List Rat)):Prop where
 sl:zgc v
 len:slen v=m.length
 at':∀ (j:Nat) (h:j<m.length),∃r,w.cell? (ptr v j)=some r∧zbb w r m[j]
theorem MatC.below {w w':World} {v:Value} {m:List (List Rat)} (h:MatC w v m) (hb:Below w.heap.size w w'):MatC w' v m:=
 ⟨h.sl,h.len,fun j hj=>by obtain⟨r,h1,h2⟩:=h.at' j hj;exact⟨r,zba hb h1,h2.below hb⟩⟩
structure CQ where
 rates:List (List Rat)
 start:List Rat
 lost:List Bool
theorem CQ.ext_iff' {a b:CQ}:a=b↔a.rates=b.rates∧a.start=b.start∧a.lost=b.lost:=by
 cases a;cases b;simp
def zlq (w:World) (v:Value) (c:CQ):Prop:=∃r s l,v= .agg #[r,s,l]∧MatC w r c.rates∧zbb w s c.start∧zcm w l c.lost
theorem zlq.below {w w':World} {v:Value} {c:CQ} (h:zlq w v c) (hb:Below w.heap.size w w'):zlq w' v c:=by
 obtain⟨r,s,l,rfl,h1,h2,h3⟩:=h;exact⟨r,s,l,rfl,h1.below hb,h2.below hb,h3.below hb⟩
def CQ.raw (c:CQ):RC:=⟨c.rates.map fun r=>r.map RF.of,c.start.map RF.of,c.lost⟩
theorem MatC.raw {w:World} {v:Value} {m:List (List Rat)} (h:MatC w v m):zlw w v (m.map fun r=>r.map RF.of):=
 ⟨h.sl,by rw[h.len,List.length_map],fun j hj=>by
  obtain⟨r,h1,h2⟩:=h.at' j (by simpa using hj)
  rw[List.getElem_map]
  exact⟨r,h1,h2.raw⟩⟩
theorem zlq.raw {w:World} {v:Value} {c:CQ} (h:zlq w v c):zdq w v c.raw:=by
 obtain⟨r,s,l,rfl,h1,h2,h3⟩:=h;exact⟨r,s,l,rfl,h1.raw,h2.raw,h3⟩
def zex (c:RC) (bl:List Int):Prop:=
 okB bl∧0<bl.length∧bl.length=c.start.length∧zzp c∧znx bl (fun i=>ztw bl (zaq c i) (cnt bl)) (fun i=>c.lost.getD i false)
set_option maxRecDepth 100000 in
set_option maxHeartbeats 1600000 in
theorem check_early (va vb:Value) (c:RC) (bl:List Int) (w:World) (ha:zdq w va c) (hb:zgv w vb bl) (hn:¬okB bl∨¬0<bl.length∨bl.length≠c.start.length∨¬zzp c):
 Calls Tryz.prog 64 #[va,vb] w (fun e w'=>e= .returned (.bool false)∧Below w.heap.size w w'):=by
 obtain⟨rv,sv,lv,rfl,hr,hs,hl⟩:=id ha
 obtain⟨ra,rn,rk,rfl,r1,r2,r3⟩:=hr.sl
 obtain⟨sa,sn,sk,rfl,s1,s2,s3⟩:=hs.sl
 obtain⟨la,ln,lk,rfl,l1,l2,l3⟩:=zhc.sl hl
 have hsl:sn=c.start.length:=hs.len
 subst hsl
 have sb:=zhc.sl hb
 have lb:=hb.len
 have hle:=sb.le
 rw[lb]at hle
 have hbl2:bl.length≤9223372036854775807:=by omega
 clear hle
 unfold maxLen at s2
 have hbx:=zca w (.cells #[.slice ra rn rk, .slice sa c.start.length sk, .slice la ln lk] 28)
 have hC:=C3.new w 28 (.slice ra rn rk) (.slice sa c.start.length sk) (.slice la ln lk)
 have ha2:=ha.below hbx
 have hb2:=hb.below hbx
 have HN:=zH hn
 have HA:=zH ha2
 clear hn ha2 ha
 have HC:=zH hC
 clear hs
 generalize c.start.length=sn at *
 obtain⟨_,c0,c1,c2,_,_,_⟩:=id hC
 clear hC
 by_cases h1:okB bl∧0<bl.length
 ·obtain⟨h1,h2⟩:=h1
  have H1:=zH h1
  clear h1
  by_cases h3:bl.length=sn
  ·have HV:Hid (¬zzp c):=zH (by
    rcases HN.out with h | h | h | h
    ·exact absurd H1.out h
    ·exact absurd h2 h
    ·exact absurd h3 h
    ·exact h)
   subst h3
   go_enter Tryz.func64,Tryz.ntmps64
   go_wp2_with (first
    |(go_at_call 65;(with_reducible refine(zbx _ bl _ hb2).mono ?_);rintro e1 w1 ⟨n1,b1,rfl,rfl,hc1,_⟩;obtain⟨hn1,hb1⟩:=hc1 H1.out;obtain rfl:b1=true:=hb1.trans (decide_eq_true h2);clear hc1 hb1)
    |(go_at_call 68;(with_reducible refine(zar _ c _ HA.out).mono ?_);rintro e2 w2 ⟨⟨b2,rfl,hv2⟩,hbel2⟩;obtain rfl:b2=false:=Bool.eq_false_iff.2 (fun h=>HV.out (hv2.1 h));clear hv2))
   go_ret
   exact⟨rfl,zaa hbx hbel2⟩
  ·have h3b:(((bl.length:Nat):Int) != (sn:Nat))=true:=by simp;omega
   go_enter Tryz.func64,Tryz.ntmps64
   go_wp2_with (go_at_call 65;(with_reducible refine(zbx _ bl _ hb2).mono ?_);rintro e1 w1 ⟨n1,b1,rfl,rfl,hc1,_⟩;obtain⟨hn1,hb1⟩:=hc1 H1.out;obtain rfl:b1=true:=hb1.trans (decide_eq_true h2);clear hc1 hb1)
   go_ret
   exact⟨rfl,hbx⟩
 ·have H1:=zH h1
  clear h1
  go_enter Tryz.func64,Tryz.ntmps64
  go_wp2_with (go_at_call 65;(with_reducible refine(zbx _ bl _ hb2).mono ?_);rintro e1 w1 ⟨n1,b1,rfl,rfl,hc1,hc2⟩;obtain rfl:b1=false:=(by
   by_cases h:okB bl
   ·rw[(hc1 h).2];exact decide_eq_false (fun h2=>H1.out ⟨h,h2⟩)
   ·exact(hc2 h).1);clear hc1 hc2)
  go_ret
  exact⟨rfl,hbx⟩
end Go.Proofs.YtlpdkbmmbdfoiaaGreat
namespace Go.Proofs.YtlpdkbmmbdfoiaaGreat
def zvw (bl:List Int) (b:Nat):Nat:=bl.findIdx (fun x=>decide (x=(b:Int)))
theorem firstB_fresh {bl:List Int} (hok:okB bl) {k b:Nat} (hk:bl[k]? =some (b:Int)) (hb:b=cnt (bl.take k)):zvw bl b=k:=by
 obtain⟨hk1,hk2⟩:=List.getElem?_eq_some_iff.1 hk
 unfold zvw
 rw[List.findIdx_eq hk1]
 refine⟨by simp[hk2],fun j hj=> ?_⟩
 have hj1:j<bl.length:=by omega
 obtain⟨h2,h3⟩:=hok j _ (List.getElem?_eq_getElem hj1)
 have h4:=zcx bl (show j+1≤k by omega)
 have h5:=zww bl j hj1
 simp only[decide_eq_false_iff_not]
 intro h6
 by_cases h7:bl[j]'hj1=(cnt (bl.take j):Int)
 ·rw[if_pos h7]at h5
  omega
 ·rw[if_neg h7]at h5
  omega
def quo (c:RC) (bl:List Int):CQ:=
 ⟨(List.range (cnt bl)).map fun b=>(ztw bl (zaq c (zvw bl b)) (cnt bl)).set b 0,ztw bl (qs c.start) (cnt bl),(List.range (cnt bl)).map fun b=>c.lost.getD (zvw bl b) false⟩
def zeq (q:Rat):Prop:=∃a b:Nat,a≤4∧1≤b∧b≤4∧q=fq false a b
theorem zeq.zero :zeq 0:=⟨0,1,by decide,by decide,by decide,by decide⟩
theorem zeq.cases (P:Rat→Prop) [DecidablePred P] (h:∀a,a<5→∀b,b<5→b≠0→P (fq false a b)) {q:Rat} (hq:zeq q):P q:=by
 obtain⟨a,b,h1,h2,h3,rfl⟩:=hq
 exact h a (by omega) b (by omega) (by omega)
theorem zeq.nonneg {q:Rat} (h:zeq q):¬q<0:=zeq.cases (fun q=>¬q<0) (by decide) h
theorem zeq.wt {q:Rat} (h:zeq q):wt q≤6:=zeq.cases (fun q=>Go.Proofs.YtlpdkbmmbdfoiaaGreat.wt q≤6) (by decide) h
theorem zeq.num {q:Rat} (h:zeq q):q.num.natAbs≤4:=zeq.cases (fun q=>q.num.natAbs≤4) (by decide) h
theorem zeq.den {q:Rat} (h:zeq q):q.den≤4:=zeq.cases (fun q=>q.den≤4) (by decide) h
theorem zrt {n:Nat} (h:n≤4):zua n≤3:=zwb.2 (by omega)
theorem zou {n:Nat} (h:n≤4):zda n≤4:=zzb.2 (by simp[pw];omega)
theorem zeq.fits {q:Rat} (h:zeq q):fits q:=⟨Nat.le_trans (zrt h.num) (by decide),Nat.le_trans (zrt h.den) (by decide)⟩
structure zrr (c:CQ):Prop where
 n2:2≤c.start.length
 n5:c.start.length≤5
 ll:c.lost.length=c.start.length
 rl:c.rates.length=c.start.length
 st:∀q∈c.start,zeq q
 sum:zgg c.start=1
 rows:∀ (i:Nat) (r:List Rat),c.rates[i]? =some r→r.length=c.start.length∧(∀q∈r,zeq q)∧(∀x:Rat,r[i]? =some x→x=0)∧(c.lost[i]? =some true→∀q∈r,q=0)
theorem wts_small {l:List Rat} (h:∀q∈l,zeq q):wts l≤6*l.length:=by
 induction l with
 | nil=>simp[wts]
 | cons x l ih=>
   have h1:=(h x (by simp)).wt
   have h2:=ih (fun q hq=>h q (by simp[hq]))
   rw[zmg,List.length_cons]
   omega
theorem zbu (l:List Rat):qs (l.map RF.of)=l:=by
 unfold qs
 rw[List.map_map]
 conv=>rhs;rw[←List.map_id l]
 exact List.map_congr_left (fun q _=>RF.of_q q)
theorem zlu {l:List Rat} {n:Nat} (hn:l.length=n) (hn5:n≤5) (h:∀q∈l,zeq q):zlr (l.map RF.of) n:=by
 refine⟨fun x hx=> ?_,by rw[List.length_map];exact hn,by rw[zbu];have:=wts_small h;omega⟩
 obtain⟨q,hq,rfl⟩:=List.mem_map.1 hx
 have hs:=h q hq
 refine⟨RF.of_ok hs.fits,?_⟩
 rw[RF.of_q]
 exact⟨hs.nonneg,zou hs.num,zou hs.den⟩
theorem zrr.valid {c:CQ} (h:zrr c):zzp c.raw:=by
 obtain⟨n2,n5,ll,rl,st,sum,rows⟩:=h
 refine⟨by simp[CQ.raw];omega,by simp[CQ.raw];omega,by simp[CQ.raw];exact ll,by simp[CQ.raw];exact rl,?_,fun i r hr=> ?_,?_⟩
 ·have:=zlu (n:=c.start.length) rfl n5 st
  simpa [CQ.raw]using this
 ·simp only[CQ.raw,List.getElem?_map,Option.map_eq_some_iff]at hr
  obtain⟨r',hr',rfl⟩:=hr
  obtain⟨k1,k2,k3,k4⟩:=rows i r' hr'
  refine⟨?_,fun x hx=> ?_,fun hl=> ?_⟩
  ·have:=zlu k1 n5 k2
   simpa [CQ.raw]using this
  ·rw[List.getElem?_map,Option.map_eq_some_iff]at hx
   obtain⟨q,hq,rfl⟩:=hx
   rw[RF.of_q,k3 q hq]
   rfl
  ·rw[zbu]
   have h0:=k4 hl
   have :∀l:List Rat,(∀q∈l,q=0)→wts l=0:=fun l=>by
    induction l with
    | nil=>intro _;rfl
    | cons x l ih=>
      intro h
      rw[zmg,ih (fun q hq=>h q (by simp[hq])),h x (by simp)]
      decide
   exact this r' h0
 ·have :qs c.raw.start=c.start:=zbu _
  rw[this];exact sum
def RowF (n lo i:Nat) (r:List Rat) (m:Nat):Prop:=r.length=m∧(∀q∈r,zeq q)∧(∀x:Rat,r[i]? =some x→x=0)∧((n:Int)-lo≤i→∀q∈r,q=0)
theorem RowF.nil (n lo i:Nat):RowF n lo i [] 0:=⟨rfl,fun q h=>by simp at h,fun x h=>by simp at h,fun _ q h=>by simp at h⟩
theorem RowF.snoc {n lo i m:Nat} {r:List Rat} {x:Rat} (h:RowF n lo i r m) (hx:zeq x) (h1:i=m→x=0) (h2:(n:Int)-lo≤i→x=0):RowF n lo i (r++ [x]) (m+1):=by
 obtain⟨a,b,c,d⟩:=h
 refine⟨by simp[a],fun q hq=> ?_,fun y hy=> ?_,fun hl q hq=> ?_⟩
 ·rcases List.mem_append.1 hq with h | h
  ·exact b q h
  ·simp at h;subst h;exact hx
 ·rcases Nat.lt_or_ge i r.length with h | h
  ·rw[List.getElem?_append_left h]at hy
   exact c y hy
  ·have hi:i<(r++ [x]).length:=(List.getElem?_eq_some_iff.1 hy).1
   have hi2:i=m:=by simp at hi;omega
   rw[List.getElem?_append_right h]at hy
   have h0:i-r.length=0:=by omega
   rw[h0]at hy
   simp at hy
   rw[←hy]
   exact h1 hi2
 ·rcases List.mem_append.1 hq with h | h
  ·exact d hl q h
  ·simp at h;subst h;exact h2 hl
structure TF (n lo i left:Nat) (rates:List (List Rat)) (start:List Rat) (lost:List Bool):Prop where
 sl:start.length=i
 ll:lost.length=i
 rl:rates.length=i
 left4:left≤4
 fin:i=n→left=0
 sum:zgg start=fq false (4-left) 4
 st:∀q∈start,zeq q
 los:∀ (j:Nat) (b:Bool),lost[j]? =some b→b=decide ((n:Int)-lo≤j)
 rows:∀ (j:Nat) (r:List Rat),rates[j]? =some r→RowF n lo j r n
theorem TF.zero (n lo:Nat) (hn:0<n):TF n lo 0 4 [] [] []:=
 ⟨rfl,rfl,rfl,Nat.le_refl _,fun h=>by omega,by decide,fun q h=>by simp at h,fun j b h=>by simp at h,fun j r h=>by simp at h⟩
theorem zlz (a b:Nat):fq false a 4+fq false b 4=fq false (a+b) 4:=by
 rw[zhh false a 4 b 4 (by decide) (by decide)]
 unfold fq sgn
 simp only[Bool.false_eq_true,if_false]
 rw[show((a*4+b*4:Nat):Int)=((a+b:Nat):Int)*4 from by omega,show(4*4:Nat)=4*4 from rfl]
 exact Rat.mkRat_mul_right (by decide)
theorem TF.step {n lo i left k:Nat} {rates:List (List Rat)} {start:List Rat} {lost:List Bool} {r:List Rat} (h:TF n lo i left rates start lost) (hk:k≤left) (hl:i+1=n→k=left) (hr:RowF n lo i r n):
 TF n lo (i+1) (left-k) (rates++ [r]) (start++ [fq false k 4]) (lost++ [decide ((n:Int)-lo≤i)]):=by
 obtain⟨sl,ll,rl,l4,fin,sum,st,hlo,rows⟩:=h
 refine⟨by simp[sl],by simp[ll],by simp[rl],by omega,fun h=>by have:=hl h;omega,?_,fun q hq=> ?_,fun j b hb=> ?_,fun j q hq=> ?_⟩
 ·rw[zgl,sum,zlz,show 4-left+k=4- (left-k)from by omega]
 ·rcases List.mem_append.1 hq with h | h
  ·exact st q h
  ·simp at h;subst h;exact⟨k,4,by omega,by decide,by decide,rfl⟩
 ·rcases Nat.lt_or_ge j lost.length with h | h
  ·rw[List.getElem?_append_left h]at hb;exact hlo j b hb
  ·have hj:j<(lost++ [decide ((n:Int)-lo≤i)]).length:=(List.getElem?_eq_some_iff.1 hb).1
   have hj2:j=i:=by simp at hj;omega
   rw[List.getElem?_append_right h,show j-lost.length=0 from by omega]at hb
   simp at hb
   rw[←hb,hj2]
 ·rcases Nat.lt_or_ge j rates.length with h | h
  ·rw[List.getElem?_append_left h]at hq;exact rows j q hq
  ·have hj:j<(rates++ [r]).length:=(List.getElem?_eq_some_iff.1 hq).1
   have hj2:j=i:=by simp at hj;omega
   rw[List.getElem?_append_right h,show j-rates.length=0 from by omega]at hq
   simp at hq
   rw[←hq,hj2]
   exact hr
theorem TF.done {n lo left:Nat} {rates:List (List Rat)} {start:List Rat} {lost:List Bool} (h:TF n lo n left rates start lost) (h2:2≤n) (h5:n≤5):zrr ⟨rates,start,lost⟩:=by
 obtain⟨sl,ll,rl,l4,fin,sum,st,hlo,rows⟩:=h
 refine⟨by simp[sl,h2],by simp[sl,h5],by simp[sl,ll],by simp[sl,rl],st,?_,fun i r hr=> ?_⟩
 ·have:=fin rfl
  subst this
  rw[sum];decide
 ·obtain⟨a,b,c,d⟩:=rows i r hr
  refine⟨by simp[sl,a],b,c,fun hl=>d ?_⟩
  have:=hlo i true hl
  simpa using this.symm
end Go.Proofs.YtlpdkbmmbdfoiaaGreat
namespace Go.Proofs.YtlpdkbmmbdfoiaaGreat
open Go.RowKit
theorem make_E {P:Program} (t e:TypeId) (i:TypeInfo) (z:Value) (by':Nat) (h1:P.underlying t=some (.slice e)) (h2:P.info? e=some i) (h3:i.zero=some z) (h4:i.size=1) (h5:i.bytes=by') (hby:by'≤32) (hz:z.cells=#[z])
 (w:World) {ops:Array Oper} {rest:List Oper} {o:Oper} {a:Act} {Q:Exit→Act→World→Prop} (hg:o.guard=none) (l c:Operand) (hop:o.op=Op.makeSlice t l c)
 (n:Nat) (hl:a.eval l= .int .i64 n) (hc:a.eval c= .int .i64 n) (hn:n≤128)
 (hK:∀v w',zce w' e w.heap.size v (List.replicate n z)→Below w.heap.size w w'→wpList P ops Q rest (a.put o.dst v) w'):
 wpList P ops Q (o::rest) a w:=
 zjh w hg l c t hop w.heap.size e i z h1 h2 h3 h4 hz n hl hc (by rw[h5];exact Nat.le_trans (Nat.mul_le_mul hby hn) (by decide)) (by simp[maxLen];omega) (Nat.le_refl _) (fun v w' h6 h7 _=>hK v w' h6 h7)
theorem zbb.over {w:World} {r:Value} {q:List Rat} {p:Addr} {x u:Value} (h:zbb w r q) (hp:p.block≠(base r).block) (hc:w.cell? p=some x) (hx:∀z,x≠ .int .u32 z):zbb (w.setCell p u) r q:=
 ⟨h.sl,h.len,fun j hj=>by
  obtain⟨a,b,h1,h2,h3,h4,h5⟩:=h.at' j hj
  have hne:∀k,p≠ptr r k:=fun k e=>hp (by rw[e];exact zsa r k)
  exact⟨a,b,by rw[World.cell?_setCell_other _ _ _ _ (hne _)];exact h1,by rw[World.cell?_setCell_other _ _ _ _ (hne _)];exact h2,by rw[World.cell?_setCell_other _ _ _ _ (hne _)];exact h3,⟨h4.1.over hc hx u,h4.2⟩,⟨h5.1.over hc hx u,h5.2⟩⟩⟩
theorem cnt_pos {bl:List Int} (hok:okB bl) (h0:0<bl.length):0<cnt bl:=by
 have h:=hok.lt (List.getElem?_eq_getElem h0)
 omega
def ChkI (c:RC) (bl:List Int) (tF tB:TypeId) (B3 B4 B5:Nat) (v3 v4:Value) (k:Nat) (rep:Nat→Nat) (es:List Value) (fs:List Bool) (wr:World):Prop:=
 zdy bl (fun i=>ztw bl (zaq c i) (cnt bl)) (fun i=>c.lost.getD i false) k rep∧zce wr tF B3 v3 es∧es.length=cnt bl∧zce wr tB B4 v4 (fs.map Value.bool)∧fs.length=cnt bl∧
 (∀b,b<cnt (bl.take k)→∃a n kk,es[b]? =some (.slice (some a) n kk)∧zbb wr (.slice (some a) n kk) (ztw bl (zaq c (rep b)) (cnt bl))∧B5≤a.block∧fs[b]? =some (c.lost.getD (rep b) false))∧
 (∀b,cnt (bl.take k)≤b→b<cnt bl→es[b]? =some (.slice none 0 0))
theorem ChkI.start {c:RC} {bl:List Int} {tF tB:TypeId} {B3 B4:Nat} (B5:Nat) {v3 v4:Value} {w:World} (h3:zce w tF B3 v3 (List.replicate (cnt bl) (.slice none 0 0))) (h4:zce w tB B4 v4 (List.replicate (cnt bl) (.bool false))):
 ChkI c bl tF tB B3 B4 B5 v3 v4 0 (fun _=>0) (List.replicate (cnt bl) (.slice none 0 0)) (List.replicate (cnt bl) false) w:=by
 refine⟨zdy.zero _ _ _,h3,by simp,by rw[List.map_replicate];exact h4,by simp,fun b hb=> ?_,fun b _ hb=> ?_⟩
 ·simp[cnt_nil]at hb
 ·rw[List.getElem?_replicate,if_pos hb]
theorem ChkI.below {c:RC} {bl:List Int} {tF tB:TypeId} {B3 B4 B5:Nat} {v3 v4:Value} {k:Nat} {rep:Nat→Nat} {es:List Value} {fs:List Bool} {wr w5:World}
 (h:ChkI c bl tF tB B3 B4 B5 v3 v4 k rep es fs wr) (hb:Below wr.heap.size wr w5):ChkI c bl tF tB B3 B4 B5 v3 v4 k rep es fs w5:=by
 obtain⟨hH,h3,hel,h4,hfl,hseen,hnew⟩:=h
 refine⟨hH,h3.below hb,hel,h4.below hb,hfl,fun b hb'=> ?_,hnew⟩
 obtain⟨a,n,kk,q1,q2,q3,q4⟩:=hseen b hb'
 exact⟨a,n,kk,q1,q2.below hb,q3,q4⟩
theorem ChkI.fresh {c:RC} {bl:List Int} {tF tB tE:TypeId} {B3 B4 B5:Nat} {v3 v4:Value} {k:Nat} {rep:Nat→Nat} {es:List Value} {fs:List Bool} {w5:World}
 (h:ChkI c bl tF tB B3 B4 B5 v3 v4 k rep es fs w5) (hok:okB bl) {b:Nat} (hk:bl[k]? =some (b:Int)) (hb:b=cnt (bl.take k)) (h34:(ptr v3 b).block≠(base v4).block)
 (hv3:(base v3).block<B5) (hv4:(base v4).block<B5) {g5 n:Nat} {row:List Rat} {BB:Nat} (how:zqb w5 tE BB (.slice (some ⟨g5,0,none⟩) n n) n) (hBB:B5≤BB) (hn:n=cnt bl)
 (hel:∀j,j<n→zlg w5 (.slice (some ⟨g5,0,none⟩) n n) j (bsum bl row j)) (hrq:zaq c k=row) (x:Bool) (hx:x=c.lost.getD k false):
 ChkI c bl tF tB B3 B4 B5 v3 v4 (k+1) (fun a=>if a=cnt (bl.take k)then k else rep a) (es.set b (.slice (some ⟨g5,0,none⟩) n n)) (fs.set b x)
  ((w5.setCell (ptr v3 b) (.slice (some ⟨g5,0,none⟩) n n)).setCell (ptr v4 b) (.bool x))∧(B3≤B4→Below B3 w5 ((w5.setCell (ptr v3 b) (.slice (some ⟨g5,0,none⟩) n n)).setCell (ptr v4 b) (.bool x))):=by
 obtain⟨hH,h3,hel3,h4,hfl,hseen,hnew⟩:=h
 obtain⟨hk1,hk2⟩:=List.getElem?_eq_some_iff.1 hk
 have hbc:=hok.lt hk
 have hbc2:b<cnt bl:=by omega
 have hbes:b<es.length:=by omega
 have hbfs:b<(fs.map Value.bool).length:=by rw[List.length_map];omega
 have hct:=zww bl k hk1
 rw[if_pos (by rw[hk2,hb])]at hct
 have hE:es[b]'hbes= .slice none 0 0:=by
  have:=hnew b (by omega) hbc2
  rw[List.getElem?_eq_getElem hbes]at this
  injection this
 have hc3:=h3.cell b hbes
 rw[hE]at hc3
 have s3:=h3.set b hbes (.slice (some ⟨g5,0,none⟩) n n)
 have h4':=h4.other (ptr v3 b) (.slice (some ⟨g5,0,none⟩) n n) h34
 have hc4:=h4'.cell b hbfs
 have hc4':((w5.setCell (ptr v3 b) (.slice (some ⟨g5,0,none⟩) n n))).cell? (ptr v4 b)=some (.bool (fs[b]'(by omega))):=by rw[hc4];simp
 have s4:=h4'.set b hbfs (.bool x)
 have h43:(ptr v4 b).block≠(base v3).block:=by rw[zsa];rw[zsa]at h34;exact fun e=>h34 e.symm
 have h3':=s3.1.other (ptr v4 b) (.bool x) h43
 have hover:∀ (r:Value) (q:List Rat),B5≤(base r).block→zbb w5 r q→zbb ((w5.setCell (ptr v3 b) (.slice (some ⟨g5,0,none⟩) n n)).setCell (ptr v4 b) (.bool x)) r q:=fun r q hr hq=>by
  have q1:=hq.over (p:=ptr v3 b) (u:= .slice (some ⟨g5,0,none⟩) n n) (by rw[zsa];omega) hc3 (fun z=>by simp)
  exact q1.over (p:=ptr v4 b) (u:= .bool x) (by rw[zsa];omega) hc4' (fun z=>by simp)
 have hb4:=h4.block (by omega)
 refine⟨⟨hH.fresh hok (by rw[hk,hb]),h3',by rw[List.length_set];exact hel3,by rw[List.map_set];exact s4.1,by rw[List.length_set];exact hfl,fun a ha=> ?_,fun a ha ha2=> ?_⟩,fun h34'=>s3.2.trans (s4.2.mono h34')⟩
 ·rw[hct]at ha
  by_cases h1:a=cnt (bl.take k)
  ·simp only[h1,if_true]
   rw[←hb]
   refine⟨⟨g5,0,none⟩,n,n,by rw[List.getElem?_set_self hbes],hover _ _ (by have:=how.block;omega) (how.fracs (by rw[zsw];exact hn.symm) (fun j hj=> ?_)),by have:=how.block;simp only[base]at this;show B5≤g5;omega,by rw[List.getElem?_set_self (by omega),hx]⟩
   rw[zsw]at hj
   rw[zuw _ _ _ _ hj,hrq]
   exact hel j (by omega)
  ·simp only[if_neg h1]
   obtain⟨p,m,kk,q1,q2,q3,q4⟩:=hseen a (by omega)
   refine⟨p,m,kk,by rw[List.getElem?_set_ne (by omega)];exact q1,hover _ _ (by simpa [base]using q3) q2,q3,by rw[List.getElem?_set_ne (by omega)];exact q4⟩
 ·rw[hct]at ha
  rw[List.getElem?_set_ne (by omega)]
  exact hnew a (by omega) ha2
theorem ChkI.old {c:RC} {bl:List Int} {tF tB:TypeId} {B3 B4 B5:Nat} {v3 v4:Value} {k:Nat} {rep:Nat→Nat} {es:List Value} {fs:List Bool} {w5:World}
 (h:ChkI c bl tF tB B3 B4 B5 v3 v4 k rep es fs w5) {b:Nat} (hk:bl[k]? =some (b:Int)) (hb:b<cnt (bl.take k)) (h1:c.lost.getD k false=c.lost.getD (rep b) false)
 (h2:zyw b (ztw bl (zaq c k) (cnt bl)) (ztw bl (zaq c (rep b)) (cnt bl))):ChkI c bl tF tB B3 B4 B5 v3 v4 (k+1) rep es fs w5:=by
 obtain⟨hH,h3,hel,h4,hfl,hseen,hnew⟩:=h
 obtain⟨hk1,hk2⟩:=List.getElem?_eq_some_iff.1 hk
 have hc:=zww bl k hk1
 rw[if_neg (by rw[hk2];omega)]at hc
 refine⟨hH.old hk hb h1 h2,h3,hel,h4,hfl,fun a ha=>hseen a (by omega),fun a ha=>hnew a (by omega)⟩
set_option maxRecDepth 100000 in
set_option maxHeartbeats 3200000 in
theorem check_main (va vb:Value) (c:RC) (bl:List Int) (w:World) (ha:zdq w va c) (hb:zgv w vb bl) (hok:okB bl) (h0:0<bl.length) (hlen:bl.length=c.start.length) (hv:zzp c):
 Calls Tryz.prog 64 #[va,vb] w (zyz w (znx bl (fun i=>ztw bl (zaq c i) (cnt bl)) (fun i=>c.lost.getD i false))):=by
 obtain⟨i1,hi1,hz1,hs1,hy1⟩:=info_parts Tryz.infoRow
 have hM1:=make_E (P:=Tryz.prog) 24 25 i1 _ 24 Tryz.underlying24 hi1 hz1 hs1 hy1 (by decide) rfl
 obtain⟨i2,hi2,hz2,hs2,hy2⟩:=info_parts Tryz.infoBool
 have hM2:=make_E (P:=Tryz.prog) 26 4 i2 _ 1 Tryz.underlying26 hi2 hz2 hs2 hy2 (by decide) rfl
 clear hi1 hz1 hs1 hy1 hi2 hz2 hs2 hy2
 have hEQ:∀ (w:World) (a:Option Addr) (n c:Nat),(binOp .eql 25 (.slice a n c) (.slice none 0 0)).run Tryz.prog w= .ok (.bool a.isNone) w:=fun w a n c=>by
  rw[Lib.run_eql_slice_nil w 25 38 a n c 0 0 Tryz.underlying25]
 obtain⟨rv,sv,lv,rfl,hr,hs,hl⟩:=id ha
 obtain⟨ra,rn,rk,rfl,r1,r2,r3⟩:=id hr.sl
 obtain⟨sa,sn,sk,rfl,s1,s2,s3⟩:=id hs.sl
 obtain⟨la,ln,lk,rfl,l1,l2,l3⟩:=id (zhc.sl hl)
 have hsl:sn=c.start.length:=hs.len
 subst hsl
 have hln:ln=c.lost.length:=hl.len
 subst hln
 have sb:=zhc.sl hb
 have lb:=hb.len
 have hle:=sb.le
 rw[lb]at hle
 have hbl2:bl.length≤9223372036854775807:=by omega
 have hbl3:bl.length≤128:=by have:=hv;unfold zzp at this;omega
 have hcl:cnt bl≤bl.length:=by have:=cnt_le bl bl.length;rwa[List.take_length]at this
 clear hle
 unfold maxLen at s2
 have hbx:=zca w (.cells #[.slice ra rn rk, .slice sa c.start.length sk, .slice la c.lost.length lk] 28)
 have hC:=C3.new w 28 (.slice ra rn rk) (.slice sa c.start.length sk) (.slice la c.lost.length lk)
 have ha2:=ha.below hbx
 have hb2:=hb.below hbx
 have HA:=zH ha2
 have HOK:=zH hok
 have HV:=zH hv
 have HC:=zH hC
 obtain⟨_,c0,c1,c2,_,_,_⟩:=id hC
 have HV4:Hid (c.rates.length=c.start.length):=zH hv.2.2.2.1
 have HV3:Hid (c.lost.length=c.start.length):=zH hv.2.2.1
 have HVR:Hid (∀i r,c.rates[i]? =some r→zlr r c.start.length):=zH (fun i r h=>(hv.2.2.2.2.2.1 i r h).1)
 clear hC hs ha2 ha hok hv
 generalize c.start.length=sn at *
 subst hlen
 go_enter Tryz.func64,Tryz.ntmps64
 go_wp2_with (first
  |(go_at_call 65;(with_reducible refine(zbx _ bl _ hb2).mono ?_);rintro e1 w1 ⟨n1,b1,rfl,rfl,hc1,_⟩;obtain⟨hn1,hb1⟩:=hc1 HOK.out;obtain rfl:b1=true:=hb1.trans (decide_eq_true h0);subst hn1;clear hc1 hb1)
  |(go_at_call 68;(with_reducible refine(zar _ c _ HA.out).mono ?_);rintro e2 w2 ⟨⟨b2,rfl,hv2⟩,hbel2⟩;obtain rfl:b2=true:=hv2.2 HV.out;clear hv2
    have hC2:=HC.out.belowS hbel2
    obtain⟨_,c0,c1,c2,_,_,_⟩:=id hC2)
  |(refine hM1 _ rfl _ _ rfl (cnt bl) rfl rfl (by omega) ?_;intro v3 w3 hown3 hbel3)
  |(refine hM2 _ rfl _ _ rfl (cnt bl) rfl rfl (by omega) ?_;intro v4 w4 hown4 hbel4))
 have hb4:=zaa (zaa (zaa hbx hbel2) hbel3) hbel4
 have hpos:0<cnt bl:=cnt_pos HOK.out h0
 have hk3:=hown3.block (by rw[List.length_replicate];exact hpos)
 have hk4:=hown4.block (by rw[List.length_replicate];exact hpos)
 have hB4:=hbel4.size
 have hown3':=hown3.below hbel4
 go_loopw [38] (fun u38 wr=>∃ (k:Nat) (rep:Nat→Nat) (es:List Value) (fs:List Bool),k≤bl.length∧u38= .int .i64 k∧ChkI c bl 25 4 w2.heap.size w3.heap.size w4.heap.size v3 v4 k rep es fs wr∧
  w4.heap.size≤wr.heap.size∧Below w2.heap.size w4 wr) (fun u38 _=>bl.length- (intOf u38).toNat)
 case atStart=>
  exact⟨0,fun _=>0,_,_,Nat.zero_le _,rfl,ChkI.start _ hown3' hown4,Nat.le_refl _,Below.refl _ _⟩
 case round=>
  obtain⟨k,rep,es,fs,hk,rfl,hI,hws,hbr⟩:=hrel
  have HI:=zH hI
  obtain⟨hH,h3,hel,h4,hfl,hseen,hnew⟩:=hI
  have HH:=zH hH
  have HSEEN:=zH hseen
  have HNEW:=zH hnew
  clear hH hseen hnew
  have hb5:=(zaa (zaa hbel2 hbel3) hbel4).trans (hbr.mono hbel2.size)
  have hcr:=HC.out.belowS hb5
  obtain⟨_,c0,c1,c2,_,_,_⟩:=id hcr
  by_cases hkl:k<bl.length
  ·have hbk:=(hb2.below hb5).at' k hkl
   have HG:Hid (bl[k]? =some (bl[k]'hkl)):=zH (List.getElem?_eq_getElem hkl)
   obtain⟨hb0,hbl⟩:=HOK.out k _ HG.out
   have hbc:=HOK.out.lt HG.out
   have hrates:c.rates.length=bl.length:=HV4.out
   have hkr:k<c.rates.length:=by omega
   obtain⟨r,hr1,hr2⟩:=((hr.below hbx).below hb5).at' k hkr
   have HROW:=zH (HVR.out k _ (List.getElem?_eq_getElem hkr))
   have HRQ:Hid (zaq c k=qs (c.rates[k]'hkr)):=zH (by simp[zaq,List.getD,List.getElem?_eq_getElem hkr])
   have sr:=hr2.sl
   have srl:=hr2.len
   generalize c.rates[k]'hkr=row at *
   obtain⟨b,hbb⟩:∃b:Nat,bl[k]'hkl=(b:Int):=⟨(bl[k]'hkl).toNat,by omega⟩
   rw[hbb]at hbk hb0 hbl hbc
   have HG2:Hid (bl[k]? =some (b:Int)):=zH (by rw[HG.out,hbb])
   clear HG hbb
   have sra:zgc (.slice ra rn rk):=hr.sl
   have hrn:rn=c.rates.length:=hr.len
   have hkrn:(k:Int)<(rn:Nat):=by omega
   have hk0:(0:Int)≤(k:Int):=by omega
   have hrl:row.length=bl.length:=HROW.out.2.1
   have HROW2:Hid (zlr row row.length):=zH (by rw[hrl];exact HROW.out)
   clear hrn hrates
   have sv3:=h3.sl
   have lv3:slen v3=cnt bl:=by rw[h3.len,hel]
   have sv4:=h4.sl
   have lv4:slen v4=cnt bl:=by rw[h4.len,List.length_map,hfl]
   have hbn:b<cnt bl:=by omega
   have hne34:(ptr v3 b).block≠(base v4).block:=by rw[zsa];omega
   have hbi:(b:Int)<(cnt bl:Nat):=by omega
   have hes:b<es.length:=by omega
   have hfs:b<(fs.map Value.bool).length:=by rw[List.length_map];omega
   have sl3:zgc (.slice la c.lost.length lk):=zhc.sl hl
   have hlk:=(hl.below hbx).below hb5
   have hkl2:k<c.lost.length:=by rw[HV3.out];exact hkl
   have hkln:(k:Int)<(c.lost.length:Nat):=by omega
   have hlc:=hlk.at' k hkl2
   by_cases hnewb:b=cnt (bl.take k)
   ·have hE:es[b]'hes= .slice none 0 0:=by
     have:=HNEW.out b (by omega) hbn
     rw[List.getElem?_eq_getElem hes]at this
     injection this
    have HB:=zH hnewb
    clear hnewb
    go_wp2_with (first
     |(go_at_call 66;(with_reducible refine(zxx _ _ row bl _ _ hr2 (hb2.below hb5) hrl HOK.out rfl (by omega) HROW2.out).mono ?_);rintro e5 w5 ⟨v5,rfl,how5,hel5,hbel5⟩;obtain⟨g5,cs5,rfl,_⟩:=id how5
       have h3:=h3.below hbel5
       have h4:=h4.below hbel5
       have hc3:=h3.cell b hes
       rw[hE]at hc3
       have hf3:=h3.frozen b hes
       have h4':=h4.other (ptr v3 b) (.slice (some ⟨g5,0,none⟩) (cnt bl) (cnt bl)) hne34
       have hc4:=h4'.cell b hfs
       have hf4:=h4'.frozen b hfs
       have hlc:=zba hbel5 hlc
       obtain⟨_,c0,c1,c2,_,_,_⟩:=hcr.belowS hbel5))
    have HF:=zH ((HI.out.below hbel5).fresh HOK.out HG2.out HB.out hne34 (by omega) (by omega) how5 hws rfl hel5 HRQ.out (c.lost[k]'hkl2) (by simp[List.getD,List.getElem?_eq_getElem hkl2]))
    have HBF:=zH (hbr.trans ((hbel5.mono (Nat.le_trans (Nat.le_trans hbel3.size hbel4.size) hws)).trans (HF.out.2 hbel3.size)))
    have HWF:=zH (Nat.le_trans (Nat.le_trans hws hbel5.size) ((HF.out.2 hbel3.size).size))
    go_roundw
    case rel=>exact⟨k+1,_,_,_,hkl,by go_num,HF.out.1,HWF.out,HBF.out⟩
    case measure=>simp[intOf];omega
   ·have hbk:b<cnt (bl.take k):=by omega
    obtain⟨ga,gn,gk,q1,q2,q3,q4⟩:=HSEEN.out b hbk
    have hE:es[b]'hes= .slice (some ga) gn gk:=by
     rw[List.getElem?_eq_getElem hes]at q1
     injection q1
    have hfs2:b<fs.length:=by omega
    have hE4:(fs.map Value.bool)[b]'hfs= .bool (c.lost.getD (rep b) false):=by
     rw[List.getElem?_eq_getElem hfs2]at q4
     injection q4 with q4
     simp[q4]
    have HLK:Hid (c.lost.getD k false=c.lost[k]'hkl2):=zH (by simp[List.getD,List.getElem?_eq_getElem hkl2])
    have HBK:=zH hbk
    generalize hm1:c.lost[k]'hkl2=m1 at *
    generalize hm2:c.lost.getD (rep b) false=m2 at *
    have HM1:=zH hm1
    have HM2:=zH hm2
    have HQ2:=zH q2
    clear hm1 hm2 q1 q4 hnewb hbk q2
    go_wp2_with (first
     |(go_at_call 66;(with_reducible refine(zxx _ _ row bl _ _ hr2 (hb2.below hb5) hrl HOK.out rfl (by omega) HROW2.out).mono ?_);rintro e5 w5 ⟨v5,rfl,how5,hel5,hbel5⟩;obtain⟨g5,cs5,rfl,_⟩:=id how5
       have hD:=zja (B:=w5.heap.size) w5
       have hb5D:=zaa hbel5 hD
       have h3:=h3.below hbel5
       have h4:=h4.below hbel5
       have hc3:=h3.cell b hes
       rw[hE]at hc3
       have hc3D:=zba hD hc3
       have hc4D:=zba hD (h4.cell b hfs)
       rw[hE4]at hc4D
       have hlcD:=zba hb5D hlc
       obtain⟨_,c0,c1,c2,_,_,_⟩:=hcr.belowS hb5D))
    have hb6:=zaa (zaa hb5 hbel5) hD
    by_cases hmm:m1=m2
    ·subst hmm
     have hmb:(m1 != m1)=false:=by simp
     have HN:Hid (zyw b (ztw bl (zaq c k) (cnt bl)) (ztw bl (zaq c (rep b)) (cnt bl))→ChkI c bl 25 4 w2.heap.size w3.heap.size w4.heap.size v3 v4 (k+1) rep es fs w5):=zH (fun h=>
      (HI.out.below hbel5).old HG2.out HBK.out (by rw[HLK.out,HM2.out]) h)
     have hX:zbb w5.drew (.slice (some ⟨g5,0,none⟩) (cnt bl) (cnt bl)) (ztw bl (zaq c k) (cnt bl)):=by
      refine zbb.below (how5.fracs (zsw _ _ _) (fun j hj=> ?_)) hD
      rw[zsw]at hj
      rw[zuw _ _ _ _ hj,HRQ.out]
      exact hel5 j hj
     have hY:=HQ2.out.below hb5D
     have hFit:∀i,i<bl.length→∀x∈ztw bl (zaq c i) (cnt bl),fits x:=fun i hi x hx=>by
      obtain⟨j,hj,rfl⟩:=List.mem_map.1 hx
      have hir:i<c.rates.length:=by rw[HV4.out];exact hi
      have hrp:=HVR.out i _ (List.getElem?_eq_getElem hir)
      have e:zaq c i=qs (c.rates[i]'hir):=by simp[zaq,List.getD,List.getElem?_eq_getElem hir]
      rw[e]
      have h1:=zdz (bl:=bl) (row:=qs (c.rates[i]'hir)) bl.length (j:Int) (fun q hq=>by
       obtain⟨x,hx,rfl⟩:=List.mem_map.1 hq
       exact Rat.not_lt.1 (hrp.1 x hx).2.1) hrp.2.2
      rwa[List.take_length,List.take_of_length_le (by rw[zgq,hrp.2.1];exact Nat.le_refl _)]at h1
     have hrep:=((HI.out.1).lt b HBK.out).1
     have HFX:=zH (hFit k hkl)
     have HFY:=zH (hFit (rep b) (by omega))
     have HBL:Hid ((ztw bl (zaq c k) (cnt bl)).length=(ztw bl (zaq c (rep b)) (cnt bl)).length):=zH (by rw[zsw,zsw])
     clear hFit
     have HXY:=zH (And.intro hX hY)
     clear hX hY
     have lsl:=sl3
     go_region_held3 (fun w'=>w'.cell? ⟨w.heap.size,2,none⟩=some (.slice la c.lost.length lk)∧w'.cell? (ptr (.slice la c.lost.length lk) k)=some (.bool m1)∧w'.cell? (ptr v4 b)=some (.bool m1)∧w'.cell? (ptr v3 b)=some (.slice (some ga) gn gk)) (exact⟨c2,hlcD,hc4D,hc3D⟩) (first
      |(go_at_call 141;(with_reducible refine(alike_any _ _ _ _ b _ HXY.out.1 HXY.out.2 HBL.out HFX.out HFY.out).mono ?_);rintro e9 w9 ⟨⟨b9,rfl,hb9⟩,hbel9⟩
        have c2:=zba hbel9 c2
        have hlcD:=zba hbel9 hlcD
        have hc4D:=zba hbel9 hc4D
        have hc3D:=zba hbel9 hc3D))
     have HB9:=zH hb9
     clear hb9
     have hbr9:=zaa (zaa hbel5 hD) hbel9
     by_cases hb9t:b9=true
     ·subst hb9t
      have HF:=zH ((HN.out (HB9.out.1 rfl)).below (zaa hD hbel9))
      have HBF:=zH (hbr.trans (hbr9.mono (Nat.le_trans (Nat.le_trans hbel3.size hbel4.size) hws)))
      have HWF:=zH (Nat.le_trans hws hbr9.size)
      go_wp2_with fail
      go_roundw
      case rel=>exact⟨k+1,_,_,_,hkl,by go_num,HF.out,HWF.out,HBF.out⟩
      case measure=>simp[intOf];omega
     ·obtain rfl:b9=false:=by simpa using hb9t
      have HNA:Hid (¬znx bl (fun i=>ztw bl (zaq c i) (cnt bl)) (fun i=>c.lost.getD i false)):=zH (HI.out.1.not HG2.out HBK.out (fun h=>by
       have:=HB9.out.2 h.2
       cases this))
      clear hb9t
      go_wp2_with fail
      go_ret
      exact⟨⟨false,rfl,fun h=>(by cases h),fun h=>absurd h HNA.out⟩,zaa (zaa hbx hb5) hbr9⟩
    ·have hmb:(m1 != m2)=true:=by simpa using hmm
     have hc4:=h4.cell b hfs
     rw[hE4]at hc4
     have hlc5:=zba hbel5 hlc
     obtain⟨_,c0,c1,c2,_,_,_⟩:=hcr.belowS hbel5
     clear hD hb5D hc3D hc4D hlcD hb6
     go_quiet (fail)
     have HNA:Hid (¬znx bl (fun i=>ztw bl (zaq c i) (cnt bl)) (fun i=>c.lost.getD i false)):=zH (HI.out.1.not HG2.out HBK.out (fun h=>by
      have h1:=h.1
      simp only[HLK.out,HM2.out]at h1
      exact hmm h1))
     have hbq:=zaa (zaa hb5 hbel5) (zka (B:=w5.heap.size) w5 nq)
     clear hmm
     go_wp2_with fail
     go_ret
     exact⟨⟨false,rfl,fun h=>(by cases h),fun h=>absurd h HNA.out⟩,zaa hbx hbq⟩
  ·obtain rfl:k=bl.length:=by omega
   have HAL:Hid (znx bl (fun i=>ztw bl (zaq c i) (cnt bl)) (fun i=>c.lost.getD i false)):=zH (HH.out.all HOK.out (n:=cnt bl) (fun i _=>zsw _ _ _))
   go_wp2_with fail
   go_ret
   exact⟨⟨true,rfl,fun _=>HAL.out,fun _=>rfl⟩,zaa hbx hb5⟩
theorem zay (va vb:Value) (c:RC) (bl:List Int) (w:World) (ha:zdq w va c) (hb:zgv w vb bl):Calls Tryz.prog 64 #[va,vb] w (zyz w (zex c bl)):=by
 by_cases h:okB bl∧0<bl.length∧bl.length=c.start.length∧zzp c
 ·obtain⟨h1,h2,h3,h4⟩:=h
  refine(check_main va vb c bl w ha hb h1 h2 h3 h4).mono ?_
  rintro e w' ⟨⟨b,rfl,h5⟩,h6⟩
  exact⟨⟨b,rfl,h5.trans ⟨fun h=>⟨h1,h2,h3,h4,h⟩,fun h=>h.2.2.2.2⟩⟩,h6⟩
 ·refine(check_early va vb c bl w ha hb ?_).mono ?_
  ·by_cases h1:okB bl
   ·by_cases h2:0<bl.length
    ·by_cases h3:bl.length=c.start.length
     ·exact Or.inr (Or.inr (Or.inr (fun h4=>h ⟨h1,h2,h3,h4⟩)))
     ·exact Or.inr (Or.inr (Or.inl h3))
    ·exact Or.inr (Or.inl h2)
   ·exact Or.inl h1
  ·rintro e w' ⟨rfl,h6⟩
   exact⟨⟨false,rfl,fun h=>(by cases h),fun h5=>absurd ⟨h5.1,h5.2.1,h5.2.2.1,h5.2.2.2.1⟩ h⟩,h6⟩
set_option maxHeartbeats 1600000
set_option maxRecDepth 100000 in
/-- The closure of split: x's block is b and its sums are alike. -/
theorem test_any (own b:Int) (so s:List Rat) (vx vs:Value) (q1 q2:Nat) (w:World) (hx:zbb w vx so) (hs:zbb w vs s) (hl:s.length=so.length) (h1:∀x∈so,fits x) (h2:∀x∈s,fits x)
 (c1:w.cell? ⟨q1,0,none⟩=some (.int .i64 b)) (c2:w.cell? ⟨q2,0,none⟩=some vs):
 Calls Tryz.prog 191 #[.agg #[.int .i64 own,vx], .pointer (some ⟨q1,0,none⟩), .pointer (some ⟨q2,0,none⟩)] w (zyz w (own=b∧zyw b s so)):=by
 obtain⟨ax,nx,kx,rfl,_⟩:=id hx.sl
 obtain⟨as',ns,ks,rfl,_⟩:=id hs.sl
 have hbx:=zca w (.cells #[.int .i64 own, .slice ax nx kx] 166)
 have hx2:=hx.below hbx
 have hs2:=hs.below hbx
 have c1':=zba hbx c1
 have c2':=zba hbx c2
 have H1:=zH h1
 have H2:=zH h2
 have HL:=zH hl
 clear hl h1 h2
 go_enter Tryz.func191,Tryz.ntmps191
 by_cases hob:own=b
 ·subst hob
  have hbb:(own==own)=true:=by simp
  go_wp2_with (first
   |(go_at_call 141;(with_reducible refine(alike_any _ _ _ _ own _ hs2 hx2 HL.out H2.out H1.out).mono ?_);rintro e9 w9 ⟨⟨b9,rfl,hb9⟩,hbel9⟩;have HB9:=zH hb9;clear hb9))
  go_ret
  exact⟨⟨b9,rfl,by first | exact HB9.out | (simp only[true_and];exact HB9.out) | (simp;exact HB9.out)⟩,zaa hbx hbel9⟩
 ·have hbb:(own==b)=false:=by simpa using hob
  go_wp2_with fail
  go_ret
  exact⟨⟨false,rfl,fun h=>(by cases h),fun h=>absurd h.1 hob⟩,hbx⟩
structure ClsV (w:World) (v:Value) (cl:List (Int×List Rat)):Prop where
 sl:zgc v
 len:slen v=cl.length
 at':∀ (j:Nat) (h:j<cl.length),∃r,w.cell? (ptr v (j*2))=some (.int .i64 cl[j].1)∧w.cell? (ptr v (j*2+1))=some r∧zbb w r cl[j].2
theorem ClsV.below {w w':World} {v:Value} {cl:List (Int×List Rat)} (h:ClsV w v cl) (hb:Below w.heap.size w w'):ClsV w' v cl:=
 ⟨h.sl,h.len,fun j hj=>by obtain⟨r,e1,e2,e3⟩:=h.at' j hj;exact⟨r,zba hb e1,zba hb e2,e3.below hb⟩⟩
def hits (b:Int) (s:List Rat) (x:Int×List Rat):Prop:=x.1=b∧zyw b s x.2
def RIndex (w0:World) (cl:List (Int×List Rat)) (b:Int) (s:List Rat) (e:Ending) (w:World):Prop:=
 (∃z:Int,e= .returned (.int .i64 z)∧((z= -1∧∀x∈cl,¬hits b s x)∨∃ (j:Nat) (hj:j<cl.length),z=j∧hits b s cl[j]))∧Below w0.heap.size w0 w
set_option maxRecDepth 100000 in
theorem index_any (v vs:Value) (cl:List (Int×List Rat)) (b:Int) (s:List Rat) (q1 q2:Nat) (w:World) (hv:ClsV w v cl) (hs:zbb w vs s) (hl:∀x∈cl,s.length=x.2.length) (h1:∀x∈cl,∀y∈x.2,fits y) (h2:∀x∈s,fits x)
 (c1:w.cell? ⟨q1,0,none⟩=some (.int .i64 b)) (c2:w.cell? ⟨q2,0,none⟩=some vs) (hn:cl.length≤1000):
 Calls Tryz.prog 190 #[v, .func (.func 191) #[] #[.pointer (some ⟨q1,0,none⟩), .pointer (some ⟨q2,0,none⟩)]] w (RIndex w cl b s):=by
 have sv:=hv.sl
 have lv:=hv.len
 have H1:=zH h1
 have H2:=zH h2
 have HL:=zH hl
 clear hl h1 h2
 go_enter Tryz.func190,Tryz.ntmps190
 go_wp2_with fail
 go_loopw [8] (fun u8 wr=>∃ (k:Nat),k≤cl.length∧u8= .int .i64 k∧(∀ (j:Nat) (h:j<cl.length),j<k→¬hits b s cl[j])∧Below w.heap.size w wr) (fun u8 _=>cl.length- (intOf u8).toNat)
 case atStart=>exact⟨0,Nat.zero_le _,rfl,fun j _ h=>by omega,Below.refl _ _⟩
 case round=>
  obtain⟨k,hk,rfl,hst,hbr⟩:=hrel
  have HST:=zH hst
  clear hst
  by_cases hkl:k<cl.length
  ·obtain⟨r,d1,d2,d3⟩:=(hv.below hbr).at' k hkl
   have i1:(0:Int)≤(k:Int):=by omega
   have i2:(k:Int)<(cl.length:Nat):=by omega
   have hsr:=hs.below hbr
   have c1r:=zba hbr c1
   have c2r:=zba hbr c2
   have F1:=zH (H1.out _ (List.getElem_mem hkl))
   have L1:=zH (HL.out _ (List.getElem_mem hkl))
   have HX:Hid (∀h:k<cl.length,cl[k]=cl[k]'hkl):=zH (fun _=>rfl)
   generalize hcx:cl[k]'hkl=x at *
   have HCX:=zH hcx
   clear hcx
   obtain⟨xo,xs⟩:=x
   obtain⟨ar,nr,kr,rfl,_⟩:=id d3.sl
   go_wp2_with (first
    |(go_at_call 191;(with_reducible refine(test_any xo b xs s _ _ q1 q2 _ d3 hsr L1.out F1.out H2.out c1r c2r).mono ?_);rintro e9 w9 ⟨⟨b9,rfl,hb9⟩,hbel9⟩;have HB9:=zH hb9;clear hb9))
   have hbr9:=zaa hbr hbel9
   ·go_ret
    exact⟨⟨_,rfl,Or.inr ⟨k,hkl,rfl,by rw[HCX.out];exact HB9.out.1 (by assumption)⟩⟩,hbr9⟩
   ·have hbr9:=zaa hbr hbel9
    have HNH:Hid (∀ (j:Nat) (h:j<cl.length),j<k+1→¬hits b s cl[j]):=zH (fun j h h'=>by
     rcases Nat.lt_or_ge j k with h4 | h4
     ·exact HST.out j h h4
     ·obtain rfl:j=k:=by omega
      rw[HCX.out]
      intro h5
      have h6:=HB9.out.2 h5
      rename_i h7
      rw[h6]at h7
      cases h7)
    go_roundw
    case rel=>exact⟨k+1,by omega,by go_num,HNH.out,hbr9⟩
    case measure=>simp[intOf];omega
  ·obtain rfl:k=cl.length:=by omega
   go_wp2_with fail
   go_ret
   refine⟨⟨-1,rfl,Or.inl ⟨rfl,fun x hx=> ?_⟩⟩,hbr⟩
   obtain⟨j,hj,rfl⟩:=List.getElem_of_mem hx
   exact HST.out j hj hj
end Go.Proofs.YtlpdkbmmbdfoiaaGreat
namespace Go.Proofs.YtlpdkbmmbdfoiaaGreat
def zfx (bl:List Int) (f:Nat→List Rat) (nx:List Int):Prop:=
 okB nx∧nx.length=bl.length∧∀ (i j:Nat) (a b:Int),bl[i]? =some a→bl[j]? =some b→(nx[i]? =nx[j]? ↔a=b∧zyw a (f i) (f j))
theorem zrx {l:List Int} {c:Int} (h:okB l) (h0:0≤c) (h1:c≤(cnt l:Int)):okB (l++ [c]):=by
 intro k b hk
 have hk1:=(List.getElem?_eq_some_iff.1 hk).1
 rcases Nat.lt_or_ge k l.length with h2 | h2
 ·rw[List.getElem?_append_left h2]at hk
  rw[List.take_append_of_le_length (by omega)]
  exact h k b hk
 ·have h3:k=l.length:=by simp at hk1;omega
  subst h3
  rw[List.getElem?_append_right (Nat.le_refl _)]at hk
  simp at hk
  subst hk
  rw[List.take_append_of_le_length (Nat.le_refl _),List.take_length]
  exact⟨h0,h1⟩
structure ClsI (bl:List Int) (f:Nat→List Rat) (k:Nat) (nx:List Int) (cl:List (Int×List Rat)):Prop where
 len:nx.length=k
 ok:okB nx
 num:cl.length=cnt nx
 mem:∀i,i<k→∃ (c:Nat) (x:Int×List Rat) (b:Int),nx[i]? =some (c:Int)∧cl[c]? =some x∧bl[i]? =some b∧hits b (f i) x
 rep:∀ (c:Nat) (x:Int×List Rat),cl[c]? =some x→∃i,i<k∧nx[i]? =some (c:Int)∧bl[i]? =some x.1∧x.2=f i
 dis:∀ (c d:Nat) (x y:Int×List Rat),cl[c]? =some x→cl[d]? =some y→x.1=y.1→zyw x.1 x.2 y.2→c=d
theorem ClsI.zero (bl:List Int) (f:Nat→List Rat):ClsI bl f 0 [] []:=
 ⟨rfl,fun k b h=>by simp at h,rfl,fun i h=>by omega,fun c x h=>by simp at h,fun c d x y h=>by simp at h⟩
theorem ClsI.old {bl:List Int} {f:Nat→List Rat} {k:Nat} {nx:List Int} {cl:List (Int×List Rat)} (h:ClsI bl f k nx cl) {b:Int} (hk:bl[k]? =some b) {c:Nat} (hc:c<cl.length) (hh:hits b (f k) (cl[c]'hc)):
 ClsI bl f (k+1) (nx++ [(c:Int)]) cl:=by
 obtain⟨len,ok,num,mem,rep,dis⟩:=h
 refine⟨by simp[len],zrx ok (by omega) (by omega),?_,fun i hi=> ?_,fun d x hx=> ?_,dis⟩
 ·rw[zly,if_neg (by omega)];exact num
 ·rcases Nat.lt_or_ge i k with h1 | h1
  ·obtain⟨d,x,b',e1,e2,e3,e4⟩:=mem i h1
   exact⟨d,x,b',by rw[List.getElem?_append_left (by omega)];exact e1,e2,e3,e4⟩
  ·obtain rfl:i=k:=by omega
   exact⟨c,cl[c],b,by rw[List.getElem?_append_right (by omega),len];simp,List.getElem?_eq_getElem hc,hk,hh⟩
 ·obtain⟨i,e1,e2,e3,e4⟩:=rep d x hx
  exact⟨i,by omega,by rw[List.getElem?_append_left (by omega)];exact e2,e3,e4⟩
theorem ClsI.fresh {bl:List Int} {f:Nat→List Rat} {k:Nat} {nx:List Int} {cl:List (Int×List Rat)} (h:ClsI bl f k nx cl) {b:Int} (hk:bl[k]? =some b) (hh:∀x∈cl,¬hits b (f k) x):
 ClsI bl f (k+1) (nx++ [(cl.length:Int)]) (cl++ [(b,f k)]):=by
 obtain⟨len,ok,num,mem,rep,dis⟩:=h
 have key:∀ (c:Nat) (x:Int×List Rat),(cl++ [(b,f k)])[c]? =some x→(c<cl.length∧cl[c]? =some x)∨(c=cl.length∧x=(b,f k)):=fun c x hx=>by
  have h1:=(List.getElem?_eq_some_iff.1 hx).1
  rcases Nat.lt_or_ge c cl.length with h2 | h2
  ·rw[List.getElem?_append_left h2]at hx;exact Or.inl ⟨h2,hx⟩
  ·have h3:c=cl.length:=by simp at h1;omega
   subst h3
   rw[List.getElem?_append_right (Nat.le_refl _)]at hx
   simp at hx
   exact Or.inr ⟨rfl,hx.symm⟩
 refine⟨by simp[len],zrx ok (by omega) (by omega),?_,fun i hi=> ?_,fun d x hx=> ?_,fun c d x y hx hy h1 h2=> ?_⟩
 ·rw[zly,if_pos (by omega)];simp[num]
 ·rcases Nat.lt_or_ge i k with h1 | h1
  ·obtain⟨d,x,b',e1,e2,e3,e4⟩:=mem i h1
   exact⟨d,x,b',by rw[List.getElem?_append_left (by omega)];exact e1,by rw[List.getElem?_append_left (List.getElem?_eq_some_iff.1 e2).1];exact e2,e3,e4⟩
  ·obtain rfl:i=k:=by omega
   exact⟨cl.length,(b,f i),b,by rw[List.getElem?_append_right (by omega),len];simp,by rw[List.getElem?_append_right (Nat.le_refl _)];simp,hk,rfl,zyw.refl _ _⟩
 ·rcases key d x hx with⟨h1,h2⟩ | ⟨rfl,rfl⟩
  ·obtain⟨i,e1,e2,e3,e4⟩:=rep d x h2
   exact⟨i,by omega,by rw[List.getElem?_append_left (by omega)];exact e2,e3,e4⟩
  ·exact⟨k,by omega,by rw[List.getElem?_append_right (by omega),len];simp,hk,rfl⟩
 ·rcases key c x hx with⟨h3,h4⟩ | ⟨rfl,rfl⟩<;>rcases key d y hy with⟨h5,h6⟩ | ⟨rfl,rfl⟩
  ·exact dis c d x y h4 h6 h1 h2
  ·have h7:x.1=b:=h1
   rw[h7]at h2
   exact absurd ⟨h7,h2.symm⟩ (hh x (List.mem_of_getElem? h4))
  ·exact absurd ⟨h1.symm,h2⟩ (hh y (List.mem_of_getElem? h6))
  ·rfl
theorem ClsI.done {bl:List Int} {f:Nat→List Rat} {nx:List Int} {cl:List (Int×List Rat)} {n:Nat} (h:ClsI bl f bl.length nx cl) (hf:∀i,(f i).length=n):zfx bl f nx:=by
 obtain⟨len,ok,num,mem,rep,dis⟩:=h
 refine⟨ok,len,fun i j a b hi hj=> ?_⟩
 obtain⟨c,x,b1,e1,e2,e3,e4,e5⟩:=mem i (List.getElem?_eq_some_iff.1 hi).1
 obtain⟨d,y,b2,g1,g2,g3,g4,g5⟩:=mem j (List.getElem?_eq_some_iff.1 hj).1
 rw[hi]at e3
 injection e3 with e3
 rw[hj]at g3
 injection g3 with g3
 subst e3 g3
 obtain⟨i',_,_,_,x2⟩:=rep c x e2
 obtain⟨j',_,_,_,y2⟩:=rep d y g2
 have l1:(f i).length=x.2.length:=by rw[x2,hf,hf]
 have l2:(f j).length=y.2.length:=by rw[y2,hf,hf]
 have l3:x.2.length=(f i).length:=l1.symm
 constructor
 ·intro h
  rw[e1,g1]at h
  injection h with h
  have hcd:c=d:=by omega
  subst hcd
  rw[e2]at g2
  injection g2 with g2
  subst g2
  have hab:a=b:=e4.symm.trans g4
  subst hab
  exact⟨rfl,e5.trans g5.symm l1⟩
 ·rintro⟨rfl,h⟩
  have h1:zyw x.1 x.2 y.2:=by
   rw[e4]
   exact(e5.symm.trans h l3).trans g5 (by rw[l3,hf,hf])
  rw[e1,g1,dis c d x y e2 g2 (e4.trans g4.symm) h1]
theorem zuy {l:List Int} (h:okB l) (k:Nat):∀b:Nat,b<cnt (l.take k)→∃j,j<k∧l[j]? =some (b:Int):=by
 induction k with
 | zero=>intro b hb;simp[cnt]at hb
 | succ k ih=>
   intro b hb
   by_cases hk:k<l.length
   ·have hc:=zww l k hk
    by_cases h1:l[k]=(cnt (l.take k):Int)
    ·rw[if_pos h1]at hc
     by_cases h2:b=cnt (l.take k)
     ·exact⟨k,by omega,by rw[List.getElem?_eq_getElem hk,h1,h2]⟩
     ·obtain⟨j,h3,h4⟩:=ih b (by omega)
      exact⟨j,by omega,h4⟩
    ·rw[if_neg h1]at hc
     obtain⟨j,h3,h4⟩:=ih b (by omega)
     exact⟨j,by omega,h4⟩
   ·rw[List.take_of_length_le (by omega)]at hb
    have h5:cnt l=cnt (l.take k):=by rw[List.take_of_length_le (by omega)]
    obtain⟨j,h3,h4⟩:=ih b (by omega)
    exact⟨j,by omega,h4⟩
theorem okB_new {l:List Int} (h:okB l) {j k:Nat} {b:Int} (hj:l[j]? =some b) (hjk:j<k):b<(cnt (l.take k):Int):=by
 obtain⟨h1,h2⟩:=h j b hj
 obtain⟨h3,h4⟩:=List.getElem?_eq_some_iff.1 hj
 have h5:=zww l j h3
 have h6:=zcx l (show j+1≤k by omega)
 split at h5<;>omega
theorem zfx.mono {bl nx:List Int} {f:Nat→List Rat} (h:zfx bl f nx) (hok:okB bl) (k:Nat):cnt (bl.take k)≤cnt (nx.take k):=by
 obtain⟨h1,h2,h3⟩:=h
 induction k with
 | zero=>exact Nat.le_refl _
 | succ k ih=>
   by_cases hk:k<bl.length
   ·have hk2:k<nx.length:=by omega
    have hc:=zww bl k hk
    have hd:=zww nx k hk2
    by_cases h4:bl[k]=(cnt (bl.take k):Int)
    ·rw[if_pos h4]at hc
     by_cases h5:nx[k]=(cnt (nx.take k):Int)
     ·rw[if_pos h5]at hd;omega
     ·exfalso
      obtain⟨h6,h7⟩:=h1 k _ (List.getElem?_eq_getElem hk2)
      obtain⟨b,hb⟩:∃b:Nat,nx[k]=(b:Int):=⟨nx[k].toNat,by omega⟩
      obtain⟨j,h8,h9⟩:=zuy h1 k b (by omega)
      have hj:j<bl.length:=by omega
      have h10:=(h3 j k _ _ (List.getElem?_eq_getElem hj) (List.getElem?_eq_getElem hk)).1 (by rw[h9,List.getElem?_eq_getElem hk2,hb])
      have h11:=okB_new hok (List.getElem?_eq_getElem hj) h8
      rw[h10.1]at h11
      omega
    ·rw[if_neg h4]at hc
     have:=zwx nx k
     omega
   ·rw[List.take_of_length_le (by omega),List.take_of_length_le (by omega)]
    rw[List.take_of_length_le (by omega),List.take_of_length_le (by omega)]at ih
    exact ih
theorem zfx.cnt_le {bl nx:List Int} {f:Nat→List Rat} (h:zfx bl f nx) (hok:okB bl):cnt bl≤cnt nx:=by
 have:=h.mono hok bl.length
 rw[List.take_length,List.take_of_length_le (by have:=h.2.1;omega)]at this
 exact this
def zgx (c:RC):List Int:=c.lost.map (fun x=>if x=c.lost.getD 0 false then 0 else 1)
theorem okB_two {l:List Int} (h0:l[0]? =some 0) (h:∀x∈l,x=0∨x=1):okB l:=by
 intro k b hk
 have hm:=h b (List.mem_of_getElem? hk)
 have hk1:=(List.getElem?_eq_some_iff.1 hk).1
 cases k with
 | zero=>
   rw[h0]at hk
   injection hk with hk
   subst hk
   simp
 | succ k=>
   have h1:=zcx l (show 1≤k+1 by omega)
   have h2:=zww l 0 (by omega)
   have h3:l[0]'(by omega)=0:=by rw[List.getElem?_eq_getElem (by omega)]at h0;injection h0
   rw[if_pos (by rw[h3];rfl)]at h2
   have h4:cnt (l.take 0)=0:=rfl
   rw[h4]at h2
   have h5:cnt (l.take 1)=1:=h2
   omega
theorem lostB_ok {c:RC} (h:0<c.lost.length):okB (zgx c):=by
 refine okB_two ?_ (fun x hx=> ?_)
 ·simp[zgx,List.getElem?_map,List.getElem?_eq_getElem h,List.getD]
 ·obtain⟨y,_,rfl⟩:=List.mem_map.1 hx
  split
  ·exact Or.inl rfl
  ·exact Or.inr rfl
def sumF (c:RC) (bl:List Int):Nat→List Rat:=fun i=>ztw bl (zaq c i) (cnt bl)
inductive Refs (c:RC):List Int→Prop
 | zero:Refs c (zgx c)
 | step {bl nx:List Int}:Refs c bl→zfx bl (sumF c bl) nx→Refs c nx
def zox (c:RC) (nx:List Int):Prop:=∃bl,Refs c bl∧zfx bl (sumF c bl) nx∧cnt nx=cnt bl
theorem Refs.ok {c:RC} {bl:List Int} (h:Refs c bl) (hn:0<c.lost.length):okB bl∧bl.length=c.lost.length:=by
 induction h with
 | zero=>exact⟨lostB_ok hn,by simp[zgx]⟩
 | step _ h2 ih=>exact⟨h2.1,h2.2.1.trans ih.2⟩
theorem zkr (c:CQ) (i:Nat):zaq c.raw i=c.rates.getD i []:=by
 unfold zaq CQ.raw
 simp only[List.getD,List.getElem?_map]
 cases h:c.rates[i]? with
 | none=>rfl
 | some r=>simp[zbu]
theorem ziy (c:CQ):qs c.raw.start=c.start:=zbu _
end Go.Proofs.YtlpdkbmmbdfoiaaGreat
