/-
  Erlang's laws are valid and small. No program is walked here.
-/
import Derived.Test.YtlpdkbmmbdfoiaaGLi11
import Derived.Test.YtlpdkbmmbdfoiaaGEl2
import Derived.Test.YtlpdkbmmbdfoiaaGMu1
import Derived.Test.YtlpdkbmmbdfoiaaGLi9
import Derived.Test.YtlpdkbmmbdfoiaaGLi7
import Derived.Test.YtlpdkbmmbdfoiaaGPh13
import Derived.Test.YtlpdkbmmbdfoiaaGTa6
set_option linter.unusedVariables false
set_option linter.unusedSimpArgs false
namespace Go.Proofs.Ytlpdkbmmbdfoiaa
open Go.RowKit
set_option maxRecDepth 100000 in
set_option maxHeartbeats 3200000 in
theorem column_own (va:Value) (n m k:Nat) (A:Mx) (w:World) (ha:zam w va n m A) (hk:k<m) (hn:n≤1000) (hm:m≤1000):
 Calls Try.prog 65 #[va, .int .i64 k] w fun e w'=>∃v,e= .returned v∧zbb w' v (zib n (fun i=>A i k))∧Below w.heap.size w w'∧w.heap.size≤(base v).block:=by
 have sa:=ha.sl
 have la:=ha.len
 obtain⟨i0,hi,hz0,hz1,hz2⟩:=info_parts Try.infoF
 have hM:=zon (P:=Try.prog) 23 32 i0 Try.underlying23 hi hz0 hz1 (by rw[hz2];decide)
 clear hi hz0 hz1 hz2
 go_enter Try.func65,Try.ntmps65
 go_wp2_with (refine hM _ rfl _ _ rfl w.heap.size _ n rfl rfl rfl (by omega) (Nat.le_refl _) ?_;intro v w1 hown hb1 hvb;have sv:=hown.sl;have lv:=hown.len)
 clear hM
 go_loopw [12] (fun u12 wr=>∃ (i:Nat),i≤n∧u12= .int .i64 i∧zqb wr 32 w.heap.size v n∧(∀j,j<i→zlg wr v j (A j k))∧Below w.heap.size w wr) (fun u12 _=>n- (intOf u12).toNat)
 case atStart=>exact⟨0,Nat.zero_le _,rfl,hown,fun j h=>by omega,hb1⟩
 case round=>
  obtain⟨i,hin,rfl,ho,he,hbr⟩:=hrel
  clear hown hb1
  have HE:=zH he
  clear he
  by_cases hil:i<n
  ·obtain⟨ri,hc1,hr1⟩:=(ha.below hbr).row i hil
   have slI:=hr1.sl
   have lnI:slen ri=m:=by rw[hr1.len,zea]
   obtain⟨ea,eb,g1,g2,g3,g4,g5⟩:=hr1.at' k (by rw[zea];exact hk)
   rw[ztb]at g1 g4 g5
   obtain⟨ea1,ea2,ea3,rfl,_⟩:=g4.v.sl
   obtain⟨eb1,eb2,eb3,rfl,_⟩:=g5.v.sl
   have hF:zqa wr (.agg #[.bool (decide (A i k<0)), .slice ea1 ea2 ea3, .slice eb1 eb2 eb3]) (A i k):=⟨_,_,rfl,g4,g5⟩
   obtain⟨c0,d0,_⟩:=ho.cell (i*3) (by omega)
   obtain⟨c1,d1,_⟩:=ho.cell (i*3+1) (by omega)
   obtain⟨c2,d2,_⟩:=ho.cell (i*3+2) (by omega)
   have f0:=ho.frozen (i*3)
   have f1:=ho.frozen (i*3+1)
   have f2:=ho.frozen (i*3+2)
   have n01:=ho.inj (show i*3≠i*3+1 by omega)
   have n02:=ho.inj (show i*3≠i*3+2 by omega)
   have n12:=ho.inj (show i*3+1≠i*3+2 by omega)
   have hs3:=ho.set3 i (.bool (decide (A i k<0))) (.slice ea1 ea2 ea3) (.slice eb1 eb2 eb3) (fun z=>by simp) (fun z=>by simp) (fun z=>by simp)
   have HS3:=zH hs3
   have HF:=zH hF
   have HO:=zH ho
   clear hs3 hr1 g4 g5 hF ho
   have i1:(0:Int)≤(i:Int):=by omega
   have i2:(i:Int)<(n:Nat):=by omega
   have i3:(0:Int)≤(k:Int):=by omega
   have i4:(k:Int)<(m:Nat):=by omega
   go_wp2_with fail
   go_roundw
   case rel=>
    refine⟨i+1,hil,by go_num,HS3.out.1,fun j hj=> ?_,hbr.trans HS3.out.2⟩
    rcases Nat.lt_or_ge j i with h6 | h6
    ·exact zlg.set3_other HO.out hil (by omega) (HE.out j h6) _ _ _ (fun z=>by simp) (fun z=>by simp)
    ·obtain rfl:j=i:=by omega
     exact zlg.set3 HO.out hil HF.out
   case measure=>simp[intOf];omega
  ·obtain rfl:i=n:=by omega
   go_wp2_with fail
   go_ret
   exact⟨v,rfl,ho.fracs (zea _ _) (fun j hj=>by rw[zea]at hj;rw[ztb];exact HE.out j hj),hbr,ho.block.1⟩
def rawV (n:Nat) (b:Nat→Rat):List RF:=(zib n b).map RF.of
@[go_sem] theorem slen_lit (a : Option Addr) (n c : Nat) : slen (.slice a n c) = n := rfl
theorem column_zero (va:Value) (n:Nat) (A:Mx) (w:World) (ha:zam w va n 1 A) (hn:n≤1000):
 Calls Try.prog 65 #[va, .int .i64 0] w fun e w'=>∃v,e= .returned v∧zbb w' v (zib n (fun i=>A i 0))∧Below w.heap.size w w'∧w.heap.size≤(base v).block:=
 column_own va n 1 0 A w ha (by decide) hn (by decide)
def RSolveO (w0:World) (n:Nat) (S:St) (e:Ending) (w:World):Prop:=
 ∃v er,e= .returned (.tuple #[v, .int .i64 er])∧Below w0.heap.size w0 w∧(S.r<n→v= .slice none 0 0∧er=9)∧(¬S.r<n→er=0∧zbb w v (zib n (fun i=>S.A i n/S.A i i))∧w0.heap.size≤(base v).block)
structure RowsW (w:World) (B:Nat) (v:Value) (rs:List Value) (n k:Nat) (b:Nat→Rat):Prop where
 own:zlc w 23 B 1 v n rs
 row:∀ (i:Nat) (h:i<rs.length),i<k→zbb w rs[i] [b i]∧(base rs[i]).block≠(base v).block
theorem rawV_ok {n:Nat} {b:Nat→Rat} (hf:∀i,i<n→fits (b i)):∀x∈rawV n b,x.ok:=by
 intro x hx
 obtain⟨q,hq,rfl⟩:=List.mem_map.1 hx
 obtain⟨j,hj,rfl⟩:=List.mem_map.1 hq
 exact RF.of_ok (hf j (List.mem_range.1 hj))
theorem zrk (n:Nat) (b:Nat→Rat):(rawV n b).length=n:=by unfold rawV;rw[List.length_map,zea]
theorem zlc.cell_ne {w:World} {e:TypeId} {B size n:Nat} {v:Value} {xs:List Value} (h:zlc w e B size v n xs) (j:Nat) (hj:j<xs.length) (z:Int):xs[j]≠ .int .u32 z:=by
 rcases h.own.2 with⟨rfl,h0⟩ | ⟨g,cap,cur,rfl,hb,hg,hn,hm,hs,ht⟩
 ·have:=h.own.1;rw[h0]at this;omega
 ·refine h.nl g rfl cur e _ hg xs[j] ?_ z
  rw[←List.take_append_drop (n*size) cur.toList,ht]
  exact List.mem_append_left _ (List.getElem_mem hj)
set_option maxRecDepth 100000 in
set_option maxHeartbeats 6400000 in
theorem solve_own (va vb:Value) (n:Nat) (A:Mx) (b:Nat→Rat) (w:World) (ha:zam w va n n A) (hb:zbb w vb (zib n b)) (hn1:1≤n) (hn:n≤24) (hf:fitM n n A) (hfb:∀i,i<n→fits (b i)) (hw:wtF n n A+wts (qs (rawV n b))≤1900)
 (hX:slimE false n (n+1) n (zpa n A (fun i _=>b i))) (hq:∀i,i<n→(elim false n (zpa n A (fun i _=>b i)) n).r=n→(elim false n (zpa n A (fun i _=>b i)) n).A i i≠0∧fits ((elim false n (zpa n A (fun i _=>b i)) n).A i n/(elim false n (zpa n A (fun i _=>b i)) n).A i i)):
 Calls Try.prog 28 #[va,vb] w (RSolveO w n (elim false n (zpa n A (fun i _=>b i)) n)):=by
 obtain⟨i4,hi4,hz4,hs4,hy4⟩:=info_parts Try.infoRow
 have hMR:=zbi (P:=Try.prog) 24 23 i4 Try.underlying24 hi4 hz4 hs4 hy4
 clear hi4 hz4 hs4 hy4
 have hvec:vecP (rawV n b) n:=⟨rawV_ok hfb,zrk n b⟩
 have HV:=zH hvec
 have HF:=zH hf
 have HFB:=zH hfb
 have HX:=zH hX
 have HQ:=zH hq
 have hwi:(wtF n n A:Int)+(wts (qs (rawV n b)):Nat)≤1900:=by omega
 obtain⟨W1,hW1⟩:∃W,wtF n n A=W:=⟨_,rfl⟩
 obtain⟨W2,hW2⟩:∃W,wts (qs (rawV n b))=W:=⟨_,rfl⟩
 rw[hW1,hW2]at hwi
 have HW1:=zH hW1
 have HW2:Hid (wtsM [rawV n b]=W2):=zH (by rw[wtsM_one];exact hW2)
 have HRB:Hid (zni w vb (rawV n b)):=zH hb.raw
 obtain⟨vb1,vb2,vb3,rfl,_⟩:=id hb.sl
 have sa:=ha.sl
 have la:=ha.len
 have sb:=hb.sl
 have lb:slen (.slice vb1 vb2 vb3)=n:=by rw[hb.len,zea]
 have hvb2:vb2=n:=lb
 subst hvb2
 have HA:=zH ha
 have HB:=zH hb
 have i65:vb2≤65536:=by omega
 have i1000:vb2≤1000:=by omega
 have HO1:Hid (∀l∈ [rawV vb2 b],∀x∈l,x.ok):=zH (fun l hl x hx=>by
  have :l=rawV vb2 b:=by simpa using hl
  subst this;exact hvec.1 x hx)
 have HO2:Hid (∀l∈ [rawV vb2 b],l.length≤65536):=zH (fun l hl=>by
  have :l=rawV vb2 b:=by simpa using hl
  subst this;rw[zrk];exact i65)
 have HO3:Hid ([rawV vb2 b].length≤65536):=zH (by simp)
 clear hW1 hW2 ha hb hf hfb hX hq hw hvec lb
 go_enter Try.func28,Try.ntmps28
 go_wp2_with (first
  |(go_at_call 61;(with_reducible refine(square_lin va vb2 vb2 A _ HA.out hn1 hn hn1 hn HF.out rfl).mono ?_);rintro e1 w1 ⟨rfl,hb1⟩)
  |(go_at_call 62;(with_reducible refine(zfh _ (rawV vb2 b) vb2 _ (HRB.out.below hb1) i65).mono ?_);rw[decide_eq_true HV.out];rintro e2 w2 ⟨rfl,hb2⟩
    have hB2:=zaa hb1 hb2)
  |(go_at_call 63;first
    |((with_reducible refine(weight_lin va vb2 vb2 A _ (HA.out.below hB2) hn hn HF.out).mono ?_);rw[HW1.out];rintro e3 w3 ⟨rfl,hb3⟩
      have hB3:=zaa hB2 hb3
      have hb4:=zca w3 (.cells #[.slice vb1 vb2 vb3] 23)
      have hM4:=mat_one (zjf.new w3 #[.slice vb1 vb2 vb3] 23) (HRB.out.below (zaa hB3 hb4)))
    |((with_reducible refine(zfl _ [rawV vb2 b] _ hM4 HO1.out HO2.out HO3.out).mono ?_);rw[HW2.out];rintro e5 w5 ⟨rfl,hb5⟩
      have hB5:=zaa (zaa hB3 hb4) hb5
      clear hM4))
  |(refine hMR w5 rfl _ _ rfl w5.heap.size _ vb2 rfl rfl rfl (by omega) (Nat.le_refl _) ?_;intro vL w6 hO6 hb6
    have HO6:=zH hO6
    have HB6:=zH hb6
    have HB5:=zH hB5
    have slL:=hO6.sl
    have lnL:=hO6.len
    clear hO6 hb6 hB5 hb5 hb4 hB3 hb3 hB2 hb2 hb1))
 go_loopg [35] (vb2) (fun g u35 wr=>∃ (k:Nat) (rs:List Value),k≤vb2∧g=vb2-k∧u35= .int .i64 k∧RowsW wr w5.heap.size vL rs vb2 k b∧Below w5.heap.size w5 wr)
 case atStart=>exact⟨0,_,Nat.zero_le _,rfl,rfl,⟨HO6.out,fun i h h2=>by omega⟩,HB6.out⟩
 case round=>
  obtain⟨k,rs,hk,hg,rfl,hR,hbr⟩:=hrel
  obtain⟨w2,hw2⟩:∃w2,w2=wr:=⟨_,rfl⟩
  subst hw2
  have HG:=zH hg
  have HR:=zH hR
  have HBR:=zH hbr
  have hBw2:=zfa HB5.out hbr HB5.out.size
  clear HO6 HB6 hg
  by_cases hkl:k<vb2
  ·have hkd:k<(zib vb2 b).length:=by rw[zea];exact hkl
   obtain⟨ea,eb,g1,g2,g3,g4,g5⟩:=(HB.out.below hBw2).at' k hkd
   rw[ztb]at g1 g4 g5
   obtain⟨ea1,ea2,ea3,rfl,_⟩:=g4.v.sl
   obtain⟨eb1,eb2,eb3,rfl,_⟩:=g5.v.sl
   have hF:zqa w2 (.agg #[.bool (decide (b k<0)), .slice ea1 ea2 ea3, .slice eb1 eb2 eb3]) (b k):=⟨_,_,rfl,g4,g5⟩
   have hbA:=zca w2 (.cells #[.bool (decide (b k<0)), .slice ea1 ea2 ea3, .slice eb1 eb2 eb3] 32)
   have hbB:=zaa hbA (zca (w2.alloc (.cells #[.bool (decide (b k<0)), .slice ea1 ea2 ea3, .slice eb1 eb2 eb3] 32)) (.cells #[.bool (decide (b k<0)), .slice ea1 ea2 ea3, .slice eb1 eb2 eb3] 32))
   have hsz:(w2.alloc (.cells #[.bool (decide (b k<0)), .slice ea1 ea2 ea3, .slice eb1 eb2 eb3] 32)).heap.size=w2.heap.size+1:=by simp
   have hVN:=zjf.new (w2.alloc (.cells #[.bool (decide (b k<0)), .slice ea1 ea2 ea3, .slice eb1 eb2 eb3] 32)) #[.bool (decide (b k<0)), .slice ea1 ea2 ea3, .slice eb1 eb2 eb3] 32
   rw[hsz]at hVN
   have hNew:=fracs_one hVN (hF.below hbB)
   have hRl:rs.length=vb2:=by have:=hR.own.clen;omega
   have hkr:k<rs.length:=by rw[hRl];exact hkl
   obtain⟨s1,s2⟩:=(hR.own.below hbB).set1 k hkr (.slice (some ⟨w2.heap.size+1,0,none⟩) 1 1) (fun z=>by simp)
   have hcL:=(hR.own.below hbB).cell k hkr
   have hfL:=(hR.own.below hbB).frozen k hkr
   have hnl:∀z,rs[k]'hkr≠ .int .u32 z:=by
    obtain⟨g,hg1,_,_,_,_⟩:=hR.own.blk (by omega)
    intro z e
    have hx:=hR.own
    exact(zlc.cell_ne hx k hkr z) e
   have hLlt:(base vL).block<w2.heap.size:=by obtain⟨g,_,e2,_,e3,_⟩:=hR.own.blk (by omega);omega
   have hLge:w5.heap.size≤(base vL).block:=by obtain⟨g,_,e2,e3,_,_⟩:=hR.own.blk (by omega);omega
   have hpL:(ptr vL k).block=(base vL).block:=zsa _ _
   have hRS:RowsW (((w2.alloc (.cells #[.bool (decide (b k<0)), .slice ea1 ea2 ea3, .slice eb1 eb2 eb3] 32)).alloc (.cells #[.bool (decide (b k<0)), .slice ea1 ea2 ea3, .slice eb1 eb2 eb3] 32)).setCell (ptr vL k) (.slice (some ⟨w2.heap.size+1,0,none⟩) 1 1)) w5.heap.size vL (rs.set k (.slice (some ⟨w2.heap.size+1,0,none⟩) 1 1)) vb2 (k+1) b:=by
    refine⟨s1,fun i hi hik=> ?_⟩
    have hi0:i<rs.length:=by simpa using hi
    by_cases h1:i=k
    ·subst h1
     rw[List.getElem_set_self]
     have hb0:(base (.slice (some ⟨w2.heap.size+1,0,none⟩) 1 1)).block=w2.heap.size+1:=rfl
     exact⟨hNew.setc (by rw[hb0,hpL];omega) hcL hnl _,by rw[hb0];omega⟩
    ·rw[List.getElem_set_ne (fun e=>h1 e.symm)]
     obtain⟨r1,r2⟩:=hR.row i hi0 (by omega)
     exact⟨(r1.below hbB).setc (by rw[hpL];exact r2) hcL hnl _,r2⟩
   have HRS:=zH hRS
   have hBS:Below w5.heap.size w5 (((w2.alloc (.cells #[.bool (decide (b k<0)), .slice ea1 ea2 ea3, .slice eb1 eb2 eb3] 32)).alloc (.cells #[.bool (decide (b k<0)), .slice ea1 ea2 ea3, .slice eb1 eb2 eb3] 32)).setCell (ptr vL k) (.slice (some ⟨w2.heap.size+1,0,none⟩) 1 1)):=(zaa hbr hbB).setCell (by rw[hpL];exact hLge) _
   have HBS:=zH hBS
   clear hR hbr g4 g5 hF hbA hbB hVN hNew s1 s2 hnl hRS hBS hsz hBw2 hRl
   have i1:(0:Int)≤(k:Int):=by omega
   have i2:(k:Int)<(vb2:Nat):=by omega
   go_wp2_with fail
   go_roundg (vb2- (k+1))
   case measure=>(have:=HG.out;omega)
   case rel=>exact⟨k+1,_,by omega,rfl,by go_num,HRS.out,HBS.out⟩
  ·obtain rfl:k=vb2:=by omega
   have hML:zam w2 vL k 1 (fun i _=>b i):=⟨hR.own.sl,hR.own.len,fun i hi=>by
    have hi2:i<rs.length:=by have:=hR.own.clen;omega
    refine⟨rs[i],hR.own.cell i hi2,?_⟩
    have h:=(hR.row i hi2 hi).1
    exact h⟩
   obtain⟨l1,l2,l3,rfl,hl3⟩:=id hML.sl
   obtain⟨bd,rfl⟩:∃bd,l1=some bd:=by
    cases l1 with
    | none=>exfalso;have h1:=hML.len;have h2:=hl3.2.2 rfl;have h3:l2=k:=h1;omega
    | some bd=>exact⟨bd,rfl⟩
   have HML:=zH hML
   have HQ1:Hid (∀i,i<k→(elim false k (zpa k A (fun i _=>b i)) k).r=k→(elim false k (zpa k A (fun i _=>b i)) k).A i i≠0∧∀j,j<1→fits ((elim false k (zpa k A (fun i _=>b i)) k).A i (k+j)/(elim false k (zpa k A (fun i _=>b i)) k).A i i)):=zH (fun i hi h=>⟨(HQ.out i hi h).1,fun j hj=>by
    obtain rfl:j=0:=by omega
    exact(HQ.out i hi h).2⟩)
   have hA2:=HA.out.below hBw2
   have HBW:=zH hBw2
   clear hR hbr hML hBw2 hkl hl3
   by_cases hrk:(elim false k (zpa k A (fun i _=>b i)) k).r<k
   ·go_wp2_with (go_at_call 64;(with_reducible refine(right_lin va bd l2 l3 k 1 A (fun i _=>b i) _ hA2 HML.out hn1 hn (Nat.le_refl _) (by omega) HX.out HQ1.out).mono ?_);rintro e7 w7 ⟨v7,er7,rfl,hb7,hs7,_⟩;obtain⟨rfl,rfl⟩:=hs7 hrk;clear hs7)
    go_ret2
    exact⟨_,9,rfl,zaa HBW.out hb7,fun _=>⟨rfl,rfl⟩,fun h=>absurd hrk h⟩
   ·go_wp2_with (first
     |(go_at_call 64;(with_reducible refine(right_lin va bd l2 l3 k 1 A (fun i _=>b i) _ hA2 HML.out hn1 hn (Nat.le_refl _) (by omega) HX.out HQ1.out).mono ?_);rintro e7 w7 ⟨v7,er7,rfl,hb7,_,hs7⟩;obtain⟨rfl,hm7⟩:=hs7 hrk;clear hs7)
     |(go_at_call 65;(with_reducible refine(column_zero v7 k _ _ hm7 i1000).mono ?_);rintro e8 w8 ⟨v8,rfl,hf8,hb8,hn8⟩))
    go_ret2
    exact⟨v8,0,rfl,zaa (zaa HBW.out hb7) hb8,fun h=>absurd h hrk,fun _=>⟨rfl,hf8,Nat.le_trans (zaa HBW.out hb7).size hn8⟩⟩
section
variable {n:Nat} {A:Mx} {b:Nat→Rat}
def solE (n:Nat) (A:Mx) (b:Nat→Rat) (i:Nat):Rat:=(elim false n (zpa n A (fun i _=>b i)) n).A i n/(elim false n (zpa n A (fun i _=>b i)) n).A i i
theorem sol_eq (h:(elim false n (zpa n A (fun i _=>b i)) n).r=n):∀i,i<n→sg n (fun j=>A i j*solE n A b j)=b i:=by
 intro i hi
 exact znl (A:=A) (B:=fun i _=>b i) h (c:=1) (q:=0) (by omega) i hi
end
structure SysOk (n:Nat) (A:Mx) (b x:Nat→Rat):Prop where
 n1:1≤n
 n24:n≤24
 fA:fitM n n A
 fb:∀i,i<n→fits (b i)
 fx:∀i,i<n→fits (x i)
 w:wtF n n A+wts (zib n b)≤1900
 reg:dt n A≠0
 slim:slimE false n (n+1) n (zpa n A (fun i _=>b i))
 eq:∀i,i<n→sg n (fun j=>A i j*x j)=b i
theorem solve_reg (va vb:Value) (n:Nat) (A:Mx) (b x:Nat→Rat) (w:World) (ha:zam w va n n A) (hb:zbb w vb (zib n b)) (h:SysOk n A b x):
 Calls Try.prog 28 #[va,vb] w fun e w'=>∃v,e= .returned (.tuple #[v, .int .i64 0])∧zbb w' v (zib n x)∧Below w.heap.size w w'∧w.heap.size≤(base v).block:=by
 have hr:=zff (B:=fun i _=>b i) h.reg
 have hx:∀i,i<n→solE n A b i=x i:=fun i hi=>by
  rw[zqi h.reg (sol_eq hr) hi,zqi h.reg h.eq hi]
 refine(solve_own va vb n A b w ha hb h.n1 h.n24 h.fA h.fb (by have:=h.w;unfold rawV;rw[zvh];exact this) h.slim (fun i hi _=> ?_)).mono fun e w' ⟨v,er,he,hbl,_,h2⟩=> ?_
 ·exact⟨(zad hr n (Nat.le_refl _)).2.1 i hi,by have h3:=hx i hi;unfold solE at h3;rw[h3];exact h.fx i hi⟩
 ·obtain⟨rfl,h4,h5⟩:=h2 (by rw[hr];exact Nat.lt_irrefl n)
  refine⟨v,he,?_,hbl,h5⟩
  have e1:zib n (fun i=>(elim false n (zpa n A fun i _=>b i) n).A i n/(elim false n (zpa n A fun i _=>b i) n).A i i)=zib n x:=zdf fun i hi=>hx i hi
  rw[e1]at h4
  exact h4
end Go.Proofs.Ytlpdkbmmbdfoiaa
namespace Go.Proofs.Ytlpdkbmmbdfoiaa
def rtQ (l:LQ):Mx:=fun i j=>(l.rates.getD i []).getD j 0
def exQ (l:LQ) (i:Nat):Rat:=l.exit.getD i 0
def stQ (l:LQ) (i:Nat):Rat:=l.start.getD i 0
def phA (l:LQ):Mx:=fun i j=>if i=j then zxf l i else 0-rtQ l i j
section
variable {l:LQ}
theorem zxb.rget (h:zxb l) {i:Nat} (hi:i<l.start.length):l.rates.getD i []=l.rates[i]'(h.rlen hi):=by
 rw[List.getD_eq_getElem?_getD,List.getElem?_eq_getElem (h.rlen hi)];rfl
theorem zxb.rowlen (h:zxb l) {i:Nat} (hi:i<l.start.length):(l.rates.getD i []).length=l.start.length:=by
 rw[h.rget hi];exact(h.row i (h.rlen hi)).1
theorem zii {q:List Rat} {i:Nat} (hi:i<q.length):q.getD i 0∈q:=by
 rw[List.getD_eq_getElem?_getD,List.getElem?_eq_getElem hi];exact List.getElem_mem hi
theorem zxb.rt_lim (h:zxb l) {i j:Nat} (hi:i<l.start.length) (hj:j<l.start.length):zvg (rtQ l i j):=by
 have h1:j<(l.rates.getD i []).length:=by rw[h.rowlen hi];exact hj
 have h2:=zii h1
 rw[h.rget hi]at h2
 unfold rtQ
 rw[h.rget hi]
 exact(h.row i (h.rlen hi)).2.1 _ h2
theorem zxb.ex_lim (h:zxb l) {i:Nat} (hi:i<l.start.length):zvg (exQ l i):=h.ex _ (zii (by rw[h.el];exact hi))
theorem zxb.st_lim (h:zxb l) {i:Nat} (hi:i<l.start.length):zvg (stQ l i):=h.st _ (zii hi)
theorem zxb.rt_diag (h:zxb l) {i:Nat} (hi:i<l.start.length):rtQ l i i=0:=by
 unfold rtQ
 rw[h.rget hi]
 exact(h.row i (h.rlen hi)).2.2
theorem zxb.out_sg (h:zxb l) {i:Nat} (hi:i<l.start.length):zxf l i=sg l.start.length (rtQ l i)+exQ l i:=by
 unfold zxf
 rw[zgl,zup,h.rowlen hi]
 rfl
theorem zxb.escP (h:zxb l):∀i,i<l.start.length→∃k,esc l.start.length (rtQ l) (zxf l) k i:=by
 obtain⟨d,hd⟩:=h.ends
 have key:∀m i,i<l.start.length→d i≤m→∃k,esc l.start.length (rtQ l) (zxf l) k i:=by
  intro m
  induction m with
  | zero=>
    intro i hi hm
    obtain⟨_,h1 | ⟨j,_,_,h4⟩⟩:=hd i hi
    ·refine⟨0,?_⟩
     show sg _ _<_
     rw[h.out_sg hi]
     have h1':0<exQ l i:=h1
     grind
    ·omega
  | succ m ih=>
    intro i hi hm
    obtain⟨_,h1 | ⟨j,h2,h3,h4⟩⟩:=hd i hi
    ·refine⟨0,?_⟩
     show sg _ _<_
     rw[h.out_sg hi]
     have h1':0<exQ l i:=h1
     grind
    ·obtain⟨k,hk⟩:=ih j h2 (by omega)
     exact⟨k+1,Or.inr ⟨j,h2,h3,hk⟩⟩
 intro i hi
 exact key _ i hi (Nat.le_refl _)
theorem phA_mm (l:LQ):phA l=mmA (rtQ l) (zxf l):=by
 funext i j
 unfold phA mmA
 split
 ·rfl
 ·grind
theorem zxb.le_out (h:zxb l) {i:Nat} (hi:i<l.start.length):sg l.start.length (rtQ l i)≤zxf l i:=by
 rw[h.out_sg hi]
 have:=(h.ex_lim hi).1
 grind
theorem zxb.reg (h:zxb l):dt l.start.length (phA l)≠0:=by
 rw[phA_mm]
 exact mm_dt (fun i hi=>h.rt_diag hi) (fun i j hi hj=>(h.rt_lim hi hj).1) (fun i hi=>h.le_out hi) h.escP
theorem zxb.nonneg (h:zxb l) {x b:Nat→Rat} (hb:∀i,i<l.start.length→0≤b i) (hx:∀i,i<l.start.length→sg l.start.length (fun j=>phA l i j*x j)=b i):∀i,i<l.start.length→0≤x i:=by
 rw[phA_mm]at hx
 exact mm_nonneg (fun i hi=>h.rt_diag hi) (fun i j hi hj=>(h.rt_lim hi hj).1) (fun i hi=>h.le_out hi) h.escP hb hx
def zpm (l:LQ):Nat→Nat→Rat
 | 0=>fun _=>1
 | m+1=>solE l.start.length (phA l) (zpm l m)
theorem zxb.mom_eq (h:zxb l) (m:Nat):∀i,i<l.start.length→sg l.start.length (fun j=>phA l i j*zpm l (m+1) j)=zpm l m i:=
 sol_eq (zff (B:=fun i _=>zpm l m i) h.reg)
structure MomP (l:LQ) (n:Nat) (f:Nat):Prop where
 sys:∀m,m<n→SysOk l.start.length (phA l) (zpm l m) (zpm l (m+1))
 sca:ScaP l.start (zib l.start.length (zpm l n)) f
structure SmL (D B:Nat) (l:LQ):Prop where
 r:∀i j,i<l.start.length→j<l.start.length→over D B (rtQ l i j)
 e:∀i,i<l.start.length→over D B (exQ l i)
theorem SmL.out {D B:Nat} (hs:SmL D B l) (h:zxb l) (hD:D≠0) {i:Nat} (hi:i<l.start.length):over D (5*B) (zxf l i):=by
 rw[h.out_sg hi]
 refine(over.add hD (over.sg hD fun j hj=>hs.r i j hi hj) (hs.e i hi)).mono ?_
 have h1:=Nat.mul_le_mul_right B h.n4
 omega
theorem SmL.phA {D B:Nat} (hs:SmL D B l) (h:zxb l) (hD:D≠0):overT l.start.length l.start.length D (5*B) (phA l):=fun i j hi hj=>by
 unfold Go.Proofs.Ytlpdkbmmbdfoiaa.phA
 split
 ·exact hs.out h hD hi
 ·exact(over.sub hD (over.zero D 0) (hs.r i j hi hj)).mono (by omega)
end
section
variable (a b:LQ)
def bfN :Nat:=a.start.length*b.start.length
def bf1 (i j k:Nat):Nat→Rat:=fun c=>if c=i*b.start.length+j then zxf a i+zxf b j else if c%b.start.length=j∧c/b.start.length<k then 0-rtQ a i (c/b.start.length)else 0
def bf2 (i j k:Nat):Nat→Rat:=fun c=>if c=i*b.start.length+j then zxf a i+zxf b j else if c%b.start.length=j then 0-rtQ a i (c/b.start.length)else if c/b.start.length=i∧c%b.start.length<k then 0-rtQ b j (c%b.start.length)else 0
def bfA :Mx:=fun r=>bf2 a b (r/b.start.length) (r%b.start.length) b.start.length
def bfR (r:Nat):Rat:=exQ a (r/b.start.length)
def bfS (r:Nat):Rat:=stQ a (r/b.start.length)*stQ b (r%b.start.length)
def zyg :Nat→Rat:=solE (bfN a b) (bfA a b) (bfR a b)
def befQ :Rat:=zvn (zib (bfN a b) (bfS a b)) (zib (bfN a b) (zyg a b)) (bfN a b)*fq false 1 1
structure BefP :Prop where
 sys:SysOk (bfN a b) (bfA a b) (bfR a b) (zyg a b)
 sca:ScaP (zib (bfN a b) (bfS a b)) (zib (bfN a b) (zyg a b)) 1
end
theorem zbe {n i j:Nat} (hj:j<n):(i*n+j)/n=i:=by
 rw[Nat.mul_comm,Nat.mul_add_div (by omega),Nat.div_eq_of_lt hj,Nat.add_zero]
theorem zyf {n i j:Nat} (hj:j<n):(i*n+j)%n=j:=by
 rw[Nat.mul_comm,Nat.mul_add_mod,Nat.mod_eq_of_lt hj]
theorem zao {m n i j:Nat} (hi:i<m) (hj:j<n):i*n+j<m*n:=by
 have h:=Nat.mul_le_mul_right n (show i+1≤m from hi)
 rw[Nat.add_mul]at h
 omega
theorem at_eq {n c:Nat}:(c/n)*n+c%n=c:=by
 rw[Nat.mul_comm];exact Nat.div_add_mod c n
section
variable {a b:LQ}
theorem bf1_start {i j c:Nat}:bf1 a b i j 0 c=if c=i*b.start.length+j then zxf a i+zxf b j else 0:=by
 unfold bf1
 by_cases h:c=i*b.start.length+j
 ·rw[if_pos h,if_pos h]
 ·rw[if_neg h,if_neg h,if_neg (fun h=>absurd h.2 (Nat.not_lt_zero _))]
theorem bf1_step (ha:zxb a) {i j k:Nat} (hi:i<a.start.length) (hj:j<b.start.length):bf1 a b i j k (k*b.start.length+j)-rtQ a i k=bf1 a b i j (k+1) (k*b.start.length+j):=by
 unfold bf1
 rw[zbe hj,zyf hj]
 by_cases h:k=i
 ·subst h
  rw[if_pos rfl,if_pos rfl,ha.rt_diag hi]
  grind
 ·have h2:¬k*b.start.length+j=i*b.start.length+j:=fun e=>by
   have h3:k*b.start.length=i*b.start.length:=by omega
   exact h (Nat.eq_of_mul_eq_mul_right (by omega) h3)
  rw[if_neg h2,if_neg h2,if_neg (fun h=>absurd h.2 (Nat.lt_irrefl _)),if_pos ⟨rfl,Nat.lt_succ_self _⟩]
theorem bf1_other {i j k c:Nat} (hj:j<b.start.length) (hc:c≠k*b.start.length+j):bf1 a b i j k c=bf1 a b i j (k+1) c:=by
 unfold bf1
 by_cases h:c=i*b.start.length+j
 ·rw[if_pos h,if_pos h]
 ·rw[if_neg h,if_neg h]
  by_cases h2:c%b.start.length=j∧c/b.start.length<k
  ·rw[if_pos h2,if_pos ⟨h2.1,Nat.lt_succ_of_lt h2.2⟩]
  ·rw[if_neg h2]
   by_cases h3:c%b.start.length=j∧c/b.start.length<k+1
   ·exfalso
    have h4:c/b.start.length=k:=Nat.le_antisymm (Nat.lt_succ_iff.1 h3.2) (Nat.not_lt.1 fun h=>h2 ⟨h3.1,h⟩)
    exact hc (by rw[←h4,←h3.1];exact at_eq.symm)
   ·rw[if_neg h3]
theorem bf_meet {i j c:Nat} (hc:c<bfN a b):bf1 a b i j a.start.length c=bf2 a b i j 0 c:=by
 have h4:c/b.start.length<a.start.length:=Nat.div_lt_of_lt_mul (by rw[Nat.mul_comm];exact hc)
 unfold bf1 bf2
 by_cases h:c=i*b.start.length+j
 ·rw[if_pos h,if_pos h]
 ·rw[if_neg h,if_neg h]
  by_cases h2:c%b.start.length=j
  ·rw[if_pos ⟨h2,h4⟩,if_pos h2]
  ·rw[if_neg (fun h=>h2 h.1),if_neg h2,if_neg (fun h=>absurd h.2 (Nat.not_lt_zero _))]
theorem bf2_step (hb:zxb b) {i j k:Nat} (hj:j<b.start.length) (hk:k<b.start.length):bf2 a b i j k (i*b.start.length+k)-rtQ b j k=bf2 a b i j (k+1) (i*b.start.length+k):=by
 unfold bf2
 rw[zbe hk,zyf hk]
 by_cases h:k=j
 ·subst h
  rw[if_pos rfl,if_pos rfl,hb.rt_diag hj]
  grind
 ·have h2:¬i*b.start.length+k=i*b.start.length+j:=fun e=>h (by omega)
  rw[if_neg h2,if_neg h2,if_neg h,if_neg (fun h=>absurd h.2 (Nat.lt_irrefl _)),if_neg h,if_pos ⟨rfl,Nat.lt_succ_self _⟩]
theorem bf2_other {i j k c:Nat} (hc:c≠i*b.start.length+k):bf2 a b i j k c=bf2 a b i j (k+1) c:=by
 unfold bf2
 by_cases h:c=i*b.start.length+j
 ·rw[if_pos h,if_pos h]
 ·rw[if_neg h,if_neg h]
  by_cases h1:c%b.start.length=j
  ·rw[if_pos h1,if_pos h1]
  ·rw[if_neg h1,if_neg h1]
   by_cases h2:c/b.start.length=i∧c%b.start.length<k
   ·rw[if_pos h2,if_pos ⟨h2.1,Nat.lt_succ_of_lt h2.2⟩]
   ·rw[if_neg h2]
    by_cases h3:c/b.start.length=i∧c%b.start.length<k+1
    ·exfalso
     have h4:c%b.start.length=k:=Nat.le_antisymm (Nat.lt_succ_iff.1 h3.2) (Nat.not_lt.1 fun h=>h2 ⟨h3.1,h⟩)
     exact hc (by rw[←h4,←h3.1];exact at_eq.symm)
    ·rw[if_neg h3]
theorem lsum_app (l:List Rat):∀m:List Rat,zgg (l++m)=zgg l+zgg m:=by
 intro m
 have key:∀ (m:List Rat) (x:Rat),List.foldl (· + ·) x m=x+List.foldl (· + ·) 0 m:=by
  intro m
  induction m with
  | nil=>intro x;show x=x+0;grind
  | cons y m ih=>
    intro x
    show List.foldl (· + ·) (x+y) m=x+List.foldl (· + ·) (0+y) m
    rw[ih (x+y),ih (0+y)]
    grind
 unfold zgg
 rw[List.foldl_append]
 exact key m _
theorem outQ_fits (ha:zxb a) {i:Nat} (hi:i<a.start.length):fits (zxf a i):=by
 have h:=ha.outL hi
 refine lim_sum (List.Sublist.refl _) h ?_
 rw[List.length_append,ha.rowlen hi]
 have:=ha.n4
 simp;omega
theorem zyk (ha:zxb a) (hb:zxb b) {i j:Nat} (hi:i<a.start.length) (hj:j<b.start.length):fits (zxf a i+zxf b j):=by
 have h1:=ha.outL hi
 have h2:=hb.outL hj
 unfold zxf
 rw[←lsum_app]
 refine lim_sum (List.Sublist.refl _) (fun q hq=> ?_) ?_
 ·rcases List.mem_append.1 hq with h | h
  ·exact h1 q h
  ·exact h2 q h
 ·rw[List.length_append,List.length_append,List.length_append,ha.rowlen hi,hb.rowlen hj]
  have:=ha.n4
  have:=hb.n4
  simp;omega
theorem fits_ng {q:Rat} (h:fits q):fits (0-q):=by
 rw[Rat.sub_eq_add_neg,Rat.zero_add]
 exact⟨by rw[Rat.neg_num,Int.natAbs_neg];exact h.1,h.2⟩
theorem bf1_fits (ha:zxb a) (hb:zxb b) {i j k c:Nat} (hi:i<a.start.length) (hj:j<b.start.length) (hc:c<bfN a b):fits (bf1 a b i j k c):=by
 have h4:c/b.start.length<a.start.length:=Nat.div_lt_of_lt_mul (by rw[Nat.mul_comm];exact hc)
 unfold bf1
 split
 ·exact zyk ha hb hi hj
 ·split
  ·exact fits_ng (ha.rt_lim hi h4).fits
  ·decide
theorem bf2_fits (ha:zxb a) (hb:zxb b) {i j k c:Nat} (hi:i<a.start.length) (hj:j<b.start.length) (hc:c<bfN a b):fits (bf2 a b i j k c):=by
 have h4:c/b.start.length<a.start.length:=Nat.div_lt_of_lt_mul (by rw[Nat.mul_comm];exact hc)
 have h5:c%b.start.length<b.start.length:=Nat.mod_lt _ (by omega)
 unfold bf2
 split
 ·exact zyk ha hb hi hj
 ·split
  ·exact fits_ng (ha.rt_lim hi h4).fits
  ·split
   ·exact fits_ng (hb.rt_lim hj h5).fits
   ·decide
end
theorem zrl {A B:Nat} (h:A≤B):∀n,dtB n A≤dtB n B
 | 0=>Nat.le_refl _
 | n+1=>Nat.mul_le_mul_left _ (Nat.mul_le_mul h (zrl h n))
theorem bD_mono {D E β:Nat} (h:D≤E):bD D β≤bD E β:=by
 unfold bD
 exact Nat.mul_le_mul (Nat.mul_le_mul (Nat.mul_le_mul_right _ h) h) (Nat.mul_le_mul_left _ h)
theorem bW_mono {n D E B C β:Nat} (h:D≤E) (h2:B≤C):bW n D B β≤bW n E C β:=by
 unfold bW
 exact Nat.add_le_add (Nat.mul_le_mul h2 (Nat.mul_le_mul_left _ h)) (Nat.mul_le_mul_left _ (Nat.mul_le_mul (Nat.mul_le_mul_left _ (Nat.mul_le_mul_right _ h2)) h2))
theorem bN_mono {n D E B C β:Nat} (h:D≤E) (h2:B≤C):bN n D B β≤bN n E C β:=by
 unfold bN
 exact Nat.add_le_add (bW_mono h h2) (Nat.mul_le_mul_left _ (Nat.mul_le_mul (Nat.mul_le_mul_right _ (bW_mono h h2)) h2))
theorem slimR.mono2 {n D0 B0 β F0 K0 D B F K:Nat} (h:slimR n D0 B0 β F0 K0) (d1:D≠0) (d2:D≤D0) (b1:D≤B) (b2:B≤B0) (f1:1≤F) (f2:F≤F0) (k1:1≤K) (k2:K≤K0):slimR n D B β F K:=by
 obtain⟨a1,a2,a3,a4,a5,a6,a7,a8,a9⟩:=h
 have hD:bD D β≤bD D0 β:=bD_mono d2
 have hW:bW n D B β≤bW n D0 B0 β:=bW_mono d2 b2
 have hN:bN n D B β≤bN n D0 B0 β:=bN_mono d2 b2
 have hx:bD D β*bN n D B β*(bD D β*F)≤bD D0 β*bN n D0 B0 β*(bD D0 β*F0):=Nat.mul_le_mul (Nat.mul_le_mul hD hN) (Nat.mul_le_mul hD f2)
 refine⟨Nat.le_trans (zrl b2 n) a1,d1,b1,f1,k1,Nat.lt_of_le_of_lt ?_ a6,Nat.lt_of_le_of_lt ?_ a7,Nat.lt_of_le_of_lt ?_ a8,Nat.lt_of_le_of_lt ?_ a9⟩
 ·exact Nat.mul_le_mul (Nat.mul_le_mul hD f2) hx
 ·exact Nat.add_le_add (Nat.mul_le_mul (Nat.mul_le_mul hN k2) hx) (Nat.mul_le_mul (Nat.mul_le_mul (Nat.mul_le_mul hN hD) (Nat.mul_le_mul hN k2)) (Nat.mul_le_mul hD f2))
 ·exact Nat.pow_le_pow_left (Nat.mul_le_mul (Nat.mul_le_mul_right _ d2) d2) n
 ·exact Nat.pow_le_pow_left hW n
theorem slim4R :∀n,n<5→slimR n 6720 1814400 (dtB n 1814400) (2^90) (2^92):=by
 intro n hn
 have h:∀n,n<5→(bD 6720 (dtB n 1814400)*2^90*(bD 6720 (dtB n 1814400)*bN n 6720 1814400 (dtB n 1814400)*(bD 6720 (dtB n 1814400)*2^90))<2^4096∧
  bN n 6720 1814400 (dtB n 1814400)*2^92*(bD 6720 (dtB n 1814400)*bN n 6720 1814400 (dtB n 1814400)*(bD 6720 (dtB n 1814400)*2^90))+bN n 6720 1814400 (dtB n 1814400)*bD 6720 (dtB n 1814400)*(bN n 6720 1814400 (dtB n 1814400)*2^92)*(bD 6720 (dtB n 1814400)*2^90)<2^4096∧
  (6720*dtB n 1814400*6720)^n<2^4096∧(bW n 6720 1814400 (dtB n 1814400))^n<2^4096):=by decide+kernel
 obtain⟨h1,h2,h3,h4⟩:=h n hn
 exact⟨Nat.le_refl _,by decide,by decide,by decide+kernel,by decide+kernel,h1,h2,h3,h4⟩
theorem dtB4 :∀n,n<5→dtB n 1814400<2^89:=by decide+kernel
section
variable {n D B:Nat} {A:Mx}
structure SmS (n D B:Nat) (A:Mx):Prop where
 n1:1≤n
 n4:n≤4
 d0:D≠0
 d1:D≤6720
 b0:D≤B
 b1:B≤1814400
 a:overT n n D B A
 reg:dt n A≠0
theorem zwc {a x:Nat} (h:x<2^a) (ha:a≤4096):x<2^4096:=by
 generalize 4096=m at *
 exact Nat.lt_of_lt_of_le h (Nat.pow_le_pow_right (by decide) ha)
theorem SmS.fitA (h:SmS n D B A):fitM n n A:=fun i j hi hj=>(h.a i j hi hj).fits h.d0 (zwc (a:=21) (Nat.lt_of_le_of_lt h.b1 (by decide)) (by decide)) (zwc (a:=13) (Nat.lt_of_le_of_lt h.d1 (by decide)) (by decide))
theorem SmS.wtA (h:SmS n D B A):wtF n n A≤544:=by
 have h1:=wtF_le (K:=34) (n:=n) (m:=n) (A:=A) fun i j hi hj=>(h.a i j hi hj).wt (a:=21) (b:=13) h.d0 (Nat.lt_of_le_of_lt h.b1 (by decide)) (Nat.lt_of_le_of_lt h.d1 (by decide))
 have h2:n*(n*34)≤4*(4*34):=Nat.mul_le_mul h.n4 (Nat.mul_le_mul_right _ h.n4)
 omega
theorem SmS.sol (h:SmS n D B A) {F K:Nat} {b x:Nat→Rat} (hF:F≠0) (hb:∀i,i<n→over F K (b i)) (hx:∀i,i<n→sg n (fun j=>A i j*x j)=b i):
 ∃E,E≠0∧E<2^89∧∀i,i<n→over (E*F) (2^91*K) (x i):=by
 obtain⟨E,h1,h2,h3⟩:=sol_gen h.d0 h.b0 h.a h.reg hF hb hx
 have h4:=dtB4 n (by have:=h.n4;omega)
 have h5:=Nat.lt_of_le_of_lt (zrl h.b1 n) h4
 refine⟨E,h1,Nat.lt_of_le_of_lt h2 h5,fun i hi=>(h3 i hi).mono ?_⟩
 have h6:n*(dtB n B*K)≤4*(2^89*K):=Nat.mul_le_mul h.n4 (Nat.mul_le_mul_right _ (Nat.le_of_lt h5))
 refine Nat.le_trans h6 (Nat.le_of_eq ?_)
 rw[←Nat.mul_assoc]
theorem SmS.slim (h:SmS n D B A) {F K:Nat} {b:Nat→Rat} (hF:F≠0) (hF2:F≤2^90) (hK1:1≤K) (hK:K≤2^92) (hb:∀i,i<n→over F K (b i)):slimE false n (n+1) n (zpa n A (fun i _=>b i)):=by
 have hx:=(slim4R n (by have:=h.n4;omega)).mono2 h.d0 h.d1 h.b0 h.b1 (Nat.pos_of_ne_zero hF) hF2 hK1 hK
 refine slimE_right hx (by have:=h.n1;omega) (Nat.le_succ n) (fun i j hi hj=> ?_) (fun i j hi hj1 hj2=> ?_) (zff (B:=fun i _=>b i) h.reg)
 ·rw[zae hj];exact h.a i j hi hj
 ·have e:zpa n A (fun i _=>b i) i j=b i:=by unfold zpa;rw[if_neg (Nat.not_lt.2 hj1)]
  rw[e]
  have h1:=over.scale (m:=D) h.d0 (hb i hi)
  rw[Nat.mul_comm F D]at h1
  refine h1.mono ?_
  rw[Nat.mul_comm B K]
  exact Nat.mul_le_mul_left _ h.b0
theorem SmS.sys (h:SmS n D B A) {F K:Nat} {b x:Nat→Rat} (hF:F≠0) (hF2:F<2^90) (hK1:1≤K) (hK:K<2^92) (hb:∀i,i<n→over F K (b i)) (hx:∀i,i<n→sg n (fun j=>A i j*x j)=b i):SysOk n A b x:=by
 obtain⟨E,e1,e2,e3⟩:=h.sol hF hb hx
 refine⟨h.n1,by have:=h.n4;omega,h.fitA,fun i hi=>(hb i hi).fits hF (zwc (a:=92) hK (by decide)) (zwc (a:=90) hF2 (by decide)),fun i hi=>(e3 i hi).fits (Nat.mul_ne_zero e1 hF) (zwc (a:=183) ?_ (by decide)) (zwc (a:=179) ?_ (by decide)),?_,h.reg,h.slim hF (Nat.le_of_lt hF2) hK1 (Nat.le_of_lt hK) hb,hx⟩
 ·have :2^91*K<2^91*2^92:=Nat.mul_lt_mul_of_pos_left hK (by decide+kernel)
  exact Nat.lt_of_lt_of_le this (by decide+kernel)
 ·have :E*F≤2^89*F:=Nat.mul_le_mul_right _ (Nat.le_of_lt e2)
  have h2:2^89*F<2^89*2^90:=Nat.mul_lt_mul_of_pos_left hF2 (by decide+kernel)
  exact Nat.lt_of_lt_of_le (Nat.lt_of_le_of_lt this h2) (by decide+kernel)
 ·have h1:=h.wtA
  have h2:=wts_all3 (l:=zib n b) (K:=182) fun q hq=>by
   unfold zib at hq
   obtain⟨i,hi,rfl⟩:=List.mem_map.1 hq
   exact(hb i (List.mem_range.1 hi)).wt (a:=92) (b:=90) hF hK hF2
  rw[zea]at h2
  have:=h.n4
  omega
end
theorem zeg :over 1 1 1:=over.one (by decide)
section
variable {l:LQ} {D B:Nat}
theorem zxb.sms (h:zxb l) (hs:SmL D B l) (hD:D≠0) (hD1:D≤6720) (hB:D≤5*B) (hB1:5*B≤1814400):SmS l.start.length D (5*B) (phA l):=
 ⟨h.n1,h.n4,hD,hD1,hB,hB1,hs.phA h hD,h.reg⟩
theorem zik {N:Nat} {s x:Nat→Rat} {f DS E K:Nat} (hN:N≤1000) (hN4:N≤16) (hf:f<100) (hDS:DS≠0) (hDS2:DS≤2^13) (hs:∀i,i<N→over DS (2^13) (s i)) (hE:E≠0) (hE2:E<2^200) (hK:K<2^200) (hx:∀i,i<N→over E K (x i)):
 ScaP (zib N s) (zib N x) f:=by
 have hlen:(zib N s).length=N:=zea N s
 have g1:∀t,t<N→(zib N s).getD t 0=s t:=fun t ht=>by rw[List.getD_eq_getElem?_getD,List.getElem?_eq_getElem (by rw[zea];exact ht),Option.getD_some,ztb]
 have g2:∀t,t<N→(zib N x).getD t 0=x t:=fun t ht=>by rw[List.getD_eq_getElem?_getD,List.getElem?_eq_getElem (by rw[zea];exact ht),Option.getD_some,ztb]
 have hP:∀t,t<N→over (DS*E) (2^13*K) (s t*x t):=fun t ht=>over.mul (hs t ht) (hx t ht)
 have hDE:DS*E≠0:=Nat.mul_ne_zero hDS hE
 have b1:DS*E<2^213:=by
  have h1:DS*E≤2^13*E:=Nat.mul_le_mul_right _ hDS2
  have h2:2^13*E<2^13*2^200:=Nat.mul_lt_mul_of_pos_left hE2 (by decide+kernel)
  exact Nat.lt_of_lt_of_le (Nat.lt_of_le_of_lt h1 h2) (by decide+kernel)
 have b2:2^13*K<2^213:=Nat.lt_of_lt_of_le (Nat.mul_lt_mul_of_pos_left hK (by decide+kernel)) (by decide+kernel)
 have hS:∀k,k≤N→over (DS*E) (16*(2^13*K)) (zvn (zib N s) (zib N x) k):=fun k hk=>by
  unfold zvn
  rw[Rat.zero_add]
  have h1:sg k (fun t=>(zib N s).getD t 0*(zib N x).getD t 0)=sg k fun t=>s t*x t:=zma fun t ht=>by rw[g1 t (by omega),g2 t (by omega)]
  rw[h1]
  exact(over.sg hDE fun t ht=>hP t (by omega)).mono (Nat.mul_le_mul_right _ (by omega))
 have b3:16*(2^13*K)<2^217:=Nat.lt_of_lt_of_le (Nat.mul_lt_mul_of_pos_left b2 (by decide)) (by decide+kernel)
 refine⟨by rw[zea,zea],by rw[hlen];exact hN,hf,fun t ht=> ?_,fun k hk=> ?_,?_⟩
 ·rw[hlen]at ht
  rw[g1 t ht,g2 t ht]
  refine⟨(hs t ht).fits hDS (zwc (a:=14) (by decide) (by decide)) (zwc (a:=14) (Nat.lt_of_le_of_lt hDS2 (by decide)) (by decide)),(hx t ht).fits hE (zwc hK (by decide)) (zwc hE2 (by decide)),(hP t ht).fits hDE (zwc b2 (by decide)) (zwc b1 (by decide))⟩
 ·rw[hlen]at hk
  exact(hS k hk).fits hDE (zwc b3 (by decide)) (zwc b1 (by decide))
 ·rw[hlen]
  have hfo:over 1 100 (fq false f 1):=by
   refine⟨(f:Int),?_,by simp;omega⟩
   unfold fq sgn
   simp
  have h1:=over.mul (hS N (Nat.le_refl _)) hfo
  rw[Nat.mul_one]at h1
  refine h1.fits hDE (zwc (a:=224) ?_ (by decide)) (zwc b1 (by decide))
  exact Nat.lt_of_lt_of_le (Nat.mul_lt_mul_of_pos_right b3 (by decide)) (by decide+kernel)
theorem start_row (l:LQ):zib l.start.length (stQ l)=l.start:=rowL_of l.start
theorem zto (h:zxb l) (hs:SmL D B l) (hD:D≠0) (hD1:D≤6720) (hB:D≤5*B) (hB1:5*B≤1814400) {DS:Nat} (hDS:DS≠0) (hDS2:DS≤2^13) (hst:∀i,i<l.start.length→over DS (2^13) (stQ l i)):MomP l 1 1∧MomP l 2 2:=by
 have hS:=h.sms hs hD hD1 hB hB1
 have x1:=h.mom_eq 0
 have x2:=h.mom_eq 1
 obtain⟨E1,a1,a2,a3⟩:=hS.sol (F:=1) (K:=1) (by decide) (fun i _=>zeg) x1
 rw[Nat.mul_one]at a3
 have e91:2^91*1=2^91:=Nat.mul_one _
 rw[e91]at a3
 obtain⟨E2,c1,c2,c3⟩:=hS.sol (F:=E1) (K:=2^91) a1 a3 x2
 have s1:SysOk l.start.length (phA l) (zpm l 0) (zpm l 1):=hS.sys (F:=1) (K:=1) (by decide) (by decide+kernel) (by decide) (by decide+kernel) (fun i _=>zeg) x1
 have s2:SysOk l.start.length (phA l) (zpm l 1) (zpm l 2):=hS.sys (F:=E1) (K:=2^91) a1 (Nat.lt_trans a2 (by decide+kernel)) (by decide+kernel) (by decide+kernel) a3 x2
 have n4:=h.n4
 refine⟨⟨fun m hm=> ?_,?_⟩,⟨fun m hm=> ?_,?_⟩⟩
 ·obtain rfl:m=0:=by omega
  exact s1
 ·have h1:=zik (N:=l.start.length) (f:=1) (by omega) (by omega) (by decide) hDS hDS2 hst a1 (Nat.lt_trans a2 (by decide+kernel)) (by decide+kernel) a3
  rwa[start_row]at h1
 ·rcases(show m=0∨m=1 by omega)with rfl | rfl
  ·exact s1
  ·exact s2
 ·have hE:E2*E1<2^178:=Nat.lt_of_lt_of_le (Nat.mul_lt_mul'' c2 a2) (by decide+kernel)
  have h1:=zik (N:=l.start.length) (f:=2) (by omega) (by omega) (by decide) hDS hDS2 hst (Nat.mul_ne_zero c1 a1) (Nat.lt_trans hE (by decide+kernel)) (by decide+kernel) c3
  rwa[start_row]at h1
end
theorem zjl {l:List Rat} {k i:Nat} {x:Rat} (hk:k<l.length):(l.set k x).getD i 0=if i=k then x else l.getD i 0:=by
 rw[List.getD_eq_getElem?_getD,List.getD_eq_getElem?_getD,List.getElem?_set]
 by_cases h:k=i
 ·subst h;rw[if_pos rfl,if_pos rfl,if_pos hk];rfl
 ·rw[if_neg h,if_neg (fun e=>h e.symm)]
theorem zwg (n i:Nat):(zeb n).getD i 0=0:=by
 rw[List.getD_eq_getElem?_getD]
 unfold zeb
 by_cases h:i<n
 ·rw[List.getElem?_replicate,if_pos h];rfl
 ·rw[List.getElem?_replicate,if_neg h];rfl
section
variable {n:Nat} {q:Rat}
theorem zjg (n:Nat) (q:Rat):(zho n q).start.length=n:=by
 show((zeb n).set 0 1).length=n
 rw[List.length_set,zwa]
theorem erl_st (hn:1≤n) (i:Nat):stQ (zho n q) i=if i=0 then 1 else 0:=by
 show((zeb n).set 0 1).getD i 0=_
 rw[zjl (by rw[zwa];exact hn),zwg]
theorem erl_ex (hn:1≤n) (i:Nat):exQ (zho n q) i=if i=n-1 then q else 0:=by
 show((zeb n).set (n-1) q).getD i 0=_
 rw[zjl (by rw[zwa];omega),zwg]
theorem zjp {i j:Nat} (hi:i<n) (hj:j<n):rtQ (zho n q) i j=if j=i+1 then q else 0:=by
 have h1:i<(zak n q (n-1)).length:=by rw[zic];exact hi
 show((zak n q (n-1)).getD i []).getD j 0=_
 have e1:(zak n q (n-1)).getD i []=(zak n q (n-1))[i]:=by rw[List.getD_eq_getElem?_getD,List.getElem?_eq_getElem h1];rfl
 rw[e1,zte]
 by_cases h:i<n-1
 ·rw[if_pos h,zjl (by rw[zwa];omega),zwg]
 ·rw[if_neg h,zwg,if_neg (by omega)]
theorem zfi :zvg 0:=⟨Rat.le_refl,by decide,by decide⟩
theorem limQ_one :zvg 1:=⟨by decide+kernel,by decide+kernel,by decide+kernel⟩
theorem mem_zeros {x:Rat} (h:x∈zeb n):x=0:=(List.mem_replicate.1 h).2
theorem lim_set {k:Nat} {x:Rat} (hx:zvg x):∀y∈(zeb n).set k x,zvg y:=fun y hy=>by
 rcases List.mem_or_eq_of_mem_set hy with h | h
 ·rw[mem_zeros h];exact zfi
 ·rw[h];exact hx
theorem erl_law (hn:1≤n) (hn4:n≤4) (hq:zvg q) (h0:0<q):zxb (zho n q) where
 n1:=by rw[zjg];exact hn
 n4:=by rw[zjg];exact hn4
 el:=by rw[zjg];show((zeb n).set (n-1) q).length=n;rw[List.length_set,zwa]
 rl:=by rw[zjg];exact zic n q (n-1)
 st:=lim_set limQ_one
 ex:=lim_set hq
 row:=fun i h=>by
  have h':i<(zak n q (n-1)).length:=h
  have hi:i<n:=by rwa[zic]at h'
  refine⟨by rw[zjg];exact zzj n q (n-1) i h,fun y hy=> ?_,?_⟩
  ·replace hy:y∈(zak n q (n-1))[i]'h':=hy
   rw[zte]at hy
   split at hy
   ·exact lim_set hq y hy
   ·rw[mem_zeros hy];exact zfi
  ·have h3:=zjp (q:=q) hi hi
   rw[if_neg (by omega)]at h3
   unfold rtQ at h3
   have e1:(zho n q).rates.getD i []=(zho n q).rates[i]:=by rw[List.getD_eq_getElem?_getD,List.getElem?_eq_getElem h];rfl
   rw[e1]at h3
   exact h3
 sum:=by
  rw[zup,zjg]
  have e:(fun j=>(zho n q).start.getD j 0)=fun j=>if 0=j then(1:Rat)else 0:=by
   funext j
   have:=erl_st (q:=q) hn j
   unfold stQ at this
   rw[this]
   by_cases h:j=0
   ·subst h;rfl
   ·rw[if_neg h,if_neg (fun e=>h e.symm)]
  rw[e]
  exact zfd (f:=fun _=>(1:Rat)) (show 0<n by omega)
 ends:=⟨fun i=>n-1-i,fun i hi=>by
  rw[zjg]at hi ⊢
  refine⟨show n-1-i≤n by omega,?_⟩
  by_cases h:i=n-1
  ·refine Or.inl ?_
   have:=erl_ex (q:=q) hn i
   unfold exQ at this
   rw[this,if_pos h]
   exact h0
  ·refine Or.inr ⟨i+1,by omega,?_,show n-1- (i+1)<n-1-i by omega⟩
   have:=zjp (q:=q) hi (show i+1<n by omega)
   unfold rtQ at this
   rw[this,if_pos rfl]
   exact h0⟩
theorem erl_sm {D B:Nat} (hn:1≤n) (hq:over D B q):SmL D B (zho n q) where
 r:=fun i j hi hj=>by
  rw[zjg]at hi hj
  rw[zjp hi hj]
  split
  ·exact hq
  ·exact over.zero _ _
 e:=fun i hi=>by
  rw[erl_ex hn]
  split
  ·exact hq
  ·exact over.zero _ _
theorem zml (hn:1≤n) (i:Nat):over 1 (2^13) (stQ (zho n q) i):=by
 rw[erl_st hn]
 split
 ·exact zeg.mono (by decide)
 ·exact over.zero _ _
end
end Go.Proofs.Ytlpdkbmmbdfoiaa
