/-
  package drydockref05: Dot.
-/
import Derived.Test.YtlpdkbmmbdfoiaaGreatHLi11
import Derived.Test.YtlpdkbmmbdfoiaaGreatHEl2
import Derived.Test.YtlpdkbmmbdfoiaaGreatHLi8
import Derived.Test.YtlpdkbmmbdfoiaaGreatHLi9
import Derived.Test.YtlpdkbmmbdfoiaaGreatHSz1
import Derived.Test.YtlpdkbmmbdfoiaaGreatHRb8
import Derived.Test.YtlpdkbmmbdfoiaaGreatHOth
import Derived.Test.YtlpdkbmmbdfoiaaGreatHGn
import Derived.Test.YtlpdkbmmbdfoiaaGreatHWt
import Derived.Test.YtlpdkbmmbdfoiaaGreatHOrd
set_option linter.unusedVariables false
set_option linter.unusedSimpArgs false
namespace Go.Proofs.YtlpdkbmmbdfoiaaGreat
open Go.RowKit
set_option maxRecDepth 100000 in
set_option maxHeartbeats 3200000 in
theorem column_own (va:Value) (n m k:Nat) (A:Mx) (w:World) (ha:zam w va n m A) (hk:k<m) (hn:n≤1000) (hm:m≤1000):
 Calls Tryz.prog 170 #[va, .int .i64 k] w fun e w'=>∃v,e= .returned v∧zbb w' v (zib n (fun i=>A i k))∧Below w.heap.size w w'∧w.heap.size≤(base v).block:=by
 have sa:=ha.sl
 have la:=ha.len
 obtain⟨i0,hi,hz0,hz1,hz2⟩:=info_parts Tryz.infoF
 have hM:=zon (P:=Tryz.prog) 25 38 i0 Tryz.underlying25 hi hz0 hz1 (by rw[hz2];decide)
 clear hi hz0 hz1 hz2
 go_enter Tryz.func170,Tryz.ntmps170
 go_wp2_with (refine hM _ rfl _ _ rfl w.heap.size _ n rfl rfl rfl (by omega) (Nat.le_refl _) ?_;intro v w1 hown hb1 hvb;have sv:=hown.sl;have lv:=hown.len)
 clear hM
 go_loopw [12] (fun u12 wr=>∃ (i:Nat),i≤n∧u12= .int .i64 i∧zqb wr 38 w.heap.size v n∧(∀j,j<i→zlg wr v j (A j k))∧Below w.heap.size w wr) (fun u12 _=>n- (intOf u12).toNat)
 case atStart=>exact⟨0,Nat.zero_le _,rfl,hown,fun j h=>by omega,hb1⟩
 case round=>
  obtain⟨i,hin,rfl,ho,he,hbr⟩:=hrel
  clear hown hb1
  have HE:=zH he
  clear he
  by_cases hil:i<n
  ·obtain⟨ri,hc1,hr1⟩:=(ha.below hbr).row i hil
   have slI:=hr1.sl
   have lnI:slen ri=m:=by rw[hr1.len,zea]
   obtain⟨ea,eb,g1,g2,g3,g4,g5⟩:=hr1.at' k (by rw[zea];exact hk)
   rw[ztb]at g1 g4 g5
   obtain⟨ea1,ea2,ea3,rfl,_⟩:=g4.v.sl
   obtain⟨eb1,eb2,eb3,rfl,_⟩:=g5.v.sl
   have hF:zqa wr (.agg #[.bool (decide (A i k<0)), .slice ea1 ea2 ea3, .slice eb1 eb2 eb3]) (A i k):=⟨_,_,rfl,g4,g5⟩
   obtain⟨c0,d0,_⟩:=ho.cell (i*3) (by omega)
   obtain⟨c1,d1,_⟩:=ho.cell (i*3+1) (by omega)
   obtain⟨c2,d2,_⟩:=ho.cell (i*3+2) (by omega)
   have f0:=ho.frozen (i*3)
   have f1:=ho.frozen (i*3+1)
   have f2:=ho.frozen (i*3+2)
   have n01:=ho.inj (show i*3≠i*3+1 by omega)
   have n02:=ho.inj (show i*3≠i*3+2 by omega)
   have n12:=ho.inj (show i*3+1≠i*3+2 by omega)
   have hs3:=ho.set3 i (.bool (decide (A i k<0))) (.slice ea1 ea2 ea3) (.slice eb1 eb2 eb3) (fun z=>by simp) (fun z=>by simp) (fun z=>by simp)
   have HS3:=zH hs3
   have HF:=zH hF
   have HO:=zH ho
   clear hs3 hr1 g4 g5 hF ho
   have i1:(0:Int)≤(i:Int):=by omega
   have i2:(i:Int)<(n:Nat):=by omega
   have i3:(0:Int)≤(k:Int):=by omega
   have i4:(k:Int)<(m:Nat):=by omega
   go_wp2_with fail
   go_roundw
   case rel=>
    refine⟨i+1,hil,by go_num,HS3.out.1,fun j hj=> ?_,hbr.trans HS3.out.2⟩
    rcases Nat.lt_or_ge j i with h6 | h6
    ·exact zlg.set3_other HO.out hil (by omega) (HE.out j h6) _ _ _ (fun z=>by simp) (fun z=>by simp)
    ·obtain rfl:j=i:=by omega
     exact zlg.set3 HO.out hil HF.out
   case measure=>simp[intOf];omega
  ·obtain rfl:i=n:=by omega
   go_wp2_with fail
   go_ret
   exact⟨v,rfl,ho.fracs (zea _ _) (fun j hj=>by rw[zea]at hj;rw[ztb];exact HE.out j hj),hbr,ho.block.1⟩
def zmu (n:Nat) (b:Nat→Rat):List RF:=(zib n b).map RF.of
@[go_sem] theorem slen_lit (a : Option Addr) (n c : Nat) : slen (.slice a n c) = n := rfl
theorem column_zero (va:Value) (n:Nat) (A:Mx) (w:World) (ha:zam w va n 1 A) (hn:n≤1000):
 Calls Tryz.prog 170 #[va, .int .i64 0] w fun e w'=>∃v,e= .returned v∧zbb w' v (zib n (fun i=>A i 0))∧Below w.heap.size w w'∧w.heap.size≤(base v).block:=
 column_own va n 1 0 A w ha (by decide) hn (by decide)
def RSolveO (w0:World) (n:Nat) (S:St) (e:Ending) (w:World):Prop:=
 ∃v er,e= .returned (.tuple #[v, .int .i64 er])∧Below w0.heap.size w0 w∧(S.r<n→v= .slice none 0 0∧er=9)∧(¬S.r<n→er=0∧zbb w v (zib n (fun i=>S.A i n/S.A i i))∧w0.heap.size≤(base v).block)
structure RowsW (w:World) (B:Nat) (v:Value) (rs:List Value) (n k:Nat) (b:Nat→Rat):Prop where
 own:zlc w 25 B 1 v n rs
 row:∀ (i:Nat) (h:i<rs.length),i<k→zbb w rs[i] [b i]∧(base rs[i]).block≠(base v).block
theorem rawV_ok {n:Nat} {b:Nat→Rat} (hf:∀i,i<n→fits (b i)):∀x∈zmu n b,x.ok:=by
 intro x hx
 obtain⟨q,hq,rfl⟩:=List.mem_map.1 hx
 obtain⟨j,hj,rfl⟩:=List.mem_map.1 hq
 exact RF.of_ok (hf j (List.mem_range.1 hj))
theorem zrk (n:Nat) (b:Nat→Rat):(zmu n b).length=n:=by unfold zmu;rw[List.length_map,zea]
theorem zlc.cell_ne {w:World} {e:TypeId} {B size n:Nat} {v:Value} {xs:List Value} (h:zlc w e B size v n xs) (j:Nat) (hj:j<xs.length) (z:Int):xs[j]≠ .int .u32 z:=by
 rcases h.own.2 with⟨rfl,h0⟩ | ⟨g,cap,cur,rfl,hb,hg,hn,hm,hs,ht⟩
 ·have:=h.own.1;rw[h0]at this;omega
 ·refine h.nl g rfl cur e _ hg xs[j] ?_ z
  rw[←List.take_append_drop (n*size) cur.toList,ht]
  exact List.mem_append_left _ (List.getElem_mem hj)
set_option maxRecDepth 100000 in
set_option maxHeartbeats 6400000 in
theorem solve_own (va vb:Value) (n:Nat) (A:Mx) (b:Nat→Rat) (w:World) (ha:zam w va n n A) (hb:zbb w vb (zib n b)) (hn1:1≤n) (hn:n≤24) (hf:zau n n A) (hfb:∀i,i<n→fits (b i)) (hw:wtF n n A+wts (qs (zmu n b))≤1900)
 (hX:slimE false n (n+1) n (zpa n A (fun i _=>b i))) (hq:∀i,i<n→(elim false n (zpa n A (fun i _=>b i)) n).r=n→(elim false n (zpa n A (fun i _=>b i)) n).A i i≠0∧fits ((elim false n (zpa n A (fun i _=>b i)) n).A i n/(elim false n (zpa n A (fun i _=>b i)) n).A i i)):
 Calls Tryz.prog 98 #[va,vb] w (RSolveO w n (elim false n (zpa n A (fun i _=>b i)) n)):=by
 obtain⟨i4,hi4,hz4,hs4,hy4⟩:=info_parts Tryz.infoRow
 have hMR:=zbi (P:=Tryz.prog) 24 25 i4 Tryz.underlying24 hi4 hz4 hs4 hy4
 clear hi4 hz4 hs4 hy4
 have hvec:vecP (zmu n b) n:=⟨rawV_ok hfb,zrk n b⟩
 have HV:=zH hvec
 have HF:=zH hf
 have HFB:=zH hfb
 have HX:=zH hX
 have HQ:=zH hq
 have hwi:(wtF n n A:Int)+(wts (qs (zmu n b)):Nat)≤1900:=by omega
 obtain⟨W1,hW1⟩:∃W,wtF n n A=W:=⟨_,rfl⟩
 obtain⟨W2,hW2⟩:∃W,wts (qs (zmu n b))=W:=⟨_,rfl⟩
 rw[hW1,hW2]at hwi
 have HW1:=zH hW1
 have HW2:Hid (zxr [zmu n b]=W2):=zH (by rw[zhr];exact hW2)
 have HRB:Hid (zni w vb (zmu n b)):=zH hb.raw
 obtain⟨vb1,vb2,vb3,rfl,_⟩:=id hb.sl
 have sa:=ha.sl
 have la:=ha.len
 have sb:=hb.sl
 have lb:slen (.slice vb1 vb2 vb3)=n:=by rw[hb.len,zea]
 have hvb2:vb2=n:=lb
 subst hvb2
 have HA:=zH ha
 have HB:=zH hb
 have i65:vb2≤65536:=by omega
 have i1000:vb2≤1000:=by omega
 have HO1:Hid (∀l∈ [zmu vb2 b],∀x∈l,x.ok):=zH (fun l hl x hx=>by
  have :l=zmu vb2 b:=by simpa using hl
  subst this;exact hvec.1 x hx)
 have HO2:Hid (∀l∈ [zmu vb2 b],l.length≤65536):=zH (fun l hl=>by
  have :l=zmu vb2 b:=by simpa using hl
  subst this;rw[zrk];exact i65)
 have HO3:Hid ([zmu vb2 b].length≤65536):=zH (by simp)
 clear hW1 hW2 ha hb hf hfb hX hq hw hvec lb
 go_enter Tryz.func98,Tryz.ntmps98
 go_wp2_with (first
  |(go_at_call 166;(with_reducible refine(square_lin va vb2 vb2 A _ HA.out hn1 hn hn1 hn HF.out rfl).mono ?_);rintro e1 w1 ⟨rfl,hb1⟩)
  |(go_at_call 167;(with_reducible refine(zfh _ (zmu vb2 b) vb2 _ (HRB.out.below hb1) i65).mono ?_);rw[decide_eq_true HV.out];rintro e2 w2 ⟨rfl,hb2⟩
    have hB2:=zaa hb1 hb2)
  |(go_at_call 168;first
    |((with_reducible refine(weight_lin va vb2 vb2 A _ (HA.out.below hB2) hn hn HF.out).mono ?_);rw[HW1.out];rintro e3 w3 ⟨rfl,hb3⟩
      have hB3:=zaa hB2 hb3
      have hb4:=zca w3 (.cells #[.slice vb1 vb2 vb3] 25)
      have hM4:=mat_one (zjf.new w3 #[.slice vb1 vb2 vb3] 25) (HRB.out.below (zaa hB3 hb4)))
    |((with_reducible refine(zfl _ [zmu vb2 b] _ hM4 HO1.out HO2.out HO3.out).mono ?_);rw[HW2.out];rintro e5 w5 ⟨rfl,hb5⟩
      have hB5:=zaa (zaa hB3 hb4) hb5
      clear hM4))
  |(refine hMR w5 rfl _ _ rfl w5.heap.size _ vb2 rfl rfl rfl (by omega) (Nat.le_refl _) ?_;intro vL w6 hO6 hb6
    have HO6:=zH hO6
    have HB6:=zH hb6
    have HB5:=zH hB5
    have slL:=hO6.sl
    have lnL:=hO6.len
    clear hO6 hb6 hB5 hb5 hb4 hB3 hb3 hB2 hb2 hb1))
 go_loopg [35] (vb2) (fun g u35 wr=>∃ (k:Nat) (rs:List Value),k≤vb2∧g=vb2-k∧u35= .int .i64 k∧RowsW wr w5.heap.size vL rs vb2 k b∧Below w5.heap.size w5 wr)
 case atStart=>exact⟨0,_,Nat.zero_le _,rfl,rfl,⟨HO6.out,fun i h h2=>by omega⟩,HB6.out⟩
 case round=>
  obtain⟨k,rs,hk,hg,rfl,hR,hbr⟩:=hrel
  obtain⟨w2,hw2⟩:∃w2,w2=wr:=⟨_,rfl⟩
  subst hw2
  have HG:=zH hg
  have HR:=zH hR
  have HBR:=zH hbr
  have hBw2:=zfa HB5.out hbr HB5.out.size
  clear HO6 HB6 hg
  by_cases hkl:k<vb2
  ·have hkd:k<(zib vb2 b).length:=by rw[zea];exact hkl
   obtain⟨ea,eb,g1,g2,g3,g4,g5⟩:=(HB.out.below hBw2).at' k hkd
   rw[ztb]at g1 g4 g5
   obtain⟨ea1,ea2,ea3,rfl,_⟩:=g4.v.sl
   obtain⟨eb1,eb2,eb3,rfl,_⟩:=g5.v.sl
   have hF:zqa w2 (.agg #[.bool (decide (b k<0)), .slice ea1 ea2 ea3, .slice eb1 eb2 eb3]) (b k):=⟨_,_,rfl,g4,g5⟩
   have hbA:=zca w2 (.cells #[.bool (decide (b k<0)), .slice ea1 ea2 ea3, .slice eb1 eb2 eb3] 38)
   have hbB:=zaa hbA (zca (w2.alloc (.cells #[.bool (decide (b k<0)), .slice ea1 ea2 ea3, .slice eb1 eb2 eb3] 38)) (.cells #[.bool (decide (b k<0)), .slice ea1 ea2 ea3, .slice eb1 eb2 eb3] 38))
   have hsz:(w2.alloc (.cells #[.bool (decide (b k<0)), .slice ea1 ea2 ea3, .slice eb1 eb2 eb3] 38)).heap.size=w2.heap.size+1:=by simp
   have hVN:=zjf.new (w2.alloc (.cells #[.bool (decide (b k<0)), .slice ea1 ea2 ea3, .slice eb1 eb2 eb3] 38)) #[.bool (decide (b k<0)), .slice ea1 ea2 ea3, .slice eb1 eb2 eb3] 38
   rw[hsz]at hVN
   have hNew:=fracs_one hVN (hF.below hbB)
   have hRl:rs.length=vb2:=by have:=hR.own.clen;omega
   have hkr:k<rs.length:=by rw[hRl];exact hkl
   obtain⟨s1,s2⟩:=(hR.own.below hbB).set1 k hkr (.slice (some ⟨w2.heap.size+1,0,none⟩) 1 1) (fun z=>by simp)
   have hcL:=(hR.own.below hbB).cell k hkr
   have hfL:=(hR.own.below hbB).frozen k hkr
   have hnl:∀z,rs[k]'hkr≠ .int .u32 z:=by
    obtain⟨g,hg1,_,_,_,_⟩:=hR.own.blk (by omega)
    intro z e
    have hx:=hR.own
    exact(zlc.cell_ne hx k hkr z) e
   have hLlt:(base vL).block<w2.heap.size:=by obtain⟨g,_,e2,_,e3,_⟩:=hR.own.blk (by omega);omega
   have hLge:w5.heap.size≤(base vL).block:=by obtain⟨g,_,e2,e3,_,_⟩:=hR.own.blk (by omega);omega
   have hpL:(ptr vL k).block=(base vL).block:=zsa _ _
   have hRS:RowsW (((w2.alloc (.cells #[.bool (decide (b k<0)), .slice ea1 ea2 ea3, .slice eb1 eb2 eb3] 38)).alloc (.cells #[.bool (decide (b k<0)), .slice ea1 ea2 ea3, .slice eb1 eb2 eb3] 38)).setCell (ptr vL k) (.slice (some ⟨w2.heap.size+1,0,none⟩) 1 1)) w5.heap.size vL (rs.set k (.slice (some ⟨w2.heap.size+1,0,none⟩) 1 1)) vb2 (k+1) b:=by
    refine⟨s1,fun i hi hik=> ?_⟩
    have hi0:i<rs.length:=by simpa using hi
    by_cases h1:i=k
    ·subst h1
     rw[List.getElem_set_self]
     have hb0:(base (.slice (some ⟨w2.heap.size+1,0,none⟩) 1 1)).block=w2.heap.size+1:=rfl
     exact⟨hNew.setc (by rw[hb0,hpL];omega) hcL hnl _,by rw[hb0];omega⟩
    ·rw[List.getElem_set_ne (fun e=>h1 e.symm)]
     obtain⟨r1,r2⟩:=hR.row i hi0 (by omega)
     exact⟨(r1.below hbB).setc (by rw[hpL];exact r2) hcL hnl _,r2⟩
   have HRS:=zH hRS
   have hBS:Below w5.heap.size w5 (((w2.alloc (.cells #[.bool (decide (b k<0)), .slice ea1 ea2 ea3, .slice eb1 eb2 eb3] 38)).alloc (.cells #[.bool (decide (b k<0)), .slice ea1 ea2 ea3, .slice eb1 eb2 eb3] 38)).setCell (ptr vL k) (.slice (some ⟨w2.heap.size+1,0,none⟩) 1 1)):=(zaa hbr hbB).setCell (by rw[hpL];exact hLge) _
   have HBS:=zH hBS
   clear hR hbr g4 g5 hF hbA hbB hVN hNew s1 s2 hnl hRS hBS hsz hBw2 hRl
   have i1:(0:Int)≤(k:Int):=by omega
   have i2:(k:Int)<(vb2:Nat):=by omega
   go_wp2_with fail
   go_roundg (vb2- (k+1))
   case measure=>(have:=HG.out;omega)
   case rel=>exact⟨k+1,_,by omega,rfl,by go_num,HRS.out,HBS.out⟩
  ·obtain rfl:k=vb2:=by omega
   have hML:zam w2 vL k 1 (fun i _=>b i):=⟨hR.own.sl,hR.own.len,fun i hi=>by
    have hi2:i<rs.length:=by have:=hR.own.clen;omega
    refine⟨rs[i],hR.own.cell i hi2,?_⟩
    have h:=(hR.row i hi2 hi).1
    exact h⟩
   obtain⟨l1,l2,l3,rfl,hl3⟩:=id hML.sl
   obtain⟨bd,rfl⟩:∃bd,l1=some bd:=by
    cases l1 with
    | none=>exfalso;have h1:=hML.len;have h2:=hl3.2.2 rfl;have h3:l2=k:=h1;omega
    | some bd=>exact⟨bd,rfl⟩
   have HML:=zH hML
   have HQ1:Hid (∀i,i<k→(elim false k (zpa k A (fun i _=>b i)) k).r=k→(elim false k (zpa k A (fun i _=>b i)) k).A i i≠0∧∀j,j<1→fits ((elim false k (zpa k A (fun i _=>b i)) k).A i (k+j)/(elim false k (zpa k A (fun i _=>b i)) k).A i i)):=zH (fun i hi h=>⟨(HQ.out i hi h).1,fun j hj=>by
    obtain rfl:j=0:=by omega
    exact(HQ.out i hi h).2⟩)
   have hA2:=HA.out.below hBw2
   have HBW:=zH hBw2
   clear hR hbr hML hBw2 hkl hl3
   by_cases hrk:(elim false k (zpa k A (fun i _=>b i)) k).r<k
   ·go_wp2_with (go_at_call 169;(with_reducible refine(right_lin va bd l2 l3 k 1 A (fun i _=>b i) _ hA2 HML.out hn1 hn (Nat.le_refl _) (by omega) HX.out HQ1.out).mono ?_);rintro e7 w7 ⟨v7,er7,rfl,hb7,hs7,_⟩;obtain⟨rfl,rfl⟩:=hs7 hrk;clear hs7)
    go_ret2
    exact⟨_,9,rfl,zaa HBW.out hb7,fun _=>⟨rfl,rfl⟩,fun h=>absurd hrk h⟩
   ·go_wp2_with (first
     |(go_at_call 169;(with_reducible refine(right_lin va bd l2 l3 k 1 A (fun i _=>b i) _ hA2 HML.out hn1 hn (Nat.le_refl _) (by omega) HX.out HQ1.out).mono ?_);rintro e7 w7 ⟨v7,er7,rfl,hb7,_,hs7⟩;obtain⟨rfl,hm7⟩:=hs7 hrk;clear hs7)
     |(go_at_call 170;(with_reducible refine(column_zero v7 k _ _ hm7 i1000).mono ?_);rintro e8 w8 ⟨v8,rfl,hf8,hb8,hn8⟩))
    go_ret2
    exact⟨v8,0,rfl,zaa (zaa HBW.out hb7) hb8,fun h=>absurd h hrk,fun _=>⟨rfl,hf8,Nat.le_trans (zaa HBW.out hb7).size hn8⟩⟩
end Go.Proofs.YtlpdkbmmbdfoiaaGreat
namespace Go.Proofs.YtlpdkbmmbdfoiaaGreat
def ztd (m:Nat) (A B:Mx):Mx:=fun i k=>sg m fun j=>A i j*B j k
theorem mul_assoc (m o:Nat) (A B C:Mx) (i k:Nat):ztd o (ztd m A B) C i k=ztd m A (ztd o B C) i k:=by
 unfold ztd
 have e1:sg o (fun j=>sg m (fun l=>A i l*B l j)*C j k)=sg o (fun j=>sg m (fun l=>A i l*(B l j*C j k))):=zma fun j _=>by
  rw[←znc]
  exact zma fun l _=>by grind
 rw[e1,zdn]
 exact zma fun l _=>zcb _ _ _
theorem dt_rows {n:Nat} (c:Nat→Rat) (B:Mx):∀k,k≤n→dt n (fun i b=>if i<k then c i*B i b else B i b)=pr k c*dt n B
 | 0,_=>by
   have e:(fun(i:Nat) (b:Nat)=>if i<0 then c i*B i b else B i b)=B:=by
    funext i b;rw[if_neg (by omega)]
   rw[e,pr,Rat.one_mul]
 | k+1,hk=>by
   have ih:=dt_rows (n:=n) c B k (by omega)
   have e:(fun(i:Nat) (b:Nat)=>if i<k+1 then c i*B i b else B i b)=zoc (fun i b=>if i<k then c i*B i b else B i b) k (fun b=>c k*B k b):=by
    funext i b;unfold zoc
    by_cases h1:i=k
    ·subst h1;rw[if_pos (by omega),if_pos rfl]
    ·rw[if_neg h1]
     by_cases h2:i<k
     ·rw[if_pos (by omega)];show _=if i<k then _ else _
      rw[if_pos h2]
     ·rw[if_neg (by omega)];show _=if i<k then _ else _
      rw[if_neg h2]
   have e2:zoc (fun i b=>if i<k then c i*B i b else B i b) k (B k)=fun i b=>if i<k then c i*B i b else B i b:=by
    funext i b;unfold zoc
    by_cases h1:i=k
    ·subst h1;rw[if_pos rfl,if_neg (by omega)]
    ·rw[if_neg h1]
   rw[e,dt_scale _ (show k<n by omega),e2,ih,pr]
   grind
theorem zrf {m:Nat} {X B:Mx} {Y:Mx} {i i':Nat} (h:X i=Y i'):ztd m X B i=ztd m Y B i':=by
 funext k;unfold ztd;rw[h]
theorem mulC (n:Nat) (A B:Mx):RowC n fun X s=>dt n (ztd n A B)=s*dt n (ztd n X B) where
 congr:=fun X Y s h hX=>by
  rw[hX,zcd (fun a b ha _=>by rw[zrf (B:=B) (h a ha)])]
 swap:=fun X s a b ha hb hab hX=>by
  have e:ztd n (swp X a b) B=swp (ztd n X B) a b:=by
   funext i;unfold swp
   by_cases h1:i=a
   ·subst h1;rw[if_pos rfl];exact zrf (by rw[if_pos rfl])
   ·rw[if_neg h1]
    by_cases h2:i=b
    ·subst h2;rw[if_pos rfl];exact zrf (by rw[if_neg h1,if_pos rfl])
    ·rw[if_neg h2];exact zrf (by rw[if_neg h1,if_neg h2])
  rw[hX,e,dt_swp ha hb hab];grind
 add:=fun X s i r c hi hr hir hX=>by
  have e:ztd n (zoc X i fun b=>X i b+c*X r b) B=zoc (ztd n X B) i fun b=>ztd n X B i b+c*ztd n X B r b:=by
   funext k b
   by_cases h1:k=i
   ·subst h1
    rw[zed]
    unfold ztd
    rw[zed,←zcb,←zvd]
    exact zma fun j _=>by grind
   ·rw[zvc h1]
    exact congrFun (zrf (zvc h1)) b
  rw[hX,e,dt_add hi hr hir]
theorem dt_mul (n:Nat) (A B:Mx):dt n (ztd n A B)=dt n A*dt n B:=by
 have h1:=zbd (mulC n A B) false (A:=A) (by rw[Rat.one_mul]) n
 have h2:=zbd (detC n A) false (A:=A) (by rw[Rat.one_mul]) n
 rw[h1,h2]
 by_cases hr:(elim false n A n).r=n
 ·obtain⟨h3,h4,h5⟩:=zad hr n (Nat.le_refl _)
  rw[zql (fun i j hi hj hij=>h3 i j hi hj hij)]
  have e:dt n (ztd n (elim false n A n).A B)=dt n (fun i b=>if i<n then(elim false n A n).A i i*B i b else B i b):=zcd fun i b hi hb=>by
   rw[if_pos hi]
   unfold ztd
   have e2:sg n (fun j=>(elim false n A n).A i j*B j b)=sg n (fun j=>if i=j then(elim false n A n).A i j*B j b else 0):=zma fun j hj=>by
    by_cases h6:i=j
    ·rw[if_pos h6]
    ·rw[if_neg h6,h3 i j hi hj h6];grind
   rw[e2,zfd hi]
  rw[e,dt_rows (fun i=>(elim false n A n).A i i) B n (Nat.le_refl _)]
  grind
 ·have hr2:(elim false n A n).r<n:=by have:=(zue false n A n).1;omega
  have hz0:∀j,j<n→(elim false n A n).A (n-1) j=0:=fun j hj=>zyd false n A n (n-1) j (by omega) (by omega) hj
  rw[zme (A:=(elim false n A n).A) (r:=n-1) (by omega) hz0]
  rw[zme (A:=ztd n (elim false n A n).A B) (r:=n-1) (by omega) (fun j hj=>by
   unfold ztd
   exact(zma fun l hl=>by rw[hz0 l hl];grind).trans (zsi n))]
  grind
end Go.Proofs.YtlpdkbmmbdfoiaaGreat
namespace Go.Proofs.YtlpdkbmmbdfoiaaGreat
open Go.RowKit
def rowF (n:Nat) (x:Nat→RF):List RF:=(List.range n).map x
theorem zcr (n:Nat) (x:Nat→RF):(rowF n x).length=n:=by simp[rowF]
theorem rowF_get (n:Nat) (x:Nat→RF) (j:Nat) (h:j<(rowF n x).length):(rowF n x)[j]=x j:=by simp[rowF]
def rf0 :RF:=⟨false,0,1⟩
theorem rowF_of (l:List RF):rowF l.length (fun j=>l.getD j rf0)=l:=by
 refine List.ext_getElem (by rw[zcr]) fun j h1 h2=> ?_
 rw[rowF_get]
 simp[List.getD,List.getElem?_eq_getElem h2]
section
variable {w:World} {e:TypeId} {B n:Nat} {v:Value}
end
section
variable {n:Nat} {A:Mx} {b:Nat→Rat}
def solE (n:Nat) (A:Mx) (b:Nat→Rat) (i:Nat):Rat:=(elim false n (zpa n A (fun i _=>b i)) n).A i n/(elim false n (zpa n A (fun i _=>b i)) n).A i i
theorem sol_eq (h:(elim false n (zpa n A (fun i _=>b i)) n).r=n):∀i,i<n→sg n (fun j=>A i j*solE n A b j)=b i:=by
 intro i hi
 exact znl (A:=A) (B:=fun i _=>b i) h (c:=1) (q:=0) (by omega) i hi
end
def cols (a:List (List RF)):Nat:=(a.headD []).length
def mulP (a b:List (List RF)):Prop:=zqh a∧zqh b∧cols a=b.length
instance (a b:List (List RF)):Decidable (mulP a b):=inferInstanceAs (Decidable (_∧_∧_))
def appP (a:List (List RF)) (v:List RF):Prop:=zqh a∧vecP v (cols a)
instance (a :List (List RF)) (v:List RF):Decidable (appP a v):=inferInstanceAs (Decidable (_∧_))
set_option maxHeartbeats 1600000 in
theorem r2mul_raw (va vb:Value) (s t:Bool) (n d m e:Nat) (w:World) (ha:zdc w va s n d) (hb:zdc w vb t m e) (hp:okN n d) (hq:okN m e) (hf:fits (fq s n d*fq t m e)):Calls Tryz.prog 38 #[va,vb] w (RF0 w (fq s n d*fq t m e)):=by
 obtain⟨a1,a2,rfl,n1,n2⟩:=id ha
 obtain⟨b1,b2,rfl,m1,m2⟩:=id hb
 obtain⟨x1,y1,z1,rfl,_⟩:=id n1.slen.1
 obtain⟨x2,y2,z2,rfl,_⟩:=id n2.slen.1
 obtain⟨x3,y3,z3,rfl,_⟩:=id m1.slen.1
 obtain⟨x4,y4,z4,rfl,_⟩:=id m2.slen.1
 have k1:=zca w (.cells #[.bool s, .slice x1 y1 z1, .slice x2 y2 z2] 38)
 have k2:=zca (w.alloc (.cells #[.bool s, .slice x1 y1 z1, .slice x2 y2 z2] 38)) (.cells #[.bool t, .slice x3 y3 z3, .slice x4 y4 z4] 38)
 have k3:=zca ((w.alloc (.cells #[.bool s, .slice x1 y1 z1, .slice x2 y2 z2] 38)).alloc (.cells #[.bool t, .slice x3 y3 z3, .slice x4 y4 z4] 38)) (.cells #[.bool false, .slice none 0 0, .slice none 0 0] 38)
 have H3:=zmc w 38 (.bool s) (.slice x1 y1 z1) (.slice x2 y2 z2) (.bool t) (.slice x3 y3 z3) (.slice x4 y4 z4) (.bool false) (.slice none 0 0) (.slice none 0 0) _ rfl
 obtain⟨hA,hB,hR,hbw⟩:=H3
 have HA:=zH hA
 have HB:=zH hB
 have HR:=zH hR
 have HAP:=zH (ha.below hbw)
 have HBQ:=zH (hb.below hbw)
 have HP:=zH hp
 have HQ:=zH hq
 have HPQ:=zH hf
 have HFQ:Hid (fq s n d*fq t m e=fq (!(s==t)) (n*m) (d*e)):=zH (by rw[fq_mul];rfl)
 have HL:=zH (And.intro (zrc hp) (zrc hq))
 obtain⟨_,c0,c1,c2,_,_,_⟩:=id hA
 obtain⟨_,d0,d1,d2,_,_,_⟩:=id hB
 clear hA hB hR ha hb n1 n2 m1 m2 hp hq hf k1 k2 k3
 go_enter Tryz.func38,Tryz.ntmps38
 go_upto_region 3 with(first
  |(go_at_call 49;(with_reducible refine(zlm _ s n d _ HAP.out HP.out).mono ?_);rintro z1' w1 ⟨rfl,hb1⟩
    obtain⟨_,c0,c1,c2,_,_,_⟩:=HA.out.belowS hb1
    obtain⟨_,d0,d1,d2,_,_,_⟩:=HB.out.belowS hb1)
  |(go_at_call 49;(with_reducible refine(zlm _ t m e _ (HBQ.out.below hb1) HQ.out).mono ?_);rintro z2' w2 ⟨rfl,hb2⟩))
 have b12:=zaa hb1 hb2
 have hD:=zja (B:=w2.heap.size) w2
 have b1D:=zaa b12 hD
 obtain⟨_,q1,q2,q3,_,_,_⟩:=HA.out.belowS b1D
 obtain⟨_,r1,r2,r3,_,_,_⟩:=HB.out.belowS b1D
 have HRD:=zH (HR.out.belowS b1D)
 have HAD:=zH (HAP.out.below b1D)
 have HBD:=zH (HBQ.out.below b1D)
 have hbwD:=zaa hbw b1D
 obtain⟨u1,u2,hu,nA,nB⟩:=HAD.out
 injection hu with hu
 injection hu with hu
 simp only[List.cons.injEq,and_true,true_and]at hu
 obtain⟨rfl,rfl⟩:=hu
 obtain⟨u1,u2,hu,mA,mB⟩:=HBD.out
 injection hu with hu
 injection hu with hu
 simp only[List.cons.injEq,and_true,true_and]at hu
 obtain⟨rfl,rfl⟩:=hu
 have kA:w.heap.size+1+1≠w.heap.size:=by omega
 have kB:w.heap.size+1+1≠w.heap.size+1:=by omega
 have HNN:=zH (And.intro nA (And.intro nB (And.intro mA mB)))
 have HDZ:Hid (d*e≠0):=zH (Nat.mul_ne_zero HP.out.1 HQ.out.1)
 have HN5:Hid (zda (n*m)≤512):=zH (Nat.le_trans (zsd HL.out.1.1 HL.out.2.1) (by decide))
 have HD5:Hid (zda (d*e)≤512):=zH (Nat.le_trans (zsd HL.out.1.2 HL.out.2.2) (by decide))
 clear nA nB mA mB c0 c1 c2 d0 d1 d2
 go_region_held3 (fun w'=>w'.cell? ⟨w.heap.size,0,none⟩=some (.bool s)∧w'.cell? ⟨w.heap.size,1,none⟩=some (.slice x1 y1 z1)∧w'.cell? ⟨w.heap.size,2,none⟩=some (.slice x2 y2 z2)∧w'.cell? ⟨w.heap.size+1,0,none⟩=some (.bool t)∧w'.cell? ⟨w.heap.size+1,1,none⟩=some (.slice x3 y3 z3)∧w'.cell? ⟨w.heap.size+1,2,none⟩=some (.slice x4 y4 z4)) (first
  | with_reducible exact⟨q1,q2,q3,r1,r2,r3⟩
  | with_reducible exact keep6b (by assumption) (by assumption)
  | with_reducible exact zvp (zvp (zvp (by assumption) kA kA kA kB kB kB _) kA kA kA kB kB kB _) kA kA kA kB kB kB _) (first
  |(go_at_call 74;(with_reducible refine(zke _ _ n m _ HNN.out.1 HNN.out.2.2.1 HL.out.1.1 HL.out.2.1).mono ?_);rintro z3' w3 ⟨v3,rfl,hv3,hb3⟩)
  |(go_at_call 74;(with_reducible refine(zke _ _ d e _ (HNN.out.2.1.below hb3) (HNN.out.2.2.2.below hb3) HL.out.1.2 HL.out.2.2).mono ?_);rintro z4' w4 ⟨v4,rfl,hv4,hb4⟩)
  |(go_at_call 71;(with_reducible refine(zpe _ _ _ (n*m) (d*e) _ (hv3.below hb4).nat hv4.nat HDZ.out HN5.out HD5.out).mono ?_);rintro z5' w5 ⟨v5,rfl,hv5,hb5⟩)
  |(go_at_call 76;(with_reducible refine(zuo _ (fq s n d*fq t m e) _ (by(rw[HFQ.out];exact hv5)) HPQ.out).mono ?_);rintro z6' w6 ⟨v6,rfl,hv6,hb6⟩
    obtain⟨t9,x9,y9,rfl,⟨a91,l91,k91,rfl,_⟩,⟨a92,l92,k92,rfl,_⟩⟩:=hv6.isF
    have HR6:=zH ((((HRD.out.belowS hb3).belowS hb4).belowS hb5).belowS hb6)
    obtain⟨_,g0,g1,g2,g3,g4,g5⟩:=HR6.out))
 have hbE:=zaa (zaa (zaa (zaa hbwD hb3) hb4) hb5) hb6
 go_wp2_with fail
 refine zoa rfl rfl Tryz.aggF Tryz.sizeF (HR6.out.set _ _ _) rfl ?_
 exact⟨_,rfl,hv6.set3 HR6.out (fun z=>by simp) (fun z=>by simp) _ _ _,zga hbE (Nat.le_trans (Nat.le_succ _) (Nat.le_succ _)) _ _ _⟩
set_option maxHeartbeats 3200000
set_option maxRecDepth 100000 in
theorem rweights_any (va:Value) (m:List (List RF)) (w:World) (ha:MatN w va m) (hs:zqh m):
 Calls Tryz.prog 174 #[va] w fun e w'=>e= .returned (.int .i64 (zxr m:Nat))∧Below w.heap.size w w':=by
 have sa:=ha.sl
 have la:=ha.len
 have hml:m.length≤24:=hs.2.1
 have HOK:Hid (∀l∈m,∀x∈l,x.ok):=zH fun l hl=>(hs.2.2.2.2 l hl).1
 have HL:Hid (∀l∈m,l.length≤65536):=zH fun l hl=>by rw[(hs.2.2.2.2 l hl).2];have:=hs.2.2.2.1;omega
 clear hs
 go_enter Tryz.func174,Tryz.ntmps174
 go_wp2_with fail
 go_loopw [3,4] (fun u3 u4 wr=>∃ (k:Nat),k≤m.length∧u4= .int .i64 k∧u3= .int .i64 (zxr (m.take k):Nat)∧Below w.heap.size w wr) (fun _ u4 _=>m.length- (intOf u4).toNat)
 case atStart=>exact⟨0,Nat.zero_le _,rfl,rfl,Below.refl _ _⟩
 case round=>
  obtain⟨k,hk,rfl,rfl,hb⟩:=hrel
  by_cases hkm:k<m.length
  ·obtain⟨rv,hrc,hrv⟩:=(ha.below hb).at' k hkm
   have hW:zxr (m.take k)≤536870912*24:=by
    have h1:=zit (m.take k) (fun l h=>HOK.out l (List.mem_of_mem_take h)) (fun l h=>HL.out l (List.mem_of_mem_take h))
    rw[List.length_take]at h1;omega
   have hlk:=HL.out m[k] (List.getElem_mem hkm)
   have HOKL:=zH (HOK.out m[k] (List.getElem_mem hkm))
   have hwl:=zgt m[k] HOKL.out
   have HTM:=zH (zht m k hkm)
   generalize m[k]'hkm=l at *
   generalize zxr (m.take k)=W0 at *
   obtain⟨W1,hW1⟩:∃W1,wts (qs l)=W1:=⟨_,rfl⟩
   rw[hW1]at hwl
   have HW1:=zH hW1
   have hwl2:W1≤8192*65536:=Nat.le_trans hwl (Nat.mul_le_mul_left _ hlk)
   have srv:=hrv.sl
   clear hW1 hwl
   go_wp2_with (go_at_call 175;(with_reducible refine(zvr _ l _ hrv HOKL.out hlk).mono ?_);rw[HW1.out];rintro e w7 ⟨rfl,hb7⟩)
   go_roundw
   case rel=>exact⟨k+1,hkm,by go_num,by rw[HTM.out,HW1.out];go_num,zaa hb hb7⟩
   case measure=>simp[intOf];omega
  ·obtain rfl:k=m.length:=by omega
   rw[List.take_length]
   go_wp2_with fail
   go_ret
   exact⟨rfl,hb⟩
set_option maxRecDepth 100000 in
theorem r5mul_raw (va vb:Value) (x y:RF) (w:World) (ha:zdc w va x.neg x.n x.d) (hb:zdc w vb y.neg y.n y.d) (hx:x.ok) (hy:y.ok) (hf:fits (x.q*y.q)):Calls Tryz.prog 209 #[va,vb] w (RF1 w (x.q*y.q)):=by
 obtain⟨a1,a2,rfl,n1,n2⟩:=id ha
 obtain⟨b1,b2,rfl,m1,m2⟩:=id hb
 obtain⟨x1,y1,z1,rfl,_⟩:=id n1.slen.1
 obtain⟨x2,y2,z2,rfl,_⟩:=id n2.slen.1
 obtain⟨x3,y3,z3,rfl,_⟩:=id m1.slen.1
 obtain⟨x4,y4,z4,rfl,_⟩:=id m2.slen.1
 obtain⟨s,hs⟩:∃s,x.neg=s:=⟨_,rfl⟩
 obtain⟨t,ht⟩:∃t,y.neg=t:=⟨_,rfl⟩
 have HX:Hid (okN x.n x.d):=zH hx
 have HY:Hid (okN y.n y.d):=zH hy
 have HQ:Hid (x.q*y.q=fq s x.n x.d*fq t y.n y.d):=zH (by unfold RF.q;rw[hs,ht])
 have HF:Hid (fits (fq s x.n x.d*fq t y.n y.d)):=zH (by rw[←HQ.out];exact hf)
 rw[hs]at ha ⊢
 rw[ht]at hb ⊢
 clear n1 n2 m1 m2 hx hy hf hs ht
 have k1:=zca w (.cells #[.bool s, .slice x1 y1 z1, .slice x2 y2 z2] 38)
 have H3:=zmc w 38 (.bool s) (.slice x1 y1 z1) (.slice x2 y2 z2) (.bool t) (.slice x3 y3 z3) (.slice x4 y4 z4) (.bool false) (.slice none 0 0) (.slice none 0 0) _ rfl
 obtain⟨hA,hB,hR,hbw⟩:=H3
 have HR:=zH hR
 have HAP:=zH (ha.below hbw)
 have HBQ:=zH (hb.below hbw)
 obtain⟨_,c0,c1,c2,_,_,_⟩:=id hA
 obtain⟨_,d0,d1,d2,_,_,_⟩:=id hB
 clear hA hB hR ha hb
 go_enter Tryz.func209,Tryz.ntmps209
 go_wp2_with (go_at_call 38;(with_reducible refine(r2mul_raw _ _ s t x.n x.d y.n y.d _ HAP.out HBQ.out HX.out HY.out HF.out).mono ?_);rintro e6 w6 ⟨v6,rfl,hv6,hb6⟩
              obtain⟨t9,x9,y9,rfl,⟨a91,l91,k91,rfl,_⟩,⟨a92,l92,k92,rfl,_⟩⟩:=hv6.isF
              have hv6:=hv6.below (zca w6 (.cells #[.bool t9, .slice a91 l91 k91, .slice a92 l92 k92] 38))
              have HR6:=zH ((HR.out.belowS hb6).belowS (zca w6 (.cells #[.bool t9, .slice a91 l91 k91, .slice a92 l92 k92] 38)))
              obtain⟨_,g0,g1,g2,g3,g4,g5⟩:=HR6.out)
 rw[HQ.out]
 refine zab rfl rfl Tryz.aggF Tryz.sizeF (HR6.out.set _ _ _) rfl ?_
 exact⟨_,rfl,hv6.set3 HR6.out (fun z=>by simp) (fun z=>by simp) _ _ _,zga (zaa (zaa hbw hb6) (zca _ _)) (Nat.le_trans (Nat.le_succ _) (Nat.le_succ _)) _ _ _⟩
set_option maxRecDepth 100000 in
theorem r5add_can (va vb:Value) (p q:Rat) (w:World) (ha:zqa w va p) (hb:zqa w vb q) (hp:fits p) (hq:fits q) (hf:fits (p+q)):Calls Tryz.prog 208 #[va,vb] w (RF1 w (p+q)):=by
 obtain⟨a1,a2,rfl,n1,n2⟩:=id ha
 obtain⟨b1,b2,rfl,m1,m2⟩:=id hb
 obtain⟨x1,y1,z1,rfl,_⟩:=id n1.v.sl
 obtain⟨x2,y2,z2,rfl,_⟩:=id n2.v.sl
 obtain⟨x3,y3,z3,rfl,_⟩:=id m1.v.sl
 obtain⟨x4,y4,z4,rfl,_⟩:=id m2.v.sl
 obtain⟨s,hs⟩:∃s,decide (p<0)=s:=⟨_,rfl⟩
 obtain⟨t,ht⟩:∃t,decide (q<0)=t:=⟨_,rfl⟩
 have HX:=zH hp
 have HY:=zH hq
 have HF:=zH hf
 rw[hs]at ha ⊢
 rw[ht]at hb ⊢
 clear n1 n2 m1 m2 hp hq hf hs ht
 have k1:=zca w (.cells #[.bool s, .slice x1 y1 z1, .slice x2 y2 z2] 38)
 have H3:=zmc w 38 (.bool s) (.slice x1 y1 z1) (.slice x2 y2 z2) (.bool t) (.slice x3 y3 z3) (.slice x4 y4 z4) (.bool false) (.slice none 0 0) (.slice none 0 0) _ rfl
 obtain⟨hA,hB,hR,hbw⟩:=H3
 have HR:=zH hR
 have HAP:=zH (ha.below hbw)
 have HBQ:=zH (hb.below hbw)
 obtain⟨_,c0,c1,c2,_,_,_⟩:=id hA
 obtain⟨_,d0,d1,d2,_,_,_⟩:=id hB
 clear hA hB hR ha hb
 go_enter Tryz.func208,Tryz.ntmps208
 go_wp2_with (go_at_call 19;(with_reducible refine(r2add_can _ _ p q _ HAP.out HBQ.out HX.out HY.out HF.out).mono ?_);rintro e6 w6 ⟨v6,rfl,hv6,hb6⟩
              obtain⟨t9,x9,y9,rfl,⟨a91,l91,k91,rfl,_⟩,⟨a92,l92,k92,rfl,_⟩⟩:=hv6.isF
              have hv6:=hv6.below (zca w6 (.cells #[.bool t9, .slice a91 l91 k91, .slice a92 l92 k92] 38))
              have HR6:=zH ((HR.out.belowS hb6).belowS (zca w6 (.cells #[.bool t9, .slice a91 l91 k91, .slice a92 l92 k92] 38)))
              obtain⟨_,g0,g1,g2,g3,g4,g5⟩:=HR6.out)
 refine zab rfl rfl Tryz.aggF Tryz.sizeF (HR6.out.set _ _ _) rfl ?_
 exact⟨_,rfl,hv6.set3 HR6.out (fun z=>by simp) (fun z=>by simp) _ _ _,zga (zaa (zaa hbw hb6) (zca _ _)) (Nat.le_trans (Nat.le_succ _) (Nat.le_succ _)) _ _ _⟩
theorem wtsM_lim {a:List (List RF)} (hs:zqh a):zxr a≤536870912*24:=
 Nat.le_trans (zit a (fun l hl x hx=>(hs.2.2.2.2 l hl).1 x hx) (fun l hl=>by rw[(hs.2.2.2.2 l hl).2];have:=hs.2.2.2.1;omega)) (Nat.mul_le_mul_left _ hs.2.1)
set_option maxRecDepth 100000 in
set_option maxHeartbeats 6400000 in
theorem rdot_raw (vu vv:Value) (n:Nat) (x y:Nat→RF) (w:World) (hu:zni w vu (rowF n x)) (hv:zni w vv (rowF n y)) (hn:n≤1000) (hfx:∀k,k<n→(x k).ok) (hfy:∀k,k<n→(y k).ok)
 (hp:∀k,k<n→fits ((x k).q*(y k).q)) (hs:∀k,k≤n→fits (sg k fun j=>(x j).q*(y j).q)):
 Calls Tryz.prog 176 #[vu,vv] w (RF1 w (sg n fun j=>(x j).q*(y j).q)):=by
 have su:=hu.sl
 have lu:slen vu=n:=by rw[hu.len,zcr]
 have sv:=hv.sl
 have lv:slen vv=n:=by rw[hv.len,zcr]
 have HU:=zH hu
 have HV:=zH hv
 have HFX:=zH hfx
 have HFY:=zH hfy
 have HP:=zH hp
 have HS:=zH hs
 have hb0:=zca w (.cells #[.bool false, .slice none 0 0, .slice none 0 0] 38)
 have HR0:=zH (C3.new w 38 (.bool false) (.slice none 0 0) (.slice none 0 0))
 clear hu hv hfx hfy hp hs
 go_enter Tryz.func176,Tryz.ntmps176
 go_upto_region 1 with fail
 obtain⟨W0,hW0⟩:∃W0,w.alloc (.cells #[.bool false, .slice none 0 0, .slice none 0 0] 38)=W0:=⟨_,rfl⟩
 rw[hW0]at hb0 HR0 ⊢
 clear hW0
 have hB0:w.heap.size≤W0.heap.size:=hb0.size
 go_wp2_with (go_at_call 20;(with_reducible refine(zwi _).mono ?_);rintro e13 w13 ⟨v13,rfl,hv13,hb13⟩
              obtain⟨t13,x13,y13,rfl,⟨a131,l131,k131,rfl,q131⟩,⟨a132,l132,k132,rfl,q132⟩⟩:=hv13.isF
              have hb14:=zaa hb13 (zca w13 (.cells #[.bool t13, .slice a131 l131 k131, .slice a132 l132 k132] 38))
              have hv14:=hv13.below (zca w13 (.cells #[.bool t13, .slice a131 l131 k131, .slice a132 l132 k132] 38))
              have h1314:=hb13.size
              have HC1:=zH (C3.new w13 38 (.bool t13) (.slice a131 l131 k131) (.slice a132 l132 k132)))
 obtain⟨b5,hb5⟩:∃b,w13.heap.size=b:=⟨_,rfl⟩
 rw[hb5]at HC1 h1314
 rw[hb5]
 clear hb5
 go_loopg [6] (n) (fun g u6 wr=>∃ (k:Nat) (t':Bool) (a1 a2:Option Addr) (l1 k1 l2 k2:Nat),k≤n∧g=n-k∧u6= .int .i64 k∧C3 wr b5 (.bool t') (.slice a1 l1 k1) (.slice a2 l2 k2)∧zqa wr (.agg #[.bool t', .slice a1 l1 k1, .slice a2 l2 k2]) (sg k fun j=>(x j).q*(y j).q)∧Below W0.heap.size W0 wr)
 case atStart=>exact⟨0,_,_,_,_,_,_,_,Nat.zero_le _,rfl,rfl,HC1.out,hv14,hb14⟩
 case round=>
  obtain⟨k,t',a1,a2,l1,k1,l2,k2,hk,hg,rfl,hc3,hvk,hbr⟩:=hrel
  obtain⟨w2,hw2⟩:∃w2,w2=wr:=⟨_,rfl⟩
  subst hw2
  have HG:=zH hg
  have HC3:=zH hc3
  have HVK:=zH hvk
  have HBR:=zH hbr
  have hbw:=hb0.trans (hbr.mono hB0)
  clear hg hv14 hb14 HC1
  by_cases hkn:k<n
  ·obtain⟨ea,eb,g1,g2,g3,g4,g5⟩:=(HU.out.below hbw).at' k (by rw[zcr];exact hkn)
   obtain⟨ec,ed,g6,g7,g8,g9,g10⟩:=(HV.out.below hbw).at' k (by rw[zcr];exact hkn)
   rw[rowF_get]at g1 g4 g5 g6 g9 g10
   obtain⟨ea1,ea2,ea3,rfl,_⟩:=g4.slen.1
   obtain⟨eb1,eb2,eb3,rfl,_⟩:=g5.slen.1
   obtain⟨ec1,ec2,ec3,rfl,_⟩:=g9.slen.1
   obtain⟨ed1,ed2,ed3,rfl,_⟩:=g10.slen.1
   have hbD:=zja (B:=w2.heap.size) w2
   have HFU:Hid (zdc w2.drew (.agg #[.bool (x k).neg, .slice ea1 ea2 ea3, .slice eb1 eb2 eb3]) (x k).neg (x k).n (x k).d):=zH ⟨_,_,rfl,g4.below hbD,g5.below hbD⟩
   have HFV:Hid (zdc w2.drew (.agg #[.bool (y k).neg, .slice ec1 ec2 ec3, .slice ed1 ed2 ed3]) (y k).neg (y k).n (y k).d):=zH ⟨_,_,rfl,g9.below hbD,g10.below hbD⟩
   have HCD:=zH (HC3.out.belowS hbD)
   have HVD:=zH (HVK.out.below hbD)
   obtain⟨_,p1,p2,p3,_,_,_⟩:=id hc3
   have q1:=zba hbD p1
   have q2:=zba hbD p2
   have q3:=zba hbD p3
   have q4:=zba hbD g1
   have q5:=zba hbD g2
   have q6:=zba hbD g3
   have q7:=zba hbD g6
   have q8:=zba hbD g7
   have q9:=zba hbD g8
   have HF1:=zH (HFX.out k hkn)
   have HF2:=zH (HFY.out k hkn)
   have HF3:=zH (HP.out k hkn)
   have HF4:=zH (HS.out k hk)
   have HF5:Hid (fits ((sg k fun j=>(x j).q*(y j).q)+(x k).q*(y k).q)):=zH (HS.out (k+1) hkn)
   have i1:(0:Int)≤(k:Int):=by omega
   have i2:(k:Int)<(n:Nat):=by omega
   clear g1 g2 g3 g4 g5 g6 g7 g8 g9 g10 hbw hc3 hvk hbr p1 p2 p3
   go_wp2_with fail
   refine wpN.start [11] (fun w'=>w'.cell? ⟨b5,0,none⟩=some (.bool t')∧w'.cell? ⟨b5,1,none⟩=some (.slice a1 l1 k1)∧w'.cell? ⟨b5,2,none⟩=some (.slice a2 l2 k2)∧w'.cell? (ptr vu (k*3))=some (.bool (x k).neg)∧w'.cell? (ptr vu (k*3+1))=some (.slice ea1 ea2 ea3)∧w'.cell? (ptr vu (k*3+2))=some (.slice eb1 eb2 eb3)∧w'.cell? (ptr vv (k*3))=some (.bool (y k).neg)∧w'.cell? (ptr vv (k*3+1))=some (.slice ec1 ec2 ec3)∧w'.cell? (ptr vv (k*3+2))=some (.slice ed1 ed2 ed3)) (by kernel_rfl) ⟨q1,q2,q3,q4,q5,q6,q7,q8,q9⟩ (fun hHeld=> ?_)
   refine wpN.t 0 ?_
   refine wpN.t 1 ?_
   refine wpN.t 2 ?_
   refine wpN.t 3 ?_
   refine wpN.t 4 ?_
   refine wpN.t 5 ?_
   refine wpN.t 6 ?_
   refine wpN.t 7 ?_
   refine wpN.t 8 ?_
   (refine wpN.oo 9 ?_;intro K hK)
   refine zxa 209 #[.agg #[.bool (x k).neg, .slice ea1 ea2 ea3, .slice eb1 eb2 eb3], .agg #[.bool (y k).neg, .slice ec1 ec2 ec3, .slice ed1 ed2 ed3]] ?_ ?_ (r5mul_raw _ _ (x k) (y k) _ HFU.out HFV.out HF1.out HF2.out HF3.out) ?_
   ·rfl
   ·go_simp
   rintro e9 w9 ⟨v9,rfl,hv9,hb9⟩
   refine⟨_,rfl,?_⟩
   have hNew:(fun w'=>w'.cell? ⟨b5,0,none⟩=some (.bool t')∧w'.cell? ⟨b5,1,none⟩=some (.slice a1 l1 k1)∧w'.cell? ⟨b5,2,none⟩=some (.slice a2 l2 k2)∧w'.cell? (ptr vu (k*3))=some (.bool (x k).neg)∧w'.cell? (ptr vu (k*3+1))=some (.slice ea1 ea2 ea3)∧w'.cell? (ptr vu (k*3+2))=some (.slice eb1 eb2 eb3)∧w'.cell? (ptr vv (k*3))=some (.bool (y k).neg)∧w'.cell? (ptr vv (k*3+1))=some (.slice ec1 ec2 ec3)∧w'.cell? (ptr vv (k*3+2))=some (.slice ed1 ed2 ed3)) w9:=⟨zba hb9 q1,zba hb9 q2,zba hb9 q3,zba hb9 q4,zba hb9 q5,zba hb9 q6,zba hb9 q7,zba hb9 q8,zba hb9 q9⟩
   refine hK.out _ _ (fun _=>hNew) ?_
   clear hK K hHeld q1 q2 q3 q4 q5 q6 q7 q8 q9
   try simp only[Act.put,List.setIfInBounds_toArray,List.set_cons_zero,List.set_cons_succ]
   obtain⟨q1,q2,q3,q4,q5,q6,q7,q8,q9⟩:=hNew
   (refine wpN.oo 10 ?_;intro K hK)
   refine zxa 208 #[.agg #[.bool t', .slice a1 l1 k1, .slice a2 l2 k2],v9] ?_ ?_ (r5add_can _ _ _ _ _ (HVD.out.below hb9) hv9 HF4.out HF3.out HF5.out) ?_
   ·rfl
   ·go_simp
   rintro e10 w10 ⟨v10,rfl,hv10,hb10⟩
   obtain⟨t9,x9,y9,rfl,⟨a91,l91,k91,rfl,_⟩,⟨a92,l92,k92,rfl,_⟩⟩:=hv10.isF
   refine⟨_,rfl,?_⟩
   have hNew:(fun w'=>w'.cell? ⟨b5,0,none⟩=some (.bool t')∧w'.cell? ⟨b5,1,none⟩=some (.slice a1 l1 k1)∧w'.cell? ⟨b5,2,none⟩=some (.slice a2 l2 k2)∧w'.cell? (ptr vu (k*3))=some (.bool (x k).neg)∧w'.cell? (ptr vu (k*3+1))=some (.slice ea1 ea2 ea3)∧w'.cell? (ptr vu (k*3+2))=some (.slice eb1 eb2 eb3)∧w'.cell? (ptr vv (k*3))=some (.bool (y k).neg)∧w'.cell? (ptr vv (k*3+1))=some (.slice ec1 ec2 ec3)∧w'.cell? (ptr vv (k*3+2))=some (.slice ed1 ed2 ed3)) w10:=⟨zba hb10 q1,zba hb10 q2,zba hb10 q3,zba hb10 q4,zba hb10 q5,zba hb10 q6,zba hb10 q7,zba hb10 q8,zba hb10 q9⟩
   refine hK.out _ _ (fun _=>hNew) ?_
   clear hK K q1 q2 q3 q4 q5 q6 q7 q8 q9 hNew
   try simp only[Act.put,List.setIfInBounds_toArray,List.set_cons_zero,List.set_cons_succ]
   have HC10:=zH ((HCD.out.belowS hb9).belowS hb10)
   have HV10:=zH hv10
   have HB10:=zH (zfa (zfa (zfa HBR.out hbD HBR.out.size) hb9 (zfa HBR.out hbD HBR.out.size).size) hb10 (zfa (zfa HBR.out hbD HBR.out.size) hb9 (zfa HBR.out hbD HBR.out.size).size).size)
   obtain⟨_,c0,c1,c2,f0,f1,f2⟩:=HC10.out
   clear hv10 hb10 hv9 hb9 hbD
   (refine wpN.oo 11 ?_;intro K hK)
   rw[if_pos (by rfl)]
   go_simp
   refine hK.out _ _ (fun h=>by cases h) ?_
   clear hK K c0 c1 c2 f0 f1 f2
   refine wpN.done (by kernel_rfl) ?_ _
   go_wp2_with fail
   go_roundg (n- (k+1))
   case measure=>(have:=HG.out;omega)
   case rel=>exact⟨k+1,_,_,_,_,_,_,_,by omega,rfl,by go_num,HC10.out.set _ _ _,HV10.out.set3 HC10.out (fun z=>by simp) (fun z=>by simp) _ _ _,zga HB10.out h1314 _ _ _⟩
  ·obtain rfl:k=n:=by omega
   have HR2:=zH (HR0.out.below hbr HR0.out.lt)
   obtain⟨_,c0,c1,c2,f0,f1,f2⟩:=HR2.out
   obtain⟨_,d0,d1,d2,_,_,_⟩:=id hc3
   go_wp2_with fail
   refine zab rfl rfl Tryz.aggF Tryz.sizeF (HR2.out.set _ _ _) rfl ?_
   exact⟨_,rfl,hvk.set3 HR2.out (fun z=>by simp) (fun z=>by simp) _ _ _,zga hbw (Nat.le_refl _) _ _ _⟩
end Go.Proofs.YtlpdkbmmbdfoiaaGreat
