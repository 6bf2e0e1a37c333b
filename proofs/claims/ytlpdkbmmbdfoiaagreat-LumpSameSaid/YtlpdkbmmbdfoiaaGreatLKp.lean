/-
  Six cells kept behind a store; growth in the forms that walks meet. No program is named here.
-/
import Derived.Test.YtlpdkbmmbdfoiaaGreatLLi11
import Derived.Test.YtlpdkbmmbdfoiaaGreatLMu1
import Derived.Test.YtlpdkbmmbdfoiaaGreatLLi9
import Derived.Test.YtlpdkbmmbdfoiaaGreatLMath8
import Derived.Test.YtlpdkbmmbdfoiaaGreatLNa1
import Derived.Test.YtlpdkbmmbdfoiaaGreatLOuw
set_option linter.unusedVariables false
set_option linter.unusedSimpArgs false
namespace Go.Proofs.YtlpdkbmmbdfoiaaGreat
open Go.RowKit
set_option maxRecDepth 100000 in
set_option maxHeartbeats 3200000 in
theorem column_own (va:Value) (n m k:Nat) (A:Mx) (w:World) (ha:zam w va n m A) (hk:k<m) (hn:n≤1000) (hm:m≤1000):
 Calls Tryz.prog 170 #[va, .int .i64 k] w fun e w'=>∃v,e= .returned v∧zbb w' v (zib n (fun i=>A i k))∧Below w.heap.size w w'∧w.heap.size≤(base v).block:=by
 have sa:=ha.sl
 have la:=ha.len
 obtain⟨i0,hi,hz0,hz1,hz2⟩:=info_parts Tryz.infoF
 have hM:=zon (P:=Tryz.prog) 25 38 i0 Tryz.underlying25 hi hz0 hz1 (by rw[hz2];decide)
 clear hi hz0 hz1 hz2
 go_enter Tryz.func170,Tryz.ntmps170
 go_wp2_with (refine hM _ rfl _ _ rfl w.heap.size _ n rfl rfl rfl (by omega) (Nat.le_refl _) ?_;intro v w1 hown hb1 hvb;have sv:=hown.sl;have lv:=hown.len)
 clear hM
 go_loopw [12] (fun u12 wr=>∃ (i:Nat),i≤n∧u12= .int .i64 i∧zqb wr 38 w.heap.size v n∧(∀j,j<i→zlg wr v j (A j k))∧Below w.heap.size w wr) (fun u12 _=>n- (intOf u12).toNat)
 case atStart=>exact⟨0,Nat.zero_le _,rfl,hown,fun j h=>by omega,hb1⟩
 case round=>
  obtain⟨i,hin,rfl,ho,he,hbr⟩:=hrel
  clear hown hb1
  have HE:=zH he
  clear he
  by_cases hil:i<n
  ·obtain⟨ri,hc1,hr1⟩:=(ha.below hbr).row i hil
   have slI:=hr1.sl
   have lnI:slen ri=m:=by rw[hr1.len,zea]
   obtain⟨ea,eb,g1,g2,g3,g4,g5⟩:=hr1.at' k (by rw[zea];exact hk)
   rw[ztb]at g1 g4 g5
   obtain⟨ea1,ea2,ea3,rfl,_⟩:=g4.v.sl
   obtain⟨eb1,eb2,eb3,rfl,_⟩:=g5.v.sl
   have hF:zqa wr (.agg #[.bool (decide (A i k<0)), .slice ea1 ea2 ea3, .slice eb1 eb2 eb3]) (A i k):=⟨_,_,rfl,g4,g5⟩
   obtain⟨c0,d0,_⟩:=ho.cell (i*3) (by omega)
   obtain⟨c1,d1,_⟩:=ho.cell (i*3+1) (by omega)
   obtain⟨c2,d2,_⟩:=ho.cell (i*3+2) (by omega)
   have f0:=ho.frozen (i*3)
   have f1:=ho.frozen (i*3+1)
   have f2:=ho.frozen (i*3+2)
   have n01:=ho.inj (show i*3≠i*3+1 by omega)
   have n02:=ho.inj (show i*3≠i*3+2 by omega)
   have n12:=ho.inj (show i*3+1≠i*3+2 by omega)
   have hs3:=ho.set3 i (.bool (decide (A i k<0))) (.slice ea1 ea2 ea3) (.slice eb1 eb2 eb3) (fun z=>by simp) (fun z=>by simp) (fun z=>by simp)
   have HS3:=zH hs3
   have HF:=zH hF
   have HO:=zH ho
   clear hs3 hr1 g4 g5 hF ho
   have i1:(0:Int)≤(i:Int):=by omega
   have i2:(i:Int)<(n:Nat):=by omega
   have i3:(0:Int)≤(k:Int):=by omega
   have i4:(k:Int)<(m:Nat):=by omega
   go_wp2_with fail
   go_roundw
   case rel=>
    refine⟨i+1,hil,by go_num,HS3.out.1,fun j hj=> ?_,hbr.trans HS3.out.2⟩
    rcases Nat.lt_or_ge j i with h6 | h6
    ·exact zlg.set3_other HO.out hil (by omega) (HE.out j h6) _ _ _ (fun z=>by simp) (fun z=>by simp)
    ·obtain rfl:j=i:=by omega
     exact zlg.set3 HO.out hil HF.out
   case measure=>simp[intOf];omega
  ·obtain rfl:i=n:=by omega
   go_wp2_with fail
   go_ret
   exact⟨v,rfl,ho.fracs (zea _ _) (fun j hj=>by rw[zea]at hj;rw[ztb];exact HE.out j hj),hbr,ho.block.1⟩
def zmu (n:Nat) (b:Nat→Rat):List RF:=(zib n b).map RF.of
@[go_sem] theorem slen_lit (a : Option Addr) (n c : Nat) : slen (.slice a n c) = n := rfl
theorem column_zero (va:Value) (n:Nat) (A:Mx) (w:World) (ha:zam w va n 1 A) (hn:n≤1000):
 Calls Tryz.prog 170 #[va, .int .i64 0] w fun e w'=>∃v,e= .returned v∧zbb w' v (zib n (fun i=>A i 0))∧Below w.heap.size w w'∧w.heap.size≤(base v).block:=
 column_own va n 1 0 A w ha (by decide) hn (by decide)
def RSolveO (w0:World) (n:Nat) (S:St) (e:Ending) (w:World):Prop:=
 ∃v er,e= .returned (.tuple #[v, .int .i64 er])∧Below w0.heap.size w0 w∧(S.r<n→v= .slice none 0 0∧er=9)∧(¬S.r<n→er=0∧zbb w v (zib n (fun i=>S.A i n/S.A i i))∧w0.heap.size≤(base v).block)
structure RowsW (w:World) (B:Nat) (v:Value) (rs:List Value) (n k:Nat) (b:Nat→Rat):Prop where
 own:zlc w 25 B 1 v n rs
 row:∀ (i:Nat) (h:i<rs.length),i<k→zbb w rs[i] [b i]∧(base rs[i]).block≠(base v).block
theorem zpw {n:Nat} {b:Nat→Rat} (hf:∀i,i<n→fits (b i)):∀x∈zmu n b,x.ok:=by
 intro x hx
 obtain⟨q,hq,rfl⟩:=List.mem_map.1 hx
 obtain⟨j,hj,rfl⟩:=List.mem_map.1 hq
 exact RF.of_ok (hf j (List.mem_range.1 hj))
theorem zrk (n:Nat) (b:Nat→Rat):(zmu n b).length=n:=by unfold zmu;rw[List.length_map,zea]
theorem zlc.cell_ne {w:World} {e:TypeId} {B size n:Nat} {v:Value} {xs:List Value} (h:zlc w e B size v n xs) (j:Nat) (hj:j<xs.length) (z:Int):xs[j]≠ .int .u32 z:=by
 rcases h.own.2 with⟨rfl,h0⟩ | ⟨g,cap,cur,rfl,hb,hg,hn,hm,hs,ht⟩
 ·have:=h.own.1;rw[h0]at this;omega
 ·refine h.nl g rfl cur e _ hg xs[j] ?_ z
  rw[←List.take_append_drop (n*size) cur.toList,ht]
  exact List.mem_append_left _ (List.getElem_mem hj)
set_option maxRecDepth 100000 in
set_option maxHeartbeats 6400000 in
theorem solve_own (va vb:Value) (n:Nat) (A:Mx) (b:Nat→Rat) (w:World) (ha:zam w va n n A) (hb:zbb w vb (zib n b)) (hn1:1≤n) (hn:n≤24) (hf:zau n n A) (hfb:∀i,i<n→fits (b i)) (hw:wtF n n A+wts (qs (zmu n b))≤1900)
 (hX:slimE false n (n+1) n (zpa n A (fun i _=>b i))) (hq:∀i,i<n→(elim false n (zpa n A (fun i _=>b i)) n).r=n→(elim false n (zpa n A (fun i _=>b i)) n).A i i≠0∧fits ((elim false n (zpa n A (fun i _=>b i)) n).A i n/(elim false n (zpa n A (fun i _=>b i)) n).A i i)):
 Calls Tryz.prog 98 #[va,vb] w (RSolveO w n (elim false n (zpa n A (fun i _=>b i)) n)):=by
 obtain⟨i4,hi4,hz4,hs4,hy4⟩:=info_parts Tryz.infoRow
 have hMR:=zbi (P:=Tryz.prog) 24 25 i4 Tryz.underlying24 hi4 hz4 hs4 hy4
 clear hi4 hz4 hs4 hy4
 have hvec:vecP (zmu n b) n:=⟨zpw hfb,zrk n b⟩
 have HV:=zH hvec
 have HF:=zH hf
 have HFB:=zH hfb
 have HX:=zH hX
 have HQ:=zH hq
 have hwi:(wtF n n A:Int)+(wts (qs (zmu n b)):Nat)≤1900:=by omega
 obtain⟨W1,hW1⟩:∃W,wtF n n A=W:=⟨_,rfl⟩
 obtain⟨W2,hW2⟩:∃W,wts (qs (zmu n b))=W:=⟨_,rfl⟩
 rw[hW1,hW2]at hwi
 have HW1:=zH hW1
 have HW2:Hid (zxr [zmu n b]=W2):=zH (by rw[zhr];exact hW2)
 have HRB:Hid (zni w vb (zmu n b)):=zH hb.raw
 obtain⟨vb1,vb2,vb3,rfl,_⟩:=id hb.sl
 have sa:=ha.sl
 have la:=ha.len
 have sb:=hb.sl
 have lb:slen (.slice vb1 vb2 vb3)=n:=by rw[hb.len,zea]
 have hvb2:vb2=n:=lb
 subst hvb2
 have HA:=zH ha
 have HB:=zH hb
 have i65:vb2≤65536:=by omega
 have i1000:vb2≤1000:=by omega
 have HO1:Hid (∀l∈ [zmu vb2 b],∀x∈l,x.ok):=zH (fun l hl x hx=>by
  have :l=zmu vb2 b:=by simpa using hl
  subst this;exact hvec.1 x hx)
 have HO2:Hid (∀l∈ [zmu vb2 b],l.length≤65536):=zH (fun l hl=>by
  have :l=zmu vb2 b:=by simpa using hl
  subst this;rw[zrk];exact i65)
 have HO3:Hid ([zmu vb2 b].length≤65536):=zH (by simp)
 clear hW1 hW2 ha hb hf hfb hX hq hw hvec lb
 go_enter Tryz.func98,Tryz.ntmps98
 go_wp2_with (first
  |(go_at_call 166;(with_reducible refine(square_lin va vb2 vb2 A _ HA.out hn1 hn hn1 hn HF.out rfl).mono ?_);rintro e1 w1 ⟨rfl,hb1⟩)
  |(go_at_call 167;(with_reducible refine(zfh _ (zmu vb2 b) vb2 _ (HRB.out.below hb1) i65).mono ?_);rw[decide_eq_true HV.out];rintro e2 w2 ⟨rfl,hb2⟩
    have hB2:=zaa hb1 hb2)
  |(go_at_call 168;first
    |((with_reducible refine(weight_lin va vb2 vb2 A _ (HA.out.below hB2) hn hn HF.out).mono ?_);rw[HW1.out];rintro e3 w3 ⟨rfl,hb3⟩
      have hB3:=zaa hB2 hb3
      have hb4:=zca w3 (.cells #[.slice vb1 vb2 vb3] 25)
      have hM4:=mat_one (zjf.new w3 #[.slice vb1 vb2 vb3] 25) (HRB.out.below (zaa hB3 hb4)))
    |((with_reducible refine(zfl _ [zmu vb2 b] _ hM4 HO1.out HO2.out HO3.out).mono ?_);rw[HW2.out];rintro e5 w5 ⟨rfl,hb5⟩
      have hB5:=zaa (zaa hB3 hb4) hb5
      clear hM4))
  |(refine hMR w5 rfl _ _ rfl w5.heap.size _ vb2 rfl rfl rfl (by omega) (Nat.le_refl _) ?_;intro vL w6 hO6 hb6
    have HO6:=zH hO6
    have HB6:=zH hb6
    have HB5:=zH hB5
    have slL:=hO6.sl
    have lnL:=hO6.len
    clear hO6 hb6 hB5 hb5 hb4 hB3 hb3 hB2 hb2 hb1))
 go_loopg [35] (vb2) (fun g u35 wr=>∃ (k:Nat) (rs:List Value),k≤vb2∧g=vb2-k∧u35= .int .i64 k∧RowsW wr w5.heap.size vL rs vb2 k b∧Below w5.heap.size w5 wr)
 case atStart=>exact⟨0,_,Nat.zero_le _,rfl,rfl,⟨HO6.out,fun i h h2=>by omega⟩,HB6.out⟩
 case round=>
  obtain⟨k,rs,hk,hg,rfl,hR,hbr⟩:=hrel
  obtain⟨w2,hw2⟩:∃w2,w2=wr:=⟨_,rfl⟩
  subst hw2
  have HG:=zH hg
  have HR:=zH hR
  have HBR:=zH hbr
  have hBw2:=zfa HB5.out hbr HB5.out.size
  clear HO6 HB6 hg
  by_cases hkl:k<vb2
  ·have hkd:k<(zib vb2 b).length:=by rw[zea];exact hkl
   obtain⟨ea,eb,g1,g2,g3,g4,g5⟩:=(HB.out.below hBw2).at' k hkd
   rw[ztb]at g1 g4 g5
   obtain⟨ea1,ea2,ea3,rfl,_⟩:=g4.v.sl
   obtain⟨eb1,eb2,eb3,rfl,_⟩:=g5.v.sl
   have hF:zqa w2 (.agg #[.bool (decide (b k<0)), .slice ea1 ea2 ea3, .slice eb1 eb2 eb3]) (b k):=⟨_,_,rfl,g4,g5⟩
   have hbA:=zca w2 (.cells #[.bool (decide (b k<0)), .slice ea1 ea2 ea3, .slice eb1 eb2 eb3] 38)
   have hbB:=zaa hbA (zca (w2.alloc (.cells #[.bool (decide (b k<0)), .slice ea1 ea2 ea3, .slice eb1 eb2 eb3] 38)) (.cells #[.bool (decide (b k<0)), .slice ea1 ea2 ea3, .slice eb1 eb2 eb3] 38))
   have hsz:(w2.alloc (.cells #[.bool (decide (b k<0)), .slice ea1 ea2 ea3, .slice eb1 eb2 eb3] 38)).heap.size=w2.heap.size+1:=by simp
   have hVN:=zjf.new (w2.alloc (.cells #[.bool (decide (b k<0)), .slice ea1 ea2 ea3, .slice eb1 eb2 eb3] 38)) #[.bool (decide (b k<0)), .slice ea1 ea2 ea3, .slice eb1 eb2 eb3] 38
   rw[hsz]at hVN
   have hNew:=fracs_one hVN (hF.below hbB)
   have hRl:rs.length=vb2:=by have:=hR.own.clen;omega
   have hkr:k<rs.length:=by rw[hRl];exact hkl
   obtain⟨s1,s2⟩:=(hR.own.below hbB).set1 k hkr (.slice (some ⟨w2.heap.size+1,0,none⟩) 1 1) (fun z=>by simp)
   have hcL:=(hR.own.below hbB).cell k hkr
   have hfL:=(hR.own.below hbB).frozen k hkr
   have hnl:∀z,rs[k]'hkr≠ .int .u32 z:=by
    obtain⟨g,hg1,_,_,_,_⟩:=hR.own.blk (by omega)
    intro z e
    have hx:=hR.own
    exact(zlc.cell_ne hx k hkr z) e
   have hLlt:(base vL).block<w2.heap.size:=by obtain⟨g,_,e2,_,e3,_⟩:=hR.own.blk (by omega);omega
   have hLge:w5.heap.size≤(base vL).block:=by obtain⟨g,_,e2,e3,_,_⟩:=hR.own.blk (by omega);omega
   have hpL:(ptr vL k).block=(base vL).block:=zsa _ _
   have hRS:RowsW (((w2.alloc (.cells #[.bool (decide (b k<0)), .slice ea1 ea2 ea3, .slice eb1 eb2 eb3] 38)).alloc (.cells #[.bool (decide (b k<0)), .slice ea1 ea2 ea3, .slice eb1 eb2 eb3] 38)).setCell (ptr vL k) (.slice (some ⟨w2.heap.size+1,0,none⟩) 1 1)) w5.heap.size vL (rs.set k (.slice (some ⟨w2.heap.size+1,0,none⟩) 1 1)) vb2 (k+1) b:=by
    refine⟨s1,fun i hi hik=> ?_⟩
    have hi0:i<rs.length:=by simpa using hi
    by_cases h1:i=k
    ·subst h1
     rw[List.getElem_set_self]
     have hb0:(base (.slice (some ⟨w2.heap.size+1,0,none⟩) 1 1)).block=w2.heap.size+1:=rfl
     exact⟨hNew.setc (by rw[hb0,hpL];omega) hcL hnl _,by rw[hb0];omega⟩
    ·rw[List.getElem_set_ne (fun e=>h1 e.symm)]
     obtain⟨r1,r2⟩:=hR.row i hi0 (by omega)
     exact⟨(r1.below hbB).setc (by rw[hpL];exact r2) hcL hnl _,r2⟩
   have HRS:=zH hRS
   have hBS:Below w5.heap.size w5 (((w2.alloc (.cells #[.bool (decide (b k<0)), .slice ea1 ea2 ea3, .slice eb1 eb2 eb3] 38)).alloc (.cells #[.bool (decide (b k<0)), .slice ea1 ea2 ea3, .slice eb1 eb2 eb3] 38)).setCell (ptr vL k) (.slice (some ⟨w2.heap.size+1,0,none⟩) 1 1)):=(zaa hbr hbB).setCell (by rw[hpL];exact hLge) _
   have HBS:=zH hBS
   clear hR hbr g4 g5 hF hbA hbB hVN hNew s1 s2 hnl hRS hBS hsz hBw2 hRl
   have i1:(0:Int)≤(k:Int):=by omega
   have i2:(k:Int)<(vb2:Nat):=by omega
   go_wp2_with fail
   go_roundg (vb2- (k+1))
   case measure=>(have:=HG.out;omega)
   case rel=>exact⟨k+1,_,by omega,rfl,by go_num,HRS.out,HBS.out⟩
  ·obtain rfl:k=vb2:=by omega
   have hML:zam w2 vL k 1 (fun i _=>b i):=⟨hR.own.sl,hR.own.len,fun i hi=>by
    have hi2:i<rs.length:=by have:=hR.own.clen;omega
    refine⟨rs[i],hR.own.cell i hi2,?_⟩
    have h:=(hR.row i hi2 hi).1
    exact h⟩
   obtain⟨l1,l2,l3,rfl,hl3⟩:=id hML.sl
   obtain⟨bd,rfl⟩:∃bd,l1=some bd:=by
    cases l1 with
    | none=>exfalso;have h1:=hML.len;have h2:=hl3.2.2 rfl;have h3:l2=k:=h1;omega
    | some bd=>exact⟨bd,rfl⟩
   have HML:=zH hML
   have HQ1:Hid (∀i,i<k→(elim false k (zpa k A (fun i _=>b i)) k).r=k→(elim false k (zpa k A (fun i _=>b i)) k).A i i≠0∧∀j,j<1→fits ((elim false k (zpa k A (fun i _=>b i)) k).A i (k+j)/(elim false k (zpa k A (fun i _=>b i)) k).A i i)):=zH (fun i hi h=>⟨(HQ.out i hi h).1,fun j hj=>by
    obtain rfl:j=0:=by omega
    exact(HQ.out i hi h).2⟩)
   have hA2:=HA.out.below hBw2
   have HBW:=zH hBw2
   clear hR hbr hML hBw2 hkl hl3
   by_cases hrk:(elim false k (zpa k A (fun i _=>b i)) k).r<k
   ·go_wp2_with (go_at_call 169;(with_reducible refine(right_lin va bd l2 l3 k 1 A (fun i _=>b i) _ hA2 HML.out hn1 hn (Nat.le_refl _) (by omega) HX.out HQ1.out).mono ?_);rintro e7 w7 ⟨v7,er7,rfl,hb7,hs7,_⟩;obtain⟨rfl,rfl⟩:=hs7 hrk;clear hs7)
    go_ret2
    exact⟨_,9,rfl,zaa HBW.out hb7,fun _=>⟨rfl,rfl⟩,fun h=>absurd hrk h⟩
   ·go_wp2_with (first
     |(go_at_call 169;(with_reducible refine(right_lin va bd l2 l3 k 1 A (fun i _=>b i) _ hA2 HML.out hn1 hn (Nat.le_refl _) (by omega) HX.out HQ1.out).mono ?_);rintro e7 w7 ⟨v7,er7,rfl,hb7,_,hs7⟩;obtain⟨rfl,hm7⟩:=hs7 hrk;clear hs7)
     |(go_at_call 170;(with_reducible refine(column_zero v7 k _ _ hm7 i1000).mono ?_);rintro e8 w8 ⟨v8,rfl,hf8,hb8,hn8⟩))
    go_ret2
    exact⟨v8,0,rfl,zaa (zaa HBW.out hb7) hb8,fun h=>absurd h hrk,fun _=>⟨rfl,hf8,Nat.le_trans (zaa HBW.out hb7).size hn8⟩⟩
section
variable {n:Nat} {A:Mx} {b:Nat→Rat}
def solE (n:Nat) (A:Mx) (b:Nat→Rat) (i:Nat):Rat:=(elim false n (zpa n A (fun i _=>b i)) n).A i n/(elim false n (zpa n A (fun i _=>b i)) n).A i i
theorem sol_eq (h:(elim false n (zpa n A (fun i _=>b i)) n).r=n):∀i,i<n→sg n (fun j=>A i j*solE n A b j)=b i:=by
 intro i hi
 exact znl (A:=A) (B:=fun i _=>b i) h (c:=1) (q:=0) (by omega) i hi
end
end Go.Proofs.YtlpdkbmmbdfoiaaGreat
namespace Go.Proofs.YtlpdkbmmbdfoiaaGreat
theorem zwu {n:Nat} {l:List Nat} {f:Nat→Rat} (hp:l.Pairwise (· < ·)) (hb:∀x,x∈l→x<n):sg n f=sg l.length (fun i=>f (l.getD i 0))+sg n fun t=>if t∈l then 0 else f t:=by
 have h1:=zmt (n:=n) (l:=l) (f:=fun t=>if t∈l then f t else 0) hp hb (fun t ht h=>by simp[h])
 have h2:sg l.length (fun i=>f (l.getD i 0))=sg l.length fun i=>if l.getD i 0∈l then f (l.getD i 0)else 0:=zma fun i hi=>by rw[if_pos (zcq hi)]
 rw[h2,←h1,←zvd]
 refine zma fun t ht=> ?_
 by_cases h:t∈l
 ·simp[h,Rat.add_zero]
 ·simp[h,Rat.zero_add]
theorem zhu {l:List Nat} (hp:l.Pairwise (· < ·)) {i:Nat} (hi:i<l.length):l.idxOf (l.getD i 0)=i:=by
 have hn:l.Nodup:=hp.imp (fun h=>Nat.ne_of_lt h)
 rw[List.getD_eq_getElem?_getD,List.getElem?_eq_getElem hi]
 exact List.Nodup.idxOf_getElem hn i hi
theorem LK.eq {n:Nat} {r:Mx} {lost:Nat→Prop} {l:List Nat} (hm:MC n r lost) (h:LK n r lost l) {X b:Nat→Rat} {i:Nat} (hi:i<l.length) (he:sg n (r (l.getD i 0))*X (l.getD i 0)=b (l.getD i 0)+sg n fun t=>r (l.getD i 0) t*X t):
 sg l.length (fun j=>mmA (fun i j=>r (l.getD i 0) (l.getD j 0)) (fun i=>sg n (r (l.getD i 0))) i j*X (l.getD j 0))=b (l.getD i 0)+sg n fun t=>if t∈l then 0 else r (l.getD i 0) t*X t:=by
 rw[mmA_row (n:=l.length) (r:=fun i j=>r (l.getD i 0) (l.getD j 0)) (o:=fun i=>sg n (r (l.getD i 0))) (fun i hi=>hm.d _ (h.lt _ (zcq hi))) hi,he,zwu (l:=l) h.so h.lt]
 grind
theorem LK.ex {n:Nat} {r:Mx} {lost:Nat→Prop} {l:List Nat} (hm:MC n r lost) (h:LK n r lost l) (z b:Nat→Rat):∃X:Nat→Rat,(∀t,t∉l→X t=z t)∧∀s,s∈l→sg n (r s)*X s=b s+sg n fun t=>r s t*X t:=by
 have hdt:=h.dt hm
 have hx:=sol_eq (b:=fun i=>b (l.getD i 0)+sg n fun t=>if t∈l then 0 else r (l.getD i 0) t*z t) (zff (B:=fun i _=>b (l.getD i 0)+sg n fun t=>if t∈l then 0 else r (l.getD i 0) t*z t) hdt)
 generalize solE l.length (mmA (fun i j=>r (l.getD i 0) (l.getD j 0)) fun i=>sg n (r (l.getD i 0))) (fun i=>b (l.getD i 0)+sg n fun t=>if t∈l then 0 else r (l.getD i 0) t*z t)=x at hx
 refine⟨fun t=>if t∈l then x (l.idxOf t)else z t,fun t ht=>by simp[ht],fun s hs=> ?_⟩
 obtain⟨i,hi,rfl⟩:=zbv hs
 have h1:=hx i hi
 show sg n (r (l.getD i 0))*(if l.getD i 0∈l then x (l.idxOf (l.getD i 0))else z (l.getD i 0))=b (l.getD i 0)+sg n fun t=>r (l.getD i 0) t*(if t∈l then x (l.idxOf t)else z t)
 rw[mmA_row (n:=l.length) (r:=fun i j=>r (l.getD i 0) (l.getD j 0)) (o:=fun i=>sg n (r (l.getD i 0))) (fun i hi=>hm.d _ (h.lt _ (zcq hi))) hi]at h1
 have e1:sg l.length (fun j=>r (l.getD i 0) (l.getD j 0)*(if l.getD j 0∈l then x (l.idxOf (l.getD j 0))else z (l.getD j 0)))=sg l.length fun j=>r (l.getD i 0) (l.getD j 0)*x j:=zma fun j hj=>by
  rw[if_pos (zcq hj),zhu h.so hj]
 have e2:(sg n fun t=>if t∈l then 0 else r (l.getD i 0) t*(if t∈l then x (l.idxOf t)else z t))=sg n fun t=>if t∈l then 0 else r (l.getD i 0) t*z t:=zma fun t _=>by
  by_cases ht:t∈l<;>simp[ht]
 rw[zwu (l:=l) h.so h.lt (f:=fun t=>r (l.getD i 0) t*if t∈l then x (l.idxOf t)else z t),e1,e2,if_pos (zcq hi),zhu h.so hi]
 grind
def RC1 (n:Nat) (r:Mx) (S:Nat→Prop):Nat→Prop:=Clo n S fun i j=>0<r i j
theorem FT.back {n:Nat} {r:Mx} {lost:Nat→Prop} {s t:Nat} (h:FT n r lost t) (hs:s<n) (hp:0<r s t):FT n r lost s:=Clo.step h hs hp
structure HitF (n:Nat) (r:Mx) (lost:Nat→Prop) (H:Nat→Rat):Prop where
 one:∀s,s<n→lost s→H s=1
 no:∀s,s<n→¬FT n r lost s→H s=0
 eq:∀s,s<n→¬lost s→sg n (r s)*H s=sg n fun t=>r s t*H t
structure TimeF (n:Nat) (r:Mx) (lost:Nat→Prop) (U:Nat→Prop) (T:Nat→Rat):Prop where
 zero:∀s,s<n→lost s→T s=0
 eq:∀s,s<n→¬lost s→U s→sg n (r s)*T s=1+sg n fun t=>r s t*T t
open Classical in
/-- The states below n with a property, in order. -/
noncomputable def lsP (n:Nat) (p:Nat→Prop):List Nat:=(List.range n).filter fun s=>decide (p s)
theorem zhq {n:Nat} {p:Nat→Prop} {s:Nat}:s∈lsP n p↔s<n∧p s:=by
 classical
 unfold lsP
 rw[List.mem_filter,List.mem_range,decide_eq_true_iff]
theorem lsP_so (n:Nat) (p:Nat→Prop):(lsP n p).Pairwise (· < ·):=List.Pairwise.filter _ List.pairwise_lt_range
theorem hit_ex {n:Nat} {r:Mx} {lost:Nat→Prop} (hm:MC n r lost):∃H,HitF n r lost H:=by
 classical
 have hl:LK n r lost (lsP n fun s=>FT n r lost s∧¬lost s):={
  so:=lsP_so _ _
  lt:=fun s h=>(zhq.1 h).1
  nl:=fun s h=>(zhq.1 h).2.2
  ft:=fun s h=>(zhq.1 h).2.1
  cl:=fun s t h ht hp=>by
   by_cases h1:lost t
   ·exact Or.inr (Or.inl h1)
   ·by_cases h2:FT n r lost t
    ·exact Or.inl (zhq.2 ⟨ht,h2,h1⟩)
    ·exact Or.inr (Or.inr h2) }
 obtain⟨H,h1,h2⟩:=hl.ex hm (fun s=>if lost s then 1 else 0) (fun _=>0)
 have hno:∀s,s<n→¬FT n r lost s→H s=0:=fun s hs h=>by
  rw[h1 s (fun hmem=>h (zhq.1 hmem).2.1),if_neg (fun hl=>h (Clo.base hs hl))]
 refine⟨H,fun s hs h=>by rw[h1 s (fun hmem=>(zhq.1 hmem).2.2 h),if_pos h],hno,fun s hs h=> ?_⟩
 by_cases hf:FT n r lost s
 ·rw[h2 s (zhq.2 ⟨hs,hf,h⟩),Rat.zero_add]
 ·rw[hno s hs hf,Rat.mul_zero]
  refine(sg_zero' fun t ht=> ?_).symm
  by_cases hp:0<r s t
  ·rw[hno t ht (fun h3=>hf (h3.back hs hp)),Rat.mul_zero]
  ·have:=hm.nn s t hs ht
   have :r s t=0:=by grind
   rw[this,Rat.zero_mul]
def Sure (n:Nat) (r:Mx) (lost:Nat→Prop) (s:Nat):Prop:=∀t,RC1 n r (fun j=>j=s) t→FT n r lost t
theorem RC1.of {n:Nat} {r:Mx} {s t:Nat} (hs:s<n) (ht:t<n) (hp:0<r s t):∀ {u:Nat},RC1 n r (fun j=>j=t) u→RC1 n r (fun j=>j=s) u:=by
 intro u h
 induction h with
 | base hi hS=>subst hS;exact Clo.step (Clo.base hs rfl) hi hp
 | step hc hj hL ih=>exact Clo.step ih hj hL
theorem Sure.step {n:Nat} {r:Mx} {lost:Nat→Prop} {s t:Nat} (h:Sure n r lost s) (hs:s<n) (ht:t<n) (hp:0<r s t):Sure n r lost t:=fun u hu=>h u (RC1.of hs ht hp hu)
theorem Sure.ft {n:Nat} {r:Mx} {lost:Nat→Prop} {s:Nat} (h:Sure n r lost s) (hs:s<n):FT n r lost s:=h s (Clo.base hs rfl)
theorem sure_lk (n:Nat) (r:Mx) (lost:Nat→Prop):LK n r lost (lsP n fun s=>Sure n r lost s∧¬lost s) where
 so:=lsP_so _ _
 lt:=fun s h=>(zhq.1 h).1
 nl:=fun s h=>(zhq.1 h).2.2
 ft:=fun s h=>(zhq.1 h).2.1.ft (zhq.1 h).1
 cl:=fun s t h ht hp=>by
  have h0:=zhq.1 h
  by_cases h1:lost t
  ·exact Or.inr (Or.inl h1)
  ·exact Or.inl (zhq.2 ⟨ht,h0.2.1.step h0.1 ht hp,h1⟩)
theorem time_ex {n:Nat} {r:Mx} {lost:Nat→Prop} (hm:MC n r lost):∃T,TimeF n r lost (Sure n r lost) T:=by
 obtain⟨T,h1,h2⟩:=(sure_lk n r lost).ex hm (fun _=>0) (fun _=>1)
 exact⟨T,fun s hs h=>h1 s fun hmem=>(zhq.1 hmem).2.2 h,fun s hs h hu=>h2 s (zhq.2 ⟨hs,hu,h⟩)⟩
end Go.Proofs.YtlpdkbmmbdfoiaaGreat
namespace Go.Proofs.YtlpdkbmmbdfoiaaGreat
open Go.RowKit
@[go_sem] theorem slen_lit0 (a : Option Addr) (n c : Nat) : slen (.slice a n c) = n := rfl
@[go_sem] theorem int_beq_self0 (y : Int) : (y == y) = true := by simp
@[go_sem] theorem int_bne_self0 (y : Int) : (y != y) = false := by simp
theorem make_E2 {P:Program} (t e:TypeId) (i:TypeInfo) (z:Value) (by':Nat) (h1:P.underlying t=some (.slice e)) (h2:P.info? e=some i) (h3:i.zero=some z) (h4:i.size=1) (h5:i.bytes=by') (hby:by'≤32) (hz:z.cells=#[z])
 (w:World) {ops:Array Oper} {rest:List Oper} {o:Oper} {a:Act} {Q:Exit→Act→World→Prop} (hg:o.guard=none) (l c:Operand) (hop:o.op=Op.makeSlice t l c)
 (n:Nat) (hl:a.eval l= .int .i64 n) (hc:a.eval c= .int .i64 n) (hn:n≤128)
 (hK:∀v w',zce w' e w.heap.size v (List.replicate n z)→Below w.heap.size w w'→wpList P ops Q rest (a.put o.dst v) w'):
 wpList P ops Q (o::rest) a w:=
 zjh w hg l c t hop w.heap.size e i z h1 h2 h3 h4 hz n hl hc (by rw[h5];exact Nat.le_trans (Nat.mul_le_mul hby hn) (by decide)) (by simp[maxLen];omega) (Nat.le_refl _) (fun v w' h6 h7 _=>hK v w' h6 h7)
theorem zce.bools {w:World} {e:TypeId} {B:Nat} {v:Value} {bs:List Bool} (h:zce w e B v (bs.map Value.bool)):zcm w v bs:=
 ⟨h.sl,by rw[h.len],fun j hj=>h.cell j hj⟩
theorem zrn {l:List Bool} {k:Nat} (h:k<l.length):l.getD k false=l[k]:=by
 rw[List.getD_eq_getElem?_getD,List.getElem?_eq_getElem h];rfl
theorem zge {x:Int} (h1:0≤x) (h2:x≤1900):IntKind.i64.wrap x=x:=by
 unfold IntKind.wrap
 simp[IntKind.signed,IntKind.bits]
 omega
set_option maxRecDepth 100000 in
set_option maxHeartbeats 1600000 in
theorem cmp_frac (va vb:Value) (s t:Bool) (n d m e:Nat) (w:World) (ha:zdc w va s n d) (hb:zdc w vb t m e) (h1:okN n d) (h2:okN m e):
 Calls Tryz.prog 130 #[va,vb] w fun en w'=>en= .returned (.tuple #[.int .i64 (zsr (fq s n d) (fq t m e)), .int .i64 0])∧Below w.heap.size w w':=by
 have hA:=ha
 have hB:=hb
 obtain⟨xn,xd,rfl,hxn,hxd⟩:=ha
 obtain⟨yn,yd,rfl,hyn,hyd⟩:=hb
 obtain⟨an,ln,kn,rfl,_⟩:=hxn.slen.1
 obtain⟨ad,ld,kd,rfl,_⟩:=hxd.slen.1
 obtain⟨am,lm,km,rfl,_⟩:=hyn.slen.1
 obtain⟨ae,le,ke,rfl,_⟩:=hyd.slen.1
 have K1:=zH h1
 have K2:=zH h2
 have HR:=zH (cmpR_eq s t n d m e h1.1 h2.1)
 clear h1 h2
 go_enter Tryz.func130,Tryz.ntmps130
 go_wp2_with fail
 obtain⟨W,hW⟩:∃W,W=((w.alloc (.cells #[.bool s, .slice an ln kn, .slice ad ld kd] 38)).alloc (.cells #[.bool t, .slice am lm km, .slice ae le ke] 38)):=⟨_,rfl⟩
 obtain⟨bx,byy,hbw⟩:=zcf w 38 _ _ _ _ _ _ W hW
 rw[←hW]
 clear hW
 have HBX:=zH bx
 have HBY:=zH byy
 obtain⟨_,q1,q2,q3,q4,q5,q6⟩:=bx
 obtain⟨_,r1,r2,r3,r4,r5,r6⟩:=byy
 go_wp2_with (first
  |(go_at_call 79;first
    |((with_reducible refine(zrd _ s n d _ (hA.below hbw) K1.out).mono ?_);rintro e9 w1 ⟨rfl,hv1⟩
      obtain⟨_,f1,f2,f3,f4,f5,f6⟩:=HBY.out.belowS hv1
      have hbw1:=zaa hbw hv1)
    |((with_reducible refine(zrd _ t m e _ (hB.below hbw1) K2.out).mono ?_);rintro e9 w2 ⟨rfl,hv2⟩
      have hbx2:=(HBX.out.belowS hv1).belowS hv2
      have hby2:=(HBY.out.belowS hv1).belowS hv2
      have hbw2:=zaa hbw1 hv2)))
 clear q1 q2 q3 q4 q5 q6 r1 r2 r3 r4 r5 r6 f1 f2 f3 f4 f5 f6
 have hd2:=zja (B:=w2.heap.size) w2
 have hD:=hbw2.trans (hd2.mono hbw2.size)
 have hbx3:=hbx2.belowS hd2
 have hby3:=hby2.belowS hd2
 clear hbx2 hby2 hbw2 hv1 hv2 hbw hbw1 HBX HBY hd2
 have HX3:=zH hbx3
 have HY3:=zH hby3
 obtain⟨_,q1,q2,q3,q4,q5,q6⟩:=hbx3
 obtain⟨_,r1,r2,r3,r4,r5,r6⟩:=hby3
 have g1:=hxn.below hD
 have g2:=hxd.below hD
 have g3:=hyn.below hD
 have g4:=hyd.below hD
 have l1:=zH (zrc K1.out)
 have l2:=zH (zrc K2.out)
 have T1:=zH (Nat.le_trans l1.out.1 (show 128≤256 by decide))
 have T2:=zH (Nat.le_trans l2.out.2 (show 128≤256 by decide))
 have T3:=zH (Nat.le_trans l2.out.1 (show 128≤256 by decide))
 have T4:=zH (Nat.le_trans l1.out.2 (show 128≤256 by decide))
 have tok1:True:=trivial
 go_region_held3 (fun w'=>w'.cell? ⟨w.heap.size,1,none⟩=some (.slice an ln kn)∧w'.cell? ⟨w.heap.size,2,none⟩=some (.slice ad ld kd)∧w'.cell? ⟨w.heap.size+1,1,none⟩=some (.slice am lm km)∧w'.cell? ⟨w.heap.size+1,2,none⟩=some (.slice ae le ke)) (exact⟨q2,q3,r2,r3⟩) (first
  |(go_at_call 157;have _t:=tok1;clear tok1 _t;(with_reducible refine(zgb _ _ n e _ g1 g4 T1.out T2.out).mono ?_);rintro e9 w3 ⟨p1,rfl,hp1,hp2⟩
    have X4:=HX3.out.belowS hp2
    have Y4:=HY3.out.belowS hp2
    have HX4:=zH X4
    have HY4:=zH Y4
    obtain⟨_,q1,q2,q3,q4,q5,q6⟩:=X4
    obtain⟨_,r1,r2,r3,r4,r5,r6⟩:=Y4)
  |(go_at_call 157;(with_reducible refine(zgb _ _ m d _ (g3.below hp2) (g2.below hp2) T3.out T4.out).mono ?_);rintro e9 w4 ⟨p3,rfl,hp3,hp4⟩
    have hp24:=zaa hp2 hp4
    have hp14:=hp1.below hp4
    have X5:=HX4.out.belowS hp4
    have Y5:=HY4.out.belowS hp4
    have HX5:=zH X5
    have HY5:=zH Y5
    obtain⟨_,q1,q2,q3,q4,q5,q6⟩:=X5
    obtain⟨_,r1,r2,r3,r4,r5,r6⟩:=Y5)
  |(go_at_call 159;(with_reducible refine(ztl p1 p3 (n*e) (m*d) _ hp14.nat hp3.nat).mono ?_);rintro e9 w5 ⟨rfl,k9,rfl⟩
    have hp5:=zka (B:=w4.heap.size) w4 k9
    have hp26:=zaa hp24 hp5
    have X6:=HX5.out.belowS hp5
    have Y6:=HY5.out.belowS hp5
    have HX6:=zH X6
    have HY6:=zH Y6
    obtain⟨_,q1,q2,q3,q4,q5,q6⟩:=X6
    obtain⟨_,r1,r2,r3,r4,r5,r6⟩:=Y6))
 have hdw:Below w.heap.size w (w4.drewN k9):=hD.trans (hp26.mono hD.size)
 clear q1 q2 q3 q4 q5 q6 r1 r2 r3 r4 r5 r6 hp5 hp26 hp24 hp14 hp1 hp3 hp2 hp4 hD g1 g2 g3 g4 HX3 HY3 HX4 HY4 HX5 HY5 T1 T2 T3 T4
 generalize w4.drewN k9=W4 at *
 have hcb: -1≤zfj (n*e) (m*d)∧zfj (n*e) (m*d)≤1:=by unfold zfj;split<;>(try split)<;>omega
 obtain⟨hcb1,hcb2⟩:=hcb
 generalize hcn:zfj (n*e) (m*d)=c at *
 have HCN:=zH hcn
 clear hcn
 have hd2:=zja (B:=W4.heap.size) W4
 have hD:=hdw.trans (hd2.mono hdw.size)
 have hbx3:=HX6.out.belowS hd2
 have hby3:=HY6.out.belowS hd2
 have HX7:=zH hbx3
 have HY7:=zH hby3
 clear HX6 HY6
 go_wp2_with fail
 obtain⟨_,q1,q2,q3,q4,q5,q6⟩:=hbx3
 obtain⟨_,r1,r2,r3,r4,r5,r6⟩:=hby3
 rcases s with _ | _<;>rcases t with _ | _
 ·go_region
  all_goals
   go_wp2
   all_goals
    go_ret2
    exact⟨by rw[HR.out];simp[*],hD⟩
 ·go_region_law (refine zxa 186 #[.agg #[.bool true, .slice am lm km, .slice ae le ke]] ?_ ?_ (zih _ true m e _ (hB.below hD)) ?_;go_simp;go_simp;rintro e9 w5 ⟨rfl,hz1⟩;refine⟨_,rfl,?_⟩;obtain⟨_,q1,q2,q3,q4,q5,q6⟩:=HX7.out.belowS hz1;obtain⟨_,r1,r2,r3,r4,r5,r6⟩:=HY7.out.belowS hz1)
  all_goals
   go_wp2
   all_goals
    go_ret2
    exact⟨by rw[HR.out];simp[*],hD.trans (hz1.mono hD.size)⟩
 ·go_region_law (refine zxa 186 #[.agg #[.bool true, .slice an ln kn, .slice ad ld kd]] ?_ ?_ (zih _ true n d _ (hA.below hD)) ?_;go_simp;go_simp;rintro e9 w5 ⟨rfl,hz1⟩;refine⟨_,rfl,?_⟩;obtain⟨_,q1,q2,q3,q4,q5,q6⟩:=HX7.out.belowS hz1;obtain⟨_,r1,r2,r3,r4,r5,r6⟩:=HY7.out.belowS hz1)
  all_goals
   go_wp2
   all_goals
    go_ret2
    exact⟨by rw[HR.out];simp[*],hD.trans (hz1.mono hD.size)⟩
 ·go_region_held3 (fun w'=>w'.cell? ⟨w.heap.size,0,none⟩=some (.bool true)∧w'.cell? ⟨w.heap.size,1,none⟩=some (.slice an ln kn)∧w'.cell? ⟨w.heap.size,2,none⟩=some (.slice ad ld kd)∧w'.cell? ⟨w.heap.size+1,0,none⟩=some (.bool true)∧w'.cell? ⟨w.heap.size+1,1,none⟩=some (.slice am lm km)∧w'.cell? ⟨w.heap.size+1,2,none⟩=some (.slice ae le ke)) (exact⟨q1,q2,q3,r1,r2,r3⟩) (first
  |(go_at_call 186;(with_reducible refine(zih _ true n d _ (hA.below hD)).mono ?_);rintro e9 w5 ⟨rfl,hz1⟩
    have X8:=HX7.out.belowS hz1
    have Y8:=HY7.out.belowS hz1
    have HX8:=zH X8
    have HY8:=zH Y8
    obtain⟨_,q1,q2,q3,q4,q5,q6⟩:=X8
    obtain⟨_,r1,r2,r3,r4,r5,r6⟩:=Y8)
  |(go_at_call 186;(with_reducible refine(zih _ true m e _ ((hB.below hD).below hz1)).mono ?_);rintro e9 w6 ⟨rfl,hz2⟩
    have X9:=HX8.out.belowS hz2
    have Y9:=HY8.out.belowS hz2
    obtain⟨_,q1,q2,q3,q4,q5,q6⟩:=X9
    obtain⟨_,r1,r2,r3,r4,r5,r6⟩:=Y9))
  all_goals
   go_wp2
   all_goals
    go_ret2
    exact⟨by rw[HR.out];simp[*],hD.trans ((zaa hz1 hz2).mono hD.size)⟩
set_option maxHeartbeats 800000
theorem zdr (w:World):Calls Tryz.prog 109 #[.int .i64 0] w (RF1 w 0):=by
 go_enter Tryz.func109,Tryz.ntmps109
 go_wp2_with (go_at_call 67;(with_reducible refine(zwy _).mono ?_);rintro e w1 ⟨v,rfl,hv,hb1⟩
              obtain⟨t9,x9,y9,rfl,⟨a1,l91,k1,rfl,_⟩,⟨a2,l92,k2,rfl,_⟩⟩:=hv.isF
              have hr:=((C3.new w 38 (.bool false) (.slice none 0 0) (.slice none 0 0)).belowS hb1).allocS (.cells #[.bool t9, .slice a1 l91 k1, .slice a2 l92 k2] 38)
              have hv2:=hv.below (zca w1 (.cells #[.bool t9, .slice a1 l91 k1, .slice a2 l92 k2] 38))
              have hb2:=zaa (zaa (zca w (.cells #[.bool false, .slice none 0 0, .slice none 0 0] 38)) hb1) (zca w1 (.cells #[.bool t9, .slice a1 l91 k1, .slice a2 l92 k2] 38))
              have HR:=zH hr
              obtain⟨_,d1,d2,d3,d4,d5,d6⟩:=hr)
 refine zab rfl rfl Tryz.aggF Tryz.sizeF (HR.out.set _ _ _) rfl ?_
 exact⟨_,rfl,hv2.set3 HR.out (fun z=>by simp) (fun z=>by simp) _ _ _,zga hb2 (Nat.le_refl _) _ _ _⟩
theorem zqs (w:World):Calls Tryz.prog 109 #[.int .i64 1] w (RF1 w 1):=by
 go_enter Tryz.func109,Tryz.ntmps109
 go_wp2_with (go_at_call 67;(with_reducible refine(make_11 _).mono ?_);rintro e w1 ⟨v,rfl,hv,hb1⟩
              obtain⟨t9,x9,y9,rfl,⟨a1,l91,k1,rfl,_⟩,⟨a2,l92,k2,rfl,_⟩⟩:=hv.isF
              have hr:=((C3.new w 38 (.bool false) (.slice none 0 0) (.slice none 0 0)).belowS hb1).allocS (.cells #[.bool t9, .slice a1 l91 k1, .slice a2 l92 k2] 38)
              have hv2:=hv.below (zca w1 (.cells #[.bool t9, .slice a1 l91 k1, .slice a2 l92 k2] 38))
              have hb2:=zaa (zaa (zca w (.cells #[.bool false, .slice none 0 0, .slice none 0 0] 38)) hb1) (zca w1 (.cells #[.bool t9, .slice a1 l91 k1, .slice a2 l92 k2] 38))
              have HR:=zH hr
              obtain⟨_,d1,d2,d3,d4,d5,d6⟩:=hr)
 refine zab rfl rfl Tryz.aggF Tryz.sizeF (HR.out.set _ _ _) rfl ?_
 exact⟨_,rfl,hv2.set3 HR.out (fun z=>by simp) (fun z=>by simp) _ _ _,zga hb2 (Nat.le_refl _) _ _ _⟩
theorem zer (v:Value) (s:Bool) (n d:Nat) (w:World) (h:zdc w v s n d):
 Calls Tryz.prog 145 #[v] w fun e w'=>e= .returned (.bool (!s&& !decide (n=0)))∧Below w.heap.size w w':=by
 obtain⟨a,b,rfl,ha,hb⟩:=h
 rcases s with _ | _
 ·go_enter Tryz.func145,Tryz.ntmps145
  go_wp2_with (go_at_call 156;refine(zva _ n _ (ha.below (zca _ _))).mono ?_;rintro e w' ⟨rfl,rfl⟩)
  go_ret
  refine⟨?_,zca _ _⟩
  have e:decide ((0:Int)<(zua n:Nat))= !decide (n=0):=by
   by_cases h0:n=0
   ·subst h0;rfl
   ·have:=zld.2 h0;rw[decide_eq_true (by omega),decide_eq_false h0];rfl
  first | (rw[show(!false&& !decide (n=0))=decide ((0:Int)<(zua n:Nat))from by rw[e];rfl];rfl) | (simp[←e])
 ·go_enter Tryz.func145,Tryz.ntmps145
  go_wp2_with fail
  go_ret
  exact⟨rfl,zca _ _⟩
set_option maxHeartbeats 3200000
set_option maxRecDepth 100000 in
theorem zzq (va:Value) (m:List (List RF)) (w:World) (ha:zlw w va m) (hok:∀l∈m,∀x∈l,x.ok) (hl:∀l∈m,l.length≤65536) (hm:m.length≤65536):
 Calls Tryz.prog 146 #[va] w fun e w'=>e= .returned (.int .i64 (zxr m))∧Below w.heap.size w w':=by
 have sa:=ha.sl
 have la:=ha.len
 have HOK:=zH hok
 have HL:=zH hl
 clear hok hl
 go_enter Tryz.func146,Tryz.ntmps146
 go_wp2_with fail
 go_loopw [3,13] (fun u3 u13 wr=>∃ (k:Nat),k≤m.length∧u13= .int .i64 k∧u3= .int .i64 (zxr (m.take k))∧Below w.heap.size w wr) (fun _ u13 _=>m.length- (intOf u13).toNat)
 case atStart=>exact⟨0,Nat.zero_le _,rfl,rfl,Below.refl _ _⟩
 case round=>
  obtain⟨k,hk,rfl,rfl,hb⟩:=hrel
  by_cases hkm:k<m.length
  ·obtain⟨rv,hrc,hrv⟩:=(ha.below hb).at' k hkm
   have hW:zxr (m.take k)≤536870912*65536:=by
    have h1:=zit (m.take k) (fun l h=>HOK.out l (List.mem_of_mem_take h)) (fun l h=>HL.out l (List.mem_of_mem_take h))
    rw[List.length_take]at h1;omega
   have hlk:=HL.out m[k] (List.getElem_mem hkm)
   have HOKL:=zH (HOK.out m[k] (List.getElem_mem hkm))
   have HTM:=zH (zht m k hkm)
   generalize m[k]'hkm=l at *
   generalize zxr (m.take k)=W0 at *
   have srv:=hrv.sl
   have lrv:=hrv.len
   obtain⟨wo,rfl⟩:∃wo:World,wo=wr:=⟨_,rfl⟩
   go_wp2_with fail
   go_loopw [3,19] (fun u3 u19 wi=>∃ (j:Nat),j≤l.length∧u19= .int .i64 j∧u3= .int .i64 ((W0+wts (qs (l.take j)):Nat):Int)∧Below wo.heap.size wo wi) (fun _ u19 _=>l.length- (intOf u19).toNat)
   case atStart=>exact⟨0,Nat.zero_le _,rfl,by simp[qs,wts],Below.refl _ _⟩
   case round=>
    obtain⟨j,hj,rfl,rfl,hbi⟩:=hrel
    by_cases hjl:j<l.length
    ·obtain⟨xa,xb,c1,c2,c3,hxa,hxb⟩:=(hrv.below hbi).at' j hjl
     obtain⟨c1a,c1l,c1k,rfl,_⟩:=hxa.slen.1
     obtain⟨c2a,c2l,c2k,rfl,_⟩:=hxb.slen.1
     have HX:=zH (HOKL.out l[j] (List.getElem_mem hjl))
     have HTS:=zH (wts_qs l j hjl)
     have hWj:wts (qs (l.take j))≤8192*65536:=by
      have h1:=zgt (l.take j) (fun x h=>HOKL.out x (List.mem_of_mem_take h))
      rw[List.length_take]at h1;omega
     generalize l[j]'hjl=x at *
     generalize wts (qs (l.take j))=W1 at *
     have hA:zdc (wr.alloc (.cells #[.bool x.neg, .slice c1a c1l c1k, .slice c2a c2l c2k] 38)) (.agg #[.bool x.neg, .slice c1a c1l c1k, .slice c2a c2l c2k]) x.neg x.n x.d:=⟨_,_,rfl,hxa.below (zca _ _),hxb.below (zca _ _)⟩
     have hb1:=zaa hbi (zca wr (.cells #[.bool x.neg, .slice c1a c1l c1k, .slice c2a c2l c2k] 38))
     obtain⟨hf1,hf2⟩:=RF.fits HX.out
     have hn0:=zld (n:=x.q.num.natAbs)
     have hd1:=zse (n:=x.q.den)
     have hd0:=x.q.den_nz
     obtain⟨bn,hbn⟩:∃bn,zua x.q.num.natAbs=bn:=⟨_,rfl⟩
     obtain⟨bd,hbd⟩:∃bd,zua x.q.den=bd:=⟨_,rfl⟩
     rw[hbn]at hf1 hn0
     rw[hbd]at hf2 hd1
     have HBN:=zH hbn
     have HBD:=zH hbd
     clear hbn hbd hxa hxb
     by_cases hz:x.q.num=0
     ·have hbz:bn=0:=by have:=hn0.1;omega
      have HW:=zH (wt_zero hz)
      subst hbz
      clear hz hn0 hd1 hd0
      go_wp2_with (first
       |(go_at_call 89;(with_reducible refine(zok _ x _ hA HX.out).mono ?_);rintro e w7 ⟨v,rfl,hv,hb7⟩
         obtain⟨xa2,xb2,rfl,hxa2,hxb2⟩:=hv
         obtain⟨y1,y2,y3,rfl,_⟩:=hxa2.v.sl
         obtain⟨y4,y5,y6,rfl,_⟩:=hxb2.v.sl
         have hxa3:=(hxa2.below (zca w7 (.cells #[.bool (decide (x.q<0)), .slice y1 y2 y3, .slice y4 y5 y6] 38))).nat
         have hxb3:=(hxb2.below (zca w7 (.cells #[.bool (decide (x.q<0)), .slice y1 y2 y3, .slice y4 y5 y6] 38))).nat
         have hb8:=zaa (zaa hb1 hb7) (zca w7 (.cells #[.bool (decide (x.q<0)), .slice y1 y2 y3, .slice y4 y5 y6] 38)))
       |(go_at_call 156;first
         |((with_reducible refine(zva _ _ _ hxa3).mono ?_);rintro e w' ⟨rfl,rfl⟩;rw[HBN.out])
         |((with_reducible refine(zva _ _ _ hxb3).mono ?_);rintro e w' ⟨rfl,rfl⟩;rw[HBD.out])))
      go_roundw
      case rel=>exact⟨j+1,hjl,by go_num,by rw[HTS.out,HW.out];go_num,hb8⟩
      case measure=>simp[intOf];omega
     ·have hbz:0<bn:=hn0.2 (by omega)
      have hbz2:(((bn:Nat):Int)==0)=false:=by simp;omega
      by_cases hd:x.q.den=1
      ·have HW:=zH (wt_int hz hd)
       have hbd1:¬1<bd:=fun h=>by have:=hd1.1 h;omega
       clear hz hn0 hd1 hd0 hd
       go_wp2_with (first
        |(go_at_call 89;(with_reducible refine(zok _ x _ hA HX.out).mono ?_);rintro e w7 ⟨v,rfl,hv,hb7⟩
          obtain⟨xa2,xb2,rfl,hxa2,hxb2⟩:=hv
          obtain⟨y1,y2,y3,rfl,_⟩:=hxa2.v.sl
          obtain⟨y4,y5,y6,rfl,_⟩:=hxb2.v.sl
          have hxa3:=(hxa2.below (zca w7 (.cells #[.bool (decide (x.q<0)), .slice y1 y2 y3, .slice y4 y5 y6] 38))).nat
          have hxb3:=(hxb2.below (zca w7 (.cells #[.bool (decide (x.q<0)), .slice y1 y2 y3, .slice y4 y5 y6] 38))).nat
          have hb8:=zaa (zaa hb1 hb7) (zca w7 (.cells #[.bool (decide (x.q<0)), .slice y1 y2 y3, .slice y4 y5 y6] 38)))
        |(go_at_call 156;first
          |((with_reducible refine(zva _ _ _ hxa3).mono ?_);rintro e w' ⟨rfl,rfl⟩;rw[HBN.out])
          |((with_reducible refine(zva _ _ _ hxb3).mono ?_);rintro e w' ⟨rfl,rfl⟩;rw[HBD.out])))
       go_roundw
       case rel=>exact⟨j+1,hjl,by go_num,by rw[HTS.out,HW.out,HBN.out];go_num,hb8⟩
       case measure=>simp[intOf];omega
      ·have HW:=zH (wt_frac hz hd)
       have hbd1:1<bd:=hd1.2 (by omega)
       clear hz hn0 hd1 hd0 hd
       go_wp2_with (first
        |(go_at_call 89;(with_reducible refine(zok _ x _ hA HX.out).mono ?_);rintro e w7 ⟨v,rfl,hv,hb7⟩
          obtain⟨xa2,xb2,rfl,hxa2,hxb2⟩:=hv
          obtain⟨y1,y2,y3,rfl,_⟩:=hxa2.v.sl
          obtain⟨y4,y5,y6,rfl,_⟩:=hxb2.v.sl
          have hxa3:=(hxa2.below (zca w7 (.cells #[.bool (decide (x.q<0)), .slice y1 y2 y3, .slice y4 y5 y6] 38))).nat
          have hxb3:=(hxb2.below (zca w7 (.cells #[.bool (decide (x.q<0)), .slice y1 y2 y3, .slice y4 y5 y6] 38))).nat
          have hb8:=zaa (zaa hb1 hb7) (zca w7 (.cells #[.bool (decide (x.q<0)), .slice y1 y2 y3, .slice y4 y5 y6] 38)))
        |(go_at_call 156;first
          |((with_reducible refine(zva _ _ _ hxa3).mono ?_);rintro e w' ⟨rfl,rfl⟩;rw[HBN.out])
          |((with_reducible refine(zva _ _ _ hxb3).mono ?_);rintro e w' ⟨rfl,rfl⟩;rw[HBD.out])))
       go_roundw
       case rel=>exact⟨j+1,hjl,by go_num,by rw[HTS.out,HW.out,HBN.out,HBD.out];go_num,hb8⟩
       case measure=>simp[intOf];omega
    ·obtain rfl:j=l.length:=by omega
     rw[List.take_length]
     go_wp2_with fail
     go_roundw
     case rel=>exact⟨k+1,hkm,by go_num,by rw[HTM.out],hb.trans (hbi.mono hb.size)⟩
     case measure=>simp[intOf];omega
  ·obtain rfl:k=m.length:=by omega
   rw[List.take_length]
   go_wp2_with fail
   go_ret
   exact⟨rfl,hb⟩
def zyq (x:RF):Prop:=x.ok∧¬x.q<0∧zda x.q.num.natAbs≤4∧zda x.q.den≤4
instance (x :RF):Decidable (zyq x):=inferInstanceAs (Decidable (_∧_∧_∧_))
def zlr (l:List RF) (n:Nat):Prop:=(∀x∈l,zyq x)∧l.length=n∧wts (qs l)≤3800
instance (l :List RF) (n:Nat):Decidable (zlr l n):=inferInstanceAs (Decidable (_∧_∧_))
set_option maxRecDepth 100000 in
theorem zks (va:Value) (l:List RF) (n:Nat) (w:World) (ha:zni w va l) (hn:n≤65536):
 Calls Tryz.prog 144 #[va, .int .i64 n] w fun e w'=>e= .returned (.bool (decide (zlr l n)))∧Below w.heap.size w w':=by
 have sa:=ha.sl
 have la:=ha.len
 have hle:=sa.le
 rw[la]at hle
 have hlb:l.length≤9223372036854775807:=by omega
 clear hle
 go_enter Tryz.func144,Tryz.ntmps144
 go_wp2_with fail
 go_loopw [11] (fun u11 wr=>∃ (k:Nat),k≤l.length∧u11= .int .i64 k∧(∀x∈l.take k,zyq x)∧Below w.heap.size w wr) (fun u11 _=>l.length- (intOf u11).toNat)
 case atStart=>exact⟨0,Nat.zero_le _,rfl,by simp,Below.refl _ _⟩
 case round=>
  obtain⟨k,hk,rfl,hpl,hb⟩:=hrel
  have HPL:=zH hpl
  clear hpl
  by_cases hkl:k<l.length
  ·obtain⟨xa,xb,c1,c2,c3,hxa,hxb⟩:=(ha.below hb).at' k hkl
   obtain⟨c1a,c1l,c1k,rfl,_⟩:=hxa.slen.1
   obtain⟨c2a,c2l,c2k,rfl,_⟩:=hxb.slen.1
   have HBADx:Hid (¬zyq l[k]→¬zlr l n):=zH (fun h h'=>h (h'.1 _ (List.getElem_mem hkl)))
   have HNEXT:Hid (zyq l[k]→∀x∈l.take (k+1),zyq x):=zH (fun h x hx=>by
    rw[zxc l k hkl,List.mem_append,List.mem_singleton]at hx
    rcases hx with hx | rfl
    ·exact HPL.out x hx
    ·exact h)
   generalize l[k]'hkl=x at *
   have hA:zdc (wr.alloc (.cells #[.bool x.neg, .slice c1a c1l c1k, .slice c2a c2l c2k] 38)) (.agg #[.bool x.neg, .slice c1a c1l c1k, .slice c2a c2l c2k]) x.neg x.n x.d:=⟨_,_,rfl,hxa.below (zca _ _),hxb.below (zca _ _)⟩
   have hb1:=zaa hb (zca wr (.cells #[.bool x.neg, .slice c1a c1l c1k, .slice c2a c2l c2k] 38))
   clear hxa hxb
   by_cases hx:x.ok
   ·have HX:=zH hx
    clear hx
    by_cases h1:x.q<0
    ·have HBAD:=zH (HBADx.out (fun h=>h.2.1 h1))
     have hd1:decide (x.q<0)=true:=decide_eq_true h1
     clear h1
     go_wp2_with (go_at_call 89;(with_reducible refine(zok _ x _ hA HX.out).mono ?_);rintro e w7 ⟨v,rfl,hv,hb7⟩
                  obtain⟨xa2,xb2,rfl,hxa2,hxb2⟩:=hv
                  have z1:slen xa2=zda x.q.num.natAbs:=hxa2.v.len
                  have z2:slen xb2=zda x.q.den:=hxb2.v.len
                  obtain⟨y1,y2,y3,rfl,_⟩:=hxa2.v.sl
                  obtain⟨y4,y5,y6,rfl,_⟩:=hxb2.v.sl
                  have z3:y2=zda x.q.num.natAbs:=z1
                  have z4:y5=zda x.q.den:=z2
                  subst z3 z4
                  clear z1 z2
                  have hb8:=fun o=>zaa (zaa hb1 hb7) (zca w7 o))
     go_ret
     exact⟨by rw[decide_eq_false HBAD.out];rfl,hb8 _⟩
    ·have hd1:decide (x.q<0)=false:=decide_eq_false h1
     have H1:=zH h1
     clear h1
     by_cases h2:4<zda x.q.num.natAbs
     ·have HBAD:=zH (HBADx.out (fun h=>by have:=h.2.2.1;omega))
      go_wp2_with (go_at_call 89;(with_reducible refine(zok _ x _ hA HX.out).mono ?_);rintro e w7 ⟨v,rfl,hv,hb7⟩
                   obtain⟨xa2,xb2,rfl,hxa2,hxb2⟩:=hv
                   have z1:slen xa2=zda x.q.num.natAbs:=hxa2.v.len
                   have z2:slen xb2=zda x.q.den:=hxb2.v.len
                   obtain⟨y1,y2,y3,rfl,_⟩:=hxa2.v.sl
                   obtain⟨y4,y5,y6,rfl,_⟩:=hxb2.v.sl
                   have z3:y2=zda x.q.num.natAbs:=z1
                   have z4:y5=zda x.q.den:=z2
                   subst z3 z4
                   clear z1 z2
                   have hb8:=fun o=>zaa (zaa hb1 hb7) (zca w7 o))
      go_ret
      exact⟨by rw[decide_eq_false HBAD.out];rfl,hb8 _⟩
     ·by_cases h3:4<zda x.q.den
      ·have HBAD:=zH (HBADx.out (fun h=>by have:=h.2.2.2;omega))
       go_wp2_with (go_at_call 89;(with_reducible refine(zok _ x _ hA HX.out).mono ?_);rintro e w7 ⟨v,rfl,hv,hb7⟩
                    obtain⟨xa2,xb2,rfl,hxa2,hxb2⟩:=hv
                    have z1:slen xa2=zda x.q.num.natAbs:=hxa2.v.len
                    have z2:slen xb2=zda x.q.den:=hxb2.v.len
                    obtain⟨y1,y2,y3,rfl,_⟩:=hxa2.v.sl
                    obtain⟨y4,y5,y6,rfl,_⟩:=hxb2.v.sl
                    have z3:y2=zda x.q.num.natAbs:=z1
                    have z4:y5=zda x.q.den:=z2
                    subst z3 z4
                    clear z1 z2
                    have hb8:=fun o=>zaa (zaa hb1 hb7) (zca w7 o))
       go_ret
       exact⟨by rw[decide_eq_false HBAD.out];rfl,hb8 _⟩
      ·have HGOOD:=zH (HNEXT.out ⟨HX.out,H1.out,by omega,by omega⟩)
       go_wp2_with (go_at_call 89;(with_reducible refine(zok _ x _ hA HX.out).mono ?_);rintro e w7 ⟨v,rfl,hv,hb7⟩
                    obtain⟨xa2,xb2,rfl,hxa2,hxb2⟩:=hv
                    have z1:slen xa2=zda x.q.num.natAbs:=hxa2.v.len
                    have z2:slen xb2=zda x.q.den:=hxb2.v.len
                    obtain⟨y1,y2,y3,rfl,_⟩:=hxa2.v.sl
                    obtain⟨y4,y5,y6,rfl,_⟩:=hxb2.v.sl
                    have z3:y2=zda x.q.num.natAbs:=z1
                    have z4:y5=zda x.q.den:=z2
                    subst z3 z4
                    clear z1 z2
                    have hb8:=fun o=>zaa (zaa hb1 hb7) (zca w7 o))
       go_roundw
       case rel=>exact⟨k+1,hkl,by go_num,HGOOD.out,hb8 _⟩
       case measure=>simp[intOf];omega
   ·have HX:=zH hx
    have HBAD:=zH (HBADx.out (fun h=>hx h.1))
    clear hx
    go_wp2_with (go_at_call 89;(with_reducible refine(zef _ x.neg x.n x.d _ hA).mono ?_);rintro e w7 ⟨v,er,rfl,hb7,_,hv⟩
                 obtain⟨rfl,hvz⟩:=hv HX.out
                 have hvz2:v= .agg #[.bool false, .slice none 0 0, .slice none 0 0]:=hvz
                 clear hvz
                 subst hvz2
                 have hb8:=fun o=>zaa (zaa hb1 hb7) (zca w7 o))
    go_ret
    exact⟨by rw[decide_eq_false HBAD.out];rfl,hb8 _⟩
  ·obtain rfl:k=l.length:=by omega
   have hpl:=HPL.out
   rw[List.take_length]at hpl
   by_cases hln:l.length=n
   ·have hlb2:l.length≤65536:=by omega
    obtain⟨av,al,ak,rfl,_⟩:=ha.sl
    have e9:al=l.length:=la
    subst e9
    have HD:Hid (decide (zlr l n)=decide (((wts (qs l):Nat):Int)≤3800)):=zH (by
     by_cases h:wts (qs l)≤3800
     ·rw[decide_eq_true (show zlr l n from⟨hpl,hln,h⟩),decide_eq_true (by omega)]
     ·rw[decide_eq_false (fun h':zlr l n=>h h'.2.2),decide_eq_false (by omega)])
    have HOK:Hid (∀l'∈ [l],∀x∈l',x.ok):=zH (fun l' h x hx=>by simp at h;subst h;exact(hpl x hx).1)
    have HLL:Hid (∀l'∈ [l],l'.length≤65536):=zH (fun l' h=>by simp at h;subst h;exact hlb2)
    have HM:Hid (zlw (wr.alloc (.cells #[.slice av l.length ak] 25)) (.slice (some ⟨wr.heap.size,0,none⟩) 1 1) [l]):=zH ⟨⟨_,1,1,rfl,Nat.le_refl _,by simp[maxLen],fun e=>by cases e⟩,rfl,fun j hj=>by
     have hj0:j=0:=by simp at hj;omega
     subst hj0
     exact⟨_,by simp[ptr,base,Addr.add],(ha.below hb).below (zca _ _)⟩⟩
    have hb2:=zaa hb (zca wr (.cells #[.slice av l.length ak] 25))
    have hlnb:(((l.length:Nat):Int)==(n:Nat))=true:=by simp[hln]
    have HW1:=zH (zhr l)
    have HLEN:Hid ([l].length≤65536):=zH (by simp)
    clear hpl hln
    go_wp2_with (go_at_call 146;(with_reducible refine(zzq _ [l] _ HM.out HOK.out HLL.out HLEN.out).mono ?_);rintro e w3 ⟨rfl,hb3⟩;rw[HW1.out])
    go_ret
    exact⟨by rw[HD.out];rfl,zaa hb2 hb3⟩
   ·have HBAD:Hid (¬zlr l n):=zH (fun h=>hln h.2.1)
    have hlnb:(((l.length:Nat):Int)==(n:Nat))=false:=by simp;omega
    clear hln hpl
    go_wp2_with fail
    go_ret
    exact⟨by rw[decide_eq_false HBAD.out];rfl,hb⟩
theorem zbb.al {w:World} {v:Value} {q:List Rat} {o:Obj} (h:zbb w v q):zbb (w.alloc o) v q:=h.below (zca w o)
theorem C3.dr {w:World} {b:Nat} {v0 v1 v2:Value} (h:C3 w b v0 v1 v2):C3 w.drew b v0 v1 v2:=h.belowS (zja w)
theorem zvp {w:World} {a1 a2 a3 a4 a5 a6:Addr} {x1 x2 x3 x4 x5 x6:Value} (h:w.cell? a1=some x1∧w.cell? a2=some x2∧w.cell? a3=some x3∧w.cell? a4=some x4∧w.cell? a5=some x5∧w.cell? a6=some x6) {p:Addr}
 (h1:p.block≠a1.block) (h2:p.block≠a2.block) (h3:p.block≠a3.block) (h4:p.block≠a4.block) (h5:p.block≠a5.block) (h6:p.block≠a6.block) (u:Value):
 (w.setCell p u).cell? a1=some x1∧(w.setCell p u).cell? a2=some x2∧(w.setCell p u).cell? a3=some x3∧(w.setCell p u).cell? a4=some x4∧(w.setCell p u).cell? a5=some x5∧(w.setCell p u).cell? a6=some x6:=by
 have key:∀a x,w.cell? a=some x→p.block≠a.block→(w.setCell p u).cell? a=some x:=fun a x ha hp=>by
  rw[World.cell?_setCell_other _ _ _ _ (fun e=>hp (by rw[e]))];exact ha
 obtain⟨k1,k2,k3,k4,k5,k6⟩:=h
 exact⟨key _ _ k1 h1,key _ _ k2 h2,key _ _ k3 h3,key _ _ k4 h4,key _ _ k5 h5,key _ _ k6 h6⟩
theorem zji (p q:Rat):zsr p q=0↔p=q:=by
 unfold zsr
 constructor
 ·intro h
  split at h
  ·omega
  ·split at h
   ·omega
   ·next h1 h2=>exact Rat.le_antisymm (Rat.not_lt.1 h2) (Rat.not_lt.1 h1)
 ·rintro rfl
  rw[if_neg (Rat.lt_irrefl),if_neg (Rat.lt_irrefl)]
end Go.Proofs.YtlpdkbmmbdfoiaaGreat
