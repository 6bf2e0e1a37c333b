/- Lemmas. -/
import Derived.Test.YtlpdkbmmbdfoiaaGreatPLi11
set_option linter.unusedVariables false
set_option linter.unusedSimpArgs false
namespace Go.Proofs.YtlpdkbmmbdfoiaaGreat
open Go.RowKit
set_option maxRecDepth 100000 in
set_option maxHeartbeats 3200000 in
theorem column_own (va:Value) (n m k:Nat) (A:Mx) (w:World) (ha:zij w va n m A) (hk:k<m) (hn:n<=1000) (hm:m<=1000):
 Calls Tryz.prog 170 #[va, .int .i64 k] w λ e w'=>∃v,e= .returned v/\zwa w' v (zxa n (λ i=>A i k))/\Below w.heap.size w w'/\w.heap.size<=(base v).block:=by
 have sa:=ha.sl;have la:=ha.len;obtain⟨i0,hi,hz0,hz1,hz2⟩:=info_parts Tryz.infoF;have hM:=zjr (P:=Tryz.prog) 25 38 i0 Tryz.underlying25 hi hz0 hz1 (by rw[hz2];decide);clear hi hz0 hz1 hz2;go_enter Tryz.func170,Tryz.ntmps170;go_wp2_with (refine hM _ rfl _ _ rfl w.heap.size _ n rfl rfl rfl zO (zLR _) ?_;intro v w1 hown hb1 hvb;have sv:=hown.sl;have lv:=hown.len);clear hM;go_loopw [12] (λ u12 wr=>∃ (i:Nat),i<=n/\u12= .int .i64 i/\zec wr 38 w.heap.size v n/\(∀j,j<i->zri wr v j (A j k))/\Below w.heap.size w wr) (λ u12 _=>n- (intOf u12).toNat);case atStart=>exact⟨0,zZL _,rfl,hown,λ j h=>zO,hb1⟩
 case round=>
  obtain⟨i,hin,rfl,ho,he,hbr⟩:=hrel;clear hown hb1;have HE:=zH he;clear he;by_cases hil:i<n
  ·obtain⟨ri,hc1,hr1⟩:=(ha.bw hbr).row i hil;have slI:=hr1.sl;(have lnI:slen ri=m:=by rw[hr1.len,zda]);obtain⟨ea,eb,g1,g2,g3,g4,g5⟩:=hr1.at' k (by rw[zda];exact hk);rw[zqb]at g1 g4 g5;obtain⟨ea1,ea2,ea3,rfl,_⟩:=g4.v.sl;obtain⟨eb1,eb2,eb3,rfl,_⟩:=g5.v.sl;have hF:zia wr (.agg #[.bool (decide (A i k<0)), .slice ea1 ea2 ea3, .slice eb1 eb2 eb3]) (A i k):=⟨_,_,rfl,g4,g5⟩;obtain⟨c0,d0,_⟩:=ho.cell (i*3) zO;obtain⟨c1,d1,_⟩:=ho.cell (i*3+1) zO;obtain⟨c2,d2,_⟩:=ho.cell (i*3+2) zO;have f0:=ho.frozen (i*3);have f1:=ho.frozen (i*3+1);have f2:=ho.frozen (i*3+2);have n01:=ho.inj (show i*3≠i*3+1 by omega);have n02:=ho.inj (show i*3≠i*3+2 by omega);have n12:=ho.inj (show i*3+1≠i*3+2 by omega);have hs3:=ho.set3 i (.bool (decide (A i k<0))) (.slice ea1 ea2 ea3) (.slice eb1 eb2 eb3) zZ zZ zZ;have HS3:=zH hs3;have HF:=zH hF;have HO:=zH ho;clear hs3 hr1 g4 g5 hF ho;have i1:(0:Int)<=(i:Int):=zO;have i2:(i:Int)<(n:Nat):=zO;have i3:(0:Int)<=(k:Int):=zO;have i4:(k:Int)<(m:Nat):=zO;go_wp2_with fail;go_roundw
   case rel=>
    refine⟨i+1,hil,by go_num,HS3.o.1,λ j hj=> ?_,hbr.trans HS3.o.2⟩;rcases zOG j i with h6 | h6
    ·exact zri.set3_other HO.o hil zO (HE.o j h6) _ _ _ zZ zZ
    ·obtain rfl:j=i:=zO;exact zri.set3 HO.o hil HF.o
   case measure=>simp[intOf];omega
  ·obtain rfl:i=n:=zO;go_wp2_with fail;go_ret;exact⟨v,rfl,ho.fracs (zda _ _) (λ j hj=>by rw[zda]at hj;rw[zqb];exact HE.o j hj),hbr,ho.block.1⟩
def zbn (n:Nat) (b:Nat->Rat):List RF:=(zxa n b).map RF.of
@[go_sem] theorem slen_lit (a : Option Addr) (n c : Nat) : slen (.slice a n c) = n := rfl
theorem column_zero (va:Value) (n:Nat) (A:Mx) (w:World) (ha:zij w va n 1 A) (hn:n<=1000):
 Calls Tryz.prog 170 #[va, .int .i64 0] w λ e w'=>∃v,e= .returned v/\zwa w' v (zxa n (λ i=>A i 0))/\Below w.heap.size w w'/\w.heap.size<=(base v).block:=
 column_own va n 1 0 A w ha zD hn zD
def RSolve (w0:World) (n:Nat) (S:St) (e:Ending) (w:World):Prop:=
 ∃v er,e= .returned (.tuple #[v, .int .i64 er])/\Below w0.heap.size w0 w/\(S.r<n->v= .slice none 0 0/\er=9)/\(¬S.r<n->er=0/\zwa w v (zxa n (λ i=>S.A i n/S.A i i)))
def RSolveO (w0:World) (n:Nat) (S:St) (e:Ending) (w:World):Prop:=
 ∃v er,e= .returned (.tuple #[v, .int .i64 er])/\Below w0.heap.size w0 w/\(S.r<n->v= .slice none 0 0/\er=9)/\(¬S.r<n->er=0/\zwa w v (zxa n (λ i=>S.A i n/S.A i i))/\w0.heap.size<=(base v).block)
structure RowsW (w:World) (B:Nat) (v:Value) (rs:List Value) (n k:Nat) (b:Nat->Rat):Prop where
 own:zkc w 25 B 1 v n rs
 row:∀ (i:Nat) (h:i<rs.length),i<k->zwa w rs[i] [b i]/\(base rs[i]).block≠(base v).block
theorem rawV_ok {n:Nat} {b:Nat->Rat} (hf:∀i,i<n->fits (b i)):∀x∈zbn n b,x.ok:=by
 intro x hx;obtain⟨q,hq,rfl⟩:=List.mem_map.1 hx;obtain⟨j,hj,rfl⟩:=List.mem_map.1 hq;exact RF.of_ok (hf j (List.mem_range.1 hj))
theorem zoh (n:Nat) (b:Nat->Rat):(zbn n b).length=n:=by unfold zbn;rw[zMP,zda]
theorem zkc.cell_ne {w:World} {e:TypeId} {B size n:Nat} {v:Value} {xs:List Value} (h:zkc w e B size v n xs) (j:Nat) (hj:j<xs.length) (z:Int):xs[j]≠ .int .u32 z:=by
 rcases h.own.2 with⟨rfl,h0⟩ | ⟨g,cap,cur,rfl,hb,hg,hn,hm,hs,ht⟩
 ·have:=h.own.1;rw[h0]at this;omega
 ·refine h.nl g rfl cur e _ hg xs[j] ?_ z;rw[<-List.take_append_drop (n*size) cur.toList,ht];exact List.mem_append_left _ (zGM hj)
set_option maxRecDepth 100000 in
set_option maxHeartbeats 6400000 in
theorem solve_own (va vb:Value) (n:Nat) (A:Mx) (b:Nat->Rat) (w:World) (ha:zij w va n n A) (hb:zwa w vb (zxa n b)) (hn1:1<=n) (hn:n<=24) (hf:fitM n n A) (hfb:∀i,i<n->fits (b i)) (hw:wtF n n A+wts (qs (zbn n b))<=1900)
 (hX:slimE false n (n+1) n (zra n A (λ i _=>b i))) (hq:∀i,i<n->(elim false n (zra n A (λ i _=>b i)) n).r=n->(elim false n (zra n A (λ i _=>b i)) n).A i i≠0/\fits ((elim false n (zra n A (λ i _=>b i)) n).A i n/(elim false n (zra n A (λ i _=>b i)) n).A i i)):
 Calls Tryz.prog 98 #[va,vb] w (RSolveO w n (elim false n (zra n A (λ i _=>b i)) n)):=by
 obtain⟨i4,hi4,hz4,hs4,hy4⟩:=info_parts Tryz.infoRow;have hMR:=zuk (P:=Tryz.prog) 24 25 i4 Tryz.underlying24 hi4 hz4 hs4 hy4;clear hi4 hz4 hs4 hy4;have hvec:vecP (zbn n b) n:=⟨rawV_ok hfb,zoh n b⟩;have HV:=zH hvec;have HF:=zH hf;have HFB:=zH hfb;have HX:=zH hX;have HQ:=zH hq;have hwi:(wtF n n A:Int)+(wts (qs (zbn n b)):Nat)<=1900:=zO;obtain⟨W1,hW1⟩:∃W,wtF n n A=W:=⟨_,rfl⟩;obtain⟨W2,hW2⟩:∃W,wts (qs (zbn n b))=W:=⟨_,rfl⟩;rw[hW1,hW2]at hwi;have HW1:=zH hW1;have HW2:zI (zqp [zbn n b]=W2):=zH (by rw[wtsM_one];exact hW2);have HRB:zI (zlg w vb (zbn n b)):=zH hb.raw;obtain⟨vb1,vb2,vb3,rfl,_⟩:=id hb.sl;have sa:=ha.sl;have la:=ha.len;have sb:=hb.sl;have lb:slen (.slice vb1 vb2 vb3)=n:=by rw[hb.len,zda]
 have hvb2:vb2=n:=lb;subst hvb2;have HA:=zH ha;have HB:=zH hb;have i65:vb2<=65536:=zO;have i1000:vb2<=1000:=zO
 have HO1:zI (∀l∈ [zbn vb2 b],∀x∈l,x.ok):=zH (λ l hl x hx=>by
  have :l=zbn vb2 b:=by simpa using hl
  subst this;exact hvec.1 x hx)
 have HO2:zI (∀l∈ [zbn vb2 b],l.length<=65536):=zH (λ l hl=>by
  have :l=zbn vb2 b:=by simpa using hl
  subst this;rw[zoh];exact i65)
 have HO3:zI ([zbn vb2 b].length<=65536):=zH (by simp);clear hW1 hW2 ha hb hf hfb hX hq hw hvec lb;go_enter Tryz.func98,Tryz.ntmps98
 go_wp2_with (first
  |(go_at_call 166;(with_reducible refine(square_lin va vb2 vb2 A _ HA.o hn1 hn hn1 hn HF.o rfl).mono ?_);rintro e1 w1 ⟨rfl,hb1⟩)
  |(go_at_call 167;(with_reducible refine(zrj _ (zbn vb2 b) vb2 _ (HRB.o.bw hb1) i65).mono ?_);rw[zDT HV.o];rintro e2 w2 ⟨rfl,hb2⟩;have hB2:=zaa hb1 hb2)
  |(go_at_call 168;first
    |((with_reducible refine(weight_lin va vb2 vb2 A _ (HA.o.bw hB2) hn hn HF.o).mono ?_);rw[HW1.o];rintro e3 w3 ⟨rfl,hb3⟩
      have hB3:=zaa hB2 hb3;have hb4:=zca w3 (.cells #[.slice vb1 vb2 vb3] 25);have hM4:=mat_one (zkg.new w3 #[.slice vb1 vb2 vb3] 25) (HRB.o.bw (zaa hB3 hb4)))
    |((with_reducible refine(zro _ [zbn vb2 b] _ hM4 HO1.o HO2.o HO3.o).mono ?_);rw[HW2.o];rintro e5 w5 ⟨rfl,hb5⟩
      have hB5:=zaa (zaa hB3 hb4) hb5;clear hM4))
  |(refine hMR w5 rfl _ _ rfl w5.heap.size _ vb2 rfl rfl rfl zO (zLR _) ?_;intro vL w6 hO6 hb6;have HO6:=zH hO6;have HB6:=zH hb6;have HB5:=zH hB5;have slL:=hO6.sl;have lnL:=hO6.len;clear hO6 hb6 hB5 hb5 hb4 hB3 hb3 hB2 hb2 hb1))
 go_loopg [35] (vb2) (λ g u35 wr=>∃ (k:Nat) (rs:List Value),k<=vb2/\g=vb2-k/\u35= .int .i64 k/\RowsW wr w5.heap.size vL rs vb2 k b/\Below w5.heap.size w5 wr);case atStart=>exact⟨0,_,zZL _,rfl,rfl,⟨HO6.o,λ i h h2=>zO⟩,HB6.o⟩
 case round=>
  obtain⟨k,rs,hk,hg,rfl,hR,hbr⟩:=hrel;obtain⟨w2,hw2⟩:∃w2,w2=wr:=⟨_,rfl⟩;subst hw2;have HG:=zH hg;have HR:=zH hR;have HBR:=zH hbr;have hBw2:=zea HB5.o hbr HB5.o.size;clear HO6 HB6 hg;by_cases hkl:k<vb2
  ·(have hkd:k<(zxa vb2 b).length:=by rw[zda];exact hkl);obtain⟨ea,eb,g1,g2,g3,g4,g5⟩:=(HB.o.bw hBw2).at' k hkd;rw[zqb]at g1 g4 g5;obtain⟨ea1,ea2,ea3,rfl,_⟩:=g4.v.sl;obtain⟨eb1,eb2,eb3,rfl,_⟩:=g5.v.sl;have hF:zia w2 (.agg #[.bool (decide (b k<0)), .slice ea1 ea2 ea3, .slice eb1 eb2 eb3]) (b k):=⟨_,_,rfl,g4,g5⟩;have hbA:=zca w2 (.cells #[.bool (decide (b k<0)), .slice ea1 ea2 ea3, .slice eb1 eb2 eb3] 38);have hbB:=zaa hbA (zca (w2.alloc (.cells #[.bool (decide (b k<0)), .slice ea1 ea2 ea3, .slice eb1 eb2 eb3] 38)) (.cells #[.bool (decide (b k<0)), .slice ea1 ea2 ea3, .slice eb1 eb2 eb3] 38));(have hsz:(w2.alloc (.cells #[.bool (decide (b k<0)), .slice ea1 ea2 ea3, .slice eb1 eb2 eb3] 38)).heap.size=w2.heap.size+1:=by simp);have hVN:=zkg.new (w2.alloc (.cells #[.bool (decide (b k<0)), .slice ea1 ea2 ea3, .slice eb1 eb2 eb3] 38)) #[.bool (decide (b k<0)), .slice ea1 ea2 ea3, .slice eb1 eb2 eb3] 38;rw[hsz]at hVN;have hNew:=fracs_one hVN (hF.bw hbB);(have hRl:rs.length=vb2:=by have:=hR.own.clen;omega);(have hkr:k<rs.length:=by rw[hRl];exact hkl);obtain⟨s1,s2⟩:=(hR.own.bw hbB).set1 k hkr (.slice (some ⟨w2.heap.size+1,0,none⟩) 1 1) zZ;have hcL:=(hR.own.bw hbB).cell k hkr;have hfL:=(hR.own.bw hbB).frozen k hkr
   have hnl:∀z,rs[k]'hkr≠ .int .u32 z:=by
    obtain⟨g,hg1,_,_,_,_⟩:=hR.own.blk zO;intro z e;have hx:=hR.own;exact(zkc.cell_ne hx k hkr z) e
   (have hLlt:(base vL).block<w2.heap.size:=by obtain⟨g,_,e2,_,e3,_⟩:=hR.own.blk zO;omega);(have hLge:w5.heap.size<=(base vL).block:=by obtain⟨g,_,e2,e3,_,_⟩:=hR.own.blk zO;omega);have hpL:(ptr vL k).block=(base vL).block:=zya _ _
   have hRS:RowsW (((w2.alloc (.cells #[.bool (decide (b k<0)), .slice ea1 ea2 ea3, .slice eb1 eb2 eb3] 38)).alloc (.cells #[.bool (decide (b k<0)), .slice ea1 ea2 ea3, .slice eb1 eb2 eb3] 38)).setCell (ptr vL k) (.slice (some ⟨w2.heap.size+1,0,none⟩) 1 1)) w5.heap.size vL (rs.set k (.slice (some ⟨w2.heap.size+1,0,none⟩) 1 1)) vb2 (k+1) b:=by
    refine⟨s1,λ i hi hik=> ?_⟩;(have hi0:i<rs.length:=by simpa using hi);by_cases h1:i=k
    ·subst h1;rw[zSF];have hb0:(base (.slice (some ⟨w2.heap.size+1,0,none⟩) 1 1)).block=w2.heap.size+1:=rfl;exact⟨hNew.setc (by rw[hb0,hpL];omega) hcL hnl _,by rw[hb0];omega⟩
    ·rw[zTN (λ e=>h1 e.symm)];obtain⟨r1,r2⟩:=hR.row i hi0 zO;exact⟨(r1.bw hbB).setc (by rw[hpL];exact r2) hcL hnl _,r2⟩
   have HRS:=zH hRS;have hBS:Below w5.heap.size w5 (((w2.alloc (.cells #[.bool (decide (b k<0)), .slice ea1 ea2 ea3, .slice eb1 eb2 eb3] 38)).alloc (.cells #[.bool (decide (b k<0)), .slice ea1 ea2 ea3, .slice eb1 eb2 eb3] 38)).setCell (ptr vL k) (.slice (some ⟨w2.heap.size+1,0,none⟩) 1 1)):=(zaa hbr hbB).setCell (by rw[hpL];exact hLge) _;have HBS:=zH hBS;clear hR hbr g4 g5 hF hbA hbB hVN hNew s1 s2 hnl hRS hBS hsz hBw2 hRl;have i1:(0:Int)<=(k:Int):=zO;have i2:(k:Int)<(vb2:Nat):=zO;go_wp2_with fail;go_roundg (vb2- (k+1));(case measure=>(have:=HG.o;omega));case rel=>exact⟨k+1,_,zO,rfl,by go_num,HRS.o,HBS.o⟩
  ·obtain rfl:k=vb2:=zO
   have hML:zij w2 vL k 1 (λ i _=>b i):=⟨hR.own.sl,hR.own.len,λ i hi=>by
    (have hi2:i<rs.length:=by have:=hR.own.clen;omega);refine⟨rs[i],hR.own.cell i hi2,?_⟩;have h:=(hR.row i hi2 hi).1;exact h⟩
   obtain⟨l1,l2,l3,rfl,hl3⟩:=id hML.sl
   obtain⟨bd,rfl⟩:∃bd,l1=some bd:=by
    cases l1 with
    | none=>exfalso;have h1:=hML.len;have h2:=hl3.2.2 rfl;have h3:l2=k:=h1;omega
    | some bd=>exact⟨bd,rfl⟩
   have HML:=zH hML
   have HQ1:zI (∀i,i<k->(elim false k (zra k A (λ i _=>b i)) k).r=k->(elim false k (zra k A (λ i _=>b i)) k).A i i≠0/\∀j,j<1->fits ((elim false k (zra k A (λ i _=>b i)) k).A i (k+j)/(elim false k (zra k A (λ i _=>b i)) k).A i i)):=zH (λ i hi h=>⟨(HQ.o i hi h).1,λ j hj=>by
    obtain rfl:j=0:=zO;exact(HQ.o i hi h).2⟩)
   have hA2:=HA.o.bw hBw2;have HBW:=zH hBw2;clear hR hbr hML hBw2 hkl hl3;by_cases hrk:(elim false k (zra k A (λ i _=>b i)) k).r<k
   ·go_wp2_with (go_at_call 169;(with_reducible refine(right_lin va bd l2 l3 k 1 A (λ i _=>b i) _ hA2 HML.o hn1 hn (zLR _) zO HX.o HQ1.o).mono ?_);rintro e7 w7 ⟨v7,er7,rfl,hb7,hs7,_⟩;obtain⟨rfl,rfl⟩:=hs7 hrk;clear hs7);go_ret2;exact⟨_,9,rfl,zaa HBW.o hb7,λ _=>⟨rfl,rfl⟩,λ h=>absurd hrk h⟩
   ·go_wp2_with (first
     |(go_at_call 169;(with_reducible refine(right_lin va bd l2 l3 k 1 A (λ i _=>b i) _ hA2 HML.o hn1 hn (zLR _) zO HX.o HQ1.o).mono ?_);rintro e7 w7 ⟨v7,er7,rfl,hb7,_,hs7⟩;obtain⟨rfl,hm7⟩:=hs7 hrk;clear hs7)
     |(go_at_call 170;(with_reducible refine(column_zero v7 k _ _ hm7 i1000).mono ?_);rintro e8 w8 ⟨v8,rfl,hf8,hb8,hn8⟩))
    go_ret2;exact⟨v8,0,rfl,zaa (zaa HBW.o hb7) hb8,λ h=>absurd h hrk,λ _=>⟨rfl,hf8,zLT (zaa HBW.o hb7).size hn8⟩⟩
section
variable {n:Nat} {A:Mx} {b:Nat->Rat}
def solE (n:Nat) (A:Mx) (b:Nat->Rat) (i:Nat):Rat:=(elim false n (zra n A (λ i _=>b i)) n).A i n/(elim false n (zra n A (λ i _=>b i)) n).A i i
theorem sol_eq (h:(elim false n (zra n A (λ i _=>b i)) n).r=n):∀i,i<n->sg n (λ j=>A i j*solE n A b j)=b i:=by
 intro i hi;exact zdp (A:=A) (B:=λ i _=>b i) h (c:=1) (q:=0) zO i hi
end
structure zim (n:Nat) (A:Mx) (b x:Nat->Rat):Prop where
 n1:1<=n
 n24:n<=24
 fA:fitM n n A
 fb:∀i,i<n->fits (b i)
 fx:∀i,i<n->fits (x i)
 w:wtF n n A+wts (zxa n b)<=1900
 reg:dt n A≠0
 slim:slimE false n (n+1) n (zra n A (λ i _=>b i))
 eq:∀i,i<n->sg n (λ j=>A i j*x j)=b i
theorem solve_reg (va vb:Value) (n:Nat) (A:Mx) (b x:Nat->Rat) (w:World) (ha:zij w va n n A) (hb:zwa w vb (zxa n b)) (h:zim n A b x):
 Calls Tryz.prog 98 #[va,vb] w λ e w'=>∃v,e= .returned (.tuple #[v, .int .i64 0])/\zwa w' v (zxa n x)/\Below w.heap.size w w'/\w.heap.size<=(base v).block:=by
 have hr:=zcf (B:=λ i _=>b i) h.reg
 have hx:∀i,i<n->solE n A b i=x i:=λ i hi=>by
  rw[zwg h.reg (sol_eq hr) hi,zwg h.reg h.eq hi]
 refine(solve_own va vb n A b w ha hb h.n1 h.n24 h.fA h.fb (by have:=h.w;unfold zbn;rw[zxf];exact this) h.slim (λ i hi _=> ?_)).mono λ e w' ⟨v,er,he,hbl,_,h2⟩=> ?_
 ·exact⟨(zmd hr n (zLR _)).2.1 i hi,by have h3:=hx i hi;unfold solE at h3;rw[h3];exact h.fx i hi⟩
 ·obtain⟨rfl,h4,h5⟩:=h2 (by rw[hr];exact zIR n);refine⟨v,he,?_,hbl,h5⟩;have e1:zxa n (λ i=>(elim false n (zra n A λ i _=>b i) n).A i n/(elim false n (zra n A λ i _=>b i) n).A i i)=zxa n x:=zlb λ i hi=>hx i hi
  rw[e1]at h4;exact h4
end Go.Proofs.YtlpdkbmmbdfoiaaGreat
namespace Go.Proofs.YtlpdkbmmbdfoiaaGreat
def rtQ (l:LQ):Mx:=λ i j=>(l.rates.getD i []).getD j 0
def exQ (l:LQ) (i:Nat):Rat:=l.exit.getD i 0
def stQ (l:LQ) (i:Nat):Rat:=l.start.getD i 0
def phA (l:LQ):Mx:=λ i j=>if i=j then zff l i else 0-rtQ l i j
section
variable {l:LQ}
theorem znb.rget (h:znb l) {i:Nat} (hi:i<l.start.length):l.rates.getD i []=l.rates[i]'(h.rlen hi):=by
 rw[zGD,zGE (h.rlen hi)];rfl
theorem znb.rowlen (h:znb l) {i:Nat} (hi:i<l.start.length):(l.rates.getD i []).length=l.start.length:=by
 rw[h.rget hi];exact(h.row i (h.rlen hi)).1
theorem zcl {q:List Rat} {i:Nat} (hi:i<q.length):q.getD i 0∈q:=by
 rw[zGD,zGE hi];exact zGM hi
theorem znb.rt_lim (h:znb l) {i j:Nat} (hi:i<l.start.length) (hj:j<l.start.length):zqf (rtQ l i j):=by
 have h1:j<(l.rates.getD i []).length:=by rw[h.rowlen hi];exact hj
 have h2:=zcl h1;rw[h.rget hi]at h2;unfold rtQ;rw[h.rget hi];exact(h.row i (h.rlen hi)).2.1 _ h2
theorem znb.ex_lim (h:znb l) {i:Nat} (hi:i<l.start.length):zqf (exQ l i):=h.ex _ (zcl (by rw[h.el];exact hi))
theorem znb.st_lim (h:znb l) {i:Nat} (hi:i<l.start.length):zqf (stQ l i):=h.st _ (zcl hi)
theorem znb.rt_diag (h:znb l) {i:Nat} (hi:i<l.start.length):rtQ l i i=0:=by
 unfold rtQ;rw[h.rget hi];exact(h.row i (h.rlen hi)).2.2
theorem znb.out_sg (h:znb l) {i:Nat} (hi:i<l.start.length):zff l i=sg l.start.length (rtQ l i)+exQ l i:=by
 unfold zff;rw[zli,zkr,h.rowlen hi];rfl
theorem znb.st_sum (h:znb l):sg l.start.length (stQ l)=1:=by
 have h1:=h.sum;rw[zkr]at h1;exact h1
theorem znb.escP (h:znb l):∀i,i<l.start.length->∃k,esc l.start.length (rtQ l) (zff l) k i:=by
 obtain⟨d,hd⟩:=h.ends
 have key:∀m i,i<l.start.length->d i<=m->∃k,esc l.start.length (rtQ l) (zff l) k i:=by
  intro m
  induction m with
  | zero=>
    intro i hi hm;obtain⟨_,h1 | ⟨j,_,_,h4⟩⟩:=hd i hi
    ·refine⟨0,?_⟩;(show sg _ _<_);rw[h.out_sg hi];have h1':0<exQ l i:=h1;grind
    ·omega
  | succ m ih=>
    intro i hi hm;obtain⟨_,h1 | ⟨j,h2,h3,h4⟩⟩:=hd i hi
    ·refine⟨0,?_⟩;(show sg _ _<_);rw[h.out_sg hi];have h1':0<exQ l i:=h1;grind
    ·obtain⟨k,hk⟩:=ih j h2 zO;exact⟨k+1,Or.inr ⟨j,h2,h3,hk⟩⟩
 intro i hi;exact key _ i hi (zLR _)
theorem phA_mm (l:LQ):phA l=mmA (rtQ l) (zff l):=by
 funext i j
 unfold phA mmA;split
 ·rfl
 ·grind
theorem znb.le_out (h:znb l) {i:Nat} (hi:i<l.start.length):sg l.start.length (rtQ l i)<=zff l i:=by
 rw[h.out_sg hi];have:=(h.ex_lim hi).1;grind
theorem znb.reg (h:znb l):dt l.start.length (phA l)≠0:=by
 rw[phA_mm];exact mm_dt (λ i hi=>h.rt_diag hi) (λ i j hi hj=>(h.rt_lim hi hj).1) (λ i hi=>h.le_out hi) h.escP
def zhf (l:LQ):Nat->Nat->Rat
 | 0=>λ _=>1
 | m+1=>solE l.start.length (phA l) (zhf l m)
theorem znb.mom_eq (h:znb l) (m:Nat):∀i,i<l.start.length->sg l.start.length (λ j=>phA l i j*zhf l (m+1) j)=zhf l m i:=
 sol_eq (zcf (B:=λ i _=>zhf l m i) h.reg)
structure MomP (l:LQ) (n:Nat) (f:Nat):Prop where
 sys:∀m,m<n->zim l.start.length (phA l) (zhf l m) (zhf l (m+1))
 sca:ScaP l.start (zxa l.start.length (zhf l n)) f
structure SmL (D B:Nat) (l:LQ):Prop where
 r:∀i j,i<l.start.length->j<l.start.length->over D B (rtQ l i j)
 e:∀i,i<l.start.length->over D B (exQ l i)
theorem SmL.o {D B:Nat} (hs:SmL D B l) (h:znb l) (hD:D≠0) {i:Nat} (hi:i<l.start.length):over D (5*B) (zff l i):=by
 rw[h.out_sg hi];refine(over.add hD (over.sg hD λ j hj=>hs.r i j hi hj) (hs.e i hi)).mono ?_;have h1:=zMR B h.n4;omega
theorem SmL.phA {D B:Nat} (hs:SmL D B l) (h:znb l) (hD:D≠0):zvm l.start.length l.start.length D (5*B) (phA l):=λ i j hi hj=>by
 unfold Go.Proofs.YtlpdkbmmbdfoiaaGreat.phA;split
 ·exact hs.o h hD hi
 ·exact(over.sub hD (over.zero D 0) (hs.r i j hi hj)).mono zO
end
section
variable (a b:LQ)
def bfN :Nat:=a.start.length*b.start.length
def bf1 (i j k:Nat):Nat->Rat:=λ c=>if c=i*b.start.length+j then zff a i+zff b j else if c%b.start.length=j/\c/b.start.length<k then 0-rtQ a i (c/b.start.length)else 0
def bf2 (i j k:Nat):Nat->Rat:=λ c=>if c=i*b.start.length+j then zff a i+zff b j else if c%b.start.length=j then 0-rtQ a i (c/b.start.length)else if c/b.start.length=i/\c%b.start.length<k then 0-rtQ b j (c%b.start.length)else 0
def bfA :Mx:=λ r=>bf2 a b (r/b.start.length) (r%b.start.length) b.start.length
def bfR (r:Nat):Rat:=exQ a (r/b.start.length)
def bfS (r:Nat):Rat:=stQ a (r/b.start.length)*stQ b (r%b.start.length)
def befX :Nat->Rat:=solE (bfN a b) (bfA a b) (bfR a b)
def befQ :Rat:=zhp (zxa (bfN a b) (bfS a b)) (zxa (bfN a b) (befX a b)) (bfN a b)*fq false 1 1
structure BefP :Prop where
 sys:zim (bfN a b) (bfA a b) (bfR a b) (befX a b)
 sca:ScaP (zxa (bfN a b) (bfS a b)) (zxa (bfN a b) (befX a b)) 1
end
theorem zhc {n i j:Nat} (hj:j<n):(i*n+j)/n=i:=by
 rw[Nat.mul_comm,Nat.mul_add_div zO,Nat.div_eq_of_lt hj,Nat.add_zero]
theorem zrc {n i j:Nat} (hj:j<n):(i*n+j)%n=j:=by
 rw[Nat.mul_comm,Nat.mul_add_mod,Nat.mod_eq_of_lt hj]
theorem zfm {m n i j:Nat} (hi:i<m) (hj:j<n):i*n+j<m*n:=by
 have h:=zMR n (show i+1<=m from hi);rw[Nat.add_mul]at h;omega
theorem zgm {n c:Nat}:(c/n)*n+c%n=c:=by
 rw[Nat.mul_comm];exact Nat.div_add_mod c n
section
variable {a b:LQ}
theorem bf1_start {i j c:Nat}:bf1 a b i j 0 c=if c=i*b.start.length+j then zff a i+zff b j else 0:=by
 unfold bf1;by_cases h:c=i*b.start.length+j
 ·rw[zIP h,zIP h]
 ·rw[zIN h,zIN h,zIN (λ h=>absurd h.2 (zNZ _))]
theorem bf1_step (ha:znb a) {i j k:Nat} (hi:i<a.start.length) (hj:j<b.start.length):bf1 a b i j k (k*b.start.length+j)-rtQ a i k=bf1 a b i j (k+1) (k*b.start.length+j):=by
 unfold bf1;rw[zhc hj,zrc hj];by_cases h:k=i
 ·subst h;rw[zIP rfl,zIP rfl,ha.rt_diag hi];grind
 ·have h2:¬k*b.start.length+j=i*b.start.length+j:=λ e=>by
   have h3:k*b.start.length=i*b.start.length:=zO;exact h (Nat.eq_of_mul_eq_mul_right zO h3)
  rw[zIN h2,zIN h2,zIN (λ h=>absurd h.2 (zIR _)),zIP ⟨rfl,zSS _⟩]
theorem bf1_other {i j k c:Nat} (hj:j<b.start.length) (hc:c≠k*b.start.length+j):bf1 a b i j k c=bf1 a b i j (k+1) c:=by
 unfold bf1;by_cases h:c=i*b.start.length+j
 ·rw[zIP h,zIP h]
 ·rw[zIN h,zIN h];by_cases h2:c%b.start.length=j/\c/b.start.length<k
  ·rw[zIP h2,zIP ⟨h2.1,Nat.lt_succ_of_lt h2.2⟩]
  ·rw[zIN h2];by_cases h3:c%b.start.length=j/\c/b.start.length<k+1
   ·exfalso;have h4:c/b.start.length=k:=Nat.le_antisymm (Nat.lt_succ_iff.1 h3.2) (Nat.not_lt.1 λ h=>h2 ⟨h3.1,h⟩);exact hc (by rw[<-h4,<-h3.1];exact zgm.symm)
   ·rw[zIN h3]
theorem bf_meet {i j c:Nat} (hc:c<bfN a b):bf1 a b i j a.start.length c=bf2 a b i j 0 c:=by
 have h4:c/b.start.length<a.start.length:=Nat.div_lt_of_lt_mul (by rw[Nat.mul_comm];exact hc);unfold bf1 bf2;by_cases h:c=i*b.start.length+j
 ·rw[zIP h,zIP h]
 ·rw[zIN h,zIN h];by_cases h2:c%b.start.length=j
  ·rw[zIP ⟨h2,h4⟩,zIP h2]
  ·rw[zIN (λ h=>h2 h.1),zIN h2,zIN (λ h=>absurd h.2 (zNZ _))]
theorem bf2_step (hb:znb b) {i j k:Nat} (hj:j<b.start.length) (hk:k<b.start.length):bf2 a b i j k (i*b.start.length+k)-rtQ b j k=bf2 a b i j (k+1) (i*b.start.length+k):=by
 unfold bf2;rw[zhc hk,zrc hk];by_cases h:k=j
 ·subst h;rw[zIP rfl,zIP rfl,hb.rt_diag hj];grind
 ·have h2:¬i*b.start.length+k=i*b.start.length+j:=λ e=>h zO
  rw[zIN h2,zIN h2,zIN h,zIN (λ h=>absurd h.2 (zIR _)),zIN h,zIP ⟨rfl,zSS _⟩]
theorem bf2_other {i j k c:Nat} (hc:c≠i*b.start.length+k):bf2 a b i j k c=bf2 a b i j (k+1) c:=by
 unfold bf2;by_cases h:c=i*b.start.length+j
 ·rw[zIP h,zIP h]
 ·rw[zIN h,zIN h];by_cases h1:c%b.start.length=j
  ·rw[zIP h1,zIP h1]
  ·rw[zIN h1,zIN h1];by_cases h2:c/b.start.length=i/\c%b.start.length<k
   ·rw[zIP h2,zIP ⟨h2.1,Nat.lt_succ_of_lt h2.2⟩]
   ·rw[zIN h2];by_cases h3:c/b.start.length=i/\c%b.start.length<k+1
    ·exfalso;have h4:c%b.start.length=k:=Nat.le_antisymm (Nat.lt_succ_iff.1 h3.2) (Nat.not_lt.1 λ h=>h2 ⟨h3.1,h⟩);exact hc (by rw[<-h4,<-h3.1];exact zgm.symm)
    ·rw[zIN h3]
theorem lsum_app (l:List Rat):∀m:List Rat,zef (l++m)=zef l+zef m:=by
 intro m
 have key:∀ (m:List Rat) (x:Rat),List.foldl (· + ·) x m=x+List.foldl (· + ·) 0 m:=by
  intro m
  induction m with
  | nil=>intro x;show x=x+0;grind
  | cons y m ih=>
    intro x;(show List.foldl (· + ·) (x+y) m=x+List.foldl (· + ·) (0+y) m);rw[ih (x+y),ih (0+y)];grind
 unfold zef;rw[List.foldl_append];exact key m _
theorem zpk (ha:znb a) {i:Nat} (hi:i<a.start.length):fits (zff a i):=by
 have h:=ha.outL hi;refine zuo (List.Sublist.refl _) h ?_;rw[zLA,ha.rowlen hi];have:=ha.n4;simp;omega
theorem zqk (ha:znb a) (hb:znb b) {i j:Nat} (hi:i<a.start.length) (hj:j<b.start.length):fits (zff a i+zff b j):=by
 have h1:=ha.outL hi;have h2:=hb.outL hj;unfold zff;rw[<-lsum_app];refine zuo (List.Sublist.refl _) (λ q hq=> ?_) ?_
 ·rcases List.mem_append.1 hq with h | h
  ·exact h1 q h
  ·exact h2 q h
 ·rw[zLA,zLA,zLA,ha.rowlen hi,hb.rowlen hj];have:=ha.n4;have:=hb.n4;simp;omega
theorem fits_ng {q:Rat} (h:fits q):fits (0-q):=by
 rw[Rat.sub_eq_add_neg,Rat.zero_add];exact⟨by rw[Rat.neg_num,Int.natAbs_neg];exact h.1,h.2⟩
theorem bf1_fits (ha:znb a) (hb:znb b) {i j k c:Nat} (hi:i<a.start.length) (hj:j<b.start.length) (hc:c<bfN a b):fits (bf1 a b i j k c):=by
 have h4:c/b.start.length<a.start.length:=Nat.div_lt_of_lt_mul (by rw[Nat.mul_comm];exact hc);unfold bf1;split
 ·exact zqk ha hb hi hj
 ·split
  ·exact fits_ng (ha.rt_lim hi h4).fits
  ·decide
theorem bf2_fits (ha:znb a) (hb:znb b) {i j k c:Nat} (hi:i<a.start.length) (hj:j<b.start.length) (hc:c<bfN a b):fits (bf2 a b i j k c):=by
 have h4:c/b.start.length<a.start.length:=Nat.div_lt_of_lt_mul (by rw[Nat.mul_comm];exact hc);have h5:c%b.start.length<b.start.length:=zML2 _ zO;unfold bf2;split
 ·exact zqk ha hb hi hj
 ·split
  ·exact fits_ng (ha.rt_lim hi h4).fits
  ·split
   ·exact fits_ng (hb.rt_lim hj h5).fits
   ·decide
end
theorem zgp {A B:Nat} (h:A<=B):∀n,dtB n A<=dtB n B
 | 0=>zLR _
 | n+1=>zML _ (zMM h (zgp h n))
theorem bD_mono {D E β:Nat} (h:D<=E):bD D β<=bD E β:=by
 unfold bD;exact zMM (zMM (zMR _ h) h) (zML _ h)
theorem bW_mono {n D E B C β:Nat} (h:D<=E) (h2:B<=C):bW n D B β<=bW n E C β:=by
 unfold bW;exact Nat.add_le_add (zMM h2 (zML _ h)) (zML _ (zMM (zML _ (zMR _ h2)) h2))
theorem bN_mono {n D E B C β:Nat} (h:D<=E) (h2:B<=C):bN n D B β<=bN n E C β:=by
 unfold bN;exact Nat.add_le_add (bW_mono h h2) (zML _ (zMM (zMR _ (bW_mono h h2)) h2))
theorem zrn.mono2 {n D0 B0 β F0 K0 D B F K:Nat} (h:zrn n D0 B0 β F0 K0) (d1:D≠0) (d2:D<=D0) (b1:D<=B) (b2:B<=B0) (f1:1<=F) (f2:F<=F0) (k1:1<=K) (k2:K<=K0):zrn n D B β F K:=by
 obtain⟨a1,a2,a3,a4,a5,a6,a7,a8,a9⟩:=h;have hD:bD D β<=bD D0 β:=bD_mono d2;have hW:bW n D B β<=bW n D0 B0 β:=bW_mono d2 b2;have hN:bN n D B β<=bN n D0 B0 β:=bN_mono d2 b2;have hx:bD D β*bN n D B β*(bD D β*F)<=bD D0 β*bN n D0 B0 β*(bD D0 β*F0):=zMM (zMM hD hN) (zMM hD f2);refine⟨zLT (zgp b2 n) a1,d1,b1,f1,k1,zLL ?_ a6,zLL ?_ a7,zLL ?_ a8,zLL ?_ a9⟩
 ·exact zMM (zMM hD f2) hx
 ·exact Nat.add_le_add (zMM (zMM hN k2) hx) (zMM (zMM (zMM hN hD) (zMM hN k2)) (zMM hD f2))
 ·exact Nat.pow_le_pow_left (zMM (zMR _ d2) d2) n
 ·exact Nat.pow_le_pow_left hW n
theorem slim4R :∀n,n<5->zrn n 6720 1814400 (dtB n 1814400) (2^90) (2^92):=by
 intro n hn
 have h:∀n,n<5->(bD 6720 (dtB n 1814400)*2^90*(bD 6720 (dtB n 1814400)*bN n 6720 1814400 (dtB n 1814400)*(bD 6720 (dtB n 1814400)*2^90))<2^4096/\
  bN n 6720 1814400 (dtB n 1814400)*2^92*(bD 6720 (dtB n 1814400)*bN n 6720 1814400 (dtB n 1814400)*(bD 6720 (dtB n 1814400)*2^90))+bN n 6720 1814400 (dtB n 1814400)*bD 6720 (dtB n 1814400)*(bN n 6720 1814400 (dtB n 1814400)*2^92)*(bD 6720 (dtB n 1814400)*2^90)<2^4096/\
  (6720*dtB n 1814400*6720)^n<2^4096/\(bW n 6720 1814400 (dtB n 1814400))^n<2^4096):=by decide+kernel
 obtain⟨h1,h2,h3,h4⟩:=h n hn;exact⟨zLR _,zD,zD,by decide+kernel,by decide+kernel,h1,h2,h3,h4⟩
theorem dtB4 :∀n,n<5->dtB n 1814400<2^89:=by decide+kernel
section
variable {n D B:Nat} {A:Mx}
structure SmS (n D B:Nat) (A:Mx):Prop where
 n1:1<=n
 n4:n<=4
 d0:D≠0
 d1:D<=6720
 b0:D<=B
 b1:B<=1814400
 a:zvm n n D B A
 reg:dt n A≠0
theorem ztb {a x:Nat} (h:x<2^a) (ha:a<=4096):x<2^4096:=by
 generalize 4096=m at *
 exact zLM h (Nat.pow_le_pow_right zD ha)
theorem SmS.fitA (h:SmS n D B A):fitM n n A:=λ i j hi hj=>(h.a i j hi hj).fits h.d0 (ztb (a:=21) (zLL h.b1 zD) zD) (ztb (a:=13) (zLL h.d1 zD) zD)
theorem SmS.wtA (h:SmS n D B A):wtF n n A<=544:=by
 have h1:=wtF_le (K:=34) (n:=n) (m:=n) (A:=A) λ i j hi hj=>(h.a i j hi hj).wt (a:=21) (b:=13) h.d0 (zLL h.b1 zD) (zLL h.d1 zD)
 have h2:n*(n*34)<=4*(4*34):=zMM h.n4 (zMR _ h.n4);omega
theorem SmS.sol (h:SmS n D B A) {F K:Nat} {b x:Nat->Rat} (hF:F≠0) (hb:∀i,i<n->over F K (b i)) (hx:∀i,i<n->sg n (λ j=>A i j*x j)=b i):
 ∃E,E≠0/\E<2^89/\∀i,i<n->over (E*F) (2^91*K) (x i):=by
 obtain⟨E,h1,h2,h3⟩:=sol_gen h.d0 h.b0 h.a h.reg hF hb hx;have h4:=dtB4 n (by have:=h.n4;omega);have h5:=zLL (zgp h.b1 n) h4;refine⟨E,h1,zLL h2 h5,λ i hi=>(h3 i hi).mono ?_⟩;have h6:n*(dtB n B*K)<=4*(2^89*K):=zMM h.n4 (zMR _ (zLO h5));refine zLT h6 (Nat.le_of_eq ?_);rw[<-Nat.mul_assoc]
theorem SmS.slim (h:SmS n D B A) {F K:Nat} {b:Nat->Rat} (hF:F≠0) (hF2:F<=2^90) (hK1:1<=K) (hK:K<=2^92) (hb:∀i,i<n->over F K (b i)):slimE false n (n+1) n (zra n A (λ i _=>b i)):=by
 have hx:=(slim4R n (by have:=h.n4;omega)).mono2 h.d0 h.d1 h.b0 h.b1 (zPZ hF) hF2 hK1 hK;refine zsn hx (by have:=h.n1;omega) (zLS n) (λ i j hi hj=> ?_) (λ i j hi hj1 hj2=> ?_) (zcf (B:=λ i _=>b i) h.reg)
 ·rw[zhe hj];exact h.a i j hi hj
 ·have e:zra n A (λ i _=>b i) i j=b i:=by unfold zra;rw[zIN (Nat.not_lt.2 hj1)]
  rw[e];have h1:=over.scale (m:=D) h.d0 (hb i hi);rw[Nat.mul_comm F D]at h1;refine h1.mono ?_;rw[Nat.mul_comm B K];exact zML _ h.b0
theorem SmS.sys (h:SmS n D B A) {F K:Nat} {b x:Nat->Rat} (hF:F≠0) (hF2:F<2^90) (hK1:1<=K) (hK:K<2^92) (hb:∀i,i<n->over F K (b i)) (hx:∀i,i<n->sg n (λ j=>A i j*x j)=b i):zim n A b x:=by
 obtain⟨E,e1,e2,e3⟩:=h.sol hF hb hx;refine⟨h.n1,by have:=h.n4;omega,h.fitA,λ i hi=>(hb i hi).fits hF (ztb (a:=92) hK zD) (ztb (a:=90) hF2 zD),λ i hi=>(e3 i hi).fits (zMZ e1 hF) (ztb (a:=183) ?_ zD) (ztb (a:=179) ?_ zD),?_,h.reg,h.slim hF (zLO hF2) hK1 (zLO hK) hb,hx⟩
 ·have :2^91*K<2^91*2^92:=Nat.mul_lt_mul_of_pos_left hK (by decide+kernel);exact zLM this (by decide+kernel)
 ·have :E*F<=2^89*F:=zMR _ (zLO e2);have h2:2^89*F<2^89*2^90:=Nat.mul_lt_mul_of_pos_left hF2 (by decide+kernel);exact zLM (zLL this h2) (by decide+kernel)
 ·have h1:=h.wtA
  have h2:=wts_all3 (l:=zxa n b) (K:=182) λ q hq=>by
   unfold zxa at hq;obtain⟨i,hi,rfl⟩:=List.mem_map.1 hq;exact(hb i (List.mem_range.1 hi)).wt (a:=92) (b:=90) hF hK hF2
  rw[zda]at h2;have:=h.n4;omega
end
theorem zch :over 1 1 1:=over.one zD
section
variable {l:LQ} {D B:Nat}
theorem znb.sms (h:znb l) (hs:SmL D B l) (hD:D≠0) (hD1:D<=6720) (hB:D<=5*B) (hB1:5*B<=1814400):SmS l.start.length D (5*B) (phA l):=
 ⟨h.n1,h.n4,hD,hD1,hB,hB1,hs.phA h hD,h.reg⟩
theorem zgi {N:Nat} {s x:Nat->Rat} {f DS E K:Nat} (hN:N<=1000) (hN4:N<=16) (hf:f<100) (hDS:DS≠0) (hDS2:DS<=2^13) (hs:∀i,i<N->over DS (2^13) (s i)) (hE:E≠0) (hE2:E<2^200) (hK:K<2^200) (hx:∀i,i<N->over E K (x i)):
 ScaP (zxa N s) (zxa N x) f:=by
 have hlen:(zxa N s).length=N:=zda N s;have g1:∀t,t<N->(zxa N s).getD t 0=s t:=λ t ht=>by rw[zGD,zGE (by rw[zda];exact ht),Option.getD_some,zqb]
 have g2:∀t,t<N->(zxa N x).getD t 0=x t:=λ t ht=>by rw[zGD,zGE (by rw[zda];exact ht),Option.getD_some,zqb]
 have hP:∀t,t<N->over (DS*E) (2^13*K) (s t*x t):=λ t ht=>over.mul (hs t ht) (hx t ht)
 have hDE:DS*E≠0:=zMZ hDS hE
 have b1:DS*E<2^213:=by
  have h1:DS*E<=2^13*E:=zMR _ hDS2;have h2:2^13*E<2^13*2^200:=Nat.mul_lt_mul_of_pos_left hE2 (by decide+kernel);exact zLM (zLL h1 h2) (by decide+kernel)
 have b2:2^13*K<2^213:=zLM (Nat.mul_lt_mul_of_pos_left hK (by decide+kernel)) (by decide+kernel)
 have hS:∀k,k<=N->over (DS*E) (16*(2^13*K)) (zhp (zxa N s) (zxa N x) k):=λ k hk=>by
  unfold zhp;rw[Rat.zero_add];have h1:sg k (λ t=>(zxa N s).getD t 0*(zxa N x).getD t 0)=sg k λ t=>s t*x t:=zqa λ t ht=>by rw[g1 t zO,g2 t zO]
  rw[h1];exact(over.sg hDE λ t ht=>hP t zO).mono (zMR _ zO)
 have b3:16*(2^13*K)<2^217:=zLM (Nat.mul_lt_mul_of_pos_left b2 zD) (by decide+kernel);refine⟨by rw[zda,zda],by rw[hlen];exact hN,hf,λ t ht=> ?_,λ k hk=> ?_,?_⟩
 ·rw[hlen]at ht;rw[g1 t ht,g2 t ht];refine⟨(hs t ht).fits hDS (ztb (a:=14) zD zD) (ztb (a:=14) (zLL hDS2 zD) zD),(hx t ht).fits hE (ztb hK zD) (ztb hE2 zD),(hP t ht).fits hDE (ztb b2 zD) (ztb b1 zD)⟩
 ·rw[hlen]at hk;exact(hS k hk).fits hDE (ztb b3 zD) (ztb b1 zD)
 ·rw[hlen]
  have hfo:over 1 100 (fq false f 1):=by
   refine⟨(f:Int),?_,by simp;omega⟩;unfold fq sgn;simp
  have h1:=over.mul (hS N (zLR _)) hfo;rw[Nat.mul_one]at h1;refine h1.fits hDE (ztb (a:=224) ?_ zD) (ztb b1 zD);exact zLM (Nat.mul_lt_mul_of_pos_right b3 zD) (by decide+kernel)
theorem zqn (l:LQ):zxa l.start.length (stQ l)=l.start:=rowL_of l.start
theorem mom_small (h:znb l) (hs:SmL D B l) (hD:D≠0) (hD1:D<=6720) (hB:D<=5*B) (hB1:5*B<=1814400) {DS:Nat} (hDS:DS≠0) (hDS2:DS<=2^13) (hst:∀i,i<l.start.length->over DS (2^13) (stQ l i)):MomP l 1 1/\MomP l 2 2:=by
 have hS:=h.sms hs hD hD1 hB hB1;have x1:=h.mom_eq 0;have x2:=h.mom_eq 1;obtain⟨E1,a1,a2,a3⟩:=hS.sol (F:=1) (K:=1) zD (λ i _=>zch) x1;rw[Nat.mul_one]at a3;have e91:2^91*1=2^91:=Nat.mul_one _;rw[e91]at a3;obtain⟨E2,c1,c2,c3⟩:=hS.sol (F:=E1) (K:=2^91) a1 a3 x2;have s1:zim l.start.length (phA l) (zhf l 0) (zhf l 1):=hS.sys (F:=1) (K:=1) zD (by decide+kernel) zD (by decide+kernel) (λ i _=>zch) x1;have s2:zim l.start.length (phA l) (zhf l 1) (zhf l 2):=hS.sys (F:=E1) (K:=2^91) a1 (zRR a2 (by decide+kernel)) (by decide+kernel) (by decide+kernel) a3 x2;have n4:=h.n4;refine⟨⟨λ m hm=> ?_,?_⟩,⟨λ m hm=> ?_,?_⟩⟩
 ·obtain rfl:m=0:=zO;exact s1
 ·have h1:=zgi (N:=l.start.length) (f:=1) zO zO zD hDS hDS2 hst a1 (zRR a2 (by decide+kernel)) (by decide+kernel) a3;rwa[zqn]at h1
 ·rcases(show m=0\/m=1 by omega)with rfl | rfl
  ·exact s1
  ·exact s2
 ·have hE:E2*E1<2^178:=zLM (Nat.mul_lt_mul'' c2 a2) (by decide+kernel);have h1:=zgi (N:=l.start.length) (f:=2) zO zO zD hDS hDS2 hst (zMZ c1 a1) (zRR hE (by decide+kernel)) (by decide+kernel) c3;rwa[zqn]at h1
end
theorem zwo {l:List Rat} {k i:Nat} {x:Rat} (hk:k<l.length):(l.set k x).getD i 0=if i=k then x else l.getD i 0:=by
 rw[zGD,zGD,List.getElem?_set];by_cases h:k=i
 ·subst h;rw[zIP rfl,zIP rfl,zIP hk];rfl
 ·rw[zIN h,zIN (λ e=>h e.symm)]
theorem zej (n i:Nat):(zcb n).getD i 0=0:=by
 rw[zGD];unfold zcb;by_cases h:i<n
 ·rw[List.getElem?_replicate,zIP h];rfl
 ·rw[List.getElem?_replicate,zIN h];rfl
section
variable {n:Nat} {q:Rat}
theorem zpi (n:Nat) (q:Rat):(erlQ n q).start.length=n:=by
 show((zcb n).set 0 1).length=n
 rw[zGS,zpa]
theorem erl_st (hn:1<=n) (i:Nat):stQ (erlQ n q) i=if i=0 then 1 else 0:=by
 show((zcb n).set 0 1).getD i 0=_
 rw[zwo (by rw[zpa];exact hn),zej]
theorem erl_ex (hn:1<=n) (i:Nat):exQ (erlQ n q) i=if i=n-1 then q else 0:=by
 show((zcb n).set (n-1) q).getD i 0=_
 rw[zwo (by rw[zpa];omega),zej]
theorem erl_rt {i j:Nat} (hi:i<n) (hj:j<n):rtQ (erlQ n q) i j=if j=i+1 then q else 0:=by
 have h1:i<(zjn n q (n-1)).length:=by rw[zdd];exact hi
 show((zjn n q (n-1)).getD i []).getD j 0=_
 have e1:(zjn n q (n-1)).getD i []=(zjn n q (n-1))[i]:=by rw[zGD,zGE h1];rfl
 rw[e1,zjg];by_cases h:i<n-1
 ·rw[zIP h,zwo (by rw[zpa];omega),zej]
 ·rw[zIN h,zej,zIN zO]
theorem zfd :zqf 0:=⟨Rat.le_refl,zD,zD⟩
theorem limQ_one :zqf 1:=⟨by decide+kernel,by decide+kernel,by decide+kernel⟩
theorem mem_zeros {x:Rat} (h:x∈zcb n):x=0:=(List.mem_replicate.1 h).2
theorem lim_set {k:Nat} {x:Rat} (hx:zqf x):∀y∈(zcb n).set k x,zqf y:=λ y hy=>by
 rcases List.mem_or_eq_of_mem_set hy with h | h
 ·rw[mem_zeros h];exact zfd
 ·rw[h];exact hx
theorem erl_law (hn:1<=n) (hn4:n<=4) (hq:zqf q) (h0:0<q):znb (erlQ n q) where
 n1:=by rw[zpi];exact hn
 n4:=by rw[zpi];exact hn4
 el:=by rw[zpi];show((zcb n).set (n-1) q).length=n;rw[zGS,zpa]
 rl:=by rw[zpi];exact zdd n q (n-1)
 st:=lim_set limQ_one
 ex:=lim_set hq
 row:=λ i h=>by
  have h':i<(zjn n q (n-1)).length:=h;have hi:i<n:=by rwa[zdd]at h'
  refine⟨by rw[zpi];exact zin n q (n-1) i h,λ y hy=> ?_,?_⟩
  ·replace hy:y∈(zjn n q (n-1))[i]'h':=hy;rw[zjg]at hy;split at hy
   ·exact lim_set hq y hy
   ·rw[mem_zeros hy];exact zfd
  ·have h3:=erl_rt (q:=q) hi hi;rw[zIN zO]at h3;unfold rtQ at h3;(have e1:(erlQ n q).rates.getD i []=(erlQ n q).rates[i]:=by rw[zGD,zGE h];rfl);rw[e1]at h3;exact h3
 sum:=by
  rw[zkr,zpi]
  have e:(λ j=>(erlQ n q).start.getD j 0)=λ j=>if 0=j then(1:Rat)else 0:=by
   funext j
   have:=erl_st (q:=q) hn j;unfold stQ at this;rw[this];by_cases h:j=0
   ·subst h;rfl
   ·rw[zIN h,zIN (λ e=>h e.symm)]
  rw[e];exact zee (f:=λ _=>(1:Rat)) (show 0<n by omega)
 ends:=⟨λ i=>n-1-i,λ i hi=>by
  rw[zpi]at hi |-
  refine⟨show n-1-i<=n by omega,?_⟩;by_cases h:i=n-1
  ·refine Or.inl ?_;have:=erl_ex (q:=q) hn i;unfold exQ at this;rw[this,zIP h];exact h0
  ·refine Or.inr ⟨i+1,zO,?_,show n-1- (i+1)<n-1-i by omega⟩;have:=erl_rt (q:=q) hi (show i+1<n by omega);unfold rtQ at this;rw[this,zIP rfl];exact h0⟩
theorem erl_sm {D B:Nat} (hn:1<=n) (hq:over D B q):SmL D B (erlQ n q) where
 r:=λ i j hi hj=>by
  rw[zpi]at hi hj;rw[erl_rt hi hj];split
  ·exact hq
  ·exact over.zero _ _
 e:=λ i hi=>by
  rw[erl_ex hn];split
  ·exact hq
  ·exact over.zero _ _
theorem zcp (hn:1<=n) (i:Nat):over 1 (2^13) (stQ (erlQ n q) i):=by
 rw[erl_st hn];split
 ·exact zch.mono zD
 ·exact over.zero _ _
end
end Go.Proofs.YtlpdkbmmbdfoiaaGreat
