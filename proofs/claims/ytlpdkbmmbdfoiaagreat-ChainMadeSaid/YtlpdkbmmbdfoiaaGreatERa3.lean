/- Lemmas. -/
import Derived.Test.YtlpdkbmmbdfoiaaGreatELi11
set_option linter.unusedVariables false
set_option linter.unusedSimpArgs false
namespace Go.Proofs.YtlpdkbmmbdfoiaaGreat
set_option maxRecDepth 100000
open Go.RowKit
set_option maxHeartbeats 3200000 in
theorem column_own (va:Value) (n m k:Nat) (A:Mx) (w:World) (ha:zam w va n m A) (hk:k<m) (hn:n<=1000) (hm:m<=1000):
 Calls Tryz.prog 170 #[va, .int .i64 k] w fun e w'=>∃v,e= .returned v/\zbb w' v (zib n (fun i=>A i k))/\Below w.heap.size w w'/\w.heap.size<=(base v).block:=by
 have sa:=ha.sl
 have la:=ha.len
 obtain⟨i0,hi,hz0,hz1,hz2⟩:=info_parts Tryz.infoF
 have hM:=zon (P:=Tryz.prog) 25 38 i0 Tryz.underlying25 hi hz0 hz1 (by rw[hz2];decide)
 clear hi hz0 hz1 hz2
 go_enter Tryz.func170,Tryz.ntmps170
 go_wp2_with (refine hM _ rfl _ _ rfl w.heap.size _ n rfl rfl rfl (by omega) (zLR _) ?_;intro v w1 hown hb1 hvb;have sv:=hown.sl;have lv:=hown.len)
 clear hM
 go_loopw [12] (fun u12 wr=>∃ (i:Nat),i<=n/\u12= .int .i64 i/\zqb wr 38 w.heap.size v n/\(∀j,j<i->zlg wr v j (A j k))/\Below w.heap.size w wr) (fun u12 _=>n- (intOf u12).toNat)
 case atStart=>exact⟨0,zZL _,rfl,hown,fun j h=>by omega,hb1⟩
 case round=>
  obtain⟨i,hin,rfl,ho,he,hbr⟩:=hrel
  clear hown hb1
  have HE:=zH he
  clear he
  by_cases hil:i<n
  ·obtain⟨ri,hc1,hr1⟩:=(ha.below hbr).row i hil
   have slI:=hr1.sl
   have lnI:slen ri=m:=by rw[hr1.len,zea]
   obtain⟨ea,eb,g1,g2,g3,g4,g5⟩:=hr1.at' k (by rw[zea];exact hk)
   rw[ztb]at g1 g4 g5
   obtain⟨ea1,ea2,ea3,rfl,_⟩:=g4.v.sl
   obtain⟨eb1,eb2,eb3,rfl,_⟩:=g5.v.sl
   have hF:zqa wr (.agg #[.bool (decide (A i k<0)), .slice ea1 ea2 ea3, .slice eb1 eb2 eb3]) (A i k):=⟨_,_,rfl,g4,g5⟩
   obtain⟨c0,d0,_⟩:=ho.cell (i*3) (by omega)
   obtain⟨c1,d1,_⟩:=ho.cell (i*3+1) (by omega)
   obtain⟨c2,d2,_⟩:=ho.cell (i*3+2) (by omega)
   have f0:=ho.frozen (i*3)
   have f1:=ho.frozen (i*3+1)
   have f2:=ho.frozen (i*3+2)
   have n01:=ho.inj (show i*3≠i*3+1 by omega)
   have n02:=ho.inj (show i*3≠i*3+2 by omega)
   have n12:=ho.inj (show i*3+1≠i*3+2 by omega)
   have hs3:=ho.set3 i (.bool (decide (A i k<0))) (.slice ea1 ea2 ea3) (.slice eb1 eb2 eb3) (fun z=>by simp) (fun z=>by simp) (fun z=>by simp)
   have HS3:=zH hs3
   have HF:=zH hF
   have HO:=zH ho
   clear hs3 hr1 g4 g5 hF ho
   have i1:(0:Int)<=(i:Int):=by omega
   have i2:(i:Int)<(n:Nat):=by omega
   have i3:(0:Int)<=(k:Int):=by omega
   have i4:(k:Int)<(m:Nat):=by omega
   go_wp2_with fail
   go_roundw
   case rel=>
    refine⟨i+1,hil,by go_num,HS3.out.1,fun j hj=> ?_,hbr.trans HS3.out.2⟩
    rcases Nat.lt_or_ge j i with h6 | h6
    ·exact zlg.set3_other HO.out hil (by omega) (HE.out j h6) _ _ _ (fun z=>by simp) (fun z=>by simp)
    ·obtain rfl:j=i:=by omega
     exact zlg.set3 HO.out hil HF.out
   case measure=>simp[intOf];omega
  ·obtain rfl:i=n:=by omega
   go_wp2_with fail
   go_ret
   exact⟨v,rfl,ho.fracs (zea _ _) (fun j hj=>by rw[zea]at hj;rw[ztb];exact HE.out j hj),hbr,ho.block.1⟩
def zmu (n:Nat) (b:Nat->Rat):List RF:=(zib n b).map RF.of
@[go_sem] theorem slen_lit (a : Option Addr) (n c : Nat) : slen (.slice a n c) = n := rfl
theorem column_zero (va:Value) (n:Nat) (A:Mx) (w:World) (ha:zam w va n 1 A) (hn:n<=1000):
 Calls Tryz.prog 170 #[va, .int .i64 0] w fun e w'=>∃v,e= .returned v/\zbb w' v (zib n (fun i=>A i 0))/\Below w.heap.size w w'/\w.heap.size<=(base v).block:=
 column_own va n 1 0 A w ha (by decide) hn (by decide)
def RSolve (w0:World) (n:Nat) (S:St) (e:Ending) (w:World):Prop:=
 ∃v er,e= .returned (.tuple #[v, .int .i64 er])/\Below w0.heap.size w0 w/\(S.r<n->v= .slice none 0 0/\er=9)/\(¬S.r<n->er=0/\zbb w v (zib n (fun i=>S.A i n/S.A i i)))
def RSolveO (w0:World) (n:Nat) (S:St) (e:Ending) (w:World):Prop:=
 ∃v er,e= .returned (.tuple #[v, .int .i64 er])/\Below w0.heap.size w0 w/\(S.r<n->v= .slice none 0 0/\er=9)/\(¬S.r<n->er=0/\zbb w v (zib n (fun i=>S.A i n/S.A i i))/\w0.heap.size<=(base v).block)
structure RowsW (w:World) (B:Nat) (v:Value) (rs:List Value) (n k:Nat) (b:Nat->Rat):Prop where
 own:zlc w 25 B 1 v n rs
 row:∀ (i:Nat) (h:i<rs.length),i<k->zbb w rs[i] [b i]/\(base rs[i]).block≠(base v).block
theorem zpw {n:Nat} {b:Nat->Rat} (hf:∀i,i<n->fits (b i)):∀x∈zmu n b,x.ok:=by
 intro x hx
 obtain⟨q,hq,rfl⟩:=List.mem_map.1 hx
 obtain⟨j,hj,rfl⟩:=List.mem_map.1 hq
 exact RF.of_ok (hf j (List.mem_range.1 hj))
theorem zrk (n:Nat) (b:Nat->Rat):(zmu n b).length=n:=by unfold zmu;rw[List.length_map,zea]
theorem zlc.cell_ne {w:World} {e:TypeId} {B size n:Nat} {v:Value} {xs:List Value} (h:zlc w e B size v n xs) (j:Nat) (hj:j<xs.length) (z:Int):xs[j]≠ .int .u32 z:=by
 rcases h.own.2 with⟨rfl,h0⟩ | ⟨g,cap,cur,rfl,hb,hg,hn,hm,hs,ht⟩
 ·have:=h.own.1;rw[h0]at this;omega
 ·refine h.nl g rfl cur e _ hg xs[j] ?_ z
  rw[<-List.take_append_drop (n*size) cur.toList,ht]
  exact List.mem_append_left _ (zGM hj)
set_option maxHeartbeats 6400000 in
theorem solve_own (va vb:Value) (n:Nat) (A:Mx) (b:Nat->Rat) (w:World) (ha:zam w va n n A) (hb:zbb w vb (zib n b)) (hn1:1<=n) (hn:n<=24) (hf:zau n n A) (hfb:∀i,i<n->fits (b i)) (hw:wtF n n A+wts (qs (zmu n b))<=1900)
 (hX:slimE false n (n+1) n (zpa n A (fun i _=>b i))) (hq:∀i,i<n->(elim false n (zpa n A (fun i _=>b i)) n).r=n->(elim false n (zpa n A (fun i _=>b i)) n).A i i≠0/\fits ((elim false n (zpa n A (fun i _=>b i)) n).A i n/(elim false n (zpa n A (fun i _=>b i)) n).A i i)):
 Calls Tryz.prog 98 #[va,vb] w (RSolveO w n (elim false n (zpa n A (fun i _=>b i)) n)):=by
 obtain⟨i4,hi4,hz4,hs4,hy4⟩:=info_parts Tryz.infoRow
 have hMR:=zbi (P:=Tryz.prog) 24 25 i4 Tryz.underlying24 hi4 hz4 hs4 hy4
 clear hi4 hz4 hs4 hy4
 have hvec:vecP (zmu n b) n:=⟨zpw hfb,zrk n b⟩
 have HV:=zH hvec
 have HF:=zH hf
 have HFB:=zH hfb
 have HX:=zH hX
 have HQ:=zH hq
 have hwi:(wtF n n A:Int)+(wts (qs (zmu n b)):Nat)<=1900:=by omega
 obtain⟨W1,hW1⟩:∃W,wtF n n A=W:=⟨_,rfl⟩
 obtain⟨W2,hW2⟩:∃W,wts (qs (zmu n b))=W:=⟨_,rfl⟩
 rw[hW1,hW2]at hwi
 have HW1:=zH hW1
 have HW2:Hid (zxr [zmu n b]=W2):=zH (by rw[zhr];exact hW2)
 have HRB:Hid (zni w vb (zmu n b)):=zH hb.raw
 obtain⟨vb1,vb2,vb3,rfl,_⟩:=id hb.sl
 have sa:=ha.sl
 have la:=ha.len
 have sb:=hb.sl
 have lb:slen (.slice vb1 vb2 vb3)=n:=by rw[hb.len,zea]
 have hvb2:vb2=n:=lb
 subst hvb2
 have HA:=zH ha
 have HB:=zH hb
 have i65:vb2<=65536:=by omega
 have i1000:vb2<=1000:=by omega
 have HO1:Hid (∀l∈ [zmu vb2 b],∀x∈l,x.ok):=zH (fun l hl x hx=>by
  have :l=zmu vb2 b:=by simpa using hl
  subst this;exact hvec.1 x hx)
 have HO2:Hid (∀l∈ [zmu vb2 b],l.length<=65536):=zH (fun l hl=>by
  have :l=zmu vb2 b:=by simpa using hl
  subst this;rw[zrk];exact i65)
 have HO3:Hid ([zmu vb2 b].length<=65536):=zH (by simp)
 clear hW1 hW2 ha hb hf hfb hX hq hw hvec lb
 go_enter Tryz.func98,Tryz.ntmps98
 go_wp2_with (first
  |(go_at_call 166;(with_reducible refine(square_lin va vb2 vb2 A _ HA.out hn1 hn hn1 hn HF.out rfl).mono ?_);rintro e1 w1 ⟨rfl,hb1⟩)
  |(go_at_call 167;(with_reducible refine(zfh _ (zmu vb2 b) vb2 _ (HRB.out.below hb1) i65).mono ?_);rw[decide_eq_true HV.out];rintro e2 w2 ⟨rfl,hb2⟩
    have hB2:=zaa hb1 hb2)
  |(go_at_call 168;first
    |((with_reducible refine(weight_lin va vb2 vb2 A _ (HA.out.below hB2) hn hn HF.out).mono ?_);rw[HW1.out];rintro e3 w3 ⟨rfl,hb3⟩
      have hB3:=zaa hB2 hb3
      have hb4:=zca w3 (.cells #[.slice vb1 vb2 vb3] 25)
      have hM4:=mat_one (zjf.new w3 #[.slice vb1 vb2 vb3] 25) (HRB.out.below (zaa hB3 hb4)))
    |((with_reducible refine(zfl _ [zmu vb2 b] _ hM4 HO1.out HO2.out HO3.out).mono ?_);rw[HW2.out];rintro e5 w5 ⟨rfl,hb5⟩
      have hB5:=zaa (zaa hB3 hb4) hb5
      clear hM4))
  |(refine hMR w5 rfl _ _ rfl w5.heap.size _ vb2 rfl rfl rfl (by omega) (zLR _) ?_;intro vL w6 hO6 hb6
    have HO6:=zH hO6
    have HB6:=zH hb6
    have HB5:=zH hB5
    have slL:=hO6.sl
    have lnL:=hO6.len
    clear hO6 hb6 hB5 hb5 hb4 hB3 hb3 hB2 hb2 hb1))
 go_loopg [35] (vb2) (fun g u35 wr=>∃ (k:Nat) (rs:List Value),k<=vb2/\g=vb2-k/\u35= .int .i64 k/\RowsW wr w5.heap.size vL rs vb2 k b/\Below w5.heap.size w5 wr)
 case atStart=>exact⟨0,_,zZL _,rfl,rfl,⟨HO6.out,fun i h h2=>by omega⟩,HB6.out⟩
 case round=>
  obtain⟨k,rs,hk,hg,rfl,hR,hbr⟩:=hrel
  obtain⟨w2,hw2⟩:∃w2,w2=wr:=⟨_,rfl⟩
  subst hw2
  have HG:=zH hg
  have HR:=zH hR
  have HBR:=zH hbr
  have hBw2:=zfa HB5.out hbr HB5.out.size
  clear HO6 HB6 hg
  by_cases hkl:k<vb2
  ·have hkd:k<(zib vb2 b).length:=by rw[zea];exact hkl
   obtain⟨ea,eb,g1,g2,g3,g4,g5⟩:=(HB.out.below hBw2).at' k hkd
   rw[ztb]at g1 g4 g5
   obtain⟨ea1,ea2,ea3,rfl,_⟩:=g4.v.sl
   obtain⟨eb1,eb2,eb3,rfl,_⟩:=g5.v.sl
   have hF:zqa w2 (.agg #[.bool (decide (b k<0)), .slice ea1 ea2 ea3, .slice eb1 eb2 eb3]) (b k):=⟨_,_,rfl,g4,g5⟩
   have hbA:=zca w2 (.cells #[.bool (decide (b k<0)), .slice ea1 ea2 ea3, .slice eb1 eb2 eb3] 38)
   have hbB:=zaa hbA (zca (w2.alloc (.cells #[.bool (decide (b k<0)), .slice ea1 ea2 ea3, .slice eb1 eb2 eb3] 38)) (.cells #[.bool (decide (b k<0)), .slice ea1 ea2 ea3, .slice eb1 eb2 eb3] 38))
   have hsz:(w2.alloc (.cells #[.bool (decide (b k<0)), .slice ea1 ea2 ea3, .slice eb1 eb2 eb3] 38)).heap.size=w2.heap.size+1:=by simp
   have hVN:=zjf.new (w2.alloc (.cells #[.bool (decide (b k<0)), .slice ea1 ea2 ea3, .slice eb1 eb2 eb3] 38)) #[.bool (decide (b k<0)), .slice ea1 ea2 ea3, .slice eb1 eb2 eb3] 38
   rw[hsz]at hVN
   have hNew:=fracs_one hVN (hF.below hbB)
   have hRl:rs.length=vb2:=by have:=hR.own.clen;omega
   have hkr:k<rs.length:=by rw[hRl];exact hkl
   obtain⟨s1,s2⟩:=(hR.own.below hbB).set1 k hkr (.slice (some ⟨w2.heap.size+1,0,none⟩) 1 1) (fun z=>by simp)
   have hcL:=(hR.own.below hbB).cell k hkr
   have hfL:=(hR.own.below hbB).frozen k hkr
   have hnl:∀z,rs[k]'hkr≠ .int .u32 z:=by
    obtain⟨g,hg1,_,_,_,_⟩:=hR.own.blk (by omega)
    intro z e
    have hx:=hR.own
    exact(zlc.cell_ne hx k hkr z) e
   have hLlt:(base vL).block<w2.heap.size:=by obtain⟨g,_,e2,_,e3,_⟩:=hR.own.blk (by omega);omega
   have hLge:w5.heap.size<=(base vL).block:=by obtain⟨g,_,e2,e3,_,_⟩:=hR.own.blk (by omega);omega
   have hpL:(ptr vL k).block=(base vL).block:=zsa _ _
   have hRS:RowsW (((w2.alloc (.cells #[.bool (decide (b k<0)), .slice ea1 ea2 ea3, .slice eb1 eb2 eb3] 38)).alloc (.cells #[.bool (decide (b k<0)), .slice ea1 ea2 ea3, .slice eb1 eb2 eb3] 38)).setCell (ptr vL k) (.slice (some ⟨w2.heap.size+1,0,none⟩) 1 1)) w5.heap.size vL (rs.set k (.slice (some ⟨w2.heap.size+1,0,none⟩) 1 1)) vb2 (k+1) b:=by
    refine⟨s1,fun i hi hik=> ?_⟩
    have hi0:i<rs.length:=by simpa using hi
    by_cases h1:i=k
    ·subst h1
     rw[List.getElem_set_self]
     have hb0:(base (.slice (some ⟨w2.heap.size+1,0,none⟩) 1 1)).block=w2.heap.size+1:=rfl
     exact⟨hNew.setc (by rw[hb0,hpL];omega) hcL hnl _,by rw[hb0];omega⟩
    ·rw[List.getElem_set_ne (fun e=>h1 e.symm)]
     obtain⟨r1,r2⟩:=hR.row i hi0 (by omega)
     exact⟨(r1.below hbB).setc (by rw[hpL];exact r2) hcL hnl _,r2⟩
   have HRS:=zH hRS
   have hBS:Below w5.heap.size w5 (((w2.alloc (.cells #[.bool (decide (b k<0)), .slice ea1 ea2 ea3, .slice eb1 eb2 eb3] 38)).alloc (.cells #[.bool (decide (b k<0)), .slice ea1 ea2 ea3, .slice eb1 eb2 eb3] 38)).setCell (ptr vL k) (.slice (some ⟨w2.heap.size+1,0,none⟩) 1 1)):=(zaa hbr hbB).setCell (by rw[hpL];exact hLge) _
   have HBS:=zH hBS
   clear hR hbr g4 g5 hF hbA hbB hVN hNew s1 s2 hnl hRS hBS hsz hBw2 hRl
   have i1:(0:Int)<=(k:Int):=by omega
   have i2:(k:Int)<(vb2:Nat):=by omega
   go_wp2_with fail
   go_roundg (vb2- (k+1))
   case measure=>(have:=HG.out;omega)
   case rel=>exact⟨k+1,_,by omega,rfl,by go_num,HRS.out,HBS.out⟩
  ·obtain rfl:k=vb2:=by omega
   have hML:zam w2 vL k 1 (fun i _=>b i):=⟨hR.own.sl,hR.own.len,fun i hi=>by
    have hi2:i<rs.length:=by have:=hR.own.clen;omega
    refine⟨rs[i],hR.own.cell i hi2,?_⟩
    have h:=(hR.row i hi2 hi).1
    exact h⟩
   obtain⟨l1,l2,l3,rfl,hl3⟩:=id hML.sl
   obtain⟨bd,rfl⟩:∃bd,l1=some bd:=by
    cases l1 with
    | none=>exfalso;have h1:=hML.len;have h2:=hl3.2.2 rfl;have h3:l2=k:=h1;omega
    | some bd=>exact⟨bd,rfl⟩
   have HML:=zH hML
   have HQ1:Hid (∀i,i<k->(elim false k (zpa k A (fun i _=>b i)) k).r=k->(elim false k (zpa k A (fun i _=>b i)) k).A i i≠0/\∀j,j<1->fits ((elim false k (zpa k A (fun i _=>b i)) k).A i (k+j)/(elim false k (zpa k A (fun i _=>b i)) k).A i i)):=zH (fun i hi h=>⟨(HQ.out i hi h).1,fun j hj=>by
    obtain rfl:j=0:=by omega
    exact(HQ.out i hi h).2⟩)
   have hA2:=HA.out.below hBw2
   have HBW:=zH hBw2
   clear hR hbr hML hBw2 hkl hl3
   by_cases hrk:(elim false k (zpa k A (fun i _=>b i)) k).r<k
   ·go_wp2_with (go_at_call 169;(with_reducible refine(right_lin va bd l2 l3 k 1 A (fun i _=>b i) _ hA2 HML.out hn1 hn (zLR _) (by omega) HX.out HQ1.out).mono ?_);rintro e7 w7 ⟨v7,er7,rfl,hb7,hs7,_⟩;obtain⟨rfl,rfl⟩:=hs7 hrk;clear hs7)
    go_ret2
    exact⟨_,9,rfl,zaa HBW.out hb7,fun _=>⟨rfl,rfl⟩,fun h=>absurd hrk h⟩
   ·go_wp2_with (first
     |(go_at_call 169;(with_reducible refine(right_lin va bd l2 l3 k 1 A (fun i _=>b i) _ hA2 HML.out hn1 hn (zLR _) (by omega) HX.out HQ1.out).mono ?_);rintro e7 w7 ⟨v7,er7,rfl,hb7,_,hs7⟩;obtain⟨rfl,hm7⟩:=hs7 hrk;clear hs7)
     |(go_at_call 170;(with_reducible refine(column_zero v7 k _ _ hm7 i1000).mono ?_);rintro e8 w8 ⟨v8,rfl,hf8,hb8,hn8⟩))
    go_ret2
    exact⟨v8,0,rfl,zaa (zaa HBW.out hb7) hb8,fun h=>absurd h hrk,fun _=>⟨rfl,hf8,zLT (zaa HBW.out hb7).size hn8⟩⟩
section
variable {w w':World} {e:TypeId} {B size n:Nat} {v:Value} {xs:List Value} {q:List Rat}
theorem zlc.other (h:zlc w e B size v n xs) {p:Addr} (hp:p.block≠(base v).block) (u:Value):zlc (w.setCell p u) e B size v n xs:=by
 refine⟨⟨h.own.1,?_⟩,fun g hg cur e' fz hcc=> ?_⟩
 ·rcases h.own.2 with⟨rfl,h0⟩ | ⟨g,cap,cur,rfl,hb,hg,rest⟩
  ·exact .inl ⟨rfl,h0⟩
  ·refine .inr ⟨g,cap,cur,rfl,hb,?_,rest⟩
   rw[Below.heap_setCell _ _ _ _ (by intro e;exact hp (e.symm.trans rfl))];exact hg
 ·have hg2:g=(base v).block:=by
   obtain⟨a,b,c,rfl,_⟩:=h.sl
   cases a with
   | none=>cases hg
   | some a=>simp only[Value.ownBlock,Option.some.injEq]at hg;exact hg.symm
  rw[Below.heap_setCell _ _ _ _ (by intro e;exact hp (by rw[<-e,hg2]))]at hcc
  exact h.nl g hg cur e' fz hcc
theorem zya.other (h:zya w e B v q) {p:Addr} {x:Value} (hp:p.block≠(base v).block) (hc:w.cell? p=some x) (hx:∀z,x≠ .int .u32 z) (u:Value):zya (w.setCell p u) e B v q:=by
 obtain⟨xs,h1,h2⟩:=h
 refine⟨xs,h1.other hp u,fun j hj=> ?_⟩
 obtain⟨a,b,e1,e2,e3,e4,e5⟩:=h2 j hj
 exact⟨a,b,e1,e2,e3,⟨e4.v.over hc hx u,e4.2⟩,⟨e5.v.over hc hx u,e5.2⟩⟩
theorem zya.c3 (h:zya w e B v q) {b:Nat} {s t:Bool} {x y x' y':Value} (hC:C3 w b (.bool s) x y) (hb:b≠(base v).block) (hx:∀z,x≠ .int .u32 z) (hy:∀z,y≠ .int .u32 z) (hx':∀z,x'≠ .int .u32 z):
 zya (((w.setCell ⟨b,0,none⟩ (.bool t)).setCell ⟨b,1,none⟩ x').setCell ⟨b,2,none⟩ y') e B v q:=by
 have h1:=h.other (p:=⟨b,0,none⟩) hb hC.c0 (fun z=>by simp) (.bool t)
 have c1:(w.setCell ⟨b,0,none⟩ (.bool t)).cell? ⟨b,1,none⟩=some x:=by rw[World.cell?_setCell_other _ _ _ _ (by intro e;cases e)];exact hC.c1
 have h2:=h1.other (p:=⟨b,1,none⟩) hb c1 hx x'
 have c2:((w.setCell ⟨b,0,none⟩ (.bool t)).setCell ⟨b,1,none⟩ x').cell? ⟨b,2,none⟩=some y:=by rw[World.cell?_setCell_other _ _ _ _ (by intro e;cases e),World.cell?_setCell_other _ _ _ _ (by intro e;cases e)];exact hC.c2
 exact h2.other (p:=⟨b,2,none⟩) hb c2 hy y'
theorem C3.c3 {b b':Nat} {v0 v1 v2:Value} (h:C3 w b v0 v1 v2) (hb:b'≠b) (x y z:Value):C3 (((w.setCell ⟨b',0,none⟩ x).setCell ⟨b',1,none⟩ y).setCell ⟨b',2,none⟩ z) b v0 v1 v2:=
 ((h.other ⟨b',0,none⟩ x hb).other ⟨b',1,none⟩ y hb).other ⟨b',2,none⟩ z hb
end
section
variable {w w':World} {B S n:Nat} {vt r:Value} {x:Nat->Rat}
end
structure ztv (w:World) (B S:Nat) (vt:Value) (rs:List Value) (n m:Nat) (A:Mx):Prop where
 own:zlc w 25 B 1 vt rs.length rs
 rl:rs.length=n
 np:0<n
 mp:0<m
 row:∀ (i:Nat) (h:i<rs.length),zya w 38 B rs[i] (zib m (A i))
 ap:∀ (i j:Nat) (hi:i<rs.length) (hj:j<rs.length),i≠j->rs[i].ownBlock≠rs[j].ownBlock
 bt:(base vt).block<S
 br:∀ (i:Nat) (h:i<rs.length),(base rs[i]).block<S
 sz:S<=w.heap.size
section
variable {w w':World} {B S n m:Nat} {vt:Value} {rs:List Value} {A:Mx}
theorem ztv.below (h:ztv w B S vt rs n m A) (hb:Below w.heap.size w w'):ztv w' B S vt rs n m A:=
 ⟨h.own.moves (zhb.below (B:=B) hb) (zLR _),h.rl,h.np,h.mp,fun i hi=>(h.row i hi).moves (zhb.below (B:=B) hb) (zLR _),h.ap,h.bt,h.br,zLT h.sz hb.size⟩
theorem ztv.congr {A':Mx} (h:ztv w B S vt rs n m A) (hA:∀i j,i<n->j<m->A i j=A' i j):ztv w B S vt rs n m A':=
 ⟨h.own,h.rl,h.np,h.mp,fun i hi=>by rw[<-zdf (fun j hj=>hA i j (by rw[<-h.rl];exact hi) hj)];exact h.row i hi,h.ap,h.bt,h.br,h.sz⟩
theorem ztv.elem (h:ztv w B S vt rs n m A) {i j:Nat} (hi:i<rs.length) (hj:j<m):
 ∃a b,w.cell? (ptr rs[i] (j*3))=some (.bool (decide (A i j<0)))/\w.cell? (ptr rs[i] (j*3+1))=some a/\w.cell? (ptr rs[i] (j*3+2))=some b/\zjb w a (A i j).num.natAbs/\zjb w b (A i j).den:=by
 obtain⟨a,b,h1,h2,h3,h4,h5⟩:=(h.row i hi).fracs.at' j (by rw[zea];exact hj)
 rw[ztb]at h1 h4 h5
 exact⟨a,b,h1,h2,h3,h4,h5⟩
theorem ztv.c3 (h:ztv w B S vt rs n m A) {b:Nat} {s t:Bool} {u y u' y':Value} (hC:C3 w b (.bool s) u y) (hb:S<=b) (hx:∀z,u≠ .int .u32 z) (hy:∀z,y≠ .int .u32 z) (hx':∀z,u'≠ .int .u32 z):
 ztv (((w.setCell ⟨b,0,none⟩ (.bool t)).setCell ⟨b,1,none⟩ u').setCell ⟨b,2,none⟩ y') B S vt rs n m A:=by
 have ht:=h.bt
 exact⟨((h.own.other (p:=⟨b,0,none⟩) (show b≠_ by omega) _).other (p:=⟨b,1,none⟩) (show b≠_ by omega) _).other (p:=⟨b,2,none⟩) (show b≠_ by omega) _,h.rl,h.np,h.mp,
  fun i hi=>(h.row i hi).c3 hC (by have:=h.br i hi;omega) hx hy hx',h.ap,h.bt,h.br,by simpa [World.setCell]using h.sz⟩
theorem ztv.bsz (h:ztv w B S vt rs n m A):B<=w.heap.size:=by
 obtain⟨g,_,_,hB,hg,_⟩:=h.own.blk (by rw[h.rl];exact h.np)
 omega
theorem ztv.put (h:ztv w B S vt rs n m A) {i j:Nat} (hi:i<rs.length) (hj:j<m) {x y z:Value} {r:Rat} (hf:zqa w (.agg #[x,y,z]) r):
 ztv (((w.setCell (ptr rs[i] (j*3)) x).setCell (ptr rs[i] (j*3+1)) y).setCell (ptr rs[i] (j*3+2)) z) B S vt rs n m (upd A i j r)/\
  w.grownBy (((w.setCell (ptr rs[i] (j*3)) x).setCell (ptr rs[i] (j*3+1)) y).setCell (ptr rs[i] (j*3+2)) z) rs[i].ownBlock/\Below B w (((w.setCell (ptr rs[i] (j*3)) x).setCell (ptr rs[i] (j*3+1)) y).setCell (ptr rs[i] (j*3+2)) z):=by
 have hbs:=h.bsz
 obtain⟨own,rl,np,mp,row,ap,bt,br,sz⟩:=h
 have hr:=row i hi
 obtain⟨hp,gg⟩:=hr.put (i:=j) (by rw[zea];exact hj) hf
 have hnl:=hr.noLimb
 obtain⟨ys,y1,y2⟩:=id hr
 refine⟨⟨own.grown gg (own.kinds y1 (by decide)),rl,np,mp,fun k hk=> ?_,ap,bt,br,by simpa [World.setCell]using sz⟩,gg,zna gg hbs (fun k hk=>(hr.block k hk).1)⟩
 by_cases hki:k=i
 ·subst hki
  rw[rowL_set]at hp
  have e:zib m (upd A k j r k)=zib m (fun b=>if b=j then r else A k b):=zdf fun b _=>by
   unfold upd
   by_cases hb:b=j
   ·rw[if_pos ⟨rfl,hb⟩,if_pos hb]
   ·rw[if_neg (fun h=>hb h.2),if_neg hb]
  rw[e];exact hp
 ·have e:zib m (upd A i j r k)=zib m (A k):=zdf fun b _=>by unfold upd;rw[if_neg (fun h=>hki h.1)]
  rw[e]
  exact(row k hk).grown gg hnl (Or.inr (ap k i hk hi hki))
theorem ztv.swap (h:ztv w B S vt rs n m A) {i j:Nat} (hi:i<rs.length) (hj:j<rs.length) (hij:i≠j):
 ztv ((w.setCell (ptr vt i) rs[j]).setCell (ptr vt j) rs[i]) B S vt ((rs.set i rs[j]).set j rs[i]) n m (swp A i j)/\
  w.grownBy ((w.setCell (ptr vt i) rs[j]).setCell (ptr vt j) rs[i]) vt.ownBlock/\zlb w vt/\Below B w ((w.setCell (ptr vt i) rs[j]).setCell (ptr vt j) rs[i]):=by
 have hbs:=h.bsz
 obtain⟨own,rl,np,mp,row,ap,bt,br,sz⟩:=h
 have hn:∀k (hk:k<rs.length) z,rs[k]≠ .int .u32 z:=fun k hk z=>by
  obtain⟨a1,a2,a3,e1,_⟩:=(row k hk).sl
  rw[e1];simp
 obtain⟨s1,g1⟩:=own.set1 i hi rs[j] (hn j hj)
 obtain⟨s2,g2⟩:=s1.set1 j (by rw[List.length_set];exact hj) rs[i] (hn i hi)
 have gg:=zle g1 g2
 have ge:∀k (hk:k<((rs.set i rs[j]).set j rs[i]).length),∃k',∃hk':k'<rs.length,((rs.set i rs[j]).set j rs[i])[k]=rs[k']/\swp A i j k=A k'/\(k'=if k=j then i else if k=i then j else k):=fun k hk=>by
  have hk0:k<rs.length:=by simpa using hk
  unfold swp
  by_cases e1:k=j
  ·subst e1
   exact⟨i,hi,by rw[List.getElem_set_self],by rw[if_neg (fun e=>hij e.symm),if_pos rfl],by rw[if_pos rfl]⟩
  ·by_cases e2:k=i
   ·subst e2
    exact⟨j,hj,by rw[List.getElem_set_ne (fun e=>e1 e.symm),List.getElem_set_self],by rw[if_pos rfl],by rw[if_neg e1,if_pos rfl]⟩
   ·exact⟨k,hk0,by rw[List.getElem_set_ne (fun e=>e1 e.symm),List.getElem_set_ne (fun e=>e2 e.symm)],by rw[if_neg e2,if_neg e1],by rw[if_neg e1,if_neg e2]⟩
 refine⟨⟨?_,by simp[rl],np,mp,fun k hk=> ?_,fun k l hk hl hkl=> ?_,bt,fun k hk=> ?_,by simpa [World.setCell]using sz⟩,gg,own.nl,zna gg hbs (fun k hk=>(own.block k hk).1)⟩
 ·rw[List.length_set,List.length_set];exact s2
 ·obtain⟨k',hk',e1,e2,_⟩:=ge k hk
  obtain⟨ys,y1,y2⟩:=id (row k' hk')
  rw[e1,e2]
  exact(row k' hk').grown gg own.nl (y1.kinds own (by decide))
 ·obtain⟨k',hk',e1,_,f1⟩:=ge k hk
  obtain⟨l',hl',e2,_,f2⟩:=ge l hl
  rw[e1,e2]
  refine ap k' l' hk' hl' ?_
  rw[f1,f2]
  split<;>split<;>(try split)<;>(try split)<;>omega
 ·obtain⟨k',hk',e1,_,_⟩:=ge k hk
  rw[e1];exact br k' hk'
end
structure zrv (w:World) (B S b7:Nat) (vt:Value) (rs:List Value) (n m:Nat) (A:Mx) (t':Bool) (a1 a2:Option Addr) (l1 k1 l2 k2:Nat) (q:Rat) (wr:World):Prop where
 c7:C3 wr b7 (.bool t') (.slice a1 l1 k1) (.slice a2 l2 k2)
 f7:zqa wr (.agg #[.bool t', .slice a1 l1 k1, .slice a2 l2 k2]) q
 c5:C3 wr S (.bool false) (.slice none 0 0) (.slice none 0 0)
 t:ztv wr B S vt rs n m A
 b:Below B w wr
 lt:S<b7
 bs:B<=S
section
variable {w w' wr:World} {B S b7 n m:Nat} {vt:Value} {rs:List Value} {A:Mx} {t':Bool} {a1 a2:Option Addr} {l1 k1 l2 k2:Nat} {q:Rat}
theorem zrv.sz (h:zrv w B S b7 vt rs n m A t' a1 a2 l1 k1 l2 k2 q wr):B<=wr.heap.size:=by
 have:=h.bs;have:=h.t.sz;omega
theorem zrv.congr {A':Mx} (h:zrv w B S b7 vt rs n m A t' a1 a2 l1 k1 l2 k2 q wr) (hA:∀i j,i<n->j<m->A i j=A' i j):zrv w B S b7 vt rs n m A' t' a1 a2 l1 k1 l2 k2 q wr:=
 ⟨h.c7,h.f7,h.c5,h.t.congr hA,h.b,h.lt,h.bs⟩
theorem zrv.below (h:zrv w B S b7 vt rs n m A t' a1 a2 l1 k1 l2 k2 q wr) (hb:Below wr.heap.size wr w'):zrv w B S b7 vt rs n m A t' a1 a2 l1 k1 l2 k2 q w':=
 ⟨h.c7.belowS hb,h.f7.below hb,h.c5.belowS hb,h.t.below hb,zfa h.b hb h.sz,h.lt,h.bs⟩
theorem zrv.set7 (h:zrv w B S b7 vt rs n m A t' a1 a2 l1 k1 l2 k2 q wr) {s:Bool} {c1 c2:Option Addr} {m1 j1 m2 j2:Nat} {p:Rat} (hf:zqa wr (.agg #[.bool s, .slice c1 m1 j1, .slice c2 m2 j2]) p):
 zrv w B S b7 vt rs n m A s c1 c2 m1 j1 m2 j2 p (((wr.setCell ⟨b7,0,none⟩ (.bool s)).setCell ⟨b7,1,none⟩ (.slice c1 m1 j1)).setCell ⟨b7,2,none⟩ (.slice c2 m2 j2)):=by
 have hl:=h.lt
 have hs:=h.bs
 exact⟨h.c7.set _ _ _,hf.set3 h.c7 (fun z=>by simp) (fun z=>by simp) _ _ _,h.c5.c3 (by omega) _ _ _,h.t.c3 h.c7 (by omega) (fun z=>by simp) (fun z=>by simp) (fun z=>by simp),zga h.b (by omega) _ _ _,h.lt,h.bs⟩
theorem zrv.put (h:zrv w B S b7 vt rs n m A t' a1 a2 l1 k1 l2 k2 q wr) {i k:Nat} (hi:i<rs.length) (hk:k<m) {a b c:Value} {p:Rat} (hf:zqa wr (.agg #[a,b,c]) p):
 zrv w B S b7 vt rs n m (upd A i k p) t' a1 a2 l1 k1 l2 k2 q (((wr.setCell (ptr rs[i] (k*3)) a).setCell (ptr rs[i] (k*3+1)) b).setCell (ptr rs[i] (k*3+2)) c)/\
  ∀ {b':Nat} {v0 v1 v2:Value} {u:Rat},S<b'->C3 wr b' v0 v1 v2->zqa wr (.agg #[v0,v1,v2]) u->C3 (((wr.setCell (ptr rs[i] (k*3)) a).setCell (ptr rs[i] (k*3+1)) b).setCell (ptr rs[i] (k*3+2)) c) b' v0 v1 v2/\zqa (((wr.setCell (ptr rs[i] (k*3)) a).setCell (ptr rs[i] (k*3+1)) b).setCell (ptr rs[i] (k*3+2)) c) (.agg #[v0,v1,v2]) u:=by
 obtain⟨p1,p2,p3⟩:=h.t.put hi hk hf
 have hr:=h.t.br i hi
 have hl:=h.lt
 have hnl:=(h.t.row i hi).noLimb
 obtain⟨g,hg1,hg2,_⟩:=(h.t.row i hi).blk (by rw[zea];exact h.t.mp)
 have hne:∀b',S<=b'->rs[i].ownBlock≠some b':=fun b' hb' e=>by
  rw[hg1]at e;injection e with e;omega
 exact⟨⟨h.c7.grownB p2 (hne _ (by omega)),h.f7.grown p2 hnl,h.c5.grownB p2 (hne _ (zLR _)),p1,h.b.trans p3,h.lt,h.bs⟩,fun hb' hc' hf'=>⟨hc'.grownB p2 (hne _ (by omega)),hf'.grown p2 hnl⟩⟩
theorem zrv.swap (h:zrv w B S b7 vt rs n m A t' a1 a2 l1 k1 l2 k2 q wr) {i j:Nat} (hi:i<rs.length) (hj:j<rs.length) (hij:i≠j):
 zrv w B S b7 vt ((rs.set i rs[j]).set j rs[i]) n m (swp A i j) t' a1 a2 l1 k1 l2 k2 q ((wr.setCell (ptr vt i) rs[j]).setCell (ptr vt j) rs[i]):=by
 obtain⟨p1,p2,hnl,p3⟩:=h.t.swap hi hj hij
 have hr:=h.t.bt
 have hl:=h.lt
 obtain⟨g,hg1,hg2,_⟩:=h.t.own.blk (by rw[h.t.rl];exact h.t.np)
 have hne:∀b',S<=b'->vt.ownBlock≠some b':=fun b' hb' e=>by
  rw[hg1]at e;injection e with e;omega
 exact⟨h.c7.grownB p2 (hne _ (by omega)),h.f7.grown p2 hnl,h.c5.grownB p2 (hne _ (zLR _)),p1,h.b.trans p3,h.lt,h.bs⟩
end
set_option maxHeartbeats 800000
def RNatO (w0:World) (n:Nat) (e:Ending) (w:World):Prop:=∃r,e= .returned r/\zcc w 142 w0.heap.size r (zla n)/\zda n<=4294967296/\Below w0.heap.size w0 w
theorem RNatO.nat {w0:World} {n:Nat} {e:Ending} {w:World} (h:RNatO w0 n e w):RNat w0 n e w:=by
 obtain⟨r,h1,h2,h3,h4⟩:=h;exact⟨r,h1,⟨h2.nat,h3⟩,h4⟩
theorem zaf (l:List Nat) (j:Nat) (hj:j<l.length):l.getD j 0=l[j]:=by simp[List.getD,hj]
theorem zjk (v:Value) (n:Nat) (w:World) (h:zob w v n):
 Calls Tryz.prog 106 #[v] w (RNatO w n):=by
 obtain⟨l,hl,HE,hll⟩:=h
 have hs:=hl.sl
 have hlen:=hl.len
 have hle:=hs.le
 have hcan:=hl.can hll
 rw[HE]at hcan
 have hce:clen l=zda n:=by rw[zhj hl.lm,HE]
 have hcl:=zsb hl.lm
 rw[HE]at hcl
 have HCE:=zH hce
 clear HE hce
 have HLL:=zH hll
 clear hll
 have hcs:zda n<=scap v:=by omega
 obtain⟨i0,hi,hz0,hz1,hz2⟩:=info_parts Tryz.info102
 have hroom:([]:List Nat).length+(zla n).length<=35184372088832:=by have:=hcan.2;unfold zda at this;simp;omega
 have hA:=zkj (P:=Tryz.prog) 36 142 i0 Tryz.underlying36 hi hz0 hz1 hz2
 have HR:=zH hroom
 have HN:=zH hcan
 clear hroom hcan hi hz0 hz1 hz2
 go_enter Tryz.func106,Tryz.ntmps106
 go_wp2
 go_loop [3] (fun i=>∃k:Nat,k<=l.length/\i= .int .i64 k/\clen (l.take k)=clen l) (fun i=>(intOf i).toNat)
 case atStart=>exact⟨l.length,zLR _,by simp[hlen],by rw[List.take_length]⟩
 case round=>
  obtain⟨k,hk,rfl,hce⟩:=hrel
  have HC:=zH hce;clear hce
  by_cases h1:0<k/\l.getD (k-1) 0=0
  ·obtain⟨h0,hx⟩:=h1
   obtain⟨j,rfl⟩:∃j,k=j+1:=⟨k-1,by omega⟩
   have hj:j<l.length:=by omega
   rw[Nat.add_sub_cancel,zaf _ _ hj]at hx
   have hc:=hl.cell j hj
   have HZ:=zH (zbf l j hj hx)
   rw[hx]at hc
   clear hx
   go_wp2_with fail
   go_round
   case rel=>exact⟨j,by omega,rfl,by rw[<-HC.out,HZ.out]⟩
   case measure=>simp[intOf]
  ·have e:zda n=k:=by
    rw[<-HCE.out,<-HC.out]
    by_cases h0:0<k
    ·obtain⟨j,rfl⟩:∃j,k=j+1:=⟨k-1,by omega⟩
     have hj:j<l.length:=by omega
     exact zki l j hj (fun hx=>h1 ⟨h0,by rw[Nat.add_sub_cancel,zaf _ _ hj,hx]⟩)
    ·obtain rfl:k=0:=by omega
     rfl
   rw[e]at HN hcs hcl
   have hc:0<k->∃x:Nat,w.cell? (ptr v (k-1))=some (.int .u32 x)/\(((x:Nat):Int)==0)=false:=fun h0=>by
    have hj:k-1<l.length:=by omega
    refine⟨_,hl.cell (k-1) hj,?_⟩
    have :l[k-1]≠0:=fun hx=>h1 ⟨h0,by rw[zaf _ _ hj,hx]⟩
    have :((l[k-1]:Nat):Int)≠0:=by omega
    simpa using this
   clear h1 e
   rcases Nat.eq_zero_or_pos k with h0 | h0
   ·clear hc
    subst h0
    go_wp2_with (at_builtin;refine hA w rfl _ _ rfl w.heap.size _ [] rfl (zcc.nil _ _ _) _ rfl (zla n) HN.out.1 HR.out (zLR _) ?_;intro v' w1 hown _ hbel)
    go_ret
    exact⟨v',rfl,by simpa using hown,HN.out.2,hbel⟩
   ·obtain⟨x,hx,hx3⟩:=hc h0
    clear hc
    go_wp2_with (at_builtin;refine hA w rfl _ _ rfl w.heap.size _ [] rfl (zcc.nil _ _ _) _ rfl (zla n) HN.out.1 HR.out (zLR _) ?_;intro v' w1 hown _ hbel)
    go_ret
    exact⟨v',rfl,by simpa using hown,HN.out.2,hbel⟩
theorem zra (v:Value) (n:Nat) (w:World) (h:zob w v n):
 Calls Tryz.prog 106 #[v] w (RNat w n):=(zjk v n w h).mono fun _ _ h=>h.nat
theorem zkd (n:Nat) (hn:n<18446744073709551616) (w:World):
 Calls Tryz.prog 72 #[.int .u64 n] w (RNat w n):=by
 have HN:=zal w 142 (n%4294967296) (n/4294967296) (by omega) (by omega)
 rw[show((n%4294967296:Nat):Int)=(n:Int)%4294967296 from by omega,show((n/4294967296:Nat):Int)=(n:Int)/4294967296 from by omega]at HN
 have hv:val [n%4294967296,n/4294967296]=n:=by simp[val];omega
 have HL:=HN.natN (by simp)
 rw[hv]at HL
 have HT:=zH (zra _ _ _ HL)
 have HB:=zH ((Below.refl w.heap.size w).alloc (zLR _) (.cells #[.int .u32 ((n:Int)%4294967296), .int .u32 ((n:Int)/4294967296)] 142))
 clear HN hv HL
 go_enter Tryz.func72,Tryz.ntmps72
 go_wp2_with (go_at_call 106;refine HT.out.mono ?_;rintro e w1 ⟨r,rfl,hr,hb⟩)
 go_ret
 exact⟨_,rfl,hr,HB.out.trans (hb.mono HB.out.size)⟩
theorem zti (v:Value) (n:Nat) (w:World) (h:zob w v n):
 Calls Tryz.prog 152 #[v] w fun e w'=>e= .returned (.bool (decide (512<zda n)))/\Below w.heap.size w w':=by
 go_enter Tryz.func152,Tryz.ntmps152
 go_wp2_with (go_at_call 106;refine(zra v n _ h).mono ?_;rintro e w1 ⟨r,rfl,hr,hb⟩;have h1:=hr.1.sl;have h2:slen r=zda n:=hr.1.len)
 go_ret
 exact⟨by congr 2;simp;omega,hb⟩
theorem zyc (v:Value) (n:Nat) (w:World) (h:zob w v n) (hn:zda n<=512):
 Calls Tryz.prog 152 #[v] w fun e w'=>e= .returned (.bool false)/\Below w.heap.size w w':=
 (zti v n w h).mono fun e w' ⟨h1,h2⟩=>⟨by rw[h1,decide_eq_false (by omega)],h2⟩
theorem zee (va vb:Value) (m n:Nat) (w:World) (ha:zob w va m) (hb:zob w vb n):
 Calls Tryz.prog 77 #[va,vb] w fun e w'=>e= .returned (.int .i64 (zfj m n))/\Below w.heap.size w w':=by
 go_enter Tryz.func77,Tryz.ntmps77
 go_wp2_with (go_at_call 106;first
  |((with_reducible refine(zra va m _ ha).mono ?_);rintro e w1 ⟨ra,rfl,hra,hb1⟩)
  |((with_reducible refine(zra vb n _ (hb.below hb1)).mono ?_);rintro e w2 ⟨rb,rfl,hrb,hb2⟩
    have h1:=(hra.below hb2).1.sl
    have h2:slen ra=zda m:=(hra.below hb2).1.len
    have h3:=hrb.1.sl
    have h4:slen rb=zda n:=hrb.1.len
    have h5:zda m<=4294967296:=hra.2))
 ·go_ret
  exact⟨by rw[zkg (zug (by assumption))];rfl,hb1.trans (hb2.mono hb1.size)⟩
 ·have hne:((zda m:Nat):Int)≠zda n:=by simpa using ‹((zda m:Int) != (zda n:Int))=true›
  have hlt:¬zda m<zda n:=by assumption
  go_ret
  exact⟨by rw[zul (zug (by omega))];rfl,hb1.trans (hb2.mono hb1.size)⟩
 ·have he:zda m=zda n:=by
   have :((zda m:Nat):Int)=zda n:=by simpa using ‹((zda m:Int) != (zda n:Int))=false›
   omega
  have HB:=zH (hb1.trans (hb2.mono hb1.size))
  have ca:=(hra.below hb2).1.cell
  have cb:=hrb.1.cell
  have hln:=hrb.2
  clear ha hb hb1 hb2 hra hrb
  have HE:=zH he
  rw[<-he]at hln
  clear he
  go_loopw [5] (fun i wr=>∃k q:Nat,k<=zda m/\i= .int .i64 ((k:Int)-1)/\(zla m).drop k=(zla n).drop k/\wr=w2.drewN q) (fun i _=>(intOf i+1).toNat)
  case atStart=>exact⟨zda m,0,zLR _,by simp,by rw[List.drop_of_length_le (show zda m<=zda m from zLR _),List.drop_of_length_le (show zda n<=zda m by have:=HE.out;omega)],rfl⟩
  case round=>
   obtain⟨k,q,hk,rfl,hd,rfl⟩:=hrel
   have HD:=zH hd
   clear hd
   by_cases hk0:0<k
   ·obtain⟨j,rfl⟩:∃j,k=j+1:=⟨k-1,by omega⟩
    have hj1:j<zda m:=by omega
    have hj2:j<zda n:=by have:=HE.out;omega
    have h7:=ca j hj1
    have h8:=cb j hj2
    have hlt:=zde (zrb m) j hj1 hj2 HD.out
    have hgt:=zde (zrb n) j hj2 hj1 HD.out.symm
    have heq:=zvm j hj1 hj2 HD.out
    rw[zha,zha]at hlt hgt
    clear ca cb HD
    generalize (zla m)[j]'hj1=x at *
    generalize (zla n)[j]'hj2=y at *
    have HL:=zH hlt
    have HG:=zH hgt
    have HQ:=zH heq
    clear hlt hgt heq
    by_cases hxy:x<y
    ·go_wp2
     go_quiet (fail)
     go_wp2
     go_ret
     exact⟨by rw[zkg (HL.out hxy)];rfl,by first | exact HB.out.trans ((zka _ _).mono HB.out.size) | (simp only[World.drewN_drewN];exact HB.out.trans ((zka _ _).mono HB.out.size))⟩
    ·by_cases hyx:y<x
     ·go_wp2
      go_quiet (fail)
      go_wp2
      go_quiet (fail)
      go_wp2
      go_ret
      exact⟨by rw[zul (HG.out hyx)];rfl,by first | exact HB.out.trans ((zka _ _).mono HB.out.size) | (simp only[World.drewN_drewN];exact HB.out.trans ((zka _ _).mono HB.out.size))⟩
     ·go_wp2
      go_quiet (fail)
      go_wp2
      go_quiet (fail)
      go_wp2
      go_roundw
      case rel=>exact⟨j,_,by omega,by go_num,HQ.out (by omega),by first | rfl | (simp only[World.drewN_drewN];rfl)⟩
      case measure=>simp[intOf]
   ·obtain rfl:k=0:=by omega
    have hmn:m=n:=zhg (by simpa using HD.out)
    have HM:=zH hmn
    clear hmn
    go_wp2
    go_ret
    exact⟨by rw[cmpN_eq HM.out];rfl,HB.out.trans ((zka _ _).mono HB.out.size)⟩
set_option maxHeartbeats 1000000
theorem zmf (l:List Nat) (k:Nat):val (l.take (k+1))=val (l.take k)+pw k*l.getD k 0:=by
 by_cases h:k<l.length
 ·rw[zia l k h,zaf l k h]
 ·rw[zza l (k+1) (by omega),zza l k (by omega)]
  have :l.getD k 0=0:=by simp[List.getD,List.getElem?_eq_none (Nat.le_of_not_lt h)]
  rw[this,Nat.mul_zero,Nat.add_zero]
theorem zmh (o:List Nat) (z:Nat):val (o++ [z])=val o+pw o.length*z:=by rw[zac];simp[val]
theorem zwh {o a b:List Nat} {k c x y:Nat} (ho:o.length=k) (ha:val (a.take (k+1))=val (a.take k)+pw k*x) (hb:val (b.take (k+1))=val (b.take k)+pw k*y)
 (hv:val o+pw k*c=val (a.take k)+val (b.take k)):
 val (o++ [(c+x+y)%4294967296])+pw (k+1)*((c+x+y)/4294967296)=val (a.take (k+1))+val (b.take (k+1)):=by
 rw[zmh,ha,hb,zmb,ho]
 have h:(c+x+y)%4294967296+4294967296*((c+x+y)/4294967296)=c+x+y:=by omega
 generalize (c+x+y)%4294967296=z at *
 generalize (c+x+y)/4294967296=d at *
 grind
theorem plus_any (va vb:Value) (a b:List Nat) (w:World) (ha:zfc w va a) (hb:zfc w vb b) (hla:a.length<=65536) (hlb:b.length<=65536):
 Calls Tryz.prog 153 #[va,vb] w (RNat w (val a+val b)):=by
 obtain⟨i0,hi,hz0,hz1,hz2⟩:=info_parts Tryz.info102
 have hA1:=zuf (P:=Tryz.prog) 36 142 i0 Tryz.underlying36 hi hz0 hz1 hz2
 clear hi hz0 hz1 hz2
 have sa:=ha.sl
 have sb:=hb.sl
 have la:=ha.len
 have lb:=hb.len
 go_enter Tryz.func153,Tryz.ntmps153
 go_wp2_with fail
 go_loopw [5,6,7] (fun u5 u6 u7 wr=>∃ (k c:Nat) (o:List Nat),k<=65537/\(c=0\/k<=a.length\/k<=b.length)/\u7= .int .i64 k/\u6= .int .u64 c/\c<=1/\zcc wr 142 w.heap.size u5 o/\o.length=k/\
  val o+pw k*c=val (a.take k)+val (b.take k)/\Below w.heap.size w wr) (fun _ u6 u7 _=>2*(a.length+b.length+1- (intOf u7).toNat)+(intOf u6).toNat)
 case atStart=>exact⟨0,0,[],by omega,Or.inl rfl,rfl,rfl,by omega,zcc.nil _ _ _,rfl,by simp[val],Below.refl _ _⟩
 case round=>
  obtain⟨k,c,o,hkb,hk,rfl,rfl,hc,hownr,hol,hval,hbr⟩:=hrel
  have HOL:=zH hol
  have HV:=zH hval
  have HK:=zH hk
  have HO:Hid (o.length+1<=4294967296):=zH (by omega)
  clear hol hval hk
  by_cases h1:k<a.length
  ·have hx:=(ha.below hbr).cell k h1
   have hx1:=ha.lt k h1
   have HX:=zH (zia a k h1)
   generalize a[k]=x at *
   have HK1:Hid ((c+x+0)/4294967296=0\/k+1<=a.length\/k+1<=b.length):=zH (by omega)
   by_cases h2:k<b.length
   ·have hy:=(hb.below hbr).cell k h2
    have hy1:=hb.lt k h2
    have HY:=zH (zia b k h2)
    generalize b[k]=y at *
    have HS:=zH (zwh HOL.out HX.out HY.out HV.out)
    have HK1:Hid ((c+x+y)/4294967296=0\/k+1<=a.length\/k+1<=b.length):=zH (by omega)
    go_wp2_with (at_builtin;refine hA1 wr rfl _ _ rfl w.heap.size _ u5 o rfl (by exact hownr) _ ((c+x+y)%4294967296) (by omega) (by omega) rfl (zLT HO.out (by decide)) hbr.size ?_;intro v' w1 hown1 hbel1)
    go_roundw
    case rel=>exact⟨k+1,(c+x+y)/4294967296,_,by have:=HK.out;omega,HK1.out,by go_num,by go_num,by omega,hown1,by simp[HOL.out],HS.out,hbr.trans (hbel1.mono (zLR _))⟩
    case measure=>simp[intOf];omega
   ·have HS:=zH (zwh (y:=0) HOL.out HX.out (by rw[zza b (k+1) (by omega),zza b k (by omega)];simp) HV.out)
    go_wp2_with (at_builtin;refine hA1 wr rfl _ _ rfl w.heap.size _ u5 o rfl (by exact hownr) _ ((c+x+0)%4294967296) (by omega) (by omega) rfl (zLT HO.out (by decide)) hbr.size ?_;intro v' w1 hown1 hbel1)
    go_roundw
    case rel=>exact⟨k+1,(c+x+0)/4294967296,_,by have:=HK.out;omega,HK1.out,by go_num,by go_num,by omega,hown1,by simp[HOL.out],HS.out,hbr.trans (hbel1.mono (zLR _))⟩
    case measure=>simp[intOf];omega
  ·by_cases h2:k<b.length
   ·have hy:=(hb.below hbr).cell k h2
    have hy1:=hb.lt k h2
    have HY:=zH (zia b k h2)
    generalize b[k]=y at *
    have HS:=zH (zwh (x:=0) HOL.out (by rw[zza a (k+1) (by omega),zza a k (by omega)];simp) HY.out HV.out)
    have HK1:Hid ((c+0+y)/4294967296=0\/k+1<=a.length\/k+1<=b.length):=zH (by omega)
    go_wp2_with (at_builtin;refine hA1 wr rfl _ _ rfl w.heap.size _ u5 o rfl (by exact hownr) _ ((c+0+y)%4294967296) (by omega) (by omega) rfl (zLT HO.out (by decide)) hbr.size ?_;intro v' w1 hown1 hbel1)
    go_roundw
    case rel=>exact⟨k+1,(c+0+y)/4294967296,_,by have:=HK.out;omega,HK1.out,by go_num,by go_num,by omega,hown1,by simp[HOL.out],HS.out,hbr.trans (hbel1.mono (zLR _))⟩
    case measure=>simp[intOf];omega
   ·have e1:=zza a k (by omega)
    have e2:=zza b k (by omega)
    have f1:=zza a (k+1) (by omega)
    have f2:=zza b (k+1) (by omega)
    by_cases hc0:0<c
    ·obtain rfl:c=1:=by omega
     have HS:=zH (zwh (x:=0) (y:=0) HOL.out (by rw[e1,f1];simp) (by rw[e2,f2];simp) HV.out)
     have HK1:Hid ((1+0+0)/4294967296=0\/k+1<=a.length\/k+1<=b.length):=zH (Or.inl rfl)
     clear e1 e2 f1 f2
     go_wp2_with (at_builtin;refine hA1 wr rfl _ _ rfl w.heap.size _ u5 o rfl (by exact hownr) _ ((1+0+0)%4294967296) (by omega) (by omega) rfl (zLT HO.out (by decide)) hbr.size ?_;intro v' w1 hown1 hbel1)
     go_roundw
     case rel=>exact⟨k+1,(1+0+0)/4294967296,_,by have:=HK.out;omega,HK1.out,by go_num,by go_num,by omega,hown1,by simp[HOL.out],HS.out,hbr.trans (hbel1.mono (zLR _))⟩
     case measure=>simp[intOf];omega
    ·obtain rfl:c=0:=by omega
     have hv:val o=val a+val b:=by have:=HV.out;rw[e1,e2]at this;omega
     have HT:=zra _ _ wr (hownr.nat.natN (by have:=HO.out;omega))
     rw[hv]at HT
     have HT2:=zH HT
     clear HT hv e1 e2 f1 f2
     go_wp2_with (go_at_call 106;refine HT2.out.mono ?_;rintro e w1 ⟨r,rfl,hr,hb⟩)
     go_ret
     exact⟨r,rfl,hr,hbr.trans (hb.mono hbr.size)⟩
theorem ztg {o a b:List Nat} {k bo x y z bo':Nat} (ho:o.length=k) (ha:val (a.take (k+1))=val (a.take k)+pw k*x) (hb:val (b.take (k+1))=val (b.take k)+pw k*y)
 (hz:z+bo+y=x+4294967296*bo') (hv:val o+val (b.take k)=val (a.take k)+pw k*bo):
 val (o++ [z])+val (b.take (k+1))=val (a.take (k+1))+pw (k+1)*bo':=by
 rw[zmh,ha,hb,zmb,ho]
 grind
theorem minus_end {o a b:List Nat} {bo:Nat} (hb:val b<=val a) (ho:Lm o) (hol:o.length=a.length) (hbo:bo<=1) (hv:val o+val b=val a+pw a.length*bo):val o=val a-val b:=by
 have h1:=zoe ho
 rw[hol]at h1
 rcases Nat.eq_zero_or_pos bo with h | h
 ·subst h;omega
 ·obtain rfl:bo=1:=by omega
  omega
theorem zdl (va vb:Value) (a b:List Nat) (w:World) (ha:zfc w va a) (hb:zfc w vb b) (hla:a.length<=65536) (hlb:b.length<=a.length) (hba:val b<=val a):
 Calls Tryz.prog 155 #[va,vb] w (RNatO w (val a-val b)):=by
 obtain⟨i0,hi,hz0,hz1,hz2⟩:=info_parts Tryz.info102
 have hA1:=zuf (P:=Tryz.prog) 36 142 i0 Tryz.underlying36 hi hz0 hz1 hz2
 clear hi hz0 hz1 hz2
 have HBA:=zH hba
 clear hba
 have sa:=ha.sl
 have sb:=hb.sl
 have la:=ha.len
 have lb:=hb.len
 go_enter Tryz.func155,Tryz.ntmps155
 go_wp2_with fail
 go_loopw [5,6,7] (fun u5 u6 u7 wr=>∃ (k bo:Nat) (o:List Nat),k<=a.length/\u7= .int .i64 k/\u6= .int .u64 bo/\bo<=1/\zcc wr 142 w.heap.size u5 o/\o.length=k/\
  val o+val (b.take k)=val (a.take k)+pw k*bo/\Below w.heap.size w wr) (fun _ _ u7 _=>a.length- (intOf u7).toNat)
 case atStart=>exact⟨0,0,[],by omega,rfl,rfl,by omega,zcc.nil _ _ _,rfl,by simp[val],Below.refl _ _⟩
 case round=>
  obtain⟨k,bo,o,hk,rfl,rfl,hc,hownr,hol,hval,hbr⟩:=hrel
  have HOL:=zH hol
  have HV:=zH hval
  have HO:Hid (o.length+1<=4294967296):=zH (by omega)
  clear hol hval
  by_cases h1:k<a.length
  ·have hx:=(ha.below hbr).cell k h1
   have hx1:=ha.lt k h1
   have HX:=zH (zia a k h1)
   generalize a[k]=x at *
   by_cases h2:k<b.length
   ·have hy:=(hb.below hbr).cell k h2
    have hy1:=hb.lt k h2
    have HY:=zH (zia b k h2)
    generalize b[k]=y at *
    by_cases h3:x<bo+y
    ·have HS:=zH (ztg (z:=x+4294967296- (bo+y)) (bo':=1) HOL.out HX.out HY.out (by omega) HV.out)
     go_wp2_with (at_builtin;refine hA1 wr rfl _ _ rfl w.heap.size _ u5 o rfl (by exact hownr) _ (x+4294967296- (bo+y)) (by omega) (by omega) rfl (zLT HO.out (by decide)) hbr.size ?_;intro v' w1 hown1 hbel1)
     go_roundw
     case rel=>exact⟨k+1,1,_,by omega,by go_num,by go_num,by omega,hown1,by simp[HOL.out],HS.out,hbr.trans (hbel1.mono (zLR _))⟩
     case measure=>simp[intOf];omega
    ·have HS:=zH (ztg (z:=x- (bo+y)) (bo':=0) HOL.out HX.out HY.out (by omega) HV.out)
     go_wp2_with (at_builtin;refine hA1 wr rfl _ _ rfl w.heap.size _ u5 o rfl (by exact hownr) _ (x- (bo+y)) (by omega) (by omega) rfl (zLT HO.out (by decide)) hbr.size ?_;intro v' w1 hown1 hbel1)
     go_roundw
     case rel=>exact⟨k+1,0,_,by omega,by go_num,by go_num,by omega,hown1,by simp[HOL.out],HS.out,hbr.trans (hbel1.mono (zLR _))⟩
     case measure=>simp[intOf];omega
   ·have HY:Hid (val (b.take (k+1))=val (b.take k)+pw k*0):=zH (by rw[zza b (k+1) (by omega),zza b k (by omega)];simp)
    by_cases h3:x<bo+0
    ·have HS:=zH (ztg (z:=x+4294967296- (bo+0)) (bo':=1) HOL.out HX.out HY.out (by omega) HV.out)
     go_wp2_with (at_builtin;refine hA1 wr rfl _ _ rfl w.heap.size _ u5 o rfl (by exact hownr) _ (x+4294967296- (bo+0)) (by omega) (by omega) rfl (zLT HO.out (by decide)) hbr.size ?_;intro v' w1 hown1 hbel1)
     go_roundw
     case rel=>exact⟨k+1,1,_,by omega,by go_num,by go_num,by omega,hown1,by simp[HOL.out],HS.out,hbr.trans (hbel1.mono (zLR _))⟩
     case measure=>simp[intOf];omega
    ·have HS:=zH (ztg (z:=x- (bo+0)) (bo':=0) HOL.out HX.out HY.out (by omega) HV.out)
     go_wp2_with (at_builtin;refine hA1 wr rfl _ _ rfl w.heap.size _ u5 o rfl (by exact hownr) _ (x- (bo+0)) (by omega) (by omega) rfl (zLT HO.out (by decide)) hbr.size ?_;intro v' w1 hown1 hbel1)
     go_roundw
     case rel=>exact⟨k+1,0,_,by omega,by go_num,by go_num,by omega,hown1,by simp[HOL.out],HS.out,hbr.trans (hbel1.mono (zLR _))⟩
     case measure=>simp[intOf];omega
  ·obtain rfl:k=a.length:=by omega
   have hv:val o=val a-val b:=minus_end HBA.out hownr.lm HOL.out hc (by have:=HV.out;rw[zza a a.length (zLR _),zza b a.length (by omega)]at this;exact this)
   have HT:=zjk _ _ wr (hownr.nat.natN (by have:=HO.out;omega))
   rw[hv]at HT
   have HT2:=zH HT
   clear HT hv
   go_wp2_with (go_at_call 106;refine HT2.out.mono ?_;rintro e w1 ⟨r,rfl,hr,hr2,hb⟩)
   go_ret
   exact⟨r,rfl,⟨hr.own.mono hbr.size,hr.lm⟩,hr2,hbr.trans (hb.mono hbr.size)⟩
theorem minus_any (va vb:Value) (a b:List Nat) (w:World) (ha:zfc w va a) (hb:zfc w vb b) (hla:a.length<=65536) (hlb:b.length<=a.length) (hba:val b<=val a):
 Calls Tryz.prog 155 #[va,vb] w (RNat w (val a-val b)):=(zdl va vb a b w ha hb hla hlb hba).mono fun _ _ h=>h.nat
set_option maxHeartbeats 1600000
theorem zcc.drawn {w:World} {e:TypeId} {B:Nat} {v:Value} {o:List Nat} (h:zcc w e B v o) (k:Nat):zcc (w.drewN k) e B v o:=h.below (zka w k)
theorem zim (c x y q:Nat):(x:Int)*y+q+c=((x*y+q+c:Nat):Int):=by
 rw[Int.natCast_add,Int.natCast_add,Int.natCast_mul]
theorem zod (va vb:Value) (a b:List Nat) (w:World) (ha:zfc w va a) (hb:zfc w vb b) (hla:a.length<=65536) (hlb:b.length<=65536):
 Calls Tryz.prog 197 #[va,vb] w (RNat w (val a*val b)):=by
 obtain⟨i0,hi,hz0,hz1,hz2⟩:=info_parts Tryz.info102
 have hM:=zmd (P:=Tryz.prog) 36 142 i0 Tryz.underlying36 hi hz0 hz1 hz2
 clear hi hz0 hz1 hz2
 have s1:=ha.sl
 have s2:=hb.sl
 have l1:=ha.len
 have l2:=hb.len
 have hroom:a.length+b.length<=35184372088832:=by omega
 go_enter Tryz.func197,Tryz.ntmps197
 go_wp2_with (refine hM _ rfl _ _ rfl w.heap.size _ (a.length+b.length) rfl rfl rfl hroom (zLR _) ?_;intro v w1 hown hb1 hvb)
 clear hM hroom
 go_loopw [6] (fun u6 wr=>∃ (k:Nat) (o:List Nat),k<=a.length/\u6= .int .i64 k/\zcc wr 142 w.heap.size v o/\o.length=a.length+b.length/\
  val (o.take (k+b.length))=val (a.take k)*val b/\Below w.heap.size w wr) (fun u6 _=>a.length- (intOf u6).toNat)
 case atStart=>exact⟨0,_,zZL _,rfl,hown,by simp,by simp[val,znf],hb1⟩
 case round=>
  obtain⟨k,o,hk,rfl,hownr,hol,hval,hbr⟩:=hrel
  obtain⟨wo,rfl⟩:∃wo:World,wo=wr:=⟨_,rfl⟩
  have HV:=zH hval
  have HOL:=zH hol
  clear hval hol
  by_cases hkp:k<a.length
  ·have HX:=zH (zia a k hkp)
   have hx1:=ha.lt k hkp
   have hca:=fun(wi:World) (h:Below w.heap.size w wi)=>zH ((ha.below h).cell k hkp)
   generalize a[k]=x at *
   go_wp2
   go_loopw [7,8] (fun u7 u8 wi=>∃ (j c:Nat) (o:List Nat),j<=b.length/\u8= .int .i64 j/\u7= .int .u64 c/\c<4294967296/\zcc wi 142 w.heap.size v o/\o.length=a.length+b.length/\
    val (o.take (k+b.length))+pw (k+j)*c=val (a.take k)*val b+pw k*x*val (b.take j)/\Below w.heap.size w wi) (fun _ u8 _=>b.length- (intOf u8).toNat)
   case atStart=>exact⟨0,0,o,zZL _,rfl,rfl,by omega,hownr,HOL.out,by rw[HV.out];simp[val],hbr⟩
   case round=>
    obtain⟨j,c,p,hj,rfl,rfl,hc,hownp,hpl,hvp,hbi⟩:=hrel
    have HP:=zH hvp
    have HPL:=zH hpl
    clear hvp
    have sv:=hownp.nat.sl
    have lv:slen v=a.length+b.length:=by rw[hownp.nat.len,hpl]
    clear hpl
    by_cases hjn:j<b.length
    ·have hkj:k+j<p.length:=by rw[HPL.out];omega
     have hx:=(hca _ hbi).out
     have hy:=(hb.below hbi).cell j hjn
     have hy1:=hb.lt j hjn
     have HY:=zH (zia b j hjn)
     have hfz:=hownp.frozen (k+j) hkj
     have hco:=hownp.nat.cell (k+j) hkj
     have hq1:p[k+j]<4294967296:=hownp.lm _ (zGM _)
     have HST:=fun(z c':Nat)=>zH (mul_step (o:=p) (b:=b) (k:=k) (j:=j) (N:=k+b.length) (R:=val (a.take k)*val b) (c:=c) (x:=x) (z:=z) (c':=c') (by omega) (by have:=HPL.out;omega) HY.out HP.out)
     generalize b[j]=y at *
     generalize hqe:p[k+j]=q at *
     obtain⟨h0',hxy'⟩:=zsg hx1 hy1
     have hT:=(zcl hx1 hy1 hq1 hc).1
     have hset:=hownp.set (k+j) hkj
     have HT:=zH hT
     have HKJ:=zH hkj
     clear hqe hT hkj
     have e1:IntKind.i64.wrap ((k:Int)+j)=(k:Int)+j:=IntWalk.i64_in _ (by omega)
     have e2:((k:Int)+j).toNat=k+j:=by omega
     have e2b:(0:Int)<=(k:Int)+j:=by omega
     have e3:IntKind.u64.wrap ((x:Int)*y)=(x:Int)*y:=by rw[zyb];omega
     have e4:IntKind.u64.wrap ((x:Int)*y+q)=(x:Int)*y+q:=by rw[zyb];omega
     have e5:IntKind.u64.wrap ((x:Int)*y+q+c)=(x:Int)*y+q+c:=by rw[zyb,zim];have:=HT.out;omega
     go_wp2
     go_quiet (fail)
     clear e1 e2 e2b e3 e4 e5 hset hfz hco hx hy h0' hxy'
     have hownd:=hownp.drawn nq
     have hbd:=hbi.trans ((zka wr nq).mono hbi.size)
     have hco:(wr.drewN nq).cell? (ptr v (k+j))=some (.int .u32 (p[k+j]'HKJ.out:Nat)):=hownd.nat.cell (k+j) HKJ.out
     have hfz:=hownd.frozen (k+j) HKJ.out
     have hset:=hownd.set (k+j) HKJ.out
     generalize wr.drewN nq=W at *
     rw[zim]
     have HT2:=HT.out
     generalize x*y+q+c=t at *
     generalize (p[k+j]'HKJ.out)=q0 at *
     have hset2:=hset (t%4294967296) (by omega)
     clear hset
     go_wp2
     go_roundw
     case rel=>
      have e2:((t:Nat):Int)/4294967296=((t/4294967296:Nat):Int):=rfl
      rw[e2]
      exact⟨j+1,t/4294967296,_,by omega,by go_num,rfl,div_lt_32 HT2,hset2.1,by simp[HPL.out],(HST (t%4294967296) (t/4294967296)).out (by omega),hbd.trans hset2.2⟩
     case measure=>simp[intOf];omega
    ·obtain rfl:j=b.length:=by omega
     have hkj:k+b.length<p.length:=by rw[HPL.out];omega
     have hfz:=hownp.frozen (k+b.length) hkj
     have hco:=hownp.nat.cell (k+b.length) hkj
     have hset:=hownp.set (k+b.length) hkj c hc
     have hv2:=mul_end (o:=p) (a:=a) (b:=b) (k:=k) (n:=val b) (N:=k+b.length) (c:=c) (x:=x) hkj HX.out rfl rfl HP.out
     have HV2:=zH hv2
     clear hv2
     generalize p[k+b.length]=q0 at *
     clear hkj
     go_wp2
     go_roundw
     case rel=>exact⟨k+1,_,by omega,by go_num,hset.1,by simp[HPL.out],by rw[show k+1+b.length=k+b.length+1 from by omega];exact HV2.out,hbi.trans hset.2⟩
     case measure=>simp[intOf];omega
  ·obtain rfl:k=a.length:=by omega
   have hv2:val o=val a*val b:=by
    have e:=HV.out
    rw[List.take_of_length_le (by have:=HOL.out;omega),List.take_of_length_le (show a.length<=a.length from zLR _)]at e
    exact e
   have HT:=zra _ _ wo (hownr.nat.natN (by have:=HOL.out;omega))
   rw[hv2]at HT
   have HT2:=zH HT
   clear HT hv2
   go_wp2_with (go_at_call 106;refine HT2.out.mono ?_;rintro e w1 ⟨r,rfl,hr,hb⟩)
   go_ret
   exact⟨r,rfl,hr,hbr.trans (hb.mono hbr.size)⟩
theorem zob.of_eq {w:World} {v:Value} {m n:Nat} (h:zob w v m) (e:m=n):zob w v n:=e▸h
theorem radd_any (va vb:Value) (m n:Nat) (w:World) (ha:zob w va m) (hb:zob w vb n) (hm:zda m<=512) (hn:zda n<=512):
 Calls Tryz.prog 75 #[va,vb] w (zxm w (m+n)):=by
 have HM:=zH hm
 have HN:=zH hn
 have HM2:Hid ((zla m).length<=65536):=zH (zLT hm (by decide))
 have HN2:Hid ((zla n).length<=65536):=zH (zLT hn (by decide))
 clear hm hn
 go_enter Tryz.func75,Tryz.ntmps75
 go_wp2_with (first
  |(go_at_call 152;first
    |((with_reducible refine(zyc va m _ ha HM.out).mono ?_);rintro e wa ⟨rfl,hba⟩)
    |((with_reducible refine(zyc vb n _ (hb.below hba) HN.out).mono ?_);rintro e wb ⟨rfl,hbb⟩;have hbw:=zaa hba hbb;have ha2:=ha.below hbw;have hb2:=hb.below hbw))
  |(go_at_call 106;first
     |((with_reducible refine(zra va m _ ha2).mono ?_);rintro e w1 ⟨ra,rfl,hra,hb1⟩;have hbw1:=zaa hbw hb1)
     |((with_reducible refine(zra vb n _ (hb2.below hb1)).mono ?_);rintro e w2 ⟨rb,rfl,hrb,hb2⟩;have hbw2:=zaa hbw1 hb2;have hra2:=hra.below hb2))
  |(go_at_call 153;(with_reducible refine(plus_any ra rb (zla m) (zla n) _ hra2.v hrb.v HM2.out HN2.out).mono ?_);rw[zha,zha];rintro e w3 ⟨r,rfl,hr,hb3⟩;have hbw3:=zaa hbw2 hb3)
  |(go_at_call 152;(with_reducible refine(zti r (m+n) _ hr.nat).mono ?_);rintro e w4 ⟨rfl,hb4⟩;have hbw4:=zaa hbw3 hb4;have hr4:=hr.below hb4))
 ·go_ret2
  have hbig:¬zda (m+n)<=512:=by have h5:512<zda (m+n):= ‹_›;omega
  exact⟨_,2,rfl,⟨fun h=>absurd h hbig,fun _=>⟨rfl,zjb.nil _⟩⟩,hbw4⟩
 ·go_ret2
  have hbig:¬512<zda (m+n):=by assumption
  exact⟨_,0,rfl,⟨fun _=>⟨rfl,hr4⟩,fun h=>absurd h hbig⟩,hbw4⟩
theorem rmul_any (va vb:Value) (m n:Nat) (w:World) (ha:zob w va m) (hb:zob w vb n) (hm:zda m<=512) (hn:zda n<=512):
 Calls Tryz.prog 151 #[va,vb] w (zxm w (m*n)):=by
 have HM:=zH hm
 have HN:=zH hn
 have HM2:Hid ((zla m).length<=65536):=zH (zLT hm (by decide))
 have HN2:Hid ((zla n).length<=65536):=zH (zLT hn (by decide))
 clear hm hn
 go_enter Tryz.func151,Tryz.ntmps151
 go_wp2_with (first
  |(go_at_call 152;first
    |((with_reducible refine(zyc va m _ ha HM.out).mono ?_);rintro e wa ⟨rfl,hba⟩)
    |((with_reducible refine(zyc vb n _ (hb.below hba) HN.out).mono ?_);rintro e wb ⟨rfl,hbb⟩;have hbw:=zaa hba hbb;have ha2:=ha.below hbw;have hb2:=hb.below hbw))
  |(go_at_call 106;first
     |((with_reducible refine(zra va m _ ha2).mono ?_);rintro e w1 ⟨ra,rfl,hra,hb1⟩;have hbw1:=zaa hbw hb1)
     |((with_reducible refine(zra vb n _ (hb2.below hb1)).mono ?_);rintro e w2 ⟨rb,rfl,hrb,hb2⟩;have hbw2:=zaa hbw1 hb2;have hra2:=hra.below hb2))
  |(go_at_call 197;(with_reducible refine(zod ra rb (zla m) (zla n) _ hra2.v hrb.v HM2.out HN2.out).mono ?_);rw[zha,zha];rintro e w3 ⟨r,rfl,hr,hb3⟩;have hbw3:=zaa hbw2 hb3)
  |(go_at_call 152;(with_reducible refine(zti r (m*n) _ hr.nat).mono ?_);rintro e w4 ⟨rfl,hb4⟩;have hbw4:=zaa hbw3 hb4;have hr4:=hr.below hb4))
 ·go_ret2
  have hbig:¬zda (m*n)<=512:=by have h5:512<zda (m*n):= ‹_›;omega
  exact⟨_,2,rfl,⟨fun h=>absurd h hbig,fun _=>⟨rfl,zjb.nil _⟩⟩,hbw4⟩
 ·go_ret2
  have hbig:¬512<zda (m*n):=by assumption
  exact⟨_,0,rfl,⟨fun _=>⟨rfl,hr4⟩,fun h=>absurd h hbig⟩,hbw4⟩
/-- b is at most a. -/
theorem rsub_le (va vb:Value) (m n:Nat) (w:World) (ha:zob w va m) (hb:zob w vb n) (hm:zda m<=512) (hn:n<=m):
 Calls Tryz.prog 78 #[va,vb] w (RNat0 w (m-n)):=by
 have HM:=zH hm
 have HN:=zH (zLT (zfb hn) hm)
 have HL:=zH hn
 have HM2:Hid ((zla m).length<=65536):=zH (zLT hm (by decide))
 have HN2:Hid ((zla n).length<=(zla m).length):=zH (zfb hn)
 have HL2:Hid (val (zla n)<=val (zla m)):=zH (by rw[zha,zha];exact hn)
 have hc:(zfj m n<0)=False:=by unfold zfj;rw[if_neg (by omega)];split<;>simp
 have hc2:¬zfj m n<0:=by rw[hc];simp
 clear hm hn hc
 generalize hg:zfj m n=g at *
 have HG:=zH hg
 clear hg
 go_enter Tryz.func78,Tryz.ntmps78
 go_wp2_with (first
  |(go_at_call 152;first
    |((with_reducible refine(zyc va m _ ha HM.out).mono ?_);rintro e wa ⟨rfl,hba⟩)
    |((with_reducible refine(zyc vb n _ (hb.below hba) HN.out).mono ?_);rintro e wb ⟨rfl,hbb⟩;have hbw0:=zaa hba hbb;have ha0:=ha.below hbw0;have hb0:=hb.below hbw0))
  |(go_at_call 77;(with_reducible refine(zee va vb m n _ ha0 hb0).mono ?_);rintro e wc ⟨rfl,hbc⟩;rw[HG.out];have hbw:=zaa hbw0 hbc;have ha2:=ha.below hbw;have hb2:=hb.below hbw)
  |(go_at_call 106;first
     |((with_reducible refine(zra va m _ ha2).mono ?_);rintro e w1 ⟨ra,rfl,hra,hb1⟩;have hbw1:=zaa hbw hb1)
     |((with_reducible refine(zra vb n _ (hb2.below hb1)).mono ?_);rintro e w2 ⟨rb,rfl,hrb,hb2⟩;have hbw2:=zaa hbw1 hb2;have hra2:=hra.below hb2))
  |(go_at_call 155;(with_reducible refine(minus_any ra rb (zla m) (zla n) _ hra2.v hrb.v HM2.out HN2.out HL2.out).mono ?_);rw[zha,zha];rintro e w3 ⟨r,rfl,hr,hb3⟩;have hbw3:=zaa hbw2 hb3))
 go_ret2
 exact⟨_,rfl,hr,hbw3⟩
end Go.Proofs.YtlpdkbmmbdfoiaaGreat
