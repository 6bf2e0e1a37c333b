/- Lemmas. -/
import Derived.Test.YtlpdkbmmbdfoiaaGreatELi2
set_option linter.unusedVariables false
set_option linter.unusedSimpArgs false
namespace Go.Proofs.YtlpdkbmmbdfoiaaGreat
set_option maxRecDepth 100000
open Go.RowKit
theorem znd.cells {w:World} {T n m wd rk:Nat} {vR:Value} {rs:List Value} {A:Mx} {d:Rat} (h:znd w T vR rs n m A wd rk d):
 ∃d1 d2 d3 d4 d5 d6,w.cell? ⟨T,0,none⟩=some vR/\w.cell? ⟨T,1,none⟩=some (.int .i64 wd)/\w.cell? ⟨T,2,none⟩=some (.int .i64 rk)/\w.cell? ⟨T,3,none⟩=some (.bool (decide (d<0)))/\
  w.cell? ⟨T,4,none⟩=some (.slice d1 d2 d3)/\w.cell? ⟨T,5,none⟩=some (.slice d4 d5 d6)/\w.cell? ⟨T,6,none⟩=some (.int .i64 0)/\zqa w (.agg #[.bool (decide (d<0)), .slice d1 d2 d3, .slice d4 d5 d6]) d/\
  (∀k,w.frozen? ⟨T,k,none⟩=false):=by
 obtain⟨a,b,h1,h2,h3⟩:=h.box
 obtain⟨d1,d2,d3,rfl,_⟩:=h2.v.sl
 obtain⟨d4,d5,d6,rfl,_⟩:=h3.v.sl
 exact⟨d1,d2,d3,d4,d5,d6,h1.cell 0 rfl,h1.cell 1 rfl,h1.cell 2 rfl,h1.cell 3 rfl,h1.cell 4 rfl,h1.cell 5 rfl,h1.cell 6 rfl,⟨_,_,rfl,h2,h3⟩,fun k=>h1.frozen k⟩
theorem zlc.inj {w:World} {e:TypeId} {B size n:Nat} {v:Value} {xs:List Value} (h:zlc w e B size v n xs) (hx:0<xs.length) {i j:Nat} (hij:i≠j):ptr v i≠ptr v j:=by
 obtain⟨g,_,_,_,_,hp⟩:=h.blk hx
 rw[hp,hp]
 intro h;injection h with h1 h2;exact hij h2
def RPiv (w0:World) (T:Nat) (vR:Value) (n m:Nat) (S:St) (wd k:Nat) (e:Ending) (w:World):Prop:=
 ∃rs',e= .returned (.bool (decide (pvt n k S<n)))/\Below T w0 w/\
  znd w T vR rs' n m (if pvt n k S<n then swp S.A S.r (pvt n k S)else S.A) wd S.r (if pvt n k S<n then(if pvt n k S=S.r then S.d else -S.d)*swp S.A S.r (pvt n k S) S.r k else S.d)
theorem swp_self (A:Mx) (a:Nat):swp A a a=A:=by
 funext i;unfold swp;split
 ·next h=>rw[h]
 ·rfl
theorem swp_comm {A:Mx} {a b:Nat} (h:a≠b):swp A a b=swp A b a:=by
 funext i;unfold swp
 by_cases h1:i=a
 ·subst h1;rw[if_pos rfl,if_neg h,if_pos rfl]
 ·rw[if_neg h1];split
  ·rfl
  ·rfl
theorem zero_sub' (d:Rat):0-d= -d:=by rw[Rat.sub_eq_add_neg,Rat.zero_add]
set_option maxHeartbeats 3200000 in
theorem pivot_lin (T:Nat) (vR:Value) (rs:List Value) (n m:Nat) (A:Mx) (wd rk:Nat) (d:Rat) (k:Nat) (w:World) (h:znd w T vR rs n m A wd rk d)
 (hk:k<m) (hn:n<=1000) (hm:m<=1000) (hr:rk<=n) (hA:∀a b,a<n->b<m->fits (A a b)) (hd:fits d) (hfit:pvt n k ⟨A,rk,d⟩<n->fits (-d)/\fits ((if pvt n k ⟨A,rk,d⟩=rk then d else -d)*swp A rk (pvt n k ⟨A,rk,d⟩) rk k)):
 Calls Tryz.prog 219 #[.pointer (some ⟨T,0,none⟩), .int .i64 k] w (RPiv w T vR n m ⟨A,rk,d⟩ wd k):=by
 have hrl:=h.rl
 have slR:=h.own.sl
 have lnR:slen vR=n:=by rw[h.own.len,hrl]
 have hTw:=h.lt
 have HA:=zH hA
 have HD:=zH hd
 have HFIT:=zH hfit
 have HRL:=zH hrl
 have H0:=zH h
 obtain⟨d1,d2,d3,d4,d5,d6,t0,t1,t2,t3,t4,t5,t6,tf,tz⟩:=h.cells
 clear h hA hd hfit hrl t1 t3 t4 t5 t6 tf tz
 go_enter Tryz.func219,Tryz.ntmps219
 go_wp2_with fail
 clear t0 t2
 go_loopg [5] (n-rk) (fun g u5 wr=>∃ (a:Nat),rk<=a/\a<=n/\g=n-a/\u5= .int .i64 a/\(∀i,rk<=i->i<a->A i k=0)/\znd wr T vR rs n m A wd rk d/\Below T w wr)
 case atStart=>exact⟨rk,zLR _,hr,rfl,rfl,fun i h1 h2=>by omega,H0.out,Below.refl _ _⟩
 case round=>
  obtain⟨a,hra,han,hg,rfl,hz,hT,hbr⟩:=hrel
  obtain⟨w2,hw2⟩:∃w2,w2=wr:=⟨_,rfl⟩
  subst hw2
  clear H0
  obtain⟨d1,d2,d3,d4,d5,d6,t0,t1,t2,t3,t4,t5,t6,tf,tz⟩:=hT.cells
  have HT:=zH hT
  have HBR:=zH hbr
  have HZ:=zH hz
  have HG:=zH hg
  have i1:(0:Int)<=(a:Int):=by omega
  have i3:(0:Int)<=(k:Int):=by omega
  have i4:(k:Int)<(m:Nat):=by omega
  clear hbr hz hg t1 t3 t4 t5 t6 tf tz
  by_cases hlt:a<n
  ·have i2:(a:Int)<(n:Nat):=by omega
   have ha':a<rs.length:=by rw[HRL.out];exact hlt
   have c1:=hT.own.cell a ha'
   obtain⟨ea,eb,g1,g2,g3,g4,g5⟩:=hT.elem ha' hk
   have hra2:=hT.row a ha'
   have slA:=hra2.sl
   have lnA:slen rs[a]=m:=by rw[hra2.fracs.len,zea]
   obtain⟨ca,hca⟩:∃ca,rs[a]'ha'=ca:=⟨_,rfl⟩
   rw[hca]at c1 g1 g2 g3 slA lnA
   obtain⟨ea1,ea2,ea3,rfl,_⟩:=g4.v.sl
   obtain⟨eb1,eb2,eb3,rfl,_⟩:=g5.v.sl
   have HE:Hid (zqa w2 (.agg #[.bool (decide (A a k<0)), .slice ea1 ea2 ea3, .slice eb1 eb2 eb3]) (A a k)):=zH ⟨_,_,rfl,g4,g5⟩
   have HCA:=zH hca
   clear hT g4 g5 hra2 hca
   by_cases hz0:A a k=0
   ·have hz1:decide (A a k=0)=true:=decide_eq_true hz0
    have HZ0:=zH hz0
    clear hz0
    go_wp2_with (go_at_call 220;(with_reducible refine(zci _ (A a k) _ HE.out).mono ?_);rw[hz1];rintro e3 w3 ⟨rfl,hb3⟩)
    go_roundg (n- (a+1))
    case measure=>(have:=HG.out;omega)
    case rel=>
     refine⟨a+1,by omega,by omega,rfl,by go_num,fun i h1 h2=> ?_,HT.out.below hb3,zfa HBR.out hb3 (Nat.le_of_lt HT.out.lt)⟩
     rcases Nat.lt_or_ge i a with h3 | h3
     ·exact HZ.out i h1 h3
     ·obtain rfl:i=a:=by omega
      exact HZ0.out
   ·have hz1:decide (A a k=0)=false:=decide_eq_false hz0
    have hpv:pvt n k ⟨A,rk,d⟩=a:=fp_eq hra (by show a<=rk+(n-rk);omega) (fun i h1 h2=>by simpa using HZ.out i h1 h2) (fun _=>by simpa using hz0)
    have HPV:=zH hpv
    have hff:=HFIT.out (by rw[hpv];exact hlt)
    rw[hpv]at hff
    have HFF:=zH hff
    clear hff
    clear hz0 hpv
    go_upto_if 44 with(go_at_call 220;(with_reducible refine(zci _ (A a k) _ HE.out).mono ?_);rw[hz1];rintro e3 w3 ⟨rfl,hb3⟩
                       have hT3:=HT.out.below hb3
                       have HT3:=zH hT3
                       have HB3:=zH (zfa HBR.out hb3 (Nat.le_of_lt HT.out.lt))
                       have t0:=zba hb3 t0
                       have t2:=zba hb3 t2)
    go_cut [5] (fun u5 wy=>∃rs',u5= .int .i64 a/\znd wy T vR rs' n m (swp A rk a) wd rk (if a=rk then d else -d)/\Below T w wy)
    case first =>
     by_cases har:a=rk
     ·have HAR:=zH har
      have i6:((a:Int) != (rk:Int))=false:=by simp[har]
      clear har
      go_wp2_with fail
      go_meet
      case rel=>exact⟨rs,rfl,by rw[HAR.out,swp_self,if_pos rfl];exact HT3.out,HB3.out⟩
     ·have i5:(rk:Int)<(a:Int):=by omega
      have i6:((a:Int) != (rk:Int))=true:=by simp;omega
      have HNE:Hid (a≠rk):=zH (by omega)
      have hrk:rk<rs.length:=by rw[HRL.out];omega
      have hF:=HFF.out.1
      go_wp2_with fail
      have hbD:=zja (B:=w3.heap.size) w3
      have hTD:=HT3.out.below hbD
      have q1:=zba hbD t0
      have q2:=zba hbD t2
      have q3:=hTD.own.cell a ha'
      have q4:=hTD.own.cell rk hrk
      obtain⟨ca1,ca2,ca3,hca,_⟩:=(hTD.row a ha').sl
      obtain⟨cr1,cr2,cr3,hcr,_⟩:=(hTD.row rk hrk).sl
      rw[hca]at q3
      rw[hcr]at q4
      have f1:=hTD.own.frozen a ha'
      have f2:=hTD.own.frozen rk hrk
      have n12:=hTD.own.inj (by omega) (show a≠rk by omega)
      have hsw:=hTD.swap ha' hrk (show a≠rk by omega)
      rw[hca,hcr,swp_comm HNE.out]at hsw
      have HSW:Hid (znd ((w3.setCell (ptr vR a) (.slice cr1 cr2 cr3)).setCell (ptr vR rk) (.slice ca1 ca2 ca3)).drew T vR ((rs.set a (.slice cr1 cr2 cr3)).set rk (.slice ca1 ca2 ca3)) n m (swp A rk a) wd rk d/\Below T w3.drew ((w3.setCell (ptr vR a) (.slice cr1 cr2 cr3)).setCell (ptr vR rk) (.slice ca1 ca2 ca3)).drew):=zH hsw
      have HBD:=zH (zfa HB3.out hbD (Nat.le_of_lt HT3.out.lt))
      have HCA:=zH hca
      have HCR:=zH hcr
      have i7:(0:Int)<=(rk:Int):=by omega
      have i8:(rk:Int)<(n:Nat):=by omega
      clear hsw hca hcr hTD hbD hT3 t0 t2
      refine wpN.start [31,32,33] (fun w'=>w'.cell? ⟨T,0,none⟩=some vR/\w'.cell? ⟨T,2,none⟩=some (.int .i64 rk)/\w'.cell? (ptr vR a)=some (.slice ca1 ca2 ca3)/\w'.cell? (ptr vR rk)=some (.slice cr1 cr2 cr3)) (by kernel_rfl) ⟨q1,q2,q3,q4⟩ (fun hHeld=> ?_)
      refine wpN.t 0 ?_
      refine wpN.t 1 ?_
      refine wpN.t 2 ?_
      refine wpN.t 3 ?_
      refine wpN.t 4 ?_
      refine wpN.t 5 ?_
      refine wpN.t 6 ?_
      refine wpN.t 7 ?_
      refine wpN.t 8 ?_
      refine wpN.t 9 ?_
      refine wpN.t 10 ?_
      refine wpN.t 11 ?_
      refine wpN.t 12 ?_
      refine wpN.t 13 ?_
      refine wpN.t 14 ?_
      refine wpN.t 15 ?_
      refine wpN.t 16 ?_
      refine wpN.t 17 ?_
      refine wpN.t 18 ?_
      refine wpN.t 19 ?_
      refine wpN.t 20 ?_
      refine wpN.t 21 ?_
      refine wpN.t 22 ?_
      refine wpN.t 23 ?_
      refine wpN.t 24 ?_
      refine wpN.t 25 ?_
      refine wpN.t 26 ?_
      refine wpN.t 27 ?_
      refine wpN.t 28 ?_
      refine wpN.t 29 ?_
      refine wpN.t 30 ?_
      (refine wpN.oo 31 ?_;intro K hK)
      rw[if_pos (by rfl)]
      go_simp
      refine hK.out _ _ (fun h=>by cases h) ?_
      clear hK K hHeld
      try simp only[Act.put,List.setIfInBounds_toArray,List.set_cons_zero,List.set_cons_succ]
      (refine wpN.oo 32 ?_;intro K hK)
      rw[if_pos (by rfl)]
      go_simp
      refine hK.out _ _ (fun h=>by cases h) ?_
      clear hK K
      try simp only[Act.put,List.setIfInBounds_toArray,List.set_cons_zero,List.set_cons_succ]
      have q4':w3.cell? (ptr vR rk)=some (.slice cr1 cr2 cr3):=q4
      have f2':w3.frozen? (ptr vR rk)=false:=f2
      (refine wpN.oo 33 ?_;intro K hK)
      rw[if_pos (by rfl)]
      go_simp
      refine hK.out _ _ (fun h=>by cases h) ?_
      clear hK K
      refine wpN.done (by kernel_rfl) ?_ _
      clear q1 q2 q3 q4 f1 f2 n12 q4' f2'
      generalize ((w3.setCell (ptr vR a) (.slice cr1 cr2 cr3)).setCell (ptr vR rk) (.slice ca1 ca2 ca3)).drew=w5 at *
      obtain⟨e1,e2,e3,e4,e5,e6,t0,t1,t2,t3,t4,t5,t6,tF,tf⟩:=HSW.out.1.cells
      have HB5:=zH (HBD.out.trans HSW.out.2)
      clear t0 t1 t2 t6 tf
      go_wp2_with fail
      have hbD:=zja (B:=w5.heap.size) w5
      have HD5:=zH hbD
      have q1:=zba hbD t3
      have q2:=zba hbD t4
      have q3:=zba hbD t5
      have tF:=tF.below hbD
      have HTF:=zH tF
      clear t3 t4 t5 tF hbD
      refine wpN.start [13] (fun w'=>w'.cell? ⟨T,3,none⟩=some (.bool (decide (d<0)))/\w'.cell? ⟨T,4,none⟩=some (.slice e1 e2 e3)/\w'.cell? ⟨T,5,none⟩=some (.slice e4 e5 e6)) (by kernel_rfl) ⟨q1,q2,q3⟩ (fun hHeld=> ?_)
      refine wpN.t 0 ?_
      refine wpN.t 1 ?_
      refine wpN.t 3 ?_
      refine wpN.t 4 ?_
      refine wpN.t 5 ?_
      refine wpN.t 6 ?_
      (refine wpN.oo 2 ?_;intro K hK)
      refine zxa 218 #[.int .i64 0] ?_ ?_ (lnumber_zero _) ?_
      ·rfl
      ·go_simp
      rintro e6' w6 ⟨v6,rfl,hv6,hb6⟩
      refine⟨_,rfl,?_⟩
      have hNew:(fun w'=>w'.cell? ⟨T,3,none⟩=some (.bool (decide (d<0)))/\w'.cell? ⟨T,4,none⟩=some (.slice e1 e2 e3)/\w'.cell? ⟨T,5,none⟩=some (.slice e4 e5 e6)) w6:=⟨zba hb6 q1,zba hb6 q2,zba hb6 q3⟩
      refine hK.out _ _ (fun _=>hNew) ?_
      clear hK K hHeld q1 q2 q3
      try simp only[Act.put,List.setIfInBounds_toArray,List.set_cons_zero,List.set_cons_succ]
      (refine wpN.oo 7 ?_;intro K hK)
      refine zxa 163 #[v6, .agg #[.bool (decide (d<0)), .slice e1 e2 e3, .slice e4 e5 e6]] ?_ ?_ (sub_can _ _ 0 d _ hv6 (HTF.out.below hb6) zkl HD.out (by rw[zero_sub'];exact hF)) ?_
      ·rfl
      ·go_simp
      rintro e7' w7 ⟨v7,rfl,hv7,hb7⟩
      refine⟨_,rfl,?_⟩
      obtain⟨q1,q2,q3⟩:=hNew
      have hNew:(fun w'=>w'.cell? ⟨T,3,none⟩=some (.bool (decide (d<0)))/\w'.cell? ⟨T,4,none⟩=some (.slice e1 e2 e3)/\w'.cell? ⟨T,5,none⟩=some (.slice e4 e5 e6)) w7:=⟨zba hb7 q1,zba hb7 q2,zba hb7 q3⟩
      refine hK.out _ _ (fun _=>hNew) ?_
      clear hK K q1 q2 q3
      try simp only[Act.put,List.setIfInBounds_toArray,List.set_cons_zero,List.set_cons_succ]
      refine wpN.t 8 ?_
      refine wpN.t 9 ?_
      (refine wpN.oo 10 ?_;intro K hK)
      refine zxa 206 #[.pointer (some ⟨T,0,none⟩),v7, .int .i64 0] ?_ ?_ (zgh _ _ (0-d) _ hv7) ?_
      ·rfl
      ·go_simp
      rintro e8' w8 ⟨v8,rfl,hv8,hb8⟩
      obtain⟨t9,x9,y9,rfl,⟨a1,l91,k91,rfl,_⟩,⟨a2,l92,k92,rfl,_⟩⟩:=hv8.isF
      refine⟨_,rfl,?_⟩
      obtain⟨q1,q2,q3⟩:=hNew
      have hNew:(fun w'=>w'.cell? ⟨T,3,none⟩=some (.bool (decide (d<0)))/\w'.cell? ⟨T,4,none⟩=some (.slice e1 e2 e3)/\w'.cell? ⟨T,5,none⟩=some (.slice e4 e5 e6)) w8:=⟨zba hb8 q1,zba hb8 q2,zba hb8 q3⟩
      refine hK.out _ _ (fun _=>hNew) ?_
      clear hK K
      try simp only[Act.put,List.setIfInBounds_toArray,List.set_cons_zero,List.set_cons_succ]
      refine wpN.t 11 ?_
      refine wpN.t 12 ?_
      obtain⟨q1,q2,q3⟩:=hNew
      have hT8:=(((HSW.out.1.below HD5.out).below hb6).below hb7).below hb8
      obtain⟨_,_,_,_,_,_,_,_,_,_,_,_,_,_,tf⟩:=hT8.cells
      have f3:=tf 3
      have f4:=tf 4
      have f5:=tf 5
      rw[zero_sub']at hv8
      have hset:=hT8.setDet hv8
      have HSET:=zH hset
      have HB8:=zH ((zfa (zfa (zfa (zfa HB5.out HD5.out (Nat.le_of_lt HSW.out.1.lt)) hb6 (Nat.le_of_lt (HSW.out.1.below HD5.out).lt)) hb7 (Nat.le_of_lt ((HSW.out.1.below HD5.out).below hb6).lt)) hb8 (Nat.le_of_lt (((HSW.out.1.below HD5.out).below hb6).below hb7).lt)).trans hset.2)
      clear hset tf hT8 hb6 hb7 hb8 hv6 hv7 hv8
      (refine wpN.oo 13 ?_;intro K hK)
      rw[if_pos (by rfl)]
      go_simp
      refine hK.out _ _ (fun h=>by cases h) ?_
      clear hK K q1 q2 q3 f3 f4 f5
      refine wpN.done (by kernel_rfl) ?_ _
      go_wp2_with fail
      go_meet
      case rel=>exact⟨_,rfl,by rw[if_neg HNE.out];exact HSET.out.1,HB8.out⟩
    case rest=>
     obtain⟨rs2,rfl,hT5,hb5⟩:=hcut
     obtain⟨w5,hw5⟩:∃w5,w5=wc:=⟨_,rfl⟩
     subst hw5
     clear t0 t2 c1 g1 g2 g3
     obtain⟨D,hDe⟩:∃D,(if a=rk then d else -d)=D:=⟨_,rfl⟩
     obtain⟨A2,hA2⟩:∃A2,swp A rk a=A2:=⟨_,rfl⟩
     rw[hDe,hA2]at hT5
     have hff:=HFF.out.2
     rw[hDe,hA2]at hff
     have hfD:fits D:=by rw[<-hDe];split;exact HD.out;exact HFF.out.1
     have hfA:fits (A2 rk k):=by rw[<-hA2,zek];exact HA.out a k hlt hk
     have HE2:=zH (And.intro hDe hA2)
     have hrk:rk<rs2.length:=by rw[hT5.rl];omega
     have hT5d:=hT5.below (zja w5)
     obtain⟨e1,e2,e3,e4,e5,e6,t0,t1,t2,t3,t4,t5,t6,tF,tf⟩:=hT5d.cells
     have q3:=hT5d.own.cell rk hrk
     obtain⟨ea,eb,g1,g2,g3,g4,g5⟩:=hT5d.elem hrk hk
     have hrow:=hT5d.row rk hrk
     have slP:=hrow.sl
     have lnP:slen rs2[rk]=m:=by rw[hrow.fracs.len,zea]
     obtain⟨cp,hcp⟩:∃cp,rs2[rk]'hrk=cp:=⟨_,rfl⟩
     rw[hcp]at q3 g1 g2 g3 slP lnP
     obtain⟨fa1,fa2,fa3,rfl,_⟩:=g4.v.sl
     obtain⟨fb1,fb2,fb3,rfl,_⟩:=g5.v.sl
     have hEl:zqa w5.drew (.agg #[.bool (decide (A2 rk k<0)), .slice fa1 fa2 fa3, .slice fb1 fb2 fb3]) (A2 rk k):=⟨_,_,rfl,g4,g5⟩
     have i7:(0:Int)<=(rk:Int):=by omega
     have i8:(rk:Int)<(n:Nat):=by omega
     have HT5:=zH hT5d
     have HB5:=zH (zfa hb5 (zja w5) (Nat.le_of_lt hT5.lt))
     have HP:=zH (And.intro tF hEl)
     have HFF2:=zH (And.intro hff (And.intro hfD hfA))
     clear hT5 hT5d hb5 t1 t6 tf g4 g5 hrow hcp hDe hA2 tF hEl hff hfD hfA
     go_wp2_with fail
     refine wpN.start [25] (fun w'=>w'.cell? ⟨T,0,none⟩=some vR/\w'.cell? ⟨T,2,none⟩=some (.int .i64 rk)/\w'.cell? (ptr vR rk)=some cp/\w'.cell? (ptr cp (k*3))=some (.bool (decide (A2 rk k<0)))/\w'.cell? (ptr cp (k*3+1))=some (.slice fa1 fa2 fa3)/\w'.cell? (ptr cp (k*3+2))=some (.slice fb1 fb2 fb3)/\w'.cell? ⟨T,3,none⟩=some (.bool (decide (D<0)))/\w'.cell? ⟨T,4,none⟩=some (.slice e1 e2 e3)/\w'.cell? ⟨T,5,none⟩=some (.slice e4 e5 e6)) (by kernel_rfl) ⟨t0,t2,q3,g1,g2,g3,t3,t4,t5⟩ (fun hHeld=> ?_)
     refine wpN.t 0 ?_
     refine wpN.t 1 ?_
     refine wpN.t 2 ?_
     refine wpN.t 3 ?_
     refine wpN.t 4 ?_
     refine wpN.t 5 ?_
     refine wpN.t 6 ?_
     refine wpN.t 7 ?_
     refine wpN.t 8 ?_
     refine wpN.t 9 ?_
     refine wpN.t 10 ?_
     refine wpN.t 11 ?_
     refine wpN.t 12 ?_
     refine wpN.t 13 ?_
     refine wpN.t 14 ?_
     refine wpN.t 15 ?_
     refine wpN.t 16 ?_
     refine wpN.t 17 ?_
     refine wpN.t 18 ?_
     (refine wpN.oo 19 ?_;intro K hK)
     refine zxa 131 #[.agg #[.bool (decide (D<0)), .slice e1 e2 e3, .slice e4 e5 e6], .agg #[.bool (decide (A2 rk k<0)), .slice fa1 fa2 fa3, .slice fb1 fb2 fb3]] ?_ ?_ (zbl _ _ D (A2 rk k) _ HP.out.1 HP.out.2 HFF2.out.2.1 HFF2.out.2.2 HFF2.out.1) ?_
     ·rfl
     ·go_simp
     rintro e7' w7 ⟨v7,rfl,hv7,hb7⟩
     refine⟨_,rfl,?_⟩
     have hNew:(fun w'=>w'.cell? ⟨T,0,none⟩=some vR/\w'.cell? ⟨T,2,none⟩=some (.int .i64 rk)/\w'.cell? (ptr vR rk)=some cp/\w'.cell? (ptr cp (k*3))=some (.bool (decide (A2 rk k<0)))/\w'.cell? (ptr cp (k*3+1))=some (.slice fa1 fa2 fa3)/\w'.cell? (ptr cp (k*3+2))=some (.slice fb1 fb2 fb3)/\w'.cell? ⟨T,3,none⟩=some (.bool (decide (D<0)))/\w'.cell? ⟨T,4,none⟩=some (.slice e1 e2 e3)/\w'.cell? ⟨T,5,none⟩=some (.slice e4 e5 e6)) w7:=⟨zba hb7 t0,zba hb7 t2,zba hb7 q3,zba hb7 g1,zba hb7 g2,zba hb7 g3,zba hb7 t3,zba hb7 t4,zba hb7 t5⟩
     refine hK.out _ _ (fun _=>hNew) ?_
     clear hK K hHeld t0 t2 q3 g1 g2 g3 t3 t4 t5
     try simp only[Act.put,List.setIfInBounds_toArray,List.set_cons_zero,List.set_cons_succ]
     refine wpN.t 20 ?_
     refine wpN.t 21 ?_
     (refine wpN.oo 22 ?_;intro K hK)
     refine zxa 206 #[.pointer (some ⟨T,0,none⟩),v7, .int .i64 0] ?_ ?_ (zgh _ _ (D*A2 rk k) _ hv7) ?_
     ·rfl
     ·go_simp
     rintro e8' w8 ⟨v8,rfl,hv8,hb8⟩
     obtain⟨t9,x9,y9,rfl,⟨a1,l91,k91,rfl,_⟩,⟨a2,l92,k92,rfl,_⟩⟩:=hv8.isF
     refine⟨_,rfl,?_⟩
     obtain⟨t0,t2,q3,g1,g2,g3,t3,t4,t5⟩:=hNew
     have hNew:(fun w'=>w'.cell? ⟨T,0,none⟩=some vR/\w'.cell? ⟨T,2,none⟩=some (.int .i64 rk)/\w'.cell? (ptr vR rk)=some cp/\w'.cell? (ptr cp (k*3))=some (.bool (decide (A2 rk k<0)))/\w'.cell? (ptr cp (k*3+1))=some (.slice fa1 fa2 fa3)/\w'.cell? (ptr cp (k*3+2))=some (.slice fb1 fb2 fb3)/\w'.cell? ⟨T,3,none⟩=some (.bool (decide (D<0)))/\w'.cell? ⟨T,4,none⟩=some (.slice e1 e2 e3)/\w'.cell? ⟨T,5,none⟩=some (.slice e4 e5 e6)) w8:=⟨zba hb8 t0,zba hb8 t2,zba hb8 q3,zba hb8 g1,zba hb8 g2,zba hb8 g3,zba hb8 t3,zba hb8 t4,zba hb8 t5⟩
     refine hK.out _ _ (fun _=>hNew) ?_
     clear hK K t0 t2 q3 g1 g2 g3 t3 t4 t5
     try simp only[Act.put,List.setIfInBounds_toArray,List.set_cons_zero,List.set_cons_succ]
     refine wpN.t 23 ?_
     refine wpN.t 24 ?_
     obtain⟨t0,t2,q3,g1,g2,g3,t3,t4,t5⟩:=hNew
     have hT8:=(HT5.out.below hb7).below hb8
     obtain⟨_,_,_,_,_,_,_,_,_,_,_,_,_,_,tf⟩:=hT8.cells
     have f3:=tf 3
     have f4:=tf 4
     have f5:=tf 5
     have hset:=hT8.setDet hv8
     have HSET:=zH hset
     have HB8:=zH ((zfa (zfa HB5.out hb7 (Nat.le_of_lt HT5.out.lt)) hb8 (Nat.le_of_lt (HT5.out.below hb7).lt)).trans hset.2)
     clear hset tf hT8 hb7 hb8 hv7 hv8
     (refine wpN.oo 25 ?_;intro K hK)
     rw[if_pos (by rfl)]
     go_simp
     refine hK.out _ _ (fun h=>by cases h) ?_
     clear hK K t0 t2 q3 g1 g2 g3 t3 t4 t5 f3 f4 f5
     refine wpN.done (by kernel_rfl) ?_ _
     go_wp2_with fail
     go_ret
     refine⟨rs2,by rw[HPV.out,decide_eq_true hlt];rfl,HB8.out,?_⟩
     rw[HPV.out,if_pos hlt,if_pos hlt]
     show znd _ T vR rs2 n m (swp A rk a) wd rk ((if a=rk then d else -d)*swp A rk a rk k)
     rw[HE2.out.1,HE2.out.2]
     exact HSET.out.1
  ·obtain rfl:a=n:=by omega
   have hpv:¬pvt a k ⟨A,rk,d⟩<a:=by
    have :pvt a k ⟨A,rk,d⟩=a:=fp_eq hra (by show a<=rk+(a-rk);omega) (fun i h1 h2=>by simpa using HZ.out i h1 h2) (fun h=>by have h':a<rk+(a-rk):=h;omega)
    omega
   have HPV:=zH hpv
   clear hpv
   go_wp2_with fail
   go_ret
   refine⟨rs,by rw[decide_eq_false HPV.out];rfl,HBR.out,?_⟩
   rw[if_neg HPV.out,if_neg HPV.out]
   exact HT.out
end Go.Proofs.YtlpdkbmmbdfoiaaGreat
