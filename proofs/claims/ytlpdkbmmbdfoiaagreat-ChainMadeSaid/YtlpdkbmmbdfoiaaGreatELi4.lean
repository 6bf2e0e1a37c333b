/- Lemmas. -/
import Derived.Test.YtlpdkbmmbdfoiaaGreatELi3
set_option linter.unusedVariables false
set_option linter.unusedSimpArgs false
namespace Go.Proofs.YtlpdkbmmbdfoiaaGreat
set_option maxRecDepth 100000
open Go.RowKit
set_option maxHeartbeats 6400000 in
theorem zfm (T:Nat) (vR:Value) (rs:List Value) (n m:Nat) (A:Mx) (wd:Nat) (w:World) (h:znd w T vR rs n m A wd 0 1) (hwd:wd<=m) (hn:n<=1000) (hm:m<=1000) (hX:slimE false n m wd A):
 Calls Tryz.prog 205 #[.pointer (some ⟨T,0,none⟩), .bool false] w
  fun e w'=>e= .returned (.tuple #[])/\Below T w w'/\∃rs',znd w' T vR rs' n m (elim false n A wd).A wd (elim false n A wd).r (elim false n A wd).d:=by
 have slR:=h.own.sl
 have lnR:slen vR=n:=by rw[h.own.len,h.rl]
 have hTw:=h.lt
 have HX:=zH hX
 have H0:=zH h
 clear h hX
 go_enter Tryz.func205,Tryz.ntmps205
 go_wp2_with fail
 go_loopg [4] (wd) (fun g u4 wr=>∃ (k:Nat) (rs':List Value),k<=wd/\g=wd-k/\u4= .int .i64 k/\znd wr T vR rs' n m (elim false n A k).A wd (elim false n A k).r (elim false n A k).d/\Below T w wr)
 case atStart=>exact⟨0,rs,zZL _,rfl,rfl,H0.out,Below.refl _ _⟩
 case round=>
  obtain⟨k,rs',hk,hg,rfl,hT,hbr⟩:=hrel
  obtain⟨w2,hw2⟩:∃w2,w2=wr:=⟨_,rfl⟩
  subst hw2
  clear H0
  have hrr:=zue false n A k
  obtain⟨hXA,hXd,hXf⟩:=HX.out k hk
  have hXn:=fun h=>(HX.out (k+1) h).1
  have hEL:elim false n A (k+1)=zzf false n k (elim false n A k):=rfl
  obtain⟨⟨A0,r,d0⟩,hS⟩:∃S,elim false n A k=S:=⟨_,rfl⟩
  rw[hS]at hT hrr hXA hXd hXf hEL
  rw[hEL]at hXn
  have HS:=zH hS
  have HEL:=zH hEL
  dsimp only at hT hrr hXA hXd
  obtain⟨hrn,hrk⟩:=hrr
  have HXA:=zH hXA
  have HXD:=zH hXd
  have HXF:=zH hXf
  have HXN:=zH hXn
  have HG:=zH hg
  obtain⟨d1,d2,d3,d4,d5,d6,t0,t1,t2,t3,t4,t5,t6,tF,tf⟩:=hT.cells
  have HT:=zH hT
  have HBR:=zH hbr
  clear hT hbr hS hEL hXA hXd hXf hXn hg t3 t4 t5 tF tf
  by_cases hkw:k<wd
  ·by_cases hrl:r<n
   ·have i1:(k:Int)<(wd:Nat):=by omega
    have i2:(r:Int)<(n:Nat):=by omega
    have hkm:k<m:=by omega
    go_wp2_with fail
    go_quiet (fail)
    have hbN:=zka (B:=w2.heap.size) w2 nq
    have hTq:=HT.out.below hbN
    have HTQ:=zH hTq
    have HBQ:=zH (zfa HBR.out hbN (Nat.le_of_lt HT.out.lt))
    clear hTq hbN t0 t1 t2 t6
    by_cases hpv:pvt n k ⟨A0,r,d0⟩<n
    ·have hff:=HXF.out hkw hpv
     have HPF:=zH (fun h:pvt n k ⟨A0,r,d0⟩<n=>And.intro hff.1 hff.2.1)
     have HRED:=zH hff.2.2
     have HPV:=zH hpv
     have HXN1:=zH (HXN.out hkw)
     clear hff hpv
     go_wp2_with (go_at_call 219;(with_reducible refine(pivot_lin T vR rs' n m A0 wd r d0 k _ HTQ.out hkm hn hm hrn HXA.out HXD.out HPF.out).mono ?_);rintro e3 w3 ⟨rs3,he,hb3,hT3⟩
                  rw[decide_eq_true HPV.out]at he
                  subst he
                  rw[if_pos HPV.out,if_pos HPV.out]at hT3
                  have HT3:=zH hT3
                  have HB3:=zH (HBQ.out.trans hb3)
                  obtain⟨d1,d2,d3,d4,d5,d6,t0,t1,t2,t3,t4,t5,t6,tF,tf⟩:=hT3.cells
                  clear hT3 hb3 t3 t4 t5 tF tf)
     clear t0 t2 t1 t6
     have hred:=HRED.out
     have hxn:=HXN1.out
     rw[zzf,if_pos HPV.out]at hxn
     (try dsimp only at hxn)
     (try dsimp only at hred)
     have hst:=HEL.out
     rw[zzf,if_pos HPV.out]at hst
     (try dsimp only at hst)
     have hT3:=HT3.out
     (try dsimp only at hT3)
     obtain⟨A1,hA1⟩:∃A1,swp A0 r (pvt n k ⟨A0,r,d0⟩)=A1:=⟨_,rfl⟩
     rw[hA1]at hred hxn hst hT3
     obtain⟨D1,hD1⟩:∃D1,(if pvt n k ⟨A0,r,d0⟩=r then d0 else -d0)*A1 r k=D1:=⟨_,rfl⟩
     rw[hD1]at hst hT3
     have hA1f:∀a b,a<n->b<m->fits (A1 a b):=fun a b ha hb=>by
      rw[<-hA1];unfold swp;split
      ·exact HXA.out _ b HPV.out hb
      ·split
       ·exact HXA.out _ b hrl hb
       ·exact HXA.out a b ha hb
     have hpn:A1 r k≠0:=by rw[<-hA1,zek];exact zfw (S:=⟨A0,r,d0⟩) hrn HPV.out
     have HT3:=zH hT3
     have HRED:=zH hred
     have HXN:=zH hxn
     have HST:=zH hst
     have HAF:=zH hA1f
     have HPN:=zH hpn
     have hrs3:=hT3.rl
     have HRS:=zH hrs3
     clear hred hxn hst hT3 hA1f hpn hA1 hD1 hrs3 HPF HPV HXN1 HTQ
     go_loopg [47] (n) (fun g u47 wr=>∃ (i:Nat),i<=n/\g=n-i/\u47= .int .i64 i/\znd wr T vR rs3 n m (zzg false A1 r k i) wd r D1/\Below T w wr)
     case atStart=>exact⟨0,zZL _,rfl,rfl,by rw[redP_zero];exact HT3.out,HB3.out⟩
     case round=>
      obtain⟨i,hin,hgi,rfl,hTi,hbi⟩:=hrel
      obtain⟨w4,hw4⟩:∃w4,w4=wr:=⟨_,rfl⟩
      subst hw4
      have HGI:=zH hgi
      have HTI:=zH hTi
      have HBI:=zH hbi
      obtain⟨_,_,_,_,_,_,t0,t1,t2,t3,t4,t5,t6,tF,tf⟩:=hTi.cells
      clear hgi hbi t1 t3 t4 t5 t6 tF
      have j1:(0:Int)<=(i:Int):=by omega
      by_cases hil:i<n
      ·have j2:(i:Int)<(n:Nat):=by omega
       by_cases hir:i=r
       ·have j3:((i:Int)==(r:Int))=true:=by simp[hir]
        have HSK:Hid (znd w4 T vR rs3 n m (zzg false A1 r k (i+1)) wd r D1):=zH (by rw[zsh (fun h=>h.1 hir)];exact HTI.out)
        clear hTi hir tf
        go_wp2_with fail
        go_roundg (n- (i+1))
        case measure=>(have:=HGI.out;omega)
        case rel=>exact⟨i+1,by omega,rfl,by go_num,HSK.out,HBI.out⟩
       ·have j3:((i:Int)==(r:Int))=false:=by simp;omega
        have HIR:=zH hir
        skip
        have hi3:i<rs3.length:=by rw[HRS.out];exact hil
        have hr3:r<rs3.length:=by rw[HRS.out];exact hrl
        have c1:=hTi.own.cell i hi3
        obtain⟨ea,eb,g1,g2,g3,g4,g5⟩:=hTi.elem hi3 hkm
        have hra2:=hTi.row i hi3
        have slA:=hra2.sl
        have lnA:slen rs3[i]=m:=by rw[hra2.fracs.len,zea]
        obtain⟨ci,hci⟩:∃ci,rs3[i]'hi3=ci:=⟨_,rfl⟩
        rw[hci]at c1 g1 g2 g3 slA lnA
        rw[zpk]at g1 g4 g5
        obtain⟨fa1,fa2,fa3,rfl,_⟩:=g4.v.sl
        obtain⟨fb1,fb2,fb3,rfl,_⟩:=g5.v.sl
        have HE:Hid (zqa w4 (.agg #[.bool (decide (A1 i k<0)), .slice fa1 fa2 fa3, .slice fb1 fb2 fb3]) (A1 i k)):=zH ⟨_,_,rfl,g4,g5⟩
        have HCI:=zH hci
        have j5:(0:Int)<=(k:Int):=by omega
        have j6:(k:Int)<(m:Nat):=by omega
        clear g4 g5 hra2 hci hir
        by_cases hz0:A1 i k=0
        ·have hz1:decide (A1 i k=0)=true:=decide_eq_true hz0
         have HSK:Hid (znd w4 T vR rs3 n m (zzg false A1 r k (i+1)) wd r D1):=zH (by rw[zsh (fun h=>h.2.2 hz0)];exact HTI.out)
         clear hz0 hTi tf
         go_wp2_with (go_at_call 220;(with_reducible refine(zci _ (A1 i k) _ HE.out).mono ?_);rw[hz1];rintro e5 w5 ⟨rfl,hb5⟩)
         go_roundg (n- (i+1))
         case measure=>(have:=HGI.out;omega)
         case rel=>exact⟨i+1,by omega,rfl,by go_num,HSK.out.below hb5,zfa HBI.out hb5 (Nat.le_of_lt HTI.out.lt)⟩
        ·have hz1:decide (A1 i k=0)=false:=decide_eq_false hz0
         have hact:act false A1 r k i:=⟨HIR.out,(fun h=>by cases h.1),hz0⟩
         have HACT:=zH hact
         have HFIT:=zH (HRED.out i hil hact)
         clear hz0 hact hTi tf
         go_wp2_with (go_at_call 220;(with_reducible refine(zci _ (A1 i k) _ HE.out).mono ?_);rw[hz1];rintro e5 w5 ⟨rfl,hb5⟩
                      have hT5:=HTI.out.below hb5
                      have HB5:=zH (zfa HBI.out hb5 (Nat.le_of_lt HTI.out.lt))
                      clear c1 g1 g2 g3 t0)
         have hbD:=zja (B:=w5.heap.size) w5
         have hTD:=hT5.below hbD
         have HBD:=zH (zfa HB5.out hbD (Nat.le_of_lt hT5.lt))
         obtain⟨_,_,_,_,_,_,s1,_⟩:=hTD.cells
         have s2:=hTD.own.cell i hi3
         have s3:=hTD.own.cell r hr3
         obtain⟨ga,gb,s4,s5,s6,g4,g5⟩:=hTD.elem hi3 hkm
         obtain⟨gc,gd,s7,s8,s9,g6,g7⟩:=hTD.elem hr3 hkm
         have hrr2:=hTD.row r hr3
         have slC:=hrr2.sl
         have lnC:slen rs3[r]=m:=by rw[hrr2.fracs.len,zea]
         obtain⟨cr,hcr⟩:∃cr,rs3[r]'hr3=cr:=⟨_,rfl⟩
         rw[hcr]at s3 s7 s8 s9 slC lnC
         rw[HCI.out]at s2 s4 s5 s6
         rw[zpk]at s4 g4 g5
         rw[zuj]at s7 g6 g7
         obtain⟨fa1,fa2,fa3,rfl,_⟩:=g4.v.sl
         obtain⟨fb1,fb2,fb3,rfl,_⟩:=g5.v.sl
         obtain⟨fc1,fc2,fc3,rfl,_⟩:=g6.v.sl
         obtain⟨fd1,fd2,fd3,rfl,_⟩:=g7.v.sl
         have HEI:Hid (zqa w5.drew (.agg #[.bool (decide (A1 i k<0)), .slice fa1 fa2 fa3, .slice fb1 fb2 fb3]) (A1 i k)):=zH ⟨_,_,rfl,g4,g5⟩
         have HER:Hid (zqa w5.drew (.agg #[.bool (decide (A1 r k<0)), .slice fc1 fc2 fc3, .slice fd1 fd2 fd3]) (A1 r k)):=zH ⟨_,_,rfl,g6,g7⟩
         have HTD:=zH hTD
         have j7:(0:Int)<=(r:Int):=by omega
         clear hTD hT5 hrr2 hcr g4 g5 g6 g7 hb5
         go_wp2_with fail
         refine wpN.start [29] (fun w'=>w'.cell? ⟨T,0,none⟩=some vR/\w'.cell? (ptr vR i)=some ci/\w'.cell? (ptr vR r)=some cr/\w'.cell? (ptr ci (k*3))=some (.bool (decide (A1 i k<0)))/\w'.cell? (ptr ci (k*3+1))=some (.slice fa1 fa2 fa3)/\w'.cell? (ptr ci (k*3+2))=some (.slice fb1 fb2 fb3)/\w'.cell? (ptr cr (k*3))=some (.bool (decide (A1 r k<0)))/\w'.cell? (ptr cr (k*3+1))=some (.slice fc1 fc2 fc3)/\w'.cell? (ptr cr (k*3+2))=some (.slice fd1 fd2 fd3)) (by kernel_rfl) ⟨s1,s2,s3,s4,s5,s6,s7,s8,s9⟩ (fun hHeld=> ?_)
         refine wpN.t 0 ?_
         refine wpN.t 1 ?_
         refine wpN.t 2 ?_
         refine wpN.t 3 ?_
         refine wpN.t 4 ?_
         refine wpN.t 5 ?_
         refine wpN.t 6 ?_
         refine wpN.t 7 ?_
         refine wpN.t 8 ?_
         refine wpN.t 9 ?_
         refine wpN.t 10 ?_
         refine wpN.t 11 ?_
         refine wpN.t 12 ?_
         refine wpN.t 13 ?_
         refine wpN.t 14 ?_
         refine wpN.t 15 ?_
         refine wpN.t 16 ?_
         refine wpN.t 17 ?_
         refine wpN.t 18 ?_
         refine wpN.t 19 ?_
         refine wpN.t 20 ?_
         refine wpN.t 21 ?_
         refine wpN.t 22 ?_
         refine wpN.t 23 ?_
         refine wpN.t 24 ?_
         (refine wpN.oo 25 ?_;intro K hK)
         refine zxa 161 #[.agg #[.bool (decide (A1 i k<0)), .slice fa1 fa2 fa3, .slice fb1 fb2 fb3], .agg #[.bool (decide (A1 r k<0)), .slice fc1 fc2 fc3, .slice fd1 fd2 fd3]] ?_ ?_ (quo_can _ _ (A1 i k) (A1 r k) _ HEI.out HER.out (HAF.out i k hil hkm) (HAF.out r k hrl hkm) HPN.out HFIT.out.1) ?_
         ·rfl
         ·go_simp
         rintro e7' w7 ⟨v7,rfl,hv7,hb7⟩
         refine⟨_,rfl,?_⟩
         have hNew:(fun w'=>w'.cell? ⟨T,0,none⟩=some vR/\w'.cell? (ptr vR i)=some ci/\w'.cell? (ptr vR r)=some cr/\w'.cell? (ptr ci (k*3))=some (.bool (decide (A1 i k<0)))/\w'.cell? (ptr ci (k*3+1))=some (.slice fa1 fa2 fa3)/\w'.cell? (ptr ci (k*3+2))=some (.slice fb1 fb2 fb3)/\w'.cell? (ptr cr (k*3))=some (.bool (decide (A1 r k<0)))/\w'.cell? (ptr cr (k*3+1))=some (.slice fc1 fc2 fc3)/\w'.cell? (ptr cr (k*3+2))=some (.slice fd1 fd2 fd3)) w7:=⟨zba hb7 s1,zba hb7 s2,zba hb7 s3,zba hb7 s4,zba hb7 s5,zba hb7 s6,zba hb7 s7,zba hb7 s8,zba hb7 s9⟩
         refine hK.out _ _ (fun _=>hNew) ?_
         clear hK K hHeld s1 s2 s3 s4 s5 s6 s7 s8 s9
         try simp only[Act.put,List.setIfInBounds_toArray,List.set_cons_zero,List.set_cons_succ]
         refine wpN.t 26 ?_
         refine wpN.t 27 ?_
         (refine wpN.oo 28 ?_;intro K hK)
         refine zxa 206 #[.pointer (some ⟨T,0,none⟩),v7, .int .i64 0] ?_ ?_ (zgh _ _ (A1 i k/A1 r k) _ hv7) ?_
         ·rfl
         ·go_simp
         rintro e8' w8 ⟨v8,rfl,hv8,hb8⟩
         refine⟨_,rfl,?_⟩
         obtain⟨s1,s2,s3,s4,s5,s6,s7,s8,s9⟩:=hNew
         have hNew:(fun w'=>w'.cell? ⟨T,0,none⟩=some vR/\w'.cell? (ptr vR i)=some ci/\w'.cell? (ptr vR r)=some cr/\w'.cell? (ptr ci (k*3))=some (.bool (decide (A1 i k<0)))/\w'.cell? (ptr ci (k*3+1))=some (.slice fa1 fa2 fa3)/\w'.cell? (ptr ci (k*3+2))=some (.slice fb1 fb2 fb3)/\w'.cell? (ptr cr (k*3))=some (.bool (decide (A1 r k<0)))/\w'.cell? (ptr cr (k*3+1))=some (.slice fc1 fc2 fc3)/\w'.cell? (ptr cr (k*3+2))=some (.slice fd1 fd2 fd3)) w8:=⟨zba hb8 s1,zba hb8 s2,zba hb8 s3,zba hb8 s4,zba hb8 s5,zba hb8 s6,zba hb8 s7,zba hb8 s8,zba hb8 s9⟩
         refine hK.out _ _ (fun _=>hNew) ?_
         clear hK K s1 s2 s3 s4 s5 s6 s7 s8 s9
         try simp only[Act.put,List.setIfInBounds_toArray,List.set_cons_zero,List.set_cons_succ]
         have hT8:=(HTD.out.below hb7).below hb8
         have HB8:=zH (zfa (zfa HBD.out hb7 (Nat.le_of_lt HTD.out.lt)) hb8 (Nat.le_of_lt (HTD.out.below hb7).lt))
         have hfA:∀a b,a<n->b<m->fits (zzg false A1 r k i a b):=fun a b ha hb=>by
          unfold zzg;split
          ·exact HXN.out a b ha hb
          ·exact HAF.out a b ha hb
         have hfR:∀j,k<=j->j<m->fits (A1 i k/A1 r k*zzg false A1 r k i r j)/\fits (zzg false A1 r k i i j-A1 i k/A1 r k*zzg false A1 r k i r j):=fun j h1 h2=>by
          rw[zpk,zuj];exact HFIT.out.2 j h2 h1
         have HFA:=zH hfA
         have HFR:=zH hfR
         clear hfA hfR hNew
         (refine wpN.oo 29 ?_;intro K hK)
         refine zxa 221 #[.pointer (some ⟨T,0,none⟩), .int .i64 i, .int .i64 r, .int .i64 k,v8] ?_ ?_ (reduce_lin T vR rs3 n m (zzg false A1 r k i) wd r D1 i r k v8 (A1 i k/A1 r k) _ hT8 hv8 hil hrl HIR.out (Nat.le_of_lt hkm) hn hm HFIT.out.1 HFA.out HFR.out) ?_
         ·rfl
         ·go_simp
         rintro e9' w9 ⟨rfl,hT9,hb9⟩
         refine⟨_,rfl,?_⟩
         refine hK.out _ _ (fun h=>by cases h) ?_
         have HT9:=zH (hT9.congr (fun a b ha hb=>redP_red HACT.out a b hb))
         have HB9:=zH (HB8.out.trans hb9)
         clear hK K hT9 hb9 hT8 hv8 hv7 hb7 hb8
         refine wpN.done (by kernel_rfl) ?_ _
         go_wp2_with fail
         go_roundg (n- (i+1))
         case measure=>(have:=HGI.out;omega)
         case rel=>exact⟨i+1,by omega,rfl,by go_num,HT9.out,HB9.out⟩
      ·obtain rfl:i=n:=by omega
       have hTn:=(hTi.congr (fun a b ha hb=>redP_all a b ha)).setRank (r+1)
       have HTN:Hid (znd (w4.setCell ⟨T,2,none⟩ (.int .i64 ((r:Int)+1))) T vR rs3 i m (znj false A1 r k) wd (r+1) D1/\Below T w4 (w4.setCell ⟨T,2,none⟩ (.int .i64 ((r:Int)+1)))):=zH (by have h:=hTn;simpa using h)
       have f2:=tf 2
       clear hTn hTi tf
       go_wp2_with fail
       go_roundg (wd- (k+1))
       case measure=>(have:=HG.out;omega)
       case rel=>exact⟨k+1,rs3,by omega,rfl,by go_num,by rw[HST.out];exact HTN.out.1,HBI.out.trans HTN.out.2⟩
    ·have HPV:=zH hpv
     have HPF:Hid (pvt n k ⟨A0,r,d0⟩<n->fits (-d0)/\fits ((if pvt n k ⟨A0,r,d0⟩=r then d0 else -d0)*swp A0 r (pvt n k ⟨A0,r,d0⟩) r k)):=zH (fun h=>absurd h hpv)
     clear hpv
     go_wp2_with (go_at_call 219;(with_reducible refine(pivot_lin T vR rs' n m A0 wd r d0 k _ HTQ.out hkm hn hm hrn HXA.out HXD.out HPF.out).mono ?_);rintro e3 w3 ⟨rs3,he,hb3,hT3⟩
                  rw[decide_eq_false HPV.out]at he
                  subst he
                  rw[if_neg HPV.out,if_neg HPV.out]at hT3
                  have HT3:=zH hT3
                  have HB3:=zH (HBQ.out.trans hb3)
                  clear hT3 hb3)
     have HST:Hid (elim false n A (k+1)=⟨A0,r,d0⟩):=zH (by rw[HEL.out,zzf,if_neg HPV.out])
     go_roundg (wd- (k+1))
     case measure=>(have:=HG.out;omega)
     case rel=>exact⟨k+1,rs3,by omega,rfl,by go_num,by rw[HST.out];exact HT3.out,HB3.out⟩
   ·obtain rfl:r=n:=by omega
    have i1:(k:Int)<(wd:Nat):=by omega
    have HF:Hid (elim false r A wd=⟨A0,r,d0⟩):=zH (by rw[elim_stop (k:=k) (by rw[HS.out]) wd (by omega),HS.out])
    clear hrl
    go_wp2_with fail
    go_quiet (fail)
    have hbN:=zka (B:=w2.heap.size) w2 nq
    have HTQ:=zH (HT.out.below hbN)
    have HBQ:=zH (zfa HBR.out hbN (Nat.le_of_lt HT.out.lt))
    clear hbN t0 t1 t2 t6
    go_wp2_with fail
    go_end0
    exact⟨rfl,HBQ.out,rs',by rw[HF.out];exact HTQ.out⟩
  ·obtain rfl:k=wd:=by omega
   have HF:=zH HS.out
   clear hkw
   go_wp2_with fail
   go_quiet (fail)
   have hbN:=zka (B:=w2.heap.size) w2 nq
   have HTQ:=zH (HT.out.below hbN)
   have HBQ:=zH (zfa HBR.out hbN (Nat.le_of_lt HT.out.lt))
   clear hbN t0 t1 t2 t6
   go_wp2_with fail
   go_end0
   exact⟨rfl,HBQ.out,rs',by rw[HF.out];exact HTQ.out⟩
end Go.Proofs.YtlpdkbmmbdfoiaaGreat
