/- Lemmas. -/
import Derived.Test.YtlpdkbmmbdfoiaaGreatEOrd
set_option linter.unusedVariables false
set_option linter.unusedSimpArgs false
namespace Go.Proofs.YtlpdkbmmbdfoiaaGreat
set_option maxRecDepth 100000
open Go.RowKit
theorem redTo_step {A:Mx} {i r k e:Nat} {f:Rat} (he:k<=e):upd (zui A i r k e f) i e (A i e-f*A r e)=zui A i r k (e+1) f:=by
 funext a b
 unfold upd zui
 by_cases h1:a=i/\b=e
 ·obtain⟨rfl,rfl⟩:=h1
  rw[if_pos ⟨rfl,rfl⟩,if_pos ⟨rfl,he,Nat.lt_succ_self _⟩]
 ·rw[if_neg h1]
  by_cases h2:a=i/\k<=b/\b<e
  ·rw[if_pos h2,if_pos ⟨h2.1,h2.2.1,by omega⟩]
  ·rw[if_neg h2,if_neg (fun h3=>by have :¬ (b=e):=fun h=>h1 ⟨h3.1,h⟩
                                   exact h2 ⟨h3.1,h3.2.1,by omega⟩)]
theorem znd.putG {w:World} {T n m wd rk:Nat} {vR:Value} {rs:List Value} {A:Mx} {d:Rat} (h:znd w T vR rs n m A wd rk d) {i j:Nat} (hi:i<rs.length) (hj:j<m) {x y z:Value} {r:Rat} (hf:zqa w (.agg #[x,y,z]) r):
 w.grownBy (((w.setCell (ptr rs[i] (j*3)) x).setCell (ptr rs[i] (j*3+1)) y).setCell (ptr rs[i] (j*3+2)) z) rs[i].ownBlock/\zlb w rs[i]:=by
 have hr:=h.row i hi
 exact⟨(hr.put (i:=j) (by rw[zea];exact hj) hf).2,hr.noLimb⟩
set_option maxHeartbeats 3200000 in
theorem reduce_lin (T:Nat) (vR:Value) (rs:List Value) (n m:Nat) (A:Mx) (wd rk:Nat) (d:Rat) (i r k:Nat) (vf:Value) (f:Rat) (w:World) (h:znd w T vR rs n m A wd rk d) (hf:zqa w vf f)
 (hi:i<n) (hr:r<n) (hir:i≠r) (hk:k<=m) (hn:n<=1000) (hm:m<=1000) (hff:fits f) (hA:∀a b,a<n->b<m->fits (A a b)) (hfit:∀j,k<=j->j<m->fits (f*A r j)/\fits (A i j-f*A r j)):
 Calls Tryz.prog 221 #[.pointer (some ⟨T,0,none⟩), .int .i64 i, .int .i64 r, .int .i64 k,vf] w
  fun e w'=>e= .returned (.tuple #[])/\znd w' T vR rs n m (zui A i r k m f) wd rk d/\Below T w w':=by
 have hrl:=h.rl
 have hi':i<rs.length:=by omega
 have hr':r<rs.length:=by omega
 obtain⟨t0,x0,y0,rfl,⟨p1,p2,p3,rfl,_⟩,⟨s1,s2,s3,rfl,_⟩⟩:=id hf.isF
 obtain⟨gi,hgi,_,_,hgiw,_⟩:=(h.row i hi').blk (by rw[zea];exact h.mp)
 have slR:=h.own.sl
 have lnR:slen vR=n:=by rw[h.own.len,hrl]
 have slr:=(h.row r hr').sl
 have sli:=(h.row i hi').sl
 have lnr:slen rs[r]=m:=by rw[(h.row r hr').fracs.len,zea]
 have lni:slen rs[i]=m:=by rw[(h.row i hi').fracs.len,zea]
 have hTw:=h.lt
 have hbx:=zca w (.cells #[.bool t0, .slice p1 p2 p3, .slice s1 s2 s3] 38)
 have H1:=zH (h.below hbx)
 have HF:=zH (hf.below hbx)
 have HC:=zH (C3.new w 38 (.bool t0) (.slice p1 p2 p3) (.slice s1 s2 s3))
 have HB1:=zH (hbx.mono (Nat.le_of_lt hTw))
 have HA:=zH hA
 have HFIT:=zH hfit
 have HIR:=zH hir
 have HGI:=zH hgi
 have HRL:=zH hrl
 clear hbx h hf hA hfit hir hgi hrl
 obtain⟨ci,hci⟩:∃ci,rs[i]=ci:=⟨_,rfl⟩
 obtain⟨cr,hcr⟩:∃cr,rs[r]=cr:=⟨_,rfl⟩
 rw[hci]at sli lni
 rw[hcr]at slr lnr
 have HCI:=zH hci
 have HCR:=zH hcr
 clear hci hcr
 go_enter Tryz.func221,Tryz.ntmps221
 go_wp2_with fail
 generalize w.alloc (.cells #[.bool t0, .slice p1 p2 p3, .slice s1 s2 s3] 38)=W1 at *
 go_loopg [10] (m-k) (fun g u10 wr=>∃ (j:Nat),k<=j/\j<=m/\g=m-j/\u10= .int .i64 j/\znd wr T vR rs n m (zui A i r k j f) wd rk d/\C3 wr w.heap.size (.bool t0) (.slice p1 p2 p3) (.slice s1 s2 s3)/\zqa wr (.agg #[.bool t0, .slice p1 p2 p3, .slice s1 s2 s3]) f/\Below T w wr)
 case atStart=>exact⟨k,zLR _,hk,rfl,rfl,by rw[redTo_start];exact H1.out,HC.out,HF.out,HB1.out⟩
 case round=>
  obtain⟨j,hkj,hjm,hg,rfl,hT,hC,hFr,hbr⟩:=hrel
  obtain⟨w2,hw2⟩:∃w2,w2=wr:=⟨_,rfl⟩
  subst hw2
  clear H1 HC HF HB1
  have hrl:=HRL.out
  have hi':i<rs.length:=by omega
  have hr':r<rs.length:=by omega
  obtain⟨va,vb,hbox,_,_⟩:=hT.box
  have T0:w2.cell? ⟨T,0,none⟩=some vR:=hbox.cell 0 rfl
  have c1:=hT.own.cell i hi'
  have c2:=hT.own.cell r hr'
  rw[HCI.out]at c1
  rw[HCR.out]at c2
  clear hbox hrl
  have HT:=zH hT
  have HC:=zH hC
  have HF:=zH hFr
  have HBR:=zH hbr
  have HG:=zH hg
  have i1:(0:Int)<=(i:Int):=by omega
  have i2:(i:Int)<(n:Nat):=by omega
  have i3:(0:Int)<=(r:Int):=by omega
  have i4:(r:Int)<(n:Nat):=by omega
  have i5:(0:Int)<=(j:Int):=by omega
  by_cases hj:j<m
  ·have i6:(j:Int)<(m:Nat):=by omega
   obtain⟨ea,eb,g1,g2,g3,g4,g5⟩:=hT.elem hr' hj
   rw[HCR.out,redTo_row HIR.out]at g1
   rw[HCR.out]at g2 g3
   rw[redTo_row HIR.out]at g4 g5
   have HR:Hid (zqa w2 (.agg #[.bool (decide (A r j<0)),ea,eb]) (A r j)):=zH ⟨ea,eb,rfl,g4,g5⟩
   obtain⟨ea1,ea2,ea3,rfl,_⟩:=g4.v.sl
   obtain⟨eb1,eb2,eb3,rfl,_⟩:=g5.v.sl
   obtain⟨_,q1,q2,q3,_,_,_⟩:=hC
   have S0:=zH (And.intro T0 (And.intro c2 (And.intro g1 (And.intro g2 (And.intro g3 (And.intro q1 (And.intro q2 q3)))))))
   have HFA:=zH (HA.out r j hr hj)
   have HFI:=zH (HA.out i j hi hj)
   have HFP:=zH (HFIT.out j hkj hj).1
   have HFS:=zH (HFIT.out j hkj hj).2
   have tok1:True:=trivial
   clear hT hFr hbr g4 g5 hg
   go_wp2_with fail
   go_cut [11] (fun u11 wy=>∃ (b11:Nat) (t':Bool) (x' y':Value),u11= .pointer (some ⟨b11,0,none⟩)/\C3 wy b11 (.bool t') x' y'/\zqa wy (.agg #[.bool t',x',y']) (f*A r j)/\Below w2.heap.size w2 wy/\w2.heap.size<=b11)
   case first =>
    go_region_held3 (fun w'=>w'.cell? ⟨T,0,none⟩=some vR/\w'.cell? (ptr vR r)=some cr/\w'.cell? (ptr cr (j*3))=some (.bool (decide (A r j<0)))/\w'.cell? (ptr cr (j*3+1))=some (.slice ea1 ea2 ea3)/\w'.cell? (ptr cr (j*3+2))=some (.slice eb1 eb2 eb3)/\w'.cell? ⟨w.heap.size,0,none⟩=some (.bool t0)/\w'.cell? ⟨w.heap.size,1,none⟩=some (.slice p1 p2 p3)/\w'.cell? ⟨w.heap.size,2,none⟩=some (.slice s1 s2 s3)/\Below w2.heap.size w2 w') (first
     | with_reducible exact kp8a S0.out (zja _)
     | with_reducible exact kp8w (by assumption) (zca _ _)
     | with_reducible exact kp8w (by assumption) (by assumption)
     | with_reducible exact kp8a S0.out (zaa hB32 (zca _ _))
     | with_reducible exact kp8s S0.out hB32 (zLR _) _ _ _
     | with_reducible exact kp8s S0.out hB32 hB31.size _ _ _
     | with_reducible exact kp8s S0.out (zaa hB32 (zca _ _)) hB32.size _ _ _) (first
     |(go_at_call 131;(with_reducible refine(zbl _ _ f (A r j) _ (HF.out.below (zhw (by assumption))) (HR.out.below (zhw (by assumption))) hff HFA.out HFP.out).mono ?_);rintro e31 w31 ⟨v31,rfl,hv31,hb31⟩
       have hB31:=zaa (zhw (by assumption)) hb31
       have hc5:=(fun(p:Addr) hp=>hb31.cell (p:=p) hp)
       have hf5:=(fun(p:Addr) hp=>hb31.frozen (p:=p) hp)
       have zq:=hb31.size
       (try simp only[zfk,zvo]at zq)
       (try have z1:w2.heap.size<w31.heap.size:=(by omega)))
     |(go_at_call 206;first
        |((with_reducible refine(zgh _ _ (f*A r j) _ hv31).mono ?_);rintro e32 w32 ⟨v32,rfl,hv32,hb32⟩
          obtain⟨t32,x32,y32,rfl,⟨a321,l321,k321,rfl,_⟩,⟨a322,l322,k322,rfl,_⟩⟩:=hv32.isF
          have hB32:=zaa hB31 hb32
          have hc6:=(fun(p:Addr) hp=>hb32.cell (p:=p) hp)
          have hf6:=(fun(p:Addr) hp=>hb32.frozen (p:=p) hp)
          have zq2:=hb32.size
          (try simp only[zfk,zvo]at zq2)
          (try have z2:w2.heap.size<w32.heap.size:=(by omega))
          (try have z3:w31.heap.size<w32.heap.size:=(by omega)))
        |((with_reducible refine(zgh _ _ (f*A r j) _ (hv31.below (zca _ _))).mono ?_);rintro e32 w32 ⟨v32,rfl,hv32,hb32⟩
          obtain⟨t32,x32,y32,rfl,⟨a321,l321,k321,rfl,_⟩,⟨a322,l322,k322,rfl,_⟩⟩:=hv32.isF
          have hB32:=zaa (zaa hB31 (zca _ _)) hb32
          have hc6:=(fun(p:Addr) hp=>hb32.cell (p:=p) hp)
          have hf6:=(fun(p:Addr) hp=>hb32.frozen (p:=p) hp)
          have zq2:=hb32.size
          (try simp only[zfk,zvo]at zq2)
          (try have z2:w2.heap.size<w32.heap.size:=(by omega))
          (try have z3:w31.heap.size<w32.heap.size:=(by omega)))))
    all_goals
     have hE:=zhw (by assumption)
     go_wp2_with fail
     go_meet
     case rel=>
      first
       | exact⟨_,_,_,_,rfl,C3.new w32 _ _ _ _,hv32.below (zca _ _),hE,hB32.size⟩
       | exact⟨_,_,_,_,rfl,((C3.new w31 38 (.bool false) (.slice none 0 0) (.slice none 0 0)).belowS hb32).set _ _ _,hv32.set3 ((C3.new w31 38 (.bool false) (.slice none 0 0) (.slice none 0 0)).belowS hb32) (fun z=>by simp) (fun z=>by simp) _ _ _,hE,hB31.size⟩
       | exact⟨_,_,_,_,rfl,(((C3.newB (b:=w2.heap.size) w2.drew 38 (.bool false) (.slice none 0 0) (.slice none 0 0) rfl).belowS hb31).belowS hb32).set _ _ _,hv32.set3 (((C3.newB (b:=w2.heap.size) w2.drew 38 (.bool false) (.slice none 0 0) (.slice none 0 0) rfl).belowS hb31).belowS hb32) (fun z=>by simp) (fun z=>by simp) _ _ _,hE,zLR _⟩
       | exact⟨_,_,_,_,rfl,((((C3.newB (b:=w2.heap.size) w2 38 (.bool false) (.slice none 0 0) (.slice none 0 0) rfl).belowS (zja _)).belowS hb31).belowS hb32).set _ _ _,hv32.set3 ((((C3.newB (b:=w2.heap.size) w2 38 (.bool false) (.slice none 0 0) (.slice none 0 0) rfl).belowS (zja _)).belowS hb31).belowS hb32) (fun z=>by simp) (fun z=>by simp) _ _ _,hE,zLR _⟩
   case rest=>
    obtain⟨b11,t6,x6,y6,rfl,hC6,hv6,hb6,hbb⟩:=hcut
    obtain⟨w3,hw3⟩:∃w3,w3=wc:=⟨_,rfl⟩
    subst hw3
    have hv6':=hv6
    obtain⟨_,_,_,hF6,⟨a61,l61,k61,rfl,_⟩,⟨a62,l62,k62,rfl,_⟩⟩:=hv6'.isF
    injection hF6 with hF6
    injection hF6 with hF6
    simp only[List.cons.injEq,and_true,Value.bool.injEq]at hF6
    obtain⟨rfl,rfl,rfl⟩:=hF6
    have HP:=zH hv6
    have hT3:=HT.out.below hb6
    have HT3:=zH hT3
    have HC3:=zH (HC.out.belowS hb6)
    have HF3:=zH (HF.out.below hb6)
    have HB3:=zH (zfa HBR.out hb6 (Nat.le_of_lt HT.out.lt))
    obtain⟨ia,ib,h1,h2,h3,h4,h5⟩:=hT3.elem hi' hj
    rw[HCI.out,redTo_at]at h1
    rw[HCI.out]at h2 h3
    rw[redTo_at]at h4 h5
    have HI:Hid (zqa w3 (.agg #[.bool (decide (A i j<0)),ia,ib]) (A i j)):=zH ⟨ia,ib,rfl,h4,h5⟩
    obtain⟨ia1,ia2,ia3,rfl,_⟩:=h4.v.sl
    obtain⟨ib1,ib2,ib3,rfl,_⟩:=h5.v.sl
    have T3:=zba hb6 T0
    have c3:=zba hb6 c1
    obtain⟨_,e1,e2,e3,_,_,_⟩:=id hC6
    have S1:=zH (And.intro T3 (And.intro c3 (And.intro h1 (And.intro h2 (And.intro h3 (And.intro e1 (And.intro e2 e3)))))))
    have hbD:=zja (B:=w3.heap.size) w3
    have HTD:=zH (hT3.below hbD)
    have hID:=HI.out.below hbD
    have hPD:=HP.out.below hbD
    have k1:=zba hbD T3
    have k2:=zba hbD c3
    have k3:=zba hbD h1
    have k4:=zba hbD h2
    have k5:=zba hbD h3
    have k6:=zba hbD e1
    have k7:=zba hbD e2
    have k8:=zba hbD e3
    clear T0 c1 c2 g1 g2 g3 q1 q2 q3 h4 h5 hv6 hT3 hb6 hC6 S1 S0 T3 c3 h1 h2 h3 e1 e2 e3
    go_wp2_with fail
    refine wpN.start [25] (fun w'=>w'.cell? ⟨T,0,none⟩=some vR/\w'.cell? (ptr vR i)=some ci/\w'.cell? (ptr ci (j*3))=some (.bool (decide (A i j<0)))/\w'.cell? (ptr ci (j*3+1))=some (.slice ia1 ia2 ia3)/\w'.cell? (ptr ci (j*3+2))=some (.slice ib1 ib2 ib3)/\w'.cell? ⟨b11,0,none⟩=some (.bool t6)/\w'.cell? ⟨b11,1,none⟩=some (.slice a61 l61 k61)/\w'.cell? ⟨b11,2,none⟩=some (.slice a62 l62 k62)) (by kernel_rfl) ⟨k1,k2,k3,k4,k5,k6,k7,k8⟩ (fun hHeld=> ?_)
    refine wpN.t 0 ?_
    refine wpN.t 1 ?_
    refine wpN.t 2 ?_
    refine wpN.t 3 ?_
    refine wpN.t 4 ?_
    refine wpN.t 5 ?_
    refine wpN.t 6 ?_
    refine wpN.t 7 ?_
    refine wpN.t 8 ?_
    refine wpN.t 9 ?_
    refine wpN.t 10 ?_
    refine wpN.t 11 ?_
    refine wpN.t 12 ?_
    refine wpN.t 13 ?_
    refine wpN.t 14 ?_
    refine wpN.t 15 ?_
    refine wpN.t 16 ?_
    refine wpN.t 17 ?_
    refine wpN.t 18 ?_
    refine wpN.t 19 ?_
    (refine wpN.oo 20 ?_;intro K hK)
    refine zxa 163 #[.agg #[.bool (decide (A i j<0)), .slice ia1 ia2 ia3, .slice ib1 ib2 ib3], .agg #[.bool t6, .slice a61 l61 k61, .slice a62 l62 k62]] ?_ ?_ (sub_can _ _ (A i j) (f*A r j) _ hID hPD HFI.out HFP.out HFS.out) ?_
    ·rfl
    ·go_simp
    rintro e9 w9 ⟨v9,rfl,hv9,hb9⟩
    refine⟨_,rfl,?_⟩
    have hNew:(fun w'=>w'.cell? ⟨T,0,none⟩=some vR/\w'.cell? (ptr vR i)=some ci/\w'.cell? (ptr ci (j*3))=some (.bool (decide (A i j<0)))/\w'.cell? (ptr ci (j*3+1))=some (.slice ia1 ia2 ia3)/\w'.cell? (ptr ci (j*3+2))=some (.slice ib1 ib2 ib3)/\w'.cell? ⟨b11,0,none⟩=some (.bool t6)/\w'.cell? ⟨b11,1,none⟩=some (.slice a61 l61 k61)/\w'.cell? ⟨b11,2,none⟩=some (.slice a62 l62 k62)) w9:=⟨zba hb9 k1,zba hb9 k2,zba hb9 k3,zba hb9 k4,zba hb9 k5,zba hb9 k6,zba hb9 k7,zba hb9 k8⟩
    refine hK.out _ _ (fun _=>hNew) ?_
    clear hK K hHeld k1 k2 k3 k4 k5 k6 k7 k8
    try simp only[Act.put,List.setIfInBounds_toArray,List.set_cons_zero,List.set_cons_succ]
    refine wpN.t 21 ?_
    refine wpN.t 22 ?_
    (refine wpN.oo 23 ?_;intro K hK)
    refine zxa 206 #[.pointer (some ⟨T,0,none⟩),v9, .int .i64 0] ?_ ?_ (zgh _ _ (A i j-f*A r j) _ hv9) ?_
    ·rfl
    ·go_simp
    rintro e10 w10 ⟨v10,rfl,hv10,hb10⟩
    obtain⟨t9,x9,y9,rfl,⟨a1,l91,k91,rfl,_⟩,⟨a2,l92,k92,rfl,_⟩⟩:=hv10.isF
    refine⟨_,rfl,?_⟩
    obtain⟨k1,k2,k3,k4,k5,k6,k7,k8⟩:=hNew
    have hNew:(fun w'=>w'.cell? ⟨T,0,none⟩=some vR/\w'.cell? (ptr vR i)=some ci/\w'.cell? (ptr ci (j*3))=some (.bool (decide (A i j<0)))/\w'.cell? (ptr ci (j*3+1))=some (.slice ia1 ia2 ia3)/\w'.cell? (ptr ci (j*3+2))=some (.slice ib1 ib2 ib3)/\w'.cell? ⟨b11,0,none⟩=some (.bool t6)/\w'.cell? ⟨b11,1,none⟩=some (.slice a61 l61 k61)/\w'.cell? ⟨b11,2,none⟩=some (.slice a62 l62 k62)) w10:=⟨zba hb10 k1,zba hb10 k2,zba hb10 k3,zba hb10 k4,zba hb10 k5,zba hb10 k6,zba hb10 k7,zba hb10 k8⟩
    refine hK.out _ _ (fun _=>hNew) ?_
    clear hK K k1 k2 k3 k4 k5 k6 k7 k8
    try simp only[Act.put,List.setIfInBounds_toArray,List.set_cons_zero,List.set_cons_succ]
    refine wpN.t 24 ?_
    have hT10:=(HTD.out.below hb9).below hb10
    have hro:=hT10.row i hi'
    rw[HCI.out]at hro
    have f0:=hro.frozen (j*3) (by rw[zea];omega)
    have f1:=hro.frozen (j*3+1) (by rw[zea];omega)
    have f2:=hro.frozen (j*3+2) (by rw[zea];omega)
    have n01:=hro.inj (by rw[zea];omega) (show j*3≠j*3+1 by omega)
    have n02:=hro.inj (by rw[zea];omega) (show j*3≠j*3+2 by omega)
    have n12:=hro.inj (by rw[zea];omega) (show j*3+1≠j*3+2 by omega)
    obtain⟨k1,k2,k3,k4,k5,k6,k7,k8⟩:=hNew
    (refine wpN.oo 25 ?_;intro K hK)
    rw[if_pos (by rfl)]
    go_simp
    refine hK.out _ _ (fun h=>by cases h) ?_
    clear hK K k1 k2 k3 k4 k5 k6 k7 k8 f0 f1 f2 n01 n02 n12
    refine wpN.done (by kernel_rfl) ?_ _
    have hput:=hT10.put hi' hj hv10
    have hpg:=hT10.putG hi' hj hv10
    rw[HCI.out,redTo_step hkj]at hput
    rw[HCI.out]at hpg
    have HPUT:=zH hput
    have hC10:=(((HC3.out.belowS hbD).belowS hb9).belowS hb10).grownB hpg.1 (by rw[<-HCI.out,HGI.out];intro e;injection e with e;omega)
    have hF10:=((((HF3.out.below hbD).below hb9).below hb10).grown hpg.1 hpg.2)
    have hB10:=(zfa (zfa (zfa HB3.out hbD (Nat.le_of_lt HT3.out.lt)) hb9 (Nat.le_of_lt HTD.out.lt)) hb10 (Nat.le_of_lt (HTD.out.below hb9).lt)).trans hput.2
    have HH:=zH (And.intro hC10 (And.intro hF10 hB10))
    clear hput hpg hC10 hF10 hB10 hT10 hv10 hro hb9 hb10 hbD hID hPD hv9
    go_wp2_with fail
    go_roundg (m- (j+1))
    case measure=>(have:=HG.out;omega)
    case rel=>exact⟨j+1,by omega,by omega,rfl,by go_num,HPUT.out.1,HH.out.1,HH.out.2.1,HH.out.2.2⟩
  ·obtain rfl:j=m:=by omega
   have i6:decide ((j:Int)<(j:Nat))=false:=by simp
   clear hT hFr hbr hg hC
   go_wp2_with fail
   go_end0
   exact⟨rfl,HT.out,HBR.out⟩
end Go.Proofs.YtlpdkbmmbdfoiaaGreat
