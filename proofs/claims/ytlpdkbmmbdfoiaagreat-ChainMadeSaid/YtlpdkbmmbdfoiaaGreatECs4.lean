/- Lemmas. -/
import Derived.Test.YtlpdkbmmbdfoiaaGreatECs3
set_option linter.unusedVariables false
set_option linter.unusedSimpArgs false
namespace Go.Proofs.YtlpdkbmmbdfoiaaGreat
open Go.RowKit
set_option maxRecDepth 100000 in
set_option maxHeartbeats 6400000 in
theorem rdot_raw (vu vv:Value) (n:Nat) (x y:Nat->RF) (w:World) (hu:zni w vu (rowF n x)) (hv:zni w vv (rowF n y)) (hn:n<=1000) (hfx:∀k,k<n->(x k).ok) (hfy:∀k,k<n->(y k).ok)
 (hp:∀k,k<n->fits ((x k).q*(y k).q)) (hs:∀k,k<=n->fits (sg k fun j=>(x j).q*(y j).q)):
 Calls Tryz.prog 176 #[vu,vv] w (RF1 w (sg n fun j=>(x j).q*(y j).q)):=by
 have su:=hu.sl
 have lu:slen vu=n:=by rw[hu.len,zcr]
 have sv:=hv.sl
 have lv:slen vv=n:=by rw[hv.len,zcr]
 have HU:=zH hu
 have HV:=zH hv
 have HFX:=zH hfx
 have HFY:=zH hfy
 have HP:=zH hp
 have HS:=zH hs
 have hb0:=zca w (.cells #[.bool false, .slice none 0 0, .slice none 0 0] 38)
 have HR0:=zH (C3.new w 38 (.bool false) (.slice none 0 0) (.slice none 0 0))
 clear hu hv hfx hfy hp hs
 go_enter Tryz.func176,Tryz.ntmps176
 go_upto_region 1 with fail
 obtain⟨W0,hW0⟩:∃W0,w.alloc (.cells #[.bool false, .slice none 0 0, .slice none 0 0] 38)=W0:=⟨_,rfl⟩
 rw[hW0]at hb0 HR0 |-
 clear hW0
 have hB0:w.heap.size<=W0.heap.size:=hb0.size
 go_wp2_with (go_at_call 20;(with_reducible refine(zwi _).mono ?_);rintro e13 w13 ⟨v13,rfl,hv13,hb13⟩
              obtain⟨t13,x13,y13,rfl,⟨a131,l131,k131,rfl,q131⟩,⟨a132,l132,k132,rfl,q132⟩⟩:=hv13.isF
              have hb14:=zaa hb13 (zca w13 (.cells #[.bool t13, .slice a131 l131 k131, .slice a132 l132 k132] 38))
              have hv14:=hv13.below (zca w13 (.cells #[.bool t13, .slice a131 l131 k131, .slice a132 l132 k132] 38))
              have h1314:=hb13.size
              have HC1:=zH (C3.new w13 38 (.bool t13) (.slice a131 l131 k131) (.slice a132 l132 k132)))
 obtain⟨b5,hb5⟩:∃b,w13.heap.size=b:=⟨_,rfl⟩
 rw[hb5]at HC1 h1314
 rw[hb5]
 clear hb5
 go_loopg [6] (n) (fun g u6 wr=>∃ (k:Nat) (t':Bool) (a1 a2:Option Addr) (l1 k1 l2 k2:Nat),k<=n/\g=n-k/\u6= .int .i64 k/\C3 wr b5 (.bool t') (.slice a1 l1 k1) (.slice a2 l2 k2)/\zqa wr (.agg #[.bool t', .slice a1 l1 k1, .slice a2 l2 k2]) (sg k fun j=>(x j).q*(y j).q)/\Below W0.heap.size W0 wr)
 case atStart=>exact⟨0,_,_,_,_,_,_,_,zZL _,rfl,rfl,HC1.out,hv14,hb14⟩
 case round=>
  obtain⟨k,t',a1,a2,l1,k1,l2,k2,hk,hg,rfl,hc3,hvk,hbr⟩:=hrel
  obtain⟨w2,hw2⟩:∃w2,w2=wr:=⟨_,rfl⟩
  subst hw2
  have HG:=zH hg
  have HC3:=zH hc3
  have HVK:=zH hvk
  have HBR:=zH hbr
  have hbw:=hb0.trans (hbr.mono hB0)
  clear hg hv14 hb14 HC1
  by_cases hkn:k<n
  ·obtain⟨ea,eb,g1,g2,g3,g4,g5⟩:=(HU.out.below hbw).at' k (by rw[zcr];exact hkn)
   obtain⟨ec,ed,g6,g7,g8,g9,g10⟩:=(HV.out.below hbw).at' k (by rw[zcr];exact hkn)
   rw[rowF_get]at g1 g4 g5 g6 g9 g10
   obtain⟨ea1,ea2,ea3,rfl,_⟩:=g4.slen.1
   obtain⟨eb1,eb2,eb3,rfl,_⟩:=g5.slen.1
   obtain⟨ec1,ec2,ec3,rfl,_⟩:=g9.slen.1
   obtain⟨ed1,ed2,ed3,rfl,_⟩:=g10.slen.1
   have hbD:=zja (B:=w2.heap.size) w2
   have HFU:Hid (zdc w2.drew (.agg #[.bool (x k).neg, .slice ea1 ea2 ea3, .slice eb1 eb2 eb3]) (x k).neg (x k).n (x k).d):=zH ⟨_,_,rfl,g4.below hbD,g5.below hbD⟩
   have HFV:Hid (zdc w2.drew (.agg #[.bool (y k).neg, .slice ec1 ec2 ec3, .slice ed1 ed2 ed3]) (y k).neg (y k).n (y k).d):=zH ⟨_,_,rfl,g9.below hbD,g10.below hbD⟩
   have HCD:=zH (HC3.out.belowS hbD)
   have HVD:=zH (HVK.out.below hbD)
   obtain⟨_,p1,p2,p3,_,_,_⟩:=id hc3
   have q1:=zba hbD p1
   have q2:=zba hbD p2
   have q3:=zba hbD p3
   have q4:=zba hbD g1
   have q5:=zba hbD g2
   have q6:=zba hbD g3
   have q7:=zba hbD g6
   have q8:=zba hbD g7
   have q9:=zba hbD g8
   have HF1:=zH (HFX.out k hkn)
   have HF2:=zH (HFY.out k hkn)
   have HF3:=zH (HP.out k hkn)
   have HF4:=zH (HS.out k hk)
   have HF5:Hid (fits ((sg k fun j=>(x j).q*(y j).q)+(x k).q*(y k).q)):=zH (HS.out (k+1) hkn)
   have i1:(0:Int)<=(k:Int):=by omega
   have i2:(k:Int)<(n:Nat):=by omega
   clear g1 g2 g3 g4 g5 g6 g7 g8 g9 g10 hbw hc3 hvk hbr p1 p2 p3
   go_wp2_with fail
   refine wpN.start [11] (fun w'=>w'.cell? ⟨b5,0,none⟩=some (.bool t')/\w'.cell? ⟨b5,1,none⟩=some (.slice a1 l1 k1)/\w'.cell? ⟨b5,2,none⟩=some (.slice a2 l2 k2)/\w'.cell? (ptr vu (k*3))=some (.bool (x k).neg)/\w'.cell? (ptr vu (k*3+1))=some (.slice ea1 ea2 ea3)/\w'.cell? (ptr vu (k*3+2))=some (.slice eb1 eb2 eb3)/\w'.cell? (ptr vv (k*3))=some (.bool (y k).neg)/\w'.cell? (ptr vv (k*3+1))=some (.slice ec1 ec2 ec3)/\w'.cell? (ptr vv (k*3+2))=some (.slice ed1 ed2 ed3)) (by kernel_rfl) ⟨q1,q2,q3,q4,q5,q6,q7,q8,q9⟩ (fun hHeld=> ?_)
   refine wpN.t 0 ?_
   refine wpN.t 1 ?_
   refine wpN.t 2 ?_
   refine wpN.t 3 ?_
   refine wpN.t 4 ?_
   refine wpN.t 5 ?_
   refine wpN.t 6 ?_
   refine wpN.t 7 ?_
   refine wpN.t 8 ?_
   (refine wpN.oo 9 ?_;intro K hK)
   refine zxa 209 #[.agg #[.bool (x k).neg, .slice ea1 ea2 ea3, .slice eb1 eb2 eb3], .agg #[.bool (y k).neg, .slice ec1 ec2 ec3, .slice ed1 ed2 ed3]] ?_ ?_ (r5mul_raw _ _ (x k) (y k) _ HFU.out HFV.out HF1.out HF2.out HF3.out) ?_
   ·rfl
   ·go_simp
   rintro e9 w9 ⟨v9,rfl,hv9,hb9⟩
   refine⟨_,rfl,?_⟩
   have hNew:(fun w'=>w'.cell? ⟨b5,0,none⟩=some (.bool t')/\w'.cell? ⟨b5,1,none⟩=some (.slice a1 l1 k1)/\w'.cell? ⟨b5,2,none⟩=some (.slice a2 l2 k2)/\w'.cell? (ptr vu (k*3))=some (.bool (x k).neg)/\w'.cell? (ptr vu (k*3+1))=some (.slice ea1 ea2 ea3)/\w'.cell? (ptr vu (k*3+2))=some (.slice eb1 eb2 eb3)/\w'.cell? (ptr vv (k*3))=some (.bool (y k).neg)/\w'.cell? (ptr vv (k*3+1))=some (.slice ec1 ec2 ec3)/\w'.cell? (ptr vv (k*3+2))=some (.slice ed1 ed2 ed3)) w9:=⟨zba hb9 q1,zba hb9 q2,zba hb9 q3,zba hb9 q4,zba hb9 q5,zba hb9 q6,zba hb9 q7,zba hb9 q8,zba hb9 q9⟩
   refine hK.out _ _ (fun _=>hNew) ?_
   clear hK K hHeld q1 q2 q3 q4 q5 q6 q7 q8 q9
   try simp only[Act.put,List.setIfInBounds_toArray,List.set_cons_zero,List.set_cons_succ]
   obtain⟨q1,q2,q3,q4,q5,q6,q7,q8,q9⟩:=hNew
   (refine wpN.oo 10 ?_;intro K hK)
   refine zxa 208 #[.agg #[.bool t', .slice a1 l1 k1, .slice a2 l2 k2],v9] ?_ ?_ (r5add_can _ _ _ _ _ (HVD.out.below hb9) hv9 HF4.out HF3.out HF5.out) ?_
   ·rfl
   ·go_simp
   rintro e10 w10 ⟨v10,rfl,hv10,hb10⟩
   obtain⟨t9,x9,y9,rfl,⟨a91,l91,k91,rfl,_⟩,⟨a92,l92,k92,rfl,_⟩⟩:=hv10.isF
   refine⟨_,rfl,?_⟩
   have hNew:(fun w'=>w'.cell? ⟨b5,0,none⟩=some (.bool t')/\w'.cell? ⟨b5,1,none⟩=some (.slice a1 l1 k1)/\w'.cell? ⟨b5,2,none⟩=some (.slice a2 l2 k2)/\w'.cell? (ptr vu (k*3))=some (.bool (x k).neg)/\w'.cell? (ptr vu (k*3+1))=some (.slice ea1 ea2 ea3)/\w'.cell? (ptr vu (k*3+2))=some (.slice eb1 eb2 eb3)/\w'.cell? (ptr vv (k*3))=some (.bool (y k).neg)/\w'.cell? (ptr vv (k*3+1))=some (.slice ec1 ec2 ec3)/\w'.cell? (ptr vv (k*3+2))=some (.slice ed1 ed2 ed3)) w10:=⟨zba hb10 q1,zba hb10 q2,zba hb10 q3,zba hb10 q4,zba hb10 q5,zba hb10 q6,zba hb10 q7,zba hb10 q8,zba hb10 q9⟩
   refine hK.out _ _ (fun _=>hNew) ?_
   clear hK K q1 q2 q3 q4 q5 q6 q7 q8 q9 hNew
   try simp only[Act.put,List.setIfInBounds_toArray,List.set_cons_zero,List.set_cons_succ]
   have HC10:=zH ((HCD.out.belowS hb9).belowS hb10)
   have HV10:=zH hv10
   have HB10:=zH (zfa (zfa (zfa HBR.out hbD HBR.out.size) hb9 (zfa HBR.out hbD HBR.out.size).size) hb10 (zfa (zfa HBR.out hbD HBR.out.size) hb9 (zfa HBR.out hbD HBR.out.size).size).size)
   obtain⟨_,c0,c1,c2,f0,f1,f2⟩:=HC10.out
   clear hv10 hb10 hv9 hb9 hbD
   (refine wpN.oo 11 ?_;intro K hK)
   rw[if_pos (by rfl)]
   go_simp
   refine hK.out _ _ (fun h=>by cases h) ?_
   clear hK K c0 c1 c2 f0 f1 f2
   refine wpN.done (by kernel_rfl) ?_ _
   go_wp2_with fail
   go_roundg (n- (k+1))
   case measure=>(have:=HG.out;omega)
   case rel=>exact⟨k+1,_,_,_,_,_,_,_,by omega,rfl,by go_num,HC10.out.set _ _ _,HV10.out.set3 HC10.out (fun z=>by simp) (fun z=>by simp) _ _ _,zga HB10.out h1314 _ _ _⟩
  ·obtain rfl:k=n:=by omega
   have HR2:=zH (HR0.out.below hbr HR0.out.lt)
   obtain⟨_,c0,c1,c2,f0,f1,f2⟩:=HR2.out
   obtain⟨_,d0,d1,d2,_,_,_⟩:=id hc3
   go_wp2_with fail
   refine zab rfl rfl Tryz.aggF Tryz.sizeF (HR2.out.set _ _ _) rfl ?_
   exact⟨_,rfl,hvk.set3 HR2.out (fun z=>by simp) (fun z=>by simp) _ _ _,zga hbw (zLR _) _ _ _⟩
set_option maxHeartbeats 3200000
theorem zfr.not {s:Bool} {n d:Nat} (h:¬zfr s n d) (ho:okN n d):¬0<fq s n d:=by
 by_cases hn:n=0
 ·rw[hn,zdv];exact Rat.lt_irrefl
 ·cases s
  ·exact absurd ⟨ho,rfl,hn⟩ h
  ·intro h0
   have h1:=zqu true n d ho.1
   have h2:0<n/Nat.gcd n d:=Nat.div_pos (Nat.le_of_dvd (Nat.pos_of_ne_zero hn) (Nat.gcd_dvd_left n d)) (Nat.gcd_pos_of_pos_left _ (Nat.pos_of_ne_zero hn))
   rw[decide_eq_true h2]at h1
   have h3:fq true n d<0:=of_decide_eq_true h1
   exact absurd h0 (Rat.not_lt.2 (Rat.le_of_lt h3))
set_option maxRecDepth 100000 in
theorem zkq (vx:Value) (t1:Bool) (nr dr:Nat) (b:Bool) (w:World) (hx:zdc w vx t1 nr dr) (hb:b=true↔zfr t1 nr dr):
 Calls Tryz.prog 115 #[vx] w (fun e w'=>e= .returned (.bool b)/\Below w.heap.size w w'):=by
 by_cases hp:zfr t1 nr dr
 ·obtain rfl:b=true:=hb.2 hp
  have HF:=zH hp.1
  obtain⟨z,hz⟩:∃z,zsr (fq t1 nr dr) 0=z:=⟨_,rfl⟩
  have hz0:0<z:=by rw[<-hz,zrw];exact hp.q
  have HZ:=zH hz
  clear hz hp hb
  obtain⟨x1,y1,rfl,hx4,hx5⟩:=id hx
  obtain⟨a11,l11,k11,rfl,_⟩:=hx4.slen.1
  obtain⟨a12,l12,k12,rfl,_⟩:=hx5.slen.1
  have hb2:=zca w (.cells #[.bool t1, .slice a11 l11 k11, .slice a12 l12 k12] 38)
  have HR:=zH (C3.new w 38 (.bool t1) (.slice a11 l11 k11) (.slice a12 l12 k12))
  have HX:=zH (hx.below hb2)
  have HB:=zH hb2
  clear hx hx4 hx5 hb2
  go_enter Tryz.func115,Tryz.ntmps115
  go_upto_region 1 with fail
  generalize w.alloc (.cells #[.bool t1, .slice a11 l11 k11, .slice a12 l12 k12] 38)=W2 at *
  obtain⟨_,d0,d1,d2,_,_,_⟩:=HR.out
  go_wp2_with (first
   |(go_at_call 49;(with_reducible refine(zlm _ _ _ _ _ HX.out HF.out).mono ?_);rintro e1 w1 ⟨rfl,hb1⟩
     clear d0 d1 d2
     obtain⟨_,d0,d1,d2,_,_,_⟩:=HR.out.belowS hb1
     have HX1:=zH (HX.out.below hb1)
     have HB1:=zH (zaa HB.out hb1)
     clear hb1)
   |(go_at_call 34;(with_reducible refine(zns _ t1 nr dr _ HX1.out HF.out).mono ?_);rw[HZ.out];rintro e2 w2 ⟨rfl,hb2⟩
     have HB2:=zH (zaa HB1.out hb2)))
  go_ret
  exact⟨rfl,HB2.out⟩
 ·obtain rfl:b=false:=by cases b;rfl;exact absurd (hb.1 rfl) hp
  by_cases hf:okN nr dr
  ·have HF:=zH hf
   obtain⟨z,hz⟩:∃z,zsr (fq t1 nr dr) 0=z:=⟨_,rfl⟩
   have hz0:¬0<z:=by rw[<-hz,zrw];exact zfr.not hp hf
   have hdz:decide (0<z)=false:=decide_eq_false hz0
   have HZ:=zH hz
   clear hz hp hb hf
   obtain⟨x1,y1,rfl,hx4,hx5⟩:=id hx
   obtain⟨a11,l11,k11,rfl,_⟩:=hx4.slen.1
   obtain⟨a12,l12,k12,rfl,_⟩:=hx5.slen.1
   have hb2:=zca w (.cells #[.bool t1, .slice a11 l11 k11, .slice a12 l12 k12] 38)
   have HR:=zH (C3.new w 38 (.bool t1) (.slice a11 l11 k11) (.slice a12 l12 k12))
   have HX:=zH (hx.below hb2)
   have HB:=zH hb2
   clear hx hx4 hx5 hb2
   go_enter Tryz.func115,Tryz.ntmps115
   go_upto_region 1 with fail
   generalize w.alloc (.cells #[.bool t1, .slice a11 l11 k11, .slice a12 l12 k12] 38)=W2 at *
   obtain⟨_,d0,d1,d2,_,_,_⟩:=HR.out
   go_wp2_with (first
    |(go_at_call 49;(with_reducible refine(zlm _ _ _ _ _ HX.out HF.out).mono ?_);rintro e1 w1 ⟨rfl,hb1⟩
      clear d0 d1 d2
      obtain⟨_,d0,d1,d2,_,_,_⟩:=HR.out.belowS hb1
      have HX1:=zH (HX.out.below hb1)
      have HB1:=zH (zaa HB.out hb1)
      clear hb1)
    |(go_at_call 34;(with_reducible refine(zns _ t1 nr dr _ HX1.out HF.out).mono ?_);rw[HZ.out];rintro e2 w2 ⟨rfl,hb2⟩
      have HB2:=zH (zaa HB1.out hb2)))
   go_ret
   exact⟨rfl,HB2.out⟩
  ·have HF:=zH hf
   clear hp hb hf
   obtain⟨x1,y1,rfl,hx4,hx5⟩:=id hx
   obtain⟨a11,l11,k11,rfl,_⟩:=hx4.slen.1
   obtain⟨a12,l12,k12,rfl,_⟩:=hx5.slen.1
   have hb2:=zca w (.cells #[.bool t1, .slice a11 l11 k11, .slice a12 l12 k12] 38)
   have HR:=zH (C3.new w 38 (.bool t1) (.slice a11 l11 k11) (.slice a12 l12 k12))
   have HX:=zH (hx.below hb2)
   have HB:=zH hb2
   clear hx hx4 hx5 hb2
   go_enter Tryz.func115,Tryz.ntmps115
   go_upto_region 1 with fail
   generalize w.alloc (.cells #[.bool t1, .slice a11 l11 k11, .slice a12 l12 k12] 38)=W2 at *
   obtain⟨_,d0,d1,d2,_,_,_⟩:=HR.out
   go_wp2_with (first
    |(go_at_call 49;(with_reducible refine(zms _ _ _ _ _ HX.out HF.out).mono ?_);rintro e1 w1 ⟨rfl,hb1⟩
      have HB1:=zH (zaa HB.out hb1)
      clear hb1))
   go_ret
   exact⟨rfl,HB1.out⟩
theorem zuv {n:Nat} {f:Nat->Rat} {i:Nat} (h:i<n):(zib n f).getD i 0=f i:=by
 have h2:i<(zib n f).length:=by rw[zea];exact h
 rw[zGD,zGE h2,Option.getD_some,ztb]
theorem qs_getD (row:List RF) (i:Nat):(qs row).getD i 0=(row.getD i rf0).q:=by
 by_cases h:i<row.length
 ·have h2:i<(qs row).length:=by rw[zgq];exact h
  rw[zGD,zGE h2,Option.getD_some,zqt _ _ h,zGD,zGE h,Option.getD_some]
 ·have h2:¬i<(qs row).length:=by rw[zgq];exact h
  rw[zGD,List.getElem?_eq_none (by omega),zGD,List.getElem?_eq_none (by omega)]
  exact(fq_zero false 1 (by decide)).symm
theorem zjv (va:Value) (n:Nat) (A:Mx) (w:World) (ha:zam w va n n A) (hf:zau n n A) (h1:1<=n) (h24:n<=24):
 Calls Tryz.prog 174 #[va] w fun e w'=>e= .returned (.int .i64 (wtF n n A:Nat))/\Below w.heap.size w w':=
 rweights_any va (rawM n n A) w ha.raw (zls h1 h24 h1 h24 hf)
theorem rdot_col (vu vv:Value) (n:Nat) (f:Nat->Rat) (row:List RF) (w:World) (hu:zbb w vu (zib n f)) (hv:zni w vv row) (hl:row.length=n) (hn:n<=1000) (hf:∀k,k<n->fits (f k)) (hok:∀x∈row,x.ok)
 (hp:∀k,k<n->fits ((qs row).getD k 0*f k)) (hs:∀k,k<=n->fits (sg k fun i=>(qs row).getD i 0*f i)):
 Calls Tryz.prog 176 #[vu,vv] w (RF1 w (sg n fun i=>(qs row).getD i 0*f i)):=by
 have e1:(zib n f).map RF.of=rowF n fun k=>RF.of (f k):=by unfold zib rowF;rw[List.map_map];rfl
 have e2:row=rowF n fun k=>row.getD k rf0:=by rw[<-hl];exact(rowF_of row).symm
 have h2:∀i,(RF.of (f i)).q*(row.getD i rf0).q=(qs row).getD i 0*f i:=fun i=>by rw[RF.of_q,qs_getD,Rat.mul_comm]
 have hu2:=hu.raw
 rw[e1]at hu2
 have hv2:zni w vv (rowF n fun k=>row.getD k rf0):=by rw[<-e2];exact hv
 have h:=rdot_raw vu vv n (fun k=>RF.of (f k)) (fun k=>row.getD k rf0) w hu2 hv2 hn (fun k hk=>RF.of_ok (hf k hk)) (fun k hk=>by
  have hk2:k<row.length:=by omega
  rw[zGD,zGE hk2,Option.getD_some]
  exact hok _ (zGM hk2))
  (fun k hk=>by rw[h2];exact hp k hk) (fun k hk=>by simp only[h2];exact hs k hk)
 simp only[h2]at h
 exact h
set_option maxRecDepth 100000 in
theorem r21step_any (va vv:Value) (n:Nat) (A:Mx) (row:List RF) (w:World) (ha:zam w va n n A) (hv:zni w vv row) (hl:row.length=n) (h1:1<=n) (h24:n<=24) (hok:∀x∈row,x.ok) (hf:zau n n A):
 Calls Tryz.prog 118 #[va,vv] w (RSt w (if wtF n n A+wts (qs row)<=3800 then 0 else 2) (if wtF n n A+wts (qs row)<=3800 then zib n fun j=>sg n fun i=>(qs row).getD i 0*A i j else [])):=by
 have HWA:Hid (∀w0 va,zam w0 va n n A->Calls Tryz.prog 174 #[va] w0 fun e w'=>e= .returned (.int .i64 (wtF n n A:Nat))/\Below w0.heap.size w0 w'):=zH (fun w0 va k=>zjv va n A w0 k hf h1 h24)
 have HWV:Hid (∀w0 vv,zni w0 vv row->Calls Tryz.prog 175 #[vv] w0 fun e w'=>e= .returned (.int .i64 (wts (qs row):Nat))/\Below w0.heap.size w0 w'):=zH (fun w0 vv k=>zvr vv row w0 k hok (by omega))
 have HA:=zH ha
 have HV:=zH hv
 have hb1:wtF n n A<=536870912*24:=by
  have h:=wtsM_lim (zls h1 h24 h1 h24 hf)
  exact h
 have hb2:wts (qs row)<=8192*24:=zLT (zgt row hok) (zML _ (by omega))
 by_cases hw:wtF n n A+wts (qs row)<=3800
 ·rw[if_pos hw,if_pos hw]
  obtain⟨i3,hi3,hz3,hs3,hy3⟩:=info_parts Tryz.infoF
  have hAP:=zpp (P:=Tryz.prog) 25 38 i3 Tryz.underlying25 hi3 hz3 hs3 hy3
  clear hi3 hz3 hs3 hy3
  have HDOT:Hid (∀w0 vu vv j,j<n->zbb w0 vu (zib n fun i=>A i j)->zni w0 vv row->Calls Tryz.prog 176 #[vu,vv] w0 (RF1 w0 (sg n fun i=>(qs row).getD i 0*A i j))):=zH (fun w0 vu vv j hj k1 k2=>
   rdot_col vu vv n (fun i=>A i j) row w0 k1 k2 hl (by omega) (fun k hk=>hf k j hk hj) hok (fun k hk=>step_prod (by rw[zgq];exact hl) hw hk hj) (fun k hk=>zvu (by rw[zgq];exact hl) hw hk hj))
  obtain⟨W1,hW1⟩:∃W,wtF n n A=W:=⟨_,rfl⟩
  obtain⟨W2,hW2⟩:∃W,wts (qs row)=W:=⟨_,rfl⟩
  rw[hW1,hW2]at hw
  rw[hW1]at HWA
  rw[hW2]at HWV
  have hwi:¬ (3800:Int)<(W1:Nat)+(W2:Nat):=by omega
  obtain⟨v1,vn,v3,rfl,_⟩:=id hv.sl
  have hvn:vn=n:=hv.len.trans hl
  subst hvn
  have sv:=hv.sl
  have sa:=ha.sl
  have la:=ha.len
  have hn24:=h24
  clear ha hv hb1 hb2 hW1 hW2 hok hf hl hw
  go_enter Tryz.func118,Tryz.ntmps118
  go_wp2_with (first
   |(go_at_call 174;(with_reducible refine(HWA.out _ _ HA.out).mono ?_);rintro e1 w1 ⟨rfl,hb1⟩
     have HV1:=zH (HV.out.below hb1))
   |(go_at_call 175;(with_reducible refine(HWV.out _ _ HV1.out).mono ?_);rintro e2 w2 ⟨rfl,hb2⟩
     have HB2:=zH (zaa hb1 hb2)
     clear hb1 hb2))
  go_loopg [6,7] (vn) (fun g u6 u7 wr=>∃ (j:Nat),j<=vn/\g=vn-j/\u7= .int .i64 j/\zya wr 38 w2.heap.size u6 (zib j fun j=>sg vn fun i=>(qs row).getD i 0*A i j)/\Below w2.heap.size w2 wr)
  case atStart=>exact⟨0,zZL _,rfl,rfl,zya.nil _ _ _,Below.refl _ _⟩
  case round=>
   obtain⟨j,hjn,hg,rfl,hfr,hbr⟩:=hrel
   obtain⟨W5,hw5⟩:∃w5,w5=wr:=⟨_,rfl⟩
   subst hw5
   have HG:=zH hg
   have HFR:=zH hfr
   have HBR:=zH hbr
   have sfr:=hfr.sl
   clear hg hfr hbr
   by_cases hjl:j<vn
   ·go_wp2_with fail
    go_loopg [8,9] (vn) (fun g u8 u9 wi=>∃ (i:Nat),i<=vn/\g=vn-i/\u9= .int .i64 i/\zya wi 38 W5.heap.size u8 (zib i fun i=>A i j)/\Below W5.heap.size W5 wi)
    case atStart=>exact⟨0,zZL _,rfl,rfl,zya.nil _ _ _,Below.refl _ _⟩
    case round=>
     obtain⟨i,hin,hg,rfl,hfc,hbi⟩:=hrel
     obtain⟨W7,hw7⟩:∃w7,w7=wr:=⟨_,rfl⟩
     subst hw7
     have HGI:=zH hg
     have HFC:=zH hfc
     have HBI:=zH hbi
     have HBJ:=zH (zfa HBR.out hbi HBR.out.size)
     have HBW:=zH (zfa HB2.out HBJ.out HB2.out.size)
     have sfc:=hfc.sl
     clear hg hbi
     by_cases hil:i<vn
     ·obtain⟨ri,hci,hri⟩:=(HA.out.below HBW.out).row i hil
      obtain⟨ri1,ri2,ri3,rfl,_⟩:=id hri.sl
      have sri:=hri.sl
      have hri2:ri2=vn:=by have h:=hri.len;rw[zea]at h;exact h
      subst hri2
      obtain⟨ts,as1,ls1,ks1,as2,ls2,ks2,g1,g2,g3,hfs⟩:=hri.cellsAt (k:=j) (by rw[zea];exact hjl)
      rw[zuv hjl]at hfs
      have HFS:=zH hfs
      have hlen:(zib i fun i=>A i j).length<=1000:=by rw[zea];omega
      have hsz:=HBI.out.size
      have i1:(0:Int)<=(i:Int):=by omega
      have i2:(i:Int)<(ri2:Nat):=by omega
      have j1:(0:Int)<=(j:Int):=by omega
      have j2:(j:Int)<(ri2:Nat):=by omega
      clear hri hfs hfc
      go_wp2_with (first
       |(at_builtin;refine hAP _ rfl _ _ rfl W5.heap.size _ u8 (zib i fun i=>A i j) rfl HFC.out _ _ _ (A i j) HFS.out rfl hlen hsz ?_;intro v50 w50 ho50 hg50 hn50 hq50 sv50
         have hbg:=zid hg50 hsz HFC.out.block
         have HB50:=zH (HBI.out.trans hbg)
         have HO50:=zH ho50
         clear hbg hg50 hn50 hq50 ho50))
      go_roundg (ri2- (i+1))
      case measure=>(have:=HGI.out;omega)
      case rel=>exact⟨i+1,by omega,rfl,by go_num,by rw[<-zlk];exact HO50.out,HB50.out⟩
     ·obtain rfl:i=vn:=by omega
      have HFC2:=zH hfc.fracs
      have HVW:=zH (HV.out.below HBW.out)
      have HFR7:=zH (HFR.out.moves (zhb.below (B:=w2.heap.size) HBI.out) (zLR _))
      have hlen:(zib j fun j=>sg i fun k=>(qs row).getD k 0*A k j).length<=1000:=by rw[zea];omega
      clear hfc
      go_wp2_with (first
       |(go_at_call 176;(with_reducible refine(HDOT.out _ _ _ j hjl HFC2.out HVW.out).mono ?_);rintro e31 w31 ⟨v31,rfl,hv31,hb31⟩
         obtain⟨t6,x31,y31,rfl,⟨a61,l61,k61,rfl,_⟩,⟨a62,l62,k62,rfl,_⟩⟩:=hv31.isF
         have hfr5:=HFR7.out.moves (zhb.below (B:=w2.heap.size) hb31) (zLR _)
         have hB9:=zfa HBJ.out hb31 HBJ.out.size
         have hsz5:=hB9.size)
       |(at_builtin;refine hAP w31 rfl _ _ rfl w2.heap.size _ u6 (zib j fun j=>sg i fun k=>(qs row).getD k 0*A k j) rfl hfr5 _ _ _ _ hv31 rfl hlen hsz5 ?_;intro v4' w50 ho50 hg50 hn50 hq50 sv50
         have hg5:=zid hg50 hsz5 hfr5.block
         have HO50:=zH ho50))
      go_roundg (i- (j+1))
      case measure=>(have:=HG.out;omega)
      case rel=>exact⟨j+1,by omega,rfl,by go_num,by rw[<-zlk];exact HO50.out,hB9.trans hg5⟩
   ·obtain rfl:j=vn:=by omega
    go_wp2_with fail
    go_ret2
    exact⟨_,rfl,HFR.out.fracs,zfa HB2.out HBR.out HB2.out.size⟩
 ·rw[if_neg hw,if_neg hw]
  obtain⟨W1,hW1⟩:∃W,wtF n n A=W:=⟨_,rfl⟩
  obtain⟨W2,hW2⟩:∃W,wts (qs row)=W:=⟨_,rfl⟩
  rw[hW1,hW2]at hw
  rw[hW1]at HWA hb1
  rw[hW2]at HWV hb2
  have hwi:(3800:Int)<(W1:Nat)+(W2:Nat):=by omega
  clear ha hv hW1 hW2 hok hf hl hw
  go_enter Tryz.func118,Tryz.ntmps118
  go_wp2_with (first
   |(go_at_call 174;(with_reducible refine(HWA.out _ _ HA.out).mono ?_);rintro e1 w1 ⟨rfl,hb1⟩
     have HV1:=zH (HV.out.below hb1))
   |(go_at_call 175;(with_reducible refine(HWV.out _ _ HV1.out).mono ?_);rintro e2 w2 ⟨rfl,hb2⟩
     have HB2:=zH (zaa hb1 hb2)
     clear hb1 hb2))
  go_ret2
  exact RSt.nil rfl rfl HB2.out
theorem zpt (va vv:Value) (c:RC) (ρ:Rat) (row:List RF) (w:World) (n:Nat) (hn:c.rates.length=n) (ha:zam w va n n (zfq c ρ)) (hv:zni w vv row) (hl:row.length=n) (h1:1<=n) (h24:n<=24) (hok:∀x∈row,x.ok) (hf:zau n n (zfq c ρ)):
 Calls Tryz.prog 118 #[va,vv] w (RSt w (zur c ρ (qs row)) (zjs c ρ (qs row))):=by
 have h:=r21step_any va vv n (zfq c ρ) row w ha hv hl h1 h24 hok hf
 subst hn
 exact h
end Go.Proofs.YtlpdkbmmbdfoiaaGreat
