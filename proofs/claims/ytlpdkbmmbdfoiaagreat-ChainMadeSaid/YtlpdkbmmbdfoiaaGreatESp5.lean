/- Lemmas. -/
import Derived.Test.YtlpdkbmmbdfoiaaGreatESp4
import Derived.Test.YtlpdkbmmbdfoiaaGreatESz2
set_option linter.unusedVariables false
set_option linter.unusedSimpArgs false
namespace Go.Proofs.YtlpdkbmmbdfoiaaGreat
set_option maxRecDepth 100000
open Go.RowKit
theorem zwr (va:Value) (n m:Nat) (A:Mx) (w:World) (ha:zam w va n m A) (hn:n<=1000) (hm:m<=1000) (hf:zau n m A):
 Calls Tryz.prog 146 #[va] w fun e w'=>e= .returned (.int .i64 (wtF n m A))/\Below w.heap.size w w':=
 zzq va _ w ha.raw (zyu hf) (fun l hl=>by rw[zhn l hl];omega) (by rw[zpc];omega)
theorem mul_rc (va vb:Value) (x:RF) (q:Rat) (w:World) (ha:zdc w va x.neg x.n x.d) (hb:zqa w vb q) (hx:x.ok) (hq:fits q) (hr:fits (x.q*q)):Calls Tryz.prog 131 #[va,vb] w (RF0 w (x.q*q)):=by
 have h:=mul_frac va vb _ _ _ _ _ _ w ha hb.raw hx (zuc hq)
 rw[zvb]at h
 exact h.mono fun _ _ h=>h.ok rfl hr
theorem RF.zero_q {x:RF} (h:x.n=0):x.q=0:=by unfold RF.q;rw[h];exact zdv _ _
set_option maxHeartbeats 6400000 in
theorem cstep_any (va vv:Value) (n:Nat) (A:Mx) (row:List RF) (w:World) (ha:zam w va n n A) (hv:zni w vv row) (hl:row.length=n) (hn:n<=128) (hok:∀x∈row,x.ok) (hf:zau n n A) (hw:wtF n n A+wts (qs row)<=3800):
 Calls Tryz.prog 84 #[va,vv] w fun e w'=>∃v,e= .returned (.tuple #[v, .int .i64 0])/\zbb w' v (zib n fun j=>sg n fun i=>(qs row).getD i 0*A i j)/\Below w.heap.size w w':=by
 have HP:Hid (∀i j,i<n->j<n->fits ((qs row).getD i 0*A i j)):=zH (fun i j hi hj=>step_prod (by rw[zgq];exact hl) hw hi hj)
 have HS:Hid (∀k j,k<=n->j<n->fits (sg k fun i=>(qs row).getD i 0*A i j)):=zH (fun k j hk hj=>zvu (by rw[zgq];exact hl) hw hk hj)
 have HOK:=zH hok
 have HAQ:Hid (∀i (h:i<row.length),(qs row).getD i 0=row[i].q):=zH (fun i h=>by
  have h2:i<(qs row).length:=by rw[zgq];exact h
  rw[zGD,zGE h2,Option.getD_some,zqt _ _ h])
 obtain⟨X,hX⟩:∃X:Nat->Rat,(fun i=>(qs row).getD i 0)=X:=⟨_,rfl⟩
 have hX2:∀i,(qs row).getD i 0=X i:=fun i=>by rw[<-hX]
 simp only[hX2]at HP HS HAQ |-
 obtain⟨i0,hi,hz0,hz1,hz2⟩:=info_parts Tryz.infoF
 have hM:=zon (P:=Tryz.prog) 25 38 i0 Tryz.underlying25 hi hz0 hz1 (by rw[hz2];decide)
 clear hi hz0 hz1 hz2
 obtain⟨W1,hW1⟩:∃W,wtF n n A=W:=⟨_,rfl⟩
 obtain⟨W2,hW2⟩:∃W,wts (qs row)=W:=⟨_,rfl⟩
 rw[hW1,hW2]at hw
 have HW1:=zH hW1
 have HW2:Hid (zxr [row]=W2):=zH (by rw[zhr];exact hW2)
 have HF:=zH hf
 have HV:=zH hv
 have HA:=zH ha
 obtain⟨vb1,vb2,vb3,rfl,_⟩:=id hv.sl
 have sa:=ha.sl
 have la:=ha.len
 have sv:=hv.sl
 have hvb2:vb2=n:=by have h:=hv.len;rw[hl]at h;exact h
 subst hvb2
 have HL:=zH hl
 have i1000:vb2<=1000:=by omega
 have HO1:Hid (∀l∈ [row],∀x∈l,x.ok):=zH (fun l h x hx=>by
  have :l=row:=by simpa using h
  subst this;exact hok x hx)
 have HO2:Hid (∀l∈ [row],l.length<=65536):=zH (fun l h=>by
  have :l=row:=by simpa using h
  subst this;omega)
 have HO3:Hid ([row].length<=65536):=zH (by simp)
 clear hW1 hW2 ha hv hf hok hl
 clear hX hX2
 have hwi:(W1:Int)+(W2:Nat)<=3800:=by omega
 clear hw
 go_enter Tryz.func84,Tryz.ntmps84
 go_wp2_with (first
  |(go_at_call 146;first
    |((with_reducible refine(zwr va vb2 vb2 A _ HA.out i1000 i1000 HF.out).mono ?_);rw[HW1.out];rintro e3 w3 ⟨rfl,hb3⟩
      have hb4:=zca w3 (.cells #[.slice vb1 vb2 vb3] 25)
      have hM4:=mat_one (zjf.new w3 #[.slice vb1 vb2 vb3] 25) (HV.out.below (zaa hb3 hb4)))
    |((with_reducible refine(zzq _ [row] _ hM4 HO1.out HO2.out HO3.out).mono ?_);rw[HW2.out];rintro e5 w5 ⟨rfl,hb5⟩
      have hB5:=zaa (zaa hb3 hb4) hb5
      clear hM4))
  |(refine hM w5 rfl _ _ rfl w5.heap.size _ vb2 rfl rfl rfl (by omega) (zLR _) ?_;intro vL w6 hO6 hb6 hv6
    have HO6:=zH hO6
    have HB6:=zH hb6
    have HB5:=zH hB5
    have slL:=hO6.sl
    have lnL:=hO6.len
    clear hO6 hb6 hB5 hb5 hb4 hb3))
 clear hM
 go_loopg [26] (vb2) (fun g u26 wr=>∃ (j:Nat),j<=vb2/\g=vb2-j/\u26= .int .i64 j/\zqb wr 38 w5.heap.size vL vb2/\(∀t,t<j->zlg wr vL t 0)/\Below w5.heap.size w5 wr)
 case atStart=>exact⟨0,zZL _,rfl,rfl,HO6.out,fun j h=>by omega,HB6.out⟩
 case round=>
  obtain⟨j,hjn,hg,rfl,ho,he,hbr⟩:=hrel
  obtain⟨w2,hw2⟩:∃w2,w2=wr:=⟨_,rfl⟩
  subst hw2
  have HG:=zH hg
  have HE:=zH he
  have HO:=zH ho
  have HBR:=zH hbr
  clear he hg HO6 HB6
  by_cases hjl:j<vb2
  ·have i1:(0:Int)<=(j:Int):=by omega
   have i2:(j:Int)<(vb2:Nat):=by omega
   clear ho hbr
   go_wp2_with (go_at_call 109;(with_reducible refine(zdr _).mono ?_);rintro e31 w31 ⟨v31,rfl,hv31,hb31⟩
                obtain⟨t6,x31,y31,rfl,⟨a61,l61,k61,rfl,_⟩,⟨a62,l62,k62,rfl,_⟩⟩:=hv31.isF
                have ho3:=HO.out.below hb31
                obtain⟨c0,d0,_⟩:=ho3.cell (j*3) (by omega)
                obtain⟨c1,d1,_⟩:=ho3.cell (j*3+1) (by omega)
                obtain⟨c2,d2,_⟩:=ho3.cell (j*3+2) (by omega)
                have f0:=ho3.frozen (j*3)
                have f1:=ho3.frozen (j*3+1)
                have f2:=ho3.frozen (j*3+2)
                have n01:=ho3.inj (show j*3≠j*3+1 by omega)
                have n02:=ho3.inj (show j*3≠j*3+2 by omega)
                have n12:=ho3.inj (show j*3+1≠j*3+2 by omega)
                have HS3:=zH (ho3.set3 j (.bool t6) (.slice a61 l61 k61) (.slice a62 l62 k62) (fun z=>by simp) (fun z=>by simp) (fun z=>by simp))
                have HE3:=zH (fun t ht=>(HE.out t ht).below hb31)
                have HO3:=zH ho3
                have HV6:=zH hv31
                have HB3:=zH (zfa HBR.out hb31 HBR.out.size)
                clear ho3 hv31 hb31)
   go_roundg (vb2- (j+1))
   case measure=>(have:=HG.out;omega)
   case rel=>
    refine⟨j+1,by omega,rfl,by go_num,HS3.out.1,fun t ht=> ?_,HB3.out.trans HS3.out.2⟩
    rcases Nat.lt_or_ge t j with h6 | h6
    ·exact zlg.set3_other HO3.out hjl (by omega) (HE3.out t h6) _ _ _ (fun z=>by simp) (fun z=>by simp)
    ·obtain rfl:t=j:=by omega
     exact zlg.set3 HO3.out hjl HV6.out
  ·obtain rfl:j=vb2:=by omega
   clear ho hbr
   go_wp2_with fail
   go_loopg [36] (j) (fun g u36 wr=>∃ (i:Nat),i<=j/\g=j-i/\u36= .int .i64 i/\zqb wr 38 w5.heap.size vL j/\(∀t,t<j->zlg wr vL t (sg i fun k=>X k*A k t))/\Below w5.heap.size w5 wr)
   case atStart=>exact⟨0,zZL _,rfl,rfl,HO.out,HE.out,HBR.out⟩
   case round=>
    obtain⟨i,hin,hg2,rfl,ho,he,hbr⟩:=hrel
    obtain⟨w3',hw3⟩:∃w3,w3=wr:=⟨_,rfl⟩
    subst hw3
    have HG2:=zH hg2
    have HE2:=zH he
    have HO2':=zH ho
    have HBR2:=zH hbr
    have hBw:=zfa HB5.out hbr HB5.out.size
    have HBW:=zH hBw
    clear he hg2 HE HO HBR HG
    by_cases hil:i<j
    ·have hil2:i<row.length:=by rw[HL.out];exact hil
     obtain⟨ea,eb,g1,g2,g3,g4,g5⟩:=HV.out.at' i hil2
     have g1:=zba hBw g1
     have g2:=zba hBw g2
     have g3:=zba hBw g3
     have HXO:Hid ((row[i]'hil2).ok):=zH (HOK.out _ (zGM hil2))
     have HXQ:=zH (HAQ.out i hil2)
     obtain⟨x,hxe⟩:∃x,row[i]'hil2=x:=⟨_,rfl⟩
     rw[hxe]at g1 g4 g5 HXQ HXO
     obtain⟨ea1,ea2,ea3,rfl,_⟩:=g4.slen.1
     obtain⟨eb1,eb2,eb3,rfl,_⟩:=g5.slen.1
     have HXM:=zH g4
     have HXN:Hid (zdc w (.agg #[.bool x.neg, .slice ea1 ea2 ea3, .slice eb1 eb2 eb3]) x.neg x.n x.d):=zH ⟨_,_,rfl,g4,g5⟩
     have HXC:=zH (C3.new w3' 38 (.bool x.neg) (.slice ea1 ea2 ea3) (.slice eb1 eb2 eb3))
     have hb8:=zca w3' (.cells #[.bool x.neg, .slice ea1 ea2 ea3, .slice eb1 eb2 eb3] 38)
     obtain⟨ri,hci,hri⟩:=HA.out.row i hil
     have hci:=zba (zaa hBw hb8) hci
     obtain⟨ri1,ri2,ri3,rfl,_⟩:=id hri.sl
     have hri2:ri2=j:=by have h:=hri.len;rw[zea]at h;exact h
     subst hri2
     have sri:=hri.sl
     have HRI:=zH hri
     have HO8:=zH (HO2'.out.below hb8)
     have HE8:=zH (fun t ht=>(HE2.out t ht).below hb8)
     have HB8:=zH (zfa HBR2.out hb8 HBR2.out.size)
     have HBLK:=zH HO2'.out.block.2
     have i1:(0:Int)<=(i:Int):=by omega
     have i2:(i:Int)<(ri2:Nat):=by omega
     clear ho hbr hBw g4 g5 hxe hri HE2 HBR2 HBW hb8
     go_wp2_with fail
     generalize w3'.alloc (.cells #[.bool x.neg, .slice ea1 ea2 ea3, .slice eb1 eb2 eb3] 38)=w8 at *
     clear g1 g2 g3 hci
     obtain⟨b9,hb9⟩:∃b,w3'.heap.size=b:=⟨_,rfl⟩
     rw[hb9]at HXC HBLK |-
     go_loopg [46] (ri2) (fun g u46 wr=>∃ (k:Nat),k<=ri2/\g=ri2-k/\u46= .int .i64 k/\zqb wr 38 w5.heap.size vL ri2/\(∀t,t<ri2->zlg wr vL t (if t<k then sg (i+1) (fun l=>X l*A l t)else sg i (fun l=>X l*A l t)))/\C3 wr b9 (.bool x.neg) (.slice ea1 ea2 ea3) (.slice eb1 eb2 eb3)/\Below w5.heap.size w5 wr)
     case atStart=>exact⟨0,zZL _,rfl,rfl,HO8.out,fun t ht=>by rw[if_neg (Nat.not_lt_zero t)];exact HE8.out t ht,HXC.out,HB8.out⟩
     case round=>
      obtain⟨k,hkn,hg3,rfl,ho,he,hxc,hbr⟩:=hrel
      obtain⟨w7,hw7⟩:∃w7,w7=wr:=⟨_,rfl⟩
      subst hw7
      have HG3:=zH hg3
      have HE3:=zH he
      have HO3:=zH ho
      have HXC3:=zH hxc
      have HBR3:=zH hbr
      have hBw7:=zfa HB5.out hbr HB5.out.size
      clear he hg3 HO8 HE8 HXC HB8
      by_cases hkl:k<ri2
      ·obtain⟨ya,yb,g1,g2,g3,g4,g5⟩:=(HRI.out.below hBw7).at' k (by rw[zea];exact hkl)
       rw[ztb]at g1 g4 g5
       obtain⟨ya1,ya2,ya3,rfl,_⟩:=g4.v.sl
       obtain⟨yb1,yb2,yb3,rfl,_⟩:=g5.v.sl
       have HFY:Hid (fits (A i k)):=zH (HF.out i k hil hkl)
       have HPY:Hid (fits (X i*A i k)):=zH (HP.out i k hil hkl)
       have HSY:Hid (fits (sg i (fun l=>X l*A l k))/\fits (sg (i+1) (fun l=>X l*A l k))):=zH ⟨HS.out i k (by omega) hkl,HS.out (i+1) k (by omega) hkl⟩
       obtain⟨y,hye⟩:∃y,A i k=y:=⟨_,rfl⟩
       rw[hye]at g1 g4 g5 HFY HPY
       have HYE:=zH hye
       have hb8:=zca w7 (.cells #[.bool (decide (y<0)), .slice ya1 ya2 ya3, .slice yb1 yb2 yb3] 38)
       have HYM:Hid (zob (w7.alloc (.cells #[.bool (decide (y<0)), .slice ya1 ya2 ya3, .slice yb1 yb2 yb3] 38)) (.slice ya1 ya2 ya3) y.num.natAbs):=zH (g4.below hb8).nat
       have HXM7:Hid (zob (w7.alloc (.cells #[.bool (decide (y<0)), .slice ya1 ya2 ya3, .slice yb1 yb2 yb3] 38)) (.slice ea1 ea2 ea3) x.n):=zH (HXM.out.below (zaa hBw7 hb8))
       have HYQ:Hid (zqa (w7.alloc (.cells #[.bool (decide (y<0)), .slice ya1 ya2 ya3, .slice yb1 yb2 yb3] 38)) (.agg #[.bool (decide (y<0)), .slice ya1 ya2 ya3, .slice yb1 yb2 yb3]) y):=zH (zqa.below ⟨_,_,rfl,g4,g5⟩ hb8)
       have HXN7:=zH (HXN.out.below (zaa hBw7 hb8))
       have HO8:=zH (HO3.out.below hb8)
       have HE8:=zH (fun t ht=>(HE3.out t ht).below hb8)
       have hxc8:=HXC3.out.belowS hb8
       have HXC8:=zH hxc8
       have hyc8:=C3.new w7 38 (.bool (decide (y<0))) (.slice ya1 ya2 ya3) (.slice yb1 yb2 yb3)
       have HB8:=zH (zfa HBR3.out hb8 HBR3.out.size)
       have HB9:Hid (b9<w7.heap.size):=zH hxc.lt
       obtain⟨_,x0,x1,x2,_,_,_⟩:=hxc8
       obtain⟨_,y0,y1,y2,_,_,_⟩:=hyc8
       have k1:(0:Int)<=(k:Int):=by omega
       have k2:(k:Int)<(ri2:Nat):=by omega
       have HSTEP:Hid ((sg (i+1) fun l=>X l*A l k)=(sg i fun l=>X l*A l k)+X i*y):=zH (by rw[sg,HYE.out])
       have HREL:Hid (∀wr,(∀t,t<ri2->t≠k->zlg wr vL t (if t<k then sg (i+1) (fun l=>X l*A l t)else sg i (fun l=>X l*A l t)))->zlg wr vL k (sg (i+1) fun l=>X l*A l k)->∀t,t<ri2->zlg wr vL t (if t<k+1 then sg (i+1) (fun l=>X l*A l t)else sg i (fun l=>X l*A l t))):=zH (fun wr h1 h2 t ht=>by
        by_cases e:t=k
        ·subst e;rw[if_pos (Nat.lt_succ_self t)];exact h2
        ·have h:=h1 t ht e
         by_cases e2:t<k
         ·rw[if_pos e2]at h;rw[if_pos (by omega)];exact h
         ·rw[if_neg e2]at h;rw[if_neg (by omega)];exact h)
       clear ho hxc hbr hBw7 hb8 g4 g5 hye HO3 HE3 HXC3 HBR3
       by_cases hxz:x.n=0
       ·have HBX:Hid (zua x.n=0):=zH (by rw[hxz];rfl)
        have HXZ:Hid (X i=0):=zH (by rw[HXQ.out];exact RF.zero_q hxz)
        clear hxz
        go_wp2_with (go_at_call 156;(with_reducible refine(zva _ x.n _ HXM7.out).mono ?_);rw[HBX.out];rintro e21 w21 ⟨rfl,rfl⟩)
        go_roundg (ri2- (k+1))
        case measure=>(have:=HG3.out;omega)
        case rel=>exact⟨k+1,by omega,rfl,by go_num,HO8.out,HREL.out _ (fun t ht _=>HE8.out t ht) (by rw[HSTEP.out,HXZ.out,Rat.zero_mul,Rat.add_zero];have h:=HE8.out k hkl;rwa[if_neg (Nat.lt_irrefl k)]at h),HXC8.out,HB8.out⟩
       ·obtain⟨M,hM⟩:∃M,zua x.n=M:=⟨_,rfl⟩
        have hM0:(0:Int)<(M:Nat):=by have:=zld.2 hxz;omega
        have HBX:=zH hM
        clear hM hxz
        by_cases hyz:y.num.natAbs=0
        ·have HBY:Hid (zua y.num.natAbs=0):=zH (by rw[hyz];rfl)
         have HYZ:Hid (y=0):=zH (Rat.num_eq_zero.1 (Int.natAbs_eq_zero.1 hyz))
         clear hyz
         go_wp2_with (go_at_call 156;first
          |((with_reducible refine(zva _ x.n _ HXM7.out).mono ?_);rw[HBX.out];rintro e21 w21 ⟨rfl,rfl⟩)
          |((with_reducible refine(zva _ y.num.natAbs _ HYM.out).mono ?_);rw[HBY.out];rintro e22 w22 ⟨rfl,rfl⟩))
         go_roundg (ri2- (k+1))
         case measure=>(have:=HG3.out;omega)
         case rel=>exact⟨k+1,by omega,rfl,by go_num,HO8.out,HREL.out _ (fun t ht _=>HE8.out t ht) (by rw[HSTEP.out,show X i*y=0 from by rw[HYZ.out,Rat.mul_zero],Rat.add_zero];have h:=HE8.out k hkl;rwa[if_neg (Nat.lt_irrefl k)]at h),HXC8.out,HB8.out⟩
        ·obtain⟨M',hM'⟩:∃M,zua y.num.natAbs=M:=⟨_,rfl⟩
         have hM0':(0:Int)<(M':Nat):=by have:=zld.2 hyz;omega
         have HBY:=zH hM'
         clear hM' hyz
         go_wp2_with (first
          |(go_at_call 156;first
           |((with_reducible refine(zva _ x.n _ HXM7.out).mono ?_);rw[HBX.out];rintro e21 w21 ⟨rfl,rfl⟩)
           |((with_reducible refine(zva _ y.num.natAbs _ HYM.out).mono ?_);rw[HBY.out];rintro e22 w22 ⟨rfl,rfl⟩))
          |(go_at_call 131;(with_reducible refine(mul_rc _ _ x y _ HXN7.out HYQ.out HXO.out HFY.out (by rw[<-HXQ.out];exact HPY.out)).mono ?_);rw[<-HXQ.out];rintro e23 w23 ⟨v23,rfl,hv23,hb23⟩
            obtain⟨t23,x23,y23,rfl,⟨a231,l231,k231,rfl,_⟩,⟨a232,l232,k232,rfl,_⟩⟩:=hv23.isF
            have hba:=zca w23 (.cells #[.bool t23, .slice a231 l231 k231, .slice a232 l232 k232] 38)
            have hbb:=zaa hb23 hba
            have HV9:=zH (hv23.below hba)
            have HC9:=zH (C3.new w23 38 (.bool t23) (.slice a231 l231 k231) (.slice a232 l232 k232))
            have HO9:=zH (HO8.out.below hbb)
            have HE9:=zH (fun t ht=>(HE8.out t ht).below hbb)
            have HXC9:=zH (HXC8.out.belowS hbb)
            have HB9':=zH (zfa HB8.out hbb HB8.out.size)))
         obtain⟨b12,hb12⟩:∃b,w23.heap.size=b:=⟨_,rfl⟩
         rw[hb12]at HC9 |-
         clear hb12 x0 x1 x2 y0 y1 y2 hba hbb hb23 hv23
         generalize w23.alloc (.cells #[.bool t23, .slice a231 l231 k231, .slice a232 l232 k232] 38)=w9 at *
         have hbD:=zja (B:=w9.heap.size) w9
         have he9:=HE9.out k hkl
         rw[if_neg (Nat.lt_irrefl k)]at he9
         obtain⟨na,nb,n0,n1,n2,n4,n5⟩:=he9.below hbD
         obtain⟨na1,na2,na3,rfl,_⟩:=n4.v.sl
         obtain⟨nb1,nb2,nb3,rfl,_⟩:=n5.v.sl
         have hNQ:zqa w9.drew (.agg #[.bool (decide ((sg i fun l=>X l*A l k)<0)), .slice na1 na2 na3, .slice nb1 nb2 nb3]) (sg i fun l=>X l*A l k):=⟨_,_,rfl,n4,n5⟩
         have hZQ:=HV9.out.below hbD
         obtain⟨_,z0,z1,z2,_,_,_⟩:=HC9.out.belowS hbD
         have HSI:=zH HSY.out.1
         have HSJ:Hid (fits ((sg i fun l=>X l*A l k)+X i*y)):=zH (by rw[<-HSTEP.out];exact HSY.out.2)
         obtain⟨S,hS⟩:∃S,(sg i fun l=>X l*A l k)=S:=⟨_,rfl⟩
         rw[hS]at n0 n4 n5 hNQ HSI HSJ HSTEP
         obtain⟨wd,hwd⟩:∃wd,w9.drew=wd:=⟨_,rfl⟩
         rw[hwd]at hbD n0 n1 n2 hNQ hZQ z0 z1 z2
         have hO9:=HO9.out.below hbD
         clear n4 n5 he9 hS HSY
         refine wpL.start 12 (fun w'=>w'.cell? (ptr vL (k*3))=some (.bool (decide (S<0)))/\w'.cell? (ptr vL (k*3+1))=some (.slice na1 na2 na3)/\w'.cell? (ptr vL (k*3+2))=some (.slice nb1 nb2 nb3)/\w'.cell? ⟨b12,0,none⟩=some (.bool t23)/\w'.cell? ⟨b12,1,none⟩=some (.slice a231 l231 k231)/\w'.cell? ⟨b12,2,none⟩=some (.slice a232 l232 k232)) (by kernel_rfl) (by rw[hwd];exact⟨n0,n1,n2,z0,z1,z2⟩) (fun hHeld=> ?_)
         rw[hwd]at hHeld |-
         refine wpL.u 0 ?_
         refine wpL.u 1 ?_
         refine wpL.t 2 ?_
         refine wpL.t 3 ?_
         refine wpL.t 4 ?_
         refine wpL.t 5 ?_
         refine wpL.t 6 ?_
         (refine wpL.oo 7 ?_;intro K hK)
         refine zxa 80 #[.agg #[.bool (decide (S<0)), .slice na1 na2 na3, .slice nb1 nb2 nb3], .agg #[.bool t23, .slice a231 l231 k231, .slice a232 l232 k232]] ?_ ?_ (add_can _ _ S (X i*y) wd hNQ hZQ HSI.out HPY.out HSJ.out) ?_
         ·rfl
         ·go_simp
         rintro e24 w24 ⟨v24,rfl,hv24,hb24⟩
         obtain⟨t24,x24,y24,rfl,⟨a241,l241,k241,rfl,_⟩,⟨a242,l242,k242,rfl,_⟩⟩:=hv24.isF
         refine⟨_,rfl,?_⟩
         have hHeld:w24.cell? (ptr vL (k*3))=some (.bool (decide (S<0)))/\w24.cell? (ptr vL (k*3+1))=some (.slice na1 na2 na3)/\w24.cell? (ptr vL (k*3+2))=some (.slice nb1 nb2 nb3)/\w24.cell? ⟨b12,0,none⟩=some (.bool t23)/\w24.cell? ⟨b12,1,none⟩=some (.slice a231 l231 k231)/\w24.cell? ⟨b12,2,none⟩=some (.slice a232 l232 k232):=⟨zba hb24 n0,zba hb24 n1,zba hb24 n2,zba hb24 z0,zba hb24 z1,zba hb24 z2⟩
         refine hK.out _ _ (fun _=>hHeld) ?_
         clear hK K
         try simp only[Act.put,List.setIfInBounds_toArray,List.set_cons_zero,List.set_cons_succ]
         refine wpL.u 8 ?_
         refine wpL.u 9 ?_
         refine wpL.u 10 ?_
         have hO24:=hO9.below hb24
         have hB24:=zfa (zfa HB9'.out hbD HB9'.out.size) hb24 (zLT HB9'.out.size hbD.size)
         have hX24:=(HXC9.out.belowS hbD).belowS hb24
         have HE24:=zH (fun t ht=>((HE9.out t ht).below hbD).below hb24)
         obtain⟨c0,d0,_⟩:=hO24.cell (k*3) (by omega)
         obtain⟨c1,d1,_⟩:=hO24.cell (k*3+1) (by omega)
         obtain⟨c2,d2,_⟩:=hO24.cell (k*3+2) (by omega)
         have f0:=hO24.frozen (k*3)
         have f1:=hO24.frozen (k*3+1)
         have f2:=hO24.frozen (k*3+2)
         have n01:=hO24.inj (show k*3≠k*3+1 by omega)
         have n02:=hO24.inj (show k*3≠k*3+2 by omega)
         have n12:=hO24.inj (show k*3+1≠k*3+2 by omega)
         (refine wpL.oo 11 ?_;intro K hK)
         rw[if_pos (by rfl)]
         go_simp
         refine hK.out _ _ (fun _=>hHeld) ?_
         clear hK K
         try simp only[Act.put,List.setIfInBounds_toArray,List.set_cons_zero,List.set_cons_succ]
         (refine wpL.oo 12 ?_;intro K hK)
         rw[if_pos (by rfl)]
         go_simp
         refine hK.out _ _ (fun h=>by first | cases h | simp at h) ?_
         clear hK K d0 d1 d2 f0 f1 f2 n01 n02 n12 n0 n1 n2 z0 z1 z2 hHeld
         refine wpL.done (by kernel_rfl) ?_ _
         have hset:=hO24.set3 k (.bool t24) (.slice a241 l241 k241) (.slice a242 l242 k242) (fun z=>by simp) (fun z=>by simp) (fun z=>by simp)
         have hblk:∀m,(ptr vL m).block≠b9:=fun m=>by rw[zsa];have:=HBLK.out;omega
         have HX25:=zH (((hX24.other (ptr vL (k*3)) (.bool t24) (hblk _)).other (ptr vL (k*3+1)) (.slice a241 l241 k241) (hblk _)).other (ptr vL (k*3+2)) (.slice a242 l242 k242) (hblk _))
         have HO24:=zH hO24
         have HV24:=zH hv24
         have HSET:=zH hset
         have HB25:=zH (hB24.trans hset.2)
         clear hset hblk hX24 hO24 hv24 hB24 hO9 hb24 hbD hNQ hZQ
         go_wp2_with fail
         go_roundg (ri2- (k+1))
         case measure=>(have:=HG3.out;omega)
         case rel=>
          exact⟨k+1,by omega,rfl,by go_num,HSET.out.1,HREL.out _ (fun t ht hne=>zlg.set3_other HO24.out hkl (fun e=>hne e.symm) (HE24.out t ht) _ _ _ (fun z=>by simp) (fun z=>by simp)) (by rw[HSTEP.out];exact zlg.set3 HO24.out hkl HV24.out),HX25.out,HB25.out⟩
      ·obtain rfl:k=ri2:=by omega
       clear ho hxc hbr
       go_wp2_with fail
       go_roundg (k- (i+1))
       case measure=>(have:=HG2.out;omega)
       case rel=>exact⟨i+1,by omega,rfl,by go_num,HO3.out,fun t ht=>(by have h:=HE3.out t ht;rwa[if_pos ht]at h),HBR3.out⟩
    ·obtain rfl:i=j:=by omega
     clear ho hbr
     go_wp2_with fail
     go_ret2
     exact⟨_,rfl,HO2'.out.fracs (zea _ _) (fun t ht=>by rw[zea]at ht;rw[ztb];exact HE2.out t ht),hBw⟩
end Go.Proofs.YtlpdkbmmbdfoiaaGreat
