/-
  package drydockmake: Tape.Copies.
-/
import Derived.Test.YtlpdkbmmbdfoiaaGreatLCp1
set_option linter.unusedVariables false
set_option linter.unusedSimpArgs false
namespace Go.Proofs.YtlpdkbmmbdfoiaaGreat
open Go.RowKit
theorem zsy (a b:Nat) (y z:Int) (w:World) (hy:y=(a:Int)) (hz:z=(b:Int)) (ha:a<4294967296) (hb:b<4294967296) (hb0:b≠0):
 Calls Tryz.prog 18 #[.int .i64 y, .int .i64 z] w (RF0 w (fq false a b)):=by subst hy;subst hz;exact zgf a b w ha hb hb0
theorem zty {v:Value} {b:Nat} (h:∀k,v.ownBlock=some k→k<b):v.ownBlock=none∨v.ownBlock≠some b:=by
 cases hv:v.ownBlock with
 | none=>exact Or.inl rfl
 | some g=>exact Or.inr (fun e=>by injection e with e;have:=h g hv;omega)
theorem keep3b {X Y:World} {a1 a2 a3:Addr} {x1 x2 x3:Value} (h:X.cell? a1=some x1∧X.cell? a2=some x2∧X.cell? a3=some x3) (hb:Below X.heap.size X Y):Y.cell? a1=some x1∧Y.cell? a2=some x2∧Y.cell? a3=some x3:=
 ⟨zba hb h.1,zba hb h.2.1,zba hb h.2.2⟩
def RCopies (w0:World) (bt:Nat) (l:List Nat) (c:CQ) (e:Ending) (w:World):Prop:=
 ∃v vo of share a,e= .returned (.tuple #[v,vo])∧zlq w v (zxw c of share)∧zgv w vo of∧zgz c.start.length of share∧znb w bt l a∧Kp w0 w∧w0.heap.size≤w.heap.size∧∀B,B≤bt→B≤w0.heap.size→Below B w0 w
set_option maxRecDepth 100000 in
set_option maxHeartbeats 3200000 in
theorem copies_any (bt a:Nat) (l:List Nat) (vc:Value) (c:CQ) (w:World) (hT:znb w bt l a) (hc:zlq w vc c) (ht:zrr c):
 Calls Tryz.prog 62 #[.pointer (some ⟨bt,0,none⟩),vc] w (RCopies w bt l c):=by
 obtain⟨i1,hi1,hz1,hs1,hy1⟩:=info_parts Tryz.infoInt
 have hAI:=fun{ops:Array Oper} {o:Oper} {a:Act} {w:World} {K:Act→World→Prop} {Q:Exit→Act→World→Prop} {E:Prop}=>step_app_int (P:=Tryz.prog) 29 3 i1 Tryz.underlying29 hi1 hz1 hs1 hy1 (ops:=ops) (o:=o) (a:=a) (w:=w) (K:=K) (Q:=Q) (E:=E)
 obtain⟨i3,hi3,hz3,hs3,hy3⟩:=info_parts Tryz.infoF
 have hAS:=fun{ops:Array Oper} {o:Oper} {a:Act} {w:World} {K:Act→World→Prop} {Q:Exit→Act→World→Prop} {E:Prop}=>step_app_fr (P:=Tryz.prog) 25 38 i3 Tryz.underlying25 hi3 hz3 hs3 hy3 (ops:=ops) (o:=o) (a:=a) (w:=w) (K:=K) (Q:=Q) (E:=E)
 have hAP:=zpp (P:=Tryz.prog) 25 38 i3 Tryz.underlying25 hi3 hz3 hs3 hy3
 obtain⟨i2,hi2,hz2,hs2,hy2⟩:=info_parts Tryz.infoBool
 have hAB:=fun{ops:Array Oper} {o:Oper} {a:Act} {w:World} {K:Act→World→Prop} {Q:Exit→Act→World→Prop} {E:Prop}=>step_app_one (P:=Tryz.prog) 26 4 i2 _ 1 Tryz.underlying26 hi2 hz2 hs2 hy2 (by decide) rfl (fun z=>by simp) (ops:=ops) (o:=o) (a:=a) (w:=w) (K:=K) (Q:=Q) (E:=E)
 obtain⟨i4,hi4,hz4,hs4,hy4⟩:=info_parts Tryz.infoRow
 have hAR:=zxl (P:=Tryz.prog) 24 25 i4 _ 24 Tryz.underlying24 hi4 hz4 hs4 hy4 (by decide) rfl (fun z=>by simp)
 clear hi1 hz1 hs1 hy1 hi3 hz3 hs3 hy3 hi2 hz2 hs2 hy2 hi4 hz4 hs4 hy4
 obtain⟨rv,sv,lv,rfl,hr,hs,hl⟩:=id hc
 obtain⟨ra,rn,rk,rfl,r1,r2,r3⟩:=id hr.sl
 obtain⟨sa,sn,sk,rfl,s1,s2,s3⟩:=id hs.sl
 obtain⟨la,ln,lk,rfl,l1,l2,l3⟩:=id (zhc.sl hl)
 have hsn:sn=c.start.length:=hs.len
 subst hsn
 have hbx:=zca w (.cells #[.slice ra rn rk, .slice sa c.start.length sk, .slice la ln lk] 28)
 have hC3:=C3.new w 28 (.slice ra rn rk) (.slice sa c.start.length sk) (.slice la ln lk)
 have HC3:=zH hC3
 have HCH:=zH (hc.below hbx)
 have HTP:=zH ht
 have hn5:=ht.n5
 have hn2:=ht.n2
 have HLN:Hid (ln=c.start.length):=zH (by have h1:ln=c.lost.length:=hl.len;rw[h1];exact ht.ll)
 have h0:ln=c.start.length:=HLN.out
 subst h0
 have hS:=CpW.start (hT.below hbx) 28
 have HS:=zH hS
 have sls:=hs.sl
 have sll:=zhc.sl hl
 clear hC3 hS hr hs hl hc ht HLN
 generalize hW0:w.alloc (.cells #[.slice ra rn rk, .slice sa c.start.length sk, .slice la c.start.length lk] 28)=W0 at *
 have HW0:=zH hW0
 go_enter Tryz.func62,Tryz.ntmps62
 go_wp2_with fail
 have HZ0:Hid (W0.heap.size=w.heap.size+1):=zH (by rw[←HW0.out];simp)
 go_loopg [6,7,8] (c.start.length) (fun m u6 u7 u8 wr=>∃ (i:Nat) (of:List Int) (share:List Rat),i≤c.start.length∧m=c.start.length-i∧u8= .int .i64 i∧CpW W0 wr bt l (W0.heap.size+1) u6 u7 of share∧CopJ i 0 0 of share)
 case atStart=>exact⟨0,[],[],Nat.zero_le _,rfl,rfl,HS.out,CopJ.zero⟩
 case round=>
  obtain⟨i,of,share,hi,hgm,rfl,hW,hJ⟩:=hrel
  have HW:=zH hW
  have HJ:=zH hJ
  have HCR:=zH (HCH.out.kp hW.kp)
  have c0:=hW.kp _ _ HC3.out.c0 (fun z=>by simp)
  have c1:=hW.kp _ _ HC3.out.c1 (fun z=>by simp)
  have c2:=hW.kp _ _ HC3.out.c2 (fun z=>by simp)
  obtain⟨aT,hT1⟩:=hW.tape
  have hT1:=hT1.1
  have hoflen:=hJ.le
  clear hW hJ
  by_cases hin:i<c.start.length
  ·have hil:i<c.lost.length:=by rw[HTP.out.ll];exact hin
   have hlc:wr.cell? (ptr (.slice la c.start.length lk) i)=some (.bool (c.lost[i]'hil)):=by
    obtain⟨r,s,l',e,_,_,h3⟩:=HCR.out
    injection e with e
    injection e with e
    simp only[List.cons.injEq,and_true]at e
    obtain⟨_,_,rfl⟩:=e
    exact h3.at' i hil
   generalize c.lost[i]'hil=lk0 at *
   have i1:(0:Int)≤(i:Int):=by omega
   have i2:(i:Int)<(c.start.length:Nat):=by omega
   go_upto_if 32 with fail
   go_cut [9] (fun u9 wx=>∃nn:Nat,u9= .int .i64 nn∧1≤nn∧nn≤2∧CpW W0 wx bt l (W0.heap.size+1) u6 u7 of share)
   case first =>
    cases lk0
    ·go_wp2_with (go_at_call 107;(with_reducible refine(zcs bt l _ 2 2 _ rfl hT1 (by decide) (by decide)).mono ?_);rintro e2 w2 ⟨x2,a2,rfl,hx2,hT2,hk2⟩)
     go_meet
     case rel=>exact⟨1+x2,by go_num,by omega,by omega,HW.out.tick hk2 hT2⟩
    ·go_wp2_with fail
     go_meet
     case rel=>exact⟨1,rfl,by omega,by omega,HW.out⟩
   case rest=>
    obtain⟨nn,rfl,hn1,hn22,hW2⟩:=hcut
    obtain⟨wv,hwv⟩:∃wv,wv=wc:=⟨_,rfl⟩
    subst hwv
    have HW2:=zH hW2
    obtain⟨aT2,hT2⟩:=hW2.tape
    have hT2:=hT2.1
    clear hW2 c0 c1 c2 hlc hT1
    go_wp2_with (go_at_call 107;(with_reducible refine(zcs bt l _ 3 3 _ rfl hT2 (by decide) (by decide)).mono ?_);rintro e3 w3 ⟨x3,a3,rfl,hx3,hT3,hk3⟩)
    have HW3:=zH (HW2.out.tick hk3 hT3)
    clear hk3 hT3 hT2
    go_loopg [6,7,11] nn (fun m u6 u7 u11 wi=>∃ (j:Nat) (of':List Int) (share':List Rat) (part:Rat),j≤nn∧m=nn-j∧u11= .int .i64 j∧CpW W0 wi bt l (W0.heap.size+1) u6 u7 of' share'∧CopJ i j part of' share'∧
     part=(if j=0 then 0 else if nn=1 then 1 else if j=1 then 0+fq false (1+x3) 4 else 1))
    case atStart=>exact⟨0,of,share,0,Nat.zero_le _,rfl,rfl,HW3.out,HJ.out,rfl⟩
    case round=>
     obtain⟨j,of',share',part,hj,hgj,rfl,hWj,hJj,hpart⟩:=hrel
     have HWj:=zH hWj
     have HJj:=zH hJj
     have HPT:=zH hpart
     have hof':=hJj.le
     have hsl':=hJj.len
     clear hWj hJj hpart
     by_cases hjn:j<nn
     ·have hd5:decide ((j:Int)<(nn:Nat))=true:=decide_eq_true (by omega)
      go_upto_if 46 with(go_at_call 20;(with_reducible refine(zas _).mono ?_);rintro e13 w13 ⟨v13,rfl,hv13,hb13⟩
                         obtain⟨t13,x13,y13,rfl,⟨a131,l131,k131,rfl,q131⟩,⟨a132,l132,k132,rfl,q132⟩⟩:=hv13.isF)
      have hbB:=zca w13 (.cells #[.bool t13, .slice a131 l131 k131, .slice a132 l132 k132] 38)
      have HW13:=zH ((HWj.out.below hb13).below hbB)
      have HV13:=zH (And.intro (hv13.below hbB) (C3.new w13 38 (.bool t13) (.slice a131 l131 k131) (.slice a132 l132 k132)))
      have hrb:∀k,u7.ownBlock=some k→k<w13.heap.size:=fun k hk=>Nat.lt_of_lt_of_le (HWj.out.shr.block k hk).2 hb13.size
      have hra:∀k,u6.ownBlock=some k→k<w13.heap.size:=fun k hk=>Nat.lt_of_lt_of_le (HWj.out.ofr.block k hk).2 hb13.size
      have hB13:W0.heap.size+1≤w13.heap.size:=Nat.le_trans HWj.out.sz hb13.size
      clear hv13 hb13 hbB
      generalize w13.alloc (.cells #[.bool t13, .slice a131 l131 k131, .slice a132 l132 k132] 38)=WB at *
      go_cut [] (fun wx=>∃ (q:Rat) (t':Bool) (x' y':Value),C3 wx w13.heap.size (.bool t') x' y'∧zqa wx (.agg #[.bool t',x',y']) q∧zeq q∧(if nn=1 then q=1 else if j=0 then q=fq false (1+x3) 4 else q=fq false (4- (1+x3)) 4)∧CpW W0 wx bt l (W0.heap.size+1) u6 u7 of' share')
      case first =>
       by_cases hnn:nn=2
       ·have hdn:(((nn:Nat):Int)==2)=true:=by simp;omega
        by_cases hj1:j=1
        ·have hdj:(((j:Nat):Int)==1)=true:=by simp;omega
         have HNN:=zH hnn
         have HJ1:=zH hj1
         clear hnn hj1
         obtain⟨_,d0,d1,d2,d3,d4,d5⟩:=HV13.out.2
         go_wp2_with (first
          |(go_at_call 18;(with_reducible refine(zsy (1+x3) 4 (1+(x3:Nat)) 4 _ (by omega) rfl (by omega) (by omega) (by omega)).mono ?_);rintro e17 w17 ⟨v17,rfl,hv17,hb17⟩
            obtain⟨t17,x17,y17,rfl,⟨a171,l171,k171,rfl,q171⟩,⟨a172,l172,k172,rfl,q172⟩⟩:=hv17.isF
            have HC17:=zH (HV13.out.2.belowS hb17)
            have HI17:=zH (HW13.out.below hb17)
            have HC18:=zH (HC17.out.set (.bool t17) (.slice a171 l171 k171) (.slice a172 l172 k172))
            have HI18:=zH (HI17.out.set3 HC17.out ⟨_,_,_,rfl,q131⟩ ⟨_,_,_,rfl,q132⟩ hB13 (zty hra) (zty hrb) (.bool t17) (.slice a171 l171 k171) (.slice a172 l172 k172))
            obtain⟨_,d0,d1,d2,d3,d4,d5⟩:=HC17.out)
          |(go_at_call 18;(with_reducible refine(zsy (4- (1+x3)) 4 (4- (1+(x3:Nat))) 4 _ (by omega) rfl (by omega) (by omega) (by omega)).mono ?_);rintro e19 w19 ⟨v19,rfl,hv19,hb19⟩
            obtain⟨t19,x19,y19,rfl,⟨a191,l191,k191,rfl,q191⟩,⟨a192,l192,k192,rfl,q192⟩⟩:=hv19.isF
            have HC19:=zH (HC18.out.belowS hb19)
            have HI19:=zH (HI18.out.below hb19)
            obtain⟨_,d0,d1,d2,d3,d4,d5⟩:=HC19.out))
         go_meet
         case rel=>exact⟨fq false (4- (1+x3)) 4,_,_,_,HC19.out.set _ _ _,hv19.set3 HC19.out (fun z=>by simp) (fun z=>by simp) _ _ _,⟨4- (1+x3),4,by omega,by decide,by decide,rfl⟩,by rw[if_neg (by have:=HNN.out;omega),if_neg (by have:=HJ1.out;omega)],HI19.out.set3 HC19.out ⟨_,_,_,rfl,q171⟩ ⟨_,_,_,rfl,q172⟩ hB13 (zty hra) (zty hrb) _ _ _⟩
        ·have hdj:(((j:Nat):Int)==1)=false:=by simp;omega
         have HNN:=zH hnn
         have HJ1:=zH hj1
         clear hnn hj1
         obtain⟨_,d0,d1,d2,d3,d4,d5⟩:=HV13.out.2
         go_wp2_with (go_at_call 18;(with_reducible refine(zsy (1+x3) 4 (1+(x3:Nat)) 4 _ (by omega) rfl (by omega) (by omega) (by omega)).mono ?_);rintro e17 w17 ⟨v17,rfl,hv17,hb17⟩
                      obtain⟨t17,x17,y17,rfl,⟨a171,l171,k171,rfl,q171⟩,⟨a172,l172,k172,rfl,q172⟩⟩:=hv17.isF
                      have HC17:=zH (HV13.out.2.belowS hb17)
                      have HI17:=zH (HW13.out.below hb17)
                      obtain⟨_,d0,d1,d2,d3,d4,d5⟩:=HC17.out)
         go_meet
         case rel=>exact⟨fq false (1+x3) 4,_,_,_,HC17.out.set _ _ _,hv17.set3 HC17.out (fun z=>by simp) (fun z=>by simp) _ _ _,⟨1+x3,4,by omega,by decide,by decide,rfl⟩,by rw[if_neg (by have:=HNN.out;omega),if_pos (by have:=HJ1.out;have:=HNN.out;omega)],HI17.out.set3 HC17.out ⟨_,_,_,rfl,q131⟩ ⟨_,_,_,rfl,q132⟩ hB13 (zty hra) (zty hrb) _ _ _⟩
       ·have hdn:(((nn:Nat):Int)==2)=false:=by simp;omega
        go_wp2_with fail
        go_meet
        case rel=>exact⟨1,_,_,_,HV13.out.2,HV13.out.1,zeq.one,by rw[if_pos (by omega)],HW13.out⟩
      case rest=>
       obtain⟨q,t18,x18,y18,hC18,hv18,hsm,hq,hW18⟩:=hcut
       have HQ:=zH (And.intro hsm hq)
       have HW18:=zH hW18
       have hv18':=hv18
       obtain⟨_,_,_,hF18,⟨a181,l181,k181,rfl,_⟩,⟨a182,l182,k182,rfl,_⟩⟩:=hv18'.isF
       injection hF18 with hF18
       injection hF18 with hF18
       simp only[List.cons.injEq,and_true,Value.bool.injEq]at hF18
       obtain⟨rfl,rfl,rfl⟩:=hF18
       obtain⟨ws,hws⟩:∃ws,ws=wc:=⟨_,rfl⟩
       subst hws
       clear hsm hq hW18 hv18' HV13 HW13
       go_upto_region 18 with fail
       have hD:=zja (B:=ws.heap.size) ws
       have hC18D:=hC18.belowS hD
       have hvD:=hv18.below hD
       have HWD:=zH (HW18.out.below hD)
       have HCD:=zH (And.intro hC18D hvD)
       obtain⟨_,d0,d1,d2,_,_,_⟩:=hC18D
       have hofl:of'.length≤1000:=by omega
       have hshl:share'.length≤1000:=by omega
       have bI:=zca ws (.cells #[.int .i64 (i:Nat)] 3)
       have bF:=zca ws (.cells #[.bool t18, .slice a181 l181 k181, .slice a182 l182 k182] 38)
       have bIF:=zca (ws.alloc (.cells #[.int .i64 (i:Nat)] 3)) (.cells #[.bool t18, .slice a181 l181 k181, .slice a182 l182 k182] 38)
       have bFI:=zca (ws.alloc (.cells #[.bool t18, .slice a181 l181 k181, .slice a182 l182 k182] 38)) (.cells #[.int .i64 (i:Nat)] 3)
       have X1:=zH (And.intro (((HW18.out.below bI).below (zja _))) (And.intro ((hv18.below bI).below (zja _)) ((hC18.belowS bI).belowS (zja _))))
       have X2:=zH (And.intro ((((HW18.out.below bI).below bIF).below (zja _))) (And.intro (((hv18.below bI).below bIF).below (zja _)) (((hC18.belowS bI).belowS bIF).belowS (zja _))))
       have X3:=zH (And.intro ((((HW18.out.below bF).below bFI).below (zja _))) (And.intro (((hv18.below bF).below bFI).below (zja _)) (((hC18.belowS bF).belowS bFI).belowS (zja _))))
       have eF3:=zH (((C3.newB (b:=ws.heap.size) ws 38 (.bool t18) (.slice a181 l181 k181) (.slice a182 l182 k182) rfl).belowS bFI).belowS (zja _))
       have eF2:=zH ((C3.newB (b:=ws.heap.size+1) (ws.alloc (.cells #[.int .i64 (i:Nat)] 3)) 38 (.bool t18) (.slice a181 l181 k181) (.slice a182 l182 k182) (by simp)).belowS (zja _))
       have eFx:=zH ((C3.newB (b:=ws.heap.size) ws 38 (.bool t18) (.slice a181 l181 k181) (.slice a182 l182 k182) rfl))
       have L1:=X1.out.2.2
       obtain⟨_,m0,m1,m2,_,_,_⟩:=id L1
       have hwslt:w13.heap.size<ws.heap.size:=hC18.lt
       have hra2:u6.ownBlock≠some w13.heap.size:=fun e=>by have:=hra _ e;omega
       have hra3:∀b,ws.heap.size≤b→u6.ownBlock≠some b:=fun b hb e=>by have:=hra _ e;omega
       clear bI bF bIF bFI L1
       go_region_law (first
        |(refine hAI rfl _ _ rfl (W0.heap.size+1) u6 of' rfl X1.out.1.ofr (i:Nat) ws.heap.size rfl ?_ hofl X1.out.1.sz ?_;go_simp;intro v20 w20 ho20 hg20
          have hW20:=X1.out.1.growO ho20 hg20
          have hv20:=X1.out.2.1.grown hg20 X1.out.1.ofr.nl
          have hC20:=X1.out.2.2.grown hg20 hra2
          obtain⟨_,d0,d1,d2,_,_,_⟩:=id hC20)
        |(refine hAI rfl _ _ rfl (W0.heap.size+1) u6 of' rfl X2.out.1.ofr (i:Nat) ws.heap.size rfl ?_ hofl X2.out.1.sz ?_;go_simp;intro v20 w20 ho20 hg20
          have hW20:=X2.out.1.growO ho20 hg20
          have hv20:=X2.out.2.1.grown hg20 X2.out.1.ofr.nl
          have hF20:=eF2.out.grown hg20 (hra3 _ (by omega)))
        |(refine hAI rfl _ _ rfl (W0.heap.size+1) u6 of' rfl X3.out.1.ofr (i:Nat) (ws.heap.size+1) rfl ?_ hofl X3.out.1.sz ?_;go_simp;intro v20 w20 ho20 hg20
          have hW20:=X3.out.1.growO ho20 hg20
          have hv20:=X3.out.2.1.grown hg20 X3.out.1.ofr.nl
          have hF20:=eF3.out.grown hg20 (hra3 _ (Nat.le_refl _)))
        |(refine hAS rfl _ _ rfl (W0.heap.size+1) u7 share' rfl (hW20.below (zca _ _)).shr _ _ _ q (hv20.below (zca _ _)) w20.heap.size rfl (zkz (by simp) (by simp) (by simp)) hshl (hW20.below (zca _ _)).sz ?_;intro v21 w21 hs21 hg21
          have hW21:=(hW20.below (zca _ _)).growS hs21 hg21)
        |(refine hAS rfl _ _ rfl (W0.heap.size+1) u7 share' rfl hW20.shr _ _ _ q hv20 _ rfl (zkz hF20.c0 hF20.c1 hF20.c2) hshl hW20.sz ?_;intro v21 w21 hs21 hg21
          have hW21:=hW20.growS hs21 hg21))
       all_goals
        clear d0 d1 d2
        go_wp2_with fail
        go_roundg (nn- (j+1))
        case measure=>omega
        case rel=>exact⟨j+1,_,_,part+q,by omega,rfl,by go_num,hW21,HJj.out.step HQ.out.1,by rw[HPT.out];exact part_step hjn hn22 hx3 HQ.out.2⟩
     ·have hjn2:j=nn:=by omega
      have hd5:decide ((j:Int)<(nn:Nat))=false:=decide_eq_false (by omega)
      have HNX:Hid (CopJ (i+1) 0 0 of' share'):=zH (by
       have h1:=HJj.out
       have h2:=HPT.out
       subst hjn2
       have h3:part=1:=by
        rw[h2,if_neg (by omega)]
        split<;>(first | rfl | (rw[if_neg (by omega)]))
       rw[h3]at h1
       exact h1.next (by omega) hn22)
      clear hjn2
      go_wp2_with fail
      go_roundg (c.start.length- (i+1))
      case measure=>omega
      case rel=>exact⟨i+1,of',share',by omega,rfl,by go_num,HWj.out,HNX.out⟩
  ·obtain rfl:i=c.start.length:=by omega
   have HCP:=zH (HJ.out.done hn5)
   obtain⟨V0,hV0⟩:∃V0,V0=wr:=⟨_,rfl⟩
   subst hV0
   have HI:=zH (ChW.new hT1 28)
   have hFV:=HW.out.fm.below (zca V0 (.cells #[.slice none 0 0, .slice none 0 0, .slice none 0 0] 28))
   have HFV:=zH hFV
   have hbV:=zca V0 (.cells #[.slice none 0 0, .slice none 0 0, .slice none 0 0] 28)
   have HOF:=zH HW.out.ints
   have HSH:=zH HW.out.shr.fracs
   have HBX:=zH (And.intro c0 (And.intro c1 c2))
   have hmlen:of.length≤10:=HCP.out.le
   have hW0V:W0.heap.size<V0.heap.size:=HW.out.sz
   have hWsz:=HW.out.sz
   have hbtV:bt<V0.heap.size:=hT1.lt
   have hbtW:=HW.out.nums
   have sof:=HW.out.ofr.sl
   have lof:slen u6=of.length:=by rw[HW.out.ofr.len,List.length_map]
   have ssh:=HW.out.shr.sl
   have lsh:slen u7=of.length:=by rw[HSH.out.len];exact HCP.out.len
   clear hFV hT1
   go_wp2_with fail
   clear c0 c1 c2
   go_loopg [14] (of.length) (fun g u14 wx=>∃ (a:Nat) (vr vs vl:Value) (rs:List Value) (rates:List (List Rat)) (start:List Rat) (lost:List Bool),a≤of.length∧g=of.length-a∧u14= .int .i64 a∧ChW wx bt l (V0.heap.size+1) V0.heap.size vr vs vl rs rates start lost∧Below V0.heap.size V0 wx∧Fr W0 bt wx∧
    rates=(zxw c of share).rates.take a∧start=(zxw c of share).start.take a∧lost=(zxw c of share).lost.take a)
   case atStart=>exact⟨0,_,_,_,_,_,_,_,Nat.zero_le _,rfl,rfl,HI.out,hbV,HFV.out,rfl,rfl,rfl⟩
   case round=>
    obtain⟨wx,hwx⟩:∃wx,wx=wr:=⟨_,rfl⟩
    subst hwx
    obtain⟨a2,vr,vs,vl,rs,rates,start,lost,ha2,hg2,rfl,hCW,hbx2,hFx,hra,hst,hlo⟩:=hrel
    have HCW:=zH hCW
    have HFX:=zH hFx
    have HEQ:=zH (And.intro hra (And.intro hst hlo))
    have hlen1:(lost.map Value.bool).length≤1000:=by rw[hlo,List.length_map,List.length_take];omega
    have hlen2:start.length≤1000:=by rw[hst,List.length_take];omega
    have hlen3:rs.length≤1000:=by rw[hCW.rl,hra,List.length_take];omega
    clear hra hst hlo hFx
    by_cases ham:a2<of.length
    ·have hoa:=(HOF.out.below hbx2).at' a2 ham
     obtain⟨i,hi,e1,e2⟩:=HCP.out.blk ham
     rw[e1]at hoa
     have HE2:=zH e2
     have hil:i<c.lost.length:=by rw[HTP.out.ll];exact hi
     obtain⟨r',s',l',he',hm1,hm2,hm3⟩:=HCR.out.below hbx2
     injection he' with he'
     injection he' with he'
     simp only[List.cons.injEq,and_true]at he'
     obtain⟨rfl,rfl,rfl⟩:=he'
     have hlc:=hm3.at' i hil
     have HLE:Hid ((zxw c of share).lost.take (a2+1)=(zxw c of share).lost.take a2++ [c.lost[i]'hil]):=zH (by
      rw[zxc _ a2 (by simp[zxw];exact ham)]
      simp only[zxw,List.getElem_map,List.getElem_range,e2]
      simp[List.getD,List.getElem?_eq_getElem hil])
     generalize c.lost[i]'hil=lk0 at *
     obtain⟨_,b0,b1,b2,_,_,_⟩:=id hCW.box
     have c0:=zba hbx2 HBX.out.1
     have c1:=zba hbx2 HBX.out.2.1
     have c2:=zba hbx2 HBX.out.2.2
     have svl:=hCW.lo.sl
     clear e1 e2
     go_upto_region 23 with fail
     go_cut [] (fun wy=>∃vl',ChW wy bt l (V0.heap.size+1) V0.heap.size vr vs vl' rs rates start (lost++ [lk0])∧Below V0.heap.size wx wy∧Fr W0 bt wy)
     case first =>
      have hD:=zja (B:=wx.heap.size) wx
      have hk1:V0.heap.size≠wx.heap.size:=by have:=hCW.sz;omega
      have q1:=zba hD c2
      have q2:=zba hD hoa
      have q3:=zba hD hlc
      have z1:=zba hD b2
      have bB:=zca wx (.cells #[.bool lk0] 4)
      have z2:=zba (zaa bB (zja _)) b2
      have HWB:=zH ((HCW.out.below bB).below (zja _))
      have HFB:=zH ((HFX.out.below bB).below (zja _))
      have hszB:wx.heap.size≤((wx.alloc (.cells #[.bool lk0] 4)).drew).heap.size:=(zaa bB (zja _)).size
      go_region_law (first
       |(refine hAB rfl _ _ rfl (V0.heap.size+1) vl (lost.map Value.bool) rfl HWB.out.lo (.bool lk0) rfl (fun z=>by simp) wx.heap.size rfl ?_ hlen1 HWB.out.sz ?_;go_simp;intro v30 w30 ho30 hg30
         have hG:=HWB.out.lostG ho30 hg30 HWB.out.lo.nl
         have hbx30:=HWB.out.box.below hG.2 (Nat.lt_succ_self _)
         have HG:=zH hG
         obtain⟨_,b0,b1,b2,f0,f1,f2⟩:=id hbx30
         have s30:=ho30.sl
         clear hG hbx30 ho30 hg30
         obtain⟨an30,nn30,cn30,rfl,_⟩:=id s30))
      all_goals
       have HFB2:=zH ((HFB.out.low HG.out.2 (by omega)).set ⟨V0.heap.size,2,none⟩ hW0V (.slice an30 nn30 cn30))
       have HBB2:=zH (((zaa bB (zja _)).mono (Nat.le_trans (Nat.le_succ _) hCW.sz)).trans ((HG.out.2.mono (Nat.le_succ _)).setCell (p:=⟨V0.heap.size,2,none⟩) (Nat.le_refl _) (.slice an30 nn30 cn30)))
       clear b0 b1 b2 f0 f1 f2 q1 q2 q3 z1 z2
       go_wp2_with fail
       go_meet
       case rel=>exact⟨_,HG.out.1,HBB2.out,HFB2.out⟩
     case rest=>
      obtain⟨vl2,hCW2,hb2,hF2⟩:=hcut
      obtain⟨w2,hw2⟩:∃w2,w2=wc:=⟨_,rfl⟩
      subst hw2
      have HCW2:=zH hCW2
      have HF2:=zH hF2
      have bV2:=hbx2.trans hb2
      have hoa:=(HOF.out.below bV2).at' a2 ham
      have e1:=(HCP.out.blk ham).choose_spec.2.1
      have hofi:of[a2]=(i:Int):=by
       obtain⟨i',_,e1',e2'⟩:=HCP.out.blk ham
       have:=HE2.out
       omega
      rw[hofi]at hoa
      obtain⟨r',s',l',he',hm1,hm2,hm3⟩:=HCR.out.below bV2
      injection he' with he'
      injection he' with he'
      simp only[List.cons.injEq,and_true]at he'
      obtain⟨rfl,rfl,rfl⟩:=he'
      obtain⟨y1,y2,g1,g2,g3,n1,n2⟩:=hm2.at' i hi
      have hsa:a2<share.length:=by rw[HCP.out.len];exact ham
      obtain⟨y3,y4,g4,g5,g6,n3,n4⟩:=(HSH.out.below bV2).at' a2 hsa
      have c1:=zba bV2 HBX.out.2.1
      have HP:=zH (show zqa w2 (.agg #[.bool (decide (c.start[i]<0)),y1,y2]) c.start[i]from⟨_,_,rfl,n1,n2⟩)
      have HQ:=zH (show zqa w2 (.agg #[.bool (decide (share[a2]<0)),y3,y4]) share[a2]from⟨_,_,rfl,n3,n4⟩)
      have HSP:=zH (HTP.out.st _ (List.getElem_mem hi))
      have HSQ:=zH (HCP.out.sm _ (List.getElem_mem hsa))
      have HLS:Hid ((zxw c of share).start.take (a2+1)=(zxw c of share).start.take a2++ [c.start[i]*share[a2]]):=zH (by
       rw[zxc _ a2 (by simp[zxw];exact ham)]
       simp only[zxw,List.getElem_map,List.getElem_range,HE2.out,HCP.out.sh ham]
       simp[List.getD,List.getElem?_eq_getElem hi])
      generalize hpg:c.start[i]=ps at *
      generalize hqg:share[a2]=qsh at *
      have S0:=zH (And.intro c1 (And.intro hoa (And.intro g1 (And.intro g2 (And.intro g3 (And.intro g4 (And.intro g5 g6)))))))
      clear hpg hqg e1 hofi n1 n2 n3 n4 hm1 hm2 hm3 c1 hoa g1 g2 g3 g4 g5 g6
      go_upto_region 24 with fail
      go_cut [15] (fun u15 wy=>∃ (b15:Nat) (t':Bool) (x' y':Value),u15= .pointer (some ⟨b15,0,none⟩)∧C3 wy b15 (.bool t') x' y'∧zqa wy (.agg #[.bool t',x',y']) (ps*qsh)∧Below w2.heap.size w2 wy)
      case first =>
       go_region_held3 (fun w'=>w'.cell? ⟨w.heap.size,1,none⟩=some (.slice sa c.start.length sk)∧w'.cell? (ptr u6 a2)=some (.int .i64 (i:Nat))∧w'.cell? (ptr (.slice sa c.start.length sk) (i*3))=some (.bool (decide (ps<0)))∧w'.cell? (ptr (.slice sa c.start.length sk) (i*3+1))=some y1∧w'.cell? (ptr (.slice sa c.start.length sk) (i*3+2))=some y2∧
        w'.cell? (ptr u7 (a2*3))=some (.bool (decide (qsh<0)))∧w'.cell? (ptr u7 (a2*3+1))=some y3∧w'.cell? (ptr u7 (a2*3+2))=some y4∧Below w2.heap.size w2 w') (first
        | with_reducible exact keep8a S0.out (zja _)
        | with_reducible exact keep8 (by assumption) (zca _ _)
        | with_reducible exact keep8 (by assumption) (by assumption)
        | with_reducible exact keep8a S0.out (zaa hB31 (zca _ _))
        | with_reducible exact keep8s S0.out hB31 (Nat.le_refl _) _ _ _) (first
        |(go_at_call 38;(with_reducible refine(r2mul_can _ _ ps qsh _ (HP.out.below (keep8b (by assumption))) (HQ.out.below (keep8b (by assumption))) HSP.out.fits HSQ.out.fits (mul_fits HSP.out HSQ.out)).mono ?_);rintro e31 w31 ⟨v31,rfl,hv31,hb31⟩
          obtain⟨t31,x31,y31,rfl,⟨a311,l311,k311,rfl,_⟩,⟨a312,l312,k312,rfl,_⟩⟩:=hv31.isF
          have hB31:=zaa (keep8b (by assumption)) hb31
          have hc5:=(fun(p:Addr) hp=>hb31.cell (p:=p) hp)
          have hf5:=(fun(p:Addr) hp=>hb31.frozen (p:=p) hp)
          have zq:=hb31.size
          (try simp only[zfk,zvo]at zq)
          (try have z1:w2.heap.size<w31.heap.size:=(by omega))))
       all_goals
        have hE:=keep8b (by assumption)
        go_wp2_with fail
        go_meet
        case rel=>
         first
          | exact⟨_,_,_,_,rfl,C3.new w31 _ _ _ _,hv31.below (zca _ _),hE⟩
          | exact⟨_,_,_,_,rfl,(((C3.newB (b:=w2.heap.size) w2 38 (.bool false) (.slice none 0 0) (.slice none 0 0) rfl).belowS (zja _)).belowS hb31).set _ _ _,hv31.set3 (((C3.newB (b:=w2.heap.size) w2 38 (.bool false) (.slice none 0 0) (.slice none 0 0) rfl).belowS (zja _)).belowS hb31) (fun z=>by simp) (fun z=>by simp) _ _ _,hE⟩
      case rest=>
       obtain⟨b15,t15,x15,y15,rfl,hC15,hv15,hb15⟩:=hcut
       obtain⟨w3,hw3⟩:∃w3,w3=wc:=⟨_,rfl⟩
       subst hw3
       have hv15':=hv15
       obtain⟨_,_,_,hF15,⟨a151,l151,k151,rfl,_⟩,⟨a152,l152,k152,rfl,_⟩⟩:=hv15'.isF
       injection hF15 with hF15
       injection hF15 with hF15
       simp only[List.cons.injEq,and_true,Value.bool.injEq]at hF15
       obtain⟨rfl,rfl,rfl⟩:=hF15
       have HCW3:=zH (HCW2.out.below hb15)
       have HF3:=zH (HF2.out.below hb15)
       have hst3:=HCW3.out.st
       have hsz3:=HCW3.out.sz
       obtain⟨_,b0,b1,b2,f0,f1,f2⟩:=id HCW3.out.box
       obtain⟨_,d0,d1,d2,_,_,_⟩:=id hC15
       have bV3:=bV2.trans (hb15.mono bV2.size)
       have svs:=hst3.sl
       clear hv15' hC15
       go_wp2_with (first
        |(at_builtin;refine hAP _ rfl _ _ rfl (V0.heap.size+1) _ vs start rfl hst3 _ _ _ (ps*qsh) hv15 rfl hlen2 hsz3 ?_;intro v40 w40 ho40 hg40 hn40 hq40 sv40
          have hG:=HCW3.out.startG ho40 hg40 hn40 hq40 (Nat.le_succ _)
          have hbx40:=HCW3.out.box.below hG.2 (Nat.lt_succ_self _)
          have HG:=zH hG
          obtain⟨_,b0,b1,b2,f0,f1,f2⟩:=id hbx40
          clear hG hbx40 ho40 hg40 hn40 hq40
          obtain⟨an40,nn40,cn40,rfl,_⟩:=id sv40))
       have HFA:=zH ((HF3.out.low HG.out.2 (by omega)).set ⟨V0.heap.size,1,none⟩ hW0V (.slice an40 nn40 cn40))
       have HWA:=zH HG.out.1
       have hbVA:=bV3.trans ((HG.out.2.mono (Nat.le_succ _)).setCell (p:=⟨V0.heap.size,1,none⟩) (Nat.le_refl _) (.slice an40 nn40 cn40))
       clear HG b0 b1 b2 f0 f1 f2 d0 d1 d2 hst3
       generalize hWAe:w40.setCell ⟨V0.heap.size,1,none⟩ (.slice an40 nn40 cn40)=WA at *
       clear hWAe
       go_loopg [17,18] (of.length) (fun g u17 u18 wi=>∃ (b:Nat) (rv:Value) (row:List Rat),b≤of.length∧g=of.length-b∧u17=rv∧u18= .int .i64 b∧
        InS W0 bt l (V0.heap.size+1) V0.heap.size vr (.slice an40 nn40 cn40) vl2 WA rv row wi∧row=(zzw c of share a2).take b∧Below V0.heap.size V0 wi)
       case atStart=>exact⟨0,_,_,Nat.zero_le _,rfl,rfl,rfl,InS.start HWA.out HFA.out (by omega),rfl,hbVA⟩
       case round=>
        obtain⟨b,rv,row,hb,hgb,hrv,rfl,hIn,hrow,hbi⟩:=hrel
        subst hrv
        have HIn:=zH hIn
        have HRow:=zH hrow
        have hrl:row.length≤1000:=by rw[hrow,List.length_take];omega
        obtain⟨wb,hwb⟩:∃wb,wb=wr:=⟨_,rfl⟩
        subst hwb
        clear hIn hrow
        by_cases hbn:b<of.length
        ·go_upto_region 31 with(first
          |(go_at_call 20;(with_reducible refine(zwi _).mono ?_);rintro e13 w13 ⟨v13,rfl,hv13,hb13⟩
            obtain⟨t13,x13,y13,rfl,⟨a131,l131,k131,rfl,q131⟩,⟨a132,l132,k132,rfl,q132⟩⟩:=hv13.isF))
         have hbB:=zca w13 (.cells #[.bool t13, .slice a131 l131 k131, .slice a132 l132 k132] 38)
         have HI13:=zH ((HIn.out.below hb13).below hbB)
         have hv13b:=hv13.below hbB
         have hC13:=C3.new w13 38 (.bool t13) (.slice a131 l131 k131) (.slice a132 l132 k132)
         have hrb:u17.ownBlock=none∨u17.ownBlock≠some w13.heap.size:=zty (fun k hk=>Nat.lt_of_lt_of_le (HIn.out.fr.block k hk).2 hb13.size)
         have hAb:WA.heap.size≤w13.heap.size:=Nat.le_trans HIn.out.mv.size hb13.size
         have HV13:=zH (And.intro hv13b hC13)
         have hVb:=(hbi.trans (hb13.mono hbi.size)).trans (hbB.mono (Nat.le_trans hbi.size hb13.size))
         clear hv13 hv13b hC13 hbB
         generalize w13.alloc (.cells #[.bool t13, .slice a131 l131 k131, .slice a132 l132 k132] 38)=WB at *
         obtain⟨j,hj,f1,f2⟩:=HCP.out.blk hbn
         have hofa:of[a2]=(i:Int):=by
          obtain⟨i',_,e1',e2'⟩:=HCP.out.blk ham
          have:=HE2.out
          omega
         have HF2':=zH f2
         have hoa:=(HOF.out.below hVb).at' a2 ham
         rw[hofa]at hoa
         have hob:=(HOF.out.below hVb).at' b hbn
         rw[f1]at hob
         clear f1 f2 hofa
         have HOO:=zH (And.intro hoa hob)
         go_cut [124] (fun u124 wy=>∃bb,u124= .bool bb∧(bb=true↔i≠j)∧C3 wy w13.heap.size (.bool t13) (.slice a131 l131 k131) (.slice a132 l132 k132)∧zqa wy (.agg #[.bool t13, .slice a131 l131 k131, .slice a132 l132 k132]) 0∧
          InS W0 bt l (V0.heap.size+1) V0.heap.size vr (.slice an40 nn40 cn40) vl2 WA u17 row wy∧Below WB.heap.size WB wy)
         case first =>
          by_cases hij:i=j
          ·have hd1:(((i:Nat):Int) != (j:Nat))=false:=by simp[hij]
           have hd2:(((i:Nat):Int)==(j:Nat))=true:=by simp[hij]
           have HIJ:=zH hij
           clear hij
           go_wp2_with fail
           go_quiet (fail)
           go_wp2_with fail
           go_meet
           case rel=>exact⟨_,rfl,⟨fun h=>(by cases h),fun h=>absurd HIJ.out h⟩,HV13.out.2.belowS (zka WB nq),HV13.out.1.below (zka WB nq),HI13.out.below (zka WB nq),zka WB nq⟩
          ·have hd1:(((i:Nat):Int) != (j:Nat))=true:=by simp;omega
           have hd2:(((i:Nat):Int)==(j:Nat))=false:=by simp;omega
           have HIJ:=zH hij
           clear hij
           go_wp2_with fail
           go_quiet (fail)
           go_wp2_with fail
           go_meet
           case rel=>exact⟨_,rfl,⟨fun _=>HIJ.out,fun _=>rfl⟩,HV13.out.2.belowS (zka WB nq),HV13.out.1.below (zka WB nq),HI13.out.below (zka WB nq),zka WB nq⟩
         case rest=>
          obtain⟨bb,rfl,hbb,hC14,hv14,hI14,hb14⟩:=hcut
          obtain⟨wd,hwd⟩:∃wd,wd=wc:=⟨_,rfl⟩
          subst hwd
          have HI14:=zH hI14
          have HV14:=zH (And.intro hv14 hC14)
          have HBB:=zH hbb
          have hVd:=hVb.trans (hb14.mono hVb.size)
          clear hI14 hv14 hC14 hbb HI13 HV13 hoa hob
          go_upto_if 124 with fail
          go_cut [] (fun wy=>∃ (q:Rat) (t':Bool) (x' y':Value),C3 wy w13.heap.size (.bool t') x' y'∧zqa wy (.agg #[.bool t',x',y']) q∧q=(zzw c of share a2)[b]'(by simp[zzw];exact hbn)∧InS W0 bt l (V0.heap.size+1) V0.heap.size vr (.slice an40 nn40 cn40) vl2 WA u17 row wy∧Below V0.heap.size V0 wy)
          case first =>
           cases bb
           ·go_wp2_with fail
            go_meet
            case rel=>
             refine⟨0,_,_,_,HV14.out.2,HV14.out.1,?_,HI14.out,hVd⟩
             have hij:i=j:=Classical.byContradiction (fun h=>by have:=HBB.out.2 h;cases this)
             rw[zsx hbn,HE2.out,HF2'.out,hij,if_pos rfl]
           ·have hij:i≠j:=HBB.out.1 (by first | trivial | rfl)
            have HIJ:=zH hij
            clear hij
            have hoa:=HOF.out.at' a2 ham
            have hob:=HOF.out.at' b hbn
            have hofa:of[a2]=(i:Int):=by
             obtain⟨i',_,e1',e2'⟩:=HCP.out.blk ham
             have:=HE2.out
             omega
            have hofb:of[b]=(j:Int):=by
             obtain⟨i',_,e1',e2'⟩:=HCP.out.blk hbn
             have:=HF2'.out
             omega
            rw[hofa]at hoa
            rw[hofb]at hob
            have c0:=HBX.out.1
            obtain⟨r',s',l',he',hm1,hm2,hm3⟩:=HCR.out
            injection he' with he'
            injection he' with he'
            simp only[List.cons.injEq,and_true]at he'
            obtain⟨rfl,rfl,rfl⟩:=he'
            have hir:i<c.rates.length:=by rw[HTP.out.rl];exact hi
            obtain⟨rr,hrc,hrf⟩:=hm1.at' i hir
            obtain⟨ar,nr,kr,rfl,_⟩:=id hrf.sl
            have srr:=hrf.sl
            have srl:zgc (.slice ra rn rk):=hm1.sl
            have hrn:rn=c.rates.length:=hm1.len
            have hirn:(i:Int)<(rn:Nat):=by omega
            have hnr:nr=c.rates[i].length:=hrf.len
            have hrl1:c.rates[i].length=c.start.length:=(HTP.out.rows i _ (List.getElem?_eq_getElem hir)).1
            have hjr:j<c.rates[i].length:=by omega
            have hjnr:(j:Int)<(nr:Nat):=by omega
            obtain⟨y1,y2,g1,g2,g3,n1,n2⟩:=hrf.at' j hjr
            have hsb:b<share.length:=by rw[HCP.out.len];exact hbn
            obtain⟨y3,y4,g4,g5,g6,n3,n4⟩:=HSH.out.at' b hsb
            have HSP2:=zH (show zeq (c.rates[i][j])from by
             have:=HTP.out.rate hi hj
             simpa [List.getD,List.getElem?_eq_getElem hir,List.getElem?_eq_getElem hjr]using this)
            have HSQ2:=zH (HCP.out.sm _ (List.getElem_mem hsb))
            have HVAL:Hid (c.rates[i][j]*share[b]=(zzw c of share a2)[b]'(by simp[zzw];exact hbn)):=zH (by
             rw[zsx hbn,HE2.out,HF2'.out,if_neg (by have:=HIJ.out;omega),HCP.out.sh hbn]
             simp[List.getD,List.getElem?_eq_getElem hir,List.getElem?_eq_getElem hjr])
            have HP2:=zH (show zqa V0 (.agg #[.bool (decide (c.rates[i][j]<0)),y1,y2]) (c.rates[i][j])from⟨_,_,rfl,n1,n2⟩)
            have HQ2:=zH (show zqa V0 (.agg #[.bool (decide (share[b]<0)),y3,y4]) share[b]from⟨_,_,rfl,n3,n4⟩)
            generalize hpg:c.rates[i][j]=pr at *
            generalize hqg:share[b]=qr at *
            have S1:=zH (And.intro c0 (And.intro hoa (And.intro hrc (And.intro hob (And.intro g1 (And.intro g2 (And.intro g3 (And.intro g4 (And.intro g5 g6)))))))))
            clear hpg hqg n1 n2 n3 n4 hm1 hm2 hm3 c0 hoa hob hrc g1 g2 g3 g4 g5 g6 hofa hofb hrn hnr hrl1 hrf
            have hVdD:=hVd.trans ((zja (B:=wd.heap.size) wd).mono hVd.size)
            have hV13:V0.heap.size≤w13.heap.size:=Nat.le_trans hbi.size hb13.size
            go_wp2_with fail
            go_region_held3 (fun w'=>w'.cell? ⟨w.heap.size,0,none⟩=some (.slice ra rn rk)∧w'.cell? (ptr u6 a2)=some (.int .i64 (i:Nat))∧w'.cell? (ptr (.slice ra rn rk) i)=some (.slice ar nr kr)∧w'.cell? (ptr u6 b)=some (.int .i64 (j:Nat))∧
             w'.cell? (ptr (.slice ar nr kr) (j*3))=some (.bool (decide (pr<0)))∧w'.cell? (ptr (.slice ar nr kr) (j*3+1))=some y1∧w'.cell? (ptr (.slice ar nr kr) (j*3+2))=some y2∧
             w'.cell? (ptr u7 (b*3))=some (.bool (decide (qr<0)))∧w'.cell? (ptr u7 (b*3+1))=some y3∧w'.cell? (ptr u7 (b*3+2))=some y4∧Below V0.heap.size V0 w') (first
             | with_reducible exact keep10a S1.out hVdD
             | with_reducible exact keep10a S1.out hB61
             | with_reducible exact keep10a S1.out (zga hB61 hV13 _ _ _)) (first
             |(go_at_call 38;(with_reducible refine(r2mul_can _ _ pr qr _ (HP2.out.below (keep10b (by assumption))) (HQ2.out.below (keep10b (by assumption))) HSP2.out.fits HSQ2.out.fits (mul_fits HSP2.out HSQ2.out)).mono ?_);rintro e61 w61 ⟨v61,rfl,hv61,hb61⟩
               obtain⟨t61,x61,y61,rfl,⟨a611,l611,k611,rfl,_⟩,⟨a612,l612,k612,rfl,_⟩⟩:=hv61.isF
               have hk61:=(keep10b (by assumption):Below V0.heap.size V0 _)
               have hB61:=hk61.trans (hb61.mono hk61.size)
               have hd61:=zaa (zja (B:=wd.heap.size) wd) hb61
               have HC61:=zH (HV14.out.2.belowS hd61)
               obtain⟨_,d0,d1,d2,d3,d4,d5⟩:=HC61.out))
            have HIF:=zH (((HI14.out.below hd61)).set3 HC61.out ⟨_,_,_,rfl,q131⟩ ⟨_,_,_,rfl,q132⟩ hAb hrb (.bool t61) (.slice a611 l611 k611) (.slice a612 l612 k612))
            go_wp2_with fail
            go_meet
            case rel=>exact⟨pr*qr,_,_,_,HC61.out.set _ _ _,hv61.set3 HC61.out (fun z=>by simp) (fun z=>by simp) _ _ _,HVAL.out,HIF.out,zga hB61 hV13 _ _ _⟩
          case rest=>
           obtain⟨q,t18,x18,y18,hC18,hv18,hq,hI18,hV18⟩:=hcut
           have HI18:=zH hI18
           have HQ:=zH hq
           have hfr:=hI18.fr
           have s11:=hfr.sl
           have hbs:=hI18.mv.size
           have hv18':=hv18
           obtain⟨_,_,_,hF18,⟨a181,l181,k181,rfl,_⟩,⟨a182,l182,k182,rfl,_⟩⟩:=hv18'.isF
           injection hF18 with hF18
           injection hF18 with hF18
           simp only[List.cons.injEq,and_true,Value.bool.injEq]at hF18
           obtain⟨rfl,rfl,rfl⟩:=hF18
           obtain⟨_,d0,d1,d2,_,_,_⟩:=id hC18
           have HRS:Hid ((zzw c of share a2).take (b+1)=row++ [q]):=zH (by rw[zxc _ b (by simp[zzw];exact hbn),HRow.out,hq])
           clear hq hC18 hI18 hv18'
           go_wp2_with (first
            |(at_builtin;refine hAP _ rfl _ _ rfl WA.heap.size _ u17 row rfl hfr _ _ _ q hv18 rfl hrl hbs ?_;intro v4' w50 ho50 hg50 hn50 hq50 sv50
              have hbg:=zid hg50 HI18.out.mv.size hfr.block
              have HI20:=zH (HI18.out.grow ho50 hg50 hn50)))
           go_roundg (of.length- (b+1))
           case measure=>omega
           case rel=>exact⟨b+1,_,_,by omega,rfl,rfl,by go_num,HI20.out,by rw[HRS.out],hV18.trans (hbg.mono hbVA.size)⟩
        ·obtain rfl:b=of.length:=by omega
         have hcw:=HIn.out.chw HWA.out
         obtain⟨hcw1,hcw2,hcw3⟩:=hcw
         obtain⟨a11,l11,k11,rfl,_⟩:=hcw2.sl
         have HCW9:=zH (And.intro hcw1 (And.intro hcw2 hcw3))
         have HFW:=zH HIn.out.fm
         have hra:=hcw1.ra
         have hrasl:=hra.sl
         have hszw:=hcw1.sz
         have HRR:Hid (row=zzw c of share a2):=zH (by rw[HRow.out,List.take_of_length_le (by simp[zzw])])
         obtain⟨_,b0,b1,b2,f0,f1,f2⟩:=id hcw1.box
         clear hcw1 hcw2 hcw3
         go_wp2_with (first
          |(at_builtin;refine hAR _ rfl _ _ rfl (V0.heap.size+1) _ vr rs rfl hra (.slice a11 l11 k11) rfl (fun z=>by simp) rfl hlen3 hszw ?_;intro v5' w21 ho21 hg21 hn21 hq21 sv21
            have hG:=HCW9.out.1.ratesG HCW9.out.2.1 HCW9.out.2.2 ho21 hg21 hn21
            have hbx21:=HCW9.out.1.box.below hG.2 (Nat.lt_succ_self _)
            have HG:=zH hG
            obtain⟨_,b0,b1,b2,f0,f1,f2⟩:=id hbx21
            clear hG hbx21
            obtain⟨an5,nn5,cn5,rfl,_⟩:=id sv21))
         have HF21:=zH ((HFW.out.low HG.out.2 (by omega)).set ⟨V0.heap.size,0,none⟩ hW0V (.slice an5 nn5 cn5))
         have HB21:=zH (hbi.trans ((HG.out.2.mono (Nat.le_succ _)).setCell (p:=⟨V0.heap.size,0,none⟩) (Nat.le_refl _) (.slice an5 nn5 cn5)))
         have HRT:Hid ((zxw c of share).rates.take (a2+1)=(zxw c of share).rates.take a2++ [zzw c of share a2]):=zH (by
          rw[zxc _ a2 (by simp[zxw];exact ham)]
          simp[zxw,zzw])
         clear b0 b1 b2 f0 f1 f2
         go_roundg (of.length- (a2+1))
         case measure=>omega
         case rel=>
          obtain⟨q1,q2,q3⟩:=HEQ.out
          exact⟨a2+1,_,_,_,_,_,_,_,by omega,rfl,by go_num,HG.out.1,HB21.out,HF21.out,by rw[HRT.out,HRR.out,q1],by rw[HLS.out,q2],by rw[HLE.out,q3]⟩
    ·obtain rfl:a2=of.length:=by omega
     obtain⟨ar,lr,kr,rfl,_⟩:=id HCW.out.ra.sl
     obtain⟨as',ls,ks,rfl,_⟩:=id HCW.out.st.sl
     obtain⟨al,ll,kl,rfl,_⟩:=id HCW.out.lo.sl
     obtain⟨_,b0,b1,b2,_,_,_⟩:=id HCW.out.box
     obtain⟨_,e0,e1,e2,e3,e4,e5⟩:=id HFX.out.1
     go_wp2_with fail
     refine zoa rfl rfl Tryz.aggCh Tryz.sizeCh (HFX.out.1.set _ _ _) rfl ?_
     have hz0:=HZ0.out
     have hlt:=hT.lt
     have hO:=HCW.out.set3 HFX.out.1 (by omega) (by omega) (by omega) (.slice ar lr kr) (.slice as' ls ks) (.slice al ll kl)
     obtain⟨aO,hOT⟩:=hO.tape
     obtain⟨q1,q2,q3⟩:=HEQ.out
     have hEQ:(⟨rates,start,lost⟩:CQ)=zxw c of share:=by
      rw[CQ.ext_iff']
      exact⟨by rw[q1,List.take_of_length_le (by simp[zxw])],by rw[q2,List.take_of_length_le (by simp[zxw])],by rw[q3,List.take_of_length_le (by simp[zxw])]⟩
     have hCH:=hO.chainC
     rw[hEQ]at hCH
     have hLow:=zga (Below.refl W0.heap.size wx) (Nat.le_refl _) (.slice ar lr kr) (.slice as' ls ks) (.slice al ll kl)
     have hKP:Kp w wx:=((Kp.below hbx).trans HW.out.kp).trans (Kp.below hbx2)
     have hsz1:=HFX.out.1.lt
     have hsz2:=hLow.size
     exact⟨_,u6,of,share,aO,rfl,hCH,(HOF.out.below hbx2).set3 HFX.out.1 _ _ _,HCP.out,hOT.1,hKP.low hLow (by omega),by omega,fun B h1 h2=>(((hbx.mono h2).trans (HFX.out.2 B h1 (by omega)))).trans (hLow.mono (by omega))⟩
end Go.Proofs.YtlpdkbmmbdfoiaaGreat
