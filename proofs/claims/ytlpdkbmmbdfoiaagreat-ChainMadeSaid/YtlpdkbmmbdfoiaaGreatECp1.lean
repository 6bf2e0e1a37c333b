/- Lemmas. -/
import Derived.Test.YtlpdkbmmbdfoiaaGreatETa6
set_option linter.unusedVariables false
set_option linter.unusedSimpArgs false
namespace Go.Proofs.YtlpdkbmmbdfoiaaGreat
open Go.RowKit
theorem zcs (b:Nat) (l:List Nat) (a:Nat) (z:Int) (n:Nat) (w:World) (hz:z=(n:Int)) (h:znb w b l a) (hn:1<=n) (hn2:n<=65536):
 Calls Tryz.prog 107 #[.pointer (some ⟨b,0,none⟩), .int .i64 z] w (RNext w b l n):=by subst hz;exact next_any b l a n w h hn hn2
theorem Tryz.aggCh (w:World):(isAgg 28).run Tryz.prog w= .ok true w:=by go_simp
theorem Tryz.sizeCh (w:World):(sizeOf 28).run Tryz.prog w= .ok 3 w:=by go_simp
theorem sz1 (w:World) (o:Obj):(w.alloc o).heap.size=w.heap.size+1:=by simp
theorem r2make_z (a b:Nat) (z:Int) (w:World) (hz:z=(b:Int)) (ha:a<4294967296) (hb:b<4294967296) (hb0:b≠0):
 Calls Tryz.prog 18 #[.int .i64 a, .int .i64 z] w (RF0 w (fq false a b)):=by subst hz;exact zgf a b w ha hb hb0
def RChain (w0:World) (bt:Nat) (l:List Nat) (e:Ending) (w:World):Prop:=
 ∃v c a,e= .returned v/\zlq w v c/\zrr c/\znb w bt l a/\w0.heap.size<=w.heap.size/\∀B,B<=bt->B<=w0.heap.size->Below B w0 w
def Pro (w:World) (bt:Nat) (l:List Nat) (wx:World):Prop:=∃a,znb wx bt l a/\C3 wx w.heap.size (.slice none 0 0) (.slice none 0 0) (.slice none 0 0)/\(∀B,B<=bt->B<=w.heap.size->Below B w wx)
theorem Pro.size {w wx:World} {bt:Nat} {l:List Nat} (h:Pro w bt l wx):w.heap.size<wx.heap.size:=by obtain⟨a,h1,h2,h3⟩:=h;exact h2.lt
theorem Pro.tick {w wx wy:World} {bt a':Nat} {l:List Nat} (h:Pro w bt l wx) (ht:znb wy bt l a') (hk:zyl bt wx wy):Pro w bt l wy:=by
 have hs:=h.size
 obtain⟨a,h1,h2,h3⟩:=h
 exact⟨a',ht,h2.tick h1 hk zor zor zor,fun B hB hB2=>(h3 B hB hB2).trans (hk.below hB (by omega))⟩
theorem Pro.start {w:World} {bt a:Nat} {l:List Nat} (h:znb w bt l a) (t:TypeId):Pro w bt l (w.alloc (.cells #[.slice none 0 0, .slice none 0 0, .slice none 0 0] t)):=
 ⟨a,h.below (zca w _),C3.new w t _ _ _,fun B _ hB=>(zca w _).mono hB⟩
theorem ChW.new {w:World} {bt a:Nat} {l:List Nat} (h:znb w bt l a) (t:TypeId):
 ChW (w.alloc (.cells #[.slice none 0 0, .slice none 0 0, .slice none 0 0] t)) bt l (w.heap.size+1) w.heap.size (.slice none 0 0) (.slice none 0 0) (.slice none 0 0) [] [] [] []:=by
 refine⟨⟨a,(h.b.mono (Nat.le_succ _)).below (zca w _)⟩,C3.new w t _ _ _,zya.nil _ _ _,zlc.nil _ _ _ _,zlc.nil _ _ _ _,rfl,fun j h=>by simp at h,by simp,?_,by omega,?_⟩
 ·have:=h.lt;omega
 ·have:=h.lt;omega
set_option maxRecDepth 100000 in
set_option maxHeartbeats 3200000 in
theorem chain_any (bt a:Nat) (l:List Nat) (w:World) (hT:znb w bt l a):
 Calls Tryz.prog 42 #[.pointer (some ⟨bt,0,none⟩)] w (RChain w bt l):=by
 obtain⟨i1,hi1,hz1,hs1,hy1⟩:=info_parts Tryz.infoRow
 have hAR:=zxl (P:=Tryz.prog) 24 25 i1 _ 24 Tryz.underlying24 hi1 hz1 hs1 hy1 (by decide) rfl (fun z=>by simp)
 obtain⟨i2,hi2,hz2,hs2,hy2⟩:=info_parts Tryz.infoBool
 have hAB:=zxl (P:=Tryz.prog) 26 4 i2 _ 1 Tryz.underlying26 hi2 hz2 hs2 hy2 (by decide) rfl (fun z=>by simp)
 obtain⟨i3,hi3,hz3,hs3,hy3⟩:=info_parts Tryz.infoF
 have hAF:=zpp (P:=Tryz.prog) 25 38 i3 Tryz.underlying25 hi3 hz3 hs3 hy3
 clear hi1 hz1 hs1 hy1 hi2 hz2 hs2 hy2 hi3 hz3 hs3 hy3
 have hP0:=Pro.start hT 28
 have H0:=zH hP0
 obtain⟨a0,hT0,_,_⟩:=hP0
 go_enter Tryz.func42,Tryz.ntmps42
 go_upto_region 3 with(go_at_call 107;(with_reducible refine(zcs bt l _ 4 4 _ rfl hT0 (by decide) (by decide)).mono ?_);rintro e1 w1 ⟨x1,a1,rfl,hx1,hT1,hk1⟩)
 have HP:=zH (H0.out.tick hT1 hk1)
 clear hk1
 go_cut [23]from 14 (fun u23 wx=>∃b,u23= .bool b/\Pro w bt l wx)
 case first =>
  by_cases h3:3<x1+2
  ·have hd:decide ((3:Int)<2+(x1:Nat))=true:=decide_eq_true (by omega)
   go_wp2_with (go_at_call 107;(with_reducible refine(zcs bt l _ 3 3 _ rfl hT1 (by decide) (by decide)).mono ?_);rintro e2 w2 ⟨x2,a2,rfl,hx2,hT2,hk2⟩)
   go_meet
   case rel=>exact⟨_,rfl,HP.out.tick hT2 hk2⟩
  ·have hd:decide ((3:Int)<2+(x1:Nat))=false:=decide_eq_false (by omega)
   go_wp2_with fail
   go_meet
   case rel=>exact⟨_,rfl,HP.out⟩
 case rest=>
  obtain⟨b3,rfl,hP3⟩:=hcut
  have HP3:=zH hP3
  obtain⟨a3,hT3,_,_⟩:=hP3
  go_upto_if 23 with fail
  go_cut [4]from 14 (fun u4 wx=>∃lo:Nat,u4= .int .i64 lo/\lo<=2/\wx=wc)
  case first =>
   cases b3
   ·go_wp2_with fail
    go_meet
    case rel=>exact⟨1,rfl,by decide,rfl⟩
   ·go_wp2_with fail
    go_meet
    case rel=>exact⟨2,rfl,by decide,rfl⟩
  case rest=>
   obtain⟨lo,rfl,hlo,rfl⟩:=hcut
   go_upto_if 26 with(go_at_call 107;(with_reducible refine(zcs bt l _ 12 12 _ rfl hT3 (by decide) (by decide)).mono ?_);rintro e4 w4 ⟨x4,a4,rfl,hx4,hT4,hk4⟩)
   have HP4:=zH (HP3.out.tick hT4 hk4)
   go_cut [4]from 14 (fun u4 wx=>∃lo:Nat,u4= .int .i64 lo/\lo<=2/\wx=w4)
   case first =>
    by_cases h11:x4=11
    ·have hd:((x4:Int)==11)=true:=by simp[h11]
     go_wp2_with fail
     go_meet
     case rel=>exact⟨0,rfl,by decide,rfl⟩
    ·have hd:((x4:Int)==11)=false:=by simp;omega
     go_wp2_with fail
     go_meet
     case rel=>exact⟨lo,rfl,hlo,rfl⟩
   case rest=>
    obtain⟨lo2,rfl,hlo2,hwc⟩:=hcut
    subst hwc
    obtain⟨wz,hwz⟩:∃wz,wz=wc:=⟨_,rfl⟩
    subst hwz
    have hI:=ChW.new hT4 28
    have hF:Fr w bt wz:=by obtain⟨_,_,f1,f2⟩:=HP4.out;exact⟨f1,f2⟩
    have hF5:=hF.below (zca wz (.cells #[.slice none 0 0, .slice none 0 0, .slice none 0 0] 28))
    have HI:=zH hI
    have HF5:=zH hF5
    have hw4:=hF.1.lt
    have hbt:=hT.lt
    clear hI hF hF5 hk4 hT hT0 hT1 hT3
    go_wp2_with fail
    go_loopg [6,7] (x1+2) (fun k u6 u7 wr=>∃ (i left:Nat) (vr vs vl:Value) (rs:List Value) (rates:List (List Rat)) (start:List Rat) (lost:List Bool),i<=x1+2/\k=x1+2-i/\u6= .int .i64 left/\u7= .int .i64 i/\
     ChW wr bt l (wz.heap.size+1) wz.heap.size vr vs vl rs rates start lost/\TF (x1+2) lo2 i left rates start lost/\Fr w bt wr)
    case atStart=>exact⟨0,4,_,_,_,_,_,_,_,zZL _,rfl,rfl,rfl,HI.out,TF.zero _ _ (by omega),HF5.out⟩
    case round=>
     obtain⟨i,left,vr,vs,vl,rs,rates,start,lost,hi,hgk,rfl,rfl,hW,hTF,hF⟩:=hrel
     have HTF:=zH hTF
     have HF:=zH hF
     have HW:=zH hW
     have hil:=hTF.ll
     have hleft:=hTF.left4
     have hlob:=hW.lo
     have svl:=hW.lo.sl
     have hlen1:(lost.map Value.bool).length<=1000:=by rw[List.length_map,hil];omega
     obtain⟨_,c0,c1,c2,f0,f1,f2⟩:=id hW.box
     have hsz:=hW.sz
     clear hTF hF hW hil
     by_cases hin:i<x1+2
     ·have hd1:decide ((i:Int)<2+(x1:Nat))=true:=decide_eq_true (by omega)
      go_upto_if 46 with(first
       |(at_builtin;refine hAB wr rfl _ _ rfl (wz.heap.size+1) _ vl _ rfl hlob (.bool (decide ((2:Int)+(x1:Nat)- (lo2:Nat)<=(i:Nat)))) rfl (fun z=>by simp) rfl hlen1 hsz ?_;intro v2' w2 ho2 hg2 hn2 hv2 sv2
         have hG:=HW.out.lostG ho2 hg2 hn2
         have hbx2:=HW.out.box.below hG.2 (Nat.lt_succ_self _)
         have HG:=zH hG
         obtain⟨_,c0,c1,c2,f0,f1,f2⟩:=id hbx2
         clear hG hbx2
         obtain⟨an2,nn2,cn2,rfl,_⟩:=id sv2))
      have HF2:=zH ((HF.out.low HG.out.2 (by omega)).set ⟨wz.heap.size,2,none⟩ hw4 (.slice an2 nn2 cn2))
      have HW2:=zH HG.out.1
      clear HG ho2 hg2 hn2 hv2 c0 c1 c2 f0 f1 f2
      generalize w2.setCell ⟨wz.heap.size,2,none⟩ (.slice an2 nn2 cn2)=W2 at *
      have hx1:x1<4:=hx1
      go_cut [8] (fun u8 wx=>∃k:Nat,u8= .int .i64 k/\k<=left/\(i+1=x1+2->k=left)/\ChW wx bt l (wz.heap.size+1) wz.heap.size vr vs (.slice an2 nn2 cn2) rs rates start (lost++ [decide ((2:Int)+(x1:Nat)- (lo2:Nat)<=(i:Nat))])/\Fr w bt wx)
      case first =>
       obtain⟨a6,hT6⟩:=HW2.out.tape
       have hT6:=hT6.1
       by_cases hlast:i+1<x1+2
       ·have hd2:decide ((i:Int)+1<2+(x1:Nat))=true:=decide_eq_true (by omega)
        by_cases hi0:i=0
        ·have hd3:((i:Int)==0)=true:=by simp[hi0]
         clear hi0
         go_wp2_with (first
          |(go_at_call 107;(with_reducible refine(zcs bt l _ 6 6 _ rfl hT6 (by decide) (by decide)).mono ?_);rintro e6 w6 ⟨x6,a6',rfl,hx6,hT6',hk6⟩)
          |(go_at_call 107;(with_reducible refine(zcs bt l _ 2 2 _ rfl hT6' (by decide) (by decide)).mono ?_);rintro e7 w7 ⟨x7,a7,rfl,hx7,hT7,hk7⟩))
         all_goals
          go_meet
          case rel=>exact⟨_,rfl,by omega,fun h=>by omega,(HW2.out.tick hk6 hT6').tick hk7 hT7,(HF2.out.tick hT6 hk6).tick hT6' hk7⟩
        ·have hd3:((i:Int)==0)=false:=by simp;omega
         clear hi0
         go_wp2_with (first
          |(go_at_call 107;(with_reducible refine(zcs bt l _ 6 6 _ rfl hT6 (by decide) (by decide)).mono ?_);rintro e6 w6 ⟨x6,a6',rfl,hx6,hT6',hk6⟩))
         all_goals
          go_meet
          case rel=>exact⟨_,rfl,by omega,fun h=>by omega,HW2.out.tick hk6 hT6',HF2.out.tick hT6 hk6⟩
       ·have hd2:decide ((i:Int)+1<2+(x1:Nat))=false:=decide_eq_false (by omega)
        go_wp2_with fail
        go_meet
        case rel=>exact⟨left,rfl,zLR _,fun _=>rfl,HW2.out,HF2.out⟩
      case rest=>
       obtain⟨k,rfl,hkl,hkn,hW3,hF3⟩:=hcut
       have HW3:=zH hW3
       have HF3:=zH hF3
       clear hW3 hF3
       have HK:=zH hkn
       clear hkn
       have hst1:start.length<=1000:=by rw[HTF.out.sl];omega
       go_wp2_with (first
        |(go_at_call 18;(with_reducible refine(r2make_z k 4 4 _ rfl (by omega) (by decide) (by decide)).mono ?_);rintro e8 w8 ⟨v8,rfl,hv8,hb8⟩
          obtain⟨t9,x9,y9,rfl,⟨a91,l91,k91,rfl,_⟩,⟨a92,l92,k92,rfl,_⟩⟩:=hv8.isF
          have hbA:=zca w8 (.cells #[.bool t9, .slice a91 l91 k91, .slice a92 l92 k92] 38)
          have hv9:=hv8.below hbA
          have HW8:=zH ((HW3.out.below hb8).below hbA)
          have HF8:=zH ((HF3.out.below hb8).below hbA)
          have hst8:=HW8.out.st
          have hsz8:=HW8.out.sz
          obtain⟨_,c0,c1,c2,f0,f1,f2⟩:=id HW8.out.box
          obtain⟨_,g0,g1,g2,_,_,_⟩:=C3.new w8 38 (.bool t9) (.slice a91 l91 k91) (.slice a92 l92 k92))
        |(at_builtin;refine hAF _ rfl _ _ rfl (wz.heap.size+1) _ vs start rfl hst8 _ _ _ (fq false k 4) hv9 (by rw[sz1];rfl) hst1 hsz8 ?_;intro v3' w9 ho9 hg9 hn9 hq9 sv9
          have hG:=HW8.out.startG ho9 hg9 hn9 hq9 (Nat.le_succ _)
          have hbx9:=HW8.out.box.below hG.2 (Nat.lt_succ_self _)
          have HG:=zH hG
          obtain⟨_,c0,c1,c2,f0,f1,f2⟩:=id hbx9
          clear hG hbx9
          obtain⟨an3,nn3,cn3,rfl,_⟩:=id sv9))
       have HFA:=zH ((HF8.out.low HG.out.2 (by omega)).set ⟨wz.heap.size,1,none⟩ hw4 (.slice an3 nn3 cn3))
       have HWA:=zH HG.out.1
       have hb8s:=hb8.size
       clear HG ho9 hg9 hn9 hq9 c0 c1 c2 f0 f1 f2 g0 g1 g2 hst8
       generalize hWAe:w9.setCell ⟨wz.heap.size,1,none⟩ (.slice an3 nn3 cn3)=WA at *
       clear hWAe
       go_loopg [11,12] (x1+2) (fun m u11 u12 wi=>∃ (j:Nat) (rv:Value) (row:List Rat),j<=x1+2/\m=x1+2-j/\u11=rv/\u12= .int .i64 j/\
        InS w bt l (wz.heap.size+1) wz.heap.size vr (.slice an3 nn3 cn3) (.slice an2 nn2 cn2) WA rv row wi/\RowF (x1+2) lo2 i row j)
       case atStart=>exact⟨0,_,_,zZL _,rfl,rfl,rfl,InS.start HWA.out HFA.out (by omega),RowF.nil _ _ _⟩
       case round=>
        obtain⟨j,rv,row,hj,hgm,rfl,rfl,hIn,hRow⟩:=hrel
        have HIn:=zH hIn
        have HRow:=zH hRow
        have hrl:row.length<=1000:=by rw[hRow.1];omega
        clear hIn hRow
        by_cases hjn:j<x1+2
        ·have hd5:decide ((j:Int)<2+(x1:Nat))=true:=decide_eq_true (by omega)
         go_upto_region 26 with(first
          |(go_at_call 20;(with_reducible refine(zwi _).mono ?_);rintro e13 w13 ⟨v13,rfl,hv13,hb13⟩
            obtain⟨t13,x13,y13,rfl,⟨a131,l131,k131,rfl,q131⟩,⟨a132,l132,k132,rfl,q132⟩⟩:=hv13.isF))
         have hbB:=zca w13 (.cells #[.bool t13, .slice a131 l131 k131, .slice a132 l132 k132] 38)
         have HI13:=zH ((HIn.out.below hb13).below hbB)
         have hv13b:=hv13.below hbB
         have hC13:=C3.new w13 38 (.bool t13) (.slice a131 l131 k131) (.slice a132 l132 k132)
         have hrb:u11.ownBlock=none\/u11.ownBlock≠some w13.heap.size:=by
          cases ho:u11.ownBlock with
          | none=>exact Or.inl rfl
          | some g=>exact Or.inr (fun e=>by injection e with e;have h1:=(HIn.out.fr.block g ho).2;have h2:=hb13.size;omega)
         have hAb:WA.heap.size<=w13.heap.size:=zLT HIn.out.mv.size hb13.size
         have HV13:=zH (And.intro hv13b hC13)
         clear hv13 hv13b hC13 hb13 hbB
         generalize w13.alloc (.cells #[.bool t13, .slice a131 l131 k131, .slice a132 l132 k132] 38)=WB at *
         obtain⟨aT,hTB⟩:=HI13.out.tp
         have hTB:=hTB.1
         go_cut [93] (fun u93 wx=>∃b,u93= .bool b/\(b=true->((i:Nat):Int)<2+(x1:Nat)- (lo2:Nat)/\i≠j)/\InS w bt l (wz.heap.size+1) wz.heap.size vr (.slice an3 nn3 cn3) (.slice an2 nn2 cn2) WA u11 row wx/\
          C3 wx w13.heap.size (.bool t13) (.slice a131 l131 k131) (.slice a132 l132 k132)/\zqa wx (.agg #[.bool t13, .slice a131 l131 k131, .slice a132 l132 k132]) 0)
         case first =>
          by_cases hA:((i:Nat):Int)<2+(x1:Nat)- (lo2:Nat)
          ·have hdA:decide (((i:Nat):Int)<2+(x1:Nat)- (lo2:Nat))=true:=decide_eq_true hA
           by_cases hB:i=j
           ·have hdB:(((i:Nat):Int) != (j:Nat))=false:=by simp[hB]
            clear hB
            go_wp2_with fail
            go_meet
            case rel=>exact⟨_,rfl,fun h=>(by cases h),HI13.out,HV13.out.2,HV13.out.1⟩
           ·have hdB:(((i:Nat):Int) != (j:Nat))=true:=by simp;omega
            go_wp2_with (go_at_call 107;(with_reducible refine(zcs bt l _ 3 3 _ rfl hTB (by decide) (by decide)).mono ?_);rintro e14 w14 ⟨x14,a14,rfl,hx14,hT14,hk14⟩)
            go_meet
            case rel=>exact⟨_,rfl,fun _=>⟨hA,hB⟩,HI13.out.tick hk14 hT14,HV13.out.2.tick hTB hk14 (fun z=>by simp) (fun z=>by simp) (fun z=>by simp),HV13.out.1.tick hTB hk14⟩
          ·have hdA:decide (((i:Nat):Int)<2+(x1:Nat)- (lo2:Nat))=false:=decide_eq_false hA
           go_wp2_with fail
           go_meet
           case rel=>exact⟨_,rfl,fun h=>(by cases h),HI13.out,HV13.out.2,HV13.out.1⟩
         case rest=>
          obtain⟨b93,rfl,hb93,hI14,hC14,hv14⟩:=hcut
          have HI14:=zH hI14
          have HV14:=zH (And.intro hv14 hC14)
          obtain⟨aU,hTU⟩:=HI14.out.tp
          have hTU:=hTU.1
          clear hI14 hv14 hC14 hTB HI13 HV13
          go_upto_if 93 with fail
          go_cut [] (fun wx=>∃ (q:Rat) (t':Bool) (x' y':Value),C3 wx w13.heap.size (.bool t') x' y'/\zqa wx (.agg #[.bool t',x',y']) q/\zeq q/\(i=j->q=0)/\(((x1+2:Nat):Int)- (lo2:Nat)<=(i:Nat)->q=0)/\
           InS w bt l (wz.heap.size+1) wz.heap.size vr (.slice an3 nn3 cn3) (.slice an2 nn2 cn2) WA u11 row wx)
          case first =>
           have HB93:=zH hb93
           clear hb93
           cases b93
           ·go_wp2_with fail
            go_meet
            case rel=>exact⟨0,_,_,_,HV14.out.2,HV14.out.1,zeq.zero,by simp,by simp,HI14.out⟩
           ·go_wp2_with (first
             |(go_at_call 107;(with_reducible refine(zcs bt l _ 4 4 _ rfl hTU (by decide) (by decide)).mono ?_);rintro e15 w15 ⟨x15,a15,rfl,hx15,hT15,hk15⟩)
             |(go_at_call 107;(with_reducible refine(zcs bt l _ 3 3 _ rfl hT15 (by decide) (by decide)).mono ?_);rintro e16 w16 ⟨x16,a16,rfl,hx16,hT16,hk16⟩)
             |(go_at_call 18;(with_reducible refine(r2make_z x15 (x16+1) _ _ (by omega) (by omega) (by omega) (by omega)).mono ?_);rintro e17 w17 ⟨v17,rfl,hv17,hb17⟩
               obtain⟨t17,x17,y17,rfl,⟨a171,l171,k171,rfl,q171⟩,⟨a172,l172,k172,rfl,q172⟩⟩:=hv17.isF
               have hC17:=(((HV14.out.2.tick hTU hk15 (fun z=>by simp) (fun z=>by simp) (fun z=>by simp)).tick hT15 hk16 (fun z=>by simp) (fun z=>by simp) (fun z=>by simp)).belowS hb17)
               have HC17:=zH hC17
               have HI17:=zH (((HI14.out.tick hk15 hT15).tick hk16 hT16).below hb17)
               obtain⟨_,d0,d1,d2,d3,d4,d5⟩:=hC17))
            go_meet
            case rel=>
             obtain⟨hA,hB⟩:=HB93.out (by first | trivial | rfl)
             exact⟨fq false x15 (x16+1),_,_,_,HC17.out.set _ _ _,hv17.set3 HC17.out (fun z=>by simp) (fun z=>by simp) _ _ _,⟨x15,x16+1,by omega,by omega,by omega,rfl⟩,fun h=>absurd h hB,fun h=>by omega,HI17.out.set3 HC17.out ⟨_,_,_,rfl,q131⟩ ⟨_,_,_,rfl,q132⟩ hAb hrb _ _ _⟩
          case rest=>
           obtain⟨q,t18,x18,y18,hC18,hv18,hsm,hq1,hq2,hI18⟩:=hcut
           have HI18:=zH hI18
           have HQ:=zH (And.intro hsm (And.intro hq1 hq2))
           have hfr:=hI18.fr
           have s11:=hfr.sl
           have hbs:=hI18.mv.size
           have hv18':=hv18
           obtain⟨_,_,_,hF18,⟨a181,l181,k181,rfl,_⟩,⟨a182,l182,k182,rfl,_⟩⟩:=hv18'.isF
           injection hF18 with hF18
           injection hF18 with hF18
           simp only[List.cons.injEq,and_true,Value.bool.injEq]at hF18
           obtain⟨rfl,rfl,rfl⟩:=hF18
           obtain⟨_,d0,d1,d2,_,_,_⟩:=id hC18
           clear hq1 hq2 hC18 hI18 hv18' hsm
           go_wp2_with (first
            |(at_builtin;refine hAF _ rfl _ _ rfl WA.heap.size _ u11 row rfl hfr _ _ _ q hv18 rfl hrl hbs ?_;intro v4' w20 ho20 hg20 hn20 hq20 sv20
              have HI20:=zH (HI18.out.grow ho20 hg20 hn20)))
           go_roundg (x1+2- (j+1))
           case measure=>omega
           case rel=>exact⟨j+1,_,_,by omega,rfl,rfl,by go_num,HI20.out,HRow.out.snoc HQ.out.1 HQ.out.2.1 HQ.out.2.2⟩
        ·obtain rfl:j=x1+2:=by omega
         have hd5:decide (((x1+2:Nat):Int)<2+(x1:Nat))=false:=decide_eq_false (by omega)
         have hcw:=HIn.out.chw HWA.out
         obtain⟨hcw1,hcw2,hcw3⟩:=hcw
         obtain⟨a11,l11,k11,rfl,_⟩:=hcw2.sl
         have HCW:=zH (And.intro hcw1 (And.intro hcw2 hcw3))
         have HFW:=zH HIn.out.fm
         have hra:=hcw1.ra
         have hrasl:=hra.sl
         have hszw:=hcw1.sz
         have hrs1:rs.length<=1000:=by rw[hcw1.rl,HTF.out.rl];omega
         obtain⟨_,c0,c1,c2,f0,f1,f2⟩:=id hcw1.box
         clear hcw1 hcw2 hcw3
         go_wp2_with (first
          |(at_builtin;refine hAR _ rfl _ _ rfl (wz.heap.size+1) _ vr rs rfl hra (.slice a11 l11 k11) rfl (fun z=>by simp) rfl hrs1 hszw ?_;intro v5' w21 ho21 hg21 hn21 hq21 sv21
            have hG:=HCW.out.1.ratesG HCW.out.2.1 HCW.out.2.2 ho21 hg21 hn21
            have hbx21:=HCW.out.1.box.below hG.2 (Nat.lt_succ_self _)
            have HG:=zH hG
            obtain⟨_,c0,c1,c2,f0,f1,f2⟩:=id hbx21
            clear hG hbx21
            obtain⟨an5,nn5,cn5,rfl,_⟩:=id sv21))
         have HF21:=zH ((HFW.out.low HG.out.2 (by omega)).set ⟨wz.heap.size,0,none⟩ hw4 (.slice an5 nn5 cn5))
         have HDEC:Hid (decide ((2:Int)+(x1:Nat)- (lo2:Nat)<=(i:Nat))=decide (((x1+2:Nat):Int)- (lo2:Nat)<=(i:Nat))):=zH (decide_eq_decide.2 (by omega))
         have HSUB:Hid (((left:Nat):Int)- (k:Nat)=((left-k:Nat):Int)):=zH (by omega)
         go_roundg (x1+2- (i+1))
         case measure=>omega
         case rel=>
          refine⟨i+1,left-k,_,_,_,_,_,_,_,by omega,rfl,by rw[HSUB.out],by go_num,HG.out.1,?_,HF21.out⟩
          rw[HDEC.out]
          exact HTF.out.step hkl HK.out HRow.out
     ·obtain rfl:i=x1+2:=by omega
      have hd1:decide (((x1+2:Nat):Int)<2+(x1:Nat))=false:=decide_eq_false (by omega)
      obtain⟨ar,lr,kr,rfl,_⟩:=id HW.out.ra.sl
      obtain⟨as',ls,ks,rfl,_⟩:=id HW.out.st.sl
      obtain⟨al,ll,kl,rfl,_⟩:=id svl
      obtain⟨_,e0,e1,e2,e3,e4,e5⟩:=id HF.out.1
      go_wp2_with fail
      refine zab rfl rfl Tryz.aggCh Tryz.sizeCh (HF.out.1.set _ _ _) rfl ?_
      have hO:=HW.out.set3 HF.out.1 (by omega) (by omega) (by omega) (.slice ar lr kr) (.slice as' ls ks) (.slice al ll kl)
      obtain⟨aO,hOT⟩:=hO.tape
      refine⟨_,_,aO,rfl,hO.chainC,HTF.out.done (by omega) (by omega),hOT.1,?_,fun B h1 h2=>zga (HF.out.2 B h1 h2) h2 _ _ _⟩
      have:=HF.out.1.lt
      simp[World.setCell]
      omega
theorem C3.grown {w w':World} {b:Nat} {v0 v1 v2:Value} {row:Option Nat} (h:C3 w b v0 v1 v2) (hg:w.grownBy w' row) (hne:row≠some b):C3 w' b v0 v1 v2:=by
 obtain⟨lt,c0,c1,c2,f0,f1,f2⟩:=h
 have hb:=hg.block b lt (fun e=>hne e.symm)
 have hc:∀k,w'.cell? ⟨b,k,none⟩=w.cell? ⟨b,k,none⟩:=fun k=>by simp only[World.cell?,hb]
 have hf:∀k,w'.frozen? ⟨b,k,none⟩=w.frozen? ⟨b,k,none⟩:=fun k=>by simp only[World.frozen?,hb]
 exact⟨zLM lt hg.size,by rw[hc];exact c0,by rw[hc];exact c1,by rw[hc];exact c2,by rw[hf];exact f0,by rw[hf];exact f1,by rw[hf];exact f2⟩
section
variable {w0 w w':World} {bt B:Nat} {l:List Nat} {vo vh:Value} {of:List Int} {share:List Rat}
end
theorem zey {P:Program} {ops:Array Oper} {o:Oper} {a:Act} {w:World} {K:Act->World->Prop} {Q:Exit->Act->World->Prop} {E:Prop} (hgd:o.guard=none) (s x:Operand) (t:TypeId)
 (ho:o.op= .call { callee:= .builtin .append,args:=#[s,x],argTypes:=#[t,t] })
 (B:Nat) (e:TypeId) (i:TypeInfo) (z:Value) (size bytes:Nat) (ht:P.underlying t=some (.slice e)) (hi:P.info? e=some i) (hz:i.zero=some z)
 (hsize:i.size=size) (hby:i.bytes=bytes) (hzs:z.cells.size=size) (hsz:0<size) (hnz:∀c∈z.cells.toList,∀z,c≠ .int .u32 z)
 (v:Value) (n:Nat) (xs:List Value) (hs:a.eval s=v) (hown:zlc w e B size v n xs) (news:List Value) (hns:news.length=size) (ad:Addr) (hxe:a.eval x= .slice (some ad) 1 1)
 (hnews:∀j u,news[j]? =some u->w.cell? (ad.add j)=some u) (h1:∀u∈news,u.oneCell'=true) (hnn:∀c∈news,∀z,c≠ .int .u32 z)
 (h63:n+1<=maxLen) (hbytes:(n+1)*bytes<=140737488355328) (hbase:B<=w.heap.size)
 (h:∀v' w',zlc w' e B size v' (n+1) (xs++news)->w.grownBy w' v.ownBlock->K (a.put o.dst v') w'):
 if Region.wanted o (yielded ops a.tmps)=true then Oper.wp P o a w K Q else E:=by
 rw[if_pos (by simp[Region.wanted,hgd])]
 obtain⟨v',w',hr,h2,h3,h4,h5⟩:=zwd (P:=P) w B t o.type e i z size bytes ht hi hz hsize hby hzs hsz v n xs hown.own ad 1 1 news (by simp[hns]) hnews h1 h63 hbytes hbase hown.nl hnn hnz
 unfold Oper.wp execOp
 simp only[ho,resolve,invoke,builtin,Sem.run_bind,Sem.run_pure,Result.andThen_ok,List.map_toArray,List.map_cons,List.map_nil,hs,hxe,hr]
 exact h v' w' ⟨h2,h5⟩ h3
theorem step_app_one {P:Program} (t e:TypeId) (i:TypeInfo) (z:Value) (bytes:Nat) (ht:P.underlying t=some (.slice e)) (hi:P.info? e=some i) (hz:i.zero=some z) (hsize:i.size=1) (hby:i.bytes=bytes) (hby2:bytes<=64) (hzc:z.cells=#[z]) (hzn:∀k,z≠ .int .u32 k)
 {ops:Array Oper} {o:Oper} {a:Act} {w:World} {K:Act->World->Prop} {Q:Exit->Act->World->Prop} {E:Prop} (hgd:o.guard=none) (s x:Operand)
 (ho:o.op= .call { callee:= .builtin .append,args:=#[s,x],argTypes:=#[t,t] }) (B:Nat) (v:Value) (xs:List Value) (hs:a.eval s=v) (hown:zlc w e B 1 v xs.length xs) (y:Value) (hy1:y.oneCell'=true) (hyn:∀k,y≠ .int .u32 k) (g:Nat) (hxe:a.eval x= .slice (some ⟨g,0,none⟩) 1 1)
 (hc:w.cell? ⟨g,0,none⟩=some y) (hn:xs.length<=1000) (hbase:B<=w.heap.size)
 (h:∀v' w',zlc w' e B 1 v' (xs++ [y]).length (xs++ [y])->w.grownBy w' v.ownBlock->K (a.put o.dst v') w'):
 if Region.wanted o (yielded ops a.tmps)=true then Oper.wp P o a w K Q else E:=by
 refine zey hgd s x t ho B e i z 1 bytes ht hi hz hsize hby (by rw[hzc];rfl) (by decide) (fun d hd=>by rw[hzc]at hd;simp at hd;subst hd;exact hzn) v _ _ hs hown [y] rfl ⟨g,0,none⟩ hxe (fun j u hu=>by
  have hj:=(List.getElem?_eq_some_iff.1 hu).1
  have :j=0:=by simp at hj;omega
  subst this
  simp at hu;subst hu;exact hc) (fun u hu=>by simp at hu;subst hu;exact hy1) (fun c hc z=>by simp at hc;subst hc;exact hyn z) (by simp[maxLen];omega) (by have :(xs.length+1)*bytes<=1001*64:=Nat.mul_le_mul (by omega) hby2;omega) hbase ?_
 intro v' w' k1 k2
 refine h v' w' ?_ k2
 rw[List.length_append]
 exact k1
end Go.Proofs.YtlpdkbmmbdfoiaaGreat
