/- Lemmas. -/
import Derived.Test.YtlpdkbmmbdfoiaaGreatELu7
set_option linter.unusedVariables false
set_option linter.unusedSimpArgs false
namespace Go.Proofs.YtlpdkbmmbdfoiaaGreat
open Go.RowKit
def RReach (w0:World) (c:RC) (e:Ending) (w:World):Prop:=
 ∃ (v1 v2:Value) (fs bs:List Bool),e= .returned (.tuple #[v1,v2])/\zcm w v1 fs/\zcm w v2 bs/\fs.length=c.rates.length/\bs.length=c.rates.length/\
  (∀j,j<c.rates.length->(fs.getD j false=true↔Rch c j))/\(∀j,j<c.rates.length->(bs.getD j false=true↔Ftl c j))/\Below w0.heap.size w0 w
theorem two_mkE (w:World) (e:TypeId) (z:Value) (n:Nat) (hn:n<=128):
 zce (mkE (mkE w.drew e z n) e z n) e w.heap.size (.slice (some ⟨w.heap.size,0,none⟩) n n) (List.replicate n z)/\zce (mkE (mkE w.drew e z n) e z n) e w.heap.size (.slice (some ⟨w.heap.size+1,0,none⟩) n n) (List.replicate n z)/\
  (base (.slice (some ⟨w.heap.size,0,none⟩) n n)).block≠(base (.slice (some ⟨w.heap.size+1,0,none⟩) n n)).block/\Below w.heap.size w (mkE (mkE w.drew e z n) e z n):=by
 have h1:=(zce.mkB (B:=w.heap.size) (a:=w.heap.size) w.drew e z n rfl (zLR _) hn).below (ziv (mkE w.drew e z n) e z n)
 have h2:=zce.mkB (B:=w.heap.size) (a:=w.heap.size+1) (mkE w.drew e z n) e z n (by rw[mkE_size];rfl) (Nat.le_succ _) hn
 exact⟨h1,h2,by simp[base],zaa (zaa (zja w) (ziv _ _ _ _)) (ziv _ _ _ _)⟩
structure RcI (W1:World) (vF vB:Value) (fs bs:List Bool) (w:World):Prop where
 f:zce w 4 W1.heap.size vF (fs.map Value.bool)
 b:zce w 4 W1.heap.size vB (bs.map Value.bool)
 ne:(base vF).block≠(base vB).block
 w:Below W1.heap.size W1 w
section
variable {W1 w w':World} {vF vB:Value} {fs bs:List Bool}
theorem RcI.below (h:RcI W1 vF vB fs bs w) (hb:Below w.heap.size w w'):RcI W1 vF vB fs bs w':=⟨h.f.below hb,h.b.below hb,h.ne,zfa h.w hb h.w.size⟩
theorem getB_map {l:List Bool} {i:Nat} (hi:i<l.length):(l.map Value.bool)[i]'(by rw[List.length_map];exact hi)= .bool (l.getD i false):=by rw[zrn hi];simp
theorem RcI.cf (h:RcI W1 vF vB fs bs w) {i:Nat} (hi:i<fs.length):w.cell? (ptr vF i)=some (.bool (fs.getD i false))/\w.frozen? (ptr vF i)=false:=by
 have k:=h.f.cell i (by rw[List.length_map];exact hi)
 rw[getB_map hi]at k
 exact⟨k,h.f.frozen i (by rw[List.length_map];exact hi)⟩
theorem RcI.cb (h:RcI W1 vF vB fs bs w) {i:Nat} (hi:i<bs.length):w.cell? (ptr vB i)=some (.bool (bs.getD i false))/\w.frozen? (ptr vB i)=false:=by
 have k:=h.b.cell i (by rw[List.length_map];exact hi)
 rw[getB_map hi]at k
 exact⟨k,h.b.frozen i (by rw[List.length_map];exact hi)⟩
theorem RcI.setF (h:RcI W1 vF vB fs bs w) {i:Nat} (hi:i<fs.length) (u:Bool):RcI W1 vF vB (fs.set i u) bs (w.setCell (ptr vF i) (.bool u)):=by
 have k:=h.f.set i (by rw[List.length_map];exact hi) (.bool u)
 rw[<-List.map_set]at k
 exact⟨k.1,h.b.other _ _ (by rw[zsa];exact h.ne),h.ne,h.w.trans k.2⟩
theorem RcI.setB (h:RcI W1 vF vB fs bs w) {i:Nat} (hi:i<bs.length) (u:Bool):RcI W1 vF vB fs (bs.set i u) (w.setCell (ptr vB i) (.bool u)):=by
 have k:=h.b.set i (by rw[List.length_map];exact hi) (.bool u)
 rw[<-List.map_set]at k
 exact⟨h.f.other _ _ (by rw[zsa];exact h.ne.symm),k.1,h.ne,h.w.trans k.2⟩
end
theorem rq_gt {x:RF} {z:Int} (hz:zsr x.q 0=z):0<z↔0<x.q:=by rw[<-hz];exact zrw _ _
theorem bools_rep (n:Nat):(List.replicate n false).map Value.bool=List.replicate n (.bool false):=by simp
set_option maxRecDepth 100000 in
set_option maxHeartbeats 6400000 in
theorem zbw (va:Value) (c:RC) (w:World) (ha:zdq w va c) (hv:zzp c):Calls Tryz.prog 177 #[va] w (RReach w c):=by
 obtain⟨i0,hi,hz0,hz1,hz2⟩:=info_parts Tryz.infoBool
 have hM:=fun n hn=>run_mkE (P:=Tryz.prog) 26 4 i0 _ 1 Tryz.underlying26 hi hz0 hz1 hz2 (by decide) rfl n hn
 clear hi hz0 hz1 hz2
 have hlen:c.rates.length=c.start.length:=hv.2.2.2.1
 have hlost:c.lost.length=c.start.length:=hv.2.2.1
 have h128:c.start.length<=128:=hv.2.1
 obtain⟨rv,sv,lv,rfl,hr,hs,hl⟩:=id ha
 obtain⟨ra,rn,rk,rfl,_⟩:=id hr.sl
 obtain⟨sa,sn,sk,rfl,_⟩:=id hs.sl
 obtain⟨la,ln,lk,rfl,_⟩:=id (zhc.sl hl)
 have HBW:=zH (zca w (.cells #[.slice ra rn rk, .slice sa sn sk, .slice la ln lk] 28))
 have HC:=zH (C3.new w 28 (.slice ra rn rk) (.slice sa sn sk) (.slice la ln lk))
 have HMR:=zH (hr.below HBW.out)
 have HMS:=zH (hs.below HBW.out)
 have HML:=zH (hl.below HBW.out)
 have HA:=zH (ha.below HBW.out)
 have HV:=zH hv
 have hsn:sn=c.start.length:=hs.len
 have ssn:=hs.sl
 have srn:=hr.sl
 have sln:=zhc.sl hl
 have hrn:rn=c.rates.length:=hr.len
 have hln:ln=c.lost.length:=by have h:=hl.len;exact h
 have HN:Hid (sn=c.rates.length):=zH (by omega)
 have HST:=zH hsn
 have HLN:Hid (c.lost.length=sn):=zH (by omega)
 have hn128:sn<=128:=by omega
 obtain rfl:rn=sn:=by omega
 obtain rfl:ln=rn:=by omega
 clear hr hs hl ha hv hlen hlost h128 hsn hrn hln
 go_enter Tryz.func177,Tryz.ntmps177
 go_upto_region 1 with fail
 obtain⟨b,hb⟩:∃b,w.heap.size=b:=⟨_,rfl⟩
 rw[hb]at HC |-
 generalize w.alloc (.cells #[.slice ra ln rk, .slice sa ln sk, .slice la ln lk] 28)=W1 at *
 obtain⟨_,c0,c1,c2,_,_,_⟩:=HC.out
 go_upto_region 2 with fail
 clear c0 c1 c2
 have hMN:=hM ln hn128
 go_cut [5,6] (fun u5 u6 wy=>zce wy 4 W1.heap.size u5 ((List.replicate ln false).map Value.bool)/\zce wy 4 W1.heap.size u6 ((List.replicate ln false).map Value.bool)/\(base u5).block≠(base u6).block/\Below W1.heap.size W1 wy)
 case first =>
  go_region_held3 (fun w'=>Below W1.heap.size W1 w') (first
   | with_reducible exact zja W1
   | with_reducible exact zaa (by assumption) (ziv _ _ _ _)) (fail)
  all_goals
   obtain⟨y1,y2,y3,y4⟩:=two_mkE W1 4 (.bool false) ln (by omega)
   go_wp2_with fail
   go_meet
   case rel=>
    rw[bools_rep]
    first
     | exact⟨y1,y2,y3,y4⟩
     | exact⟨y2,y1,y3.symm,y4⟩
 case rest=>
  obtain⟨hO5,hO6,hne,hbc⟩:=hcut
  obtain⟨vF,hvF⟩:∃v,v=u5:=⟨_,rfl⟩
  obtain⟨vB,hvB⟩:∃v,v=u6:=⟨_,rfl⟩
  subst hvF hvB
  have HI:Hid (RcI W1 vF vB (List.replicate ln false) (List.replicate ln false) wc):=zH ⟨hO5,hO6,hne,hbc⟩
  have sF:=hO5.sl
  have sB:=hO6.sl
  have lF:slen vF=ln:=by have h:=hO5.len;simpa using h
  have lB:slen vB=ln:=by have h:=hO6.len;simpa using h
  clear hM hMN hO5 hO6 hne hbc
  go_wp2_with fail
  go_loopg [7] (ln+1) (fun g u7 wr=>∃ (r:Nat) (fs bs:List Bool),r<=ln+1/\g=ln+1-r/\u7= .int .i64 r/\RcI W1 vF vB fs bs wr/\Gro ln (fun j=>0<(qs c.start).getD j 0) (fun i j=>0<rq c i j) r (fun _=>False) (fun _ _=>False) fs/\Gro ln (fun j=>c.lost.getD j false=true) (fun i j=>0<rq c j i) r (fun _=>False) (fun _ _=>False) bs)
  case atStart=>exact⟨0,_,_,by omega,rfl,rfl,HI.out,Gro.start _ _ _,Gro.start _ _ _⟩
  case round=>
   obtain⟨r,fs0,bs0,hr,hg,rfl,hI,hgF,hgB⟩:=hrel
   obtain⟨w2,hw2⟩:∃w2,w2=wr:=⟨_,rfl⟩
   subst hw2
   have HG:=zH hg
   have HI0:=zH hI
   have HGF0:=zH hgF
   have HGB0:=zH hgB
   clear hg hI hgF hgB HI
   by_cases hrl:r<=ln
   ·go_wp2_with fail
    go_loopg [8] (ln) (fun g u8 wr=>∃ (i:Nat) (fs bs:List Bool),i<=ln/\g=ln-i/\u8= .int .i64 i/\RcI W1 vF vB fs bs wr/\Gro ln (fun j=>0<(qs c.start).getD j 0) (fun i j=>0<rq c i j) r (fun x=>x<i) (fun x y=>x<i) fs/\Gro ln (fun j=>c.lost.getD j false=true) (fun i j=>0<rq c j i) r (fun x=>x<i) (fun x y=>y<i) bs)
    case atStart=>exact⟨0,_,_,zZL _,rfl,rfl,HI0.out,HGF0.out.none (fun i _ h=>by omega) (fun i j _ _ h=>by omega),HGB0.out.none (fun i _ h=>by omega) (fun i j _ _ h=>by omega)⟩
    case round=>
     obtain⟨i,fs,bs,hi,hgi,rfl,hI,hgF,hgB⟩:=hrel
     obtain⟨w3,hw3⟩:∃w2,w2=wr:=⟨_,rfl⟩
     subst hw3
     have HGI:=zH hgi
     have HI1:=zH hI
     have HGF1:=zH hgF
     have HGB1:=zH hgB
     clear hgi hI hgF hgB HI0 HGF0 HGB0
     by_cases hil:i<ln
     ·have hfl:i<fs.length:=by rw[HGF1.out.len];exact hil
      have hbl:i<bs.length:=by rw[HGB1.out.len];exact hil
      have hk2:i<c.start.length:=by rw[<-HST.out];exact hil
      have hkl:i<c.lost.length:=by rw[HLN.out];exact hil
      have hki:i<c.rates.length:=by rw[<-HN.out];exact hil
      have hbr:=HI1.out.w
      obtain⟨ea,eb,g1,g2,g3,g4,g5⟩:=(HMS.out.below hbr).at' i hk2
      have qL:=(HML.out.below hbr).at' i hkl
      obtain⟨xL,hxL⟩:∃x,c.lost[i]'hkl=x:=⟨_,rfl⟩
      rw[hxL]at qL
      have HXL:=zH hxL
      have HSL:Hid (xL=true↔c.lost.getD i false=true):=zH (by rw[zrn hkl,hxL])
      have HXO:Hid ((c.start[i]'hk2).ok):=zH (HV.out.2.2.2.2.1.ok _ (zGM hk2))
      have HXQ:Hid ((qs c.start).getD i 0=(c.start[i]'hk2).q):=zH (by
       have h2:i<(qs c.start).length:=by rw[zgq];exact hk2
       rw[zGD,zGE h2,Option.getD_some,zqt _ _ hk2])
      obtain⟨x,hxe⟩:∃x,c.start[i]'hk2=x:=⟨_,rfl⟩
      rw[hxe]at g1 g4 g5 HXO HXQ
      obtain⟨ea1,ea2,ea3,rfl,_⟩:=g4.slen.1
      obtain⟨eb1,eb2,eb3,rfl,_⟩:=g5.slen.1
      have HXN:Hid (zdc w3 (.agg #[.bool x.neg, .slice ea1 ea2 ea3, .slice eb1 eb2 eb3]) x.neg x.n x.d):=zH ⟨_,_,rfl,g4,g5⟩
      obtain⟨z,hz⟩:∃z,zsr x.q 0=z:=⟨_,rfl⟩
      have HZ:Hid (zsr (fq x.neg x.n x.d) 0=z):=zH hz
      have HXO:Hid (okN x.n x.d):=zH HXO.out
      have HS:Hid (decide (0<z)=true↔0<(qs c.start).getD i 0):=zH (by rw[decide_eq_true_iff,HXQ.out];exact rq_gt hz)
      obtain⟨cF,fF⟩:=HI1.out.cf hfl
      obtain⟨xF,hxF⟩:∃x,fs.getD i false=x:=⟨_,rfl⟩
      have HFE:=zH hxF
      rw[hxF]at cF
      have HGF2:Hid (Gro ln (fun j=>0<(qs c.start).getD j 0) (fun i j=>0<rq c i j) r (fun x=>x<i+1) (fun x y=>x<i) (fs.set i (xF || decide (0<z)))):=zH (by
       have h:=HGF1.out.doBase (k:=i) hil HS.out (Ps':=fun x=>x<i+1) (fun y hy=>by omega)
       rwa[HFE.out]at h)
      have HGB2:Hid (Gro ln (fun j=>c.lost.getD j false=true) (fun i j=>0<rq c j i) r (fun x=>x<i+1) (fun x y=>y<i) (bs.set i (bs.getD i false || xL))):=zH
       (HGB1.out.doBase (k:=i) hil HSL.out (Ps':=fun x=>x<i+1) (fun y hy=>by omega))
      obtain⟨_,c0,c1,c2,_,_,_⟩:=HC.out.below hbr HC.out.lt
      have i1:(0:Int)<=(i:Int):=by omega
      have i2:(i:Int)<(ln:Nat):=by omega
      clear g4 g5 hxe hz hxF hxL HXQ HS HSL
      go_upto_region 9 with fail
      go_cut [7] (fun u7 wy=>u7= .int .i64 r/\RcI W1 vF vB (fs.set i (xF || decide (0<z))) bs wy/\Below W1.heap.size W1 wy)
      case first =>
       cases xF with
       | true=>
         go_wp2_with fail
         go_meet
         case rel=>
          have h:=HI1.out.setF hfl true
          exact⟨rfl,h,h.w⟩
       | false=>
         go_wp2_with (go_at_call 34;(with_reducible refine(zns _ x.neg x.n x.d _ HXN.out HXO.out).mono ?_);rw[HZ.out];rintro e2 w9 ⟨rfl,hb2⟩
                      have HI9:=zH (HI1.out.below hb2)
                      have cF:=(HI9.out.cf hfl).1
                      have fF:=(HI9.out.cf hfl).2)
         go_meet
         case rel=>
          have h:=HI9.out.setF hfl (decide (0<z))
          exact⟨rfl,h,h.w⟩
      case rest=>
       obtain⟨rfl,hI2,hb2⟩:=hcut
       obtain⟨w4,hw4⟩:∃w2,w2=wc:=⟨_,rfl⟩
       subst hw4
       have HI2:=zH hI2
       clear c0 c1 c2 cF fF qL hbr HI1 HXN g1 g2 g3
       generalize hfs1:fs.set i (xF || decide (0<z))=fs1 at *
       have hfl1:i<fs1.length:=by rw[HGF2.out.len];exact hil
       go_upto_region 10 with fail
       go_cut [7] (fun u7 wy=>u7= .int .i64 r/\RcI W1 vF vB fs1 (bs.set i (bs.getD i false || xL)) wy)
       case first =>
        have hbr:=HI2.out.w
        have qL:=(HML.out.below hbr).at' i hkl
        rw[HXL.out]at qL
        obtain⟨_,c0,c1,c2,_,_,_⟩:=HC.out.below hbr HC.out.lt
        obtain⟨cB,fB⟩:=HI2.out.cb hbl
        obtain⟨xB,hxB⟩:∃x,bs.getD i false=x:=⟨_,rfl⟩
        rw[hxB]at cB
        have HXB:=zH hxB
        clear hbr hxB
        cases xB with
        | true=>
          go_wp2_with fail
          go_meet
          case rel=>
           have h:=HI2.out.setB hbl true
           exact⟨rfl,by rw[HXB.out];exact h⟩
        | false=>
          go_wp2_with fail
          go_meet
          case rel=>
           have h:=HI2.out.setB hbl xL
           exact⟨rfl,by rw[HXB.out,Bool.false_or];exact h⟩
       case rest=>
        obtain⟨rfl,hI3⟩:=hcut
        obtain⟨w5,hw5⟩:∃w2,w2=wc:=⟨_,rfl⟩
        subst hw5
        generalize hbs1:bs.set i (bs.getD i false || xL)=bs1 at *
        have HI3:=zH hI3
        clear HI2 hI3 hI2 hb2 hfs1 hbs1 hfl hbl hfl1
        go_wp2_with fail
        go_loopg [9] (ln) (fun g u9 wr=>∃ (j:Nat) (fs bs:List Bool),j<=ln/\g=ln-j/\u9= .int .i64 j/\RcI W1 vF vB fs bs wr/\Gro ln (fun j=>0<(qs c.start).getD j 0) (fun i j=>0<rq c i j) r (fun x=>x<i+1) (fun x y=>x<i\/(x=i/\y<j)) fs/\Gro ln (fun j=>c.lost.getD j false=true) (fun i j=>0<rq c j i) r (fun x=>x<i+1) (fun x y=>y<i\/(y=i/\x<j)) bs)
        case atStart=>exact⟨0,_,_,zZL _,rfl,rfl,HI3.out,HGF2.out.none (fun i _ h=>h) (fun i j _ _ h=>by omega),HGB2.out.none (fun i _ h=>h) (fun i j _ _ h=>by omega)⟩
        case round=>
         obtain⟨j,fs,bs,hj,hgj,rfl,hI,hgF,hgB⟩:=hrel
         obtain⟨w6,hw6⟩:∃w2,w2=wr:=⟨_,rfl⟩
         subst hw6
         have HGJ:=zH hgj
         have HI:=zH hI
         have HGF:=zH hgF
         have HGB:=zH hgB
         clear hgj hI hgF hgB HI3 HGF2 HGB2 HGF1 HGB1
         by_cases hjl:j<ln
         ·have hki2:j<c.rates.length:=by rw[<-HN.out];exact hjl
          have hbr:=HI.out.w
          obtain⟨hj2,e1,e2,e3⟩:=zcw HV.out hki hki2
          obtain⟨ri,hci,hri⟩:=(HMR.out.below hbr).at' i hki
          obtain⟨ra1,ra2,ra3,rfl,_⟩:=id hri.sl
          have sri:=hri.sl
          have hra2:ln=ra2:=by
           obtain⟨_,hc,_⟩:=HV.out.row (i:=i) (by rw[HLN.out];exact hil)
           have h:=hri.len
           rw[hc,HLN.out]at h
           exact h.symm
          subst hra2
          obtain⟨ea,eb,g1,g2,g3,g4,g5⟩:=hri.at' j hj2
          obtain⟨y,hye⟩:∃x,(c.rates[i]'hki)[j]'hj2=x:=⟨_,rfl⟩
          rw[hye]at g1 g4 g5 e1 e2 e3
          obtain⟨ea1,ea2,ea3,rfl,_⟩:=g4.slen.1
          obtain⟨eb1,eb2,eb3,rfl,_⟩:=g5.slen.1
          have HYN:Hid (zdc w6 (.agg #[.bool y.neg, .slice ea1 ea2 ea3, .slice eb1 eb2 eb3]) y.neg y.n y.d):=zH ⟨_,_,rfl,g4,g5⟩
          obtain⟨z2,hz2⟩:∃z,zsr y.q 0=z:=⟨_,rfl⟩
          have HZ2:Hid (zsr (fq y.neg y.n y.d) 0=z2):=zH hz2
          have HYO:Hid (okN y.n y.d):=zH e2
          have HE:Hid (0<z2↔0<rq c i j):=zH (by rw[e1];exact rq_gt hz2)
          obtain⟨_,c0,c1,c2,_,_,_⟩:=HC.out.below hbr HC.out.lt
          have j1:(0:Int)<=(j:Int):=by omega
          have j2:(j:Int)<(ln:Nat):=by omega
          clear g4 g5 hye hz2 e1 e2 e3 hri hbr
          by_cases hzz:0<z2
          ·have hE:=HE.out.1 hzz
           have HGF4:=zH (HGF.out.doEdge (a:=i) (b:=j) hil hjl hE (Pe':=fun x y=>x<i\/(x=i/\y<j+1)) (fun x y h=>by omega))
           have HGB4:=zH (HGB.out.doEdge (a:=j) (b:=i) hjl hil hE (Pe':=fun x y=>y<i\/(y=i/\x<j+1)) (fun x y h=>by omega))
           have hfl:i<fs.length:=by rw[HGF.out.len];exact hil
           have hflj:j<fs.length:=by rw[HGF.out.len];exact hjl
           have hbl:i<bs.length:=by rw[HGB.out.len];exact hil
           have hblj:j<bs.length:=by rw[HGB.out.len];exact hjl
           clear hE HGF HGB
           go_upto_region 15 with(go_at_call 34;(with_reducible refine(zns _ y.neg y.n y.d _ HYN.out HYO.out).mono ?_);rw[HZ2.out];rintro e2 w9 ⟨rfl,hb2⟩
                                  have HI9:=zH (HI.out.below hb2)
                                  clear hb2)
           clear c0 c1 c2 g1 g2 g3 hci HI HYN
           go_cut [7] (fun u7 wy=>u7= .int .i64 r/\RcI W1 vF vB (fs.set j (fs.getD j false || fs.getD i false)) bs wy)
           case first =>
            obtain⟨cF,fF⟩:=HI9.out.cf hflj
            obtain⟨cG,fG⟩:=HI9.out.cf hfl
            obtain⟨xF,hxF⟩:∃x,fs.getD j false=x:=⟨_,rfl⟩
            obtain⟨xG,hxG⟩:∃x,fs.getD i false=x:=⟨_,rfl⟩
            rw[hxF]at cF
            rw[hxG]at cG
            have HXF:=zH hxF
            have HXG:=zH hxG
            clear hxF hxG
            cases xF with
            | true=>
              go_wp2_with fail
              go_meet
              case rel=>exact⟨rfl,by rw[HXF.out];exact HI9.out.setF hflj true⟩
            | false=>
              go_wp2_with fail
              go_meet
              case rel=>exact⟨rfl,by rw[HXF.out,HXG.out,Bool.false_or];exact HI9.out.setF hflj xG⟩
           case rest=>
            obtain⟨rfl,hI3⟩:=hcut
            obtain⟨w7,hw7⟩:∃w2,w2=wc:=⟨_,rfl⟩
            subst hw7
            have HI7:=zH hI3
            clear hI3 HI9
            obtain⟨cF,fF⟩:=HI7.out.cb hbl
            obtain⟨cG,fG⟩:=HI7.out.cb hblj
            obtain⟨xF,hxF⟩:∃x,bs.getD i false=x:=⟨_,rfl⟩
            obtain⟨xG,hxG⟩:∃x,bs.getD j false=x:=⟨_,rfl⟩
            rw[hxF]at cF HGB4
            rw[hxG]at cG HGB4
            clear hxF hxG
            cases xF with
            | true=>
              go_wp2_with fail
              go_roundg (ln- (j+1))
              case measure=>(have:=HGJ.out;omega)
              case rel=>exact⟨j+1,_,_,by omega,rfl,by go_num,HI7.out.setB hbl true,HGF4.out,HGB4.out⟩
            | false=>
              go_wp2_with fail
              go_roundg (ln- (j+1))
              case measure=>(have:=HGJ.out;omega)
              case rel=>exact⟨j+1,_,_,by omega,rfl,by go_num,HI7.out.setB hbl xG,HGF4.out,by have h:=HGB4.out;rwa[Bool.false_or]at h⟩
          ·have hE:¬0<rq c i j:=fun h=>hzz (HE.out.2 h)
           have HGF4:=zH (HGF.out.noEdge (a:=i) (b:=j) hE (Pe':=fun x y=>x<i\/(x=i/\y<j+1)) (fun x y h=>by omega))
           have HGB4:=zH (HGB.out.noEdge (a:=j) (b:=i) hE (Pe':=fun x y=>y<i\/(y=i/\x<j+1)) (fun x y h=>by omega))
           clear hE HGF HGB
           go_wp2_with (go_at_call 34;(with_reducible refine(zns _ y.neg y.n y.d _ HYN.out HYO.out).mono ?_);rw[HZ2.out];rintro e2 w9 ⟨rfl,hb2⟩
                        have HI9:=zH (HI.out.below hb2)
                        clear hb2)
           go_roundg (ln- (j+1))
           case measure=>(have:=HGJ.out;omega)
           case rel=>exact⟨j+1,_,_,by omega,rfl,by go_num,HI9.out,HGF4.out,HGB4.out⟩
         ·obtain rfl:j=ln:=by omega
          go_wp2_with fail
          go_roundg (j- (i+1))
          case measure=>(have:=HGI.out;omega)
          case rel=>exact⟨i+1,fs,bs,by omega,rfl,by go_num,HI.out,HGF.out.none (fun x _ h=>h) (fun x y h1 h2 h=>by omega),HGB.out.none (fun x _ h=>h) (fun x y h1 h2 h=>by omega)⟩
     ·obtain rfl:i=ln:=by omega
      go_wp2_with fail
      go_roundg (i+1- (r+1))
      case measure=>(have:=HG.out;omega)
      case rel=>exact⟨r+1,fs,bs,by omega,rfl,by go_num,HI1.out,HGF1.out.round (fun i h=>h) (fun i j h1 h2=>h1),HGB1.out.round (fun i h=>h) (fun i j h1 h2=>h2)⟩
   ·obtain rfl:r=ln+1:=by omega
    go_wp2_with fail
    go_ret2
    have hl1:=HGF0.out.all
    have hl2:=HGB0.out.all
    rw[HN.out]at hl1 hl2
    exact⟨vF,vB,fs0,bs0,rfl,HI0.out.f.bools,HI0.out.b.bools,HGF0.out.len.trans HN.out,HGB0.out.len.trans HN.out,hl1,hl2,HBW.out.trans (HI0.out.w.mono (by have:=HBW.out.size;omega))⟩
end Go.Proofs.YtlpdkbmmbdfoiaaGreat
