/- Lemmas. -/
import Derived.Test.YtlpdkbmmbdfoiaaGreatECs1
set_option linter.unusedVariables false
set_option linter.unusedSimpArgs false
namespace Go.Proofs.YtlpdkbmmbdfoiaaGreat
open Go.RowKit
theorem stepE_raw (c:CQ) (q:Rat) (i j:Nat):zfq c.raw q i j=if i=j then 1-zgg (c.rates.getD i [])/q else(c.rates.getD i []).getD j 0/q:=by
 unfold zfq;rw[zkr]
theorem r2quo_cr (va vb:Value) (p:Rat) (s:Bool) (n d:Nat) (q:Rat) (w:World) (ha:zqa w va p) (hb:zdc w vb s n d) (hp:fits p) (hy:okN n d) (hq:fq s n d=q) (hn0:n≠0) (hr:fits (p/q)):Calls Tryz.prog 40 #[va,vb] w (RF0 w (p/q)):=by
 have h:=r2quo_raw va vb _ s _ _ n d w ha.raw hb (zuc hp) hy hn0 (by rw[zvb,hq];exact hr)
 rw[zvb,hq]at h
 exact h
theorem rawRow {c:CQ} (hv:zzp c.raw) {i:Nat} (hi:i<c.start.length):∃h2:i<c.raw.rates.length,(c.rates.getD i []).length=c.start.length/\zlr (c.raw.rates[i]'h2) (c.raw.rates[i]'h2).length/\c.rates.getD i []=qs (c.raw.rates[i]'h2)/\
 (∀j,j<c.start.length->fits ((c.rates.getD i []).getD j 0))/\fits (zgg (c.rates.getD i [])):=by
 have hs:c.raw.start.length=c.start.length:=by simp[CQ.raw]
 obtain⟨h2,h3,h4,h5⟩:=hv.row (i:=i) (by rw[hv.2.2.1,hs];exact hi)
 rw[zkr]at h5
 have hl:(c.raw.rates[i]'h2).length=c.start.length:=by rw[h3,hv.2.2.1,hs]
 refine⟨h2,by rw[h5,zgq,hl],h4,h5,fun j hj=> ?_,?_⟩
 ·have hj2:j<(c.raw.rates[i]'h2).length:=by rw[hl];exact hj
  have hj3:j<(qs (c.raw.rates[i]'h2)).length:=by rw[zgq];exact hj2
  rw[h5,zGD,zGE hj3,Option.getD_some,zqt _ _ hj2]
  exact RF.fits (h4.ok _ (zGM hj2))
 ·have h:=h4.fits (c.raw.rates[i]'h2).length
  rw[List.take_length]at h
  rw[h5];exact h
set_option maxRecDepth 100000 in
set_option maxHeartbeats 6400000 in
theorem zbs (va vx:Value) (c:CQ) (t1:Bool) (nr dr:Nat) (q:Rat) (w:World) (ha:zlq w va c) (hv:zzp c.raw) (hn5:c.start.length<=24) (hx:zdc w vx t1 nr dr) (hf:okN nr dr) (hfq:fq t1 nr dr=q) (hn0:nr≠0) (hE:zdu c.raw q):
 Calls Tryz.prog 117 #[va,vx] w (fun e w'=>∃v,e= .returned (.tuple #[v, .bool true])/\zam w' v c.start.length c.start.length (zfq c.raw q)/\Below w.heap.size w w'):=by
 obtain⟨i3,hi3,hz3,hs3,hy3⟩:=info_parts Tryz.infoF
 have hAP:=zpp (P:=Tryz.prog) 25 38 i3 Tryz.underlying25 hi3 hz3 hs3 hy3
 obtain⟨i4,hi4,hz4,hs4,hy4⟩:=info_parts Tryz.infoRow
 have hAR:=zxl (P:=Tryz.prog) 24 25 i4 _ 24 Tryz.underlying24 hi4 hz4 hs4 hy4 (by decide) rfl (fun z=>by simp)
 clear hi3 hz3 hs3 hy3 hi4 hz4 hs4 hy4
 have hlen:c.rates.length=c.start.length:=by have h:=hv.2.2.2.1;simpa [CQ.raw]using h
 have hrl:c.raw.rates.length=c.rates.length:=by simp[CQ.raw]
 obtain⟨n,hn⟩:∃n,c.start.length=n:=⟨_,rfl⟩
 rw[hn]at hlen hn5 |-
 obtain⟨rv,sv,lv,rfl,hr,hs,hl⟩:=id ha
 obtain⟨ra,rn,rk,rfl,_⟩:=id hr.sl
 obtain⟨sa,sn,sk,rfl,_⟩:=id hs.sl
 obtain⟨la,ln,lk,rfl,_⟩:=id (zhc.sl hl)
 obtain⟨x1,y1,rfl,hx4,hx5⟩:=id hx
 obtain⟨a11,l11,k11,rfl,_⟩:=hx4.slen.1
 obtain⟨a12,l12,k12,rfl,_⟩:=hx5.slen.1
 have hrn:rn=n:=hr.len.trans hlen
 have hsn:sn=n:=hs.len.trans hn
 subst hrn
 obtain rfl:sn=rn:=hsn
 have hbx:=zca w (.cells #[.slice ra sn rk, .slice sa sn sk, .slice la ln lk] 28)
 have hb2:=zca (w.alloc (.cells #[.slice ra sn rk, .slice sa sn sk, .slice la ln lk] 28)) (.cells #[.bool t1, .slice a11 l11 k11, .slice a12 l12 k12] 38)
 have HC:=zH ((C3.new w 28 (.slice ra sn rk) (.slice sa sn sk) (.slice la ln lk)).belowS hb2)
 have HR:=zH (C3.newB (b:=w.heap.size+1) (w.alloc (.cells #[.slice ra sn rk, .slice sa sn sk, .slice la ln lk] 28)) 38 (.bool t1) (.slice a11 l11 k11) (.slice a12 l12 k12) (by simp))
 have HBW:=zH (zaa hbx hb2)
 have HRT:=zH (hr.below HBW.out)
 have srt:=hr.sl
 have HST:=zH (hs.below HBW.out)
 have HA:=zH (ha.below HBW.out)
 have HX:=zH (hx.below HBW.out)
 have HV:=zH hv
 have HF:=zH hf
 have HFQ:=zH hfq
 have HN0:=zH hn0
 have HLEN:=zH hlen
 have HN:=zH hn
 have HE1:Hid (∀i j,i<sn->j<sn->fits ((c.rates.getD i []).getD j 0/q)):=zH (fun i j hi hj=>by
  have h:=hE.1 i j (by omega) (by omega)
  rw[zkr]at h;exact h)
 have HE2:Hid (∀i,i<sn->fits (zgg (c.rates.getD i [])/q)/\fits (1-zgg (c.rates.getD i [])/q)):=zH (fun i hi=>by
  have h:=hE.2 i (by omega)
  rw[zkr]at h;exact h)
 have HRL:=zH hrl
 clear hr hs hl ha hv hbx hb2 hx hx4 hx5 hf hfq hn0 hlen hrl hE hn
 go_enter Tryz.func117,Tryz.ntmps117
 go_upto_region 1 with fail
 generalize (w.alloc (.cells #[.slice ra sn rk, .slice sa sn sk, .slice la ln lk] 28)).alloc (.cells #[.bool t1, .slice a11 l11 k11, .slice a12 l12 k12] 38)=W2 at *
 have HZ:Hid (w.heap.size<w.heap.size+1/\w.heap.size+1<W2.heap.size):=zH ⟨by omega,HR.out.lt⟩
 obtain⟨bc,hbc⟩:∃b,w.heap.size=b:=⟨_,rfl⟩
 have HBC:=zH hbc
 rw[hbc]at HC HR HZ |-
 clear hbc
 go_wp2_with fail
 go_loopg [6,7] (sn) (fun g u6 u7 wr=>∃ (i:Nat) (rs:List Value),i<=sn/\g=sn-i/\u7= .int .i64 i/\rs.length=i/\MkR wr W2.heap.size u6 rs sn (zfq c.raw q)/\Below W2.heap.size W2 wr)
 case atStart=>exact⟨0,[],zZL _,rfl,rfl,rfl,⟨zlc.nil _ _ _ _,fun j h=>by simp at h,zLR _⟩,Below.refl _ _⟩
 case round=>
  obtain⟨i,rs,hin,hg,rfl,hrs,hmk,hbr⟩:=hrel
  obtain⟨W9,hw9⟩:∃w6,w6=wr:=⟨_,rfl⟩
  subst hw9
  have HG:=zH hg
  have HM:=zH hmk
  have HRS:=zH hrs
  have HBR:=zH hbr
  have hsz8:=hmk.sz
  have HSZ:=zH hsz8
  have svR:=hmk.ra.sl
  clear hg hmk hbr hsz8 hrs
  obtain⟨_,c0,c1,c2,_,_,_⟩:=HC.out.belowS HBR.out
  by_cases hil:i<sn
  ·have hir:i<c.rates.length:=by rw[HLEN.out];exact hil
   obtain⟨rv,hrv,hrow⟩:=HRT.out.at' i hir
   have HRE:Hid (c.rates.getD i []=c.rates[i]'hir):=zH (by rw[zGD,zGE hir];rfl)
   rw[<-HRE.out]at hrow
   obtain⟨hi9,hrn9,hrp9,hrq9,hel9,hsum9⟩:=rawRow HV.out (i:=i) (by rw[HN.out];exact hil)
   have HRN:Hid ((c.rates.getD i []).length=sn):=zH (by rw[hrn9,HN.out])
   have HRP:=zH hrp9
   have HRQ:=zH hrq9
   have HEL:=zH hel9
   have HSUM:=zH hsum9
   clear hrn9 hrp9 hrq9 hel9 hsum9
   obtain⟨rra,rrn,rrk,rfl,_⟩:=id hrow.sl
   have srow:=hrow.sl
   have HRW:=zH hrow
   have HRV:=zH hrv
   have i1:(0:Int)<=(i:Int):=by omega
   have i2:(i:Int)<(sn:Nat):=by omega
   obtain rfl:rrn=sn:=by rw[<-HRN.out];exact hrow.len
   clear hrv hrow
   go_wp2_with fail
   clear c0 c1 c2
   go_loopg [8,9] (rrn) (fun g u8 u9 wi=>∃ (j:Nat),j<=rrn/\g=rrn-j/\u9= .int .i64 j/\zya wi 38 W9.heap.size u8 (zib j (zfq c.raw q i))/\Below W9.heap.size W9 wi)
   case atStart=>exact⟨0,zZL _,rfl,rfl,zya.nil _ _ _,Below.refl _ _⟩
   case round=>
    obtain⟨j,hjn,hg,rfl,hfr,hbi⟩:=hrel
    obtain⟨W11,hw9⟩:∃w6,w6=wr:=⟨_,rfl⟩
    subst hw9
    have HGJ:=zH hg
    have HFR:=zH hfr
    have HBI:=zH hbi
    have HB6:=zH (zaa HBR.out hbi)
    have s10:=hfr.sl
    obtain⟨_,c0,c1,c2,_,_,_⟩:=HC.out.belowS HB6.out
    have hri:=zba HB6.out HRV.out
    clear hg hfr hbi
    by_cases hjl:j<rrn
    ·obtain⟨ts,as1,ls1,ks1,as2,ls2,ks2,g1,g2,g3,hfs⟩:=(HRW.out.below HB6.out).cellsAt (k:=j) (by rw[HRN.out];exact hjl)
     have HFIT:=zH (HE1.out i j hil hjl)
     have HSF:Hid (fits ((c.rates.getD i []).getD j 0)):=zH (HEL.out j (by rw[HN.out];exact hjl))
     obtain⟨s,hs⟩:∃s,(c.rates.getD i []).getD j 0=s:=⟨_,rfl⟩
     rw[hs]at hfs HFIT HSF
     have HS:=zH hs
     have HFS:=zH hfs
     have HXJ:=zH (HX.out.below HB6.out)
     obtain⟨_,p1,p2,p3,_,_,_⟩:=HR.out.belowS HB6.out
     have S0:=zH (And.intro c0 (And.intro hri (And.intro g1 (And.intro g2 (And.intro g3 (And.intro p1 (And.intro p2 p3)))))))
     have j1:(0:Int)<=(j:Int):=by omega
     have j2:(j:Int)<(rrn:Nat):=by omega
     go_wp2_with fail
     clear c0 c1 c2 hri g1 g2 g3 hfs hs p1 p2 p3
     go_cut [10,11] (fun u10 u11 wy=>∃ (b12:Nat) (t':Bool) (a1:Option Addr) (l1 k1:Nat) (a2:Option Addr) (l2 k2:Nat),u10= .pointer (some ⟨b12,0,none⟩)/\u11= .int .i64 0/\C3 wy b12 (.bool t') (.slice a1 l1 k1) (.slice a2 l2 k2)/\zqa wy (.agg #[.bool t', .slice a1 l1 k1, .slice a2 l2 k2]) (s/q)/\Below W11.heap.size W11 wy/\W11.heap.size<=b12)
     case first =>
      go_region_held3 (fun w'=>w'.cell? ⟨bc,0,none⟩=some (.slice ra rrn rk)/\w'.cell? (ptr (.slice ra rrn rk) i)=some (.slice rra rrn rrk)/\w'.cell? (ptr (.slice rra rrn rrk) (j*3))=some (.bool ts)/\w'.cell? (ptr (.slice rra rrn rrk) (j*3+1))=some (.slice as1 ls1 ks1)/\w'.cell? (ptr (.slice rra rrn rrk) (j*3+2))=some (.slice as2 ls2 ks2)/\w'.cell? ⟨bc+1,0,none⟩=some (.bool t1)/\w'.cell? ⟨bc+1,1,none⟩=some (.slice a11 l11 k11)/\w'.cell? ⟨bc+1,2,none⟩=some (.slice a12 l12 k12)/\Below W11.heap.size W11 w') (first
       | with_reducible exact kp8a S0.out (zja _)
       | with_reducible exact kp8w (by assumption) (zca _ _)
       | with_reducible exact kp8w (by assumption) (by assumption)
       | with_reducible exact kp8a S0.out (zaa hB32 (zca _ _))
       | with_reducible exact kp8s S0.out hB32 (zLR _) _ _ _
       | with_reducible exact kp8s S0.out hB32 hB31.size _ _ _
       | with_reducible exact kp8s S0.out (zaa hB32 (zca _ _)) hB32.size _ _ _) (first
       |(go_at_call 40;(with_reducible refine(r2quo_cr _ _ s t1 nr dr q _ (HFS.out.below (zhw (by assumption))) (HXJ.out.below (zhw (by assumption))) HSF.out HF.out HFQ.out HN0.out HFIT.out).mono ?_);rintro e32 w32 ⟨v32,rfl,hv32,hb32⟩
         obtain⟨t32,x32,y32,rfl,⟨a321,l321,k321,rfl,_⟩,⟨a322,l322,k322,rfl,_⟩⟩:=hv32.isF
         have hB32:=zaa (zhw (by assumption)) hb32
         have hc6:=(fun(p:Addr) hp=>hb32.cell (p:=p) hp)
         have hf6:=(fun(p:Addr) hp=>hb32.frozen (p:=p) hp)
         have zq2:=hb32.size
         (try simp only[zfk,zvo]at zq2)
         (try have z2:W11.heap.size<w32.heap.size:=(by omega))))
      all_goals
       have hE:=zhw (by assumption)
       go_wp2_with fail
       go_meet
       case rel=>
        first
         | exact⟨_,_,_,_,_,_,_,_,rfl,rfl,C3.new w32 _ _ _ _,hv32.below (zca _ _),hE,hB32.size⟩
         | exact⟨_,_,_,_,_,_,_,_,rfl,rfl,((C3.newB (b:=W11.heap.size) W11.drew 38 (.bool false) (.slice none 0 0) (.slice none 0 0) rfl).belowS hb32).set _ _ _,hv32.set3 ((C3.newB (b:=W11.heap.size) W11.drew 38 (.bool false) (.slice none 0 0) (.slice none 0 0) rfl).belowS hb32) (fun z=>by simp) (fun z=>by simp) _ _ _,hE,zLR _⟩
     case rest=>
      obtain⟨b12,t12,a121,l121,k121,a122,l122,k122,rfl,rfl,hc,hf,hb6,hlt⟩:=hcut
      obtain⟨W12,hw3⟩:∃w3,w3=wc:=⟨_,rfl⟩
      subst hw3
      by_cases e:i=j
      ·have hd:((i:Int)==(j:Int))=true:=by simp;omega
       have HIJ:=zH e
       have HLT:=zH hlt
       clear e hlt hf S0 HFS
       go_wp2_with fail
       have hbD:=zja (B:=W12.heap.size) W12
       have hBD:=zaa (zaa HB6.out hb6) hbD
       have HBD:=zH (zaa hb6 hbD)
       have hAN:=HA.out.raw.below hBD
       have hXN:=HX.out.below hBD
       have HCD:=zH (hc.belowS hbD)
       obtain⟨_,c0,c1,c2,_,_,_⟩:=HC.out.belowS hBD
       obtain⟨_,p1,p2,p3,_,_,_⟩:=HR.out.belowS hBD
       have HOUT:Hid (∀w0,zdq w0 (.agg #[.slice ra rrn rk, .slice sa rrn sk, .slice la ln lk]) c.raw->Calls Tryz.prog 70 #[.agg #[.slice ra rrn rk, .slice sa rrn sk, .slice la ln lk], .int .i64 i] w0 (RF1 w0 (zgg (c.rates.getD i [])))):=zH (fun w0 h=>by
        rw[HRQ.out]
        exact zps _ c.raw i w0 h hi9 HRP.out)
       have HFL:Hid (fits (zgg (c.rates.getD i []))):=zH HSUM.out
       have HE2I:=zH (HE2.out i hil)
       obtain⟨L,hL⟩:∃L,zgg (c.rates.getD i [])=L:=⟨_,rfl⟩
       rw[hL]at HOUT HFL HE2I
       have HL:=zH hL
       obtain⟨wd,hwd⟩:∃wd,W12.drew=wd:=⟨_,rfl⟩
       rw[hwd]at hbD hBD HBD hAN hXN HCD c0 c1 c2 p1 p2 p3
       clear hL hc hb6
       refine wpL.start 8 (fun w'=>w'.cell? ⟨bc,0,none⟩=some (.slice ra rrn rk)/\w'.cell? ⟨bc,1,none⟩=some (.slice sa rrn sk)/\w'.cell? ⟨bc,2,none⟩=some (.slice la ln lk)/\w'.cell? ⟨bc+1,0,none⟩=some (.bool t1)/\w'.cell? ⟨bc+1,1,none⟩=some (.slice a11 l11 k11)/\w'.cell? ⟨bc+1,2,none⟩=some (.slice a12 l12 k12)) (by kernel_rfl) (by rw[hwd];exact⟨c0,c1,c2,p1,p2,p3⟩) (fun hHeld=> ?_)
       rw[hwd]at hHeld |-
       refine wpL.u 1 ?_
       refine wpL.t 0 ?_
       refine wpL.t 3 ?_
       (refine wpL.oo 2 ?_;intro K hK)
       refine zxa 70 #[.agg #[.slice ra rrn rk, .slice sa rrn sk, .slice la ln lk], .int .i64 i] ?_ ?_ (HOUT.out wd hAN) ?_
       ·rfl
       ·go_simp
       rintro e31 w31 ⟨v31,rfl,hv31,hb31⟩
       obtain⟨t31,x31,y31,rfl,⟨a311,l311,k311,rfl,_⟩,⟨a312,l312,k312,rfl,_⟩⟩:=hv31.isF
       refine⟨_,rfl,?_⟩
       have hHeld:w31.cell? ⟨bc,0,none⟩=some (.slice ra rrn rk)/\w31.cell? ⟨bc,1,none⟩=some (.slice sa rrn sk)/\w31.cell? ⟨bc,2,none⟩=some (.slice la ln lk)/\w31.cell? ⟨bc+1,0,none⟩=some (.bool t1)/\w31.cell? ⟨bc+1,1,none⟩=some (.slice a11 l11 k11)/\w31.cell? ⟨bc+1,2,none⟩=some (.slice a12 l12 k12):=⟨zba hb31 c0,zba hb31 c1,zba hb31 c2,zba hb31 p1,zba hb31 p2,zba hb31 p3⟩
       refine hK.out _ _ (fun _=>hHeld) ?_
       clear hK K
       try simp only[Act.put,List.setIfInBounds_toArray,List.set_cons_zero,List.set_cons_succ]
       (refine wpL.oo 4 ?_;intro K hK)
       refine zxa 40 #[.agg #[.bool t31, .slice a311 l311 k311, .slice a312 l312 k312], .agg #[.bool t1, .slice a11 l11 k11, .slice a12 l12 k12]] ?_ ?_ (r2quo_cr _ _ L t1 nr dr q w31 hv31 (hXN.below hb31) HFL.out HF.out HFQ.out HN0.out HE2I.out.1) ?_
       ·rfl
       ·go_simp
       rintro e32 w32 ⟨v32,rfl,hv32,hb32⟩
       obtain⟨t32,x32,y32,rfl,⟨a321,l321,k321,rfl,_⟩,⟨a322,l322,k322,rfl,_⟩⟩:=hv32.isF
       refine⟨_,rfl,?_⟩
       have hb3:=zaa hb31 hb32
       have hHeld:w32.cell? ⟨bc,0,none⟩=some (.slice ra rrn rk)/\w32.cell? ⟨bc,1,none⟩=some (.slice sa rrn sk)/\w32.cell? ⟨bc,2,none⟩=some (.slice la ln lk)/\w32.cell? ⟨bc+1,0,none⟩=some (.bool t1)/\w32.cell? ⟨bc+1,1,none⟩=some (.slice a11 l11 k11)/\w32.cell? ⟨bc+1,2,none⟩=some (.slice a12 l12 k12):=⟨zba hb3 c0,zba hb3 c1,zba hb3 c2,zba hb3 p1,zba hb3 p2,zba hb3 p3⟩
       refine hK.out _ _ (fun _=>hHeld) ?_
       clear hK K
       try simp only[Act.put,List.setIfInBounds_toArray,List.set_cons_zero,List.set_cons_succ]
       refine wpL.u 5 ?_
       refine wpL.u 6 ?_
       refine wpL.u 7 ?_
       have HC32:=zH (HCD.out.belowS hb3)
       have HB32:=zH (zaa HBD.out hb3)
       have HV32:=zH hv32
       obtain⟨_,n0,n1,n2,f0,f1,f2⟩:=HC32.out
       clear hb3 hb31 hb32 hv31 hv32 hbD hBD hAN hXN c0 c1 c2 p1 p2 p3
       (refine wpL.oo 8 ?_;intro K hK)
       rw[if_pos (by rfl)]
       go_simp
       refine hK.out _ _ (fun h=>by first | cases h | simp at h) ?_
       clear hK K hHeld n0 n1 n2 f0 f1 f2
       try simp only[Act.put,List.setIfInBounds_toArray,List.set_cons_zero,List.set_cons_succ]
       (refine wpL.oo 9 ?_;intro K hK)
       rw[if_pos (by rfl)]
       go_simp
       refine hK.out _ _ (fun h=>by first | cases h | simp at h) ?_
       clear hK K
       refine wpL.done (by kernel_rfl) ?_ _
       have HC33:=zH (HC32.out.set (.bool t32) (.slice a321 l321 k321) (.slice a322 l322 k322))
       have HF33:=zH (HV32.out.set3 HC32.out (fun z=>by simp) (fun z=>by simp) (.bool t32) (.slice a321 l321 k321) (.slice a322 l322 k322))
       have HB33:=zH (zga HB32.out HLT.out (.bool t32) (.slice a321 l321 k321) (.slice a322 l322 k322))
       clear HC32 HV32 HB32 HCD
       generalize ((w32.setCell ⟨b12,0,none⟩ (.bool t32)).setCell ⟨b12,1,none⟩ (.slice a321 l321 k321)).setCell ⟨b12,2,none⟩ (.slice a322 l322 k322)=W33 at *
       go_wp2_with fail
       have hbD:=zja (B:=W33.heap.size) W33
       have HBD:=zH (zaa HB33.out hbD)
       have HCD:=zH (HC33.out.belowS hbD)
       have hF4:=HF33.out.below hbD
       obtain⟨_,n0,n1,n2,_,_,_⟩:=HCD.out
       obtain⟨wd,hwd⟩:∃wd,W33.drew=wd:=⟨_,rfl⟩
       rw[hwd]at hbD HBD HCD hF4 n0 n1 n2
       refine wpL.start 6 (fun w'=>w'.cell? ⟨b12,0,none⟩=some (.bool t32)/\w'.cell? ⟨b12,1,none⟩=some (.slice a321 l321 k321)/\w'.cell? ⟨b12,2,none⟩=some (.slice a322 l322 k322)) (by kernel_rfl) (by rw[hwd];exact⟨n0,n1,n2⟩) (fun hHeld=> ?_)
       rw[hwd]at hHeld |-
       refine wpL.t 1 ?_
       (refine wpL.oo 0 ?_;intro K hK)
       refine zxa 20 #[.int .i64 1] ?_ ?_ (zas wd) ?_
       ·rfl
       ·go_simp
       rintro e41 w41 ⟨v41,rfl,hv41,hb41⟩
       obtain⟨t41,x41,y41,rfl,⟨a411,l411,k411,rfl,_⟩,⟨a412,l412,k412,rfl,_⟩⟩:=hv41.isF
       refine⟨_,rfl,?_⟩
       have hHeld:w41.cell? ⟨b12,0,none⟩=some (.bool t32)/\w41.cell? ⟨b12,1,none⟩=some (.slice a321 l321 k321)/\w41.cell? ⟨b12,2,none⟩=some (.slice a322 l322 k322):=⟨zba hb41 n0,zba hb41 n1,zba hb41 n2⟩
       refine hK.out _ _ (fun _=>hHeld) ?_
       clear hK K
       try simp only[Act.put,List.setIfInBounds_toArray,List.set_cons_zero,List.set_cons_succ]
       (refine wpL.oo 2 ?_;intro K hK)
       refine zxa 39 #[.agg #[.bool t41, .slice a411 l411 k411, .slice a412 l412 k412], .agg #[.bool t32, .slice a321 l321 k321, .slice a322 l322 k322]] ?_ ?_ (r2sub_can _ _ 1 (L/q) w41 hv41 (hF4.below hb41) (by decide+kernel) HE2I.out.1 HE2I.out.2) ?_
       ·rfl
       ·go_simp
       rintro e42 w42 ⟨v42,rfl,hv42,hb42⟩
       obtain⟨t42,x42,y42,rfl,⟨a421,l421,k421,rfl,_⟩,⟨a422,l422,k422,rfl,_⟩⟩:=hv42.isF
       refine⟨_,rfl,?_⟩
       have hb4:=zaa hb41 hb42
       have hHeld:w42.cell? ⟨b12,0,none⟩=some (.bool t32)/\w42.cell? ⟨b12,1,none⟩=some (.slice a321 l321 k321)/\w42.cell? ⟨b12,2,none⟩=some (.slice a322 l322 k322):=⟨zba hb4 n0,zba hb4 n1,zba hb4 n2⟩
       refine hK.out _ _ (fun _=>hHeld) ?_
       clear hK K
       try simp only[Act.put,List.setIfInBounds_toArray,List.set_cons_zero,List.set_cons_succ]
       refine wpL.u 3 ?_
       refine wpL.u 4 ?_
       refine wpL.u 5 ?_
       have HC42:=zH (HCD.out.belowS hb4)
       have HB42:=zH (zaa HBD.out hb4)
       have HV42:=zH hv42
       clear n0 n1 n2
       obtain⟨_,n0,n1,n2,f0,f1,f2⟩:=HC42.out
       clear hb4 hb41 hb42 hv41 hv42 hbD hF4
       (refine wpL.oo 6 ?_;intro K hK)
       rw[if_pos (by rfl)]
       go_simp
       refine hK.out _ _ (fun h=>by first | cases h | simp at h) ?_
       clear hK K hHeld n0 n1 n2 f0 f1 f2
       try simp only[Act.put,List.setIfInBounds_toArray,List.set_cons_zero,List.set_cons_succ]
       (refine wpL.oo 7 ?_;intro K hK)
       rw[if_pos (by rfl)]
       go_simp
       refine hK.out _ _ (fun h=>by first | cases h | simp at h) ?_
       clear hK K
       refine wpL.done (by kernel_rfl) ?_ _
       have HCX:=zH (HC42.out.set (.bool t42) (.slice a421 l421 k421) (.slice a422 l422 k422))
       have HFX:=zH (HV42.out.set3 HC42.out (fun z=>by simp) (fun z=>by simp) (.bool t42) (.slice a421 l421 k421) (.slice a422 l422 k422))
       have HBX:=zH (zga HB42.out HLT.out (.bool t42) (.slice a421 l421 k421) (.slice a422 l422 k422))
       clear HC42 HV42 HB42 HCD HC33 HF33 HB33
       generalize ((w42.setCell ⟨b12,0,none⟩ (.bool t42)).setCell ⟨b12,1,none⟩ (.slice a421 l421 k421)).setCell ⟨b12,2,none⟩ (.slice a422 l422 k422)=W43 at *
       have HFRX:=zH (HFR.out.moves (zhb.below (B:=W9.heap.size) HBX.out) (zLR _))
       have HBX2:=zH (zaa HBI.out HBX.out)
       have hlen:(zib j (zfq c.raw q i)).length<=1000:=by rw[zea];omega
       have hsz:=HBX2.out.size
       obtain⟨_,r0,r1,r2,_,_,_⟩:=HCX.out
       go_wp2_with (first
        |(at_builtin;refine hAP _ rfl _ _ rfl W9.heap.size _ u8 (zib j (zfq c.raw q i)) rfl HFRX.out _ _ _ (1-L/q) HFX.out rfl hlen hsz ?_;intro v50 w50 ho50 hg50 hn50 hq50 sv50
          have hbg:=zid hg50 hsz HFRX.out.block
          have HB50:=zH (HBX2.out.trans hbg)
          have HO50:=zH ho50
          clear hbg hg50 hn50 hq50 ho50))
       go_roundg (rrn- (j+1))
       case measure=>(have:=HGJ.out;omega)
       case rel=>
        refine⟨j+1,by omega,rfl,by go_num,?_,HB50.out⟩
        rw[<-zlk]
        have e:zfq c.raw q i j=1-L/q:=by rw[stepE_raw];exact by rw[if_pos HIJ.out,HL.out]
        rw[e]
        exact HO50.out
      ·have hd:((i:Int)==(j:Int))=false:=by simp;omega
       have HIJ:=zH e
       have HCX:=zH hc
       have HFX:=zH hf
       have HBX:=zH hb6
       clear e hc hf hb6 hlt S0 HFS
       have HFRX:=zH (HFR.out.moves (zhb.below (B:=W9.heap.size) HBX.out) (zLR _))
       have HBX2:=zH (zaa HBI.out HBX.out)
       have hlen:(zib j (zfq c.raw q i)).length<=1000:=by rw[zea];omega
       have hsz:=HBX2.out.size
       obtain⟨_,r0,r1,r2,_,_,_⟩:=HCX.out
       go_wp2_with (first
        |(at_builtin;refine hAP _ rfl _ _ rfl W9.heap.size _ u8 (zib j (zfq c.raw q i)) rfl HFRX.out _ _ _ (s/q) HFX.out rfl hlen hsz ?_;intro v50 w50 ho50 hg50 hn50 hq50 sv50
          have hbg:=zid hg50 hsz HFRX.out.block
          have HB50:=zH (HBX2.out.trans hbg)
          have HO50:=zH ho50
          clear hbg hg50 hn50 hq50 ho50))
       go_roundg (rrn- (j+1))
       case measure=>(have:=HGJ.out;omega)
       case rel=>
        refine⟨j+1,by omega,rfl,by go_num,?_,HB50.out⟩
        rw[<-zlk]
        have e:zfq c.raw q i j=s/q:=by rw[stepE_raw];exact by rw[if_neg HIJ.out,HS.out]
        rw[e]
        exact HO50.out
    ·obtain rfl:j=rrn:=by omega
     obtain⟨q1,q2,q3,rfl,_⟩:=id s10
     have hm9:=HM.out.below HBI.out
     have HM9:=zH hm9
     have hrs1:rs.length<=1000:=by rw[HRS.out];omega
     have hsz9:=hm9.sz
     have sra:=hm9.ra
     clear hm9 hri
     go_wp2_with (first
      |(at_builtin;refine hAR _ rfl _ _ rfl W2.heap.size _ u6 rs rfl sra (.slice q1 q2 q3) rfl (fun z=>by simp) rfl hrs1 hsz9 ?_;intro v60 w60 ho60 hg60 hn60 hq60 sv60
        have HPU:=zH (HM9.out.push (by rw[HRS.out];exact(HFR.out.mono HSZ.out)) ho60 hg60 hn60)
        clear ho60 hg60 hn60 hq60))
     go_roundg (j- (i+1))
     case measure=>(have:=HG.out;omega)
     case rel=>exact⟨i+1,_,by omega,rfl,by go_num,by rw[List.length_append,HRS.out];rfl,HPU.out.1,(zaa HBR.out HBI.out).trans HPU.out.2⟩
  ·obtain rfl:sn=i:=by omega
   go_wp2_with fail
   go_ret2
   exact⟨_,rfl,by have h:=HM.out.mat;rw[HRS.out]at h;exact h,HBW.out.trans (HBR.out.mono (by have:=HZ.out.2;have:=HBC.out;omega))⟩
end Go.Proofs.YtlpdkbmmbdfoiaaGreat
