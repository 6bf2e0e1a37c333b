/-
  Elimination row by row. No program is named here.
-/
import Derived.Test.YtlpdkbmmbdfoiaaGPh10
import Derived.Test.YtlpdkbmmbdfoiaaGKp
import Derived.Test.YtlpdkbmmbdfoiaaGRa3
import Derived.Test.YtlpdkbmmbdfoiaaGEl1
set_option linter.unusedVariables false
set_option linter.unusedSimpArgs false
namespace Go.Proofs.Ytlpdkbmmbdfoiaa
open Go.RowKit
def zak (n:Nat) (q:Rat) (i:Nat):List (List Rat):=(List.range n).map fun k=>if k<i then(zeb n).set (k+1) q else zeb n
def zho (n:Nat) (q:Rat):LQ:=⟨(zeb n).set 0 1,(zeb n).set (n-1) q,zak n q (n-1)⟩
theorem zic (n:Nat) (q:Rat) (i:Nat):(zak n q i).length=n:=by simp[zak]
theorem zte (n:Nat) (q:Rat) (i j:Nat) (h:j<(zak n q i).length):(zak n q i)[j]=if j<i then(zeb n).set (j+1) q else zeb n:=by simp[zak]
theorem erlR_zero (n:Nat) (q:Rat):zak n q 0=List.replicate n (zeb n):=by
 refine List.ext_getElem (by rw[zic,List.length_replicate]) fun j h1 h2=> ?_
 rw[zte,if_neg (Nat.not_lt_zero j),List.getElem_replicate]
theorem erlR_step (n:Nat) (q:Rat) (i:Nat) (h:i<(zak n q i).length):(zak n q i).set i ((zak n q i)[i].set (i+1) q)=zak n q (i+1):=by
 refine List.ext_getElem (by rw[List.length_set,zic,zic]) fun j h1 h2=> ?_
 by_cases e:i=j
 ·subst e
  rw[List.getElem_set_self,zte,if_neg (Nat.lt_irrefl i),zte,if_pos (Nat.lt_succ_self i)]
 ·rw[List.getElem_set_ne e,zte,zte]
  by_cases h3:j<i
  ·rw[if_pos h3,if_pos (by omega)]
  ·rw[if_neg h3,if_neg (by omega)]
theorem zzj (n:Nat) (q:Rat) (i j:Nat) (h:j<(zak n q i).length):(zak n q i)[j].length=n:=by
 rw[zte]
 split
 ·rw[List.length_set,zwa]
 ·exact zwa n
theorem C4.put {w:World} {b:Nat} {s:ByteArray} {v1 v2 v3:Value} (h:C4 w b (.string s) v1 v2 v3) {B:Nat} {e:TypeId} {v:Value} {q:List Rat} (hr:zya w e B v q) (hq:0<q.length) (i:Nat) (x y z:Value):
 C4 (((w.setCell (ptr v (i*3)) x).setCell (ptr v (i*3+1)) y).setCell (ptr v (i*3+2)) z) b (.string s) v1 v2 v3:=by
 obtain⟨g,h1,_,_,_,hp⟩:=hr.blk hq
 have hne:g≠b:=fun e=>hr.neB hq h.c0 (by rw[h1,e])
 rw[hp,hp,hp]
 exact((h.other (p:=⟨g,i*3,none⟩) hne x).other (p:=⟨g,i*3+1,none⟩) hne y).other (p:=⟨g,i*3+2,none⟩) hne z
def zgm (w:World) (v:Value) (l:LQ):Prop:=∃s r e,v= .agg #[.string { data:=#[] },s,r,e]∧zbb w s l.start∧MatC w r l.rates∧zbb w e l.exit
theorem zgm.lawC {w:World} {v:Value} {l:LQ} (h:zgm w v l):zhm w v l:=by
 obtain⟨s,r,e,rfl,h1,h2,h3⟩:=h
 exact⟨_,s,r,e,rfl,h1,h2,h3⟩
theorem zgm.below {w w':World} {v:Value} {l:LQ} (h:zgm w v l) (hb:Below w.heap.size w w'):zgm w' v l:=by
 obtain⟨s,r,e,rfl,h1,h2,h3⟩:=h
 exact⟨s,r,e,rfl,h1.below hb,h2.below hb,h3.below hb⟩
theorem zve.lawE {w:World} {B:Nat} {vs ve vr:Value} {rs:List Value} {S E:List Rat} {R:List (List Rat)} (h:zve w B vs ve vr rs S E R):zgm w (.agg #[.string { data:=#[] },vs,vr,ve]) ⟨S,E,R⟩:=by
 obtain⟨nm,s,r,e,h0,h1,h2,h3⟩:=h.lawC (.string { data:=#[] })
 injection h0 with h0
 injection h0 with h0
 simp only[List.cons.injEq,and_true]at h0
 obtain⟨_,rfl,rfl,rfl⟩:=h0
 exact⟨_,_,_,rfl,h1,h2,h3⟩
def LawO (w:World) (B:Nat) (v:Value) (l:LQ):Prop:=∃vs ve vr rs,v= .agg #[.string { data:=#[] },vs,vr,ve]∧zve w B vs ve vr rs l.start l.exit l.rates∧zve.Pos vr rs l.start l.exit l.rates
theorem LawO.lawE {w:World} {B:Nat} {v:Value} {l:LQ} (h:LawO w B v l):zgm w v l:=by
 obtain⟨vs,ve,vr,rs,rfl,h1,_⟩:=h
 exact h1.lawE
theorem LawO.below {w w':World} {B:Nat} {v:Value} {l:LQ} (h:LawO w B v l) (hb:Below w.heap.size w w'):LawO w' B v l:=by
 obtain⟨vs,ve,vr,rs,rfl,h1,h2⟩:=h
 exact⟨vs,ve,vr,rs,rfl,h1.below hb,h2⟩
theorem LawO.mono {w:World} {B B':Nat} {v:Value} {l:LQ} (h:LawO w B v l) (hB:B'≤B):LawO w B' v l:=by
 obtain⟨vs,ve,vr,rs,rfl,h1,h2⟩:=h
 exact⟨vs,ve,vr,rs,rfl,h1.mono hB,h2⟩
theorem LawO.set4 {w:World} {B b:Nat} {s:ByteArray} {v:Value} {l:LQ} {v1 v2 v3:Value} (h:LawO w B v l) (hc:C4 w b (.string s) v1 v2 v3) (n1:∀z,v1≠ .int .u32 z) (n2:∀z,v2≠ .int .u32 z) (n3:∀z,v3≠ .int .u32 z) (s':ByteArray) (u1 u2 u3:Value):LawO ((((w.setCell ⟨b,0,none⟩ (.string s')).setCell ⟨b,1,none⟩ u1).setCell ⟨b,2,none⟩ u2).setCell ⟨b,3,none⟩ u3) B v l:=by
 obtain⟨vs,ve,vr,rs,rfl,h1,h2⟩:=h
 exact⟨vs,ve,vr,rs,rfl,h1.set4 h2 hc n1 n2 n3 s' u1 u2 u3,h2⟩
def zah :Value:= .agg #[.string { data:=#[] }, .slice none 0 0, .slice none 0 0, .slice none 0 0]
def RErl (w0:World) (n:Int) (s:Bool) (a d:Nat) (e:Ending) (w:World):Prop:=
 ∃v er,e= .returned (.tuple #[v, .int .i64 er])∧Below w0.heap.size w0 w∧(¬ (1≤n∧n≤4)→er=5∧v=zah)∧(1≤n∧n≤4→¬zuh s a d→er=1∧v=zah)∧(1≤n∧n≤4→zuh s a d→er=0∧LawO w w0.heap.size v (zho n.toNat (fq s a d)))
set_option maxRecDepth 100000 in
set_option maxHeartbeats 6400000 in
theorem zop (n:Int) (va:Value) (s:Bool) (a d:Nat) (w:World) (ha:zdc w va s a d):Calls Try.prog 72 #[.int .i64 n,va] w (RErl w n s a d):=by
 obtain⟨x0,y0,rfl,h1,h2⟩:=id ha
 obtain⟨a11,l11,k11,rfl,_⟩:=h1.slen.1
 obtain⟨a12,l12,k12,rfl,_⟩:=h2.slen.1
 have hb1:=zca w (.cells #[.bool s, .slice a11 l11 k11, .slice a12 l12 k12] 32)
 have hb2:=zca (w.alloc (.cells #[.bool s, .slice a11 l11 k11, .slice a12 l12 k12] 32)) (.cells #[.string { data:=#[] }, .slice none 0 0, .slice none 0 0, .slice none 0 0] 26)
 have HB:=zH (zaa hb1 hb2)
 have HC:=zH ((C3.new w 32 (.bool s) (.slice a11 l11 k11) (.slice a12 l12 k12)).belowS hb2)
 have HT:=zH (C4.new (w.alloc (.cells #[.bool s, .slice a11 l11 k11, .slice a12 l12 k12] 32)) 26 (.string { data:=#[] }) (.slice none 0 0) (.slice none 0 0) (.slice none 0 0))
 have HA:=zH ((ha.below hb1).below hb2)
 have htb:(w.alloc (.cells #[.bool s, .slice a11 l11 k11, .slice a12 l12 k12] 32)).heap.size=w.heap.size+1:=by show(w.heap.push _).size=_;rw[Array.size_push]
 rw[htb]at HT
 clear ha h1 h2 hb1 hb2 htb
 go_enter Try.func72,Try.ntmps72
 go_upto_region 1 with fail
 generalize (w.alloc (.cells #[.bool s, .slice a11 l11 k11, .slice a12 l12 k12] 32)).alloc (.cells #[.string { data:=#[] }, .slice none 0 0, .slice none 0 0, .slice none 0 0] 26)=W2 at *
 obtain⟨_,c0,c1,c2,_,_,_⟩:=HC.out
 obtain⟨_,d0,d1,d2,d3,f0,f1,f2,f3⟩:=HT.out
 have HZ:Hid (Below w.heap.size w ((((W2.setCell ⟨w.heap.size+1,0,none⟩ (.string { data:=#[] })).setCell ⟨w.heap.size+1,1,none⟩ (.slice none 0 0)).setCell ⟨w.heap.size+1,2,none⟩ (.slice none 0 0)).setCell ⟨w.heap.size+1,3,none⟩ (.slice none 0 0))):=zH (zqd HB.out (Nat.le_succ _) _ _ _ _)
 by_cases hn:1≤n∧n≤4
 ·obtain⟨m,rfl⟩:∃m:Nat,n=m:=⟨n.toNat,by omega⟩
  have hm1:1≤m:=by omega
  have hm4:m≤4:=by omega
  have e1:decide (((m:Nat):Int)<1)=false:=decide_eq_false (by omega)
  have e2:decide ((4:Int)<(m:Nat))=false:=decide_eq_false (by omega)
  by_cases hr:zuh s a d
  ·have hdr:decide (zuh s a d)=true:=decide_eq_true hr
   have hok:okN a d:=hr.1
   have HK:=zH hok
   obtain⟨q,hq⟩:∃q,fq s a d=q:=⟨_,rfl⟩
   have HRED:Hid (∀w0 vx,zdc w0 vx s a d→Calls Try.prog 88 #[vx] w0 (RF0 w0 q)):=zH (fun w0 vx h=>by
    refine(zef vx _ _ _ w0 h).mono ?_
    rintro e w' ⟨v,er,rfl,hb,h1,_⟩
    obtain⟨rfl,h2⟩:=h1 HK.out
    rw[hq]at h2
    exact⟨v,rfl,h2,hb⟩)
   have HR:Hid (zuh s a d):=zH hr
   have HQ:=zH hq
   clear hr hok hn hq
   go_upto_region 6 with(first
    |(go_at_call 106;(with_reducible refine(rate_any _ s a d _ HA.out).mono ?_);rw[hdr];rintro e3 w3 ⟨rfl,hb3⟩
      have HB3:=zH hb3
      clear hb3)
    |(go_at_call 107;(with_reducible refine(blank_any m _ hm1 hm4).mono ?_);rintro e5 w5 ⟨vs,ve,vr,rs,rfl,hl5,hb5⟩
      obtain⟨s1,s2,s3,rfl,_⟩:=id hl5.s.sl
      obtain⟨r1,r2,r3,rfl,_⟩:=id hl5.ra.sl
      obtain⟨e1,e2,e3,rfl,_⟩:=id hl5.e.sl
      have hs2:s2=m:=(by have h:=hl5.s.fracs.len;rw[zwa]at h;exact h)
      have he2:e2=m:=(by have h:=hl5.e.fracs.len;rw[zwa]at h;exact h)
      have hr2:r2=m:=(by have h:=hl5.ra.len;rw[hl5.rl,List.length_replicate]at h;exact h)
      rw[hs2]at hl5 ⊢;rw[he2]at hl5 ⊢;rw[hr2]at hl5 ⊢
      have hba:=zca w5 (.cells #[.string { data:=#[] }, .slice s1 m s3, .slice r1 m r3, .slice e1 m e3] 26)
      have HC6:=zH (C4.new w5 26 (.string { data:=#[] }) (.slice s1 m s3) (.slice r1 m r3) (.slice e1 m e3))
      have HL6:=zH ((hl5.below hba).mono HB3.out.size)
      have HB6:=zH (zaa HB3.out (zaa hb5 hba))
      have HSZ:=zH (Nat.le_trans HB3.out.size hb5.size)
      clear hl5 hb5 hba))
   rw[←erlR_zero m q]at HL6
   obtain⟨b6,hb6⟩:∃b,w5.heap.size=b:=⟨_,rfl⟩
   rw[hb6]at HC6 HSZ ⊢
   clear hb6 HB3 c0 c1 c2 d0 d1 d2 d3 f0 f1 f2 f3
   generalize w5.alloc (.cells #[.string { data:=#[] }, .slice s1 m s3, .slice r1 m r3, .slice e1 m e3] 26)=W6 at *
   have hlS:0<(zeb m).length:=by rw[zwa];exact hm1
   obtain⟨_,c0,c1,c2,c3,_⟩:=HC6.out
   have hbD:=zja (B:=W6.heap.size) W6
   have HLD:=zH (HL6.out.below hbD)
   have HCD:=zH (HC6.out.belowS hbD)
   have HBD:=zH (zfa HB6.out hbD HB6.out.size)
   refine wpL.start 4 (fun w'=>w'.cell? ⟨b6,1,none⟩=some (.slice s1 m s3)) (by kernel_rfl) (zba hbD c1) (fun hHeld=> ?_)
   clear c0 c1 c2 c3 hbD HL6 HC6 HB6
   generalize W6.drew=wd at *
   refine wpL.u 0 ?_
   refine wpL.t 1 ?_
   (refine wpL.oo 2 ?_;intro K hK)
   refine zxa 23 #[.int .i64 1] ?_ ?_ (zxk wd) ?_
   ·rfl
   ·go_simp
   rintro e7 w7 ⟨v7,rfl,hv7,hb7⟩
   obtain⟨t7,x7,y7,rfl,⟨a71,l71,k71,rfl,_⟩,⟨a72,l72,k72,rfl,_⟩⟩:=hv7.isF
   refine⟨_,rfl,?_⟩
   refine hK.out _ _ (fun _=>zba hb7 hHeld) ?_
   have h7:=zba hb7 hHeld
   have L7:=HLD.out.below hb7
   have C7:=HCD.out.belowS hb7
   have B7:=zfa HBD.out hb7 HBD.out.size
   obtain⟨z0,z1,z2,z3,z4,z5,_⟩:=L7.s.fracs.at' 0 hlS
   have f0:=L7.s.frozen (0*3) (by omega)
   have f1:=L7.s.frozen (0*3+1) (by omega)
   have f2:=L7.s.frozen (0*3+2) (by omega)
   have hput:=L7.putS hlS hv7
   have hcp:=C7.put L7.s hlS 0 (.bool t7) (.slice a71 l71 k71) (.slice a72 l72 k72)
   have hbp:=B7.trans hput.2
   have hlp:=hput.1
   have sls:=L7.s.sl
   have n01:=L7.s.inj hlS (show 0*3≠0*3+1 by omega)
   have n02:=L7.s.inj hlS (show 0*3≠0*3+2 by omega)
   have n12:=L7.s.inj hlS (show 0*3+1≠0*3+2 by omega)
   have j2:0<m:=hm1
   simp only[Nat.zero_mul,Nat.zero_add]at z2 z3 z4 f0 f1 f2 n01 n02 n12 hcp hbp hlp
   have HCP:=zH hcp
   have HLP:=zH hlp
   have HBP:=zH hbp
   clear hcp hbp hlp z5
   clear hK K hHeld L7 C7 B7 hput HLD HCD HBD hb7
   try simp only[Act.put,List.setIfInBounds_toArray,List.set_cons_zero,List.set_cons_succ]
   (refine wpL.oo 3 ?_;intro K hK)
   rw[if_pos (by rfl)]
   go_simp
   refine hK.out _ _ (fun _=>h7) ?_
   clear hK K
   try simp only[Act.put,List.setIfInBounds_toArray,List.set_cons_zero,List.set_cons_succ]
   (refine wpL.oo 4 ?_;intro K hK)
   rw[if_pos (by rfl)]
   go_simp
   refine hK.out _ _ (fun h=>by first | cases h | simp at h) ?_
   clear hK K h7 z2 z3 z4 f0 f1 f2 n01 n02 n12 sls j2 hv7
   refine wpL.done (by kernel_rfl) ?_ _
   generalize ((w7.setCell (ptr (.slice s1 m s3) 0) (.bool t7)).setCell (ptr (.slice s1 m s3) 1) (.slice a71 l71 k71)).setCell (ptr (.slice s1 m s3) 2) (.slice a72 l72 k72)=W7 at *
   go_wp2_with fail
   go_loopg [7] (m-1) (fun g u7 wr=>∃ (i:Nat),i≤m-1∧g=m-1-i∧u7= .int .i64 i∧zve wr W2.heap.size (.slice s1 m s3) (.slice e1 m e3) (.slice r1 m r3) rs ((zeb m).set 0 1) (zeb m) (zak m q i)∧C4 wr b6 (.string { data:=#[] }) (.slice s1 m s3) (.slice r1 m r3) (.slice e1 m e3)∧Below W2.heap.size W2 wr)
   case atStart=>exact⟨0,Nat.zero_le _,rfl,rfl,HLP.out,HCP.out,HBP.out⟩
   case round=>
    obtain⟨i,hin,hg,rfl,hl,hc,hbr⟩:=hrel
    obtain⟨wx,hwx⟩:∃w6,w6=wr:=⟨_,rfl⟩
    subst hwx
    have HG:=zH hg
    have HL:=zH hl
    have HC4:=zH hc
    have HBR:=zH hbr
    clear hg hl hc HLP HCP HBP
    by_cases hil:i<m-1
    ·have i1:(0:Int)≤(i:Int):=by omega
     have i2:(i:Int)<(m:Nat)-1:=by omega
     have i3:(i:Int)<(m:Nat):=by omega
     have i4:(i:Int)+1<(m:Nat):=by omega
     go_wp2_with fail
     have hrl:rs.length=m:=by have h:=HL.out.rl;rw[zic]at h;exact h
     have hir:i<rs.length:=by omega
     have hiR:i<(zak m q i).length:=by rw[zic];omega
     have hrow:=HL.out.rows i hir hiR
     have hrcell:=HL.out.ra.cell i hir
     obtain⟨o1,o2,o3,ho,_⟩:=id hrow.sl
     have ho2:m=o2:=by have h:=hrow.fracs.len;rw[ho,zzj]at h;exact h.symm
     subst ho2
     rw[ho]at hrcell
     have HO:=zH ho
     have slr:=HL.out.ra.sl
     obtain⟨_,d0,d1,d2,d3,_⟩:=HC4.out
     obtain⟨_,c0,c1,c2,_⟩:=HC.out.below hbr HC.out.lt
     have HAX:=HA.out.below hbr
     have hbD:=zja (B:=wx.heap.size) wx
     have HLD:=zH (HL.out.below hbD)
     have HCD:=zH (HC4.out.belowS hbD)
     have HBD:=zH (zfa HBR.out hbD HBR.out.size)
     have HAD:=zH (HAX.below hbD)
     refine wpL.start 13 (fun w'=>w'.cell? ⟨b6,2,none⟩=some (.slice r1 m r3)∧w'.cell? (ptr (.slice r1 m r3) i)=some (.slice o1 m o3)∧w'.cell? ⟨w.heap.size,0,none⟩=some (.bool s)∧w'.cell? ⟨w.heap.size,1,none⟩=some (.slice a11 l11 k11)∧w'.cell? ⟨w.heap.size,2,none⟩=some (.slice a12 l12 k12)) (by kernel_rfl) ⟨zba hbD d2,zba hbD hrcell,zba hbD c0,zba hbD c1,zba hbD c2⟩ (fun hHeld=> ?_)
     clear c0 c1 c2 d0 d1 d2 d3 hbD HL HC4 hbr ho hrow hrcell HAX
     generalize wx.drew=wd at *
     refine wpL.u 0 ?_
     refine wpL.t 1 ?_
     refine wpL.u 2 ?_
     refine wpL.u 3 ?_
     refine wpL.t 4 ?_
     refine wpL.u 5 ?_
     refine wpL.u 6 ?_
     have hwi:IntKind.i64.wrap ((i:Int)+1)=((i+1:Nat):Int):=by
      rw[zge (by omega) (by omega)];omega
     rw[hwi]
     refine wpL.t 7 ?_
     (refine wpL.oo 8 ?_;intro K hK)
     refine zxa 88 #[.agg #[.bool s, .slice a11 l11 k11, .slice a12 l12 k12]] ?_ ?_ (HRED.out _ _ HAD.out) ?_
     ·rfl
     ·go_simp
     rintro e7 w7 ⟨v7,rfl,hv7,hb7⟩
     obtain⟨t7,x7,y7,rfl,⟨a71,l71,k71,rfl,_⟩,⟨a72,l72,k72,rfl,_⟩⟩:=hv7.isF
     have hH7:=And.intro (zba hb7 hHeld.1) (And.intro (zba hb7 hHeld.2.1) (And.intro (zba hb7 hHeld.2.2.1) (And.intro (zba hb7 hHeld.2.2.2.1) (zba hb7 hHeld.2.2.2.2))))
     refine⟨_,rfl,?_⟩
     refine hK.out _ _ (fun _=>hH7) ?_
     clear hK K hHeld
     try simp only[Act.put,List.setIfInBounds_toArray,List.set_cons_zero,List.set_cons_succ]
     have hHeld:=hH7
     refine wpL.u 9 ?_
     refine wpL.u 10 ?_
     refine wpL.u 11 ?_
     clear hHeld
     have L7:=HLD.out.below hb7
     have C7:=HCD.out.belowS hb7
     have B7:=zfa HBD.out hb7 HBD.out.size
     have hjR:i+1<((zak m q i)[i]'hiR).length:=by rw[zzj];omega
     have hput:=L7.putR hir hiR hjR hv7
     rw[erlR_step,HO.out]at hput
     have hrow:=L7.rows i hir hiR
     rw[HO.out]at hrow
     have hl0:0<((zak m q i)[i]'hiR).length:=by omega
     obtain⟨z0,z1,z2,z3,z4,z5,_⟩:=hrow.fracs.at' (i+1) hjR
     have f0:=hrow.frozen ((i+1)*3) (by omega)
     have f1:=hrow.frozen ((i+1)*3+1) (by omega)
     have f2:=hrow.frozen ((i+1)*3+2) (by omega)
     have HCP:=zH (C7.put hrow hl0 (i+1) (.bool t7) (.slice a71 l71 k71) (.slice a72 l72 k72))
     have HLP:=zH hput.1
     have HBP:=zH (B7.trans hput.2)
     have slo:=hrow.sl
     have n01:=hrow.inj hl0 (show(i+1)*3≠(i+1)*3+1 by omega)
     have n02:=hrow.inj hl0 (show(i+1)*3≠(i+1)*3+2 by omega)
     have n12:=hrow.inj hl0 (show(i+1)*3+1≠(i+1)*3+2 by omega)
     have k1:(0:Int)≤(i:Int)+1:=by omega
     clear L7 C7 B7 hput hrow HLD HCD HBD hb7 z5 hv7
     (refine wpL.oo 12 ?_;intro K hK)
     rw[if_pos (by rfl)]
     go_simp
     refine hK.out _ _ (fun _=>hH7) ?_
     clear hK K
     try simp only[Act.put,List.setIfInBounds_toArray,List.set_cons_zero,List.set_cons_succ]
     (refine wpL.oo 13 ?_;intro K hK)
     rw[if_pos (by rfl)]
     go_simp
     refine hK.out _ _ (fun h=>by first | cases h | simp at h) ?_
     clear hK K z2 z3 z4 f0 f1 f2 n01 n02 n12 hH7
     refine wpL.done (by kernel_rfl) ?_ _
     go_wp2_with fail
     go_roundg (m-1- (i+1))
     case measure=>(have:=HG.out;omega)
     case rel=>exact⟨i+1,by omega,rfl,by go_num,HLP.out,HCP.out,HBP.out⟩
    ·have hi:i+1=m:=by omega
     have HI:=zH hi
     have i1:¬ ((i:Int)<(m:Nat)-1):=by omega
     have hwm:IntKind.i64.wrap ((m:Int)-1)=(i:Int):=by
      rw[zge (by omega) (by omega)];omega
     clear hi
     go_wp2_with fail
     obtain⟨_,d0,d1,d2,d3,_⟩:=HC4.out
     obtain⟨_,c0,c1,c2,_⟩:=HC.out.below hbr HC.out.lt
     have HAX:=HA.out.below hbr
     have hbD:=zja (B:=wx.heap.size) wx
     have HLD:=zH (HL.out.below hbD)
     have HCD:=zH (HC4.out.belowS hbD)
     have HBD:=zH (zfa HBR.out hbD HBR.out.size)
     have HAD:=zH (HAX.below hbD)
     refine wpL.start 10 (fun w'=>w'.cell? ⟨b6,3,none⟩=some (.slice e1 m e3)∧w'.cell? ⟨w.heap.size,0,none⟩=some (.bool s)∧w'.cell? ⟨w.heap.size,1,none⟩=some (.slice a11 l11 k11)∧w'.cell? ⟨w.heap.size,2,none⟩=some (.slice a12 l12 k12)) (by kernel_rfl) ⟨zba hbD d3,zba hbD c0,zba hbD c1,zba hbD c2⟩ (fun hHeld=> ?_)
     clear c0 c1 c2 d0 d1 d2 d3 hbD HL HC4 hbr HAX
     generalize wx.drew=wd at *
     refine wpL.u 0 ?_
     refine wpL.t 1 ?_
     refine wpL.u 2 ?_
     refine wpL.u 3 ?_
     try rw[hwm]
     refine wpL.t 4 ?_
     (refine wpL.oo 5 ?_;intro K hK)
     refine zxa 88 #[.agg #[.bool s, .slice a11 l11 k11, .slice a12 l12 k12]] ?_ ?_ (HRED.out _ _ HAD.out) ?_
     ·rfl
     ·go_simp
     rintro e7 w7 ⟨v7,rfl,hv7,hb7⟩
     obtain⟨t7,x7,y7,rfl,⟨a71,l71,k71,rfl,_⟩,⟨a72,l72,k72,rfl,_⟩⟩:=hv7.isF
     have hH7:=And.intro (zba hb7 hHeld.1) (And.intro (zba hb7 hHeld.2.1) (And.intro (zba hb7 hHeld.2.2.1) (zba hb7 hHeld.2.2.2)))
     refine⟨_,rfl,?_⟩
     refine hK.out _ _ (fun _=>hH7) ?_
     clear hK K hHeld
     try simp only[Act.put,List.setIfInBounds_toArray,List.set_cons_zero,List.set_cons_succ]
     have hHeld:=hH7
     refine wpL.u 6 ?_
     refine wpL.u 7 ?_
     refine wpL.u 8 ?_
     clear hHeld
     have L7:=HLD.out.below hb7
     have C7:=HCD.out.belowS hb7
     have B7:=zfa HBD.out hb7 HBD.out.size
     have hjR:i<(zeb m).length:=by rw[zwa];have:=HI.out;omega
     have hput:=L7.putE hjR hv7
     have hrow:=L7.e
     have hl0:0<(zeb m).length:=by omega
     obtain⟨z0,z1,z2,z3,z4,z5,_⟩:=hrow.fracs.at' i hjR
     have f0:=hrow.frozen (i*3) (by omega)
     have f1:=hrow.frozen (i*3+1) (by omega)
     have f2:=hrow.frozen (i*3+2) (by omega)
     have HCP:=zH (C7.put hrow hl0 i (.bool t7) (.slice a71 l71 k71) (.slice a72 l72 k72))
     have HLP:=zH hput.1
     have HBP:=zH (B7.trans hput.2)
     have slo:=hrow.sl
     have n01:=hrow.inj hl0 (show i*3≠i*3+1 by omega)
     have n02:=hrow.inj hl0 (show i*3≠i*3+2 by omega)
     have n12:=hrow.inj hl0 (show i*3+1≠i*3+2 by omega)
     have k1:(0:Int)≤(i:Int):=by omega
     have k2:(i:Int)<(m:Nat):=by have:=HI.out;omega
     clear L7 C7 B7 hput hrow HLD HCD HBD hb7 z5 hv7
     (refine wpL.oo 9 ?_;intro K hK)
     rw[if_pos (by rfl)]
     go_simp
     refine hK.out _ _ (fun _=>hH7) ?_
     clear hK K
     try simp only[Act.put,List.setIfInBounds_toArray,List.set_cons_zero,List.set_cons_succ]
     (refine wpL.oo 10 ?_;intro K hK)
     rw[if_pos (by rfl)]
     go_simp
     refine hK.out _ _ (fun h=>by first | cases h | simp at h) ?_
     clear hK K z2 z3 z4 f0 f1 f2 n01 n02 n12 hH7
     refine wpL.done (by kernel_rfl) ?_ _
     generalize ((w7.setCell (ptr (.slice e1 m e3) (i*3)) (.bool t7)).setCell (ptr (.slice e1 m e3) (i*3+1)) (.slice a71 l71 k71)).setCell (ptr (.slice e1 m e3) (i*3+2)) (.slice a72 l72 k72)=W9 at *
     obtain⟨_,c0,c1,c2,c3,_⟩:=HCP.out
     have HT9:=zH (HT.out.below HBP.out HT.out.lt)
     obtain⟨_,d0,d1,d2,d3,f0,f1,f2,f3⟩:=HT9.out
     have P9:zve.Pos (.slice r1 m r3) rs ((zeb m).set 0 1) ((zeb m).set i q) (zak m q i):=⟨by rw[List.length_set];exact hlS,by rw[List.length_set];exact hlS,fun j h=>by rw[zzj];omega,fun h=>by
      have h2:=HLP.out.rl
      rw[zic,h]at h2
      simp at h2;omega⟩
     have HL9:=zH (HLP.out.set4 P9 HT9.out (fun z=>by simp) (fun z=>by simp) (fun z=>by simp) { data:=#[] } (.slice s1 m s3) (.slice r1 m r3) (.slice e1 m e3))
     have HB9:=zH (zqd (zaa HB.out HBP.out) (Nat.le_succ _) (.string { data:=#[] }) (.slice s1 m s3) (.slice r1 m r3) (.slice e1 m e3))
     have HP9:=zH P9
     clear P9
     go_wp2_with fail
     refine zzd rfl rfl Try.aggL Try.sizeL (HT9.out.set _ _ _ _) rfl ?_
     refine⟨_,_,rfl,HB9.out,fun h=>absurd (by omega) h,fun _ h=>absurd HR.out h,fun _ _=>⟨rfl,?_⟩⟩
     have hi:i=m-1:=by have:=HI.out;omega
     have h:=HL9.out.mono HB.out.size
     have h2:=HP9.out
     rw[HQ.out]
     unfold zho
     rw[hi]at h h2
     exact⟨_,_,_,_,rfl,h,h2⟩
  ·have hdr:decide (zuh s a d)=false:=decide_eq_false hr
   go_wp2_with (first
    |(go_at_call 106;(with_reducible refine(rate_any _ s a d _ HA.out).mono ?_);rw[hdr];rintro e3 w3 ⟨rfl,hb3⟩
      have HT3:=zH (HT.out.belowS hb3)
      have HB3:=zH (zqd (zaa HB.out hb3) (Nat.le_succ w.heap.size) (.string { data:=#[] }) (.slice none 0 0) (.slice none 0 0) (.slice none 0 0))
      clear c0 c1 c2 d0 d1 d2 d3 f0 f1 f2 f3
      obtain⟨_,d0,d1,d2,d3,f0,f1,f2,f3⟩:=HT3.out
      clear hb3))
   refine zzd rfl rfl Try.aggL Try.sizeL (HT3.out.set _ _ _ _) rfl ?_
   exact⟨_,_,rfl,HB3.out,fun h=>absurd (by omega) h,fun _ _=>⟨rfl,rfl⟩,fun _ h=>absurd h hr⟩
 ·rcases Classical.em (n<1)with h | h
  ·have e1:decide (n<1)=true:=decide_eq_true h
   go_wp2_with fail
   refine zzd rfl rfl Try.aggL Try.sizeL (HT.out.set _ _ _ _) rfl ?_
   exact⟨_,_,rfl,HZ.out,fun _=>⟨rfl,rfl⟩,fun h=>absurd h hn,fun h=>absurd h hn⟩
  ·have e1:decide (n<1)=false:=decide_eq_false h
   have e2:decide (4<n)=true:=decide_eq_true (by omega)
   go_wp2_with fail
   refine zzd rfl rfl Try.aggL Try.sizeL (HT.out.set _ _ _ _) rfl ?_
   exact⟨_,_,rfl,HZ.out,fun _=>⟨rfl,rfl⟩,fun h=>absurd h hn,fun h=>absurd h hn⟩
set_option maxHeartbeats 800000
theorem lnumber_zero (w:World):Calls Try.prog 116 #[.int .i64 0] w (RF1 w 0):=by
 go_enter Try.func116,Try.ntmps116
 go_wp2_with (go_at_call 56;(with_reducible refine(make_01 _).mono ?_);rintro e w1 ⟨v,rfl,hv,hb1⟩
              obtain⟨t9,x9,y9,rfl,⟨a1,l91,k1,rfl,_⟩,⟨a2,l92,k2,rfl,_⟩⟩:=hv.isF
              have hr:=((C3.new w 32 (.bool false) (.slice none 0 0) (.slice none 0 0)).belowS hb1).allocS (.cells #[.bool t9, .slice a1 l91 k1, .slice a2 l92 k2] 32)
              have hv2:=hv.below (zca w1 (.cells #[.bool t9, .slice a1 l91 k1, .slice a2 l92 k2] 32))
              have hb2:=zaa (zaa (zca w (.cells #[.bool false, .slice none 0 0, .slice none 0 0] 32)) hb1) (zca w1 (.cells #[.bool t9, .slice a1 l91 k1, .slice a2 l92 k2] 32))
              have HR:=zH hr
              obtain⟨_,d1,d2,d3,d4,d5,d6⟩:=hr)
 refine zab rfl rfl Try.aggF Try.sizeF (HR.out.set _ _ _) rfl ?_
 exact⟨_,rfl,hv2.set3 HR.out (fun z=>by simp) (fun z=>by simp) _ _ _,zga hb2 (Nat.le_refl _) _ _ _⟩
theorem lnumber_one (w:World):Calls Try.prog 116 #[.int .i64 1] w (RF1 w 1):=by
 go_enter Try.func116,Try.ntmps116
 go_wp2_with (go_at_call 56;(with_reducible refine(make_11 _).mono ?_);rintro e w1 ⟨v,rfl,hv,hb1⟩
              obtain⟨t9,x9,y9,rfl,⟨a1,l91,k1,rfl,_⟩,⟨a2,l92,k2,rfl,_⟩⟩:=hv.isF
              have hr:=((C3.new w 32 (.bool false) (.slice none 0 0) (.slice none 0 0)).belowS hb1).allocS (.cells #[.bool t9, .slice a1 l91 k1, .slice a2 l92 k2] 32)
              have hv2:=hv.below (zca w1 (.cells #[.bool t9, .slice a1 l91 k1, .slice a2 l92 k2] 32))
              have hb2:=zaa (zaa (zca w (.cells #[.bool false, .slice none 0 0, .slice none 0 0] 32)) hb1) (zca w1 (.cells #[.bool t9, .slice a1 l91 k1, .slice a2 l92 k2] 32))
              have HR:=zH hr
              obtain⟨_,d1,d2,d3,d4,d5,d6⟩:=hr)
 refine zab rfl rfl Try.aggF Try.sizeF (HR.out.set _ _ _) rfl ?_
 exact⟨_,rfl,hv2.set3 HR.out (fun z=>by simp) (fun z=>by simp) _ _ _,zga hb2 (Nat.le_refl _) _ _ _⟩
theorem lzero_any (v:Value) (s:Bool) (n d:Nat) (w:World) (h:zdc w v s n d):
 Calls Try.prog 118 #[v] w fun e w'=>e= .returned (.bool (decide (n=0)))∧Below w.heap.size w w':=by
 obtain⟨a,b,rfl,ha,hb⟩:=h
 go_enter Try.func118,Try.ntmps118
 go_wp2_with (go_at_call 91;refine(zva _ n _ (ha.below (zca _ _))).mono ?_;rintro e w' ⟨rfl,rfl⟩)
 go_ret
 exact⟨by rw[←beq_bits];rfl,zca _ _⟩
theorem zci (v:Value) (q:Rat) (w:World) (h:zqa w v q):
 Calls Try.prog 118 #[v] w fun e w'=>e= .returned (.bool (decide (q=0)))∧Below w.heap.size w w':=by
 refine(lzero_any v _ _ _ w h.raw).mono ?_
 rintro e w' ⟨rfl,hb⟩
 refine⟨?_,hb⟩
 have :(q.num.natAbs=0)↔q=0:=⟨fun h=>Rat.num_eq_zero.1 (by omega),fun h=>by rw[h];rfl⟩
 by_cases hq:q=0
 ·rw[decide_eq_true hq,decide_eq_true (this.2 hq)]
 ·rw[decide_eq_false hq,decide_eq_false (fun h=>hq (this.1 h))]
theorem zgh (p v:Value) (q:Rat) (w:World) (h:zqa w v q):
 Calls Try.prog 101 #[p,v, .int .i64 0] w (RF1 w q):=by
 obtain⟨s,x,y,rfl,⟨a1,l1,k1,rfl,_⟩,⟨a2,l2,k2,rfl,_⟩⟩:=id h.isF
 obtain⟨bx,bz,hbw⟩:=zcf w 32 (.bool s) (.slice a1 l1 k1) (.slice a2 l2 k2) (.bool false) (.slice none 0 0) (.slice none 0 0) _ rfl
 have HF:=zH (h.below hbw)
 have HZ:=zH bz
 have HB:=zH hbw
 obtain⟨_,x0,x1,x2,f0,f1,f2⟩:=bx
 obtain⟨_,z0,z1,z2,g0,g1,g2⟩:=bz
 clear h hbw
 go_enter Try.func101,Try.ntmps101
 go_upto_region 1 with fail
 generalize (w.alloc (.cells #[.bool s, .slice a1 l1 k1, .slice a2 l2 k2] 32)).alloc (.cells #[.bool false, .slice none 0 0, .slice none 0 0] 32)=W at *
 go_wp2_with fail
 refine zab rfl rfl Try.aggF Try.sizeF (HZ.out.set _ _ _) rfl ?_
 exact⟨_,rfl,HF.out.set3 HZ.out (fun z=>by simp) (fun z=>by simp) _ _ _,zga HB.out (by omega) _ _ _⟩
end Go.Proofs.Ytlpdkbmmbdfoiaa
namespace Go.Proofs.Ytlpdkbmmbdfoiaa
def zui (A:Mx) (i r k e:Nat) (f:Rat):Mx:=fun a b=>if a=i∧k≤b∧b<e then A i b-f*A r b else A a b
theorem redTo_start (A:Mx) (i r k:Nat) (f:Rat):zui A i r k k f=A:=by
 funext a b;unfold zui;rw[if_neg (by omega)]
theorem redTo_at {A:Mx} {i r k e:Nat} {f:Rat}:zui A i r k e f i e=A i e:=by unfold zui;rw[if_neg (by omega)]
theorem redTo_row {A:Mx} {i r k e b:Nat} {f:Rat} (h:i≠r):zui A i r k e f r b=A r b:=by unfold zui;rw[if_neg (fun h2=>h h2.1.symm)]
def zzg (below:Bool) (A:Mx) (r k e:Nat):Mx:=fun a b=>if a<e then znj below A r k a b else A a b
theorem redP_zero (below:Bool) (A:Mx) (r k:Nat):zzg below A r k 0=A:=by
 funext a b;unfold zzg;rw[if_neg (by omega)]
theorem zpk {below:Bool} {A:Mx} {r k e:Nat}:zzg below A r k e e=A e:=by
 funext b;unfold zzg;rw[if_neg (by omega)]
theorem zpg {below:Bool} {A:Mx} {r k a:Nat} (h:¬act below A r k a):znj below A r k a=A a:=by
 funext b;unfold znj;rw[if_neg (fun h2=>h h2.1)]
theorem zuj {below:Bool} {A:Mx} {r k e:Nat}:zzg below A r k e r=A r:=by
 funext b;unfold zzg;split
 ·rw[zpg (fun h=>h.1 rfl)]
 ·rfl
theorem zsh {below:Bool} {A:Mx} {r k e:Nat} (h:¬act below A r k e):zzg below A r k (e+1)=zzg below A r k e:=by
 funext a b;unfold zzg
 by_cases h1:a=e
 ·subst h1;rw[if_pos (by omega),if_neg (by omega),zpg h]
 ·by_cases h2:a<e
  ·rw[if_pos (by omega),if_pos h2]
  ·rw[if_neg (by omega),if_neg h2]
theorem redP_red {below:Bool} {A:Mx} {r k e m:Nat} (h:act below A r k e):∀a b,b<m→zui (zzg below A r k e) e r k m (A e k/A r k) a b=zzg below A r k (e+1) a b:=by
 intro a b hb
 unfold zui
 rw[zpk,zuj]
 unfold zzg
 by_cases h1:a=e
 ·subst h1
  unfold znj
  by_cases h2:k≤b
  ·rw[if_pos ⟨rfl,h2,hb⟩,if_pos (by omega),if_pos ⟨h,h2⟩]
  ·rw[if_neg (by omega),if_neg (by omega),if_pos (by omega),if_neg (by omega)]
 ·rw[if_neg (by omega)]
  by_cases h2:a<e
  ·rw[if_pos h2,if_pos (show a<e+1 by omega)]
  ·rw[if_neg h2,if_neg (show ¬a<e+1 by omega)]
theorem redP_all {below:Bool} {A:Mx} {r k n:Nat}:∀a b,a<n→zzg below A r k n a b=znj below A r k a b:=by
 intro a b h;unfold zzg;rw[if_pos h]
def slimE (below:Bool) (n m wd:Nat) (A:Mx):Prop:=∀k,k≤wd→(∀a b,a<n→b<m→fits ((elim below n A k).A a b))∧fits (elim below n A k).d∧(k<wd→fitE below n m k (elim below n A k))
end Go.Proofs.Ytlpdkbmmbdfoiaa
