/- Lemmas. -/
import Derived.Test.YtlpdkbmmbdfoiaaGreatPPh10
set_option linter.unusedVariables false
set_option linter.unusedSimpArgs false
namespace Go.Proofs.YtlpdkbmmbdfoiaaGreat
open Go.RowKit
def zjn (n:Nat) (q:Rat) (i:Nat):List (List Rat):=(List.range n).map λ k=>if k<i then(zcb n).set (k+1) q else zcb n
def erlQ (n:Nat) (q:Rat):LQ:=⟨(zcb n).set 0 1,(zcb n).set (n-1) q,zjn n q (n-1)⟩
theorem zdd (n:Nat) (q:Rat) (i:Nat):(zjn n q i).length=n:=by simp[zjn]
theorem zjg (n:Nat) (q:Rat) (i j:Nat) (h:j<(zjn n q i).length):(zjn n q i)[j]=if j<i then(zcb n).set (j+1) q else zcb n:=by simp[zjn]
theorem erlR_zero (n:Nat) (q:Rat):zjn n q 0=List.replicate n (zcb n):=by
 refine List.ext_getElem (by rw[zdd,zRP]) λ j h1 h2=> ?_
 rw[zjg,zIN (zNZ j),List.getElem_replicate]
theorem erlR_step (n:Nat) (q:Rat) (i:Nat) (h:i<(zjn n q i).length):(zjn n q i).set i ((zjn n q i)[i].set (i+1) q)=zjn n q (i+1):=by
 refine List.ext_getElem (by rw[zGS,zdd,zdd]) λ j h1 h2=> ?_
 by_cases e:i=j
 ·subst e;rw[zSF,zjg,zIN (zIR i),zjg,zIP (zSS i)]
 ·rw[zTN e,zjg,zjg];by_cases h3:j<i
  ·rw[zIP h3,zIP zO]
  ·rw[zIN h3,zIN zO]
theorem zin (n:Nat) (q:Rat) (i j:Nat) (h:j<(zjn n q i).length):(zjn n q i)[j].length=n:=by
 rw[zjg];split
 ·rw[zGS,zpa]
 ·exact zpa n
theorem C4.put {w:World} {b:Nat} {s:ByteArray} {v1 v2 v3:Value} (h:C4 w b (.string s) v1 v2 v3) {B:Nat} {e:TypeId} {v:Value} {q:List Rat} (hr:zua w e B v q) (hq:0<q.length) (i:Nat) (x y z:Value):
 C4 (((w.setCell (ptr v (i*3)) x).setCell (ptr v (i*3+1)) y).setCell (ptr v (i*3+2)) z) b (.string s) v1 v2 v3:=by
 obtain⟨g,h1,_,_,_,hp⟩:=hr.blk hq;have hne:g≠b:=λ e=>hr.neB hq h.c0 (by rw[h1,e])
 rw[hp,hp,hp];exact((h.other (p:=⟨g,i*3,none⟩) hne x).other (p:=⟨g,i*3+1,none⟩) hne y).other (p:=⟨g,i*3+2,none⟩) hne z
def zgd (w:World) (v:Value) (l:LQ):Prop:=∃s r e,v= .agg #[.string { data:=#[] },s,r,e]/\zwa w s l.start/\MatC w r l.rates/\zwa w e l.exit
theorem zgd.lawC {w:World} {v:Value} {l:LQ} (h:zgd w v l):zxj w v l:=by
 obtain⟨s,r,e,rfl,h1,h2,h3⟩:=h;exact⟨_,s,r,e,rfl,h1,h2,h3⟩
theorem zgd.bw {w w':World} {v:Value} {l:LQ} (h:zgd w v l) (hb:Below w.heap.size w w'):zgd w' v l:=by
 obtain⟨s,r,e,rfl,h1,h2,h3⟩:=h;exact⟨s,r,e,rfl,h1.bw hb,h2.bw hb,h3.bw hb⟩
theorem zpe.lawE {w:World} {B:Nat} {vs ve vr:Value} {rs:List Value} {S E:List Rat} {R:List (List Rat)} (h:zpe w B vs ve vr rs S E R):zgd w (.agg #[.string { data:=#[] },vs,vr,ve]) ⟨S,E,R⟩:=by
 obtain⟨nm,s,r,e,h0,h1,h2,h3⟩:=h.lawC (.string { data:=#[] });injection h0 with h0
 injection h0 with h0
 simp only[List.cons.injEq,and_true]at h0;obtain⟨_,rfl,rfl,rfl⟩:=h0;exact⟨_,_,_,rfl,h1,h2,h3⟩
def LawO (w:World) (B:Nat) (v:Value) (l:LQ):Prop:=∃vs ve vr rs,v= .agg #[.string { data:=#[] },vs,vr,ve]/\zpe w B vs ve vr rs l.start l.exit l.rates/\zpe.Pos vr rs l.start l.exit l.rates
theorem LawO.lawE {w:World} {B:Nat} {v:Value} {l:LQ} (h:LawO w B v l):zgd w v l:=by
 obtain⟨vs,ve,vr,rs,rfl,h1,_⟩:=h;exact h1.lawE
theorem LawO.mono {w:World} {B B':Nat} {v:Value} {l:LQ} (h:LawO w B v l) (hB:B'<=B):LawO w B' v l:=by
 obtain⟨vs,ve,vr,rs,rfl,h1,h2⟩:=h;exact⟨vs,ve,vr,rs,rfl,h1.mono hB,h2⟩
theorem LawO.set4 {w:World} {B b:Nat} {s:ByteArray} {v:Value} {l:LQ} {v1 v2 v3:Value} (h:LawO w B v l) (hc:C4 w b (.string s) v1 v2 v3) (n1:∀z,v1≠ .int .u32 z) (n2:∀z,v2≠ .int .u32 z) (n3:∀z,v3≠ .int .u32 z) (s':ByteArray) (u1 u2 u3:Value):LawO ((((w.setCell ⟨b,0,none⟩ (.string s')).setCell ⟨b,1,none⟩ u1).setCell ⟨b,2,none⟩ u2).setCell ⟨b,3,none⟩ u3) B v l:=by
 obtain⟨vs,ve,vr,rs,rfl,h1,h2⟩:=h;exact⟨vs,ve,vr,rs,rfl,h1.set4 h2 hc n1 n2 n3 s' u1 u2 u3,h2⟩
def zai :Value:= .agg #[.string { data:=#[] }, .slice none 0 0, .slice none 0 0, .slice none 0 0]
def RErl (w0:World) (n:Int) (s:Bool) (a d:Nat) (e:Ending) (w:World):Prop:=
 ∃v er,e= .returned (.tuple #[v, .int .i64 er])/\Below w0.heap.size w0 w/\(¬ (1<=n/\n<=4)->er=5/\v=zai)/\(1<=n/\n<=4->¬zlk s a d->er=1/\v=zai)/\(1<=n/\n<=4->zlk s a d->er=0/\LawO w w0.heap.size v (erlQ n.toNat (fq s a d)))
set_option maxRecDepth 100000 in
set_option maxHeartbeats 6400000 in
theorem erlang_any (n:Int) (va:Value) (s:Bool) (a d:Nat) (w:World) (ha:zzb w va s a d):Calls Tryz.prog 28 #[.int .i64 n,va] w (RErl w n s a d):=by
 obtain⟨x0,y0,rfl,h1,h2⟩:=id ha;obtain⟨a11,l11,k11,rfl,_⟩:=h1.slen.1;obtain⟨a12,l12,k12,rfl,_⟩:=h2.slen.1;have hb1:=zca w (.cells #[.bool s, .slice a11 l11 k11, .slice a12 l12 k12] 38);have hb2:=zca (w.alloc (.cells #[.bool s, .slice a11 l11 k11, .slice a12 l12 k12] 38)) (.cells #[.string { data:=#[] }, .slice none 0 0, .slice none 0 0, .slice none 0 0] 52);have HB:=zH (zaa hb1 hb2);have HC:=zH ((C3.new w 38 (.bool s) (.slice a11 l11 k11) (.slice a12 l12 k12)).bS hb2);have HT:=zH (C4.new (w.alloc (.cells #[.bool s, .slice a11 l11 k11, .slice a12 l12 k12] 38)) 52 (.string { data:=#[] }) (.slice none 0 0) (.slice none 0 0) (.slice none 0 0));have HA:=zH ((ha.bw hb1).bw hb2);have htb:(w.alloc (.cells #[.bool s, .slice a11 l11 k11, .slice a12 l12 k12] 38)).heap.size=w.heap.size+1:=by show(w.heap.push _).size=_;rw[Array.size_push]
 rw[htb]at HT;clear ha h1 h2 hb1 hb2 htb;go_enter Tryz.func28,Tryz.ntmps28;go_upto_region 1 with fail;generalize (w.alloc (.cells #[.bool s, .slice a11 l11 k11, .slice a12 l12 k12] 38)).alloc (.cells #[.string { data:=#[] }, .slice none 0 0, .slice none 0 0, .slice none 0 0] 52)=W2 at *
 obtain⟨_,c0,c1,c2,_,_,_⟩:=HC.o;obtain⟨_,d0,d1,d2,d3,f0,f1,f2,f3⟩:=HT.o;have HZ:zI (Below w.heap.size w ((((W2.setCell ⟨w.heap.size+1,0,none⟩ (.string { data:=#[] })).setCell ⟨w.heap.size+1,1,none⟩ (.slice none 0 0)).setCell ⟨w.heap.size+1,2,none⟩ (.slice none 0 0)).setCell ⟨w.heap.size+1,3,none⟩ (.slice none 0 0))):=zH (zjb HB.o (zLS _) _ _ _ _);by_cases hn:1<=n/\n<=4
 ·obtain⟨m,rfl⟩:∃m:Nat,n=m:=⟨n.toNat,zO⟩;have hm1:1<=m:=zO;have hm4:m<=4:=zO;have e1:decide (((m:Nat):Int)<1)=false:=zDF zO;have e2:decide ((4:Int)<(m:Nat))=false:=zDF zO;by_cases hr:zlk s a d
  ·have hdr:decide (zlk s a d)=true:=zDT hr;have hok:okN a d:=hr.1;have HK:=zH hok;obtain⟨q,hq⟩:∃q,fq s a d=q:=⟨_,rfl⟩
   have HRED:zI (∀w0 vx,zzb w0 vx s a d->Calls Tryz.prog 89 #[vx] w0 (RF0 w0 q)):=zH (λ w0 vx h=>by
    refine(zyg vx _ _ _ w0 h).mono ?_;rintro e w' ⟨v,er,rfl,hb,h1,_⟩;obtain⟨rfl,h2⟩:=h1 HK.o;rw[hq]at h2;exact⟨v,rfl,h2,hb⟩)
   have HR:zI (zlk s a d):=zH hr;have HQ:=zH hq;clear hr hok hn hq
   go_upto_region 6 with(first
    |(go_at_call 86;(with_reducible refine(rate_any _ s a d _ HA.o).mono ?_);rw[hdr];rintro e3 w3 ⟨rfl,hb3⟩;have HB3:=zH hb3;clear hb3)
    |(go_at_call 87;(with_reducible refine(zfl m _ hm1 hm4).mono ?_);rintro e5 w5 ⟨vs,ve,vr,rs,rfl,hl5,hb5⟩;obtain⟨s1,s2,s3,rfl,_⟩:=id hl5.s.sl;obtain⟨r1,r2,r3,rfl,_⟩:=id hl5.ra.sl;obtain⟨e1,e2,e3,rfl,_⟩:=id hl5.e.sl;have hs2:s2=m:=(by have h:=hl5.s.fracs.len;rw[zpa]at h;exact h);have he2:e2=m:=(by have h:=hl5.e.fracs.len;rw[zpa]at h;exact h);have hr2:r2=m:=(by have h:=hl5.ra.len;rw[hl5.rl,zRP]at h;exact h);rw[hs2]at hl5 |-;rw[he2]at hl5 |-;rw[hr2]at hl5 |-;have hba:=zca w5 (.cells #[.string { data:=#[] }, .slice s1 m s3, .slice r1 m r3, .slice e1 m e3] 52);have HC6:=zH (C4.new w5 52 (.string { data:=#[] }) (.slice s1 m s3) (.slice r1 m r3) (.slice e1 m e3));have HL6:=zH ((hl5.bw hba).mono HB3.o.size);have HB6:=zH (zaa HB3.o (zaa hb5 hba));have HSZ:=zH (zLT HB3.o.size hb5.size);clear hl5 hb5 hba))
   rw[<-erlR_zero m q]at HL6;obtain⟨b6,hb6⟩:∃b,w5.heap.size=b:=⟨_,rfl⟩;(rw[hb6]at HC6 HSZ |-);clear hb6 HB3 c0 c1 c2 d0 d1 d2 d3 f0 f1 f2 f3;generalize w5.alloc (.cells #[.string { data:=#[] }, .slice s1 m s3, .slice r1 m r3, .slice e1 m e3] 52)=W6 at *
   (have hlS:0<(zcb m).length:=by rw[zpa];exact hm1);obtain⟨_,c0,c1,c2,c3,_⟩:=HC6.o;have hbD:=zfa (B:=W6.heap.size) W6;have HLD:=zH (HL6.o.bw hbD);have HCD:=zH (HC6.o.bS hbD);have HBD:=zH (zea HB6.o hbD HB6.o.size);refine wpL.start 4 (λ w'=>w'.cell? ⟨b6,1,none⟩=some (.slice s1 m s3)) (by kernel_rfl) (zba hbD c1) (λ hHeld=> ?_);clear c0 c1 c2 c3 hbD HL6 HC6 HB6;generalize W6.drew=wd at *
   refine zU 0 ?_;refine zY 1 ?_;(refine zW 2 ?_;intro K hK);refine zsa 88 #[.int .i64 1] ?_ ?_ (zph wd) ?_
   ·rfl
   ·go_simp
   rintro e7 w7 ⟨v7,rfl,hv7,hb7⟩;obtain⟨t7,a71,l71,k71,a72,l72,k72,rfl⟩:=hv7.iF;refine⟨_,rfl,?_⟩;refine hK.o _ _ (λ _=>zba hb7 hHeld) ?_;have h7:=zba hb7 hHeld;have L7:=HLD.o.bw hb7;have C7:=HCD.o.bS hb7;have B7:=zea HBD.o hb7 HBD.o.size;obtain⟨z0,z1,z2,z3,z4,z5,_⟩:=L7.s.fracs.at' 0 hlS;have f0:=L7.s.frozen (0*3) zO;have f1:=L7.s.frozen (0*3+1) zO;have f2:=L7.s.frozen (0*3+2) zO;have hput:=L7.putS hlS hv7;have hcp:=C7.put L7.s hlS 0 (.bool t7) (.slice a71 l71 k71) (.slice a72 l72 k72);have hbp:=B7.trans hput.2;have hlp:=hput.1;have sls:=L7.s.sl;have n01:=L7.s.inj hlS (show 0*3≠0*3+1 by omega);have n02:=L7.s.inj hlS (show 0*3≠0*3+2 by omega);have n12:=L7.s.inj hlS (show 0*3+1≠0*3+2 by omega);have j2:0<m:=hm1;simp only[Nat.zero_mul,Nat.zero_add]at z2 z3 z4 f0 f1 f2 n01 n02 n12 hcp hbp hlp;have HCP:=zH hcp;have HLP:=zH hlp;have HBP:=zH hbp;clear hcp hbp hlp z5;clear hK K hHeld L7 C7 B7 hput HLD HCD HBD hb7;refine zS ?_;(refine zW 3 ?_;intro K hK);rw[zIP (by rfl)];go_simp;refine hK.o _ _ (λ _=>h7) ?_;clear hK K;refine zS ?_;(refine zW 4 ?_;intro K hK);rw[zIP (by rfl)];go_simp;refine hK.o _ _ (λ h=>by first | cases h | simp at h) ?_;clear hK K h7 z2 z3 z4 f0 f1 f2 n01 n02 n12 sls j2 hv7;refine wpL.done (by kernel_rfl) ?_ _;generalize ((w7.setCell (ptr (.slice s1 m s3) 0) (.bool t7)).setCell (ptr (.slice s1 m s3) 1) (.slice a71 l71 k71)).setCell (ptr (.slice s1 m s3) 2) (.slice a72 l72 k72)=W7 at *
   go_wp2_with fail;go_loopg [7] (m-1) (λ g u7 wr=>∃ (i:Nat),i<=m-1/\g=m-1-i/\u7= .int .i64 i/\zpe wr W2.heap.size (.slice s1 m s3) (.slice e1 m e3) (.slice r1 m r3) rs ((zcb m).set 0 1) (zcb m) (zjn m q i)/\C4 wr b6 (.string { data:=#[] }) (.slice s1 m s3) (.slice r1 m r3) (.slice e1 m e3)/\Below W2.heap.size W2 wr);case atStart=>exact⟨0,zZL _,rfl,rfl,HLP.o,HCP.o,HBP.o⟩
   case round=>
    obtain⟨i,hin,hg,rfl,hl,hc,hbr⟩:=hrel;obtain⟨wx,hwx⟩:∃w6,w6=wr:=⟨_,rfl⟩;subst hwx;have HG:=zH hg;have HL:=zH hl;have HC4:=zH hc;have HBR:=zH hbr;clear hg hl hc HLP HCP HBP;by_cases hil:i<m-1
    ·have i1:(0:Int)<=(i:Int):=zO;have i2:(i:Int)<(m:Nat)-1:=zO;have i3:(i:Int)<(m:Nat):=zO;have i4:(i:Int)+1<(m:Nat):=zO;go_wp2_with fail;(have hrl:rs.length=m:=by have h:=HL.o.rl;rw[zdd]at h;exact h);have hir:i<rs.length:=zO;(have hiR:i<(zjn m q i).length:=by rw[zdd];omega);have hrow:=HL.o.rows i hir hiR;have hrcell:=HL.o.ra.cell i hir;obtain⟨o1,o2,o3,ho,_⟩:=id hrow.sl;(have ho2:m=o2:=by have h:=hrow.fracs.len;rw[ho,zin]at h;exact h.symm);subst ho2;rw[ho]at hrcell;have HO:=zH ho;have slr:=HL.o.ra.sl;obtain⟨_,d0,d1,d2,d3,_⟩:=HC4.o;obtain⟨_,c0,c1,c2,_⟩:=HC.o.bw hbr HC.o.lt;have HAX:=HA.o.bw hbr;have hbD:=zfa (B:=wx.heap.size) wx;have HLD:=zH (HL.o.bw hbD);have HCD:=zH (HC4.o.bS hbD);have HBD:=zH (zea HBR.o hbD HBR.o.size);have HAD:=zH (HAX.bw hbD);refine wpL.start 13 (λ w'=>w'.cell? ⟨b6,2,none⟩=some (.slice r1 m r3)/\w'.cell? (ptr (.slice r1 m r3) i)=some (.slice o1 m o3)/\w'.cell? ⟨w.heap.size,0,none⟩=some (.bool s)/\w'.cell? ⟨w.heap.size,1,none⟩=some (.slice a11 l11 k11)/\w'.cell? ⟨w.heap.size,2,none⟩=some (.slice a12 l12 k12)) (by kernel_rfl) ⟨zba hbD d2,zba hbD hrcell,zba hbD c0,zba hbD c1,zba hbD c2⟩ (λ hHeld=> ?_);clear c0 c1 c2 d0 d1 d2 d3 hbD HL HC4 hbr ho hrow hrcell HAX;generalize wx.drew=wd at *
     refine zU 0 ?_;refine zY 1 ?_;refine zU 2 ?_;refine zU 3 ?_;refine zY 4 ?_;refine zU 5 ?_;refine zU 6 ?_
     have hwi:IntKind.i64.wrap ((i:Int)+1)=((i+1:Nat):Int):=by
      rw[zac zO zO];omega
     rw[hwi];refine zY 7 ?_;(refine zW 8 ?_;intro K hK);refine zsa 89 #[.agg #[.bool s, .slice a11 l11 k11, .slice a12 l12 k12]] ?_ ?_ (HRED.o _ _ HAD.o) ?_
     ·rfl
     ·go_simp
     rintro e7 w7 ⟨v7,rfl,hv7,hb7⟩;obtain⟨t7,a71,l71,k71,a72,l72,k72,rfl⟩:=hv7.iF;have hH7:=zAI (zba hb7 hHeld.1) (zAI (zba hb7 hHeld.2.1) (zAI (zba hb7 hHeld.2.2.1) (zAI (zba hb7 hHeld.2.2.2.1) (zba hb7 hHeld.2.2.2.2))));refine⟨_,rfl,?_⟩;refine hK.o _ _ (λ _=>hH7) ?_;clear hK K hHeld;refine zS ?_;have hHeld:=hH7;refine zU 9 ?_;refine zU 10 ?_;refine zU 11 ?_;clear hHeld;have L7:=HLD.o.bw hb7;have C7:=HCD.o.bS hb7;have B7:=zea HBD.o hb7 HBD.o.size;(have hjR:i+1<((zjn m q i)[i]'hiR).length:=by rw[zin];omega);have hput:=L7.putR hir hiR hjR hv7;rw[erlR_step,HO.o]at hput;have hrow:=L7.rows i hir hiR;rw[HO.o]at hrow;have hl0:0<((zjn m q i)[i]'hiR).length:=zO;obtain⟨z0,z1,z2,z3,z4,z5,_⟩:=hrow.fracs.at' (i+1) hjR;have f0:=hrow.frozen ((i+1)*3) zO;have f1:=hrow.frozen ((i+1)*3+1) zO;have f2:=hrow.frozen ((i+1)*3+2) zO;have HCP:=zH (C7.put hrow hl0 (i+1) (.bool t7) (.slice a71 l71 k71) (.slice a72 l72 k72));have HLP:=zH hput.1;have HBP:=zH (B7.trans hput.2);have slo:=hrow.sl;have n01:=hrow.inj hl0 (show(i+1)*3≠(i+1)*3+1 by omega);have n02:=hrow.inj hl0 (show(i+1)*3≠(i+1)*3+2 by omega);have n12:=hrow.inj hl0 (show(i+1)*3+1≠(i+1)*3+2 by omega);have k1:(0:Int)<=(i:Int)+1:=zO;clear L7 C7 B7 hput hrow HLD HCD HBD hb7 z5 hv7;(refine zW 12 ?_;intro K hK);rw[zIP (by rfl)];go_simp;refine hK.o _ _ (λ _=>hH7) ?_;clear hK K;refine zS ?_;(refine zW 13 ?_;intro K hK);rw[zIP (by rfl)];go_simp;refine hK.o _ _ (λ h=>by first | cases h | simp at h) ?_;clear hK K z2 z3 z4 f0 f1 f2 n01 n02 n12 hH7;refine wpL.done (by kernel_rfl) ?_ _;go_wp2_with fail;go_roundg (m-1- (i+1));(case measure=>(have:=HG.o;omega));case rel=>exact⟨i+1,zO,rfl,by go_num,HLP.o,HCP.o,HBP.o⟩
    ·have hi:i+1=m:=zO;have HI:=zH hi;have i1:¬ ((i:Int)<(m:Nat)-1):=zO
     have hwm:IntKind.i64.wrap ((m:Int)-1)=(i:Int):=by
      rw[zac zO zO];omega
     clear hi;go_wp2_with fail;obtain⟨_,d0,d1,d2,d3,_⟩:=HC4.o;obtain⟨_,c0,c1,c2,_⟩:=HC.o.bw hbr HC.o.lt;have HAX:=HA.o.bw hbr;have hbD:=zfa (B:=wx.heap.size) wx;have HLD:=zH (HL.o.bw hbD);have HCD:=zH (HC4.o.bS hbD);have HBD:=zH (zea HBR.o hbD HBR.o.size);have HAD:=zH (HAX.bw hbD);refine wpL.start 10 (λ w'=>w'.cell? ⟨b6,3,none⟩=some (.slice e1 m e3)/\w'.cell? ⟨w.heap.size,0,none⟩=some (.bool s)/\w'.cell? ⟨w.heap.size,1,none⟩=some (.slice a11 l11 k11)/\w'.cell? ⟨w.heap.size,2,none⟩=some (.slice a12 l12 k12)) (by kernel_rfl) ⟨zba hbD d3,zba hbD c0,zba hbD c1,zba hbD c2⟩ (λ hHeld=> ?_);clear c0 c1 c2 d0 d1 d2 d3 hbD HL HC4 hbr HAX;generalize wx.drew=wd at *
     refine zU 0 ?_;refine zY 1 ?_;refine zU 2 ?_;refine zU 3 ?_;(try rw[hwm]);refine zY 4 ?_;(refine zW 5 ?_;intro K hK);refine zsa 89 #[.agg #[.bool s, .slice a11 l11 k11, .slice a12 l12 k12]] ?_ ?_ (HRED.o _ _ HAD.o) ?_
     ·rfl
     ·go_simp
     rintro e7 w7 ⟨v7,rfl,hv7,hb7⟩;obtain⟨t7,a71,l71,k71,a72,l72,k72,rfl⟩:=hv7.iF;have hH7:=zAI (zba hb7 hHeld.1) (zAI (zba hb7 hHeld.2.1) (zAI (zba hb7 hHeld.2.2.1) (zba hb7 hHeld.2.2.2)));refine⟨_,rfl,?_⟩;refine hK.o _ _ (λ _=>hH7) ?_;clear hK K hHeld;refine zS ?_;have hHeld:=hH7;refine zU 6 ?_;refine zU 7 ?_;refine zU 8 ?_;clear hHeld;have L7:=HLD.o.bw hb7;have C7:=HCD.o.bS hb7;have B7:=zea HBD.o hb7 HBD.o.size;(have hjR:i<(zcb m).length:=by rw[zpa];have:=HI.o;omega);have hput:=L7.putE hjR hv7;have hrow:=L7.e;have hl0:0<(zcb m).length:=zO;obtain⟨z0,z1,z2,z3,z4,z5,_⟩:=hrow.fracs.at' i hjR;have f0:=hrow.frozen (i*3) zO;have f1:=hrow.frozen (i*3+1) zO;have f2:=hrow.frozen (i*3+2) zO;have HCP:=zH (C7.put hrow hl0 i (.bool t7) (.slice a71 l71 k71) (.slice a72 l72 k72));have HLP:=zH hput.1;have HBP:=zH (B7.trans hput.2);have slo:=hrow.sl;have n01:=hrow.inj hl0 (show i*3≠i*3+1 by omega);have n02:=hrow.inj hl0 (show i*3≠i*3+2 by omega);have n12:=hrow.inj hl0 (show i*3+1≠i*3+2 by omega);have k1:(0:Int)<=(i:Int):=zO;(have k2:(i:Int)<(m:Nat):=by have:=HI.o;omega);clear L7 C7 B7 hput hrow HLD HCD HBD hb7 z5 hv7;(refine zW 9 ?_;intro K hK);rw[zIP (by rfl)];go_simp;refine hK.o _ _ (λ _=>hH7) ?_;clear hK K;refine zS ?_;(refine zW 10 ?_;intro K hK);rw[zIP (by rfl)];go_simp;refine hK.o _ _ (λ h=>by first | cases h | simp at h) ?_;clear hK K z2 z3 z4 f0 f1 f2 n01 n02 n12 hH7;refine wpL.done (by kernel_rfl) ?_ _;generalize ((w7.setCell (ptr (.slice e1 m e3) (i*3)) (.bool t7)).setCell (ptr (.slice e1 m e3) (i*3+1)) (.slice a71 l71 k71)).setCell (ptr (.slice e1 m e3) (i*3+2)) (.slice a72 l72 k72)=W9 at *
     obtain⟨_,c0,c1,c2,c3,_⟩:=HCP.o;have HT9:=zH (HT.o.bw HBP.o HT.o.lt);obtain⟨_,d0,d1,d2,d3,f0,f1,f2,f3⟩:=HT9.o
     have P9:zpe.Pos (.slice r1 m r3) rs ((zcb m).set 0 1) ((zcb m).set i q) (zjn m q i):=⟨by rw[zGS];exact hlS,by rw[zGS];exact hlS,λ j h=>by rw[zin];omega,λ h=>by
      have h2:=HLP.o.rl;rw[zdd,h]at h2;simp at h2;omega⟩
     have HL9:=zH (HLP.o.set4 P9 HT9.o zZ zZ zZ { data:=#[] } (.slice s1 m s3) (.slice r1 m r3) (.slice e1 m e3));have HB9:=zH (zjb (zaa HB.o HBP.o) (zLS _) (.string { data:=#[] }) (.slice s1 m s3) (.slice r1 m r3) (.slice e1 m e3));have HP9:=zH P9;clear P9;go_wp2_with fail;refine zdb rfl rfl Tryz.aggL Tryz.sizeL (HT9.o.set _ _ _ _) rfl ?_;refine⟨_,_,rfl,HB9.o,λ h=>absurd zO h,λ _ h=>absurd HR.o h,λ _ _=>⟨rfl,?_⟩⟩;(have hi:i=m-1:=by have:=HI.o;omega);have h:=HL9.o.mono HB.o.size;have h2:=HP9.o;rw[HQ.o];unfold erlQ;rw[hi]at h h2;exact⟨_,_,_,_,rfl,h,h2⟩
  ·have hdr:decide (zlk s a d)=false:=zDF hr
   go_wp2_with (first
    |(go_at_call 86;(with_reducible refine(rate_any _ s a d _ HA.o).mono ?_);rw[hdr];rintro e3 w3 ⟨rfl,hb3⟩;have HT3:=zH (HT.o.bS hb3);have HB3:=zH (zjb (zaa HB.o hb3) (zLS w.heap.size) (.string { data:=#[] }) (.slice none 0 0) (.slice none 0 0) (.slice none 0 0));clear c0 c1 c2 d0 d1 d2 d3 f0 f1 f2 f3;obtain⟨_,d0,d1,d2,d3,f0,f1,f2,f3⟩:=HT3.o;clear hb3))
   refine zdb rfl rfl Tryz.aggL Tryz.sizeL (HT3.o.set _ _ _ _) rfl ?_;exact⟨_,_,rfl,HB3.o,λ h=>absurd zO h,λ _ _=>⟨rfl,rfl⟩,λ _ h=>absurd h hr⟩
 ·rcases Classical.em (n<1)with h | h
  ·have e1:decide (n<1)=true:=zDT h;go_wp2_with fail;refine zdb rfl rfl Tryz.aggL Tryz.sizeL (HT.o.set _ _ _ _) rfl ?_;exact⟨_,_,rfl,HZ.o,λ _=>⟨rfl,rfl⟩,λ h=>absurd h hn,λ h=>absurd h hn⟩
  ·have e1:decide (n<1)=false:=zDF h;have e2:decide (4<n)=true:=zDT zO;go_wp2_with fail;refine zdb rfl rfl Tryz.aggL Tryz.sizeL (HT.o.set _ _ _ _) rfl ?_;exact⟨_,_,rfl,HZ.o,λ _=>⟨rfl,rfl⟩,λ h=>absurd h hn,λ h=>absurd h hn⟩
set_option maxHeartbeats 800000
theorem lnumber_zero (w:World):Calls Tryz.prog 218 #[.int .i64 0] w (RF1 w 0):=by
 go_enter Tryz.func218,Tryz.ntmps218;go_wp2_with (go_at_call 67;(with_reducible refine(make_01 _).mono ?_);rintro e w1 ⟨v,rfl,hv,hb1⟩;obtain⟨t9,a1,l91,k1,a2,l92,k2,rfl⟩:=hv.iF;have hr:=((C3.new w 38 (.bool false) (.slice none 0 0) (.slice none 0 0)).bS hb1).allocS (.cells #[.bool t9, .slice a1 l91 k1, .slice a2 l92 k2] 38);have hv2:=hv.bw (zca w1 (.cells #[.bool t9, .slice a1 l91 k1, .slice a2 l92 k2] 38));have hb2:=zaa (zaa (zca w (.cells #[.bool false, .slice none 0 0, .slice none 0 0] 38)) hb1) (zca w1 (.cells #[.bool t9, .slice a1 l91 k1, .slice a2 l92 k2] 38));have HR:=zH hr;obtain⟨_,d1,d2,d3,d4,d5,d6⟩:=hr);refine zab rfl rfl Tryz.aggF Tryz.sizeF (HR.o.set _ _ _) rfl ?_;exact⟨_,rfl,hv2.set3 HR.o zZ zZ _ _ _,zga hb2 (zLR _) _ _ _⟩
theorem lnumber_one (w:World):Calls Tryz.prog 218 #[.int .i64 1] w (RF1 w 1):=by
 go_enter Tryz.func218,Tryz.ntmps218;go_wp2_with (go_at_call 67;(with_reducible refine(make_11 _).mono ?_);rintro e w1 ⟨v,rfl,hv,hb1⟩;obtain⟨t9,a1,l91,k1,a2,l92,k2,rfl⟩:=hv.iF;have hr:=((C3.new w 38 (.bool false) (.slice none 0 0) (.slice none 0 0)).bS hb1).allocS (.cells #[.bool t9, .slice a1 l91 k1, .slice a2 l92 k2] 38);have hv2:=hv.bw (zca w1 (.cells #[.bool t9, .slice a1 l91 k1, .slice a2 l92 k2] 38));have hb2:=zaa (zaa (zca w (.cells #[.bool false, .slice none 0 0, .slice none 0 0] 38)) hb1) (zca w1 (.cells #[.bool t9, .slice a1 l91 k1, .slice a2 l92 k2] 38));have HR:=zH hr;obtain⟨_,d1,d2,d3,d4,d5,d6⟩:=hr);refine zab rfl rfl Tryz.aggF Tryz.sizeF (HR.o.set _ _ _) rfl ?_;exact⟨_,rfl,hv2.set3 HR.o zZ zZ _ _ _,zga hb2 (zLR _) _ _ _⟩
theorem lzero_any (v:Value) (s:Bool) (n d:Nat) (w:World) (h:zzb w v s n d):
 Calls Tryz.prog 220 #[v] w λ e w'=>e= .returned (.bool (decide (n=0)))/\Below w.heap.size w w':=by
 obtain⟨a,b,rfl,ha,hb⟩:=h;go_enter Tryz.func220,Tryz.ntmps220;go_wp2_with (go_at_call 156;refine(zbb _ n _ (ha.bw (zca _ _))).mono ?_;rintro e w' ⟨rfl,rfl⟩);go_ret;exact⟨by rw[<-beq_bits];rfl,zca _ _⟩
theorem zvk (v:Value) (q:Rat) (w:World) (h:zia w v q):
 Calls Tryz.prog 220 #[v] w λ e w'=>e= .returned (.bool (decide (q=0)))/\Below w.heap.size w w':=by
 refine(lzero_any v _ _ _ w h.raw).mono ?_;rintro e w' ⟨rfl,hb⟩;refine⟨?_,hb⟩;have :(q.num.natAbs=0)↔q=0:=⟨λ h=>Rat.num_eq_zero.1 zO,λ h=>by rw[h];rfl⟩;by_cases hq:q=0
 ·rw[zDT hq,zDT (this.2 hq)]
 ·rw[zDF hq,zDF (λ h=>hq (this.1 h))]
theorem ztj (p v:Value) (q:Rat) (w:World) (h:zia w v q):
 Calls Tryz.prog 206 #[p,v, .int .i64 0] w (RF1 w q):=by
 obtain⟨s,a1,l1,k1,a2,l2,k2,rfl⟩:=id h.iF;obtain⟨bx,bz,hbw⟩:=zsf w 38 (.bool s) (.slice a1 l1 k1) (.slice a2 l2 k2) (.bool false) (.slice none 0 0) (.slice none 0 0) _ rfl;have HF:=zH (h.bw hbw);have HZ:=zH bz;have HB:=zH hbw;obtain⟨_,x0,x1,x2,f0,f1,f2⟩:=bx;obtain⟨_,z0,z1,z2,g0,g1,g2⟩:=bz;clear h hbw;go_enter Tryz.func206,Tryz.ntmps206;go_upto_region 1 with fail;generalize (w.alloc (.cells #[.bool s, .slice a1 l1 k1, .slice a2 l2 k2] 38)).alloc (.cells #[.bool false, .slice none 0 0, .slice none 0 0] 38)=W at *
 go_wp2_with fail;refine zab rfl rfl Tryz.aggF Tryz.sizeF (HZ.o.set _ _ _) rfl ?_;exact⟨_,rfl,HF.o.set3 HZ.o zZ zZ _ _ _,zga HB.o zO _ _ _⟩
end Go.Proofs.YtlpdkbmmbdfoiaaGreat
namespace Go.Proofs.YtlpdkbmmbdfoiaaGreat
def zpl (A:Mx) (i r k e:Nat) (f:Rat):Mx:=λ a b=>if a=i/\k<=b/\b<e then A i b-f*A r b else A a b
theorem redTo_start (A:Mx) (i r k:Nat) (f:Rat):zpl A i r k k f=A:=by
 funext a b;unfold zpl;rw[zIN zO]
theorem redTo_at {A:Mx} {i r k e:Nat} {f:Rat}:zpl A i r k e f i e=A i e:=by unfold zpl;rw[zIN zO]
theorem redTo_row {A:Mx} {i r k e b:Nat} {f:Rat} (h:i≠r):zpl A i r k e f r b=A r b:=by unfold zpl;rw[zIN (λ h2=>h h2.1.symm)]
def zkj (below:Bool) (A:Mx) (r k e:Nat):Mx:=λ a b=>if a<e then zhj below A r k a b else A a b
theorem redP_zero (below:Bool) (A:Mx) (r k:Nat):zkj below A r k 0=A:=by
 funext a b;unfold zkj;rw[zIN zO]
theorem zco {below:Bool} {A:Mx} {r k e:Nat}:zkj below A r k e e=A e:=by
 funext b;unfold zkj;rw[zIN zO]
theorem znh {below:Bool} {A:Mx} {r k a:Nat} (h:¬act below A r k a):zhj below A r k a=A a:=by
 funext b;unfold zhj;rw[zIN (λ h2=>h h2.1)]
theorem zzm {below:Bool} {A:Mx} {r k e:Nat}:zkj below A r k e r=A r:=by
 funext b;unfold zkj;split
 ·rw[znh (λ h=>h.1 rfl)]
 ·rfl
theorem zkk {below:Bool} {A:Mx} {r k e:Nat} (h:¬act below A r k e):zkj below A r k (e+1)=zkj below A r k e:=by
 funext a b;unfold zkj
 by_cases h1:a=e
 ·subst h1;rw[zIP zO,zIN zO,znh h]
 ·by_cases h2:a<e
  ·rw[zIP zO,zIP h2]
  ·rw[zIN zO,zIN h2]
theorem redP_red {below:Bool} {A:Mx} {r k e m:Nat} (h:act below A r k e):∀a b,b<m->zpl (zkj below A r k e) e r k m (A e k/A r k) a b=zkj below A r k (e+1) a b:=by
 intro a b hb;unfold zpl;rw[zco,zzm];unfold zkj;by_cases h1:a=e
 ·subst h1;unfold zhj;by_cases h2:k<=b
  ·rw[zIP ⟨rfl,h2,hb⟩,zIP zO,zIP ⟨h,h2⟩]
  ·rw[zIN zO,zIN zO,zIP zO,zIN zO]
 ·rw[zIN zO];by_cases h2:a<e
  ·rw[zIP h2,zIP (show a<e+1 by omega)]
  ·rw[zIN h2,zIN (show ¬a<e+1 by omega)]
theorem redP_all {below:Bool} {A:Mx} {r k n:Nat}:∀a b,a<n->zkj below A r k n a b=zhj below A r k a b:=by
 intro a b h;unfold zkj;rw[zIP h]
def slimE (below:Bool) (n m wd:Nat) (A:Mx):Prop:=∀k,k<=wd->(∀a b,a<n->b<m->fits ((elim below n A k).A a b))/\fits (elim below n A k).d/\(k<wd->fitE below n m k (elim below n A k))
end Go.Proofs.YtlpdkbmmbdfoiaaGreat
