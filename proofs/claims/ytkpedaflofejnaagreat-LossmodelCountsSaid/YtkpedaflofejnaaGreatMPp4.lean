/- Lemmas. -/
import Derived.Test.YtkpedaflofejnaaGreatMLo16
set_option linter.unusedVariables false
set_option linter.unusedSimpArgs false
namespace Go.Proofs.YtkpedaflofejnaaGreat
open Go.RowKit
theorem cell_lt {w:World} {p:Addr} {x:Value} (h:w.cell? p=some x):p.block<w.heap.size:=by
 unfold World.cell? at h;split at h
 ·rename_i cur e fz hh
  exact(Array.getElem?_eq_some_iff.1 hh).1
 ·cases h
theorem TMv.set {bt:Nat} {w0 w:World} (h:TMv bt w0 w) {p:Addr} (hp:w0.heap.size<=p.block) (u:Value):TMv bt w0 (w.setCell p u):=by
 refine⟨by simpa [World.setCell]using h.size,λ g h1 h2=> ?_,λ q x hq hx=> ?_,λ q hq=> ?_,λ B h1 h2=>(h.bw B h1 h2).setCell zO u⟩
 ·rw[Below.heap_setCell _ _ _ _ zO];exact h.row g h1 h2
 ·have hl:=cell_lt hq;rw[zCO _ _ _ _ (by intro e;rw[e]at hp;omega)];exact h.cell q x hq hx
 ·rw[World.frozen?_setCell];exact h.frozen q hq
theorem zkb.set {w:World} {b a:Nat} {l:List Nat} (h:zkb w b l a) {p:Addr} {x:Value} (hp:p.block≠b) (hc:w.cell? p=some x) (hx:∀z,x≠ .int .u8 z) (u:Value):zkb (w.setCell p u) b l a:=(h.b.set hp hc hx u).1
theorem zkb.set3 {w:World} {b a c:Nat} {l:List Nat} {t:Bool} {a1 a2:Option Addr} {l1 k1 l2 k2:Nat} (h:zkb w b l a) (hC:C3 w c (.bool t) (.slice a1 l1 k1) (.slice a2 l2 k2)) (hp:c≠b) (u0 u1 u2:Value):
 zkb (((w.setCell ⟨c,0,none⟩ u0).setCell ⟨c,1,none⟩ u1).setCell ⟨c,2,none⟩ u2) b l a:=by
 obtain⟨_,c0,c1,c2,_,_,_⟩:=hC;have h1:=h.set (p:=⟨c,0,none⟩) hp c0 zZ u0;have h2:=h1.set (p:=⟨c,1,none⟩) hp (by rw[zCO _ _ _ _ (by simp)];exact c1) zZ u1;exact h2.set (p:=⟨c,2,none⟩) hp (by rw[zCO _ _ _ _ (by simp),zCO _ _ _ _ (by simp)];exact c2) zZ u2
def tfQ (q:Rat):Prop:=∃x y:Nat,x<6/\y<8/\q=fq false (x+1) (y+1)
theorem zzm (a b:Nat) (y z:Int) (w:World) (hy:y=(a:Int)) (hz:z=(b:Int)) (ha:a<4294967296) (hb:b<4294967296) (hb0:b≠0):
 Calls Tryz.prog 22 #[.int .i64 y, .int .i64 z] w (RF0 w (fq false a b)):=by subst hy;subst hz;exact zmi a b w ha hb hb0
theorem zyi (b:Nat) (l:List Nat) (a:Nat) (z:Int) (n:Nat) (w:World) (hz:z=(n:Int)) (h:zkb w b l a) (hn:1<=n) (hn2:n<=65536):
 Calls Tryz.prog 31 #[.pointer (some ⟨b,0,none⟩), .int .i64 z] w (λ e w'=>∃x a':Nat,e= .returned (.int .i64 (x:Nat))/\x<n/\zkb w' b l a'/\TMv b w w'):=by
 subst hz;refine(next_any b l a n w h hn hn2).mono ?_;rintro e w' ⟨x,a',rfl,h1,h2,h3⟩;exact⟨x,a',rfl,h1,h2,TMv.of_ticks h h3⟩
set_option maxRecDepth 100000 in
set_option maxHeartbeats 1600000 in
theorem zmh (bt a:Nat) (l:List Nat) (w:World) (hT:zkb w bt l a):
 Calls Tryz.prog 32 #[.pointer (some ⟨bt,0,none⟩)] w (λ e w'=>∃ (v:Value) (q:Rat) (a':Nat),e= .returned v/\zna w' v q/\tfQ q/\zkb w' bt l a'/\TMv bt w w'):=by
 have hba:=zba w (.cells #[.bool false, .slice none 0 0, .slice none 0 0] 53);have HT:=zH (C3.new w 53 (.bool false) (.slice none 0 0) (.slice none 0 0));have hT0:=hT.bw hba;have HM:=zH (TMv.of_below (bt:=bt) hba);have HLT:=zH hT.lt;clear hba hT;go_enter Tryz.func32,Tryz.ntmps32;go_upto_region 1 with fail;obtain⟨b2,hb2⟩:∃b,w.heap.size=b:=⟨_,rfl⟩;have HB2:=zH hb2;rw[hb2]at HT |-
 clear hb2;generalize w.alloc (.cells #[.bool false, .slice none 0 0, .slice none 0 0] 53)=W1 at *
 go_wp2_with (first
  |(go_at_call 31;(with_reducible refine(zyi bt l _ 6 6 _ rfl hT0 zD zD).mono ?_);rintro e3 w3 ⟨x,a3,rfl,hx,hT3,hm3⟩)
  |(go_at_call 31;(with_reducible refine(zyi bt l _ 8 8 _ rfl hT3 zD zD).mono ?_);rintro e4 w4 ⟨y,a4,rfl,hy,hT4,hm4⟩)
  |(go_at_call 22;(with_reducible refine(zzm (x+1) (y+1) _ _ _ zO zO zO zO zO).mono ?_);rintro e5 w5 ⟨v5,rfl,hv5,hb5⟩;obtain⟨t5,a51,l51,k51,a52,l52,k52,rfl⟩:=hv5.iF;have hba:=zba w5 (.cells #[.bool t5, .slice a51 l51 k51, .slice a52 l52 k52] 53);have hbb:=zaa hb5 hba;have hT5:=hT4.bw hbb;have HM5:=zH (((HM.o.trans hm3).trans hm4).trans (TMv.of_below hbb));have HC5:=zH ((((HT.o.tmv hm3 zZ zZ zZ).tmv hm4 zZ zZ zZ)).bS hbb);have HV5:=zH (hv5.bw hba);obtain⟨-,d0,d1,d2,f0,f1,f2⟩:=HC5.o;clear hv5 hb5 hba hbb))
 refine zab rfl rfl Tryz.aggF Tryz.sizeF (HC5.o.set _ _ _) rfl ?_;have hne:b2≠bt:=by have h1:=HLT.o;have h2:=HB2.o;omega
 have hle:w.heap.size<=b2:=by have h2:=HB2.o;omega
 exact⟨_,_,a4,rfl,HV5.o.set3 HC5.o zZ zZ _ _ _,⟨x,y,hx,hy,rfl⟩,hT5.set3 HC5.o hne _ _ _,((HM5.o.set hle _).set hle _).set hle _⟩
set_option maxHeartbeats 3200000
theorem zjn (va vb:Value) (p q:Rat) (w:World) (ha:zna w va p) (hb:zna w vb q) (hp:fits p) (hq:fits q) (hr:fits (p*q)):Calls Tryz.prog 58 #[va,vb] w (RF1 w (p*q)):=by
 obtain⟨t1,a11,l11,k11,a12,l12,k12,rfl⟩:=ha.iF;obtain⟨t2,a21,l21,k21,a22,l22,k22,rfl⟩:=hb.iF;obtain⟨hA,hB,hR,hbw⟩:=zle w 53 (.bool t1) (.slice a11 l11 k11) (.slice a12 l12 k12) (.bool t2) (.slice a21 l21 k21) (.slice a22 l22 k22) (.bool false) (.slice none 0 0) (.slice none 0 0) _ rfl;have HR:=zH hR;have HBW:=zH hbw;have HA:=zH (ha.bw hbw);have HB:=zH (hb.bw hbw);have HF:=zH (zAI hp (zAI hq hr));obtain⟨_,c0,c1,c2,_,_,_⟩:=id hA;obtain⟨_,d0,d1,d2,_,_,_⟩:=id hB;clear hA hB hR ha hb hr hbw hp hq;go_enter Tryz.func58,Tryz.ntmps58
 go_wp2_with (first
  |(go_at_call 26;(with_reducible refine(r2mul_can _ _ p q _ HA.o HB.o HF.o.1 HF.o.2.1 HF.o.2.2).mono ?_);rintro e3 w3 ⟨v3,rfl,hv3,hb3⟩;obtain⟨t3,a31,l31,k31,a32,l32,k32,rfl⟩:=hv3.iF;have hba:=zba w3 (.cells #[.bool t3, .slice a31 l31 k31, .slice a32 l32 k32] 53);have HR3:=zH (HR.o.bS (zaa hb3 hba));have HV3:=zH (hv3.bw hba);have HB3:=zH (zaa HBW.o (zaa hb3 hba));obtain⟨_,g0,g1,g2,g3,g4,g5⟩:=HR3.o;clear hv3 hb3 hba))
 refine zab rfl rfl Tryz.aggF Tryz.sizeF (HR3.o.set _ _ _) rfl ?_;exact⟨_,rfl,HV3.o.set3 HR3.o zZ zZ _ _ _,zea HB3.o (zLT (zLS _) (zLS _)) _ _ _⟩
theorem C4.other3 {w:World} {b:Nat} {v0 v1 v2 v3:Value} (h:C4 w b v0 v1 v2 v3) {b':Nat} (hne:b'≠b) (x y z:Value):C4 (((w.setCell ⟨b',0,none⟩ x).setCell ⟨b',1,none⟩ y).setCell ⟨b',2,none⟩ z) b v0 v1 v2 v3:=((h.other (p:=⟨b',0,none⟩) hne x).other (p:=⟨b',1,none⟩) hne y).other (p:=⟨b',2,none⟩) hne z
def LawD (w:World) (v:Value) (l:LQ):Prop:=∃ (nm:ByteArray) (s r e:Value),v= .agg #[.string nm,s,r,e]/\zpa w s l.start/\MatC w r l.rates/\zpa w e l.exit
theorem LawD.bw {w w':World} {v:Value} {l:LQ} (h:LawD w v l) (hb:Below w.heap.size w w'):LawD w' v l:=by
 obtain⟨nm,s,r,e,rfl,h1,h2,h3⟩:=h;exact⟨nm,s,r,e,rfl,h1.bw hb,h2.bw hb,h3.bw hb⟩
theorem LawD.lawC {w:World} {v:Value} {l:LQ} (h:LawD w v l):LawC w v l:=by
 obtain⟨nm,s,r,e,rfl,h1,h2,h3⟩:=h;exact⟨_,s,r,e,rfl,h1,h2,h3⟩
theorem LawD.toV {w:World} {v:Value} {l:LQ} (h:LawD w v l) (hl:LawP l):LawV w v l:=by
 obtain⟨nm,s,r,e,rfl,h1,h2,h3⟩:=h
 exact⟨nm,s,r,e,rfl,h1.toV λ q hq=>(hl.st q hq).fits,⟨h2.sl,h2.len,λ j hj=>by
  obtain⟨r,k1,k2⟩:=h2.at' j hj;exact⟨r,k1,k2.toV λ q hq=>((hl.row j hj).2.1 q hq).fits⟩⟩,h3.toV λ q hq=>(hl.ex q hq).fits⟩
set_option maxRecDepth 100000 in
theorem rchance_any (vlaw vc:Value) (l:LQ) (cs:List Nat) (w:World) (hlaw:LawD w vlaw l) (hlp:LawP l) (hc:zjb w vc cs) (hl:cs.length=l.start.length) (hsum:cs.sum<=8):
 Calls Tryz.prog 71 #[vlaw,vc] w (RF1 w (zaf (λ i=>l.start.getD i 0) cs 0 0 1)):=by
 obtain⟨nm,vS,vR,vE,rfl,hS,hR,hE⟩:=id hlaw;obtain⟨sa,sn,sk,rfl,_⟩:=id hS.sl;obtain⟨ra,rn,rk,rfl,_⟩:=id hR.sl;obtain⟨ea,en,ek,rfl,_⟩:=id hE.sl;have csl:=hc.sl;have cln:=hc.len;have hba:=zba w (.cells #[.string nm, .slice sa sn sk, .slice ra rn rk, .slice ea en ek] 30);have hbb:=zba (w.alloc (.cells #[.string nm, .slice sa sn sk, .slice ra rn rk, .slice ea en ek] 30)) (.cells #[.bool false, .slice none 0 0, .slice none 0 0] 53);have HT:=zH ((C4.new w 30 (.string nm) (.slice sa sn sk) (.slice ra rn rk) (.slice ea en ek)).bS hbb);have HR:=zH (C3.newB (b:=w.heap.size+1) (w.alloc (.cells #[.string nm, .slice sa sn sk, .slice ra rn rk, .slice ea en ek] 30)) 53 (.bool false) (.slice none 0 0) (.slice none 0 0) (by simp));have HBA:=zH (zaa hba hbb)
 have HSZ:zI (∀i,Sz 32 ((λ i=>l.start.getD i 0) i)):=zH (λ i=>by
  show Sz 32 (l.start.getD i 0)
  rcases zOG i l.start.length with h | h
  ·rw[zGD,zGE h];exact(hlp.st _ (zGM h)).sz
  ·rw[zGD,List.getElem?_eq_none h];exact⟨false,0,1,zD,zD,zD,by decide+kernel⟩)
 have hn4:cs.length<=4:=by rw[hl];exact hlp.n4
 obtain⟨n,hn⟩:∃n,cs.length=n:=⟨_,rfl⟩;have hsn:sn=n:=by have h:=hS.len;rw[<-hl,hn]at h;exact h
 subst hsn;have ssl:=hS.sl;rw[hn]at hl hn4 cln;have HC:=zH hc;have HS:=zH hS;have HL:=zH hl;have HN:=zH hn;have HSUM:=zH hsum;obtain⟨-,d0,d1,d2,d3,-,-,-,-⟩:=HT.o;clear hc hS hl hn hsum hba hlaw hR hE hlp hbb;go_enter Tryz.func71,Tryz.ntmps71
 go_upto_region 3 with(first
  |(go_at_call 23;(with_reducible refine(zif _).mono ?_);rintro e3 w3 ⟨v3,rfl,hv3,hb3⟩;obtain⟨t3,a31,l31,k31,a32,l32,k32,rfl⟩:=hv3.iF;have hbb:=zba w3 (.cells #[.bool t3, .slice a31 l31 k31, .slice a32 l32 k32] 53);have HP:=zH (C3.new w3 53 (.bool t3) (.slice a31 l31 k31) (.slice a32 l32 k32));have HV:=zH (hv3.bw hbb);have HB3:=zH (zaa HBA.o (zaa hb3 hbb));have HR3:=zH (HR.o.bS (zaa hb3 hbb));have HT3:=zH (HT.o.bS (zaa hb3 hbb));have HLT:zI (w.heap.size+1<w3.heap.size):=zH (zLM HR.o.lt hb3.size);clear hv3 hb3 hbb d0 d1 d2 d3))
 obtain⟨b5,hb5⟩:∃b,w3.heap.size=b:=⟨_,rfl⟩;rw[hb5]at HP HLT |-
 clear hb5;generalize w3.alloc (.cells #[.bool t3, .slice a31 l31 k31, .slice a32 l32 k32] 53)=W3 at *
 go_wp2_with fail;go_loopg [6,7] (sn) (λ g u6 u7 wr=>∃ (i d:Nat) (t:Bool) (a1:Option Addr) (l1 k1:Nat) (a2:Option Addr) (l2 k2:Nat),i<=sn/\g=sn-i/\u7= .int .i64 i/\u6= .int .i64 d/\d=(cs.take i).sum/\C3 wr b5 (.bool t) (.slice a1 l1 k1) (.slice a2 l2 k2)/\zna wr (.agg #[.bool t, .slice a1 l1 k1, .slice a2 l2 k2]) (zaf (λ i=>l.start.getD i 0) (cs.take i) 0 0 1)/\C3 wr (w.heap.size+1) (.bool false) (.slice none 0 0) (.slice none 0 0)/\C4 wr w.heap.size (.string nm) (.slice sa sn sk) (.slice ra rn rk) (.slice ea en ek)/\Below w.heap.size w wr);case atStart=>exact⟨0,0,_,_,_,_,_,_,_,zZL _,rfl,rfl,rfl,rfl,HP.o,HV.o,HR3.o,HT3.o,HB3.o⟩
 case round=>
  obtain⟨i,d,t,a1,l1,k1,a2,l2,k2,hin,hg,rfl,rfl,hd,hp,hv,hr,ht,hbr⟩:=hrel;obtain⟨wx,hwx⟩:∃w6,w6=wr:=⟨_,rfl⟩;subst hwx;have HG:=zH hg;have HPP:=zH hp;have HVV:=zH hv;have HRR:=zH hr;have HTT:=zH ht;have HBR:=zH hbr;have HD:=zH hd;have hd8:d<=8:=by rw[hd];exact zLT (zpg cs i) HSUM.o
  clear hg hp hv hr ht hbr hd HP HV HR3 HB3 HT3;by_cases hil:i<sn
  ·(have hic:i<cs.length:=by rw[HN.o];exact hil);have i1:(0:Int)<=(i:Int):=zO;have i2:(i:Int)<(sn:Nat):=zO;have cc:=HC.o.at' i hic;have HST:=zH (zwj hic)
   have HMS:zI (zaf (λ i=>l.start.getD i 0) (cs.take (i+1)) 0 0 1=zmj (l.start.getD i 0) d (cs[i]'hic) (zaf (λ i=>l.start.getD i 0) (cs.take i) 0 0 1)):=zH (by
    rw[List.take_succ_eq_append_getElem hic,zdl,Nat.zero_add,Nat.zero_add,<-HD.o];simp[Nat.min_eq_left (zLO hic)])
   have hdm:d+cs[i]'hic<=8:=by
    have h:=HST.o;rw[<-HD.o]at h;rw[<-h];exact zLT (zpg cs (i+1)) HSUM.o
   generalize cs[i]'hic=m at *
   have HCC:=zH cc;have HSI:zI (Sz 32 (l.start.getD i 0)):=zH (HSZ.o i)
   have HSP:zI (Sz (1+40*d) (zaf (λ i=>l.start.getD i 0) (cs.take i) 0 0 1)):=zH (by
    have h:=ztq HSZ.o (cs.take i) 0 0 1 1 Sz.one (by rw[<-HD.o];omega);rw[<-HD.o]at h;exact h)
   have HSA:=zH (HS.o.cellsAt (k:=i) (by rw[<-HL.o];exact hil));generalize l.start.getD i 0=s at *
   generalize zaf (λ i=>l.start.getD i 0) (cs.take i) 0 0 1=q at *
   clear hic cc;go_wp2_with fail;go_loopg [6,8] (m) (λ g u6 u8 wr=>∃ (k:Nat) (t:Bool) (a1:Option Addr) (l1 k1:Nat) (a2:Option Addr) (l2 k2:Nat),k<=m/\g=m-k/\u8= .int .i64 ((k+1:Nat):Int)/\u6= .int .i64 ((d+k:Nat):Int)/\C3 wr b5 (.bool t) (.slice a1 l1 k1) (.slice a2 l2 k2)/\zna wr (.agg #[.bool t, .slice a1 l1 k1, .slice a2 l2 k2]) (zmj s d k q)/\C3 wr (w.heap.size+1) (.bool false) (.slice none 0 0) (.slice none 0 0)/\C4 wr w.heap.size (.string nm) (.slice sa sn sk) (.slice ra rn rk) (.slice ea en ek)/\Below w.heap.size w wr);case atStart=>exact⟨0,_,_,_,_,_,_,_,zZL _,rfl,rfl,rfl,HPP.o,HVV.o,HRR.o,HTT.o,HBR.o⟩
   case round=>
    obtain⟨k,t',a1',l1',k1',a2',l2',k2',hkm,hg,rfl,rfl,hp,hv,hr,ht,hbr⟩:=hrel;obtain⟨wy,hwy⟩:∃w6,w6=wr:=⟨_,rfl⟩;subst hwy;have HG2:=zH hg;have HP2:=zH hp;have HV2:=zH hv;have HR2:=zH hr;have HT2:=zH ht;have HB2:=zH hbr;have cc:=zca hbr HCC.o;clear hg hp hv hr ht hbr;by_cases hkl:k<m
    ·have j1:decide (k+1<=m)=true:=zDT hkl;have HF1:zI (fits (fq false (d+(k+1)) (k+1)*s)):=zH (((Sz.choice (d:=d+(k+1)) (k:=k+1) zO zO zO).mul HSI.o).fits zO)
     have HF2:zI (fits (zmj s d k q*(fq false (d+(k+1)) (k+1)*s))):=zH (by
      rw[<-Rat.mul_assoc];exact(zyg HSI.o HSP.o (k+1) zO).fits zO)
     have HF0:zI (fits (zmj s d k q)):=zH ((zyg HSI.o HSP.o k zO).fits zO);have HFC:zI (fits (fq false (d+(k+1)) (k+1))):=zH ((Sz.choice (d:=d+(k+1)) (k:=k+1) zO zO zO).fits zD)
     go_upto_region 11 with(first
      |(go_at_call 22;(with_reducible refine(zzm (d+(k+1)) (k+1) _ _ _ zO zO zO zO zO).mono ?_);rintro e3 w3 ⟨v3,rfl,hv3,hb3⟩;obtain⟨t4,a41,l41,k41,a42,l42,k42,rfl⟩:=hv3.iF;have hbb:=zba w3 (.cells #[.bool t4, .slice a41 l41 k41, .slice a42 l42 k42] 53);have HC4:=zH (C3.new w3 53 (.bool t4) (.slice a41 l41 k41) (.slice a42 l42 k42));have HV4:=zH (hv3.bw hbb);have HP4:=zH (HP2.o.bS (zaa hb3 hbb));have HVP4:=zH (HV2.o.bw (zaa hb3 hbb));have HR4:=zH (HR2.o.bS (zaa hb3 hbb));have HT4:=zH (HT2.o.bS (zaa hb3 hbb));have HB4:=zH (zaa HB2.o (zaa hb3 hbb));clear hv3 hb3 hbb cc))
     obtain⟨b4,hb4⟩:∃b,w3.heap.size=b:=⟨_,rfl⟩;(rw[hb4]at HC4 |-);clear hb4;generalize w3.alloc (.cells #[.bool t4, .slice a41 l41 k41, .slice a42 l42 k42] 53)=W4 at *
     obtain⟨ts,sa1,sl1,sk1,sa2,sl2,sk2,z0,z1,z2,hsv⟩:=HSA.o;replace z0:=zca HB4.o z0;replace z1:=zca HB4.o z1;replace z2:=zca HB4.o z2;have HSV:=zH (hsv.bw HB4.o);obtain⟨-,p0,p1,p2,-,-,-⟩:=HP4.o;obtain⟨-,c0,c1,c2,-,-,-⟩:=HC4.o;obtain⟨-,-,d1,-,-,-,-,-,-⟩:=HT4.o;clear hsv;refine wpL.st10 9 p0 p1 p2 c0 c1 c2 d1 z0 z1 z2 (λ wd hbD hHeld=> ?_);have HPD:=zH (HP4.o.bS hbD);have HVD:=zH (HVP4.o.bw hbD);have HCD:=zH (HV4.o.bw hbD);have HSD:=zH (HSV.o.bw hbD);have HRD:=zH (HR4.o.bS hbD);have HTD:=zH (HT4.o.bS hbD);have HBD:=zH (zaa HB4.o hbD);clear p0 p1 p2 c0 c1 c2 d1 z0 z1 z2 hbD;refine zY 0 ?_;refine zY 1 ?_;refine zU 2 ?_;refine zY 3 ?_;refine zU 4 ?_;refine zU 5 ?_;refine zY 6 ?_;(refine zCF 7 58 #[.agg #[.bool t4, .slice a41 l41 k41, .slice a42 l42 k42], .agg #[.bool ts, .slice sa1 sl1 sk1, .slice sa2 sl2 sk2]] (zjn _ _ _ _ _ HCD.o HSD.o HFC.o (HSI.o.fits zD) HF1.o) λ t5 a51 l51 k51 a52 l52 k52 w5 hv5 hb5=>⟨kcl10 hb5 hHeld,λ hH5=> ?_⟩);have HVE:=zH (HVD.o.bw hb5);have HPE:=zH (HPD.o.bS hb5);have HRE:=zH (HRD.o.bS hb5);have HTE:=zH (HTD.o.bS hb5);have HBE:=zH (zaa HBD.o hb5);clear hHeld HPD HVD HCD HSD HRD HBD HTD;(refine zCF 8 58 #[.agg #[.bool t', .slice a1' l1' k1', .slice a2' l2' k2'], .agg #[.bool t5, .slice a51 l51 k51, .slice a52 l52 k52]] (zjn _ _ _ _ _ HVE.o hv5 HF0.o HF1.o HF2.o) λ t6 a61 l61 k61 a62 l62 k62 w6 hv6 hb6=>⟨kcl10 hb6 hH5,λ hH6=> ?_⟩);have HPF:=zH (HPE.o.bS hb6);have HRF:=zH (HRE.o.bS hb6);have HTF:=zH (HTE.o.bS hb6);have HBF:=zH (zaa HBE.o hb6);rw[<-Rat.mul_assoc]at hv6;have HV6:=zH hv6;clear hH5 HPE HRE HBE HVE HTE hv5 hb5 hv6 hb6;obtain⟨-,g0,g1,g2,k3,k4,k5⟩:=HPF.o;(refine zW 9 ?_;intro K hK);rw[zIP (by rfl)];go_simp;have HE:=zH (zAI (HPF.o.set (.bool t6) (.slice a61 l61 k61) (.slice a62 l62 k62)) (zAI (HV6.o.set3 HPF.o zZ zZ (.bool t6) (.slice a61 l61 k61) (.slice a62 l62 k62)) (zAI (HRF.o.set_other (Nat.ne_of_lt HLT.o) (.bool t6) (.slice a61 l61 k61) (.slice a62 l62 k62)) (zAI (HTF.o.other3 (show b5≠w.heap.size by have:=HLT.o;omega) (.bool t6) (.slice a61 l61 k61) (.slice a62 l62 k62)) (zea HBF.o (show w.heap.size<=b5 by have:=HLT.o;omega) (.bool t6) (.slice a61 l61 k61) (.slice a62 l62 k62))))));refine hK.o _ _ (λ h=>by first | cases h | simp at h) ?_;clear hK K hH6 g0 g1 g2 k3 k4 k5;refine wpL.done (by kernel_rfl) ?_ _;go_wp2_with fail;go_roundg (m- (k+1));(case measure=>(have:=HG2.o;omega));case rel=>exact⟨k+1,_,_,_,_,_,_,_,zO,rfl,by go_num,by go_num,HE.o.1,HE.o.2.1,HE.o.2.2.1,HE.o.2.2.2.1,HE.o.2.2.2.2⟩
    ·obtain rfl:k=m:=zO;have j1:decide (k+1<=k)=false:=zDF zO;go_wp2_with fail;go_roundg (sn- (i+1));(case measure=>(have:=HG.o;omega));case rel=>exact⟨i+1,d+k,_,_,_,_,_,_,_,zO,rfl,by go_num,rfl,by rw[HST.o,<-HD.o],HP2.o,by rw[HMS.o];exact HV2.o,HR2.o,HT2.o,HB2.o⟩
  ·obtain rfl:i=sn:=zO;have hall:cs.take i=cs:=zTL (by rw[HN.o];exact zLR _);have HV7:zI (zna wx (.agg #[.bool t, .slice a1 l1 k1, .slice a2 l2 k2]) (zaf (λ i=>l.start.getD i 0) cs 0 0 1)):=zH (by have h:=HVV.o;rw[hall]at h;exact h);obtain⟨-,p0,p1,p2,-,-,-⟩:=HPP.o;obtain⟨-,g0,g1,g2,k3,k4,k5⟩:=HRR.o;clear hall;go_wp2_with fail;refine zab rfl rfl Tryz.aggF Tryz.sizeF (HRR.o.set _ _ _) rfl ?_;exact⟨_,rfl,HV7.o.set3 HRR.o zZ zZ _ _ _,zea HBR.o (zLS _) _ _ _⟩
structure zhh (w:World) (B hi:Nat) (vs vl vr:Value) (rs:List Value) (n:Nat) (s:Nat->Rat) (f:Mx):Prop where
 law:zvi w B vs (.slice none 0 0) vr rs (zch n s) [] (zhi n f)
 lost:zib w 4 B vl ((zvg n).map Value.bool)
 hh:hi<=w.heap.size
 hr:∀ (j:Nat) (h:j<rs.length) (k:Nat),rs[j].ownBlock=some k->k<hi
 hs:∀k:Nat,vs.ownBlock=some k->k<hi
section
variable {w w':World} {B hi n:Nat} {vs vl vr:Value} {rs:List Value} {s s':Nat->Rat} {f g:Mx}
theorem zhh.bw (h:zhh w B hi vs vl vr rs n s f) (hb:Below w.heap.size w w'):zhh w' B hi vs vl vr rs n s f:=⟨h.law.bw hb,h.lost.bw hb,zLT h.hh hb.size,h.hr,h.hs⟩
theorem zhh.congr (h:zhh w B hi vs vl vr rs n s f) (h1:∀i,i<n->s i=s' i) (h2:∀i j,i<n->j<n->f i j=g i j):zhh w B hi vs vl vr rs n s' g:=by
 refine⟨?_,h.lost,h.hh,h.hr,h.hs⟩;have h3:=h.law;rw[zeg h1,zuk h2]at h3;exact h3
theorem zhh.rsl (h:zhh w B hi vs vl vr rs n s f):rs.length=n:=by
 have h1:=zvi.rl h.law;rw[zsd]at h1;exact h1
theorem zhh.sz (h:zhh w B hi vs vl vr rs n s f):B<=w.heap.size:=h.law.sz
theorem zhh.putS (h:zhh w B hi vs vl vr rs n s f) {i:Nat} (hi':i<n) (hs:∀k,k<n->k≠i->s k=s' k) {x y z:Value} (hf:zna w (.agg #[x,y,z]) (s' i)):
 zhh (((w.setCell (ptr vs (i*3)) x).setCell (ptr vs (i*3+1)) y).setCell (ptr vs (i*3+2)) z) B hi vs vl vr rs n s' f/\Below B w (((w.setCell (ptr vs (i*3)) x).setCell (ptr vs (i*3+1)) y).setCell (ptr vs (i*3+2)) z)/\zya hi w (((w.setCell (ptr vs (i*3)) x).setCell (ptr vs (i*3+1)) y).setCell (ptr vs (i*3+2)) z):=by
 have hi2:i<(zch n s).length:=by rw[zwa];exact hi'
 have h1:=zvi.putS h.law (i:=i) hi2 hf;rw[zhn hs]at h1;obtain⟨_,hg⟩:=h.law.s.put hi2 hf;exact⟨⟨h1.1,h.lost.grown hg (h.law.s.kindE h.lost zD),zLT h.hh hg.size,h.hr,h.hs⟩,h1.2,zsg hg h.hs h.law.s.noLimb⟩
theorem zhh.putR (h:zhh w B hi vs vl vr rs n s f) {i j:Nat} (hi':i<rs.length) (hj:j<n) (hs:∀r c,r<n->c<n->¬ (r=i/\c=j)->f r c=g r c) {x y z:Value} (hf:zna w (.agg #[x,y,z]) (g i j)):
 zhh (((w.setCell (ptr rs[i] (j*3)) x).setCell (ptr rs[i] (j*3+1)) y).setCell (ptr rs[i] (j*3+2)) z) B hi vs vl vr rs n s g/\Below B w (((w.setCell (ptr rs[i] (j*3)) x).setCell (ptr rs[i] (j*3+1)) y).setCell (ptr rs[i] (j*3+2)) z)/\zya hi w (((w.setCell (ptr rs[i] (j*3)) x).setCell (ptr rs[i] (j*3+1)) y).setCell (ptr rs[i] (j*3+2)) z):=by
 have hn:=h.rsl;have hi2:i<(zhi n f).length:=by rw[zsd,<-hn];exact hi'
 have hj2:j<(zhi n f)[i].length:=by rw[zxe,zwa];exact hj
 have h1:=zvi.putR h.law (j:=j) hi' hi2 hj2 hf;rw[tabL_put (by rw[<-hn];exact hi') hj hs hi2]at h1;have hrow:=h.law.rows i hi' hi2;obtain⟨_,hg⟩:=hrow.put hj2 hf;exact⟨⟨h1.1,h.lost.grown hg (hrow.kindE h.lost zD),zLT h.hh hg.size,h.hr,h.hs⟩,h1.2,zsg hg (h.hr i hi') hrow.noLimb⟩
theorem zhh.row (h:zhh w B hi vs vl vr rs n s f) {i:Nat} (hi':i<rs.length):zra w 53 B rs[i] (zch n (f i)):=by
 have h1:=h.law.rows i hi' (by rw[zsd,<-h.rsl];exact hi');rw[zxe]at h1;exact h1
theorem zhh.chain (h:zhh w B hi vs vl vr rs n s f):zkc w (.agg #[vr,vs,vl]) ⟨zhi n f,zch n s,zvg n⟩:=
 ⟨vr,vs,vl,rfl,⟨h.law.ra.sl,by rw[h.law.ra.len];exact h.law.rl,λ j hj=>by
  have hj2:j<rs.length:=by rw[h.law.rl];exact hj
  exact⟨rs[j],h.law.ra.cell j hj2,(h.law.rows j hj2 hj).fracs⟩⟩,h.law.s.fracs,⟨h.lost.sl,by rw[h.lost.len],λ j hj=>h.lost.cell j hj⟩⟩
end
set_option maxRecDepth 100000 in
set_option maxHeartbeats 6400000 in
theorem radd23_any (B n fr j hi:Nat) (fi ji:Int) (vs vl vr vx:Value) (rs:List Value) (s:Nat->Rat) (f g:Mx) (x:Rat) (w:World) (hB:zhh w B hi vs vl vr rs n s f)
 (hx:zna w vx x) (hfr:fr<n) (hjn:j<n) (hn2:n<=200) (hfi:fi=(fr:Nat)) (hji:ji=(j:Nat)) (hne:fr≠j) (h1:fits (f fr j)) (hx1:fits x) (h2:fits (f fr j+x)) (hg1:∀r c,r<n->c<n->¬ (r=fr/\c=j)->f r c=g r c) (hg2:g fr j=f fr j+x):
 Calls Tryz.prog 59 #[.agg #[vr,vs,vl], .int .i64 fi, .int .i64 ji,vx] w (λ e w'=>e= .returned (.tuple #[])/\zhh w' B hi vs vl vr rs n s g/\Below B w w'/\zya hi w w'):=by
 subst hfi;subst hji;obtain⟨t0,a1,l1,k1,a2,l2,k2,rfl⟩:=hx.iF;obtain⟨bw1,bw2,bw3,rfl,_⟩:=id hB.law.ra.sl;obtain⟨bs1,bs2,bs3,rfl,_⟩:=id hB.law.s.sl;obtain⟨bl1,bl2,bl3,rfl,_⟩:=id hB.lost.sl;have hba:=zba w (.cells #[.slice bw1 bw2 bw3, .slice bs1 bs2 bs3, .slice bl1 bl2 bl3] 34);have hbb:=zba (w.alloc (.cells #[.slice bw1 bw2 bw3, .slice bs1 bs2 bs3, .slice bl1 bl2 bl3] 34)) (.cells #[.bool t0, .slice a1 l1 k1, .slice a2 l2 k2] 53);have hbw:=zaa hba hbb;have hrsn:rs.length=n:=hB.rsl;have hfr2:fr<rs.length:=by rw[hrsn];exact hfr
 have HCH:=zH ((C3.new w 34 (.slice bw1 bw2 bw3) (.slice bs1 bs2 bs3) (.slice bl1 bl2 bl3)).bS hbb);have HX:=zH (C3.newB (b:=w.heap.size+1) (w.alloc (.cells #[.slice bw1 bw2 bw3, .slice bs1 bs2 bs3, .slice bl1 bl2 bl3] 34)) 53 (.bool t0) (.slice a1 l1 k1) (.slice a2 l2 k2) (by simp));have HC5:=zH (hB.bw hbw);have HXV:=zH (hx.bw hbw);have HBW:=zH hbw;have HF:=zH (zAI h1 (zAI hx1 (zAI h2 (zAI hg1 hg2))));have HSZ:=zH hB.sz;have e1:((fr:Int)==(j:Int))=false:=by simp;omega
 have vrln:bw2=n:=by have h:=hB.law.ra.len;rw[hrsn]at h;exact h
 subst vrln;clear hB hx hba hbb h1 hx1 h2 hg1 hg2 hbw;go_enter Tryz.func59,Tryz.ntmps59;go_upto_region 2 with fail;generalize (w.alloc (.cells #[.slice bw1 bw2 bw3, .slice bs1 bs2 bs3, .slice bl1 bl2 bl3] 34)).alloc (.cells #[.bool t0, .slice a1 l1 k1, .slice a2 l2 k2] 53)=W1 at *
 have hjR:j<(zch bw2 (f fr)).length:=by rw[zwa];exact hjn
 have hrow:=HC5.o.row hfr2;have cr:=HC5.o.law.ra.cell fr hfr2;have HRG:zI (∀wq gq,zhh wq B hi (.slice bs1 bs2 bs3) (.slice bl1 bl2 bl3) (.slice bw1 bw2 bw3) rs bw2 s gq->zra wq 53 B (rs[fr]'hfr2) (zch bw2 (gq fr))):=zH (λ wq gq h=>h.row hfr2);have HPUT:zI (∀ (wq:World) (x y z:Value),zhh wq B hi (.slice bs1 bs2 bs3) (.slice bl1 bl2 bl3) (.slice bw1 bw2 bw3) rs bw2 s f->zna wq (.agg #[x,y,z]) (g fr j)->zhh (((wq.setCell (ptr (rs[fr]'hfr2) (j*3)) x).setCell (ptr (rs[fr]'hfr2) (j*3+1)) y).setCell (ptr (rs[fr]'hfr2) (j*3+2)) z) B hi (.slice bs1 bs2 bs3) (.slice bl1 bl2 bl3) (.slice bw1 bw2 bw3) rs bw2 s g/\Below B wq (((wq.setCell (ptr (rs[fr]'hfr2) (j*3)) x).setCell (ptr (rs[fr]'hfr2) (j*3+1)) y).setCell (ptr (rs[fr]'hfr2) (j*3+2)) z)/\zya hi wq (((wq.setCell (ptr (rs[fr]'hfr2) (j*3)) x).setCell (ptr (rs[fr]'hfr2) (j*3+1)) y).setCell (ptr (rs[fr]'hfr2) (j*3+2)) z)):=zH (λ wq x y z h1 h2=>h1.putR hfr2 hjn HF.o.2.2.2.1 h2);generalize rs[fr]'hfr2=rv at *
 obtain⟨y0,z0,y1,y2,y3,y4,f0,f1,f2,slo,n01,n02,n12⟩:=hrow.prep hjR
 have hfc:zna W1 (.agg #[.bool y0,z0,y1]) (f fr j):=by
  obtain⟨a,b',e1,e2,e3,e4,e5⟩:=hrow.fracs.at' j hjR;rw[e1]at y2;rw[e2]at y3;rw[e3]at y4;injection y2 with y2;injection y3 with y3;injection y4 with y4
  rw[zak]at y2 e4 e5;exact⟨z0,y1,by rw[<-y2],by rw[<-y3];exact e4,by rw[<-y4];exact e5⟩
 have hzz:zlb z0/\zlb y1:=by
  obtain⟨a,b',e1,e2,e3,e4,e5⟩:=hrow.fracs.at' j hjR;rw[e2]at y3;rw[e3]at y4;injection y3 with y3;injection y4 with y4
  exact⟨by rw[<-y3];exact e4.v.sl,by rw[<-y4];exact e5.v.sl⟩
 obtain⟨⟨z1,z2,z3,rfl,_⟩,⟨w1,w2,w3,rfl,_⟩⟩:=hzz;have rln:slen rv=bw2:=by rw[hrow.fracs.len,zwa]
 have vrsl:=HC5.o.law.ra.sl;have HFC:=zH hfc;have HJR:=zH hjR;obtain⟨rw1,rw2,rw3,rfl,_⟩:=id slo;obtain rfl:bw2=rw2:=rln.symm;obtain⟨-,q0,-,-,-,-,-⟩:=HCH.o;obtain⟨-,x0,x1,x2,-,-,-⟩:=HX.o;clear hfc hrow hjR HCH HX f0 f1 f2 n01 n02 n12;refine wpL.st8 20 q0 cr y2 y3 y4 x0 x1 x2 (λ wd hbD hHeld=> ?_);have HFD:=zH (HFC.o.bw hbD);have HXD:=zH (HXV.o.bw hbD);have HCD:=zH (HC5.o.bw hbD);have HBD:=zH (zaa HBW.o hbD);clear q0 cr y2 y3 y4 x0 x1 x2 hbD HC5 HFC HXV HBW;refine zU 0 ?_;refine zY 1 ?_;refine zU 2 ?_;refine zU 3 ?_;refine zY 4 ?_;refine zU 5 ?_;refine zU 6 ?_;refine zY 7 ?_;refine zU 8 ?_;refine zU 9 ?_;refine zY 10 ?_;refine zU 11 ?_;refine zU 12 ?_;refine zY 13 ?_;refine zY 14 ?_;refine zCG 15 28 #[.agg #[.bool y0, .slice z1 z2 z3, .slice w1 w2 w3], .agg #[.bool t0, .slice a1 l1 k1, .slice a2 l2 k2]] (r2add_can _ _ _ _ _ HFD.o HXD.o HF.o.1 HF.o.2.1 HF.o.2.2.1) λ t7 a71 l71 k71 a72 l72 k72 w7 hv7 hb7=>⟨kcl8 hb7 hHeld,λ hH7=> ?_⟩
 rw[<-HF.o.2.2.2.2]at hv7;have HV7:=zH hv7;have HC7:=zH (HCD.o.bw hb7);have HB7:=zH (zaa HBD.o hb7);obtain⟨u0,v0,u1,u2,u3,u4,f0,f1,f2,-,n01,n02,n12⟩:=(HRG.o _ _ HC7.o).prep HJR.o;have HP:=zH (HPUT.o w7 (.bool t7) (.slice a71 l71 k71) (.slice a72 l72 k72) HC7.o HV7.o);clear hHeld hv7 hb7 HFD HXD HCD HBD;refine zU 16 ?_;refine zU 17 ?_;refine zU 18 ?_;refine zU 19 ?_;(refine zW 20 ?_;intro K hK);rw[zIP (by rfl)];go_simp;refine hK.o _ _ (λ h=>by first | cases h | simp at h) ?_;clear hK K hH7 u2 u3 u4 f0 f1 f2 n01 n02 n12;refine wpL.done (by kernel_rfl) ?_ _;go_wp2_with fail;go_end0;exact⟨rfl,HP.o.1,(HB7.o.mono HSZ.o).trans HP.o.2.1,(zya.bw HB7.o).trans HP.o.2.2⟩
theorem step_app_R {P:Program} {ops:Array Oper} {o:Oper} {a:Act} {w:World} {K:Act->World->Prop} {Q:Exit->Act->World->Prop} {E:Prop} (hgd:o.guard=none) (s x:Operand) (t:TypeId)
 (ho:o.op= .call { callee:= .builtin .append,args:=#[s,x],argTypes:=#[t,t] })
 (B:Nat) (e:TypeId) (i:TypeInfo) (z:Value) (size bytes:Nat) (ht:P.underlying t=some (.slice e)) (hi:P.info? e=some i) (hz:i.zero=some z)
 (hsize:i.size=size) (hby:i.bytes=bytes) (hzs:z.cells.size=size) (hsz:0<size) (hnz:∀c∈z.cells.toList,∀z,c≠ .int .u32 z)
 (v:Value) (n:Nat) (xs:List Value) (hs:a.eval s=v) (hown:zbc w e B size v n xs) (news:List Value) (hns:news.length=size) (ad:Addr) (hxe:a.eval x= .slice (some ad) 1 1)
 (hnews:∀j u,news[j]? =some u->w.cell? (ad.add j)=some u) (h1:∀u∈news,u.oneCell'=true) (hnn:∀c∈news,∀z,c≠ .int .u32 z)
 (h63:n+1<=maxLen) (hbytes:(n+1)*bytes<=140737488355328) (hbase:B<=w.heap.size)
 (h:∀v' w',zbc w' e B size v' (n+1) (xs++news)->w.grownBy w' v.ownBlock->K (a.put o.dst v') w'):
 if Region.wanted o (yielded ops a.tmps)=true then Oper.wp P o a w K Q else E:=by
 rw[zIP (by simp[Region.wanted,hgd])];obtain⟨v',w',hr,h2,h3,h4,h5⟩:=zqe (P:=P) w B t o.type e i z size bytes ht hi hz hsize hby hzs hsz v n xs hown.own ad 1 1 news (by simp[hns]) hnews h1 h63 hbytes hbase hown.nl hnn hnz;unfold Oper.wp execOp;simp only[ho,resolve,invoke,builtin,Sem.run_bind,Sem.run_pure,Result.andThen_ok,List.map_toArray,List.map_cons,List.map_nil,hs,hxe,hr];exact h v' w' ⟨h2,h5⟩ h3
theorem step_app_one {P:Program} (t e:TypeId) (i:TypeInfo) (z:Value) (bytes:Nat) (ht:P.underlying t=some (.slice e)) (hi:P.info? e=some i) (hz:i.zero=some z) (hsize:i.size=1) (hby:i.bytes=bytes) (hby2:bytes<=64) (hzc:z.cells=#[z]) (hzn:∀k,z≠ .int .u32 k)
 {ops:Array Oper} {o:Oper} {a:Act} {w:World} {K:Act->World->Prop} {Q:Exit->Act->World->Prop} {E:Prop} (hgd:o.guard=none) (s x:Operand)
 (ho:o.op= .call { callee:= .builtin .append,args:=#[s,x],argTypes:=#[t,t] }) (B:Nat) (v:Value) (xs:List Value) (hs:a.eval s=v) (hown:zbc w e B 1 v xs.length xs) (y:Value) (hy1:y.oneCell'=true) (hyn:∀k,y≠ .int .u32 k) (g:Nat) (hxe:a.eval x= .slice (some ⟨g,0,none⟩) 1 1)
 (hc:w.cell? ⟨g,0,none⟩=some y) (hn:xs.length<=1000) (hbase:B<=w.heap.size)
 (h:∀v' w',zbc w' e B 1 v' (xs++ [y]).length (xs++ [y])->w.grownBy w' v.ownBlock->K (a.put o.dst v') w'):
 if Region.wanted o (yielded ops a.tmps)=true then Oper.wp P o a w K Q else E:=by
 refine step_app_R hgd s x t ho B e i z 1 bytes ht hi hz hsize hby (by rw[hzc];rfl) zD (λ d hd=>by rw[hzc]at hd;simp at hd;subst hd;exact hzn) v _ _ hs hown [y] rfl ⟨g,0,none⟩ hxe (λ j u hu=>by
  have hj:=(List.getElem?_eq_some_iff.1 hu).1;have :j=0:=by simp at hj;omega
  subst this;simp at hu;subst hu;exact hc) (λ u hu=>by simp at hu;subst hu;exact hy1) (λ c hc z=>by simp at hc;subst hc;exact hyn z) (by simp[maxLen];omega) (by have :(xs.length+1)*bytes<=1001*64:=zMM zO hby2;omega) hbase ?_
 intro v' w' k1 k2;refine h v' w' ?_ k2;rw[zLA];exact k1
end Go.Proofs.YtkpedaflofejnaaGreat
namespace Go.Proofs.YtkpedaflofejnaaGreat
section
variable {n:Nat} {q:Rat}
theorem limQ_zero :zdh 0:=⟨Rat.le_refl,zD,zD⟩
end
end Go.Proofs.YtkpedaflofejnaaGreat
