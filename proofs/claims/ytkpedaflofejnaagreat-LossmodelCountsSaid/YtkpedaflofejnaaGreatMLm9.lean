/- Lemmas. -/
import Derived.Test.YtkpedaflofejnaaGreatMLm8
import Derived.Test.YtkpedaflofejnaaGreatMLo26
set_option linter.unusedVariables false
set_option linter.unusedSimpArgs false
namespace Go.Proofs.YtkpedaflofejnaaGreat
open Go.RowKit
theorem results_tmp6 {fn:Func} {t1 t2 t3 t4 t5 t6:Tmp} (h:fn.results=#[.tmp t1, .tmp t2, .tmp t3, .tmp t4, .tmp t5, .tmp t6]) (tmps:Array Value) (P:Program) (w:World):
 (results fn tmps).run P w= .ok (.tuple #[tmps.getD t1 undef,tmps.getD t2 undef,tmps.getD t3 undef,tmps.getD t4 undef,tmps.getD t5 undef,tmps.getD t6 undef]) w:=by
 simp[results,h]
structure GrpT (n:Nat) (gs:List (List Nat)):Prop where
 few:gs.length<=3
 ne:∀g∈gs,g≠ []
 lt:∀g∈gs,∀x∈g,x<n
 up:∀g∈gs,g.Pairwise (· < ·)
def RRead (w0:World) (e:Ending) (w:World):Prop:=
 ∃ (k m:Nat) (vl:Value) (cs:List Value) (ls:List LQ) (vr:Value) (rl:List Rat) (vg:Value) (rg:List Value) (gs:List (List Nat)) (vs:Value) (sl:List Rat) (B1 B2 B3 B4:Nat),
  e= .returned (.tuple #[vl, .int .i64 (k:Nat), .int .i64 (m:Nat),vr,vg,vs])/\1<=k/\k<=2/\m<=2/\znj w B2 B1 vl cs ls/\ls.length=k+m/\(∀l∈ls,zvj 2 l)/\zra w 53 B4 vr rl/\rl.length=max m 1/\(∀x∈rl,tfQ x)/\zfc w B3 vg rg gs/\zra w 53 B3 vs sl/\gs.length=sl.length/\GrpT (k+m) gs/\(∀x∈sl,tfQ x)/\Below w0.heap.size w0 w
theorem zum.slc {w:World} {v:Value} {l:LQ} (h:zum w v l):∃sa sn sk ra rn rk ea en ek,v= .agg #[.string { data:=#[] }, .slice sa sn sk, .slice ra rn rk, .slice ea en ek]:=by
 obtain⟨sv,rv,ev,rfl,hs,hr,he⟩:=h;obtain⟨ra,rn,rk,rfl,_⟩:=id hr.sl;obtain⟨sa,sn,sk,rfl,_⟩:=id hs.sl;obtain⟨ea,en,ek,rfl,_⟩:=id he.sl;exact⟨sa,sn,sk,ra,rn,rk,ea,en,ek,rfl⟩
theorem zra.grownX {w w':World} {e e':TypeId} {B B' size n:Nat} {v u:Value} {q:List Rat} {xs:List Value} (h:zra w e B v q) (hu:zbc w e' B' size u n xs) (he:e≠e') (hg:w.grownBy w' u.ownBlock):zra w' e B v q:=by
 obtain⟨ys,y1,y2⟩:=id h;exact h.grown hg hu.nl (y1.kinds hu he)
theorem zfc.grownFr {w w':World} {B B':Nat} {v u:Value} {q:List Rat} {rs:List Value} {L:List (List Nat)} (h:zfc w B v rs L) (hu:zra w 53 B' u q) (hg:w.grownBy w' u.ownBlock):zfc w' B v rs L:=by
 obtain⟨ys,y1,y2⟩:=id hu;exact h.grownK y1 zD zD hg
theorem zyp (b:Nat) (l:List Nat) (a n:Nat) (z:Int) (w:World) (hz:z=(n:Nat)) (h:zkb w b l a) (hn:1<=n) (hn2:n<=65536):
 Calls Tryz.prog 31 #[.pointer (some ⟨b,0,none⟩), .int .i64 z] w (λ e w'=>∃x a':Nat,e= .returned (.int .i64 (x:Nat))/\x<n/\zkb w' b l a'/\TMv b w w'):=zyi b l a z n w hz h hn hn2
theorem tlaw_2 (bt a:Nat) (l:List Nat) (w:World) (hT:zkb w bt l a):Calls Tryz.prog 73 #[.pointer (some ⟨bt,0,none⟩), .int .i64 2] w (RTLaw w bt l 2):=tlaw_any bt a l 2 w hT zD zD
set_option maxRecDepth 100000 in
set_option maxHeartbeats 12800000 in
theorem read_alike (v:Value) (lb:List Nat) (w:World) (hv:zta w v (bytes lb)) (hb:∀x∈lb,x<256):Calls Tryz.prog 18 #[v, .bool true] w (RRead w):=by
 obtain⟨i1,hi1,hz1,hs1,hy1⟩:=info_parts Tryz.infoF;obtain⟨i2,hi2,hz2,hs2,hy2⟩:=info_parts Tryz.infoLaw;obtain⟨i3,hi3,hz3,hs3,hy3⟩:=info_parts Tryz.infoInt;obtain⟨i4,hi4,hz4,hs4,hy4⟩:=info_parts Tryz.infoInts;have hAL:=append1_law (P:=Tryz.prog) 22 30 i2 Tryz.underlying22 hi2 hz2 hs2 hy2;have hAI:=zti (P:=Tryz.prog) 31 3 i3 Tryz.underlying31 hi3 hz3 hs3 hy3;have hAF:=zui (P:=Tryz.prog) 23 53 i1 Tryz.underlying23 hi1 hz1 hs1 hy1;clear hi1 hz1 hs1 hy1 hi2 hz2 hs2 hy2 hi3 hz3 hs3 hy3;obtain⟨l,hl⟩:∃l,lb.take 400=l:=⟨_,rfl⟩;have HN:zI (Calls Tryz.prog 30 #[v] w (RTape w l)):=zH (by rw[<-hl];exact new_any v lb w hv hb);clear hv hl hb;go_enter Tryz.func18,Tryz.ntmps18
 go_upto_region 5 with(first
  |(go_at_call 30;(with_reducible refine HN.o.mono ?_);rintro e1 w1 ⟨bt,rfl,hbt,hT1,hb1⟩;have HB1:=zH hb1;have HBT:=zH hbt;have HLT:=zH hT1.lt;have n1:=True.intro;clear hbt)
  |(go_at_call 31;have _t:=n1;(with_reducible refine(zyp bt l _ 2 2 _ rfl hT1 zD zD).mono ?_);rintro e2 w2 ⟨x1,a2,rfl,hx1,hT2,hm2⟩;clear n1 _t)
  |(go_at_call 31;(with_reducible refine(zyp bt l _ 3 3 _ rfl hT2 zD zD).mono ?_);rintro e3 w3 ⟨m,a3,rfl,hm3x,hT3,hm3⟩)
  |(go_at_call 73;(with_reducible refine(tlaw_2 bt _ l _ hT3).mono ?_);rintro e4 w4 ⟨v4,lA,a4,rfl,hv4,htl4,hT4,hm4⟩;obtain⟨saA,snA,skA,raA,rnA,rkA,eaA,enA,ekA,rfl⟩:=hv4.lawE.slc;have hba:=zba w4 (.cells #[.string { data:=#[] }, .slice saA snA skA, .slice raA rnA rkA, .slice eaA enA ekA] 30);have HC4:=zH (C4.new w4 30 (.string { data:=#[] }) (.slice saA snA skA) (.slice raA rnA rkA) (.slice eaA enA ekA));have HL4:zI (LawN (w4.alloc (.cells #[.string { data:=#[] }, .slice saA snA skA, .slice raA rnA rkA, .slice eaA enA ekA] 30)) w1.heap.size (.agg #[.string { data:=#[] }, .slice saA snA skA, .slice raA rnA rkA, .slice eaA enA ekA]) lA):=zH ((hv4.mono (zLT hm2.size hm3.size)).moves (zya.bw hba));have HM4:=zH (((hm2.trans hm3).trans hm4).trans (TMv.of_below (bt:=bt) hba));have HT4:=zH (hT4.bw hba);have HTL4:=zH htl4;clear hv4 htl4 hT4 hm4 hba hT3 hm3 hT2 hm2 hT1 hb1))
 obtain⟨b14,hb14⟩:∃b,w4.heap.size=b:=⟨_,rfl⟩;rw[hb14]at HC4 |-
 clear hb14;generalize w4.alloc (.cells #[.string { data:=#[] }, .slice saA snA skA, .slice raA rnA rkA, .slice eaA enA ekA] 30)=W4 at *
 obtain⟨k,hk⟩:∃k:Nat,x1+1=k:=⟨_,rfl⟩;have hkI:(1:Int)+(x1:Nat)=(k:Nat):=zO;have hkI2:(x1:Int)+1=(k:Nat):=zO
 first
  | rw[hkI]
  | rw[hkI2]
 have k1:1<=k:=zO;have k2:k<=2:=zO;have m2:m<=2:=zO;clear hkI hkI2 hk hx1 hm3x;obtain⟨B2,hB2⟩:∃B,W4.heap.size=B:=⟨_,rfl⟩;have HT4B:zI (zie W4 bt l B2 a4):=zH (by rw[<-hB2];exact HT4.o.b);have HBB:zI (bt<B2/\w1.heap.size<=B2/\B2=W4.heap.size):=zH ⟨by rw[<-hB2];exact zLM HLT.o HM4.o.size,by rw[<-hB2];exact HM4.o.size,hB2.symm⟩;clear hB2 HT4;go_wp2_with fail;go_loopg [13,15] (k+m) (λ g u13 u15 wr=>∃ (i:Nat) (v:Value) (cs:List Value) (ls:List LQ) (a:Nat),i<=k+m/\g=k+m-i/\u15= .int .i64 i/\v=u13/\znj wr B2 w1.heap.size v cs ls/\ls.length=i/\(∀x∈ls,zvj 2 x)/\zie wr bt l B2 a/\TMv bt W4 wr);case atStart=>exact⟨0,_,[],[],_,zZL _,rfl,rfl,rfl,znj.nil _ _ _,rfl,λ x h=>by simp at h,HT4B.o,TMv.refl _ _⟩
 case round=>
  obtain⟨i,v,cs,ls,a,hin,hg,rfl,rfl,hlg,hln,htl,ht,hm⟩:=hrel;obtain⟨wx,hwx⟩:∃w6,w6=wr:=⟨_,rfl⟩;subst hwx;have HG:=zH hg;have HLG:=zH hlg;have HLN:=zH hln;have HTL:=zH htl;have HT:=zH ht;have HM:=zH hm;have vsl:=hlg.own.sl;clear hg hlg hln htl ht hm HT4B;by_cases hil:i<k+m
  ·have i5:(i:Int)<(k:Int)+(m:Int):=zO;have hC:=HC4.o.tmv HM.o zZ zZ zZ zZ;obtain⟨-,c0,c1,c2,c3,-,-,-,-⟩:=hC;go_upto_region 9 with fail;clear c0 c1 c2 c3;have hba:=zba wx (.cells #[.string { data:=#[] }, .slice saA snA skA, .slice raA rnA rkA, .slice eaA enA ekA] 30);have HC6:=zH (C4.new wx 30 (.string { data:=#[] }) (.slice saA snA skA) (.slice raA rnA rkA) (.slice eaA enA ekA));have HLG6:=zH (HLG.o.moves (zya.bw (B:=w1.heap.size) hba) HBB.o.2.1);have HT6:=zH (HT.o.bw hba);have HM6:=zH (HM.o.trans (TMv.of_below (bt:=bt) hba));have HL6:=zH (HL4.o.moves (HM6.o.moves HLT.o));have HZ6:zI (B2<=wx.heap.size):=zH (by rw[HBB.o.2.2];exact HM.o.size);obtain⟨b16,hb16⟩:∃b,wx.heap.size=b:=⟨_,rfl⟩;(rw[hb16]at HC6 HZ6 |-);clear hba hb16 HLG HT HM;generalize wx.alloc (.cells #[.string { data:=#[] }, .slice saA snA skA, .slice raA rnA rkA, .slice eaA enA ekA] 30)=W6 at *
   have hta:=HT6.o.1
   have hsl:zlb (.slice saA snA skA)/\zlb (.slice raA rnA rkA)/\zlb (.slice eaA enA ekA):=by
    obtain⟨sv,rv,ev,he,h1,h2,h3⟩:=LawN.lawE HL6.o;(injection he with he);simp at he;obtain⟨rfl,rfl,rfl⟩:=he;exact⟨h1.sl,h2.sl,h3.sl⟩
   obtain⟨q1,q2,q3⟩:=hsl;obtain⟨-,c0,c1,c2,c3,-,-,-,-⟩:=id HC6.o;have hown:=znj.own HLG6.o;have hm9:=HM6.o;have hsz:=zLT (Nat.le_of_eq HBB.o.2.2) hm9.size;(have hln4:ls.length<=1000:=by rw[HLN.o];omega);go_wp2_with (at_builtin;refine hAL _ rfl _ _ rfl B2 _ v ls.length cs rfl hown (.slice saA snA skA) (.slice raA rnA rkA) (.slice eaA enA ekA) q1 q2 q3 rfl hln4 hsz ?_;intro v9 w9 ho9 hg9 hd9;have hbl:=zob (B:=B2) hg9 hsz hown.block;have HP9:=zH (znj.push HLG6.o HL6.o ho9 hg9);have HT9:=zH (zie.low HT6.o hbl HBB.o.1);have HM9:=zH (TMv.low hm9 hbl (Nat.le_of_eq HBB.o.2.2.symm));clear ho9 hg9 hd9 hbl hown hsz);go_roundg (k+m- (i+1));case measure=>(have:=HG.o;omega)
   case rel=>
    refine⟨i+1,_,_,_,_,zO,rfl,by go_num,rfl,HP9.o,by rw[zLA,HLN.o];rfl,λ x hx=> ?_,HT9.o,HM9.o⟩;rcases List.mem_append.1 hx with h | h
    ·exact HTL.o x h
    ·rw[List.mem_singleton]at h;rw[h];exact HTL4.o
  ·have hiN:i=k+m:=zO;have i5:¬ (i:Int)<(k:Int)+(m:Int):=zO;have HLN5:zI (ls.length=k+m):=zH (HLN.o.trans hiN);have HT5:zI (zie wx bt l wx.heap.size a):=zH (HT.o.mono (by rw[HBB.o.2.2];exact HM.o.size));have HLT5:zI (bt<wx.heap.size):=zH HT.o.1.lt;have HLG5:=HLG;have HM5:=zH (HM4.o.trans HM.o);clear hiN HT HM HG HLG HLN;go_wp2_with fail;clear i5;obtain⟨B3,hB3⟩:∃B,wx.heap.size=B:=⟨_,rfl⟩;rw[hB3]at HT5 HLT5;have HB3:=zH hB3;clear hB3;go_loopg [17,18,19] (3) (λ g u17 u18 u19 wr=>∃ (i:Nat) (vg:Value) (rg:List Value) (gs:List (List Nat)) (vs:Value) (sl:List Rat) (a:Nat),i<=3/\g=3-i/\u19= .int .i64 i/\vg=u17/\vs=u18/\zfc wr B3 vg rg gs/\zra wr 53 B3 vs sl/\gs.length=sl.length/\gs.length<=i/\GrpT (k+m) gs/\(∀x∈sl,tfQ x)/\zie wr bt l B3 a/\TMv bt wx wr);case atStart=>exact⟨0,_,[],[],_,[],_,zD,rfl,rfl,rfl,rfl,zfc.nil (Nat.le_of_eq HB3.o.symm),zra.nil _ _ _,rfl,zLR _,⟨zD,λ g h=>by simp at h,λ g h=>by simp at h,λ g h=>by simp at h⟩,λ x h=>by simp at h,HT5.o,TMv.refl _ _⟩
   case round=>
    obtain⟨i',vg,rg,gs,vs,sl,a1,hi3,hg,rfl,rfl,rfl,hng,hfr,hgl,hgi,hgt,hsf,ht,hm⟩:=hrel;obtain⟨wp,hwp⟩:∃w6,w6=wr:=⟨_,rfl⟩;subst hwp;have HG2:=zH hg;have HNG:=zH hng;have HFR:=zH hfr;have HGL:=zH hgl;have HGI:=zH hgi;have HGT:=zH hgt;have HSF:=zH hsf;have HT:=zH ht;have HM:=zH hm;have hta:=ht.1;have gsl:=hng.own.sl;have fsl:=hfr.sl;clear hg hng hfr hgl hgi hgt hsf ht hm HT5;go_upto_if 55 with(go_at_call 31;(with_reducible refine(zyp bt l _ 3 3 _ rfl hta zD zD).mono ?_);rintro e7 w7 ⟨x7,a7,rfl,hx7,hT7,hm7⟩);have HNG7:=zH (HNG.o.moves (hm7.moves HLT5.o) (zLR _));have HFR7:=zH (HFR.o.moves (hm7.moves HLT5.o) (zLR _));have HT7:=zH (HT.o.tmv hm7 hT7);have HM7:=zH (HM.o.trans hm7);clear hm7 hta HNG HFR HT HM hT7;by_cases hix:i'<x7
    ·have e7:decide (i'<x7)=true:=zDT hix;rw[e7];clear e7;go_wp2_with fail;obtain⟨B4,hB4⟩:∃B,w7.heap.size=B:=⟨_,rfl⟩;have HB4:zI (bt<B4/\B3<=B4/\B4=w7.heap.size):=zH ⟨by rw[<-hB4];exact zLM HLT5.o (by rw[<-HB3.o];exact HM7.o.size),by rw[<-hB4,<-HB3.o];exact HM7.o.size,hB4.symm⟩;have HT7B:zI (zie w7 bt l B4 a7):=zH (HT7.o.mono HB4.o.2.1);clear hB4;go_loopg [20,21] (k+m) (λ g u20 u21 wr=>∃ (j:Nat) (v:Value) (gg:List Nat) (a:Nat),j<=k+m/\g=k+m-j/\u21= .int .i64 j/\v=u20/\zib wr 3 B4 v (gg.map zod)/\gg.Pairwise (· < ·)/\(∀x∈gg,x<j)/\gg.length<=j/\zie wr bt l B4 a/\TMv bt w7 wr);case atStart=>exact⟨0,_,[],_,zZL _,rfl,rfl,rfl,zib.nil _ _ _,List.Pairwise.nil,λ x h=>by simp at h,zLR _,HT7B.o,TMv.refl _ _⟩
     case round=>
      obtain⟨j,v5,gg,a8,hjn,hg,rfl,rfl,ho,hpw,hlt,hgl,ht,hm⟩:=hrel;obtain⟨wq,hwq⟩:∃w6,w6=wr:=⟨_,rfl⟩;subst hwq;have HG3:=zH hg;have HO:=zH ho;have HPW:=zH hpw;have HLTJ:=zH hlt;have HT8:=zH ht;have HM8:=zH hm;have hta:=ht.1;have vsl:=ho.sl;(have vln:slen v5=gg.length:=by rw[ho.len,zMP]);clear hg ho hpw hlt ht hm HT7B;by_cases hjl:j<k+m
      ·have i5:(j:Int)<(k:Int)+(m:Int):=zO;go_upto_if 67 with(go_at_call 31;(with_reducible refine(zyp bt l _ 2 2 _ rfl hta zD zD).mono ?_);rintro e9 w9 ⟨x9,a9,rfl,hx9,hT9,hm9⟩);have HO9:=zH (HO.o.movesB (hm9.moves HB4.o.1) (zLR _));have HT9:=zH (HT8.o.tmv hm9 hT9);have HM9:=zH (HM8.o.trans hm9);clear hm9 hT9 hta HO HT8 HM8;by_cases hx0:x9=0
       ·subst hx0;have ho9:=HO9.o;(have hsz9:B4<=w9.heap.size:=by rw[HB4.o.2.2];exact HM9.o.size);go_wp2_with (at_builtin;refine hAI w9 rfl _ _ rfl B4 _ v5 gg rfl ho9 j rfl zO hsz9 ?_;intro v10 w10 ho10 hb10;have HO10:=zH ho10;have HT10:=zH (HT9.o.low hb10 HB4.o.1);have HM10:=zH (HM9.o.low hb10 (Nat.le_of_eq HB4.o.2.2.symm));clear ho10 hb10 ho9 hsz9);go_roundg (k+m- (j+1));case measure=>(have:=HG3.o;omega)
        case rel=>
         refine⟨j+1,_,_,_,zO,rfl,by go_num,rfl,HO10.o,?_,λ x hx=> ?_,by rw[zLA];simp;omega,HT10.o,HM10.o⟩
         ·refine List.pairwise_append.2 ⟨HPW.o,by simp,λ x hx y hy=> ?_⟩;rw[List.mem_singleton]at hy;rw[hy];exact HLTJ.o x hx
         ·rcases List.mem_append.1 hx with h | h
          ·have:=HLTJ.o x h;omega
          ·rw[List.mem_singleton]at h;omega
       ·(have e8:((x9:Int)==0)=false:=by simp;omega);have hx1:=zH hx0;clear hx0;go_wp2_with fail;go_roundg (k+m- (j+1));(case measure=>(have:=HG3.o;omega));case rel=>exact⟨j+1,_,_,_,zO,rfl,by go_num,rfl,HO9.o,HPW.o,λ x hx=>Nat.lt_succ_of_lt (HLTJ.o x hx),zO,HT9.o,HM9.o⟩
      ·have hjN:j=k+m:=zO;have i5:¬ (j:Int)<(k:Int)+(m:Int):=zO;have HNG8:=zH (HNG7.o.moves (HM8.o.moves HLT5.o) (zLR _));have HFR8:=zH (HFR7.o.moves (HM8.o.moves HLT5.o) (zLR _));have HT8B:zI (zie wq bt l B3 a8):=zH (HT7.o.tmv HM8.o HT8.o.1);have HM8W:=zH (HM7.o.trans HM8.o);have HO8:zI (zib wq 3 B3 v5 (gg.map zod)):=zH (HO.o.mono HB4.o.2.1);have HLTN:zI (∀x∈gg,x<k+m):=zH (λ x hx=>by rw[<-hjN];exact HLTJ.o x hx);have hgl8:gg.length<=k+m:=zO;clear HG3 HO HLTJ HT8 HM8 HNG7 HFR7 HT7 HM7 hjN hjn hjl hta;by_cases hg0:0<gg.length
       ·have e9:decide (0<gg.length)=true:=zDT hg0;have hng8:=HNG8.o;have hown8:=hng8.own;have hsz8:=hng8.sz;(have hrg8:rg.length<=1000:=by rw[hng8.rl];have:=HGI.o;omega);obtain⟨y1,y2,y3,rfl,hyy⟩:=id vsl
        go_upto_region 16 with(first
         |(at_builtin;refine zzg (P:=Tryz.prog) 24 31 i4 (.slice none 0 0) 24 Tryz.underlying24 hi4 hz4 hs4 hy4 zD rfl zZ wq rfl _ _ rfl B3 _ vg rg rfl hown8 (.slice y1 y2 y3) rfl zZ rfl hrg8 hsz8 ?_;intro v10 w10 ho10 hg10 hn10 hd10 hs10;have hp10:=hng8.push HO8.o ho10 hg10;have HNGA:=zH hp10.1;have HTA:=zH (HT8B.o.low hp10.2 HLT5.o);have HMA:=zH (HM8W.o.low hp10.2 (Nat.le_of_eq HB3.o));have HFRA:=zH (HFR8.o.grownX hown8 zD hg10);have htaA:=HTA.o.1;clear ho10 hg10 hn10 hd10 hs10 hp10)
         |(go_at_call 32;(with_reducible refine(zmh bt _ l _ htaA).mono ?_);rintro e11 w11 ⟨v11,q11,a11,rfl,hv11,hq11,hT11,hm11⟩;obtain⟨t11,a111,l111,k111,a112,l112,k112,rfl⟩:=hv11.iF;have hrow:=HFRA.o.moves (hm11.moves HLT5.o) (zLR _);have hngb:=HNGA.o.moves (hm11.moves HLT5.o) (zLR _);have hszb:=hngb.sz;(have hslb:sl.length<=1000:=by rw[<-HGL.o];have:=HGI.o;omega);have HTB:=zH (HTA.o.tmv hm11 hT11);have HMB:=zH (HMA.o.trans hm11);have HQ11:=zH hq11;clear hm11 hT11 hq11 htaA)
         |(at_builtin;refine hAF w11 rfl _ _ rfl B3 _ vs sl rfl hrow _ _ _ q11 hv11 (by rfl) hslb hszb ?_;intro v12 w12 ho12 hg12 hn12 hd12 hs12;have hbl:=zob (B:=B3) hg12 hszb hrow.block;have HOF:=zH ho12;have HNGC:=zH (hngb.grownFr hrow hg12);have HTC:=zH (HTB.o.low hbl HLT5.o);have HMC:=zH (HMB.o.low hbl (Nat.le_of_eq HB3.o));clear ho12 hg12 hn12 hd12 hs12 hbl hrow hngb hszb hslb hv11))
        go_wp2_with fail;go_roundg (3- (i'+1));case measure=>(have:=HG2.o;omega)
        case rel=>
         have hgt:=HGT.o;have hgi:=HGI.o;refine⟨i'+1,_,_,gs++ [gg],_,_,_,zO,rfl,by go_num,rfl,rfl,HNGC.o,HOF.o,by rw[zLA,zLA,HGL.o];rfl,by rw[zLA];simp;omega,⟨by rw[zLA];simp;omega,λ g h=> ?_,λ g h=> ?_,λ g h=> ?_⟩,λ x hx=> ?_,HTC.o,HMC.o⟩
         ·rcases List.mem_append.1 h with h | h
          ·exact hgt.ne g h
          ·rw[List.mem_singleton]at h;rw[h];intro e;rw[e]at hg0;simp at hg0
         ·rcases List.mem_append.1 h with h | h
          ·exact hgt.lt g h
          ·rw[List.mem_singleton]at h;rw[h];exact HLTN.o
         ·rcases List.mem_append.1 h with h | h
          ·exact hgt.up g h
          ·rw[List.mem_singleton]at h;rw[h];exact HPW.o
         ·rcases List.mem_append.1 hx with h | h
          ·exact HSF.o x h
          ·rw[List.mem_singleton]at h;rw[h];exact HQ11.o
       ·have e9:decide (0<gg.length)=false:=zDF hg0;go_wp2_with fail;go_roundg (3- (i'+1));(case measure=>(have:=HG2.o;omega));case rel=>exact⟨i'+1,_,_,gs,_,_,_,zO,rfl,by go_num,rfl,rfl,HNG8.o,HFR8.o,HGL.o,by have:=HGI.o;omega,HGT.o,HSF.o,HT8B.o,HM8W.o⟩
    ·have e7:decide (i'<x7)=false:=zDF hix;have hta:=HT7.o.1;go_wp2_with (go_at_call 33;(with_reducible refine(trepair_any bt _ l m _ hta zO).mono ?_);rintro e8 w8 ⟨vr,rl,a8,rfl,hvr,hrl,htr,hT8,hm8⟩;have HVR:=zH hvr;have HM8:=zH (HM7.o.trans hm8);have HNG8:=zH (HNG7.o.moves (hm8.moves HLT5.o) (zLR _));have HFR8:=zH (HFR7.o.moves (hm8.moves HLT5.o) (zLR _));have HRL:=zH (zAI hrl htr);clear hvr hT8 hm8 hrl htr);refine bodyPost_ret (results_tmp6 rfl _ _ _) rfl ?_;exact⟨k,m,_,cs,ls,_,rl,_,rg,gs,_,sl,w1.heap.size,B2,B3,_,rfl,k1,k2,m2,HLG5.o.moves (HM8.o.moves HLT.o) HBB.o.2.1,HLN5.o,HTL.o,HVR.o,HRL.o.1,HRL.o.2,HNG8.o,HFR8.o,HGL.o,HGT.o,HSF.o,HB1.o.trans ((HM5.o.trans HM8.o).bw w.heap.size HBT.o HB1.o.size)⟩
end Go.Proofs.YtkpedaflofejnaaGreat
