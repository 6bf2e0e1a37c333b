/- Lemmas. -/
import Derived.Test.YtlpdkbmmbdfoiaaGreatPApr
set_option linter.unusedVariables false
set_option linter.unusedSimpArgs false
namespace Go.Proofs.YtlpdkbmmbdfoiaaGreat
open Go.RowKit
theorem zkc.lit2 {w:World} {e:TypeId} {b:Nat} {x1 y1:Option Addr} {x2 x3 y2 y3:Nat} (hb:w.heap.size=b):zkc (w.alloc (.cells #[.slice x1 x2 x3, .slice y1 y2 y3] e)) e b 1 (.slice (some ⟨b,0,none⟩) 2 2) 2 [.slice x1 x2 x3, .slice y1 y2 y3]:=by
 subst hb;refine⟨⟨rfl, .inr ⟨_,2,#[.slice x1 x2 x3, .slice y1 y2 y3],rfl,zLR _,heap_alloc_new w _,zLR _,zD,rfl,rfl⟩⟩,?_⟩;intro g hg cur e' fz hc c hcc z;simp only[Value.ownBlock,Option.some.injEq]at hg;subst hg;rw[heap_alloc_new w _]at hc;injection hc with hc
 injection hc with hc _
 subst hc;simp at hcc;rcases hcc with rfl | rfl<;>simp
theorem MatC.news {w:World} {v:Value} {m:List (List Rat)} (h:MatC w v m):∃news:List Value,news.length=m.length/\(∀j u,news[j]? =some u->w.cell? (ptr v j)=some u)/\(∀u∈news,u.oneCell'=true)/\(∀u∈news,∀z,u≠ .int .u32 z)/\∀j (hj:j<news.length) (hj':j<m.length),zwa w news[j] m[j]:=by
 have key:∀j (hj:j<((List.range m.length).map λ j=>(w.cell? (ptr v j)).getD undef).length) (hj':j<m.length),∃r,((List.range m.length).map λ j=>(w.cell? (ptr v j)).getD undef)[j]=r/\w.cell? (ptr v j)=some r/\zwa w r m[j]:=λ j hj hj'=>by
  obtain⟨r,h1,h2⟩:=h.at' j hj';exact⟨r,by simp[h1],h1,h2⟩
 have one:∀u∈(List.range m.length).map λ j=>(w.cell? (ptr v j)).getD undef,∃q,zwa w u q:=λ u hu=>by
  obtain⟨j,hj,e⟩:=List.getElem_of_mem hu;obtain⟨r,h1,h2,h3⟩:=key j hj (by simpa using hj);exact⟨_,by rw[<-e,h1];exact h3⟩
 refine⟨(List.range m.length).map λ j=>(w.cell? (ptr v j)).getD undef,by simp,λ j u hu=> ?_,λ u hu=> ?_,λ u hu z=> ?_,λ j hj hj'=> ?_⟩
 ·obtain⟨hj,e⟩:=List.getElem?_eq_some_iff.1 hu;obtain⟨r,h1,h2,h3⟩:=key j hj (by simpa using hj);rw[h2,<-e,h1]
 ·obtain⟨q,hq⟩:=one u hu;obtain⟨a1,a2,a3,rfl,_⟩:=hq.sl;rfl
 ·obtain⟨q,hq⟩:=one u hu;obtain⟨a1,a2,a3,rfl,_⟩:=hq.sl;simp
 ·obtain⟨r,h1,h2,h3⟩:=key j hj hj';rw[h1];exact h3
theorem chk_rows {w:World} {sv ev:Value} {l:LQ} {news:List Value} (hs:zwa w sv l.start) (he:zwa w ev l.exit) (hl:znb l) (hn:news.length=l.rates.length) (hr:∀j (hj:j<news.length) (hj':j<l.rates.length),zwa w news[j] l.rates[j]):
 ∀i (h:i<([sv,ev]++news).length),∃q:List Rat,zwa w ([sv,ev]++news)[i] q/\(∀x∈q,zqf x)/\q.length<=4:=by
 intro i h
 match i,h with
 | 0,h=>exact⟨l.start,hs,hl.st,hl.n4⟩
 | 1,h=>exact⟨l.exit,he,hl.ex,by rw[hl.el];exact hl.n4⟩
 | i+2,h=>
   (have h1:i<news.length:=by simp at h;omega);have h2:i<l.rates.length:=zO;(have e:([sv,ev]++news)[i+2]=news[i]:=by simp);rw[e];obtain⟨k1,k2,_⟩:=hl.row i h2;exact⟨l.rates[i],hr i h1 h2,k2,by rw[k1];exact hl.n4⟩
theorem zal (w:World) (t:TypeId) (x0 x1 x2 x3 y0 y1 y2 y3:Value):C4 ((w.alloc (.cells #[x0,x1,x2,x3] t)).alloc (.cells #[y0,y1,y2,y3] t)) w.heap.size x0 x1 x2 x3/\C4 ((w.alloc (.cells #[x0,x1,x2,x3] t)).alloc (.cells #[y0,y1,y2,y3] t)) (w.heap.size+1) y0 y1 y2 y3/\
 Below w.heap.size w ((w.alloc (.cells #[x0,x1,x2,x3] t)).alloc (.cells #[y0,y1,y2,y3] t)):=by
 have hba:=zca w (.cells #[x0,x1,x2,x3] t);have hbb:=zca (w.alloc (.cells #[x0,x1,x2,x3] t)) (.cells #[y0,y1,y2,y3] t);have hz1:(w.alloc (.cells #[x0,x1,x2,x3] t)).heap.size=w.heap.size+1:=by show(w.heap.push _).size=_;rw[Array.size_push]
 have h2:=C4.new (w.alloc (.cells #[x0,x1,x2,x3] t)) t y0 y1 y2 y3;rw[hz1]at h2;exact⟨(C4.new w t x0 x1 x2 x3).bS hbb,h2,zaa hba hbb⟩
set_option maxRecDepth 100000 in
set_option maxHeartbeats 6400000 in
theorem zpj (va:Value) (l:LQ) (w:World) (ha:zgd w va l) (hla:znb l):Calls Tryz.prog 104 #[va] w (λ e w'=>e= .returned (.tuple #[va, .int .i64 0])/\Below w.heap.size w w'):=by
 obtain⟨i4,hi4,hz4,hs4,hy4⟩:=info_parts Tryz.infoRow;have hAR:=fun(w:World) {ops:Array Oper} {rest:List Oper} {o:Oper} {a:Act} {Q:Exit->Act->World->Prop}=>append_rowsP (P:=Tryz.prog) 24 25 i4 Tryz.underlying24 hi4 hz4 hs4 hy4 w (ops:=ops) (rest:=rest) (o:=o) (a:=a) (Q:=Q)
 clear hi4 hz4 hs4 hy4;obtain⟨svA,rvA,evA,rfl,hsA,hrA,heA⟩:=ha;obtain⟨saA,snA,skA,rfl,-⟩:=id hsA.sl;obtain⟨raA,rnA,rkA,rfl,hra⟩:=id hrA.sl;obtain⟨eaA,enA,ekA,rfl,-⟩:=id heA.sl;have hrn:rnA=l.rates.length:=hrA.len;have hrn4:rnA<=4:=by rw[hrn,hla.rl];exact hla.n4
 have hrn1:1<=rnA:=by rw[hrn,hla.rl];exact hla.n1
 obtain⟨ad,rfl⟩:∃ad,raA=some ad:=by
  cases raA with
  | none=>obtain⟨_,_,h3⟩:=hra;have:=h3 rfl;omega
  | some ad=>exact⟨ad,rfl⟩
 obtain⟨hc1,hc2,hbw⟩:=zal w 52 (.string { data:=#[] }) (.slice saA snA skA) (.slice (some ad) rnA rkA) (.slice eaA enA ekA) (.string { data:=#[] }) (.slice none 0 0) (.slice none 0 0) (.slice none 0 0);have HC1:=zH hc1;have HC2:=zH hc2;have HBW:=zH hbw;have HSA:=zH (hsA.bw hbw);have HRA:=zH (hrA.bw hbw);have HEA:=zH (heA.bw hbw);have HLA:=zH hla;have HRN:=zH hrn;have ssA:=hsA.sl;have srA:=hrA.sl;have seA:=heA.sl;clear hc1 hc2 hbw hsA hrA heA hla hrn hra;go_enter Tryz.func104,Tryz.ntmps104;go_upto_region 1 with fail;generalize (w.alloc (.cells #[.string { data:=#[] }, .slice saA snA skA, .slice (some ad) rnA rkA, .slice eaA enA ekA] 52)).alloc (.cells #[.string { data:=#[] }, .slice none 0 0, .slice none 0 0, .slice none 0 0] 52)=W2 at *
 have hbx:=zca W2 (.cells #[.slice saA snA skA, .slice eaA enA ekA] 25);obtain⟨news,hnl,hnc,hn1,hnn,hnr⟩:=HRA.o.news;have HROWS:=zH (chk_rows HSA.o HEA.o HLA.o hnl hnr);have HNL:zI (news.length=rnA):=zH (hnl.trans HRN.o.symm)
 have hncx:∀j u,news[j]? =some u->(W2.alloc (.cells #[.slice saA snA skA, .slice eaA enA ekA] 25)).cell? (ad.add j)=some u:=λ j u hu=>by
  have h:=zba hbx (hnc j u hu);simpa only[ptr,base]using h
 clear hnl;obtain⟨-,c0,c1,c2,c3,-,-,-,-⟩:=HC1.o;obtain⟨-,x0,x1,x2,x3,-,-,-,-⟩:=HC1.o.bS hbx
 go_wp2_with (first
  |(at_builtin;refine hAR _ rfl _ _ rfl W2.heap.size _ [.slice saA snA skA, .slice eaA enA ekA] rfl (zkc.lit2 rfl) ad rnA rkA rfl news HNL.o hncx hn1 hnn (by simp;omega) hbx.size ?_;intro v5 w5 ho5 hg5 hn5 hq5 sv5;have hbg:=zqd (B:=W2.heap.size) hg5 hbx.size (zkc.lit2 (w:=W2) rfl).block;have HB5:=zH (hbx.trans hbg);have HO5:=zH ho5;have HLV:zI (slen v5=([Value.slice saA snA skA,Value.slice eaA enA ekA]++news).length):=zH ho5.len;clear hbg hg5 hn5 hq5 ho5 c0 c1 c2 c3 x0 x1 x2 x3))
 obtain⟨p1,M,p3,rfl,_⟩:=id sv5;have hM:M=([Value.slice saA snA skA,Value.slice eaA enA ekA]++news).length:=HLV.o;have hM6:M<=6:=by rw[hM,zLA,HNL.o];simp;omega
 have HMM:=zH hM;clear hM HLV hbx hnc hn1 hnn hnr hncx;obtain⟨W5,hW5⟩:∃w,w=w5:=⟨_,rfl⟩;subst hW5;go_loopg [17] (M) (λ g u17 wr=>∃ (i:Nat),i<=M/\g=M-i/\u17= .int .i64 i/\Below W5.heap.size W5 wr);case atStart=>exact⟨0,zZL _,rfl,rfl,zBR _ _⟩
 case round=>
  obtain⟨i,hin,hg,rfl,hbr⟩:=hrel;obtain⟨wx,hwx⟩:∃w6,w6=wr:=⟨_,rfl⟩;subst hwx;have HG:=zH hg;have HBR:=zH hbr;clear hg hbr;by_cases hil:i<M
  ·have i1:(0:Int)<=(i:Int):=zO;have i2:(i:Int)<(M:Nat):=zO;(have hil2:i<([Value.slice saA snA skA,Value.slice eaA enA ekA]++news).length:=by rw[<-HMM.o];exact hil);obtain⟨q,hq,hlim,hq4⟩:=HROWS.o i hil2;have hcell:=zba HBR.o (HO5.o.cell i hil2);obtain⟨row,hrow⟩:∃r,([Value.slice saA snA skA,Value.slice eaA enA ekA]++news)[i]=r:=⟨_,rfl⟩;rw[hrow]at hq hcell;obtain⟨o1,o2,o3,rfl,_⟩:=id hq.sl;have srow:=hq.sl;have ho2:o2=q.length:=hq.len;have HQ:=zH (hq.bw HB5.o);have HLIM:=zH hlim;have HO2:=zH ho2;have ho4:o2<=4:=zO;clear hq hlim ho2 hrow hil2;go_wp2_with fail;clear hcell;go_loopg [23] (o2) (λ g u23 wr=>∃ (j:Nat),j<=o2/\g=o2-j/\u23= .int .i64 j/\Below W5.heap.size W5 wr);case atStart=>exact⟨0,zZL _,rfl,rfl,HBR.o⟩
   case round=>
    obtain⟨j,hjn,hgj,rfl,hbr⟩:=hrel;obtain⟨wy,hwy⟩:∃w6,w6=wr:=⟨_,rfl⟩;subst hwy;have HGJ:=zH hgj;have HBY:=zH hbr;clear hgj hbr;by_cases hjl:j<o2
    ·have j1:(0:Int)<=(j:Int):=zO;have j2:(j:Int)<(o2:Nat):=zO;(have hjq:j<q.length:=by rw[<-HO2.o];exact hjl);obtain⟨ts,as1,ls1,ks1,as2,ls2,ks2,g1,g2,g3,hfs⟩:=(HQ.o.bw HBY.o).cellsAt (k:=j) hjq
     have hlq:zqf (q.getD j 0):=by
      rw[zGD,zGE hjq];exact HLIM.o _ (zGM hjq)
     obtain⟨x,hx⟩:∃x,q.getD j 0=x:=⟨_,rfl⟩;rw[hx]at hfs hlq;obtain⟨y1,y2,hy,n1,n2⟩:=id hfs;have hb9:=zca wy (.cells #[.bool ts, .slice as1 ls1 ks1, .slice as2 ls2 ks2] 38);(injection hy with hy);simp at hy;obtain⟨-,rfl,rfl⟩:=hy;have HN1:=zH (n1.bw hb9).nat;have HN2:=zH (n2.bw hb9).nat;have HC9:=zH (C3.new wy 38 (.bool ts) (.slice as1 ls1 ks1) (.slice as2 ls2 ks2));have HB9:=zH (zaa HBY.o hb9);have hn1:decide ((32:Int)<((zza x.num.natAbs:Nat):Int))=false:=zDF (by have:=hlq.2.1;omega);have hn2:decide ((32:Int)<((zza x.den:Nat):Int))=false:=zDF (by have:=hlq.2.2;omega);clear hfs n1 n2 hb9 hx hlq;go_upto_region 7 with fail;clear g1 g2 g3;obtain⟨b9,hb9⟩:∃b,wy.heap.size=b:=⟨_,rfl⟩;(rw[hb9]at HC9 |-);clear hb9;generalize wy.alloc (.cells #[.bool ts, .slice as1 ls1 ks1, .slice as2 ls2 ks2] 38)=W9 at *
     obtain⟨_,c0,c1,c2,_,_,_⟩:=HC9.o
     go_wp2_with (first
      |(go_at_call 156;(with_reducible refine(zbb _ x.num.natAbs _ HN1.o).mono ?_);rintro e4 w4 ⟨rfl,rfl⟩)
      |(go_at_call 156;(with_reducible refine(zbb _ x.den _ HN2.o).mono ?_);rintro e5 w5 ⟨rfl,rfl⟩))
     go_roundg (o2- (j+1));(case measure=>(have:=HGJ.o;omega));case rel=>exact⟨j+1,zO,rfl,by go_num,HB9.o⟩
    ·obtain rfl:j=o2:=zO;go_wp2_with fail;go_roundg (M- (i+1));(case measure=>(have:=HG.o;omega));case rel=>exact⟨i+1,zO,rfl,by go_num,HBY.o⟩
  ·obtain rfl:i=M:=zO;have HBX:=zH (zaa HB5.o HBR.o);have HTX:=zH (HC2.o.bS HBX.o);have HBZ:=zH (zaa HBW.o HBX.o);obtain⟨-,c0,c1,c2,c3,-,-,-,-⟩:=HC1.o.bS HBX.o;obtain⟨-,d0,d1,d2,d3,f0,f1,f2,f3⟩:=HTX.o;go_wp2_with fail;refine zdb rfl rfl Tryz.aggL Tryz.sizeL (HTX.o.set _ _ _ _) rfl ?_;exact⟨rfl,zjb HBZ.o (zLS _) _ _ _ _⟩
end Go.Proofs.YtlpdkbmmbdfoiaaGreat
