/- Lemmas. -/
import Derived.Test.YtlpdkbmmbdfoiaaGreatPPv4
import Derived.Test.YtlpdkbmmbdfoiaaGreatPPh24
set_option linter.unusedVariables false
set_option linter.unusedSimpArgs false
namespace Go.Proofs.YtlpdkbmmbdfoiaaGreat
open Go.RowKit
def PA (m i j t k:Nat) (r c:Nat):Prop:=r<t\/r=t/\c%m=j/\c/m<k/\c/m≠i
def PB (m i j t k:Nat) (r c:Nat):Prop:=r<t\/r=t/\(c%m=j/\c/m≠i\/c/m=i/\c%m<k/\c%m≠j)
section
variable {m i j t k r c:Nat}
theorem PA_zero :PA m i j t 0 r c↔r<t:=⟨λ h=>h.elim id λ h=>absurd h.2.2.1 (zNZ _),Or.inl⟩
theorem PA_skip :PA m i j t i r c↔PA m i j t (i+1) r c:=by
 unfold PA;constructor
 ·rintro(h | ⟨h1,h2,h3,h4⟩)
  ·exact Or.inl h
  ·exact Or.inr ⟨h1,h2,zO,h4⟩
 ·rintro(h | ⟨h1,h2,h3,h4⟩)
  ·exact Or.inl h
  ·exact Or.inr ⟨h1,h2,zO,h4⟩
theorem PA_put (hne:¬ (r=t/\c=k*m+j)):PA m i j t k r c↔PA m i j t (k+1) r c:=by
 unfold PA;constructor
 ·rintro(h | ⟨h1,h2,h3,h4⟩)
  ·exact Or.inl h
  ·exact Or.inr ⟨h1,h2,zO,h4⟩
 ·rintro(h | ⟨h1,h2,h3,h4⟩)
  ·exact Or.inl h
  ·refine Or.inr ⟨h1,h2,?_,h4⟩;by_cases h5:c/m=k
   ·exact absurd ⟨h1,by rw[<-h5,<-h2];exact zgm.symm⟩ hne
   ·omega
theorem PA_at (hj:j<m) (hk:k≠i):PA m i j t (k+1) t (k*m+j):=Or.inr ⟨rfl,zrc hj,by rw[zhc hj];exact zSS k,by rw[zhc hj];exact hk⟩
theorem PA_end {n:Nat} (hc:c<n*m):PA m i j t n r c↔PB m i j t 0 r c:=by
 have h4:c/m<n:=Nat.div_lt_of_lt_mul (by rw[Nat.mul_comm];exact hc);unfold PA PB;constructor
 ·rintro(h | ⟨h1,h2,h3,h5⟩)
  ·exact Or.inl h
  ·exact Or.inr ⟨h1,Or.inl ⟨h2,h5⟩⟩
 ·rintro(h | ⟨h1,h2 | h2⟩)
  ·exact Or.inl h
  ·exact Or.inr ⟨h1,h2.1,h4,h2.2⟩
  ·exact absurd h2.2.1 (zNZ _)
theorem PB_skip :PB m i j t j r c↔PB m i j t (j+1) r c:=by
 unfold PB;constructor
 ·rintro(h | ⟨h1,h2 | ⟨h2,h3,h4⟩⟩)
  ·exact Or.inl h
  ·exact Or.inr ⟨h1,Or.inl h2⟩
  ·exact Or.inr ⟨h1,Or.inr ⟨h2,zO,h4⟩⟩
 ·rintro(h | ⟨h1,h2 | ⟨h2,h3,h4⟩⟩)
  ·exact Or.inl h
  ·exact Or.inr ⟨h1,Or.inl h2⟩
  ·exact Or.inr ⟨h1,Or.inr ⟨h2,zO,h4⟩⟩
theorem PB_put (hne:¬ (r=t/\c=i*m+k)):PB m i j t k r c↔PB m i j t (k+1) r c:=by
 unfold PB;constructor
 ·rintro(h | ⟨h1,h2 | ⟨h2,h3,h4⟩⟩)
  ·exact Or.inl h
  ·exact Or.inr ⟨h1,Or.inl h2⟩
  ·exact Or.inr ⟨h1,Or.inr ⟨h2,zO,h4⟩⟩
 ·rintro(h | ⟨h1,h2 | ⟨h2,h3,h4⟩⟩)
  ·exact Or.inl h
  ·exact Or.inr ⟨h1,Or.inl h2⟩
  ·refine Or.inr ⟨h1,Or.inr ⟨h2,?_,h4⟩⟩;by_cases h5:c%m=k
   ·exact absurd ⟨h1,by rw[<-h2,<-h5];exact zgm.symm⟩ hne
   ·omega
theorem PB_at (hk:k<m) (hkj:k≠j):PB m i j t (k+1) t (i*m+k):=Or.inr ⟨rfl,Or.inr ⟨zhc hk,by rw[zrc hk];exact zSS k,by rw[zrc hk];exact hkj⟩⟩
theorem PB_end {a b:LQ} (hm:b.start.length=m) (hm0:0<m) (hj:j<m) (ht:i*m+j=t):(PB m i j t m r c↔r<t+1)\/bfr a b r c=0:=by
 by_cases h:r=t
 ·subst h;by_cases h1:PB m i j r m r c
  ·exact Or.inl ⟨λ _=>zSS _,λ _=>h1⟩
  ·refine Or.inr ?_;(have h2:¬ (c%m=j/\c/m≠i):=λ h=>h1 (Or.inr ⟨rfl,Or.inl h⟩));(have h3:¬ (c/m=i/\c%m≠j):=λ h=>h1 (Or.inr ⟨rfl,Or.inr ⟨h.1,zML2 _ hm0,h.2⟩⟩));unfold bfr;rw[hm,<-ht,zhc hj,zrc hj];by_cases h4:c%m=j
   ·(have h5:c/m=i:=Classical.byContradiction λ h=>h2 ⟨h4,h⟩);rw[zIP (by rw[<-h5,<-h4];exact zgm.symm)]
   ·rw[zIN (λ e=>h4 (by rw[e,zrc hj])),zIN h4,zIN (λ h=>h3 ⟨h,h4⟩)]
 ·refine Or.inl ⟨λ h1=> ?_,λ h1=>Or.inl zO⟩;rcases h1 with h1 | h1
  ·omega
  ·exact absurd h1.1 h
end
section
variable {a b:LQ} {m i j t k:Nat}
theorem bfS_at (hm:b.start.length=m) (hj:j<m) (ht:i*m+j=t):bfS a b t=stQ a i*stQ b j:=by unfold bfS;rw[hm,<-ht,zhc hj,zrc hj]
theorem fiE_at (hm:b.start.length=m) (hj:j<m) (ht:i*m+j=t):fiE a b t=exQ a i+exQ b j:=by unfold fiE;rw[hm,<-ht,zhc hj,zrc hj]
theorem bfr_a (hm:b.start.length=m) (hj:j<m) (ht:i*m+j=t) (hk:k≠i):bfr a b t (k*m+j)=rtQ a i k:=by
 unfold bfr;rw[hm,<-ht,zhc hj,zrc hj,zhc hj,zrc hj,zIN (λ e=>hk (by have h:=congrArg (· /m) e;simpa only[zhc hj]using h)),zIP rfl]
theorem bfr_b (hm:b.start.length=m) (hj:j<m) (hk2:k<m) (ht:i*m+j=t) (hk:k≠j):bfr a b t (i*m+k)=rtQ b j k:=by
 unfold bfr;rw[hm,<-ht,zhc hj,zrc hj,zhc hk2,zrc hk2,zIN (λ e=>hk zO),zIN hk,zIP rfl]
theorem zei {n m:Nat} (hn:n<=4) (hm:m<=4):n*m<=16:=zMM hn hm
theorem zti {x y z:Nat} (hx:x<=4) (hy:y<=4) (h:x*y=z):IntKind.i64.wrap ((x:Int)*(y:Int))=((z:Nat):Int):=by
 have h1:=zei hx hy;rw[<-Int.natCast_mul,h,zac zO zO]
theorem zil {p z t:Nat} (hp:p<=16) (hz:z<=4) (h:p+z=t):IntKind.i64.wrap ((p:Int)+(z:Int))=((t:Nat):Int):=by
 rw[<-Int.natCast_add,h,zac zO zO]
end
set_option maxRecDepth 100000 in
set_option maxHeartbeats 12800000 in
theorem rfirst_any (va vb:Value) (a b:LQ) (w:World) (ha:zgd w va a) (hb:zgd w vb b) (hla:znb a) (hlb:znb b) (hls:a.start.length*b.start.length<=4->znb (firL a b)):
 Calls Tryz.prog 127 #[va,vb] w (RSz (a.start.length*b.start.length<=4) w (firL a b)):=by
 obtain⟨saA,skA,raA,rkA,eaA,ekA,enA,rfl,hn,hsA,hrA,heA,n1,n4⟩:=ha.pre hla;obtain⟨saB,skB,raB,rkB,eaB,ekB,enB,rfl,hm,hsB,hrB,heB,m1,m4⟩:=hb.pre hlb;obtain⟨N,hNN⟩:∃N,enA*enB=N:=⟨_,rfl⟩;have hN1:1<=N:=by rw[<-hNN];exact Nat.mul_pos n1 m1
 obtain⟨hc1,hc2,hc3,hbw⟩:=zzk w 52 (.string { data:=#[] }) (.slice saA enA skA) (.slice raA enA rkA) (.slice eaA enA ekA) (.string { data:=#[] }) (.slice saB enB skB) (.slice raB enB rkB) (.slice eaB enB ekB) (.string { data:=#[] }) (.slice none 0 0) (.slice none 0 0) (.slice none 0 0);have HC1:=zH hc1;have HC2:=zH hc2;have HC3:=zH hc3;have HBW:=zH hbw;have HA:=zH (ha.bw hbw);have HB:=zH (hb.bw hbw);have HSA:=zH (hsA.bw hbw);have HRA:=zH (hrA.bw hbw);have HEA:=zH (heA.bw hbw);have HSB:=zH (hsB.bw hbw);have HRB:=zH (hrB.bw hbw);have HEB:=zH (heB.bw hbw);have HLA:=zH hla;have HLB:=zH hlb;have HLS0:=zH hls;have HNA:=zH hn;have HNB:=zH hm;have HNN:=zH hNN;have HN4A:=zH n4;have HN4B:=zH m4;have ssA:=hsA.sl;have seA:=heA.sl;have ssB:=hsB.sl;have seB:=heB.sl;have srA:=hrA.sl;have srB:=hrB.sl;have hwN:=zti n4 m4 hNN;have HWN:=zH hwN;clear hc1 hc2 hc3 hbw hsA hrA heA hsB hrB heB hla hlb hls hn hm hNN ha hb;go_enter Tryz.func127,Tryz.ntmps127;go_upto_region 1 with fail;generalize ((w.alloc (.cells #[.string { data:=#[] }, .slice saA enA skA, .slice raA enA rkA, .slice eaA enA ekA] 52)).alloc (.cells #[.string { data:=#[] }, .slice saB enB skB, .slice raB enB rkB, .slice eaB enB ekB] 52)).alloc (.cells #[.string { data:=#[] }, .slice none 0 0, .slice none 0 0, .slice none 0 0] 52)=W2 at *
 obtain⟨-,c0,c1,c2,c3,-,-,-,-⟩:=HC1.o;obtain⟨-,d0,d1,d2,d3,-,-,-,-⟩:=HC2.o
 go_upto_region 3 with(first
  |(go_at_call 180;(with_reducible refine(zxb _ a W2 HA.o.lawC HLA.o).mono ?_);rintro e3 w3 ⟨rfl,hb3⟩;have HB30:=zH hb3;clear c0 c1 c2 c3 d0 d1 d2 d3;obtain⟨-,d0,d1,d2,d3,-,-,-,-⟩:=HC2.o.bS hb3;clear hb3)
  |(go_at_call 180;(with_reducible refine(zxb _ b w3 (HB.o.bw HB30.o).lawC HLB.o).mono ?_);rintro e4 w4 ⟨rfl,hb4⟩;have HB3:=zH (zaa HB30.o hb4);clear hb4 d0 d1 d2 d3))
 obtain⟨-,c0,c1,c2,c3,-,-,-,-⟩:=HC1.o.bS HB3.o;obtain⟨-,d0,d1,d2,d3,-,-,-,-⟩:=HC2.o.bS HB3.o;have S0:=zH (zAI c1 d1);clear c0 c1 c2 c3 d0 d1 d2 d3;go_cut [6,7] (λ u6 u7 wy=>u6= .int .i64 (enA:Nat)/\u7= .int .i64 (enB:Nat)/\Below w4.heap.size w4 wy)
 case first =>
  go_region_held3 (λ w'=>w'.cell? ⟨w.heap.size,1,none⟩=some (.slice saA enA skA)/\w'.cell? ⟨w.heap.size+1,1,none⟩=some (.slice saB enB skB)/\Below w4.heap.size w4 w') (first
   | with_reducible exact kp2a S0.o (zfa _)
   | with_reducible exact kp2w (by assumption) (by assumption)) (fail)
  all_goals
   have hE:=kp2c (by assumption);go_wp2_with fail;go_meet;case rel=>exact⟨rfl,rfl,hE⟩
 case rest=>
  obtain⟨rfl,rfl,hcb⟩:=hcut;obtain⟨W4,hw4⟩:∃w4,w4=wc:=⟨_,rfl⟩;subst hw4;have HB4:=zH (zaa HB3.o hcb);clear hcb S0 HB3 HB30;by_cases hN4:N<=4
  case neg=>
   have hgt:decide ((4:Int)<((N:Nat):Int))=true:=zDT zO;have HNO:zI (¬a.start.length*b.start.length<=4):=zH (by rw[HNA.o,HNB.o,HNN.o];exact hN4);have HT9:=HC3.o.bS HB4.o;have HB9:=zH (zaa HBW.o HB4.o);obtain⟨-,c0,c1,c2,c3,f0,f1,f2,f3⟩:=HT9;clear hN4;go_wp2_with fail;refine zdb rfl rfl Tryz.aggL Tryz.sizeL ((HC3.o.bS HB4.o).set _ _ _ _) rfl ?_;exact⟨λ h=>absurd h HNO.o,λ _=>⟨rfl,zjb HB9.o (Nat.le_succ_of_le (zLS _)) _ _ _ _⟩⟩
  have hgt:decide ((4:Int)<((N:Nat):Int))=false:=zDF zO;have HAB:zI (a.start.length*b.start.length<=4):=zH (by rw[HNA.o,HNB.o,HNN.o];exact hN4);have HLS:=zH (HLS0.o HAB.o);clear HLS0
  go_upto_region 7 with(first
   |(go_at_call 91;(try rw[HWN.o]);(with_reducible refine(zol N _ hN1 hN4).mono ?_);rintro e5 w5 ⟨vs,ve,vr,rs,rfl,hl5,hb5⟩;obtain⟨s1,s2,s3,rfl,_⟩:=id hl5.s.sl;obtain⟨r1,r2,r3,rfl,_⟩:=id hl5.ra.sl;obtain⟨e1,e2,e3,rfl,_⟩:=id hl5.e.sl;have hs2:s2=N:=(by have h:=hl5.s.fracs.len;rw[zpa]at h;exact h);have he2:e2=N:=(by have h:=hl5.e.fracs.len;rw[zpa]at h;exact h);have hr2:r2=N:=(by have h:=hl5.ra.len;rw[hl5.rl,zRP]at h;exact h);rw[hs2]at hl5 |-;rw[he2]at hl5 |-;rw[hr2]at hl5 |-;have hba:=zca w5 (.cells #[.string { data:=#[] }, .slice s1 N s3, .slice r1 N r3, .slice e1 N e3] 52);have HC8:=zH (C4.new w5 52 (.string { data:=#[] }) (.slice s1 N s3) (.slice r1 N r3) (.slice e1 N e3));have HLT:=zH ((hl5.bw hba).mono HB4.o.size).lawT;have HBR:=zH (zaa HB4.o (zaa hb5 hba));clear hl5 hb5 hba hs2 he2 hr2))
  obtain⟨b8,hb8⟩:∃b,w5.heap.size=b:=⟨_,rfl⟩;rw[hb8]at HC8 |-
  clear hb8 HB4;generalize w5.alloc (.cells #[.string { data:=#[] }, .slice s1 N s3, .slice r1 N r3, .slice e1 N e3] 52)=W6 at *
  clear hwN;go_wp2_with fail;go_loopg [9] (enA) (λ g u9 wr=>∃ (i:Nat),i<=enA/\g=enA-i/\u9= .int .i64 i/\znd wr W2.heap.size (.slice s1 N s3) (.slice e1 N e3) (.slice r1 N r3) rs N (wr1 (λ r=>r<i*enB) (bfS a b)) (wr1 (λ r=>r<i*enB) (fiE a b)) (wr2 (λ r c=>r<i*enB) (bfr a b))/\C4 wr b8 (.string { data:=#[] }) (.slice s1 N s3) (.slice r1 N r3) (.slice e1 N e3)/\Below W2.heap.size W2 wr);case atStart=>exact⟨0,zZL _,rfl,rfl,HLT.o.congr (λ _ _=>zak λ h=>zO) (λ _ _=>zak λ h=>zO) (λ r c _ _=>wr2_no λ h=>zO),HC8.o,HBR.o⟩
  case round=>
   clear HLT HC8 HBR;obtain⟨i,hin,hgi,rfl,hlt,hc8,hbr⟩:=hrel;obtain⟨wx,hwx⟩:∃w6,w6=wr:=⟨_,rfl⟩;subst hwx;have HGi:=zH hgi;have HLT:=zH hlt;have HC8:=zH hc8;have HBR:=zH hbr;clear hgi hlt hc8 hbr;by_cases hil:i<enA
   ·have HIA:zI (i<a.start.length):=zH (by rw[HNA.o];exact hil);go_wp2_with fail;go_loopg [10] (enB) (λ g u10 wr=>∃ (j:Nat),j<=enB/\g=enB-j/\u10= .int .i64 j/\znd wr W2.heap.size (.slice s1 N s3) (.slice e1 N e3) (.slice r1 N r3) rs N (wr1 (λ r=>r<i*enB+j) (bfS a b)) (wr1 (λ r=>r<i*enB+j) (fiE a b)) (wr2 (λ r c=>r<i*enB+j) (bfr a b))/\C4 wr b8 (.string { data:=#[] }) (.slice s1 N s3) (.slice r1 N r3) (.slice e1 N e3)/\Below W2.heap.size W2 wr);case atStart=>exact⟨0,zZL _,rfl,rfl,HLT.o,HC8.o,HBR.o⟩
    case round=>
     clear HLT HC8 HBR;obtain⟨j,hjn,hgj,rfl,hlt,hc8,hbr⟩:=hrel;obtain⟨wy,hwx⟩:∃w6,w6=wr:=⟨_,rfl⟩;subst hwx;have HGj:=zH hgj;have HLT:=zH hlt;have HC8:=zH hc8;have HBR:=zH hbr;clear hgj hlt hc8 hbr;by_cases hjl:j<enB
     ·have i1:(0:Int)<=(i:Int):=zO;have i2:(i:Int)<(enA:Nat):=zO;have j1:(0:Int)<=(j:Int):=zO;have j2:(j:Int)<(enB:Nat):=zO;obtain⟨t,ht⟩:∃t,i*enB+j=t:=⟨_,rfl⟩;(have htN:t<N:=by rw[<-HNN.o,<-ht];exact zfm hil hjl);obtain⟨p1,hp1⟩:∃p,i*enB=p:=⟨_,rfl⟩;(have p16:p1<=16:=by rw[<-hp1];exact zei zO m4);have hwa1:IntKind.i64.wrap ((i:Int)*(enB:Int))=((p1:Nat):Int):=zti zO m4 hp1;have hwa2:IntKind.i64.wrap ((p1:Int)+(j:Int))=((t:Nat):Int):=zil p16 zO (by rw[<-hp1];exact ht);have HP1:=zH hp1;have HP16:=zH p16;clear hp1 p16;rw[ht]at HLT;have HT:=zH ht;have HTS:zI (i*enB+(j+1)=t+1):=zH zO;have t3:(0:Int)<=(t:Int):=zO;have t4:(t:Int)<(N:Nat):=zO;have HJB:zI (j<b.start.length):=zH (by rw[HNB.o];exact hjl);have HJL:=zH hjl;obtain⟨ts,as1,ls1,ks1,as2,ls2,ks2,g1,g2,g3,hfs⟩:=(HSA.o.bw HBR.o).cellsAt (k:=i) HIA.o;have HFX:zI (zia wy (.agg #[.bool ts, .slice as1 ls1 ks1, .slice as2 ls2 ks2]) (stQ a i)):=zH hfs;obtain⟨us,bs1,ms1,os1,bs2,ms2,os2,h1,h2,h3,hft⟩:=(HSB.o.bw HBR.o).cellsAt (k:=j) HJB.o;have HFY:zI (zia wy (.agg #[.bool us, .slice bs1 ms1 os1, .slice bs2 ms2 os2]) (stQ b j)):=zH hft;have HVT:zI (bfS a b t=stQ a i*stQ b j):=zH (bfS_at HNB.o hjl ht);have HVE:zI (fiE a b t=exQ a i+exQ b j):=zH (fiE_at HNB.o hjl ht);(have htL:t<(firL a b).start.length:=by rw[show(firL a b).start.length=bfN a b from zzf];unfold bfN;rw[HNA.o,HNB.o,HNN.o];exact htN);have htB:t<bfN a b:=by unfold bfN;rw[HNA.o,HNB.o,HNN.o];exact htN
      have HLX:zI (fits (stQ a i)/\fits (stQ b j)/\fits (stQ a i*stQ b j)):=zH ⟨(HLA.o.st_lim HIA.o).fits,(HLB.o.st_lim HJB.o).fits,by
       have hl:=HLS.o.st_lim htL;rw[show stQ (firL a b) t=bfS a b t from fn_st htB,HVT.o]at hl;exact hl.fits⟩
      have HLY:zI (fits (exQ a i)/\fits (exQ b j)/\fits (exQ a i+exQ b j)):=zH ⟨(HLA.o.ex_lim HIA.o).fits,(HLB.o.ex_lim HJB.o).fits,by
       have hl:=HLS.o.ex_lim htL;rw[show exQ (firL a b) t=fiE a b t from fn_ex htB,HVE.o]at hl;exact hl.fits⟩
      clear hfs hft ht htL htB;go_upto_region 14 with fail;obtain⟨-,c0,c1,c2,c3,-,-,-,-⟩:=HC1.o.bS HBR.o;obtain⟨-,d0,d1,d2,d3,-,-,-,-⟩:=HC2.o.bS HBR.o;obtain⟨-,q0,q1,q2,q3,-,-,-,-⟩:=HC8.o;refine wpL.st9 15 q1 c1 g1 g2 g3 d1 h1 h2 h3 (λ wd hbD hHeld=> ?_);have HLD:=zH (HLT.o.bw hbD);have HCD:=zH (HC8.o.bS hbD);have HBD:=zH (zea HBR.o hbD HBR.o.size);have HFD:=zH (HFX.o.bw hbD);have HFE:=zH (HFY.o.bw hbD);clear hbD HLT HC8 HBR c0 c1 c2 c3 d0 d1 d2 d3 q0 q1 q2 q3 g1 g2 g3 h1 h2 h3;refine zU 0 ?_;refine zY 1 ?_;refine zU 2 ?_;refine zU 3 ?_;refine zY 4 ?_;refine zU 5 ?_;refine zU 6 ?_;refine zY 7 ?_;refine zU 8 ?_;refine zY 9 ?_;refine zU 10 ?_;refine zU 11 ?_;refine zY 12 ?_;(refine zCF 13 183 #[.agg #[.bool ts, .slice as1 ls1 ks1, .slice as2 ls2 ks2], .agg #[.bool us, .slice bs1 ms1 os1, .slice bs2 ms2 os2]] (zml _ _ _ _ _ HFD.o HFE.o HLX.o.1 HLX.o.2.1 HLX.o.2.2) λ t7 a71 l71 k71 a72 l72 k72 w7 hv7 hb7=>⟨kcl9 hb7 hHeld,λ hH7=> ?_⟩);clear hHeld;have L7:=HLD.o.bw hb7;have hput:=L7.putS (s':=wr1 (λ r=>r<t+1) (bfS a b)) htN (λ k _ hk=>zvg (Or.inl zO)) (zbi (zSS t) HVT.o hv7);have hrow:=L7.s;(have hjR:=show t<(zxa N (wr1 (λ r=>r<t) (bfS a b))).length by rw[zda];exact htN);obtain⟨y0,z0,y1,y2,y3,y4,f0,f1,f2,slo,n01,n02,n12⟩:=hrow.prep hjR;have HCP:=zH ((HCD.o.bS hb7).putJ hrow hjR (.bool t7) (.slice a71 l71 k71) (.slice a72 l72 k72));have HLP:=zH hput.1;have HBP:=zH ((zea HBD.o hb7 HBD.o.size).trans hput.2);clear L7 hput hrow HLD HCD HBD hb7 hv7 HFD HFE;refine zPA 14 hH7 ?_;refine zPB 15 ?_;clear y2 y3 y4 f0 f1 f2 n01 n02 n12 hH7;clear HFX HFY HLX HVT;obtain⟨w8,hw8⟩:∃w8,w8=((w7.setCell (ptr (.slice s1 N s3) (t*3)) (.bool t7)).setCell (ptr (.slice s1 N s3) (t*3+1)) (.slice a71 l71 k71)).setCell (ptr (.slice s1 N s3) (t*3+2)) (.slice a72 l72 k72):=⟨_,rfl⟩;(rw[<-hw8]at HLP HCP HBP |-);clear hw8;have HLT:=zH HLP.o;have HC8:=zH HCP.o;have HBR:=zH HBP.o;clear HLP HCP HBP;obtain⟨ts,as1,ls1,ks1,as2,ls2,ks2,g1,g2,g3,hfs⟩:=(HEA.o.bw HBR.o).cellsAt (k:=i) (by rw[HLA.o.el];exact HIA.o);have HFX:zI (zia w8 (.agg #[.bool ts, .slice as1 ls1 ks1, .slice as2 ls2 ks2]) (exQ a i)):=zH hfs;obtain⟨us,bs1,ms1,os1,bs2,ms2,os2,h1,h2,h3,hft⟩:=(HEB.o.bw HBR.o).cellsAt (k:=j) (by rw[HLB.o.el];exact HJB.o);have HFY:zI (zia w8 (.agg #[.bool us, .slice bs1 ms1 os1, .slice bs2 ms2 os2]) (exQ b j)):=zH hft;clear hfs hft;go_upto_region 15 with fail;obtain⟨-,c0,c1,c2,c3,-,-,-,-⟩:=HC1.o.bS HBR.o;obtain⟨-,d0,d1,d2,d3,-,-,-,-⟩:=HC2.o.bS HBR.o;obtain⟨-,q0,q1,q2,q3,-,-,-,-⟩:=HC8.o;refine wpL.st9 15 q3 c3 g1 g2 g3 d3 h1 h2 h3 (λ wd hbD hHeld=> ?_);have HLD:=zH (HLT.o.bw hbD);have HCD:=zH (HC8.o.bS hbD);have HBD:=zH (zea HBR.o hbD HBR.o.size);have HFD:=zH (HFX.o.bw hbD);have HFE:=zH (HFY.o.bw hbD);clear hbD HLT HC8 HBR c0 c1 c2 c3 d0 d1 d2 d3 q0 q1 q2 q3 g1 g2 g3 h1 h2 h3;refine zU 0 ?_;refine zY 1 ?_;refine zU 2 ?_;refine zU 3 ?_;refine zY 4 ?_;refine zU 5 ?_;refine zU 6 ?_;refine zY 7 ?_;refine zU 8 ?_;refine zY 9 ?_;refine zU 10 ?_;refine zU 11 ?_;refine zY 12 ?_;(refine zCF 13 185 #[.agg #[.bool ts, .slice as1 ls1 ks1, .slice as2 ls2 ks2], .agg #[.bool us, .slice bs1 ms1 os1, .slice bs2 ms2 os2]] (zsl _ _ _ _ _ HFD.o HFE.o HLY.o.1 HLY.o.2.1 HLY.o.2.2) λ t7 a71 l71 k71 a72 l72 k72 w7 hv7 hb7=>⟨kcl9 hb7 hHeld,λ hH7=> ?_⟩);clear hHeld;have L7:=HLD.o.bw hb7;have hput:=L7.putE (e':=wr1 (λ r=>r<t+1) (fiE a b)) htN (λ k _ hk=>zvg (Or.inl zO)) (zbi (zSS t) HVE.o hv7);have hrow:=L7.e;(have hjR:=show t<(zxa N (wr1 (λ r=>r<t) (fiE a b))).length by rw[zda];exact htN);obtain⟨y0,z0,y1,y2,y3,y4,f0,f1,f2,slo,n01,n02,n12⟩:=hrow.prep hjR;have HCP:=zH ((HCD.o.bS hb7).putJ hrow hjR (.bool t7) (.slice a71 l71 k71) (.slice a72 l72 k72));have HLP:=zH hput.1;have HBP:=zH ((zea HBD.o hb7 HBD.o.size).trans hput.2);clear L7 hput hrow HLD HCD HBD hb7 hv7 HFD HFE;refine zPA 14 hH7 ?_;refine zPB 15 ?_;clear y2 y3 y4 f0 f1 f2 n01 n02 n12 hH7;clear HFX HFY HLY HVE;generalize ((w7.setCell (ptr (.slice e1 N e3) (t*3)) (.bool t7)).setCell (ptr (.slice e1 N e3) (t*3+1)) (.slice a71 l71 k71)).setCell (ptr (.slice e1 N e3) (t*3+2)) (.slice a72 l72 k72)=w9 at *
      go_wp2_with fail;go_loopg [12] (enA) (λ g u12 wr=>∃ (k:Nat),k<=enA/\g=enA-k/\u12= .int .i64 k/\znd wr W2.heap.size (.slice s1 N s3) (.slice e1 N e3) (.slice r1 N r3) rs N (wr1 (λ r=>r<t+1) (bfS a b)) (wr1 (λ r=>r<t+1) (fiE a b)) (wr2 (PA enB i j t k) (bfr a b))/\C4 wr b8 (.string { data:=#[] }) (.slice s1 N s3) (.slice r1 N r3) (.slice e1 N e3)/\Below W2.heap.size W2 wr);case atStart=>exact⟨0,zZL _,rfl,rfl,HLP.o.congr (λ _ _=>rfl) (λ _ _=>rfl) (λ r c _ _=>zce (Or.inl PA_zero.symm)),HCP.o,HBP.o⟩
      case round=>
       clear HLP HCP HBP;obtain⟨k,hkn,hgk,rfl,hlt,hc8,hbr⟩:=hrel;obtain⟨wz,hwx⟩:∃w6,w6=wr:=⟨_,rfl⟩;subst hwx;have HGk:=zH hgk;have HLT:=zH hlt;have HC8:=zH hc8;have HBR:=zH hbr;clear hgk hlt hc8 hbr;by_cases hkl:k<enA
       ·have k1:(0:Int)<=(k:Int):=zO;have k2:(k:Int)<(enA:Nat):=zO;by_cases hke:k=i
        ·(have hne:((k:Int) != (i:Int))=false:=by simp;omega);have HKE:=zH hke;clear hke;go_wp2_with fail;go_roundg (enA- (k+1));(case measure=>(have:=HGk.o;omega));case rel=>exact⟨k+1,zO,rfl,by go_num,HLT.o.congr (λ _ _=>rfl) (λ _ _=>rfl) (λ r c _ _=>zce (Or.inl (by rw[HKE.o];exact PA_skip))),HC8.o,HBR.o⟩
        ·(have hne:((k:Int) != (i:Int))=true:=by simp;omega);have HKE:=zH hke;obtain⟨ck,hck⟩:∃x,k*enB+j=x:=⟨_,rfl⟩;(have hckN:ck<N:=by rw[<-HNN.o,<-hck];exact zfm hkl hjl);obtain⟨p2,hp2⟩:∃p,k*enB=p:=⟨_,rfl⟩;(have p26:p2<=16:=by rw[<-hp2];exact zei zO m4);have hwk1:IntKind.i64.wrap ((k:Int)*(enB:Int))=((p2:Nat):Int):=zti zO m4 hp2;have hwk2:IntKind.i64.wrap ((p2:Int)+(j:Int))=((ck:Nat):Int):=zil p26 zO (by rw[<-hp2];exact hck);clear hp2 p26;have k3:(0:Int)<=(ck:Int):=zO;have k4:(ck:Int)<(N:Nat):=zO;have HCK:=zH hck;have HKX:zI (k<a.start.length):=zH (by rw[HNA.o];exact hkl);have hir:=HLA.o.rlen HIA.o;obtain⟨rw1,hrv,hrow⟩:=HRA.o.at' i hir;rw[<-HLA.o.rget HIA.o]at hrow;obtain⟨ua,un,uk,rfl,_⟩:=id hrow.sl;have srow:=hrow.sl;(have hun:un=enA:=by have h:=hrow.len;rw[HLA.o.rowlen HIA.o,HNA.o]at h;exact h);rw[hun]at hrv hrow srow;clear hun;obtain⟨ts,as1,ls1,ks1,as2,ls2,ks2,g1,g2,g3,hfs⟩:=(hrow.bw HBR.o).cellsAt (k:=k) (by rw[HLA.o.rowlen HIA.o];exact HKX.o);have HFX:zI (zia wz (.agg #[.bool ts, .slice as1 ls1 ks1, .slice as2 ls2 ks2]) (rtQ a i k)):=zH hfs;have HLX:zI (fits (rtQ a i k)):=zH (HLA.o.rt_lim HIA.o HKX.o).fits;have HVT:zI (bfr a b t ck=rtQ a i k):=zH (by rw[<-hck];exact bfr_a HNB.o HJL.o HT.o HKE.o);have hri:=zba HBR.o hrv;(have hi9:t<rs.length:=by rw[HLT.o.rsl];exact htN);have s2c:=HLT.o.ra.cell t hi9;(have hRi:t<(zfg N (wr2 (PA enB i j t k) (bfr a b))).length:=by rw[zgb];exact htN);have hrw:=HLT.o.rows t hi9 hRi;obtain⟨z1,z2,z3,ho,_⟩:=id hrw.sl;(obtain rfl:z2=N:=by have h:=hrw.fracs.len;rw[ho,zeb,zda]at h;exact h);rw[ho]at s2c;have HO:=zH ho;have sR:=HLT.o.ra.sl;clear hrw ho;clear hfs hrv hrow hck hke;go_upto_region 20 with fail;obtain⟨-,c0,c1,c2,c3,-,-,-,-⟩:=HC1.o.bS HBR.o;obtain⟨-,q0,q1,q2,q3,-,-,-,-⟩:=HC8.o;refine wpL.st7 20 q2 s2c c2 hri g1 g2 g3 (λ wd hbD hHeld=> ?_);have HLD:=zH (HLT.o.bw hbD);have HCD:=zH (HC8.o.bS hbD);have HBD:=zH (zea HBR.o hbD HBR.o.size);have HFD:=zH (HFX.o.bw hbD);clear hbD HLT HC8 HBR c0 c1 c2 c3 q0 q1 q2 q3 g1 g2 g3 hri s2c;refine zU 0 ?_;refine zY 1 ?_;refine zU 2 ?_;refine zU 3 ?_;refine zY 4 ?_;refine zU 5 ?_;refine zU 6 ?_;refine zU 7 ?_;refine zU 8 ?_;refine zU 9 ?_;refine zU 10 ?_;refine zY 11 ?_;refine zU 12 ?_;refine zU 13 ?_;refine zY 14 ?_;refine zU 15 ?_;refine zU 16 ?_;refine zY 17 ?_;(refine zCF 18 92 #[.agg #[.bool ts, .slice as1 ls1 ks1, .slice as2 ls2 ks2]] (zcd _ _ _ HFD.o HLX.o) λ t7 a71 l71 k71 a72 l72 k72 w7 hv7 hb7=>⟨kcl7 hb7 hHeld,λ hH7=> ?_⟩);clear hHeld;have L7:=HLD.o.bw hb7;have hput:=L7.putR (g:=(wr2 (PA enB i j t (k+1)) (bfr a b))) hi9 hckN (λ r c _ _ hne=>zce (Or.inl (PA_put (by rw[HCK.o];exact hne)))) (zon (by rw[<-HCK.o];exact PA_at HJL.o HKE.o) HVT.o hv7);rw[HO.o]at hput;have hrow:=L7.rows t hi9 hRi;rw[HO.o]at hrow;(have hjR:=show ck<((zfg z2 (wr2 (PA enB i j t k) (bfr a b)))[t]'hRi).length by rw[zeb,zda];exact hckN);obtain⟨y0,z0,y1,y2,y3,y4,f0,f1,f2,slo,n01,n02,n12⟩:=hrow.prep hjR;have HCP:=zH ((HCD.o.bS hb7).putJ hrow hjR (.bool t7) (.slice a71 l71 k71) (.slice a72 l72 k72));have HLP:=zH hput.1;have HBP:=zH ((zea HBD.o hb7 HBD.o.size).trans hput.2);clear L7 hput hrow HLD HCD HBD hb7 hv7 HFD;refine zPA 19 hH7 ?_;refine zPB 20 ?_;clear y2 y3 y4 f0 f1 f2 n01 n02 n12 hH7;go_wp2_with fail;go_roundg (enA- (k+1));(case measure=>(have:=HGk.o;omega));case rel=>exact⟨k+1,zO,rfl,by go_num,HLP.o,HCP.o,HBP.o⟩
       ·obtain rfl:k=enA:=zO;go_wp2_with fail;go_loopg [13] (enB) (λ g u13 wr=>∃ (k:Nat),k<=enB/\g=enB-k/\u13= .int .i64 k/\znd wr W2.heap.size (.slice s1 N s3) (.slice e1 N e3) (.slice r1 N r3) rs N (wr1 (λ r=>r<t+1) (bfS a b)) (wr1 (λ r=>r<t+1) (fiE a b)) (wr2 (PB enB i j t k) (bfr a b))/\C4 wr b8 (.string { data:=#[] }) (.slice s1 N s3) (.slice r1 N r3) (.slice e1 N e3)/\Below W2.heap.size W2 wr);case atStart=>exact⟨0,zZL _,rfl,rfl,HLT.o.congr (λ _ _=>rfl) (λ _ _=>rfl) (λ r c _ hc=>zce (Or.inl (PA_end (by rw[HNN.o];exact hc)))),HC8.o,HBR.o⟩
        case round=>
         clear HLT HC8 HBR;obtain⟨k,hkn,hgk,rfl,hlt,hc8,hbr⟩:=hrel;obtain⟨wv,hwx⟩:∃w6,w6=wr:=⟨_,rfl⟩;subst hwx;have HGk:=zH hgk;have HLT:=zH hlt;have HC8:=zH hc8;have HBR:=zH hbr;clear hgk hlt hc8 hbr;by_cases hkl:k<enB
         ·have k1:(0:Int)<=(k:Int):=zO;have k2:(k:Int)<(enB:Nat):=zO;by_cases hke:k=j
          ·(have hne:((k:Int) != (j:Int))=false:=by simp;omega);have HKE:=zH hke;clear hke;go_wp2_with fail;go_roundg (enB- (k+1));(case measure=>(have:=HGk.o;omega));case rel=>exact⟨k+1,zO,rfl,by go_num,HLT.o.congr (λ _ _=>rfl) (λ _ _=>rfl) (λ r c _ _=>zce (Or.inl (by rw[HKE.o];exact PB_skip))),HC8.o,HBR.o⟩
          ·(have hne:((k:Int) != (j:Int))=true:=by simp;omega);have HKE:=zH hke;obtain⟨ck,hck⟩:∃x,i*enB+k=x:=⟨_,rfl⟩;(have hckN:ck<N:=by rw[<-HNN.o,<-hck];exact zfm hil hkl);have hwk2:IntKind.i64.wrap ((p1:Int)+(k:Int))=((ck:Nat):Int):=zil HP16.o zO (by rw[<-HP1.o];exact hck);have k3:(0:Int)<=(ck:Int):=zO;have k4:(ck:Int)<(N:Nat):=zO;have HCK:=zH hck;have HKX:zI (k<b.start.length):=zH (by rw[HNB.o];exact hkl);have hir:=HLB.o.rlen HJB.o;obtain⟨rw1,hrv,hrow⟩:=HRB.o.at' j hir;rw[<-HLB.o.rget HJB.o]at hrow;obtain⟨ua,un,uk,rfl,_⟩:=id hrow.sl;have srow:=hrow.sl;(have hun:un=enB:=by have h:=hrow.len;rw[HLB.o.rowlen HJB.o,HNB.o]at h;exact h);rw[hun]at hrv hrow srow;clear hun;obtain⟨ts,as1,ls1,ks1,as2,ls2,ks2,g1,g2,g3,hfs⟩:=(hrow.bw HBR.o).cellsAt (k:=k) (by rw[HLB.o.rowlen HJB.o];exact HKX.o);have HFX:zI (zia wv (.agg #[.bool ts, .slice as1 ls1 ks1, .slice as2 ls2 ks2]) (rtQ b j k)):=zH hfs;have HLX:zI (fits (rtQ b j k)):=zH (HLB.o.rt_lim HJB.o HKX.o).fits;have HVT:zI (bfr a b t ck=rtQ b j k):=zH (by rw[<-hck];exact bfr_b HNB.o HJL.o hkl HT.o HKE.o);have hri:=zba HBR.o hrv;(have hi9:t<rs.length:=by rw[HLT.o.rsl];exact htN);have s2c:=HLT.o.ra.cell t hi9;(have hRi:t<(zfg N (wr2 (PB enB i j t k) (bfr a b))).length:=by rw[zgb];exact htN);have hrw:=HLT.o.rows t hi9 hRi;obtain⟨z1,z2,z3,ho,_⟩:=id hrw.sl;(obtain rfl:z2=N:=by have h:=hrw.fracs.len;rw[ho,zeb,zda]at h;exact h);rw[ho]at s2c;have HO:=zH ho;have sR:=HLT.o.ra.sl;clear hrw ho;clear hfs hrv hrow hck hke;go_upto_region 25 with fail;obtain⟨-,d0,d1,d2,d3,-,-,-,-⟩:=HC2.o.bS HBR.o;obtain⟨-,q0,q1,q2,q3,-,-,-,-⟩:=HC8.o;refine wpL.st7 20 q2 s2c d2 hri g1 g2 g3 (λ wd hbD hHeld=> ?_);have HLD:=zH (HLT.o.bw hbD);have HCD:=zH (HC8.o.bS hbD);have HBD:=zH (zea HBR.o hbD HBR.o.size);have HFD:=zH (HFX.o.bw hbD);clear hbD HLT HC8 HBR d0 d1 d2 d3 q0 q1 q2 q3 g1 g2 g3 hri s2c;refine zU 0 ?_;refine zY 1 ?_;refine zU 2 ?_;refine zU 3 ?_;refine zY 4 ?_;refine zU 5 ?_;refine zU 6 ?_;refine zU 7 ?_;refine zU 8 ?_;refine zU 9 ?_;refine zU 10 ?_;refine zY 11 ?_;refine zU 12 ?_;refine zU 13 ?_;refine zY 14 ?_;refine zU 15 ?_;refine zU 16 ?_;refine zY 17 ?_;(refine zCF 18 92 #[.agg #[.bool ts, .slice as1 ls1 ks1, .slice as2 ls2 ks2]] (zcd _ _ _ HFD.o HLX.o) λ t7 a71 l71 k71 a72 l72 k72 w7 hv7 hb7=>⟨kcl7 hb7 hHeld,λ hH7=> ?_⟩);clear hHeld;have L7:=HLD.o.bw hb7;have hput:=L7.putR (g:=(wr2 (PB enB i j t (k+1)) (bfr a b))) hi9 hckN (λ r c _ _ hne=>zce (Or.inl (PB_put (by rw[HCK.o];exact hne)))) (zon (by rw[<-HCK.o];exact PB_at hkl HKE.o) HVT.o hv7);rw[HO.o]at hput;have hrow:=L7.rows t hi9 hRi;rw[HO.o]at hrow;(have hjR:=show ck<((zfg z2 (wr2 (PB enB i j t k) (bfr a b)))[t]'hRi).length by rw[zeb,zda];exact hckN);obtain⟨y0,z0,y1,y2,y3,y4,f0,f1,f2,slo,n01,n02,n12⟩:=hrow.prep hjR;have HCP:=zH ((HCD.o.bS hb7).putJ hrow hjR (.bool t7) (.slice a71 l71 k71) (.slice a72 l72 k72));have HLP:=zH hput.1;have HBP:=zH ((zea HBD.o hb7 HBD.o.size).trans hput.2);clear L7 hput hrow HLD HCD HBD hb7 hv7 HFD;refine zPA 19 hH7 ?_;refine zPB 20 ?_;clear y2 y3 y4 f0 f1 f2 n01 n02 n12 hH7;go_wp2_with fail;go_roundg (enB- (k+1));(case measure=>(have:=HGk.o;omega));case rel=>exact⟨k+1,zO,rfl,by go_num,HLP.o,HCP.o,HBP.o⟩
         ·obtain rfl:k=enB:=zO;go_wp2_with fail;go_roundg (k- (j+1));(case measure=>(have:=HGj.o;omega));case rel=>exact⟨j+1,zO,rfl,by go_num,by rw[HTS.o];exact HLT.o.congr (λ _ _=>rfl) (λ _ _=>rfl) (λ r c _ _=>zce (PB_end HNB.o zO HJL.o HT.o)),HC8.o,HBR.o⟩
     ·obtain rfl:j=enB:=zO;go_wp2_with fail;go_roundg (enA- (i+1));(case measure=>(have:=HGi.o;omega));case rel=>exact⟨i+1,zO,rfl,by go_num,by rw[Nat.succ_mul];exact HLT.o,HC8.o,HBR.o⟩
   ·obtain rfl:i=enA:=zO;have hfn:znd wx W2.heap.size (.slice s1 N s3) (.slice e1 N e3) (.slice r1 N r3) rs N (bfS a b) (fiE a b) (bfr a b):=HLT.o.congr (λ r hr=>zbk (by have h:=HNN.o;(try dsimp only);omega)) (λ r hr=>zbk (by have h:=HNN.o;(try dsimp only);omega)) (λ r c hr _=>wr2_at (by have h:=HNN.o;(try dsimp only);omega));have HLF:=zH hfn;(have hsL:firL a b=fnL N (bfS a b) (fiE a b) (bfr a b):=by unfold firL bfN;rw[HNA.o,HNB.o,HNN.o]);have HSL:=zH hsL;have HCH:zI (∀w0,Below wx.heap.size wx w0->Calls Tryz.prog 184 #[.agg #[.string { data:=#[] }, .slice s1 N s3, .slice r1 N r3, .slice e1 N e3]] w0 (λ e w'=>e= .returned (.tuple #[.agg #[.string { data:=#[] }, .slice s1 N s3, .slice r1 N r3, .slice e1 N e3], .int .i64 0])/\Below w0.heap.size w0 w')):=zH (λ w0 h=>zwq _ (fnL N (bfS a b) (fiE a b) (bfr a b)) w0 ((HLF.o.bw h).lawE) (by rw[<-HSL.o];exact HLS.o));clear hfn hsL;obtain⟨-,q0,q1,q2,q3,-,-,-,-⟩:=HC8.o
    go_wp2_with (first
     |(go_at_call 184;(with_reducible refine(HCH.o _ (zBR _ _)).mono ?_);rintro e9 w9 ⟨rfl,hb9⟩;have HT9:=zH (HC3.o.bS (zaa HBR.o hb9));have HB9:=zH (zaa HBW.o (zaa HBR.o hb9));have HL9:=zH (HLF.o.bw hb9);clear q0 q1 q2 q3;obtain⟨-,q0,q1,q2,q3,f0,f1,f2,f3⟩:=HT9.o;clear hb9))
    refine zdb rfl rfl Tryz.aggL Tryz.sizeL (HT9.o.set _ _ _ _) rfl ?_;refine⟨λ _=>⟨_,rfl,?_,zjb HB9.o (Nat.le_succ_of_le (zLS _)) _ _ _ _⟩,λ h=>absurd HAB.o h⟩;rw[HSL.o];exact(znd.set4' HL9.o hN1 HT9.o).lawE
end Go.Proofs.YtlpdkbmmbdfoiaaGreat
