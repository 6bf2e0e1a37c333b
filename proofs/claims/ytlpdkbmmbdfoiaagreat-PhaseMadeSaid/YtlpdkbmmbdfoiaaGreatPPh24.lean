/- Lemmas. -/
import Derived.Test.YtlpdkbmmbdfoiaaGreatPPh23
set_option linter.unusedVariables false
set_option linter.unusedSimpArgs false
namespace Go.Proofs.YtlpdkbmmbdfoiaaGreat
open Go.RowKit
def zie (a b:LQ) (t:Nat) (G:Nat->Rat):Mx:=λ r c=>if r<t then bfr a b r c else if r=t then G c else 0
def fiSf (a b:LQ) (t:Nat):Nat->Rat:=λ r=>if r<t then bfS a b r else 0
def fiEf (a b:LQ) (t:Nat):Nat->Rat:=λ r=>if r<t then fiE a b r else 0
def fi1 (a:LQ) (m i j k:Nat):Nat->Rat:=λ c=>if c%m=j/\c/m<k then rtQ a i (c/m)else 0
def fi2 (a b:LQ) (m i j k:Nat):Nat->Rat:=λ c=>(if c%m=j then rtQ a i (c/m)else 0)+if c/m=i/\c%m<k then rtQ b j (c%m)else 0
section
variable {a b:LQ} {t r c m i j k:Nat} {G H:Nat->Rat}
theorem fiRow_zero (r c:Nat):(0:Rat)=zie a b 0 (λ _=>0) r c:=by
 unfold zie;rw[zIN zO];split<;>rfl
theorem zbp (h:∀c,c<t->G c=H c) (hc:c<t):zie a b i G r c=zie a b i H r c:=by
 unfold zie;by_cases h1:r<i
 ·rw[zIP h1,zIP h1]
 ·rw[zIN h1,zIN h1,h c hc]
theorem fiRow_put {x:Nat} (h:∀y,y≠x->G y=H y) (hne:¬ (r=t/\c=x)):zie a b t G r c=zie a b t H r c:=by
 unfold zie;by_cases h1:r<t
 ·rw[zIP h1,zIP h1]
 ·rw[zIN h1,zIN h1];by_cases h2:r=t
  ·rw[zIP h2,zIP h2,h c (λ e=>hne ⟨h2,e⟩)]
  ·rw[zIN h2,zIN h2]
theorem zhn :zie a b t G t c=G c:=by
 unfold zie;rw[zIN (zIR t),zIP rfl]
theorem fiRow_next {N:Nat} (h:∀c,c<N->G c=bfr a b t c) (hc:c<N):zie a b t G r c=zie a b (t+1) (λ _=>0) r c:=by
 unfold zie;by_cases h1:r<t
 ·rw[zIP h1,zIP zO]
 ·rw[zIN h1];by_cases h2:r=t
  ·subst h2;rw[zIP rfl,zIP zO];exact h c hc
  ·rw[zIN h2,zIN zO];split<;>rfl
theorem fiSf_put (h:r≠t):fiSf a b t r=fiSf a b (t+1) r:=by
 unfold fiSf;by_cases h1:r<t
 ·rw[zIP h1,zIP zO]
 ·rw[zIN h1,zIN zO]
theorem fiSf_at :fiSf a b (t+1) t=bfS a b t:=by unfold fiSf;rw[zIP zO]
theorem fiEf_put (h:r≠t):fiEf a b t r=fiEf a b (t+1) r:=by
 unfold fiEf;by_cases h1:r<t
 ·rw[zIP h1,zIP zO]
 ·rw[zIN h1,zIN zO]
theorem fiEf_at :fiEf a b (t+1) t=fiE a b t:=by unfold fiEf;rw[zIP zO]
theorem fi1_zero (c:Nat):(0:Rat)=fi1 a m i j 0 c:=by unfold fi1;rw[zIN (λ h=>absurd h.2 (zNZ _))]
theorem fi1_put (hj:j<m) (h:c≠k*m+j):fi1 a m i j k c=fi1 a m i j (k+1) c:=by
 unfold fi1;by_cases h1:c%m=j/\c/m<k
 ·rw[zIP h1,zIP ⟨h1.1,zO⟩]
 ·rw[zIN h1];by_cases h2:c%m=j/\c/m<k+1
  ·exfalso;have h3:c/m=k:=Nat.le_antisymm (Nat.lt_succ_iff.1 h2.2) (Nat.not_lt.1 λ h=>h1 ⟨h2.1,h⟩);exact h (by rw[<-h3,<-h2.1];exact zgm.symm)
  ·rw[zIN h2]
theorem fi1_at (hj:j<m):fi1 a m i j k (k*m+j)+rtQ a i k=fi1 a m i j (k+1) (k*m+j):=by
 unfold fi1;rw[zhc hj,zrc hj,zIN (λ h=>absurd h.2 (zIR _)),zIP ⟨rfl,zSS _⟩,Rat.zero_add]
theorem fi_meet {n:Nat} (hc:c<n*m):fi1 a m i j n c=fi2 a b m i j 0 c:=by
 have h4:c/m<n:=Nat.div_lt_of_lt_mul (by rw[Nat.mul_comm];exact hc);unfold fi1 fi2;rw[zIN (show ¬ (c/m=i/\c%m<0)from λ h=>absurd h.2 (zNZ _)),Rat.add_zero];by_cases h:c%m=j
 ·rw[zIP ⟨h,h4⟩,zIP h]
 ·rw[zIN (λ e=>h e.1),zIN h]
theorem fi2_put (h:c≠i*m+k):fi2 a b m i j k c=fi2 a b m i j (k+1) c:=by
 unfold fi2
 congr 1
 by_cases h1:c/m=i/\c%m<k
 ·rw[zIP h1,zIP ⟨h1.1,zO⟩]
 ·rw[zIN h1];by_cases h2:c/m=i/\c%m<k+1
  ·exfalso;have h3:c%m=k:=Nat.le_antisymm (Nat.lt_succ_iff.1 h2.2) (Nat.not_lt.1 λ h=>h1 ⟨h2.1,h⟩);exact h (by rw[<-h3,<-h2.1];exact zgm.symm)
  ·rw[zIN h2]
theorem fi2_at (hk:k<m):fi2 a b m i j k (i*m+k)+rtQ b j k=fi2 a b m i j (k+1) (i*m+k):=by
 unfold fi2;rw[zhc hk,zrc hk,zIN (show ¬ (i=i/\k<k)from λ h=>absurd h.2 (zIR _)),zIP (show i=i/\k<k+1 from⟨rfl,zSS _⟩),Rat.add_zero]
theorem fi2_all (ha:znb a) (hb:znb b) (hi:i<a.start.length) (hj:j<b.start.length) (hc:c<bfN a b):fi2 a b b.start.length i j b.start.length c=bfr a b (i*b.start.length+j) c:=by
 obtain⟨c1,c2⟩:=ztg hb hc;unfold fi2 bfr;rw[zhc hj,zrc hj];by_cases h:c=i*b.start.length+j
 ·have e1:c/b.start.length=i:=by rw[h,zhc hj]
  have e2:c%b.start.length=j:=by rw[h,zrc hj]
  rw[zIP h,e1,e2,zIP rfl,zIP ⟨rfl,hj⟩,ha.rt_diag hi,hb.rt_diag hj];grind
 ·rw[zIN h];by_cases h1:c%b.start.length=j
  ·(have h2:¬c/b.start.length=i:=λ e=>h (by rw[<-e,<-h1];exact zgm.symm));rw[zIP h1,zIP h1,zIN (λ e=>h2 e.1),Rat.add_zero]
  ·rw[zIN h1,zIN h1];by_cases h2:c/b.start.length=i
   ·rw[zIP ⟨h2,c2⟩,zIP h2,Rat.zero_add]
   ·rw[zIN (λ e=>h2 e.1),zIN h2,Rat.zero_add]
theorem fi1_lim (ha:znb a) (hi:i<a.start.length) (hc:c<a.start.length*m):zqf (fi1 a m i j k c):=by
 unfold fi1;split
 ·exact ha.rt_lim hi (Nat.div_lt_of_lt_mul (by rw[Nat.mul_comm];exact hc))
 ·exact zfd
theorem fi2_fits (ha:znb a) (hb:znb b) (hi:i<a.start.length) (hj:j<b.start.length) (hk:k<b.start.length):fits (fi2 a b b.start.length i j k (i*b.start.length+k))/\fits (fi2 a b b.start.length i j (k+1) (i*b.start.length+k)):=by
 have e:fi2 a b b.start.length i j k (i*b.start.length+k)=0:=by
  unfold fi2;rw[zhc hk,zrc hk,zIN (show ¬ (i=i/\k<k)from λ h=>absurd h.2 (zIR _)),ha.rt_diag hi];split<;>decide+kernel
 refine⟨by rw[e];decide,?_⟩;rw[<-fi2_at hk,e,Rat.zero_add];exact(hb.rt_lim hj hk).fits
end
theorem wrap_sm (a b:Nat) (h:a*b<=16):IntKind.i64.wrap ((a:Int)*(b:Int))=((a*b:Nat):Int):=by
 rw[<-Int.natCast_mul];generalize a*b=m at *
 rw[zac zO zO]
theorem wrap_sa (a b c:Nat) (h:a+b=c) (hc:c<=100):IntKind.i64.wrap ((a:Int)+(b:Int))=((c:Nat):Int):=by
 rw[zac zO zO];omega
set_option maxRecDepth 100000 in
set_option maxHeartbeats 12800000 in
theorem pfir_sz (va vb:Value) (a b:LQ) (w:World) (ha:zgd w va a) (hb:zgd w vb b) (hla:znb a) (hlb:znb b) (hls:a.start.length*b.start.length<=4->znb (firL a b)):
 Calls Tryz.prog 57 #[va,vb] w (RSz (a.start.length*b.start.length<=4) w (firL a b)):=by
 obtain⟨saA,skA,raA,rkA,eaA,ekA,enA,rfl,hn,hsA,hrA,heA,n1,n4⟩:=ha.pre hla;obtain⟨saB,skB,raB,rkB,eaB,ekB,enB,rfl,hm,hsB,hrB,heB,m1,m4⟩:=hb.pre hlb;obtain⟨N,hNN⟩:∃N,enA*enB=N:=⟨_,rfl⟩;have hN1:1<=N:=by rw[<-hNN];exact Nat.mul_pos n1 m1
 obtain⟨hc1,hc2,hc3,hbw⟩:=zzk w 52 (.string { data:=#[] }) (.slice saA enA skA) (.slice raA enA rkA) (.slice eaA enA ekA) (.string { data:=#[] }) (.slice saB enB skB) (.slice raB enB rkB) (.slice eaB enB ekB) (.string { data:=#[] }) (.slice none 0 0) (.slice none 0 0) (.slice none 0 0);have HC1:=zH hc1;have HC2:=zH hc2;have HC3:=zH hc3;have HBW:=zH hbw;have HA:=zH (ha.bw hbw);have HB:=zH (hb.bw hbw);have HSA:=zH (hsA.bw hbw);have HEA:=zH (heA.bw hbw);have HSB:=zH (hsB.bw hbw);have HEB:=zH (heB.bw hbw);have HLA:=zH hla;have HLB:=zH hlb;have HLS0:=zH hls;have HNA:=zH hn;have HNB:=zH hm;have HNN:=zH hNN;have ssA:=hsA.sl;have seA:=heA.sl;have ssB:=hsB.sl;have seB:=heB.sl;have srA:=hrA.sl;have srB:=hrB.sl;have hwN:IntKind.i64.wrap ((enA:Int)*(enB:Int))=((N:Nat):Int):=by rw[wrap_sm enA enB (zMM n4 m4),hNN]
 have HRA:=zH (hrA.bw hbw);have HRB:=zH (hrB.bw hbw);clear hc1 hc2 hc3 hbw hsA hrA heA hsB hrB heB hla hlb hls hn hm hNN ha hb;go_enter Tryz.func57,Tryz.ntmps57;go_upto_region 1 with fail;generalize ((w.alloc (.cells #[.string { data:=#[] }, .slice saA enA skA, .slice raA enA rkA, .slice eaA enA ekA] 52)).alloc (.cells #[.string { data:=#[] }, .slice saB enB skB, .slice raB enB rkB, .slice eaB enB ekB] 52)).alloc (.cells #[.string { data:=#[] }, .slice none 0 0, .slice none 0 0, .slice none 0 0] 52)=W2 at *
 obtain⟨-,c0,c1,c2,c3,-,-,-,-⟩:=HC1.o;obtain⟨-,d0,d1,d2,d3,-,-,-,-⟩:=HC2.o;by_cases hN4:N<=4
 case neg=>
  have HZ:zI ((2:Int)=if 4<a.start.length*b.start.length then 2 else 0):=zH (by rw[zIP (by rw[HNA.o,HNB.o,HNN.o];omega)]);have HNO:zI (¬a.start.length*b.start.length<=4):=zH (by rw[HNA.o,HNB.o,HNN.o];exact hN4);clear hN4 hwN
  go_wp2_with (first
   |(go_at_call 101;(with_reducible refine(zki _ _ a b _ HA.o.lawC HB.o.lawC HLA.o HLB.o _ _ 2 (Or.inr ⟨rfl,rfl⟩) HZ.o).mono ?_);rintro e3 w3 ⟨rfl,hb3⟩;have HT9:=zH (HC3.o.bS hb3);have HB9:=zH (zaa HBW.o hb3);clear c0 c1 c2 c3 d0 d1 d2 d3;obtain⟨-,c0,c1,c2,c3,f0,f1,f2,f3⟩:=HT9.o;clear hb3))
  refine zdb rfl rfl Tryz.aggL Tryz.sizeL (HT9.o.set _ _ _ _) rfl ?_;exact⟨λ h=>absurd h HNO.o,λ _=>⟨rfl,zjb HB9.o (Nat.le_succ_of_le (zLS _)) _ _ _ _⟩⟩
 have HAB:zI (a.start.length*b.start.length<=4):=zH (by rw[HNA.o,HNB.o,HNN.o];exact hN4);have HLS:=zH (HLS0.o HAB.o);clear HLS0
 go_upto_region 6 with(first
  |(go_at_call 101;(with_reducible refine(zcr _ _ a b _ HA.o.lawC HB.o.lawC HLA.o HLB.o HAB.o).mono ?_);rintro e3 w3 ⟨rfl,hb3⟩;have HB3:=zH hb3;clear c0 c1 c2 c3 d0 d1 d2 d3;obtain⟨-,c0,c1,c2,c3,-,-,-,-⟩:=HC1.o.bS hb3;obtain⟨-,d0,d1,d2,d3,-,-,-,-⟩:=HC2.o.bS hb3;clear hb3)
  |(go_at_call 87;(try rw[hwN]);(with_reducible refine(zfl N _ hN1 hN4).mono ?_);rintro e5 w5 ⟨vs,ve,vr,rs,rfl,hl5,hb5⟩;obtain⟨s1,s2,s3,rfl,_⟩:=id hl5.s.sl;obtain⟨r1,r2,r3,rfl,_⟩:=id hl5.ra.sl;obtain⟨e1,e2,e3,rfl,_⟩:=id hl5.e.sl;have hs2:s2=N:=(by have h:=hl5.s.fracs.len;rw[zpa]at h;exact h);have he2:e2=N:=(by have h:=hl5.e.fracs.len;rw[zpa]at h;exact h);have hr2:r2=N:=(by have h:=hl5.ra.len;rw[hl5.rl,zRP]at h;exact h);rw[hs2]at hl5 |-;rw[he2]at hl5 |-;rw[hr2]at hl5 |-;have hba:=zca w5 (.cells #[.string { data:=#[] }, .slice s1 N s3, .slice r1 N r3, .slice e1 N e3] 52);have HC8:=zH (C4.new w5 52 (.string { data:=#[] }) (.slice s1 N s3) (.slice r1 N r3) (.slice e1 N e3));have HLT:=zH ((hl5.bw hba).mono HB3.o.size).lawT;have HBR:=zH (zaa HB3.o (zaa hb5 hba));clear hl5 hb5 hba c0 c1 c2 c3 d0 d1 d2 d3 hs2 he2 hr2))
 obtain⟨b8,hb8⟩:∃b,w5.heap.size=b:=⟨_,rfl⟩;rw[hb8]at HC8 |-
 clear hb8 HB3;generalize w5.alloc (.cells #[.string { data:=#[] }, .slice s1 N s3, .slice r1 N r3, .slice e1 N e3] 52)=W6 at *
 obtain⟨-,c0,c1,c2,c3,-,-,-,-⟩:=HC1.o.bS HBR.o;go_wp2_with fail;clear c0 c1 c2 c3;go_loopg [35] (enA) (λ g u35 wr=>∃ (i:Nat),i<=enA/\g=enA-i/\u35= .int .i64 i/\znd wr W2.heap.size (.slice s1 N s3) (.slice e1 N e3) (.slice r1 N r3) rs N (fiSf a b (i*enB)) (fiEf a b (i*enB)) (zie a b (i*enB) (λ _=>0))/\C4 wr b8 (.string { data:=#[] }) (.slice s1 N s3) (.slice r1 N r3) (.slice e1 N e3)/\Below W2.heap.size W2 wr);case atStart=>exact⟨0,zZL _,rfl,rfl,by rw[Nat.zero_mul];exact HLT.o.congr (λ r _=>by unfold fiSf;rw[zIN zO]) (λ r _=>by unfold fiEf;rw[zIN zO]) (λ r c _ _=>fiRow_zero r c),HC8.o,HBR.o⟩
 case round=>
  obtain⟨i,hin,hgi,rfl,hlt,hc8,hbr⟩:=hrel;obtain⟨wx,hwx⟩:∃w6,w6=wr:=⟨_,rfl⟩;subst hwx;have HGi:=zH hgi;have HLT:=zH hlt;have HC8:=zH hc8;have HBR:=zH hbr;clear hgi hlt hc8 hbr;by_cases hil:i<enA
  ·have i1:(0:Int)<=(i:Int):=zO;have i2:(i:Int)<(enA:Nat):=zO;have HIA:zI (i<a.start.length):=zH (by rw[HNA.o];exact hil);obtain⟨M1,hM1⟩:∃M1,i*enB=M1:=⟨_,rfl⟩
   have hM4:M1+enB<=4:=by
    have h1:(i+1)*enB<=enA*enB:=zMR _ hil;rw[Nat.succ_mul,hM1,HNN.o]at h1;exact zLT h1 hN4
   have hMN:M1+enB<=N:=by
    have h1:(i+1)*enB<=enA*enB:=zMR _ hil;rw[Nat.succ_mul,hM1,HNN.o]at h1;exact h1
   (have hwa1:IntKind.i64.wrap ((i:Int)*(enB:Int))=((M1:Nat):Int):=by rw[wrap_sm i enB (by rw[hM1];omega),hM1]);have HM1:=zH hM1;rw[hM1]at HLT;clear hM1;obtain⟨-,d0,d1,d2,d3,-,-,-,-⟩:=HC2.o.bS HBR.o;go_wp2_with fail;clear d0 d1 d2 d3;go_loopg [41] (enB) (λ g u41 wr=>∃ (j:Nat),j<=enB/\g=enB-j/\u41= .int .i64 j/\znd wr W2.heap.size (.slice s1 N s3) (.slice e1 N e3) (.slice r1 N r3) rs N (fiSf a b (M1+j)) (fiEf a b (M1+j)) (zie a b (M1+j) (λ _=>0))/\C4 wr b8 (.string { data:=#[] }) (.slice s1 N s3) (.slice r1 N r3) (.slice e1 N e3)/\Below W2.heap.size W2 wr);case atStart=>exact⟨0,zZL _,rfl,rfl,HLT.o,HC8.o,HBR.o⟩
   case round=>
    clear HLT HC8 HBR;obtain⟨j,hjn,hgj,rfl,hlt,hc8,hbr⟩:=hrel;obtain⟨wy,hwx⟩:∃w6,w6=wr:=⟨_,rfl⟩;subst hwx;have HGj:=zH hgj;have HLT:=zH hlt;have HC8:=zH hc8;have HBR:=zH hbr;clear hgj hlt hc8 hbr;by_cases hjl:j<enB
    ·have j1:(0:Int)<=(j:Int):=zO;have j2:(j:Int)<(enB:Nat):=zO;have HJB:zI (j<b.start.length):=zH (by rw[HNB.o];exact hjl);obtain⟨A,hA⟩:∃A,M1+j=A:=⟨_,rfl⟩;have hAN:A<N:=zO;have hwa2:IntKind.i64.wrap ((M1:Int)+(j:Int))=((A:Nat):Int):=wrap_sa M1 j A hA zO;have a1:(0:Int)<=(A:Int):=zO;have a2:(A:Int)<(N:Nat):=zO;have HAE:zI (A=i*b.start.length+j):=zH (by rw[<-hA,<-HM1.o,HNB.o]);have HAJ:=zH hA;rw[hA]at HLT
     have HLX:zI (fits (stQ a i)/\fits (stQ b j)/\fits (stQ a i*stQ b j)/\fits (exQ a i)/\fits (exQ b j)/\fits (exQ a i+exQ b j)):=zH (by
      (have hA2:A<bfN a b:=by rw[HAE.o];exact zfm HIA.o HJB.o);have hl:=HLS.o.st_lim (i:=A) (by rw[show(firL a b).start.length=bfN a b from zzf];exact hA2);have he:=HLS.o.ex_lim (i:=A) (by rw[show(firL a b).start.length=bfN a b from zzf];exact hA2);rw[show stQ (firL a b) A=bfS a b A from fn_st hA2]at hl;rw[show exQ (firL a b) A=fiE a b A from fn_ex hA2]at he;unfold bfS at hl;unfold fiE at he;rw[HAE.o,zhc HJB.o,zrc HJB.o]at hl he;exact⟨(HLA.o.st_lim HIA.o).fits,(HLB.o.st_lim HJB.o).fits,hl.fits,(HLA.o.ex_lim HIA.o).fits,(HLB.o.ex_lim HJB.o).fits,he.fits⟩)
     have HSV:zI (bfS a b A=stQ a i*stQ b j/\fiE a b A=exQ a i+exQ b j):=zH (by
      unfold bfS fiE;rw[HAE.o,zhc HJB.o,zrc HJB.o];exact⟨rfl,rfl⟩)
     clear hA;obtain⟨ts,as1,ls1,ks1,as2,ls2,ks2,g1,g2,g3,hfs⟩:=(HSA.o.bw HBR.o).cellsAt (k:=i) HIA.o;have HFX:zI (zia wy (.agg #[.bool ts, .slice as1 ls1 ks1, .slice as2 ls2 ks2]) (stQ a i)):=zH hfs;obtain⟨us,bs1,ms1,os1,bs2,ms2,os2,h1,h2,h3,hft⟩:=(HSB.o.bw HBR.o).cellsAt (k:=j) HJB.o;have HFY:zI (zia wy (.agg #[.bool us, .slice bs1 ms1 os1, .slice bs2 ms2 os2]) (stQ b j)):=zH hft;clear hfs hft;go_upto_region 13 with fail;obtain⟨-,c0,c1,c2,c3,-,-,-,-⟩:=HC1.o.bS HBR.o;obtain⟨-,d0,d1,d2,d3,-,-,-,-⟩:=HC2.o.bS HBR.o;obtain⟨-,q0,q1,q2,q3,-,-,-,-⟩:=HC8.o;refine wpL.st9 15 q1 c1 g1 g2 g3 d1 h1 h2 h3 (λ wd hbD hHeld=> ?_);have HLD:=zH (HLT.o.bw hbD);have HCD:=zH (HC8.o.bS hbD);have HBD:=zH (zea HBR.o hbD HBR.o.size);have HFD:=zH (HFX.o.bw hbD);have HFE:=zH (HFY.o.bw hbD);clear hbD HLT HC8 HBR c0 c1 c2 c3 d0 d1 d2 d3 q0 q1 q2 q3 g1 g2 g3 h1 h2 h3;refine zU 0 ?_;refine zY 1 ?_;refine zU 2 ?_;refine zU 3 ?_;refine zY 4 ?_;refine zU 5 ?_;refine zU 6 ?_;refine zY 7 ?_;refine zU 8 ?_;refine zY 9 ?_;refine zU 10 ?_;refine zU 11 ?_;refine zY 12 ?_;(refine zCF 13 97 #[.agg #[.bool ts, .slice as1 ls1 ks1, .slice as2 ls2 ks2], .agg #[.bool us, .slice bs1 ms1 os1, .slice bs2 ms2 os2]] (zvl _ _ _ _ _ HFD.o HFE.o HLX.o.1 HLX.o.2.1 HLX.o.2.2.1) λ t7 a71 l71 k71 a72 l72 k72 w7 hv7 hb7=>⟨kcl9 hb7 hHeld,λ hH7=> ?_⟩);clear hHeld;have L7:=HLD.o.bw hb7;have hput:=L7.putS (s':=fiSf a b (A+1)) hAN (λ r _ hr=>fiSf_put hr) (by rw[fiSf_at,HSV.o.1];exact hv7);have hrow:=L7.s;(have hjR:=show A<(zxa N (fiSf a b A)).length by rw[zda];exact hAN);obtain⟨y0,z0,y1,y2,y3,y4,f0,f1,f2,slo,n01,n02,n12⟩:=hrow.prep hjR;have HCP:=zH ((HCD.o.bS hb7).putJ hrow hjR (.bool t7) (.slice a71 l71 k71) (.slice a72 l72 k72));have HLP:=zH hput.1;have HBP:=zH ((zea HBD.o hb7 HBD.o.size).trans hput.2);clear L7 hput hrow HLD HCD HBD hb7 hv7 HFD HFE;refine zPA 14 hH7 ?_;refine zPB 15 ?_;clear y2 y3 y4 f0 f1 f2 n01 n02 n12 hH7;clear HFX HFY;generalize ((w7.setCell (ptr (.slice s1 N s3) (A*3)) (.bool t7)).setCell (ptr (.slice s1 N s3) (A*3+1)) (.slice a71 l71 k71)).setCell (ptr (.slice s1 N s3) (A*3+2)) (.slice a72 l72 k72)=w8 at *
     have HLT:=HLP;have HC8:=HCP;have HBR:=HBP;clear HLP HCP HBP;obtain⟨ts,as1,ls1,ks1,as2,ls2,ks2,g1,g2,g3,hfs⟩:=(HEA.o.bw HBR.o).cellsAt (k:=i) (by rw[HLA.o.el];exact HIA.o);have HFX:zI (zia w8 (.agg #[.bool ts, .slice as1 ls1 ks1, .slice as2 ls2 ks2]) (exQ a i)):=zH hfs;obtain⟨us,bs1,ms1,os1,bs2,ms2,os2,h1,h2,h3,hft⟩:=(HEB.o.bw HBR.o).cellsAt (k:=j) (by rw[HLB.o.el];exact HJB.o);have HFY:zI (zia w8 (.agg #[.bool us, .slice bs1 ms1 os1, .slice bs2 ms2 os2]) (exQ b j)):=zH hft;clear hfs hft;go_upto_region 14 with fail;obtain⟨-,c0,c1,c2,c3,-,-,-,-⟩:=HC1.o.bS HBR.o;obtain⟨-,d0,d1,d2,d3,-,-,-,-⟩:=HC2.o.bS HBR.o;obtain⟨-,q0,q1,q2,q3,-,-,-,-⟩:=HC8.o;refine wpL.st9 15 q3 c3 g1 g2 g3 d3 h1 h2 h3 (λ wd hbD hHeld=> ?_);have HLD:=zH (HLT.o.bw hbD);have HCD:=zH (HC8.o.bS hbD);have HBD:=zH (zea HBR.o hbD HBR.o.size);have HFD:=zH (HFX.o.bw hbD);have HFE:=zH (HFY.o.bw hbD);clear hbD HLT HC8 HBR c0 c1 c2 c3 d0 d1 d2 d3 q0 q1 q2 q3 g1 g2 g3 h1 h2 h3;refine zU 0 ?_;refine zY 1 ?_;refine zU 2 ?_;refine zU 3 ?_;refine zY 4 ?_;refine zU 5 ?_;refine zU 6 ?_;refine zY 7 ?_;refine zU 8 ?_;refine zY 9 ?_;refine zU 10 ?_;refine zU 11 ?_;refine zY 12 ?_;(refine zCF 13 94 #[.agg #[.bool ts, .slice as1 ls1 ks1, .slice as2 ls2 ks2], .agg #[.bool us, .slice bs1 ms1 os1, .slice bs2 ms2 os2]] (znk _ _ _ _ _ HFD.o HFE.o HLX.o.2.2.2.1 HLX.o.2.2.2.2.1 HLX.o.2.2.2.2.2) λ t7 a71 l71 k71 a72 l72 k72 w7 hv7 hb7=>⟨kcl9 hb7 hHeld,λ hH7=> ?_⟩);clear hHeld;have L7:=HLD.o.bw hb7;have hput:=L7.putE (e':=fiEf a b (A+1)) hAN (λ r _ hr=>fiEf_put hr) (by rw[fiEf_at,HSV.o.2];exact hv7);have hrow:=L7.e;(have hjR:=show A<(zxa N (fiEf a b A)).length by rw[zda];exact hAN);obtain⟨y0,z0,y1,y2,y3,y4,f0,f1,f2,slo,n01,n02,n12⟩:=hrow.prep hjR;have HCP:=zH ((HCD.o.bS hb7).putJ hrow hjR (.bool t7) (.slice a71 l71 k71) (.slice a72 l72 k72));have HLP:=zH hput.1;have HBP:=zH ((zea HBD.o hb7 HBD.o.size).trans hput.2);clear L7 hput hrow HLD HCD HBD hb7 hv7 HFD HFE;refine zPA 14 hH7 ?_;refine zPB 15 ?_;clear y2 y3 y4 f0 f1 f2 n01 n02 n12 hH7;clear HFX HFY;generalize ((w7.setCell (ptr (.slice e1 N e3) (A*3)) (.bool t7)).setCell (ptr (.slice e1 N e3) (A*3+1)) (.slice a71 l71 k71)).setCell (ptr (.slice e1 N e3) (A*3+2)) (.slice a72 l72 k72)=w9 at *
     have HLT:=HLP;have HC8:=HCP;have HBR:=HBP;clear HLP HCP HBP;(have hi1:i<a.rates.length:=by rw[HLA.o.rl];exact HIA.o);obtain⟨row,hcr,hrow⟩:=HRA.o.at' i hi1;obtain⟨o1,o2,o3,rfl,_⟩:=id hrow.sl;have hrl2:(a.rates[i]'hi1).length=enA:=(HLA.o.row i hi1).1.trans HNA.o;obtain rfl:enA=o2:=(hrow.len.trans hrl2).symm;have HROW:=zH hrow;have HRL2:=zH hrl2;have srow:=hrow.sl;have hcr:=zba HBR.o hcr;have HRG:zI (a.rates.getD i []=a.rates[i]'hi1):=zH (by rw[zGD,zGE hi1];rfl);obtain⟨-,c0,c1,c2,c3,-,-,-,-⟩:=HC1.o.bS HBR.o;clear hrow hrl2;go_wp2_with fail;clear hcr c0 c1 c2 c3;go_loopg [85] (enA) (λ g u85 wr=>∃ (k:Nat),k<=enA/\g=enA-k/\u85= .int .i64 k/\znd wr W2.heap.size (.slice s1 N s3) (.slice e1 N e3) (.slice r1 N r3) rs N (fiSf a b (A+1)) (fiEf a b (A+1)) (zie a b A (fi1 a enB i j (k)))/\C4 wr b8 (.string { data:=#[] }) (.slice s1 N s3) (.slice r1 N r3) (.slice e1 N e3)/\Below W2.heap.size W2 wr);case atStart=>exact⟨0,zZL _,rfl,rfl,HLT.o.congr (λ _ _=>rfl) (λ _ _=>rfl) (λ r c _ hc=>zbp (t:=N) (λ c _=>fi1_zero c) hc),HC8.o,HBR.o⟩
     case round=>
      clear HLT HC8 HBR;obtain⟨k,hkn,hgk,rfl,hlt,hc8,hbr⟩:=hrel;obtain⟨wa,hwx⟩:∃w6,w6=wr:=⟨_,rfl⟩;subst hwx;have HGk:=zH hgk;have HLT:=zH hlt;have HC8:=zH hc8;have HBR:=zH hbr;clear hgk hlt hc8 hbr;by_cases hkl:k<enA
      ·have k1':(0:Int)<=(k:Int):=zO;have k2':(k:Int)<(enA:Nat):=zO;obtain⟨M2,hM2⟩:∃M2,k*enB=M2:=⟨_,rfl⟩;obtain⟨C,hC⟩:∃C,M2+j=C:=⟨_,rfl⟩
       have hCN:C<N:=by
        have h1:(k+1)*enB<=enA*enB:=zMR _ hkl;rw[Nat.succ_mul,hM2,HNN.o]at h1;omega
       (have hwb1:IntKind.i64.wrap ((k:Int)*(enB:Int))=((M2:Nat):Int):=by rw[wrap_sm k enB (by rw[hM2];omega),hM2]);have hwb2:IntKind.i64.wrap ((M2:Int)+(j:Int))=((C:Nat):Int):=wrap_sa M2 j C hC zO;have HCE:zI (C=k*enB+j):=zH (by rw[<-hC,<-hM2])
       have HLY:zI (fits (fi1 a enB i j k C)/\fits (rtQ a i k)/\fits (fi1 a enB i j k C+rtQ a i k)):=zH (by
        (have hc2:C<a.start.length*enB:=by rw[HNA.o,HNN.o];exact hCN);have g1:=fi1_lim (m:=enB) (j:=j) (k:=k) HLA.o HIA.o hc2;have g2:=fi1_lim (m:=enB) (j:=j) (k:=k+1) HLA.o HIA.o hc2;refine⟨g1.fits,(HLA.o.rt_lim HIA.o (by rw[HNA.o];exact hkl)).fits,?_⟩;(rw[HCE.o]at g2 |-);rw[fi1_at hjl];exact g2.fits)
       clear hM2 hC;have c1':(0:Int)<=(C:Int):=zO;have c2':(C:Int)<(N:Nat):=zO;(have hkr:k<(a.rates[i]'hi1).length:=by rw[HRL2.o];exact hkl);obtain⟨ts,as1,ls1,ks1,as2,ls2,ks2,g1,g2,g3,hfs⟩:=(HROW.o.bw HBR.o).cellsAt (k:=k) hkr;(have hxe:(a.rates[i]'hi1).getD k 0=rtQ a i k:=by unfold rtQ;rw[HRG.o]);rw[hxe]at hfs;have hb11:=zca wa (.cells #[.bool ts, .slice as1 ls1 ks1, .slice as2 ls2 ks2] 38);have HC11:=zH (C3.new wa 38 (.bool ts) (.slice as1 ls1 ks1) (.slice as2 ls2 ks2));have HFX:=zH (hfs.bw hb11);replace HLT:=zH (HLT.o.bw hb11);replace HC8:=zH (HC8.o.bS hb11);replace HBR:=zH (zea HBR.o hb11 HBR.o.size);obtain⟨b11,hb11e⟩:∃b,wa.heap.size=b:=⟨_,rfl⟩;have HBE:=zH hb11e;clear hxe hfs hb11 hb11e;go_upto_region 18 with fail;clear g1 g2 g3;(rw[HBE.o]at HC11 |-);clear HBE;generalize wa.alloc (.cells #[.bool ts, .slice as1 ls1 ks1, .slice as2 ls2 ks2] 38)=wv at *
       (have hi9:A<rs.length:=by rw[HLT.o.rsl];exact hAN);have s2c:=HLT.o.ra.cell A hi9;(have hRi:A<(zfg N (zie a b A (fi1 a enB i j (k)))).length:=by rw[zgb];exact hAN);have hrw:=HLT.o.rows A hi9 hRi;obtain⟨z1,z2,z3,ho,_⟩:=id hrw.sl;(have hz2:z2=N:=by have h:=hrw.fracs.len;rw[ho,zeb,zda]at h;exact h);rw[hz2]at ho;clear hz2;rw[ho]at s2c hrw;have HO:=zH ho;(have hcl:C<((zfg N (zie a b A (fi1 a enB i j (k))))[A]'hRi).length:=by rw[zeb,zda];exact hCN);obtain⟨us,bs1,ms1,os1,bs2,ms2,os2,h1,h2,h3,hft⟩:=hrw.fracs.cellsAt (k:=C) hcl;(have hve:((zfg N (zie a b A (fi1 a enB i j (k))))[A]'hRi).getD C 0=(fi1 a enB i j (k)) C:=by rw[zeb,ztd hCN,zhn]);rw[hve]at hft;have HFY:=zH hft;have srz:=hrw.sl;have sr1:=HLT.o.ra.sl;clear hft hve hrw ho hcl;obtain⟨_,e0',e1',e2',_,_,_⟩:=HC11.o;obtain⟨-,q0,q1,q2,q3,-,-,-,-⟩:=HC8.o;refine wpL.st8 25 q2 s2c h1 h2 h3 e0' e1' e2' (λ wd hbD hHeld=> ?_);have HLD:=zH (HLT.o.bw hbD);have HCD:=zH (HC8.o.bS hbD);have HBD:=zH (zea HBR.o hbD HBR.o.size);have HFD:=zH (HFX.o.bw hbD);have HFE:=zH (HFY.o.bw hbD);clear hbD HLT HC8 HBR q0 q1 q2 q3 h1 h2 h3 s2c e0' e1' e2' HC11;refine zU 0 ?_;refine zY 1 ?_;refine zU 2 ?_;refine zU 3 ?_;refine zY 4 ?_;refine zU 5 ?_;refine zU 6 ?_;refine zU 7 ?_;refine zU 8 ?_;refine zU 9 ?_;refine zU 10 ?_;refine zY 11 ?_;refine zU 12 ?_;refine zU 13 ?_;refine zY 14 ?_;refine zU 15 ?_;refine zU 16 ?_;refine zU 17 ?_;refine zU 18 ?_;refine zU 19 ?_;refine zU 20 ?_;refine zY 21 ?_;refine zY 22 ?_;(refine zCF 23 94 #[.agg #[.bool us, .slice bs1 ms1 os1, .slice bs2 ms2 os2], .agg #[.bool ts, .slice as1 ls1 ks1, .slice as2 ls2 ks2]] (znk _ _ _ _ _ HFE.o HFD.o HLY.o.1 HLY.o.2.1 HLY.o.2.2) λ t7 a71 l71 k71 a72 l72 k72 w7 hv7 hb7=>⟨kcl8 hb7 hHeld,λ hH7=> ?_⟩);clear hHeld;have L7:=HLD.o.bw hb7;have hput:=L7.putR (g:=zie a b A (fi1 a enB i j (k+1))) hi9 hCN (λ r c _ _ hne=>fiRow_put (x:=C) (λ y hy=>fi1_put hjl (by rw[<-HCE.o];exact hy)) hne) (by rw[zhn,HCE.o,<-fi1_at hjl,<-HCE.o];exact hv7);rw[HO.o]at hput;have hrow:=L7.rows A hi9 hRi;rw[HO.o]at hrow;(have hjR:=show C<((zfg N (zie a b A (fi1 a enB i j (k))))[A]'hRi).length by rw[zeb,zda];exact hCN);obtain⟨y0,z0,y1,y2,y3,y4,f0,f1,f2,slo,n01,n02,n12⟩:=hrow.prep hjR;have HCP:=zH ((HCD.o.bS hb7).putJ hrow hjR (.bool t7) (.slice a71 l71 k71) (.slice a72 l72 k72));have HLP:=zH hput.1;have HBP:=zH ((zea HBD.o hb7 HBD.o.size).trans hput.2);clear L7 hput hrow HLD HCD HBD hb7 hv7 HFD HFE;refine zPA 24 hH7 ?_;refine zPB 25 ?_;clear y2 y3 y4 f0 f1 f2 n01 n02 n12 hH7;go_wp2_with fail;go_roundg (enA- (k+1));(case measure=>(have:=HGk.o;omega));case rel=>exact⟨k+1,zO,rfl,by go_num,HLP.o,HCP.o,HBP.o⟩
      ·obtain rfl:enA=k:=zO;have HLT2:zI (znd wa W2.heap.size (.slice s1 N s3) (.slice e1 N e3) (.slice r1 N r3) rs N (fiSf a b (A+1)) (fiEf a b (A+1)) (zie a b A (fi2 a b enB i j 0))):=zH (HLT.o.congr (λ _ _=>rfl) (λ _ _=>rfl) (λ r c _ hc=>zbp (t:=N) (λ c hc=>fi_meet (by rw[HNN.o];exact hc)) hc));have HLT:=HLT2;clear HLT2 HROW HRL2 HRG srow hi1;(have hi1:j<b.rates.length:=by rw[HLB.o.rl];exact HJB.o);obtain⟨row,hcr,hrow⟩:=HRB.o.at' j hi1;obtain⟨o1,o2,o3,rfl,_⟩:=id hrow.sl;have hrl2:(b.rates[j]'hi1).length=enB:=(HLB.o.row j hi1).1.trans HNB.o;obtain rfl:enB=o2:=(hrow.len.trans hrl2).symm;have HROW:=zH hrow;have HRL2:=zH hrl2;have srow:=hrow.sl;have hcr:=zba HBR.o hcr;have HRG:zI (b.rates.getD j []=b.rates[j]'hi1):=zH (by rw[zGD,zGE hi1];rfl);obtain⟨-,c0,c1,c2,c3,-,-,-,-⟩:=HC2.o.bS HBR.o;clear hrow hrl2;go_wp2_with fail;clear hcr c0 c1 c2 c3;go_loopg [122] (enB) (λ g u122 wr=>∃ (k:Nat),k<=enB/\g=enB-k/\u122= .int .i64 k/\znd wr W2.heap.size (.slice s1 N s3) (.slice e1 N e3) (.slice r1 N r3) rs N (fiSf a b (A+1)) (fiEf a b (A+1)) (zie a b A (fi2 a b enB i j (k)))/\C4 wr b8 (.string { data:=#[] }) (.slice s1 N s3) (.slice r1 N r3) (.slice e1 N e3)/\Below W2.heap.size W2 wr);case atStart=>exact⟨0,zZL _,rfl,rfl,HLT.o,HC8.o,HBR.o⟩
       case round=>
        clear HLT HC8 HBR;obtain⟨k,hkn,hgk,rfl,hlt,hc8,hbr⟩:=hrel;obtain⟨wb,hwx⟩:∃w6,w6=wr:=⟨_,rfl⟩;subst hwx;have HGk:=zH hgk;have HLT:=zH hlt;have HC8:=zH hc8;have HBR:=zH hbr;clear hgk hlt hc8 hbr;by_cases hkl:k<enB
        ·have k1':(0:Int)<=(k:Int):=zO;have k2':(k:Int)<(enB:Nat):=zO;obtain⟨C,hC⟩:∃C,M1+k=C:=⟨_,rfl⟩;have hCN:C<N:=zO;have hwb2:IntKind.i64.wrap ((M1:Int)+(k:Int))=((C:Nat):Int):=wrap_sa M1 k C hC zO;have HCE:zI (C=i*enB+k):=zH (by rw[<-hC,<-HM1.o])
         have HLY:zI (fits (fi2 a b enB i j k C)/\fits (rtQ b j k)/\fits (fi2 a b enB i j k C+rtQ b j k)):=zH (by
          have g:=fi2_fits (k:=k) HLA.o HLB.o HIA.o HJB.o (by rw[HNB.o];exact hkl);rw[HNB.o,<-HCE.o]at g;refine⟨g.1,(HLB.o.rt_lim HJB.o (by rw[HNB.o];exact hkl)).fits,?_⟩;rw[HCE.o,fi2_at hkl,<-HCE.o];exact g.2)
         clear hC;have c1':(0:Int)<=(C:Int):=zO;have c2':(C:Int)<(N:Nat):=zO;(have hkr:k<(b.rates[j]'hi1).length:=by rw[HRL2.o];exact hkl);obtain⟨ts,as1,ls1,ks1,as2,ls2,ks2,g1,g2,g3,hfs⟩:=(HROW.o.bw HBR.o).cellsAt (k:=k) hkr;(have hxe:(b.rates[j]'hi1).getD k 0=rtQ b j k:=by unfold rtQ;rw[HRG.o]);rw[hxe]at hfs;have hb11:=zca wb (.cells #[.bool ts, .slice as1 ls1 ks1, .slice as2 ls2 ks2] 38);have HC11:=zH (C3.new wb 38 (.bool ts) (.slice as1 ls1 ks1) (.slice as2 ls2 ks2));have HFX:=zH (hfs.bw hb11);replace HLT:=zH (HLT.o.bw hb11);replace HC8:=zH (HC8.o.bS hb11);replace HBR:=zH (zea HBR.o hb11 HBR.o.size);obtain⟨b11,hb11e⟩:∃b,wb.heap.size=b:=⟨_,rfl⟩;have HBE:=zH hb11e;clear hxe hfs hb11 hb11e;go_upto_region 23 with fail;clear g1 g2 g3;(rw[HBE.o]at HC11 |-);clear HBE;generalize wb.alloc (.cells #[.bool ts, .slice as1 ls1 ks1, .slice as2 ls2 ks2] 38)=wv at *
         (have hi9:A<rs.length:=by rw[HLT.o.rsl];exact hAN);have s2c:=HLT.o.ra.cell A hi9;(have hRi:A<(zfg N (zie a b A (fi2 a b enB i j (k)))).length:=by rw[zgb];exact hAN);have hrw:=HLT.o.rows A hi9 hRi;obtain⟨z1,z2,z3,ho,_⟩:=id hrw.sl;(have hz2:z2=N:=by have h:=hrw.fracs.len;rw[ho,zeb,zda]at h;exact h);rw[hz2]at ho;clear hz2;rw[ho]at s2c hrw;have HO:=zH ho;(have hcl:C<((zfg N (zie a b A (fi2 a b enB i j (k))))[A]'hRi).length:=by rw[zeb,zda];exact hCN);obtain⟨us,bs1,ms1,os1,bs2,ms2,os2,h1,h2,h3,hft⟩:=hrw.fracs.cellsAt (k:=C) hcl;(have hve:((zfg N (zie a b A (fi2 a b enB i j (k))))[A]'hRi).getD C 0=(fi2 a b enB i j (k)) C:=by rw[zeb,ztd hCN,zhn]);rw[hve]at hft;have HFY:=zH hft;have srz:=hrw.sl;have sr1:=HLT.o.ra.sl;clear hft hve hrw ho hcl;obtain⟨_,e0',e1',e2',_,_,_⟩:=HC11.o;obtain⟨-,q0,q1,q2,q3,-,-,-,-⟩:=HC8.o;refine wpL.st8 25 q2 s2c h1 h2 h3 e0' e1' e2' (λ wd hbD hHeld=> ?_);have HLD:=zH (HLT.o.bw hbD);have HCD:=zH (HC8.o.bS hbD);have HBD:=zH (zea HBR.o hbD HBR.o.size);have HFD:=zH (HFX.o.bw hbD);have HFE:=zH (HFY.o.bw hbD);clear hbD HLT HC8 HBR q0 q1 q2 q3 h1 h2 h3 s2c e0' e1' e2' HC11;refine zU 0 ?_;refine zY 1 ?_;refine zU 2 ?_;refine zU 3 ?_;refine zY 4 ?_;refine zU 5 ?_;refine zU 6 ?_;refine zU 7 ?_;refine zU 8 ?_;refine zU 9 ?_;refine zU 10 ?_;refine zY 11 ?_;refine zU 12 ?_;refine zU 13 ?_;refine zY 14 ?_;refine zU 15 ?_;refine zU 16 ?_;refine zU 17 ?_;refine zU 18 ?_;refine zU 19 ?_;refine zU 20 ?_;refine zY 21 ?_;refine zY 22 ?_;(refine zCF 23 94 #[.agg #[.bool us, .slice bs1 ms1 os1, .slice bs2 ms2 os2], .agg #[.bool ts, .slice as1 ls1 ks1, .slice as2 ls2 ks2]] (znk _ _ _ _ _ HFE.o HFD.o HLY.o.1 HLY.o.2.1 HLY.o.2.2) λ t7 a71 l71 k71 a72 l72 k72 w7 hv7 hb7=>⟨kcl8 hb7 hHeld,λ hH7=> ?_⟩);clear hHeld;have L7:=HLD.o.bw hb7;have hput:=L7.putR (g:=zie a b A (fi2 a b enB i j (k+1))) hi9 hCN (λ r c _ _ hne=>fiRow_put (x:=C) (λ y hy=>fi2_put (by rw[<-HCE.o];exact hy)) hne) (by rw[zhn,HCE.o,<-fi2_at hkl,<-HCE.o];exact hv7);rw[HO.o]at hput;have hrow:=L7.rows A hi9 hRi;rw[HO.o]at hrow;(have hjR:=show C<((zfg N (zie a b A (fi2 a b enB i j (k))))[A]'hRi).length by rw[zeb,zda];exact hCN);obtain⟨y0,z0,y1,y2,y3,y4,f0,f1,f2,slo,n01,n02,n12⟩:=hrow.prep hjR;have HCP:=zH ((HCD.o.bS hb7).putJ hrow hjR (.bool t7) (.slice a71 l71 k71) (.slice a72 l72 k72));have HLP:=zH hput.1;have HBP:=zH ((zea HBD.o hb7 HBD.o.size).trans hput.2);clear L7 hput hrow HLD HCD HBD hb7 hv7 HFD HFE;refine zPA 24 hH7 ?_;refine zPB 25 ?_;clear y2 y3 y4 f0 f1 f2 n01 n02 n12 hH7;go_wp2_with fail;go_roundg (enB- (k+1));(case measure=>(have:=HGk.o;omega));case rel=>exact⟨k+1,zO,rfl,by go_num,HLP.o,HCP.o,HBP.o⟩
        ·obtain rfl:enB=k:=zO
         have hLN:znd wb W2.heap.size (.slice s1 N s3) (.slice e1 N e3) (.slice r1 N r3) rs N (fiSf a b (M1+(j+1))) (fiEf a b (M1+(j+1))) (zie a b (M1+(j+1)) (λ _=>0)):=by
          rw[<-Nat.add_assoc,HAJ.o];refine HLT.o.congr (λ _ _=>rfl) (λ _ _=>rfl) (λ r c _ hc=>fiRow_next (N:=N) (λ c hc=> ?_) hc);have h:=fi2_all HLA.o HLB.o HIA.o HJB.o (c:=c) (by show c<a.start.length*b.start.length;rw[HNA.o,HNB.o,HNN.o];exact hc);rw[HNB.o]at h;rw[HAE.o,HNB.o];exact h
         have HLN:=zH hLN;clear hLN;go_wp2_with fail;go_roundg (enB- (j+1));(case measure=>(have:=HGj.o;omega));case rel=>exact⟨j+1,zO,rfl,by go_num,HLN.o,HC8.o,HBR.o⟩
    ·obtain rfl:enB=j:=zO;go_wp2_with fail;go_roundg (enA- (i+1));(case measure=>(have:=HGi.o;omega));case rel=>exact⟨i+1,zO,rfl,by go_num,by rw[Nat.succ_mul,HM1.o];exact HLT.o,HC8.o,HBR.o⟩
  ·obtain rfl:enA=i:=zO;rw[HNN.o]at HLT;have hfn:znd wx W2.heap.size (.slice s1 N s3) (.slice e1 N e3) (.slice r1 N r3) rs N (bfS a b) (fiE a b) (bfr a b):=HLT.o.congr (λ r hr=>by unfold fiSf;rw[zIP hr]) (λ r hr=>by unfold fiEf;rw[zIP hr]) (λ r c hr hc=>by unfold zie;rw[zIP hr]);have HLF:=zH hfn;(have hsL:firL a b=fnL N (bfS a b) (fiE a b) (bfr a b):=by unfold firL bfN;rw[HNA.o,HNB.o,HNN.o]);have HSL:=zH hsL;have HCH:zI (∀w0,Below wx.heap.size wx w0->Calls Tryz.prog 104 #[.agg #[.string { data:=#[] }, .slice s1 N s3, .slice r1 N r3, .slice e1 N e3]] w0 (λ e w'=>e= .returned (.tuple #[.agg #[.string { data:=#[] }, .slice s1 N s3, .slice r1 N r3, .slice e1 N e3], .int .i64 0])/\Below w0.heap.size w0 w')):=zH (λ w0 h=>zpj _ (fnL N (bfS a b) (fiE a b) (bfr a b)) w0 ((HLF.o.bw h).lawE) (by rw[<-HSL.o];exact HLS.o));clear hfn hsL;obtain⟨-,q0,q1,q2,q3,-,-,-,-⟩:=HC8.o
   go_wp2_with (first
    |(go_at_call 104;(with_reducible refine(HCH.o _ (zBR _ _)).mono ?_);rintro e9 w9 ⟨rfl,hb9⟩;have HT9:=zH (HC3.o.bS (zaa HBR.o hb9));have HB9:=zH (zaa HBW.o (zaa HBR.o hb9));have HL9:=zH (HLF.o.bw hb9);clear q0 q1 q2 q3;obtain⟨-,q0,q1,q2,q3,f0,f1,f2,f3⟩:=HT9.o;clear hb9))
   refine zdb rfl rfl Tryz.aggL Tryz.sizeL (HT9.o.set _ _ _ _) rfl ?_;refine⟨λ _=>⟨_,rfl,?_,zjb HB9.o (Nat.le_succ_of_le (zLS _)) _ _ _ _⟩,λ h=>absurd HAB.o h⟩;rw[HSL.o];exact(znd.set4' HL9.o hN1 HT9.o).lawE
end Go.Proofs.YtlpdkbmmbdfoiaaGreat
