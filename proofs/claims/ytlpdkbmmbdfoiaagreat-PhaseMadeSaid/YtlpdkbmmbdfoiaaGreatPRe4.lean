/- Lemmas. -/
import Derived.Test.YtlpdkbmmbdfoiaaGreatPRe3
import Derived.Test.YtlpdkbmmbdfoiaaGreatPWtm
set_option linter.unusedVariables false
set_option linter.unusedSimpArgs false
namespace Go.Proofs.YtlpdkbmmbdfoiaaGreat
set_option maxHeartbeats 6400000
open Go.RowKit
def ApR (rs:List Value):Prop:=∀ (i j:Nat) (hi:i<rs.length) (hj:j<rs.length),i≠j->rs[i].ownBlock=none\/rs[i].ownBlock≠rs[j].ownBlock
theorem ApR.push {rs:List Value} {r:Value} {Z:Nat} (h:ApR rs) (h1:∀ (j:Nat) (hj:j<rs.length) g,rs[j].ownBlock=some g->g<Z) (h2:∀g,r.ownBlock=some g->Z<=g):ApR (rs++ [r]):=by
 intro i j hi hj hij;rw[zLA]at hi hj;simp only[List.length_cons,List.length_nil]at hi hj;by_cases e1:i<rs.length
 ·rw[zAL e1];by_cases e2:j<rs.length
  ·rw[zAL e2];exact h i j e1 e2 hij
  ·obtain rfl:j=rs.length:=zO;rw[List.getElem_append_right zO]
   cases hb:rs[i].ownBlock with
   | none=>exact Or.inl rfl
   | some g=>
     (refine Or.inr λ e=> ?_);have k1:=h1 i e1 g hb;have k2:=h2 g (by simpa using e.symm);omega
 ·obtain rfl:i=rs.length:=zO;rw[List.getElem_append_right zO];have e2:j<rs.length:=zO;rw[zAL e2];simp only[Nat.sub_self,List.getElem_cons_zero]
  cases hb:r.ownBlock with
  | none=>exact Or.inl rfl
  | some g=>
    (refine Or.inr λ e=> ?_);have k1:=h1 j e2 g e.symm;have k2:=h2 g hb;omega
theorem zzp (va:Value) (q:Rat) (w:World) (ha:zia w va q) (hq:fits q):Calls Tryz.prog 116 #[va] w (RF0 w q):=by
 have h:=zwf va (RF.of q) w ha.raw (RF.of_ok hq);rw[RF.of_q]at h;exact h
set_option maxRecDepth 100000 in
theorem rcopied_own (va:Value) (n m:Nat) (A:Mx) (w:World) (ha:zij w va n m A) (hn24:n<=24) (hm24:m<=24) (hf:fitM n m A):
 Calls Tryz.prog 213 #[va] w λ e w'=>∃v rs,e= .returned v/\zwj w' w.heap.size v rs n (λ k=>zxa m (A k))/\Below w.heap.size w w':=by
 obtain⟨i3,hi3,hz3,hs3,hy3⟩:=info_parts Tryz.infoF;have hAP:=zgh (P:=Tryz.prog) 25 38 i3 Tryz.underlying25 hi3 hz3 hs3 hy3;obtain⟨i4,hi4,hz4,hs4,hy4⟩:=info_parts Tryz.infoRow;have hAR:=zwh (P:=Tryz.prog) 24 25 i4 _ 24 Tryz.underlying24 hi4 hz4 hs4 hy4 zD rfl zZ;clear hi3 hz3 hs3 hy3 hi4 hz4 hs4 hy4;have HOK:=zH hf;have sa:=ha.sl;have la:=ha.len;have HA:=zH ha;clear ha hf;go_enter Tryz.func213,Tryz.ntmps213;go_wp2_with fail;go_loopg [3,4] (n) (λ g u3 u4 wr=>∃ (i:Nat) (rs:List Value),i<=n/\g=n-i/\u4= .int .i64 i/\rs.length=i/\MkR wr w.heap.size u3 rs m A/\ApR rs/\Below w.heap.size w wr);case atStart=>exact⟨0,[],zZL _,rfl,rfl,rfl,⟨zkc.nil _ _ _ _,λ j h=>by simp at h,zLR _⟩,λ i j hi=>by simp at hi,zBR _ _⟩
 case round=>
  obtain⟨i,rs,hin,hg,rfl,hrs,hmk,hap,hbr⟩:=hrel;obtain⟨w2,hw2⟩:∃w2,w2=wr:=⟨_,rfl⟩;subst hw2;have HG:=zH hg;have HRS:=zH hrs;have HM:=zH hmk;have HAPR:=zH hap;have HB2:=zH hbr;have svr:=hmk.ra.sl;clear hg hrs hmk hap;by_cases hir:i<n
  ·have i1:(0:Int)<=(i:Int):=zO;have i2:(i:Int)<(n:Nat):=zO;go_wp2_with fail;go_loopg [5,6] (m) (λ g u5 u6 wi=>∃ (k:Nat),k<=m/\g=m-k/\u6= .int .i64 k/\zua wi 38 w2.heap.size u5 (zxa k (A i))/\Below w2.heap.size w2 wi);case atStart=>exact⟨0,zZL _,rfl,rfl,zua.nil _ _ _,zBR _ _⟩
   case round=>
    obtain⟨k,hk,hgk,rfl,hfr,hbi⟩:=hrel;obtain⟨wb,hwb⟩:∃wb,wb=wr:=⟨_,rfl⟩;subst hwb;have HGK:=zH hgk;have HFR:=zH hfr;have HBI:=zH hbi;have srow:=hfr.sl;obtain⟨r,hcr,hfr2⟩:=(HA.o.bw (HB2.o.trans (hbi.mono HB2.o.size))).row i hir;have slr:=hfr2.sl;(have lnr:slen r=m:=by rw[hfr2.len,zda]);obtain⟨r1,r2,r3,rfl,_⟩:=id slr;obtain rfl:r2=m:=lnr;clear hgk hfr;by_cases hkn:k<r2
    ·obtain⟨ts,as1,ls1,ks1,as2,ls2,ks2,g1,g2,g3,hfs⟩:=hfr2.cellsAt (k:=k) (by rw[zda];exact hkn);rw[rowL_at hkn]at hfs;have HF:=zH hfs;have HX:=zH (HOK.o i k hir hkn);(have hrl:(zxa k (A i)).length<=1000:=by rw[zda];omega);have k1:(0:Int)<=(k:Int):=zO;have k2:(k:Int)<(r2:Nat):=zO;clear hfs hfr2 hbi
     go_wp2_with (first
      |(go_at_call 116;(with_reducible refine(zzp _ (A i k) _ HF.o HX.o).mono ?_);rintro e13 w13 ⟨v13,rfl,hv13,hb13⟩;obtain⟨t13,x13,y13,rfl,⟨a131,l131,k131,rfl,q131⟩,⟨a132,l132,k132,rfl,q132⟩⟩:=hv13.isF;have hba:=zca w13 (.cells #[.bool t13, .slice a131 l131 k131, .slice a132 l132 k132] 38);have hb14:=zaa hb13 hba;have hv14:=hv13.bw hba;have hfr5:=HFR.o.moves (zkb.bw (B:=w2.heap.size) hb14) (zLR _);have hsz5:=zLT HBI.o.size hb14.size;have sz1:(w13.alloc (.cells #[.bool t13, .slice a131 l131 k131, .slice a132 l132 k132] 38)).heap.size=w13.heap.size+1:=(by simp);have SZ1:=zH sz1;obtain⟨_,c0,c1,c2,_,_,_⟩:=C3.new w13 38 (.bool t13) (.slice a131 l131 k131) (.slice a132 l132 k132);clear sz1)
      |(at_builtin;refine hAP (w13.alloc (.cells #[.bool t13, .slice a131 l131 k131, .slice a132 l132 k132] 38)) rfl _ _ rfl w2.heap.size _ u5 (zxa k (A i)) rfl hfr5 _ _ _ (A i k) hv14 (by rw[SZ1.o];rfl) hrl hsz5 ?_;intro v4' w50 ho50 hg50 hn50 hq50 sv50;have hg5:Below w2.heap.size (w13.alloc (.cells #[.bool t13, .slice a131 l131 k131, .slice a132 l132 k132] 38)) w50:=zja hg50 hsz5 (λ k hk=>(hfr5.block k hk).1);have HO50:=zH ho50))
     go_roundg (r2- (k+1));(case measure=>(have:=HGK.o;omega));case rel=>exact⟨k+1,zO,rfl,by go_num,by rw[<-zkd];exact HO50.o,(zea HBI.o hb14 HBI.o.size).trans hg5⟩
    ·obtain rfl:r2=k:=zO;obtain⟨a11,l11,k11,rfl,_⟩:=id srow;have hm5:=HM.o.bw hbi;have hra:=hm5.ra;have hsz5:=hm5.sz;(have hlen:rs.length<=1000:=by rw[HRS.o];omega);have HM5:=zH hm5;have HAP2:zI (ApR (rs++ [.slice a11 l11 k11])):=zH (HAPR.o.push (Z:=w2.heap.size) (λ j hj g hg=>((HM.o.rows j hj).block g hg).2) (λ g hg=>(HFR.o.block g hg).1));have HR5:zI (zua wb 38 w.heap.size (.slice a11 l11 k11) (zxa r2 (A rs.length))):=zH (by rw[HRS.o];exact HFR.o.mono HB2.o.size);clear hm5
     go_wp2_with (first
      |(at_builtin;refine hAR _ rfl _ _ rfl w.heap.size _ u3 rs rfl hra (.slice a11 l11 k11) rfl zZ rfl hlen hsz5 ?_;intro v5' w21 ho21 hg21 hn21 hq21 sv21;have hG:=HM5.o.push HR5.o ho21 hg21 hn21;have HG5:=zH hG;clear hG))
     go_roundg (n- (i+1));(case measure=>(have:=HG.o;omega));case rel=>exact⟨i+1,_,zO,rfl,by go_num,by rw[zLA,HRS.o];rfl,HG5.o.1,HAP2.o,(zea HB2.o hbi HB2.o.size).trans HG5.o.2⟩
  ·obtain rfl:n=i:=zO;go_wp2_with fail;go_ret;refine⟨_,rs,rfl,⟨?_,HM.o.rows,HAPR.o⟩,hbr⟩;have h:=HM.o.ra;rw[HRS.o]at h;exact h
theorem zwj.rtab {w:World} {B n m:Nat} {v:Value} {rs:List Value} {M:Mx} (h:zwj w B v rs n (λ k=>zxa m (M k))) (np:0<n) (mp:0<m):zmn w B w.heap.size v rs n m M:=by
 have hl:=h.rl
 have hb:∀ (i:Nat) (hi:i<rs.length),∃g,rs[i].ownBlock=some g/\(base rs[i]).block=g/\g<w.heap.size:=λ i hi=>by
  obtain⟨g,h1,h2,_,h3,_⟩:=(h.row i hi).blk (by rw[zda];exact mp);exact⟨g,h1,h2,h3⟩
 obtain⟨g,_,k2,_,k3,_⟩:=h.own.blk zO;refine⟨by rw[hl];exact h.own,hl,np,mp,h.row,λ i j hi hj hij=> ?_,zO,λ i hi=> ?_,zLR _⟩
 ·obtain⟨g1,e1,_,_⟩:=hb i hi;rcases h.ap i j hi hj hij with e | e
  ·rw[e1]at e;cases e
  ·exact e
 ·obtain⟨g1,_,e2,e3⟩:=hb i hi;omega
theorem beside_row (n:Nat) (A:Mx) (b:Nat->Rat) (i:Nat):zxa n (A i)++ [b i]=zxa (n+1) (zra n A (λ i _=>b i) i):=by
 rw[<-zkd];have e1:zxa n (A i)=zxa n (zra n A (λ i _=>b i) i):=zlb λ j hj=>by unfold zra;rw[zIP hj]
 have e2:zra n A (λ i _=>b i) i n=b i:=by unfold zra;rw[zIN (zIR n)]
 rw[e1,e2]
set_option maxRecDepth 100000 in
theorem rsolve_reg (va vb:Value) (n:Nat) (A:Mx) (b:Nat->Rat) (w:World) (ha:zij w va n n A) (hb:zwa w vb (zxa n b)) (hn1:1<=n) (hn:n<=20) (hf:fitM n n A) (hfb:∀i,i<n->fits (b i)) (hw:wtF n n A+wts (qs (zbn n b))<=1900)
 (hreg:(elim false n (zra n A (λ i _=>b i)) n).r=n) (hs:zrm n (n+1) (zra n A (λ i _=>b i))):
 Calls Tryz.prog 182 #[va,vb] w (RSolve w n (elim false n (zra n A (λ i _=>b i)) n)):=by
 obtain⟨i3,hi3,hz3,hs3,hy3⟩:=info_parts Tryz.infoF;have hAP:=fun{ops:Array Oper} {o:Oper} {a:Act} {w:World} {K:Act->World->Prop} {Q:Exit->Act->World->Prop} {E:Prop}=>zaf (P:=Tryz.prog) 25 38 i3 Tryz.underlying25 hi3 hz3 hs3 hy3 (ops:=ops) (o:=o) (a:=a) (w:=w) (K:=K) (Q:=Q) (E:=E)
 have hA1:=zgh (P:=Tryz.prog) 25 38 i3 Tryz.underlying25 hi3 hz3 hs3 hy3;clear hi3 hz3 hs3 hy3;obtain⟨M,hM⟩:∃M,zra n A (λ i _=>b i)=M:=⟨_,rfl⟩;have HROW:zI (∀i,zxa n (A i)++ [b i]=zxa (n+1) (M i)):=zH (λ i=>by rw[<-hM];exact beside_row n A b i);rw[hM]at hreg hs |-
 have HREG:=zH hreg;have HSL:=zH hs;have HSH:zI (∀w0,zij w0 va n n A->Calls Tryz.prog 211 #[va] w0 λ e w'=>e= .returned (.tuple #[.int .i64 n, .int .i64 n, .bool true])/\Below w0.heap.size w0 w'):=zH (λ w0 k=>rshape_ok va (rawM n n A) n n w0 k.raw (zql hn1 zO hn1 zO hf) (zsc _ _ _) (zii hn1));have HWT:zI (∀w0,zij w0 va n n A->Calls Tryz.prog 174 #[va] w0 λ e w'=>e= .returned (.int .i64 (wtF n n A:Nat))/\Below w0.heap.size w0 w'):=zH (λ w0 k=>rweights_mat va n A w0 k hf hn1 zO);have hv:vecP (zbn n b) n:=⟨rawV_ok hfb,zoh n b⟩;have HVC:zI (∀w0 v,zwa w0 v (zxa n b)->Calls Tryz.prog 212 #[v, .int .i64 n] w0 λ e w'=>e= .returned (.bool true)/\Below w0.heap.size w0 w'):=zH (λ w0 v h=>(zlj _ (zbn n b) n w0 h.raw).mono λ e w' h=>by rw[zDT hv]at h;exact h);have HWV:zI (∀w0 v,zwa w0 v (zxa n b)->Calls Tryz.prog 175 #[v] w0 λ e w'=>e= .returned (.int .i64 (wts (qs (zbn n b)):Nat))/\Below w0.heap.size w0 w'):=zH (λ w0 v h=>zwn v (zbn n b) w0 h.raw hv.1 (by rw[zoh];omega));have HCP:zI (∀w0,zij w0 va n n A->Calls Tryz.prog 213 #[va] w0 λ e w'=>∃v rs,e= .returned v/\zwj w' w0.heap.size v rs n (λ k=>zxa n (A k))/\Below w0.heap.size w0 w'):=zH (λ w0 k=>rcopied_own va n n A w0 k zO zO hf);obtain⟨W1,hW1⟩:∃W,wtF n n A=W:=⟨_,rfl⟩;obtain⟨W2,hW2⟩:∃W,wts (qs (zbn n b))=W:=⟨_,rfl⟩;rw[hW1,hW2]at hw;rw[hW1]at HWT;rw[hW2]at HWV;have hwi:¬ (1900:Int)<(W1:Int)+(W2:Int):=zO;have sa:=ha.sl;have la:=ha.len;obtain⟨v1,v2,v3,rfl,_⟩:=id hb.sl;have sb:=hb.sl;have hv2:v2=n:=by have h:=hb.len;rw[zda]at h;exact h
 subst hv2;have HA:=zH ha;have HBV:=zH hb;have HFB:=zH hfb;have inn:((v2:Int) != (v2:Int))=false:=by simp
 clear ha hb hW1 hW2 hv hf hfb hw hM hreg hs;go_enter Tryz.func182,Tryz.ntmps182
 go_wp2_with (first
  |(go_at_call 211;(with_reducible refine(HSH.o _ HA.o).mono ?_);rintro e1 w1 ⟨rfl,hb1⟩;have HA1:=zH (HA.o.bw hb1);have HV1:=zH (HBV.o.bw hb1))
  |(go_at_call 212;(with_reducible refine(HVC.o _ _ HV1.o).mono ?_);rintro e2 w2 ⟨rfl,hb2⟩;have HA2:=zH (HA1.o.bw hb2);have HV2:=zH (HV1.o.bw hb2))
  |(go_at_call 174;(with_reducible refine(HWT.o _ HA2.o).mono ?_);rintro e3 w3 ⟨rfl,hb3⟩;have HA3:=zH (HA2.o.bw hb3);have HV3:=zH (HV2.o.bw hb3))
  |(go_at_call 175;(with_reducible refine(HWV.o _ _ HV3.o).mono ?_);rintro e4 w4 ⟨rfl,hb4⟩;have HA4:=zH (HA3.o.bw hb4);have HV4:=zH (HV3.o.bw hb4);have HB4:=zH (zaa (zaa (zaa hb1 hb2) hb3) hb4);clear hb1 hb2 hb3 hb4)
  |(go_at_call 213;(with_reducible refine(HCP.o _ HA4.o).mono ?_);rintro e5 w5 ⟨v5,rs5,rfl,ho5,hb5⟩;have HO5:=zH ho5;have HB5:=zH hb5;clear ho5 hb5))
 obtain⟨B,hBd⟩:∃B,w4.heap.size=B:=⟨_,rfl⟩;rw[hBd]at HO5 HB5;have HBD:=zH hBd;clear hBd;go_loopg [10] (v2) (λ g u10 wr=>∃ (i:Nat) (rs:List Value),i<=v2/\g=v2-i/\u10= .int .i64 i/\zwj wr B v5 rs v2 (λ k=>if k<i then zxa (v2+1) (M k)else zxa v2 (A k))/\Below B w4 wr);case atStart=>exact⟨0,rs5,zZL _,rfl,rfl,HO5.o.congr (λ i hi=>by rw[zIN (zNZ i)]),HB5.o⟩
 case round=>
  obtain⟨i,rs,hi,hg,rfl,hT,hbr⟩:=hrel;obtain⟨w6,hw6⟩:∃w6,w6=wr:=⟨_,rfl⟩;subst hw6;have HG:=zH hg;have HT:=zH hT;have HBR:=zH hbr;have hBB:B<=w6.heap.size:=by have:=hbr.size;have:=HBD.o;omega
  have HBB:=zH hBB;have hBw:=zea HB4.o (by rw[HBD.o];exact hbr) HB4.o.size;have sv5:zvc v5:=hT.own.sl;have lv5:slen v5=v2:=hT.own.len;clear hg HO5 HB5;by_cases hi1:i<v2
  ·(have hir:i<rs.length:=by have:=hT.rl;omega);have hc:=hT.own.cell i hir;obtain⟨r1,r2,r3,hre,_⟩:=(hT.row i hir).sl;rw[hre]at hc;have HRE:=zH hre;obtain⟨ts,as1,ls1,ks1,as2,ls2,ks2,g1,g2,g3,hfs⟩:=(HV4.o.bw (by rw[HBD.o];exact hbr)).cellsAt (k:=i) (by rw[zda];exact hi1);rw[rowL_at hi1]at hfs;have HE:=zH hfs;have HFI:=zH (HFB.o i hi1);have HRI:=zH (HROW.o i);obtain⟨q,hq⟩:∃q,b i=q:=⟨_,rfl⟩;rw[hq]at HE HFI HRI;have j1:(0:Int)<=(i:Int):=zO;have j2:(i:Int)<(v2:Nat):=zO;clear hfs hT hbr hBw hq hre;go_wp2_with (go_at_call 116;(with_reducible refine(zzp _ q _ HE.o HFI.o).mono ?_);rintro e13 w13 ⟨v13,rfl,hv13,hb13⟩;obtain⟨t13,x13,y13,rfl,⟨a131,l131,k131,rfl,q131⟩,⟨a132,l132,k132,rfl,q132⟩⟩:=hv13.isF;have hba:=zca w13 (.cells #[.bool t13, .slice a131 l131 k131, .slice a132 l132 k132] 38);have hb14:=zaa hb13 hba;have HV14:=zH (hv13.bw hba);have HC14:=zH (C3.new w13 38 (.bool t13) (.slice a131 l131 k131) (.slice a132 l132 k132));have HT14:=zH (HT.o.bw hb14);have HB14:=zH (zea HBR.o hb14 HBB.o);have HZ14:=zH (zLT HBB.o hb14.size);have hc14:=zba hb14 hc;obtain⟨_,c0,c1,c2,_,_,_⟩:=HC14.o;clear hb13 hba hb14 hv13 g1 g2 g3 hc);obtain⟨b11,hb11⟩:∃b,w13.heap.size=b:=⟨_,rfl⟩;rw[hb11]at HC14 c0 c1 c2;rw[hb11];clear hb11;generalize w13.alloc (.cells #[.bool t13, .slice a131 l131 k131, .slice a132 l132 k132] 38)=w7 at *
   have hbD:=zfa (B:=w7.heap.size) w7;refine wpL.start 8 (λ w'=>w'.cell? (ptr v5 i)=some (.slice r1 r2 r3)/\w'.cell? ⟨b11,0,none⟩=some (.bool t13)/\w'.cell? ⟨b11,1,none⟩=some (.slice a131 l131 k131)/\w'.cell? ⟨b11,2,none⟩=some (.slice a132 l132 k132)) (by kernel_rfl) ⟨zba hbD hc14,zba hbD c0,zba hbD c1,zba hbD c2⟩ (λ hHeld=> ?_);generalize w7.drew=w7d at *
   refine zU 0 ?_;refine zU 1 ?_;refine zY 2 ?_;refine zY 3 ?_;refine zY 4 ?_;refine zY 5 ?_;refine zY 6 ?_;(refine zW 7 ?_;intro K hK);rw[zIP (by rfl)];go_simp;have hb8:=zca w7d (.cells #[.bool t13, .slice a131 l131 k131, .slice a132 l132 k132] 38);have hVB:=zkg.new w7d #[.bool t13, .slice a131 l131 k131, .slice a132 l132 k132] 38;have hc8:=zba hb8 hHeld.1;refine hK.o _ _ (λ _=>⟨hc8,zba hb8 hHeld.2.1,zba hb8 hHeld.2.2.1,zba hb8 hHeld.2.2.2⟩) ?_;clear hK K hHeld c0 c1 c2 hc14;refine zS ?_;have hv8:=(HV14.o.bw hbD).bw hb8;have hT8:=(HT14.o.bw hbD).bw hb8;have hB7:B<=w7.heap.size:=HZ14.o;have hB8:=zea (zea HB14.o hbD hB7) hb8 (zLT hB7 hbD.size);have hsz8:B<=(w7d.alloc (.cells #[.bool t13, .slice a131 l131 k131, .slice a132 l132 k132] 38)).heap.size:=zLT (zLT hB7 hbD.size) hb8.size;generalize hw9:w7d.alloc (.cells #[.bool t13, .slice a131 l131 k131, .slice a132 l132 k132] 38)=w9 at *
   clear hw9;(have hir:i<rs.length:=by have:=hT8.rl;omega);have hro:=hT8.row i hir;rw[HRE.o,zIN (zIR i)]at hro;(have hlen9:(zxa v2 (A i)).length<=1000:=by rw[zda];omega);(refine zW 8 ?_;intro K hK);refine hAP rfl _ _ (by rfl) B (.slice r1 r2 r3) (zxa v2 (A i)) (by rfl) hro (.bool t13) (.slice a131 l131 k131) (.slice a132 l132 k132) q hv8 w7d.heap.size (by rfl) hVB hlen9 hsz8 ?_;intro v10 w10 hf10 hg10 hn10 ho10;obtain⟨y1,y2,y3,rfl,_⟩:=id hf10.sl;refine hK.o _ _ (λ h=>by first | cases h | simp at h) ?_;clear hK K;refine zS ?_
   have hnO:v5.ownBlock=none\/v5.ownBlock≠(Value.slice r1 r2 r3).ownBlock:=by
    obtain⟨ys,y1,y2⟩:=hro;exact hT8.own.kinds y1 zD
   have hown10:=hT8.own.grown hg10 hnO;(have c10:w10.cell? (ptr v5 i)=some (.slice r1 r2 r3):=by rw[hown10.cell i hir,HRE.o]);have f10:=hown10.frozen i hir;have hset:=hT8.set hir hsz8 hf10 (by rw[HRE.o];exact hg10) (by rw[HRE.o];exact hn10) (by rw[HRE.o];exact ho10);have HSET:=zH hset.1;have HBP:=zH (hB8.trans hset.2);clear hset hnO hown10 hT8 hro hf10 hg10 hn10 ho10 hB8 hb8 hbD hv8 hVB hc8 hir;(refine zW 9 ?_;intro K hK);rw[zIP (by rfl)];go_simp;refine hK.o _ _ (λ h=>by first | cases h | simp at h) ?_;clear hK K;refine zS ?_;(refine zW 10 ?_;intro K hK);rw[zIP (by rfl)];go_simp;refine hK.o _ _ (λ h=>by first | cases h | simp at h) ?_;clear hK K c10 f10;refine wpL.done (by kernel_rfl) ?_ _;go_wp2_with fail;go_roundg (v2- (i+1));case measure=>(have:=HG.o;omega)
   case rel=>
    refine⟨i+1,_,zO,rfl,by go_num,HSET.o.congr (λ k hk=> ?_),HBP.o⟩;by_cases h1:k=i
    ·subst h1;rw[zIP rfl,zIP (zSS k),HRI.o]
    ·rw[zIN h1];by_cases h2:k<i
     ·rw[zIP h2,zIP zO]
     ·rw[zIN h2,zIN zO]
  ·obtain rfl:i=v2:=zO;have HRT:zI (zmn w6 B w6.heap.size v5 rs i (i+1) M):=zH ((hT.congr (λ k hk=>by rw[zIP hk])).rtab zO zO);clear hT hbr hBw;have ilt:¬ (i:Int)<(i:Int):=zO;go_wp2_with (go_at_call 214;(with_reducible refine(relim_any v5 rs B i (i+1) M _ HRT.o zO zO zO HREG.o HSL.o).mono ?_);rintro e14 w14 ⟨d14,rs14,rfl,hd14,ht14,hb14⟩;obtain⟨t4,x4,y4,rfl,⟨a41,l41,k41,rfl,_⟩,⟨a42,l42,k42,rfl,_⟩⟩:=hd14;have hba:=zca w14 (.cells #[.bool t4, .slice a41 l41 k41, .slice a42 l42 k42] 38);have HT14:=zH (ht14.bw hba);have HB14:=zH (zea (HBR.o.trans hb14) hba (zLT HBB.o hb14.size));clear hba hb14 ht14);generalize w14.alloc (.cells #[.bool t4, .slice a41 l41 k41, .slice a42 l42 k42] 38)=w15 at *
   go_loopg [15,16] (i) (λ g u15 u16 wr=>∃ (k:Nat),k<=i/\g=i-k/\u16= .int .i64 k/\zua wr 38 w15.heap.size u15 (zxa k (λ k=>rT i M i k i))/\Below w15.heap.size w15 wr);case atStart=>exact⟨0,zZL _,rfl,rfl,zua.nil _ _ _,zBR _ _⟩
   case round=>
    obtain⟨k,hk,hg,rfl,hfr,hbr⟩:=hrel;obtain⟨w16,hw16⟩:∃w16,w16=wr:=⟨_,rfl⟩;subst hw16;have HG2:=zH hg;have HFR2:=zH hfr;have HBR2:=zH hbr;have srow:=hfr.sl;clear hg hfr;by_cases hk2:k<i
    ·have hT16:=HT14.o.bw hbr;(have hkr:k<rs14.length:=by have:=hT16.rl;omega);have hc:=hT16.own.cell k hkr;have srr:=(hT16.row k hkr).sl;(have lrr:slen rs14[k]=i+1:=by rw[(hT16.row k hkr).fracs.len,zda]);obtain⟨ea,eb,g1,g2,g3,g4,g5⟩:=hT16.elem (i:=k) (j:=i) hkr zO;have hfr16:=HFR2.o;(have hrl:(zxa k (λ k=>rT i M i k i)).length<=1000:=by rw[zda];omega);obtain⟨x,hx⟩:∃x,rT i M i k i=x:=⟨_,rfl⟩;have HX:=zH hx;rw[hx]at g1 g4 g5;obtain⟨ea1,ea2,ea3,rfl,_⟩:=g4.v.sl;obtain⟨eb1,eb2,eb3,rfl,_⟩:=g5.v.sl;have hv16:zia w16 (.agg #[.bool (decide (x<0)), .slice ea1 ea2 ea3, .slice eb1 eb2 eb3]) x:=⟨_,_,rfl,g4,g5⟩;have hsz16:w15.heap.size<=w16.heap.size:=hbr.size;generalize rs14[k]=ck at *
     have j1:(0:Int)<=(k:Int):=zO;have j2:(k:Int)<(i:Nat):=zO;have j3:(i:Int)<((i+1:Nat):Int):=zO;have j4:(0:Int)<=(i:Int):=zO;clear g4 g5 hT16 hbr hx hkr
     go_wp2_with (first
      |(at_builtin;refine hA1 w16 rfl _ _ rfl w15.heap.size _ u15 (zxa k (λ k=>rT i M i k i)) rfl hfr16 _ _ _ x hv16 rfl hrl hsz16 ?_;intro v17 w17 ho17 hg17 hn17 hq17 sv17;have hg5:Below w15.heap.size w16 w17:=zja hg17 hsz16 (λ k hk=>(hfr16.block k hk).1);have HO17:=zH ho17;have HB17:=zH (HBR2.o.trans hg5)))
     go_roundg (i- (k+1));(case measure=>(have:=HG2.o;omega));case rel=>exact⟨k+1,zO,rfl,by go_num,by rw[<-zkd,HX.o];exact HO17.o,HB17.o⟩
    ·obtain rfl:k=i:=zO;go_wp2_with fail;go_ret2;refine⟨_,0,rfl,?_,λ h=>absurd HREG.o zO,λ _=>⟨rfl,?_⟩⟩
     ·exact zea (zea HB4.o (by rw[HBD.o];exact HB14.o) HB4.o.size) HBR2.o (zLT HB4.o.size HB14.o.size)
     ·have h:=HFR2.o.fracs;(have e:zxa k (λ j=>rT k M k j k)=zxa k (λ j=>(elim false k M k).A j k/(elim false k M k).A j j):=zlb λ j hj=>by unfold rT;rw[zIP hj]);rw[e]at h;exact h
end Go.Proofs.YtlpdkbmmbdfoiaaGreat
