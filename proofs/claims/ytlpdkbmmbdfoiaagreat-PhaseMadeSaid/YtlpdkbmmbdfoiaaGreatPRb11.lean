/- Lemmas. -/
import Derived.Test.YtlpdkbmmbdfoiaaGreatPOne1
set_option linter.unusedVariables false
set_option linter.unusedSimpArgs false
namespace Go.Proofs.YtlpdkbmmbdfoiaaGreat
open Go.RowKit
set_option maxRecDepth 100000 in
set_option maxHeartbeats 1600000 in
theorem r2sub_can (va vb:Value) (p q:Rat) (w:World) (ha:zia w va p) (hb:zia w vb q) (hp:fits p) (hq:fits q) (hf:fits (p-q)):Calls Tryz.prog 39 #[va,vb] w (RF0 w (p-q)):=by
 obtain⟨ta,a1,a2,a3,a4,a5,a6,rfl⟩:=ha.iF;obtain⟨tb,b1,b2,b3,b4,b5,b6,rfl⟩:=hb.iF;obtain⟨hA,hB,hR,hbw⟩:=zpb w 38 (.bool ta) (.slice a1 a2 a3) (.slice a4 a5 a6) (.bool tb) (.slice b1 b2 b3) (.slice b4 b5 b6) (.bool false) (.slice none 0 0) (.slice none 0 0) _ rfl;have HA:=zH (ha.bw hbw);have HB:=zH (hb.bw hbw);have HC1:=zH hA;have HC2:=zH hB;have HC3:=zH hR;have HBW:=zH hbw;have HN:zI (fits (-q)):=zH ⟨by rw[Rat.neg_num,Int.natAbs_neg];exact hq.1,hq.2⟩;have HP:=zH hp;have HE:zI (p+ -q=p-q):=zH (Rat.sub_eq_add_neg p q).symm;have HF:zI (fits (p+ -q)):=zH (by rw[HE.o];exact hf);rw[<-HE.o];clear hA hB hR hbw ha hb hp hq hf;go_enter Tryz.func39,Tryz.ntmps39;go_upto_region 1 with fail;generalize ((w.alloc (.cells #[.bool ta, .slice a1 a2 a3, .slice a4 a5 a6] 38)).alloc (.cells #[.bool tb, .slice b1 b2 b3, .slice b4 b5 b6] 38)).alloc (.cells #[.bool false, .slice none 0 0, .slice none 0 0] 38)=W2 at *
 obtain⟨_,c0,c1,c2,_,_,_⟩:=HC1.o;obtain⟨_,d0,d1,d2,_,_,_⟩:=HC2.o;have hbD:=zfa (B:=W2.heap.size) W2;have HAD:=zH (HA.o.bw hbD);have HBD:=zH (HB.o.bw hbD);have HRD:=zH (HC3.o.bS hbD);have HWD:=zH (zaa HBW.o hbD);refine wpL.start 6 (λ w'=>w'.cell? ⟨w.heap.size,0,none⟩=some (.bool ta)/\w'.cell? ⟨w.heap.size,1,none⟩=some (.slice a1 a2 a3)/\w'.cell? ⟨w.heap.size,2,none⟩=some (.slice a4 a5 a6)/\w'.cell? ⟨w.heap.size+1,0,none⟩=some (.bool tb)/\w'.cell? ⟨w.heap.size+1,1,none⟩=some (.slice b1 b2 b3)/\w'.cell? ⟨w.heap.size+1,2,none⟩=some (.slice b4 b5 b6)) (by kernel_rfl) ⟨zba hbD c0,zba hbD c1,zba hbD c2,zba hbD d0,zba hbD d1,zba hbD d2⟩ (λ hHeld=> ?_);clear c0 c1 c2 d0 d1 d2 hbD HA HB HC1 HC2 HC3 HBW;generalize W2.drew=wd at *
 refine zY 0 ?_;refine zY 1 ?_;(refine zW 2 ?_;intro K hK);refine zsa 105 #[.agg #[.bool tb, .slice b1 b2 b3, .slice b4 b5 b6]] ?_ ?_ (zzg _ _ _ HBD.o) ?_
 ·rfl
 ·go_simp
 rintro e7 w7 ⟨v7,rfl,hv7,hb7⟩;have hH7:=zAI (zba hb7 hHeld.1) (zAI (zba hb7 hHeld.2.1) (zAI (zba hb7 hHeld.2.2.1) (zAI (zba hb7 hHeld.2.2.2.1) (zAI (zba hb7 hHeld.2.2.2.2.1) (zba hb7 hHeld.2.2.2.2.2)))));refine⟨_,rfl,?_⟩;refine hK.o _ _ (λ _=>hH7) ?_;have HA7:=zH (HAD.o.bw hb7);have HR7:=zH (HRD.o.bS hb7);have HW7:=zH (zaa HWD.o hb7);clear hK K hHeld HAD HBD HRD HWD hb7;refine zS ?_;(refine zW 3 ?_;intro K hK);refine zsa 19 #[.agg #[.bool ta, .slice a1 a2 a3, .slice a4 a5 a6],v7] ?_ ?_ (zgo _ _ _ _ _ HA7.o hv7 HP.o HN.o HF.o) ?_
 ·rfl
 ·go_simp
 rintro e8 w8 ⟨v8,rfl,hv8,hb8⟩;obtain⟨t8,a81,l81,k81,a82,l82,k82,rfl⟩:=hv8.iF;have hH8:=zAI (zba hb8 hH7.1) (zAI (zba hb8 hH7.2.1) (zAI (zba hb8 hH7.2.2.1) (zAI (zba hb8 hH7.2.2.2.1) (zAI (zba hb8 hH7.2.2.2.2.1) (zba hb8 hH7.2.2.2.2.2)))));refine⟨_,rfl,?_⟩;refine hK.o _ _ (λ _=>hH8) ?_;have HR8:=zH (HR7.o.bS hb8);have HW8:=zH (zaa HW7.o hb8);clear hK K hH7 HA7 HR7 HW7 hb8;refine zS ?_;have hHeld:=hH8;refine zU 4 ?_;refine zU 5 ?_;clear hHeld;obtain⟨_,g0,g1,g2,f0,f1,f2⟩:=HR8.o;(refine zW 6 ?_;intro K hK);rw[zIP (by rfl)];go_simp;refine hK.o _ _ (λ h=>by first | cases h | simp at h) ?_;clear hK K hH8 g0 g1 g2 f0 f1 f2;refine zS ?_;(refine zW 7 ?_;intro K hK);rw[zIP (by rfl)];go_simp;refine hK.o _ _ (λ h=>by first | cases h | simp at h) ?_;clear hK K;refine wpL.done (by kernel_rfl) ?_ _;refine zS ?_;go_wp2_with fail;refine zla rfl rfl Tryz.aggF Tryz.sizeF (HR8.o.set _ _ _) rfl ?_;exact⟨_,rfl,hv8.set3 HR8.o zZ zZ _ _ _,zga HW8.o (zLT (zLS _) (zLS _)) _ _ _⟩
end Go.Proofs.YtlpdkbmmbdfoiaaGreat
