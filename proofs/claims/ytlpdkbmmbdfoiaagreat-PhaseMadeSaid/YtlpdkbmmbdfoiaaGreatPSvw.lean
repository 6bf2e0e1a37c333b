/- Lemmas. -/
import Derived.Test.YtlpdkbmmbdfoiaaGreatPWtm
set_option linter.unusedVariables false
set_option linter.unusedSimpArgs false
namespace Go.Proofs.YtlpdkbmmbdfoiaaGreat
open Go.RowKit
set_option maxRecDepth 100000 in
set_option maxHeartbeats 6400000 in
theorem rdot_raw (vu vv:Value) (n:Nat) (x y:Nat->RF) (w:World) (hu:zlg w vu (rowF n x)) (hv:zlg w vv (rowF n y)) (hn:n<=1000) (hfx:∀k,k<n->(x k).ok) (hfy:∀k,k<n->(y k).ok)
 (hp:∀k,k<n->fits ((x k).q*(y k).q)) (hs:∀k,k<=n->fits (sg k λ j=>(x j).q*(y j).q)):
 Calls Tryz.prog 176 #[vu,vv] w (RF1 w (sg n λ j=>(x j).q*(y j).q)):=by
 have su:=hu.sl;have lu:slen vu=n:=by rw[hu.len,zmh]
 have sv:=hv.sl;have lv:slen vv=n:=by rw[hv.len,zmh]
 have HU:=zH hu;have HV:=zH hv;have HFX:=zH hfx;have HFY:=zH hfy;have HP:=zH hp;have HS:=zH hs;have hb0:=zca w (.cells #[.bool false, .slice none 0 0, .slice none 0 0] 38);have HR0:=zH (C3.new w 38 (.bool false) (.slice none 0 0) (.slice none 0 0));clear hu hv hfx hfy hp hs;go_enter Tryz.func176,Tryz.ntmps176;go_upto_region 1 with fail;obtain⟨W0,hW0⟩:∃W0,w.alloc (.cells #[.bool false, .slice none 0 0, .slice none 0 0] 38)=W0:=⟨_,rfl⟩;rw[hW0]at hb0 HR0 |-
 clear hW0;have hB0:w.heap.size<=W0.heap.size:=hb0.size;go_wp2_with (go_at_call 20;(with_reducible refine(zof _).mono ?_);rintro e13 w13 ⟨v13,rfl,hv13,hb13⟩;obtain⟨t13,x13,y13,rfl,⟨a131,l131,k131,rfl,q131⟩,⟨a132,l132,k132,rfl,q132⟩⟩:=hv13.isF;have hb14:=zaa hb13 (zca w13 (.cells #[.bool t13, .slice a131 l131 k131, .slice a132 l132 k132] 38));have hv14:=hv13.bw (zca w13 (.cells #[.bool t13, .slice a131 l131 k131, .slice a132 l132 k132] 38));have h1314:=hb13.size;have HC1:=zH (C3.new w13 38 (.bool t13) (.slice a131 l131 k131) (.slice a132 l132 k132)));obtain⟨b5,hb5⟩:∃b,w13.heap.size=b:=⟨_,rfl⟩;rw[hb5]at HC1 h1314;rw[hb5];clear hb5;go_loopg [6] (n) (λ g u6 wr=>∃ (k:Nat) (t':Bool) (a1 a2:Option Addr) (l1 k1 l2 k2:Nat),k<=n/\g=n-k/\u6= .int .i64 k/\C3 wr b5 (.bool t') (.slice a1 l1 k1) (.slice a2 l2 k2)/\zia wr (.agg #[.bool t', .slice a1 l1 k1, .slice a2 l2 k2]) (sg k λ j=>(x j).q*(y j).q)/\Below W0.heap.size W0 wr);case atStart=>exact⟨0,_,_,_,_,_,_,_,zZL _,rfl,rfl,HC1.o,hv14,hb14⟩
 case round=>
  obtain⟨k,t',a1,a2,l1,k1,l2,k2,hk,hg,rfl,hc3,hvk,hbr⟩:=hrel;obtain⟨w2,hw2⟩:∃w2,w2=wr:=⟨_,rfl⟩;subst hw2;have HG:=zH hg;have HC3:=zH hc3;have HVK:=zH hvk;have HBR:=zH hbr;have hbw:=hb0.trans (hbr.mono hB0);clear hg hv14 hb14 HC1;by_cases hkn:k<n
  ·obtain⟨ea,eb,g1,g2,g3,g4,g5⟩:=(HU.o.bw hbw).at' k (by rw[zmh];exact hkn);obtain⟨ec,ed,g6,g7,g8,g9,g10⟩:=(HV.o.bw hbw).at' k (by rw[zmh];exact hkn);rw[rowF_get]at g1 g4 g5 g6 g9 g10;obtain⟨ea1,ea2,ea3,rfl,_⟩:=g4.slen.1;obtain⟨eb1,eb2,eb3,rfl,_⟩:=g5.slen.1;obtain⟨ec1,ec2,ec3,rfl,_⟩:=g9.slen.1;obtain⟨ed1,ed2,ed3,rfl,_⟩:=g10.slen.1;have hbD:=zfa (B:=w2.heap.size) w2;have HFU:zI (zzb w2.drew (.agg #[.bool (x k).neg, .slice ea1 ea2 ea3, .slice eb1 eb2 eb3]) (x k).neg (x k).n (x k).d):=zH ⟨_,_,rfl,g4.bw hbD,g5.bw hbD⟩;have HFV:zI (zzb w2.drew (.agg #[.bool (y k).neg, .slice ec1 ec2 ec3, .slice ed1 ed2 ed3]) (y k).neg (y k).n (y k).d):=zH ⟨_,_,rfl,g9.bw hbD,g10.bw hbD⟩;have HCD:=zH (HC3.o.bS hbD);have HVD:=zH (HVK.o.bw hbD);obtain⟨_,p1,p2,p3,_,_,_⟩:=id hc3;have q1:=zba hbD p1;have q2:=zba hbD p2;have q3:=zba hbD p3;have q4:=zba hbD g1;have q5:=zba hbD g2;have q6:=zba hbD g3;have q7:=zba hbD g6;have q8:=zba hbD g7;have q9:=zba hbD g8;have HF1:=zH (HFX.o k hkn);have HF2:=zH (HFY.o k hkn);have HF3:=zH (HP.o k hkn);have HF4:=zH (HS.o k hk);have HF5:zI (fits ((sg k λ j=>(x j).q*(y j).q)+(x k).q*(y k).q)):=zH (HS.o (k+1) hkn);have i1:(0:Int)<=(k:Int):=zO;have i2:(k:Int)<(n:Nat):=zO;clear g1 g2 g3 g4 g5 g6 g7 g8 g9 g10 hbw hc3 hvk hbr p1 p2 p3;go_wp2_with fail;refine wpN.start [11] (λ w'=>w'.cell? ⟨b5,0,none⟩=some (.bool t')/\w'.cell? ⟨b5,1,none⟩=some (.slice a1 l1 k1)/\w'.cell? ⟨b5,2,none⟩=some (.slice a2 l2 k2)/\w'.cell? (ptr vu (k*3))=some (.bool (x k).neg)/\w'.cell? (ptr vu (k*3+1))=some (.slice ea1 ea2 ea3)/\w'.cell? (ptr vu (k*3+2))=some (.slice eb1 eb2 eb3)/\w'.cell? (ptr vv (k*3))=some (.bool (y k).neg)/\w'.cell? (ptr vv (k*3+1))=some (.slice ec1 ec2 ec3)/\w'.cell? (ptr vv (k*3+2))=some (.slice ed1 ed2 ed3)) (by kernel_rfl) ⟨q1,q2,q3,q4,q5,q6,q7,q8,q9⟩ (λ hHeld=> ?_);refine wpN.t 0 ?_;refine wpN.t 1 ?_;refine wpN.t 2 ?_;refine wpN.t 3 ?_;refine wpN.t 4 ?_;refine wpN.t 5 ?_;refine wpN.t 6 ?_;refine wpN.t 7 ?_;refine wpN.t 8 ?_;(refine wpN.oo 9 ?_;intro K hK);refine zsa 209 #[.agg #[.bool (x k).neg, .slice ea1 ea2 ea3, .slice eb1 eb2 eb3], .agg #[.bool (y k).neg, .slice ec1 ec2 ec3, .slice ed1 ed2 ed3]] ?_ ?_ (r5mul_raw _ _ (x k) (y k) _ HFU.o HFV.o HF1.o HF2.o HF3.o) ?_
   ·rfl
   ·go_simp
   rintro e9 w9 ⟨v9,rfl,hv9,hb9⟩;refine⟨_,rfl,?_⟩;have hNew:(λ w'=>w'.cell? ⟨b5,0,none⟩=some (.bool t')/\w'.cell? ⟨b5,1,none⟩=some (.slice a1 l1 k1)/\w'.cell? ⟨b5,2,none⟩=some (.slice a2 l2 k2)/\w'.cell? (ptr vu (k*3))=some (.bool (x k).neg)/\w'.cell? (ptr vu (k*3+1))=some (.slice ea1 ea2 ea3)/\w'.cell? (ptr vu (k*3+2))=some (.slice eb1 eb2 eb3)/\w'.cell? (ptr vv (k*3))=some (.bool (y k).neg)/\w'.cell? (ptr vv (k*3+1))=some (.slice ec1 ec2 ec3)/\w'.cell? (ptr vv (k*3+2))=some (.slice ed1 ed2 ed3)) w9:=⟨zba hb9 q1,zba hb9 q2,zba hb9 q3,zba hb9 q4,zba hb9 q5,zba hb9 q6,zba hb9 q7,zba hb9 q8,zba hb9 q9⟩;refine hK.o _ _ (λ _=>hNew) ?_;clear hK K hHeld q1 q2 q3 q4 q5 q6 q7 q8 q9;refine zS ?_;obtain⟨q1,q2,q3,q4,q5,q6,q7,q8,q9⟩:=hNew;(refine wpN.oo 10 ?_;intro K hK);refine zsa 208 #[.agg #[.bool t', .slice a1 l1 k1, .slice a2 l2 k2],v9] ?_ ?_ (r5add_can _ _ _ _ _ (HVD.o.bw hb9) hv9 HF4.o HF3.o HF5.o) ?_
   ·rfl
   ·go_simp
   rintro e10 w10 ⟨v10,rfl,hv10,hb10⟩;obtain⟨t9,a91,l91,k91,a92,l92,k92,rfl⟩:=hv10.iF;refine⟨_,rfl,?_⟩;have hNew:(λ w'=>w'.cell? ⟨b5,0,none⟩=some (.bool t')/\w'.cell? ⟨b5,1,none⟩=some (.slice a1 l1 k1)/\w'.cell? ⟨b5,2,none⟩=some (.slice a2 l2 k2)/\w'.cell? (ptr vu (k*3))=some (.bool (x k).neg)/\w'.cell? (ptr vu (k*3+1))=some (.slice ea1 ea2 ea3)/\w'.cell? (ptr vu (k*3+2))=some (.slice eb1 eb2 eb3)/\w'.cell? (ptr vv (k*3))=some (.bool (y k).neg)/\w'.cell? (ptr vv (k*3+1))=some (.slice ec1 ec2 ec3)/\w'.cell? (ptr vv (k*3+2))=some (.slice ed1 ed2 ed3)) w10:=⟨zba hb10 q1,zba hb10 q2,zba hb10 q3,zba hb10 q4,zba hb10 q5,zba hb10 q6,zba hb10 q7,zba hb10 q8,zba hb10 q9⟩;refine hK.o _ _ (λ _=>hNew) ?_;clear hK K q1 q2 q3 q4 q5 q6 q7 q8 q9 hNew;refine zS ?_;have HC10:=zH ((HCD.o.bS hb9).bS hb10);have HV10:=zH hv10;have HB10:=zH (zea (zea (zea HBR.o hbD HBR.o.size) hb9 (zea HBR.o hbD HBR.o.size).size) hb10 (zea (zea HBR.o hbD HBR.o.size) hb9 (zea HBR.o hbD HBR.o.size).size).size);obtain⟨_,c0,c1,c2,f0,f1,f2⟩:=HC10.o;clear hv10 hb10 hv9 hb9 hbD;(refine wpN.oo 11 ?_;intro K hK);rw[zIP (by rfl)];go_simp;refine hK.o _ _ (λ h=>by cases h) ?_;clear hK K c0 c1 c2 f0 f1 f2;refine wpN.done (by kernel_rfl) ?_ _;go_wp2_with fail;go_roundg (n- (k+1));(case measure=>(have:=HG.o;omega));case rel=>exact⟨k+1,_,_,_,_,_,_,_,zO,rfl,by go_num,HC10.o.set _ _ _,HV10.o.set3 HC10.o zZ zZ _ _ _,zga HB10.o h1314 _ _ _⟩
  ·obtain rfl:k=n:=zO;have HR2:=zH (HR0.o.bw hbr HR0.o.lt);obtain⟨_,c0,c1,c2,f0,f1,f2⟩:=HR2.o;obtain⟨_,d0,d1,d2,_,_,_⟩:=id hc3;go_wp2_with fail;refine zab rfl rfl Tryz.aggF Tryz.sizeF (HR2.o.set _ _ _) rfl ?_;exact⟨_,rfl,hvk.set3 HR2.o zZ zZ _ _ _,zga hbw (zLR _) _ _ _⟩
theorem frb {w w':World} {e:TypeId} {B:Nat} {v:Value} {q:List Rat} (h:zua w e B v q) (hb:Below w.heap.size w w'):zua w' e B v q:=h.moves (zkb.bw (B:=B) hb) (zLR _)
theorem frKind {w:World} {B:Nat} {v u:Value} {q:List Rat} {xs:List Value} (h:zua w 38 B v q) (h2:zkc w 25 B 1 u xs.length xs):v.ownBlock=none\/v.ownBlock≠u.ownBlock:=by
 obtain⟨ys,y1,y2⟩:=id h;exact y1.kinds h2 zD
theorem frKind' {w:World} {B:Nat} {v u:Value} {q:List Rat} {xs:List Value} (h:zua w 38 B v q) (h2:zkc w 25 B 1 u xs.length xs):u.ownBlock=none\/u.ownBlock≠v.ownBlock:=by
 obtain⟨ys,y1,y2⟩:=id h;exact h2.kinds y1 zD
structure SvW (w:World) (B m:Nat) (A:Mx) (b:Nat->Rat) (i:Nat) (u8 u9:Value) (rs:List Value):Prop where
 rows:MkR w B u8 rs m A
 rl:rs.length=i
 rhs:zua w 38 B u9 (zxa i b)
 ap:∀ (j:Nat) (hj:j<rs.length) g,rs[j].ownBlock=some g->u9.ownBlock≠some g
section
variable {w w':World} {B m i:Nat} {A:Mx} {b:Nat->Rat} {u8 u9 r v':Value} {rs:List Value}
theorem SvW.bw (h:SvW w B m A b i u8 u9 rs) (hb:Below w.heap.size w w'):SvW w' B m A b i u8 u9 rs:=⟨h.rows.bw hb,h.rl,frb h.rhs hb,h.ap⟩
structure SvX (w:World) (B m:Nat) (A:Mx) (b:Nat->Rat) (i:Nat) (u8 u9:Value) (rs:List Value):Prop where
 rows:MkR w B u8 rs m A
 rl:rs.length=i+1
 rhs:zua w 38 B u9 (zxa i b)
 ap:∀ (j:Nat) (hj:j<rs.length) g,rs[j].ownBlock=some g->u9.ownBlock≠some g
theorem SvX.bw (h:SvX w B m A b i u8 u9 rs) (hb:Below w.heap.size w w'):SvX w' B m A b i u8 u9 rs:=⟨h.rows.bw hb,h.rl,frb h.rhs hb,h.ap⟩
theorem SvW.push1 (h:SvW w B m A b i u8 u9 rs) (hr:zua w 38 B r (zxa m (A i))) (hne:∀g,r.ownBlock=some g->u9.ownBlock≠some g)
 (hv:zkc w' 25 B 1 v' (rs++ [r]).length (rs++ [r])) (hg:w.grownBy w' u8.ownBlock):SvX w' B m A b i v' u9 (rs++ [r])/\Below B w w':=by
 have hp:=h.rows.push (r:=r) (by rw[h.rl];exact hr) hv hg h.rows.ra.nl;refine⟨⟨hp.1,by rw[zLA,h.rl];rfl,h.rhs.grown hg h.rows.ra.nl (frKind h.rhs h.rows.ra),λ j hj g hg2=> ?_⟩,hp.2⟩;by_cases e:j<rs.length
 ·rw[zAL e]at hg2;exact h.ap j e g hg2
 ·have e2:j=rs.length:=by rw[zLA]at hj;simp at hj;omega
  subst e2;rw[List.getElem_append_right (zLR _)]at hg2;simp at hg2;exact hne g hg2
theorem SvX.push2 (h:SvX w B m A b i u8 u9 rs) (hv:zua w' 38 B v' (zxa (i+1) b)) (hg:w.grownBy w' u9.ownBlock) (hn:zrb w u9) (ho:v'.ownBlock=u9.ownBlock\/∃k,w.heap.size<=k/\v'.ownBlock=some k):
 SvW w' B m A b (i+1) u8 v' rs/\Below B w w':=by
 have hb:Below B w w':=zja hg h.rows.sz (λ k hk=>(h.rhs.block k hk).1);refine⟨⟨⟨h.rows.ra.grown hg (frKind' h.rhs h.rows.ra),λ j hj=>(h.rows.rows j hj).grown hg hn ?_,zLT h.rows.sz hb.size⟩,h.rl,hv,λ j hj g hg2=> ?_⟩,hb⟩
 ·cases hk:rs[j].ownBlock with
  | none=>exact Or.inl rfl
  | some g=>exact Or.inr λ e=>h.ap j hj g hk e.symm
 ·rcases ho with e | ⟨k,hk,e⟩
  ·rw[e];exact h.ap j hj g hg2
  ·rw[e];intro e2;have:=((h.rows.rows j hj).block g hg2).2;simp at e2;omega
end
theorem qs_ofs (l:List Rat):qs (l.map RF.of)=l:=by
 unfold qs;rw[List.map_map];exact(List.map_congr_left λ x _=>RF.of_q x).trans (List.map_id l)
theorem rawV_qs (n:Nat) (b:Nat->Rat):qs (zbn n b)=zxa n b:=qs_ofs _
theorem neg_zs (x:Rat): -x=0-x:=by grind
end Go.Proofs.YtlpdkbmmbdfoiaaGreat
