/- Lemmas. -/
import Derived.Test.YtkpedaflofejnaaGreatMLo7
set_option linter.unusedVariables false
set_option linter.unusedSimpArgs false
namespace Go.Proofs.YtkpedaflofejnaaGreat
open Go.RowKit Go.Maps
def RVecs (w0:World) (L:List (List Nat)) (e:Ending) (w:World):Prop:=
 ∃vb,e= .returned (.tuple #[.pointer (some ⟨vb,0,none⟩), .bool (decide (L.length<128))])/\Below w0.heap.size w0 w/\(L.length<128->∃B mb lv rs,zsk w B vb mb lv rs L/\w0.heap.size<=vb)
theorem cntT_start (P n m:Nat):(zwo P m 0 n).map (([]:List Nat)++ ·)=zue P n m:=by
 unfold zwo;rw[zIP rfl];simp
def W2w (w:World) (P m:Nat):World:=((((w.alloc (.cells #[.int .i64 (P:Nat)] 3)).alloc (.cells #[.int .i64 (m:Nat)] 3)).alloc (.map #[] 0)).alloc (.cells #[.slice none 0 0, .map (some (w.heap.size+1+1))] 80)).alloc (.cells #[.pointer (some ⟨w.heap.size+1+1+1,0,none⟩)] 73)
def capC (b0 b9 gb B p1 p4:Nat) (gv x1 x4 f:Value):Cap:=⟨B,b0+1+1+1,b0+1+1,gb,p1,b9,b0+1+1+1+1,p4,b9+1,gv,x1,x4,f⟩
theorem capC.ok {b0 b9 gb B p1 p4:Nat} {gv x1 x4 f:Value} (hp1:p1<=b0+1) (hp4:p4<=b0+1) (h1:b0+5<=gb) (h2:gb<b9) (h3:b9+2<=B) (hg:(base gv).block=gb):(capC b0 b9 gb B p1 p4 gv x1 x4 f).Ok:=by
 have key:∀q:Nat,q≠b0+1+1+1->q≠b0+1+1->q≠gb->q∉(capC b0 b9 gb B p1 p4 gv x1 x4 f).S:=λ q h1 h2 h3=>by
  unfold capC Cap.S;simp[h1,h2,h3]
 exact⟨by show gb<B;omega,by show gb≠b0+1+1+1;omega,by show gb≠b0+1+1;omega,hg,
  ⟨by show p1<B;omega,key p1 zO zO zO⟩,⟨by show b9<B;omega,key b9 zO zO zO⟩,⟨by show b0+1+1+1+1<B;omega,key (b0+1+1+1+1) zO zO zO⟩,⟨by show p4<B;omega,key p4 zO zO zO⟩,⟨by show b9+1<B;omega,key (b9+1) zO zO zO⟩⟩
theorem cap_start (w W2 w9 W5:World) (N p1 p4:Nat) (hp1:p1<=w.heap.size+1) (hp4:p4<=w.heap.size+1) (gv x1 x4 f:Value) (T5 T6:TypeId) (e0:W2.cell? ⟨w.heap.size+1+1+1,0,none⟩=some (.slice none 0 0)) (em:W2.cell? ⟨w.heap.size+1+1+1,1,none⟩=some (.map (some (w.heap.size+1+1))))
 (ef:W2.frozen? ⟨w.heap.size+1+1+1,0,none⟩=false) (hmap:W2.ownsMap (H:=Unit) Tryz.prog 9 (plainElem Tryz.prog 3) (w.heap.size+1+1) 0 (.map [])) (hsz:W2.heap.size=w.heap.size+5)
 (e1:W2.cell? ⟨p1,0,none⟩=some x1) (e3:W2.cell? ⟨w.heap.size+1+1+1+1,0,none⟩=some (.pointer (some ⟨w.heap.size+1+1+1,0,none⟩))) (e4:W2.cell? ⟨p4,0,none⟩=some x4)
 (hv:zib w9 3 W2.heap.size gv (List.replicate N (.int .i64 0))) (hN:1<=N) (hb9:Below W2.heap.size W2 w9) (hW5:W5=(w9.alloc (.cells #[gv] T5)).alloc (.cells #[f] T6)):
 ClI (capC w.heap.size w9.heap.size (base gv).block (w9.heap.size+2) p1 p4 gv x1 x4 f) W5 (.slice none 0 0) [] [] (List.replicate N 0)/\Below W2.heap.size W2 W5:=by
 have hbl:=hv.block (by simp;omega);have hb1:=zba w9 (.cells #[gv] T5);have hb2:=zba (w9.alloc (.cells #[gv] T5)) (.cells #[f] T6);have hsa:(w9.alloc (.cells #[gv] T5)).heap.size=w9.heap.size+1:=sizeA _ _;have hsb:W5.heap.size=w9.heap.size+2:=by rw[hW5,sizeA,hsa]
 rw[<-hW5]at hb2;have hb:=hb9.trans ((hb1.mono hb9.size).trans (hb2.mono (by rw[hsa];have:=hb9.size;omega)));have hok:(capC w.heap.size w9.heap.size (base gv).block (w9.heap.size+2) p1 p4 gv x1 x4 f).Ok:=capC.ok hp1 hp4 zO zO (zLR _) rfl;have hw9:=hb9.size
 have hrow:zib W5 3 0 gv ((List.replicate N 0).map zod):=by
  have h:=((hv.bw hb1).bw hb2).mono (zZL _);rw[List.map_replicate];exact h
 refine⟨⟨hok,zca hb e1,?_,zca hb e3,zca hb e4,?_,hrow,?_⟩,hb⟩
 ·show W5.cell? ⟨w9.heap.size,0,none⟩=some gv
  refine zca hb2 ?_;go_simp
 ·show W5.cell? ⟨w9.heap.size+1,0,none⟩=some f
  rw[hW5];go_simp
 ·exact zsk.nil (by show w.heap.size+1+1+1<w9.heap.size+2;omega) (by show w.heap.size+1+1<w9.heap.size+2;omega) (by show w.heap.size+1+1+1≠w.heap.size+1+1;omega) (by show w9.heap.size+2<=W5.heap.size;omega)
   (zca hb e0) (zca hb em) (by rw[hb.frozen (show w.heap.size+1+1+1<W2.heap.size by omega)];exact ef) (hmap.kept (zeb hb) (by simp))
theorem zan (N:Nat):zhb (List.replicate N 0):=λ x hx=>by rw[List.eq_of_mem_replicate hx];decide
theorem cnt_start (w W2 w9 W5:World) (P n m:Nat) (gv f:Value) (hP:1<=P) (hP4:P<=4) (hn:n<=8) (hm:m<=n) (e0:W2.cell? ⟨w.heap.size+1+1+1,0,none⟩=some (.slice none 0 0)) (em:W2.cell? ⟨w.heap.size+1+1+1,1,none⟩=some (.map (some (w.heap.size+1+1))))
 (ef:W2.frozen? ⟨w.heap.size+1+1+1,0,none⟩=false) (hmap:W2.ownsMap (H:=Unit) Tryz.prog 9 (plainElem Tryz.prog 3) (w.heap.size+1+1) 0 (.map [])) (hbw:Below w.heap.size w W2) (hsz:W2.heap.size=w.heap.size+5)
 (e1:W2.cell? ⟨w.heap.size,0,none⟩=some (.int .i64 (P:Nat))) (e3:W2.cell? ⟨w.heap.size+1+1+1+1,0,none⟩=some (.pointer (some ⟨w.heap.size+1+1+1,0,none⟩))) (e4:W2.cell? ⟨w.heap.size+1,0,none⟩=some (.int .i64 (m:Nat)))
 (hv:zib w9 3 W2.heap.size gv (List.replicate (P+1) (.int .i64 0))) (hb9:Below W2.heap.size W2 w9) (hg9:W2.heap.size<=(base gv).block) {T5 T6:TypeId} (hW5:W5=(w9.alloc (.cells #[gv] T5)).alloc (.cells #[f] T6)) (hf:f=cntF w.heap.size w9.heap.size (w.heap.size+1+1+1+1) (w.heap.size+1) (w9.heap.size+1)):
 W5.cell? ⟨w.heap.size+1+1+1+1,0,none⟩=some (.pointer (some ⟨w.heap.size+1+1+1,0,none⟩))/\W5.cell? ⟨w9.heap.size+1,0,none⟩=some f/\
 ∀wd,Below W5.heap.size W5 wd->Calls Tryz.prog 114 #[.int .i64 0, .int .i64 (n:Nat), .pointer (some ⟨w.heap.size,0,none⟩), .pointer (some ⟨w9.heap.size,0,none⟩), .pointer (some ⟨w.heap.size+1+1+1+1,0,none⟩), .pointer (some ⟨w.heap.size+1,0,none⟩), .pointer (some ⟨w9.heap.size+1,0,none⟩)] wd
  (λ e w'=>e= .returned (.bool (decide ((zue P n m).length<128)))/\w'.cell? ⟨w.heap.size+1+1+1+1,0,none⟩=some (.pointer (some ⟨w.heap.size+1+1+1,0,none⟩))/\w'.cell? ⟨w9.heap.size+1,0,none⟩=some f/\Below w.heap.size w w'/\((zue P n m).length<128->∃B mb lv rs,zsk w' B (w.heap.size+1+1+1) mb lv rs (zue P n m))):=by
 obtain⟨hI,hb5⟩:=cap_start w W2 w9 W5 (P+1) w.heap.size (w.heap.size+1) zO zO gv (.int .i64 (P:Nat)) (.int .i64 (m:Nat)) f T5 T6 e0 em ef hmap hsz e1 e3 e4 hv zO hb9 hW5;refine⟨hI.c3,hI.c5,λ wd hbD=> ?_⟩;have hS:=cnt1_any (capC w.heap.size w9.heap.size (base gv).block (w9.heap.size+2) w.heap.size (w.heap.size+1) gv (.int .i64 (P:Nat)) (.int .i64 (m:Nat)) f) P m hP zO zO rfl rfl hf P (zLR _);rw[Nat.sub_self]at hS;have hL:=cntT_start P n m;have hlen:(zwo P m 0 n).length=(zue P n m).length:=by rw[<-hL];simp
 refine(hS 0 (n:Nat) n (List.replicate (P+1) 0) _ _ [] (decide ((zue P n m).length<128)) wd rfl rfl (hI.bw hbD) ⟨by simp,zan _,zD,?_,hn,λ _=>hm,by simp[hlen]⟩).mono ?_
 ·rw[List.nil_append,List.take_zero,hL];exact zkp P n m
 ·rintro e w' ⟨rfl,hk,hv⟩;have hbW:Below w.heap.size w wd:=hbw.trans ((hb5.mono zO).trans (hbD.mono (by have:=hb5.size;omega)))
  have hB:Below w.heap.size wd w':=hk.toBelow (by show w.heap.size<=w9.heap.size+2;have:=hb9.size;omega) (λ k hk=>by
   unfold capC Cap.S at hk;simp at hk;rcases hk with rfl | rfl | rfl<;>omega)
  refine⟨rfl,?_,?_,hbW.trans hB,λ h=> ?_⟩
  ·rw[hk.cell (p:=⟨w.heap.size+1+1+1+1,0,none⟩) hI.ok.l3.1 hI.ok.l3.2];exact zca hbD hI.c3
  ·rw[hk.cell (p:=⟨w9.heap.size+1,0,none⟩) hI.ok.l5.1 hI.ok.l5.2];exact zca hbD hI.c5
  ·obtain⟨lv,rs,u',h1,_⟩:=hv (zDT h);rw[List.nil_append,List.take_zero,hL]at h1;exact⟨_,_,lv,rs,h1.vec⟩
set_option maxRecDepth 100000 in
set_option maxHeartbeats 3200000 in
theorem counts_any (P n m:Nat) (w:World) (hP:1<=P) (hP4:P<=4) (hn:n<=8) (hm:m<=n):
 Calls Tryz.prog 67 #[.int .i64 (P:Nat), .int .i64 (n:Nat), .int .i64 (m:Nat)] w (RVecs w (zue P n m)):=by
 obtain⟨i3,hi3,hz3,hs3,hy3⟩:=info_parts Tryz.infoInt;have hM:=zbo (P:=Tryz.prog) 31 3 i3 (.int .i64 0) Tryz.underlying31 hi3 hz3 hs3 (by rw[hy3];decide) rfl;have hmm:= @run_makeMap Tryz.prog;clear hi3 hz3 hs3 hy3;go_enter Tryz.func67,Tryz.ntmps67;go_upto_region 2 with fail;have e1:(W2w w P m).cell? ⟨w.heap.size,0,none⟩=some (.int .i64 (P:Nat)):=by unfold W2w;go_simp
 have e4:(W2w w P m).cell? ⟨w.heap.size+1,0,none⟩=some (.int .i64 (m:Nat)):=by unfold W2w;go_simp
 have e0:(W2w w P m).cell? ⟨w.heap.size+1+1+1,0,none⟩=some (.slice none 0 0):=by unfold W2w;go_simp
 have em:(W2w w P m).cell? ⟨w.heap.size+1+1+1,1,none⟩=some (.map (some (w.heap.size+1+1))):=by unfold W2w;go_simp
 have ef:(W2w w P m).frozen? ⟨w.heap.size+1+1+1,0,none⟩=false:=by unfold W2w;go_simp
 have e3:(W2w w P m).cell? ⟨w.heap.size+1+1+1+1,0,none⟩=some (.pointer (some ⟨w.heap.size+1+1+1,0,none⟩)):=by unfold W2w;go_simp
 have hmap:(W2w w P m).ownsMap (H:=Unit) Tryz.prog 9 (plainElem Tryz.prog 3) (w.heap.size+1+1) 0 (.map []):=by
  have h0:=World.ownsMap_made (H:=Unit) ((w.alloc (.cells #[.int .i64 (P:Nat)] 3)).alloc (.cells #[.int .i64 (m:Nat)] 3)) Tryz.prog 9 (plainElem Tryz.prog 3);have hs:((w.alloc (.cells #[.int .i64 (P:Nat)] 3)).alloc (.cells #[.int .i64 (m:Nat)] 3)).heap.size=w.heap.size+1+1:=by rw[sizeA,sizeA]
  rw[hs]at h0;exact(h0.alloc _).alloc _
 have hbw:Below w.heap.size w (W2w w P m):=by
  unfold W2w;exact((((zba w _).alloc (by simp) _).alloc (by simp;omega) _).alloc (by simp;omega) _).alloc (by simp;omega) _
 have hsz:(W2w w P m).heap.size=w.heap.size+5:=by unfold W2w;simp
 rw[show((((w.alloc (.cells #[.int .i64 (P:Nat)] 3)).alloc (.cells #[.int .i64 (m:Nat)] 3)).alloc (.map #[] 0)).alloc (.cells #[.slice none 0 0, .map (some (w.heap.size+1+1))] 80)).alloc (.cells #[.pointer (some ⟨w.heap.size+1+1+1,0,none⟩)] 73)=W2w w P m from rfl];have HE0:=zH e0;have HEM:=zH em;have HEF:=zH ef;have HMAP:=zH hmap;have HBW:=zH hbw;have HSZ:=zH hsz;have HE:=zH (zAI e1 (zAI e3 e4));generalize W2w w P m=W2 at *
 clear e0 em ef hmap hbw hsz e3 e4 hmm;go_upto_region 5 with(refine hM _ rfl _ _ rfl W2.heap.size _ (P+1) zO rfl rfl zO (zLR _) ?_;intro v9 w9 hv9 hb9 hg9;obtain⟨a9,n9,k9,rfl,_⟩:=id hv9.sl;have HV9:=zH hv9;have HB9:=zH hb9;have HG9:=zH hg9;clear hv9 hb9 hg9);rw[show(.func (.func 114) #[] #[.pointer (some ⟨w.heap.size,0,none⟩), .pointer (some ⟨w9.heap.size,0,none⟩), .pointer (some ⟨w.heap.size+1+1+1+1,0,none⟩), .pointer (some ⟨w.heap.size+1,0,none⟩), .pointer (some ⟨w9.heap.size+1,0,none⟩)]:Value)=cntF w.heap.size w9.heap.size (w.heap.size+1+1+1+1) (w.heap.size+1) (w9.heap.size+1)from rfl];obtain⟨W5,hW5⟩:∃W5,W5=(w9.alloc (.cells #[.slice a9 n9 k9] 31)).alloc (.cells #[cntF w.heap.size w9.heap.size (w.heap.size+1+1+1+1) (w.heap.size+1) (w9.heap.size+1)] 69):=⟨_,rfl⟩;have HC:=zH (cnt_start w W2 w9 W5 P n m (.slice a9 n9 k9) (cntF w.heap.size w9.heap.size (w.heap.size+1+1+1+1) (w.heap.size+1) (w9.heap.size+1)) hP hP4 hn hm HE0.o HEM.o HEF.o HMAP.o HBW.o HSZ.o HE.o.1 HE.o.2.1 HE.o.2.2 HV9.o HB9.o HG9.o hW5 rfl);rw[<-hW5];clear e1 HE0 HEM HEF HMAP HBW HSZ HE HV9 HB9 HG9 hW5 hM;have q3:=HC.o.1;have q5:=HC.o.2.1;unfold cntF at q5 |-
 refine wpL.st2 4 q3 q5 (λ wd hbD hHeld=> ?_);have HCD:=zH (HC.o.2.2 wd hbD);clear q3 q5 hbD HC;refine zY 0 ?_;refine zY 1 ?_;refine zU 2 ?_;(refine zW 3 ?_;intro K hK);refine zla 114 #[.int .i64 0, .int .i64 (n:Nat), .pointer (some ⟨w.heap.size,0,none⟩), .pointer (some ⟨w9.heap.size,0,none⟩), .pointer (some ⟨w.heap.size+1+1+1+1,0,none⟩), .pointer (some ⟨w.heap.size+1,0,none⟩), .pointer (some ⟨w9.heap.size+1,0,none⟩)] ?_ ?_ HCD.o ?_
 ·rfl
 ·go_simp
 rintro e5 w5 ⟨rfl,h3,h5,hb5,hv5⟩;have hH5:=zAI h3 h5;unfold cntF at hH5;refine⟨_,rfl,?_⟩;refine hK.o _ _ (λ _=>hH5) ?_;have HB5:=zH hb5;have HV5:=zH hv5;clear hK K hHeld hb5 hv5 HCD h3 h5;refine zS ?_;(refine zW 4 ?_;intro K hK);rw[zIP (by rfl)];go_simp;refine hK.o _ _ (λ _=>hH5) ?_;clear hK K;refine zS ?_;(refine zW 5 ?_;intro K hK);rw[zIP (by rfl)];go_simp;refine hK.o _ _ (λ _=>hH5) ?_;clear hK K;refine wpL.done (by kernel_rfl) ?_ _;refine zS ?_;go_wp2_with fail;go_ret2
 exact⟨_,rfl,HB5.o,λ h=>by
  obtain⟨B,mb,lv,rs,h1⟩:=HV5.o h;exact⟨B,mb,lv,rs,h1,zO⟩⟩
end Go.Proofs.YtkpedaflofejnaaGreat
namespace Go.Proofs.YtkpedaflofejnaaGreat
open Go.RowKit
set_option maxRecDepth 100000 in
set_option maxHeartbeats 1600000 in
theorem zfj (va:Value) (l:List Rat) (m:Nat) (w:World) (ha:znc w va l) (hl:∀q∈l,zdh q/\q≠0) (hm:l.length=max m 1) (hm8:m<=100):Calls Tryz.prog 38 #[va, .int .i64 (m:Nat)] w (λ e w'=>e= .returned (.bool true)/\Below w.heap.size w w'):=by
 have sv:=ha.sl;have lv:=ha.len;obtain⟨n,hn⟩:∃n,l.length=n:=⟨_,rfl⟩;rw[hn]at lv hm;have HA:=zH ha;have HL:=zH hl;have HN:=zH hn;have HM:=zH hm;have hn8:n<=100:=zO;have i0:((n:Int)==max (m:Int) 1)=true:=by rw[hm];simp;omega
 clear ha hl hn hm;go_enter Tryz.func38,Tryz.ntmps38;go_wp2_with fail;go_loopg [9] (n) (λ g u9 wr=>∃i:Nat,i<=n/\g=n-i/\u9= .int .i64 i/\Below w.heap.size w wr);case atStart=>exact⟨0,zZL _,rfl,rfl,zBR _ _⟩
 case round=>
  obtain⟨i,hin,hg,rfl,hbr⟩:=hrel;obtain⟨wx,hwx⟩:∃w6,w6=wr:=⟨_,rfl⟩;subst hwx;have HG:=zH hg;have HB:=zH hbr;clear hg hbr;by_cases hil:i<n
  ·(have hil2:i<l.length:=by rw[HN.o];exact hil);obtain⟨t1,xa,xb,z0,z1,z2,⟨xa1,xa2,xa3,rfl,_⟩,⟨xb1,xb2,xb3,rfl,_⟩,hx⟩:=HA.o.at' i hil2;have hq:=HL.o _ (zGM hil2);generalize l[i]'hil2=q at *
   replace z0:=zca HB.o z0;replace z1:=zca HB.o z1;replace z2:=zca HB.o z2;have hba:=zba wx (.cells #[.bool t1, .slice xa1 xa2 xa3, .slice xb1 xb2 xb3] 53);have HX:=zH ((hx.bw HB.o).bw hba);have HXC:=zH (C3.new wx 53 (.bool t1) (.slice xa1 xa2 xa3) (.slice xb1 xb2 xb3));have HBA:=zH hba;have HQ:=zH hq.1;have e0:decide (q=0)=false:=zDF hq.2;have i5:(0:Int)<=(i:Int):=zO;have i6:(i:Int)<(n:Nat):=zO;clear hx hq hba hil2
   go_wp2_with (first
    |(go_at_call 95;(with_reducible refine(lrate_ok _ q _ HX.o HQ.o).mono ?_);rintro e4 w4 ⟨rfl,hb4⟩;have HX4:=zH (HX.o.bw hb4);have HB4:=zH (zaa HBA.o hb4);obtain⟨-,k0,k1,k2,-,-,-⟩:=HXC.o.bS hb4;clear hb4 z0 z1 z2)
    |(go_at_call 45;(with_reducible refine(zud _ q _ HX4.o).mono ?_);rintro e5 w5 ⟨rfl,hb5⟩;have HB5:=zH (zaa HB4.o hb5);clear hb5 k0 k1 k2))
   go_roundg (n- (i+1));(case measure=>(have:=HG.o;omega));case rel=>exact⟨i+1,zO,rfl,by go_num,zaa HB.o HB5.o⟩
  ·obtain rfl:i=n:=zO;clear i0;go_wp2_with fail
   all_goals
    go_ret;refine⟨?_,HB.o⟩;have hmm:=HM.o;simp;omega
end Go.Proofs.YtkpedaflofejnaaGreat
namespace Go.Proofs.YtkpedaflofejnaaGreat
def cntQ (l:LwF) (rep:Nat->Rat) (v:List Nat) (p:Nat):List Mv:=(if 0<v.getD (p+1) 0 then ziq l v p else [])++if 0<v.getD 0 0 then repM l rep v p else []
def zko (l:LwF) (rep:Nat->Rat) (v:List Nat) (p:Nat):List Mv:=(List.range p).flatMap (cntQ l rep v)
theorem cntP_succ (l:LwF) (rep:Nat->Rat) (v:List Nat) (p:Nat):zko l rep v (p+1)=zko l rep v p++cntQ l rep v p:=by
 unfold zko;rw[List.range_succ,List.flatMap_append,List.flatMap_cons,List.flatMap_nil,List.append_nil]
theorem cntP_all (l:LwF) (rep:Nat->Rat) (v:List Nat):zko l rep v l.n=cntM l rep v:=rfl
theorem cntP_mem {l:LwF} {rep:Nat->Rat} {v:List Nat} {p:Nat} (hp:p<=l.n) {m:Mv} (h:m∈zko l rep v p):m∈cntM l rep v:=by
 unfold zko at h;obtain⟨q,hq,hm⟩:=List.mem_flatMap.1 h;exact List.mem_flatMap.2 ⟨q,List.mem_range.2 (by have:=List.mem_range.1 hq;omega),hm⟩
theorem cntQ_len (l:LwF) (rep:Nat->Rat) (v:List Nat) (p:Nat):(cntQ l rep v p).length<=l.n+2:=by
 unfold cntQ ziq repM;split<;>split<;>simp <;>omega
theorem cntP_len (l:LwF) (rep:Nat->Rat) (v:List Nat):∀p,(zko l rep v p).length<=p*(l.n+2)
 | 0=>by simp[zko]
 | p+1=>by
   rw[cntP_succ,zLA,Nat.add_mul,Nat.one_mul];have:=cntP_len l rep v p;have:=cntQ_len l rep v p;omega
theorem getD0 (v:List Nat):v.headD 0=v.getD 0 0:=by cases v<;>rfl
end Go.Proofs.YtkpedaflofejnaaGreat
