/- Lemmas. -/
import Derived.Test.YtkpedaflofejnaaGreatMLo24
import Derived.Test.YtkpedaflofejnaaGreatMLn9
set_option linter.unusedVariables false
set_option linter.unusedSimpArgs false
namespace Go.Proofs.YtkpedaflofejnaaGreat
open Go.RowKit
@[go_sem] theorem ptr_off3 (v : Value) (k : Nat) : (⟨(ptr v k).block, (ptr v k).off + 3, none⟩ : Addr) = ptr v (k + 3) := by rw [<- ptr_add]; simp [Addr.add]
theorem zti {P:Program} (t e:TypeId) (i:TypeInfo) (ht:P.underlying t=some (.slice e)) (hi:P.info? e=some i) (hz:i.zero=some (.int .i64 0)) (hsize:i.size=1) (hby:i.bytes=8)
 (w0:World) {ops:Array Oper} {rest:List Oper} {o:Oper} {a:Act} {Q:Exit->Act->World->Prop} (hgd:o.guard=none) (s x:Operand)
 (ho:o.op= .call { callee:= .builtin .append,args:=#[s,x],argTypes:=#[t,t] }) (B:Nat) (e':TypeId)
 (v:Value) (es:List Nat) (hs:a.eval s=v) (hown:zib w0 e B v (es.map zod)) (y:Nat) (hxe:a.eval x= .slice (some ⟨w0.heap.size,0,none⟩) 1 1) (hn:es.length<=1000) (hbase:B<=w0.heap.size)
 (h:∀v' w',zib w' e B v' ((es++ [y]).map zod)->Below B w0 w'->wpList P ops Q rest (a.put o.dst v') w'):wpList P ops Q (o::rest) a (w0.alloc (.cells #[.int .i64 (y:Nat)] e')):=by
 refine zbh w0 hgd s x t ho B e e' i (.int .i64 0) 8 ht hi hz hsize hby rfl v (es.map zod) hs hown (.int .i64 (y:Nat)) hxe rfl (by simp[maxLen];omega) (by simp;omega) hbase ?_;intro v' w' h2 h4;exact h v' w' (by rw[List.map_append];exact h2) h4
structure FulA (w:World) (vls vrep vgs vsh:Value) (ls:List LQ) (rl:List Rat) (gs:List (List Nat)) (sl:List Rat) (k m D B:Nat):Prop where
 laws:LawsV w vls ls
 num:ls.length=k+m
 lp:∀l∈ls,LawP l
 val:∀j,j<ls.length->∀a0 a1 a2 a3,w.cell? (ptr vls (j*4))=some a0->w.cell? (ptr vls (j*4+1))=some a1->w.cell? (ptr vls (j*4+2))=some a2->w.cell? (ptr vls (j*4+3))=some a3->∀w',Below w.heap.size w w'->Calls Tryz.prog 40 #[.agg #[a0,a1,a2,a3]] w' (λ e w''=>e= .returned (.bool true)/\Below w'.heap.size w' w'')
 rep:znc w vrep rl
 repl:∀q∈rl,zdh q/\q≠0
 repn:rl.length=max m 1
 grp:znl w vgs gs
 grpP:GrpP gs (k+m)
 sh:znc w vsh sl
 shl:∀q∈sl,zdh q
 shn:gs.length=sl.length
 k1:1<=k
 k6:k<=6
 m4:m<=4
 km:k+m<=8
 room:zqk D B
 ov:∀v∈zbb (ls.map (·.start.length)) m,∀x∈zjj (lwI ls) (λ i=>rl.getD i 0) (gs.zip sl) v,over D B x.2
theorem zsq {ls:List LQ} {i:Nat} (h:i<ls.length):(ls.map (·.start.length)).take (i+1)=(ls.map (·.start.length)).take i++ [ls[i].start.length]:=by
 rw[List.take_succ_eq_append_getElem (by simpa using h),List.getElem_map]
set_option maxRecDepth 100000 in
set_option maxHeartbeats 12800000 in
theorem full_chain (vls vrep vgs vsh:Value) (ls:List LQ) (rl:List Rat) (gs:List (List Nat)) (sl:List Rat) (k m D B:Nat) (w:World) (h:FulA w vls vrep vgs vsh ls rl gs sl k m D B):
 Calls Tryz.prog 11 #[vls, .int .i64 (k:Nat), .int .i64 (m:Nat),vrep,vgs,vsh] w (zlf w (zbb (ls.map (·.start.length)) m) (vecC (zbb (ls.map (·.start.length)) m) (zjj (lwI ls) (λ i=>rl.getD i 0) (gs.zip sl)) (zyq (lwI ls)))):=by
 obtain⟨i0,hi0,hz0,hz1,hz2⟩:=info_parts Tryz.infoInt;have hA1:=zti (P:=Tryz.prog) 31 3 i0 Tryz.underlying31 hi0 hz0 hz1 hz2;have hbb:=zba w (.cells #[.slice none 0 0, .slice none 0 0, .slice none 0 0] 34);have HC:=zH (C3.new w 34 (.slice none 0 0) (.slice none 0 0) (.slice none 0 0));have HBW:=zH hbb;have HA:=zH h;have lsl:=h.laws.sl;have lln:slen vls=k+m:=by rw[h.laws.len,h.num]
 have k1:=h.k1;have k6:=h.k6;have m4:=h.m4;have km:=h.km;obtain⟨ph,hph⟩:∃ph,ls.map (λ l=>l.start.length)=ph:=⟨_,rfl⟩;obtain⟨L,hL⟩:∃L,zbb ph m=L:=⟨_,rfl⟩;rw[hph,hL];obtain⟨n,hn⟩:∃n,k+m=n:=⟨_,rfl⟩;rw[hn]at lln km;have n1:1<=n:=zO;have HPH:=zH hph;have HL:=zH hL;have HN:=zH hn;have HNI:zI (((k:Nat):Int)+(m:Nat)=(n:Nat)):=zH zO;have hnI:((k:Nat):Int)+((m:Nat):Int)=((n:Nat):Int):=HNI.o;clear h hbb hi0 hz0 hz1 hz2 hph hL;generalize hCQ:vecC L (zjj (lwI ls) (λ i=>rl.getD i 0) (gs.zip sl)) (zyq (lwI ls))=cq;have HCQ:=zH hCQ;clear hCQ;go_enter Tryz.func11,Tryz.ntmps11
 go_upto_region 4 with(first
  |(go_at_call 37;(with_reducible refine(zom k m _ k1 k6 m4 (by rw[hn];exact km)).mono ?_);rintro e3 w3 ⟨rfl,hb3⟩;have HB3:=zH (zaa HBW.o hb3);have HC3:=zH (HC.o.bS hb3);clear hb3)
  |(go_at_call 38;(with_reducible refine(zfj _ rl m _ (HA.o.rep.bw HB3.o) HA.o.repl HA.o.repn zO).mono ?_);rintro e5 w5 ⟨rfl,hb5⟩;have HB5:=zH (zaa HB3.o hb5);have HC5:=zH (HC3.o.bS hb5);clear hb5)
  |(go_at_call 39;(with_reducible refine(groupsOK_ok _ _ gs sl n _ _ (HA.o.grp.bw HB5.o) (HA.o.sh.bw HB5.o) zO (by rw[<-HN.o];exact HA.o.grpP) HA.o.shl HA.o.shn).mono ?_);rintro e6 w6 ⟨rfl,hb6⟩;have HB6:=zH (zaa HB5.o hb6);have HC6:=zH (HC5.o.bS hb6);clear hb6))
 have HLT:=zH HC6.o.lt;clear hnI hn;go_wp2_with fail;go_loopg [14,61] (n) (λ g u14 u61 wr=>∃i:Nat,i<=n/\g=n-i/\u61= .int .i64 i/\zib wr 3 w6.heap.size u14 ((ph.take i).map zod)/\C3 wr w.heap.size (.slice none 0 0) (.slice none 0 0) (.slice none 0 0)/\Below w6.heap.size w6 wr);case atStart=>exact⟨0,zZL _,rfl,rfl,zib.nil _ _ _,HC6.o,zBR _ _⟩
 case round=>
  obtain⟨i,hin,hg,rfl,ho,hc,hbr⟩:=hrel;obtain⟨wx,hwx⟩:∃w6,w6=wr:=⟨_,rfl⟩;subst hwx;have HG:=zH hg;have HO:=zH ho;have HCX:=zH hc;have HBR:=zH hbr;have HBX:=zH (zaa HB6.o hbr);clear hg ho hc hbr HC6;by_cases hil:i<n
  ·(have hls:i<ls.length:=by rw[HA.o.num,HN.o];exact hil);obtain⟨nm,vs,vr,ve,c0,c1,c2,c3,hS,hM,hE⟩:=HA.o.laws.at' i hls;obtain⟨sa,sn,sk,rfl,_⟩:=id hS.sl;obtain⟨ra,rn,rk,rfl,_⟩:=id hM.sl;obtain⟨ea,en,ek,rfl,_⟩:=id hE.sl;have hsn:sn=(ls[i]'hls).start.length:=hS.len;have HVL:=zH (HA.o.val i hls _ _ _ _ c0 c1 c2 c3);replace c0:=zca HBX.o c0;replace c1:=zca HBX.o c1;replace c2:=zca HBX.o c2;replace c3:=zca HBX.o c3;have HTK:zI (ph.take (i+1)=ph.take i++ [sn]):=zH (by rw[<-HPH.o,hsn];exact zsq hls);have hba:=zba wx (.cells #[.string nm, .slice sa sn sk, .slice ra rn rk, .slice ea en ek] 30);have HT:=zH (C4.new wx 30 (.string nm) (.slice sa sn sk) (.slice ra rn rk) (.slice ea en ek));have HBA:=zH hba;(have hpl:(ph.take i).length<=100:=by rw[zTK];omega);have i1:(0:Int)<=(i:Int):=zO;have i2:(i:Int)<(n:Nat):=zO;have slu:=HO.o.sl;clear hS hM hE hsn hls hba
   go_wp2_with (first
    |(go_at_call 40;(with_reducible refine(HVL.o _ (zaa HBX.o HBA.o)).mono ?_);rintro e8 w8 ⟨rfl,hb8⟩;have HB8:=zH (zaa HBA.o hb8);have HT8:=zH (HT.o.bS hb8);have HO8:=zH (HO.o.bw (zaa HBA.o hb8));have hsz8:w6.heap.size<=w8.heap.size:=zLT HBR.o.size (zaa HBA.o hb8).size;obtain⟨-,d0,d1,d2,d3,-,-,-,-⟩:=HT8.o;clear hb8 c0 c1 c2 c3)
    |(at_builtin;refine hA1 w8 rfl _ _ rfl w6.heap.size _ u14 (ph.take i) rfl HO8.o sn rfl zO hsz8 ?_;intro v' w9 hq hb9;have HQ9:=zH hq;have HB9:=zH ((zsb HBR.o HB8.o HBR.o.size).trans hb9);have HC9:=zH ((HCX.o.bS HB8.o).bw hb9 HLT.o);clear hq hb9))
   go_roundg (n- (i+1));(case measure=>(have:=HG.o;omega));case rel=>exact⟨i+1,zO,rfl,by go_num,by rw[HTK.o];exact HQ9.o,HC9.o,HB9.o⟩
  ·obtain rfl:i=n:=zO;have hall:ph.take i=ph:=zTL (by rw[<-HPH.o,zMP,HA.o.num,HN.o];exact zLR _);rw[hall]at HO;have HPV:=zH HO.o.natsV;have HPL:zI (ph.length=i):=zH (by rw[<-HPH.o,zMP,HA.o.num,HN.o])
   have HPX:zI (∀x∈ph,x<=4):=zH (λ x hx=>by
    rw[<-HPH.o]at hx;obtain⟨l,hl,rfl⟩:=List.mem_map.1 hx;exact(HA.o.lp l hl).n4)
   clear hall
   go_upto_region 12 with(first
    |(go_at_call 41;(with_reducible refine(full_any u14 ph m _ HPV.o (by rw[HPL.o];omega) (by rw[HPL.o];omega) (λ x hx=>by have:=HPX.o x hx;omega) zO).mono ?_);rintro e7 w7 ⟨vb,rfl,hb7,hv7⟩;rw[HL.o]at hv7 |-;have HV7:=zH hv7;have HB7:=zH (zaa HBX.o hb7);have HC7:=zH (HCX.o.bS hb7);clear hb7 hv7))
   by_cases hLL:L.length<128
   case neg=>
    have e3:decide (L.length<128)=false:=zDF hLL;have HLL:=zH hLL;obtain⟨-,g0,g1,g2,u0,u1,u2⟩:=HC7.o;clear hLL;go_wp2_with fail;refine zka rfl rfl Tryz.aggCh Tryz.sizeCh (HC7.o.set _ _ _) rfl ?_;exact⟨λ h=>absurd h HLL.o,λ _=>⟨rfl,zea HB7.o (zLR _) (.slice none 0 0) (.slice none 0 0) (.slice none 0 0)⟩⟩
   obtain⟨B0,mb,lv,rs0,hV,hvb⟩:=HV7.o hLL;have HV:=zH hV;have e3:decide (L.length<128)=true:=zDT hLL;have hlsl:=hV.sl;have hlln:slen lv=L.length:=hV.len;clear hV hvb HV7 HO HBR HPV
   go_upto_region 15 with(first
    |(go_at_call 42;(with_reducible refine(build_any vb 0 B0 mb lv rs0 L _ HV.o zO).mono ?_);rintro e8 w8 ⟨b,vs,vl,vr,rs,rfl,hB8,hb8⟩;have HM:=zH hB8;have HB8:=zH hb8;clear hB8 hb8))
   obtain⟨M,hM⟩:∃M:MkD,M=⟨B0,vb,mb,w7.heap.size,b,w8.heap.size,lv,vs,vl,vr,rs0,rs,L⟩:=⟨_,rfl⟩;obtain⟨rep,hrep⟩:∃f:Nat->Rat,(λ i=>rl.getD i 0)=f:=⟨_,rfl⟩;obtain⟨gz,hgz⟩:∃f:List (List Nat×Rat),gs.zip sl=f:=⟨_,rfl⟩;obtain⟨lw,hlw⟩:∃f:Nat->LwF,lwI ls=f:=⟨_,rfl⟩;have HREP:=zH hrep;have HGZ:=zH hgz;have HLW:=zH hlw;obtain⟨mvf,hmvf⟩:∃f:List Nat->List Mv,zjj lw rep gz=f:=⟨_,rfl⟩;obtain⟨st,hst⟩:∃f:List Nat->Rat,zyq lw=f:=⟨_,rfl⟩;have HMV:=zH hmvf;have HST:=zH hst
   have HOK:zI (M.Ok w7 w8 (stF M.L st 0) (zzc M.L mvf 0 (znb M.L []))):=zH (by
    subst hM;exact⟨HV.o,zLR _,HB8.o,HM.o.congr (λ i _=>zcq) (λ i j _ _=>zxm),by show L.length<=150;omega⟩)
   have HML:zI (M.L=L/\M.b=b/\M.B=w7.heap.size/\M.vs=vs):=zH (by subst hM;exact⟨rfl,rfl,rfl,rfl⟩);have c0:=zca HB8.o HV.o.c0
   have HOV:zI (∀v∈L,∀x∈zjj lw rep gz v,over D B x.2):=zH (λ v hv=>by
    rw[<-hrep,<-hgz,<-hlw]
    exact HA.o.ov v (by
     have h1:=HPH.o;rw[h1,HL.o];exact hv))
   have HRV:zI (znc w7 vrep rl):=zH (HA.o.rep.bw HB7.o);have HLS:zI (LawsV w7 vls ls):=zH (HA.o.laws.bw HB7.o);have HGS:zI (znl w7 vgs gs):=zH (HA.o.grp.bw HB7.o);have HSH:zI (znc w7 vsh sl):=zH (HA.o.sh.bw HB7.o)
   have HVF:zI (∀v∈L,v.length=i/\(∀j,j<i->v.getD j 0<=(lw j).n)/\(∀j,v.getD j 0<=4)/\ztf v<=m):=zH (λ v hv=>by
    rw[<-HL.o]at hv;obtain⟨h1,h2,h3⟩:=(zmd _ _ _).1 hv;have h4:v.length=i:=by rw[h1,HPL.o]
    have h5:∀j,j<i->v.getD j 0<=ph.getD j 0:=λ j hj=>by
     have h7:=h2 j zO;rw[zGD,zGE (by omega:j<v.length)];exact h7
    have h6:∀j,j<i->ph.getD j 0=(lw j).n:=λ j hj=>by
     rw[<-hlw,<-HPH.o];(have hj2:j<ls.length:=by rw[HA.o.num,HN.o];exact hj);(show _=(ls.getD j lqNo).start.length);rw[zGD,List.getElem?_map,zGD,zGE hj2];rfl
    refine⟨h4,λ j hj=>by rw[<-h6 j hj];exact h5 j hj,λ j=> ?_,h3⟩;by_cases hj:j<i
    ·refine zLT (h5 j hj) ?_;rw[zGD,zGE (by rw[HPL.o];exact hj)];exact HPX.o _ (zGM _)
    ·rw[zGD,List.getElem?_eq_none zO];exact zZL _)
   have HN4:zI (∀j,(lw j).n<=4):=zH (λ j=>by
    rw[<-hlw];(show(ls.getD j lqNo).start.length<=4);rcases zOG j ls.length with h1 | h1
    ·rw[zGD,zGE h1];exact(HA.o.lp _ (zGM h1)).n4
    ·rw[zGD,List.getElem?_eq_none h1];exact zZL _)
   clear hM hrep hmvf hst hgz hlw;rw[<-HML.o.2.1];go_wp2_with fail;clear c0;go_loopg [92] (L.length) (λ g u92 wr=>∃a:Nat,a<=L.length/\g=L.length-a/\u92= .int .i64 a/\M.Ok w7 wr (stF M.L st a) (zzc M.L mvf a (znb M.L [])));case atStart=>exact⟨0,zZL _,rfl,rfl,HOK.o⟩
   case round=>
    obtain⟨a,haL,hg,rfl,hk⟩:=hrel;obtain⟨wx,hwx⟩:∃w6,w6=wr:=⟨_,rfl⟩;subst hwx;have HG1:=zH hg;have HKX:=zH hk;clear hg hk HOK HM HB8;by_cases hal:a<L.length
    ·obtain⟨r,hr0,hrv⟩:=HV.o.row a hal;have hmem:=zGM hal;have HVC:=zH (HVF.o _ hmem);have HOVA:=zH (HOV.o _ hmem)
     have HTN:zI (∀r c,zzc M.L mvf a (znb M.L (mvf (L[a]'hal))) r c=zzc M.L mvf (a+1) (znb M.L []) r c):=zH (λ r c=>by
      have h:=HML.o.1;(have h2:a<M.L.length:=by rw[h];exact hal);(have h3:M.L[a]'h2=L[a]'hal:=by simp only[h]);have h4:=zym (mv:=mvf) (r:=r) (c:=c) h2;rw[h3]at h4;exact h4)
     have HSA:zI (stF M.L st (a+1) a=st (L[a]'hal)/\(st (L[a]'hal)=0->∀i,stF M.L st a i=stF M.L st (a+1) i)):=zH (by
      have h:=HML.o.1;(have h2:a<M.L.length:=by rw[h];exact hal);(have h3:M.L[a]'h2=L[a]'hal:=by simp only[h]);refine⟨?_,λ h0 i=> ?_⟩
      ·rw[stF_at h2,h3]
      ·exact zdq h2 (by rw[h3];exact h0))
     generalize L[a]'hal=v at *
     have cr:=zca HKX.o.bel hr0;have HR:=zH hrv;have rsl:=hrv.sl;(have rln:slen r=i:=by rw[hrv.len];exact HVC.o.1);clear hr0 hrv hmem;have i5:(0:Int)<=(a:Int):=zO;have i6:(a:Int)<(L.length:Nat):=zO;have haM:zI (a<M.L.length):=zH (by rw[HML.o.1];exact hal);go_wp2_with fail;clear cr;have HK0:zI (M.Ok w7 wx (stF M.L st a) (zzc M.L mvf a (znb M.L (zvc lw v 0)))):=HKX;go_loopg [22,23,99] (i) (λ g u22 u23 u99 wr=>∃p:Nat,p<=i/\g=i-p/\u99= .int .i64 p/\u22= .int .i64 (znm v p)/\u23= .int .i64 (misC v p:Nat)/\M.Ok w7 wr (stF M.L st a) (zzc M.L mvf a (znb M.L (zvc lw v p))));case atStart=>exact⟨0,zZL _,rfl,rfl,by rw[leaI_zero],rfl,HK0.o⟩
     case round=>
      obtain⟨p,hpi,hg,rfl,rfl,rfl,hk⟩:=hrel;obtain⟨wy,hwy⟩:∃w6,w6=wr:=⟨_,rfl⟩;subst hwy;have HG2:=zH hg;have HKY:=zH hk;clear hg hk HK0 HKX;have HMC:zI (misC v p<=8):=zH (zLT (misC_le v p) zO);by_cases hpl:p<i
      ·(have hpv:p<v.length:=by rw[HVC.o.1];exact hpl);have cv:=(HR.o.bw HKY.o.bel).getD hpv;(have hls:p<ls.length:=by rw[HA.o.num,HN.o];exact hpl);have HFS:zI (zvc lw v (p+1)=zvc lw v p++zcr lw v p):=zH (zgo _ _ _);have HMS:zI (misC v (p+1)=misC v p+if v.getD p 0=0 then 1 else 0):=zH (misC_succ hpv);have HL1:zI (v.getD p 0≠0->znm v (p+1)=znm v p):=zH (λ h=>leaI_keep hpv h);have HL2:zI (v.getD p 0=0->znm v p<0->znm v (p+1)=(p:Nat)):=zH (λ h h2=>leaI_neg hpv h h2);have HL3:zI (¬znm v p<0->znm v (p+1)=znm v p):=zH (λ h=>leaI_pos h);obtain⟨y,hy⟩:∃y,v.getD p 0=y:=⟨_,rfl⟩;rw[hy]at cv HMS HL1 HL2;have HY:=zH hy;(have hy4:y<=4:=by rw[<-hy];exact HVC.o.2.2.1 p);have i7:(0:Int)<=(p:Int):=zO;have i8:(p:Int)<(i:Nat):=zO;clear hy;by_cases h0:0<y
       ·have e4:decide (0<y)=true:=zDT h0;obtain⟨nm,vs1,vr1,ve1,c0,c1,c2,c3,hS,hM1,hE⟩:=HLS.o.at' p hls;obtain⟨sa,sn,sk,rfl,_⟩:=id hS.sl;obtain⟨ra,rn,rk,rfl,_⟩:=id hM1.sl;obtain⟨ea,en,ek,rfl,_⟩:=id hE.sl;have HLV:zI (LawV w7 (.agg #[.string nm, .slice sa sn sk, .slice ra rn rk, .slice ea en ek]) (ls[p]'hls)):=zH ⟨nm,_,_,_,rfl,hS,hM1,hE⟩;have HLP:=zH (HA.o.lp _ (zGM hls))
        have HLWP:zI (lw p=lwF (ls[p]'hls)):=zH (by
         rw[<-HLW.o];(show lwF (ls.getD p lqNo)=_);rw[zGD,zGE hls];rfl)
        have HFI:zI (zcr lw v p=zbr (lwF (ls[p]'hls)) v p):=zH (by
         unfold zcr;rw[HY.o,zIP h0,HLWP.o])
        have HSV:zI (Calls Tryz.prog 43 #[.pointer (some ⟨M.b,0,none⟩), .int .i64 (a:Nat),r, .int .i64 (p:Nat), .agg #[.string nm, .slice sa sn sk, .slice ra rn rk, .slice ea en ek]] wy (λ e w'=>e= .returned (.tuple #[])/\M.Step w7 wy w' (stF M.L st a) (zzc M.L mvf a (znb M.L (zvc lw v (p+1)))))):=zH (by
         rw[HFS.o,HFI.o];have hn:=HVC.o.2.1 p hpl;rw[HY.o,HLWP.o]at hn;have hn2:y<=(ls[p]'hls).start.length:=hn;have hrow:=HLP.o.row (y-1) (by rw[HLP.o.rl];omega);refine fragment_any M w7 wy _ mvf (zvc lw v p) a p (y-1) _ _ r _ v (ls[p]'hls) D B HKY.o HR.o HLV.o rfl rfl haM.o hpv (by rw[HY.o];omega) zO HLP.o.rl HLP.o.el ?_ (by have:=HLP.o.n4;omega) (by rw[HVC.o.1];omega) (λ j=>zLT (HVC.o.2.2.1 j) zO) HA.o.room (λ x hx=>HOVA.o x ?_) ?_
         ·rw[zGD,zGE (by rw[HLP.o.rl];omega)];exact hrow.1
         ·rw[zzq];refine List.mem_append_left _ (List.mem_append_left _ ?_);rw[<-HFI.o,<-HFS.o]at hx;exact fragsP_mem zO hx
         ·have h1:=zri HN4.o v p;omega)
        replace c0:=zca HKY.o.bel c0;replace c1:=zca HKY.o.bel c1;replace c2:=zca HKY.o.bel c2;replace c3:=zca HKY.o.bel c3;have HY0:zI (y≠0):=zH zO;clear HLV HLP HLWP HFI hS hM1 hE hls hpv
        go_wp2_with (first
         |(go_at_call 43;(with_reducible refine HSV.o.mono ?_);rintro e9 w9 ⟨rfl,hs9⟩;have HS9:=zH hs9;clear hs9))
        go_roundg (i- (p+1));(case measure=>(have:=HG2.o;omega));case rel=>exact⟨p+1,zO,rfl,by go_num,by rw[HL1.o HY0.o],by rw[HMS.o,zIN HY0.o];rfl,HS9.o.1⟩
       ·obtain rfl:y=0:=zO;have e4:decide ((0:Int)<(0:Nat))=false:=by simp
        have HFI:zI (zcr lw v p= []):=zH (by
         unfold zcr;rw[HY.o,zIN zO])
        have HKN:zI (M.Ok w7 wy (stF M.L st a) (zzc M.L mvf a (znb M.L (zvc lw v (p+1))))):=zH (by
         rw[HFS.o,HFI.o,List.append_nil];exact HKY.o)
        rw[zIP rfl]at HMS;have hmc:=HMC.o;obtain⟨lc,hlc⟩:∃lc,znm v p=lc:=⟨_,rfl⟩;obtain⟨mc,hmc2⟩:∃mc,misC v p=mc:=⟨_,rfl⟩;(rw[hlc]at HL2 HL3 |-);(rw[hmc2]at HMS hmc |-);clear hlc hmc2 hls hpv h0;by_cases hlt:lc<0
        ·have e5:decide (lc<0)=true:=zDT hlt;have HLT2:=zH (HL2.o rfl hlt);clear hlt;go_wp2_with fail;go_roundg (i- (p+1));(case measure=>(have:=HG2.o;omega));case rel=>exact⟨p+1,zO,rfl,by go_num,by rw[HLT2.o],by rw[HMS.o];go_num,HKN.o⟩
        ·have e5:decide (lc<0)=false:=zDF hlt;have HLT2:=zH (HL3.o hlt);clear hlt;go_wp2_with fail;go_roundg (i- (p+1));(case measure=>(have:=HG2.o;omega));case rel=>exact⟨p+1,zO,rfl,by go_num,by rw[HLT2.o],by rw[HMS.o];go_num,HKN.o⟩
      ·obtain rfl:p=i:=zO
       have hLC:ztf v≠0->znm v p=(zeh v:Nat):=λ h=>by
        have h1:=leaI_all h;rw[HVC.o.1]at h1;exact h1
       have hMC:misC v p=ztf v:=by
        have h1:=misC_all v;rw[HVC.o.1]at h1;exact h1
       have HLC:=zH hLC;rw[hMC];obtain⟨lc,hlc⟩:∃lc,znm v p=lc:=⟨_,rfl⟩;(rw[hlc]at HLC |-);clear hLC hMC hlc HMC;have hgl:=HGS.o.sl;have hgn:=HGS.o.len;obtain⟨gl,hgle⟩:∃gl,gs.length=gl:=⟨_,rfl⟩;have HGL:=zH hgle;(have hgl1:gl<=100:=by rw[<-hgle];exact HA.o.grpP.few);rw[hgle]at hgn;have hshl:=HSH.o.sl;have hshn:slen vsh=gl:=by rw[HSH.o.len,<-HA.o.shn,hgle]
       have HZL:zI (gz.length=gl):=zH (by
        rw[<-HGZ.o,List.length_zip,<-HA.o.shn,HGL.o];exact Nat.min_self _)
       clear hgle;go_wp2_with fail
       have HK1:zI (M.Ok w7 wy (stF M.L st a) (zzc M.L mvf a (znb M.L (zvc lw v p++zve gz v 0)))):=zH (by
        (have e:zvc lw v p++zve gz v 0=zvc lw v p:=by unfold zve;simp);rw[e];exact HKY.o)
       go_loopg [123] (gl) (λ g u123 wr=>∃q:Nat,q<=gl/\g=gl-q/\u123= .int .i64 q/\M.Ok w7 wr (stF M.L st a) (zzc M.L mvf a (znb M.L (zvc lw v p++zve gz v q))));case atStart=>exact⟨0,zZL _,rfl,rfl,HK1.o⟩
       case round=>
        obtain⟨q,hqg,hg,rfl,hk⟩:=hrel;obtain⟨wz,hwz⟩:∃w6,w6=wr:=⟨_,rfl⟩;subst hwz;have HG3:=zH hg;have HKZ:=zH hk;clear hg hk HK1 HKY;by_cases hql:q<gl
        ·(have hqs:q<gs.length:=by rw[HGL.o];exact hql);(have hqh:q<sl.length:=by rw[<-HA.o.shn];exact hqs);(have hqz:q<gz.length:=by rw[HZL.o];exact hql);obtain⟨vg,cg,hgv⟩:=HGS.o.at' q hqs;have hgmem:=zGM hqs
         have HHS:zI (zve gz v (q+1)=zve gz v q++(hitG v (gs[q]'hqs,sl[q]'hqh)).toList):=zH (by
          rw[hitsP_succ hqz]
          have e:gz[q]'hqz=(gs[q]'hqs,sl[q]'hqh):=by
           simp only[<-HGZ.o,List.getElem_zip]
          rw[e])
         have HLT1:=zH (HA.o.grpP.lt _ hgmem);have HSH1:=zH (HA.o.grpP.short _ hgmem);obtain⟨t1,xa,xb,z0,z1,z2,⟨xa1,xa2,xa3,rfl,_⟩,⟨xb1,xb2,xb3,rfl,_⟩,hx⟩:=HSH.o.at' q hqh;generalize gs[q]'hqs=gq at *
         generalize sl[q]'hqh=x at *
         replace cg:=zca HKZ.o.bel cg;replace z0:=zca HKZ.o.bel z0;replace z1:=zca HKZ.o.bel z1;replace z2:=zca HKZ.o.bel z2;have HGV:=zH (hgv.bw HKZ.o.bel);have HX:=zH (hx.bw HKZ.o.bel);have HSTR:=zH (struck_any r vg v gq wz (HR.o.bw HKZ.o.bel) HGV.o (by rw[HVC.o.1];omega) (by rw[HVC.o.1];omega) (λ y hy=>by rw[HVC.o.1,<-HN.o];exact HLT1.o y hy) HSH1.o);have i7:(0:Int)<=(q:Int):=zO;have i8:(q:Int)<(gl:Nat):=zO;clear hgv hgmem hx hqs hqh hqz;by_cases hhit:zhg v gq=v
         ·have HH:=zH hhit
          have HSN:zI (zve gz v (q+1)=zve gz v q):=zH (by
           rw[HHS.o];unfold hitG;rw[zIP HH.o];exact List.append_nil _)
          clear hhit
          go_wp2_with (first
           |(go_at_call 44;(with_reducible refine HSTR.o.mono ?_);rintro e9 w9 ⟨hb9,hs9,-⟩;obtain rfl:=hs9 HH.o;have HB9:=zH hb9;clear hb9 hs9))
          go_roundg (gl- (q+1));(case measure=>(have:=HG3.o;omega));case rel=>exact⟨q+1,zO,rfl,by go_num,by rw[HSN.o];exact HKZ.o.bw HB9.o⟩
         ·have HH:=zH hhit
          have HSN:zI (zve gz v (q+1)=zve gz v q++ [(zhg v gq,x)]):=zH (by
           rw[HHS.o];unfold hitG;rw[zIN HH.o];rfl)
          clear hhit;by_cases hx0:x=0
          ·have e0:decide (x=0)=true:=zDT hx0;have HX0:=zH hx0;clear hx0
           go_wp2_with (first
            |(go_at_call 44;(with_reducible refine HSTR.o.mono ?_);rintro e9 w9 ⟨hb9,-,hs9⟩;obtain⟨a9,l9,k9,rfl,hn9⟩:=hs9 HH.o;have HB9:=zH hb9;have HX9:=zH (HX.o.bw hb9);replace z0:=zca hb9 z0;replace z1:=zca hb9 z1;replace z2:=zca hb9 z2;clear hb9 hs9 hn9 cg)
            |(go_at_call 45;(with_reducible refine(zud _ x _ HX9.o).mono ?_);rintro e4 w4 ⟨rfl,hb4⟩;have HB4:=zH (zaa HB9.o hb4);clear hb4 z0 z1 z2))
           go_roundg (gl- (q+1));case measure=>(have:=HG3.o;omega)
           case rel=>
            refine⟨q+1,zO,rfl,by go_num,(HKZ.o.bw HB4.o).congr (λ i _=>rfl) (λ r c _ _=> ?_)⟩;rw[HSN.o,<-List.append_assoc]
            have e:znb M.L ((zvc lw v p++zve gz v q)++ [(zhg v gq,x)])=znb M.L (zvc lw v p++zve gz v q):=by
             funext c
             exact zgf _ HX0.o
            rw[e]
          ·have e0:decide (x=0)=false:=zDF hx0
           have HOQ:zI (∀y∈(zvc lw v p++zve gz v q)++ [(zhg v gq,x)],over D B y.2):=zH (λ y hy=>HOVA.o y (by
            rw[List.append_assoc,<-HSN.o]at hy;rw[zzq,HVC.o.1];refine List.mem_append_left _ ?_;rcases List.mem_append.1 hy with h1 | h1
            ·exact List.mem_append_left _ h1
            ·exact List.mem_append_right _ (hitsP_mem h1)))
           have HTG:zI (zhb (zhg v gq)/\1<=(zhg v gq).length/\(zhg v gq).length<=100):=zH ⟨zqg (B:=50) zD (λ j=>by rw[zpm];split;exact zZL _;exact zLT (HVC.o.2.2.1 j) zO),by rw[zjf,HVC.o.1];omega,by rw[zjf,HVC.o.1];omega⟩
           have HLQ:zI ((zvc lw v p++zve gz v q).length<1000):=zH (by
            rw[zLA];have h1:=zri HN4.o v p;have h2:=hitsP_len gz v q;omega)
           clear hx0
           go_wp2_with (first
            |(go_at_call 44;(with_reducible refine HSTR.o.mono ?_);rintro e9 w9 ⟨hb9,-,hs9⟩;obtain⟨a9,l9,k9,rfl,hn9⟩:=hs9 HH.o;have HB9:=zH hb9;have HX9:=zH (HX.o.bw hb9);have HN9:=zH hn9;replace z0:=zca hb9 z0;replace z1:=zca hb9 z1;replace z2:=zca hb9 z2;clear hb9 hs9 hn9 cg)
            |(go_at_call 45;(with_reducible refine(zud _ x _ HX9.o).mono ?_);rintro e4 w4 ⟨rfl,hb4⟩;have HB4:=zH (zaa HB9.o hb4);have HK4:=zH (HKZ.o.bw HB4.o);have HX4:=zH (HX9.o.bw hb4);have HN4':=zH (HN9.o.bw hb4);replace z0:=zca hb4 z0;replace z1:=zca hb4 z1;replace z2:=zca hb4 z2;clear hb4)
            |(go_at_call 46;(with_reducible refine(zxn (zhg v gq,x) _ _ _ HK4.o HN4'.o HTG.o.1 HTG.o.2.1 HTG.o.2.2 HX4.o haM.o rfl HA.o.room HOQ.o HLQ.o).mono ?_);rintro e8 w8' ⟨rfl,hs8⟩;have HS8:=zH hs8;clear hs8 z0 z1 z2))
           go_roundg (gl- (q+1));(case measure=>(have:=HG3.o;omega));case rel=>exact⟨q+1,zO,rfl,by go_num,by rw[HSN.o,<-List.append_assoc];exact HS8.o.1⟩
        ·obtain rfl:q=gl:=zO;obtain⟨pre,hpre⟩:∃pre,zvc lw v p++zve gz v q=pre:=⟨_,rfl⟩
         have HPRE:zI (zjj lw rep gz v=pre++if ztf v=0 then []else znf lw rep v (lw (zeh v)).n):=zH (by
          rw[zzq,HVC.o.1,HZL.o,hpre])
         have HPL2:zI (pre.length<=200):=zH (by
          rw[<-hpre,zLA];have h1:=zri HN4.o v p;have h2:=hitsP_len gz v q;omega)
         rw[hpre]at HKZ;clear hpre;obtain⟨z,hz⟩:∃z,ztf v=z:=⟨_,rfl⟩;have HZ:=zH hz;(have hzm:z<=m:=by rw[<-hz];exact HVC.o.2.2.2);(rw[hz]at HLC HPRE |-);clear hz;by_cases hz0:z=0
         ·subst hz0
          have HKM:zI (M.Ok w7 wz (stF M.L st a) (zzc M.L mvf (a+1) (znb M.L []))):=zH (by
           refine HKZ.o.congr (λ i _=>rfl) (λ r c _ _=> ?_);(have e:pre=mvf v:=by rw[<-HMV.o,HPRE.o,zIP rfl,List.append_nil]);rw[e];exact HTN.o r c)
          have HSTV:zI (st v=begV lw v v.length 1):=zH (by
           rw[<-HST.o];unfold zyq;rw[zIP HZ.o])
          have hbc:=HKM.o.bld.blk.cells.2.2.1
          have HBG:zI (∀wq,Below w7.heap.size w7 wq->Calls Tryz.prog 47 #[r,vls] wq (RF1 wq (st v))):=zH (λ wq hb=>by
           rw[HSTV.o,<-HLW.o];refine begin_any r vls v ls wq (HR.o.bw hb) (HLS.o.bw hb) (by rw[HVC.o.1,HA.o.num,HN.o]) (by rw[HVC.o.1];omega) (λ j hj=> ?_) (λ j=>zLT (HVC.o.2.2.1 j) zO) (λ l hl q hq=>((HA.o.lp l hl).st q hq).sz);(have hj2:j<p:=by rw[<-HVC.o.1];exact hj);refine⟨?_,by rw[HLW.o];exact HVC.o.2.1 j hj2⟩;(refine zPZ λ h0=> ?_);have h1:=HZ.o;rw[zke,List.count_eq_zero]at h1;apply h1;rw[zGD,zGE hj]at h0;have h2:v[j]=0:=h0;rw[<-h2];exact zGM hj)
          clear HLC;go_upto_region 36 with fail;refine wpL.st2 10 hbc hbc (λ wd hbD hHeld=> ?_);have HKD:=zH (HKM.o.bw hbD);clear hbc hbD;refine zU 0 ?_;refine zU 1 ?_;refine zU 2 ?_;refine zU 3 ?_;refine zY 4 ?_;refine zU 5 ?_;refine zU 6 ?_;refine zU 7 ?_;(refine zCF 8 47 #[r,vls] (HBG.o _ HKD.o.bel) λ t7 a71 l71 k71 a72 l72 k72 w7' hv7 hb7=>⟨kcl2 hb7 hHeld,λ hH7=> ?_⟩);rw[<-HSA.o.1]at hv7;have HK7:=zH (HKD.o.bw hb7);have HV7:=zH hv7;clear hHeld hv7 hb7 HKD;have hbld:=HK7.o.bld;(have hjR:a<(zch (M.L.length+1) (stF M.L st a)).length:=by rw[zwa];have:=haM.o;omega);have hrow:=hbld.law.s;obtain⟨y0,z0,y1,y2,y3,y4,f0,f1,f2,vssl,n01,n02,n12⟩:=hrow.prep hjR;obtain⟨N,hN⟩:∃N,M.L.length+1=N:=⟨_,rfl⟩;(have vsln:slen M.vs=N:=by rw[hrow.fracs.len,zwa,hN]);have hput:=hbld.putS (i:=a) (s':=stF M.L st (a+1)) (by have:=haM.o;omega) (λ k _ hk=>zeq hk) HV7.o;have HPUT:=zH hput;(have ha9:(a:Int)<(N:Nat):=by have:=haM.o;omega);clear hbld hrow hput hjR hN;(refine zW 9 ?_;intro K hK);rw[zIP (by rfl)];go_simp;refine hK.o _ _ (λ _=>hH7) ?_;clear hK K;refine zS ?_;(refine zW 10 ?_;intro K hK);rw[zIP (by rfl)];go_simp;refine hK.o _ _ (λ h=>by first | cases h | simp at h) ?_;clear hK K hH7 y2 y3 y4 f0 f1 f2 n01 n02 n12;refine wpL.done (by kernel_rfl) ?_ _;go_wp2_with fail;go_roundg (L.length- (a+1));case measure=>(have:=HG1.o;omega)
          case rel=>
           exact⟨a+1,zO,rfl,by go_num,HK7.o.vec,HK7.o.le,HK7.o.bel.trans (HPUT.o.2.1.mono HK7.o.le),HPUT.o.1,HK7.o.len⟩
         ·have hlc:=HLC.o hz0;subst hlc;obtain⟨y,rfl⟩:∃y,z=y+1:=⟨z-1,zO⟩
          have hlel:zeh v<p:=by
           have h1:=HZ.o;rw[zke]at h1;have h2:(0:Nat)∈v:=List.count_pos_iff.1 zO;have h3:=List.idxOf_lt_length_iff.2 h2;rw[<-HVC.o.1];exact h3
          obtain⟨le,hle⟩:∃le,zeh v=le:=⟨_,rfl⟩;have HLE:=zH hle;(rw[hle]at hlel |-);have HPR2:zI (zjj lw rep gz v=pre++znf lw rep v (lw le).n):=zH (by rw[HPRE.o,zIN zO,hle]);(have hls:le<ls.length:=by rw[HA.o.num,HN.o];exact hlel);obtain⟨nm,vs1,vr1,ve1,c0,c1,c2,c3,hS,hM1,hE⟩:=HLS.o.at' le hls;obtain⟨sa,sn,sk,rfl,_⟩:=id hS.sl
          have hlwn:(ls[le]'hls).start.length=(lw le).n:=by
           rw[<-HLW.o];(show _=(ls.getD le lqNo).start.length);rw[zGD,zGE hls];rfl
          (have hsn:sn=(lw le).n:=by rw[<-hlwn];exact hS.len);have HSN2:=zH hsn;have hsn4:sn<=4:=by rw[hsn];exact HN4.o le
          have HST3:zI (∀q,q<sn->∃t a b,w7.cell? (ptr (.slice sa sn sk) (q*3))=some (.bool t)/\w7.cell? (ptr (.slice sa sn sk) (q*3+1))=some a/\w7.cell? (ptr (.slice sa sn sk) (q*3+2))=some b/\zlb a/\zlb b/\zmf w7 (.agg #[.bool t,a,b]) ((lw le).S q)):=zH (λ q hq=>by
           (have hq2:q<(ls[le]'hls).start.length:=by rw[hlwn,<-hsn];exact hq);have h:=hS.at' q hq2
           have e:(lw le).S q=(ls[le]'hls).start[q]'hq2:=by
            rw[<-HLW.o];(show(ls.getD le lqNo).start.getD q 0=_);(have e2:ls.getD le lqNo=ls[le]'hls:=by rw[zGD,zGE hls];rfl);rw[e2,zGD,zGE hq2];rfl
           rw[e];exact h)
          have sslS:=hS.sl;(have hyr:y<rl.length:=by rw[HA.o.repn];omega);obtain⟨tq,qa,qb,q0,q1,q2,⟨qa1,qa2,qa3,rfl,_⟩,⟨qb1,qb2,qb3,rfl,_⟩,hq⟩:=HRV.o.at' y hyr;obtain⟨ry,hry⟩:∃x,rl[y]'hyr=x:=⟨_,rfl⟩
          have HRE:zI (rep y=ry):=zH (by
           rw[<-HREP.o];(show rl.getD y 0=ry);rw[zGD,zGE hyr];exact hry)
          rw[hry]at hq;have HQ:=zH hq;have HQC:=zH (zAI q0 (zAI q1 q2));have vrsl:=HRV.o.sl;have vrln:slen vrep=rl.length:=HRV.o.len
          have HRQ:zI (∀q,(repQ lw rep v q).1=v.set le (q+1)/\(repQ lw rep v q).2=ry*(lw le).S q):=zH (λ q=>by
           unfold repQ;rw[hle,HZ.o,Nat.add_sub_cancel,HRE.o];exact⟨rfl,rfl⟩)
          replace c1:=zca HKZ.o.bel c1;(have e6:(((y+1:Nat):Int)==0)=false:=by simp;omega);have i7:(0:Int)<=(le:Int):=zO;have i8:(le:Int)<(p:Nat):=zO
          have HK9:zI (M.Ok w7 wz (stF M.L st a) (zzc M.L mvf a (znb M.L (pre++znf lw rep v 0)))):=zH (by
           (have e:pre++znf lw rep v 0=pre:=by unfold znf;simp);rw[e];exact HKZ.o)
          clear hS hM1 hE hls hlwn hsn hle hry hq q0 q1 q2 c0 c2 c3 HLC hz0;go_wp2_with fail;clear c1 e6;go_loopg [168] (sn) (λ g u168 wr=>∃q:Nat,q<=sn/\g=sn-q/\u168= .int .i64 q/\M.Ok w7 wr (stF M.L st a) (zzc M.L mvf a (znb M.L (pre++znf lw rep v q))));case atStart=>exact⟨0,zZL _,rfl,rfl,HK9.o⟩
          case round=>
           obtain⟨q,hqn,hg,rfl,hk⟩:=hrel;obtain⟨wv,hwv⟩:∃w6,w6=wr:=⟨_,rfl⟩;subst hwv;have HG4:=zH hg;have HKV:=zH hk;clear hg hk HK9 HKZ;by_cases hql:q<sn
           ·obtain⟨t1,xa,xb,z0,z1,z2,⟨xa1,xa2,xa3,rfl,_⟩,⟨xb1,xb2,xb3,rfl,_⟩,hx⟩:=HST3.o q hql;replace z0:=zca HKV.o.bel z0;replace z1:=zca HKV.o.bel z1;replace z2:=zca HKV.o.bel z2;have hba:=zba wv (.cells #[.bool t1, .slice xa1 xa2 xa3, .slice xb1 xb2 xb3] 53);have HX:=zH ((hx.bw HKV.o.bel).bw hba);have HXC:=zH (C3.new wv 53 (.bool t1) (.slice xa1 xa2 xa3) (.slice xb1 xb2 xb3));have HBA:=zH hba;have HRS:zI (znf lw rep v (q+1)=znf lw rep v q++ [repQ lw rep v q]):=zH (repsP_succ _ _ _ _);have i9:(0:Int)<=(q:Int):=zO;have i10:(q:Int)<(sn:Nat):=zO;have HR1:=zH (HRQ.o q).1;have HR2:=zH (HRQ.o q).2;clear hx hba;obtain⟨x,hxx⟩:∃x,(lw le).S q=x:=⟨_,rfl⟩;rw[hxx]at HX HR2;clear hxx;by_cases hx0:x=0
            ·have e0:decide (x=0)=true:=zDT hx0;have HX0:=zH hx0;clear hx0
             go_wp2_with (first
              |(go_at_call 45;(with_reducible refine(zud _ x _ HX.o).mono ?_);rintro e4 w4 ⟨rfl,hb4⟩;have HB4:=zH (zaa HBA.o hb4);clear hb4 z0 z1 z2))
             go_roundg (sn- (q+1));case measure=>(have:=HG4.o;omega)
             case rel=>
              refine⟨q+1,zO,rfl,by go_num,(HKV.o.bw HB4.o).congr (λ i _=>rfl) (λ r c _ _=> ?_)⟩;rw[HRS.o,<-List.append_assoc]
              have e:znb M.L ((pre++znf lw rep v q)++ [repQ lw rep v q])=znb M.L (pre++znf lw rep v q):=by
               funext c
               refine zgf _ ?_;rw[HR2.o,HX0.o,Rat.mul_zero]
              rw[e]
            ·have e0:decide (x=0)=false:=zDF hx0;clear hx0;obtain⟨mx,hmx⟩:∃mx,repQ lw rep v q=mx:=⟨_,rfl⟩;rw[hmx]at HRS HR1 HR2
             have HOQ:zI (∀y∈(pre++znf lw rep v q)++ [mx],over D B y.2):=zH (λ y hy=>HOVA.o y (by
              rw[HPR2.o];rw[List.append_assoc,<-HRS.o]at hy;rcases List.mem_append.1 hy with h1 | h1
              ·exact List.mem_append_left _ h1
              ·exact List.mem_append_right _ (repsP_mem (by rw[<-HSN2.o];omega) h1)))
             have HFR:zI (fits (ry*x)):=zH (by
              rw[<-HR2.o];exact HA.o.room.fits (HOQ.o mx (by simp)))
             have HTG:zI (zhb mx.1/\1<=mx.1.length/\mx.1.length<=100):=zH (by
              rw[HR1.o,zGS,HVC.o.1];exact⟨zqg (B:=50) zD (set_le (λ j=>zLT (HVC.o.2.2.1 j) zO) zO),zO,zO⟩)
             have HLQ:zI ((pre++znf lw rep v q).length<1000):=zH (by
              rw[zLA];unfold znf;rw[zMP,List.length_range];have:=HPL2.o;omega)
             clear hmx
             go_upto_region 41 with(first
              |(go_at_call 45;(with_reducible refine(zud _ x _ HX.o).mono ?_);rintro e4 w4 ⟨rfl,hb4⟩;have HB4:=zH (zaa HBA.o hb4);have HK4:=zH (HKV.o.bw HB4.o);have HX4:=zH (HX.o.bw hb4);obtain⟨-,g0,g1,g2,-,-,-⟩:=HXC.o.bS hb4;clear hb4 z0 z1 z2))
             have q0:=zca HK4.o.bel HQC.o.1;have q1:=zca HK4.o.bel HQC.o.2.1;have q2:=zca HK4.o.bel HQC.o.2.2;refine wpL.st6 14 q0 q1 q2 g0 g1 g2 (λ wd hbD hHeld=> ?_);have HKD:=zH (HK4.o.bw hbD);have HXD:=zH (HX4.o.bw hbD);have HQD:=zH (HQ.o.bw HKD.o.bel);have HVD:=zH (HR.o.bw HKD.o.bel);(have hwq:IntKind.i64.wrap (((q:Nat):Int)+1)=((q+1:Nat):Int):=by rw[zub zO zO];omega);have hyr2:(y:Int)<(rl.length:Nat):=zO;have hy0:(0:Int)<=(y:Int):=zO;have hwy:IntKind.i64.wrap ((y:Nat):Int)=((y:Nat):Int):=zub zO zO;clear q0 q1 q2 g0 g1 g2 hbD;refine zU 0 ?_;refine zU 1 ?_;refine zU 2 ?_;refine zU 3 ?_;refine zU 4 ?_;refine zU 5 ?_;refine zU 7 ?_;refine zU 8 ?_;refine zU 9 ?_;(try rw[hwy]);refine zU 10 ?_;refine zY 11 ?_;refine zY 12 ?_;(refine zW 6 ?_;intro K hK);refine zla 48 #[r, .int .i64 (le:Nat), .int .i64 (IntKind.i64.wrap (((q:Nat):Int)+1))] ?_ ?_ (zfi r v le (q+1) _ _ _ HVD.o rfl hwq (by rw[HVC.o.1];exact hlel) (by rw[HVC.o.1];omega)) ?_
             ·rfl
             ·go_simp
             rintro e5 w5 ⟨v5,rfl,ho5,hb5⟩;have hH5:=kcl6 hb5 hHeld;refine⟨_,rfl,?_⟩;refine hK.o _ _ (λ _=>hH5) ?_;have HO5:zI (zjb w5 v5 mx.1):=zH (by rw[HR1.o];exact ho5.natsV);have HK5:=zH (HKD.o.bw hb5);have HX5:=zH (HXD.o.bw hb5);have HQ5:=zH (HQD.o.bw hb5);clear hK K hHeld ho5 hb5 HKD HXD HVD HQD hwq;refine zS ?_;(refine zCF 13 49 #[.agg #[.bool tq, .slice qa1 qa2 qa3, .slice qb1 qb2 qb3], .agg #[.bool t1, .slice xa1 xa2 xa3, .slice xb1 xb2 xb3]] (ztg _ _ ry x _ HQ5.o HX5.o HFR.o) λ t7 a71 l71 k71 a72 l72 k72 w7' hv7 hb7=>⟨kcl6 hb7 hH5,λ hH7=> ?_⟩);rw[<-HR2.o]at hv7;have HV7:=zH (hv7.toV (by rw[HR2.o];exact HFR.o));have HO7:=zH (HO5.o.bw hb7);have HK7:=zH (HK5.o.bw hb7);clear hH5 hv7 hb7 HK5 HX5 HQ5 HO5;(refine zW 14 ?_;intro K hK);refine zla 46 #[.pointer (some ⟨M.b,0,none⟩), .int .i64 (a:Nat),v5, .agg #[.bool t7, .slice a71 l71 k71, .slice a72 l72 k72]] ?_ ?_ (zxn mx ((a:Nat):Int) v5 (.agg #[.bool t7, .slice a71 l71 k71, .slice a72 l72 k72]) HK7.o HO7.o HTG.o.1 HTG.o.2.1 HTG.o.2.2 HV7.o haM.o rfl HA.o.room HOQ.o HLQ.o) ?_
             ·rfl
             ·go_simp
             rintro e8 w8' ⟨rfl,hs8⟩;have HS8:=zH hs8;refine⟨_,rfl,?_⟩;refine hK.o _ _ (λ h=>by first | cases h | simp at h) ?_;clear hK K hH7 hs8;refine wpL.done (by kernel_rfl) ?_ _;go_wp2_with fail;go_roundg (sn- (q+1));(case measure=>(have:=HG4.o;omega));case rel=>exact⟨q+1,zO,rfl,by go_num,by rw[HRS.o,<-List.append_assoc];exact HS8.o.1⟩
           ·obtain rfl:q=sn:=zO
            have HKM:zI (M.Ok w7 wv (stF M.L st a) (zzc M.L mvf (a+1) (znb M.L []))):=zH (by
             refine HKV.o.congr (λ i _=>rfl) (λ r c _ _=> ?_);(have e:pre++znf lw rep v q=mvf v:=by rw[<-HMV.o,HPR2.o,HSN2.o]);rw[e];exact HTN.o r c)
            have HST0:zI (st v=0):=zH (by
             rw[<-HST.o];unfold zyq;rw[zIN (by rw[HZ.o];omega)])
            go_wp2_with fail;go_roundg (L.length- (a+1));(case measure=>(have:=HG1.o;omega));case rel=>exact⟨a+1,zO,rfl,by go_num,HKM.o.congr (λ i _=>HSA.o.2 HST0.o i) (λ _ _ _ _=>rfl)⟩
    ·obtain rfl:a=L.length:=zO;obtain⟨c,hc⟩:∃c:CQ,cq=c:=⟨_,rfl⟩
     have HCC:zI ((⟨zhi (M.L.length+1) (zzc M.L mvf L.length (znb M.L [])),zch (M.L.length+1) (stF M.L st L.length),zvg (M.L.length+1)⟩:CQ)=c):=zH (by
      rw[<-hc,<-HCQ.o,HREP.o,HGZ.o,HLW.o,HMV.o,HST.o];exact cnt_fin HML.o.1)
     subst hc;clear HCQ;have hdn:=done_any M.b M.vb M.B M.hi (M.L.length+1) M.vs M.vl M.vr M.rs (stF M.L st L.length) (zzc M.L mvf L.length (znb M.L [])) wx HKX.o.bld;rw[HCC.o]at hdn;have HDN:=zH hdn;have HCX:=zH (HC7.o.bS HKX.o.bel);have HBX:=zH (zaa HB7.o HKX.o.bel);clear hdn;have svr:=HKX.o.bld.law.ra.sl;have svs:=HKX.o.bld.law.s.sl;have svl:=HKX.o.bld.lost.sl;obtain⟨r1,r2,r3,hr3,_⟩:=svr;obtain⟨s1,s2,s3,hs3,_⟩:=svs;obtain⟨l1,l2,l3,hl3,_⟩:=svl;have HR3:=zH (zAI hr3 (zAI hs3 hl3));rw[hr3,hs3,hl3]at HDN;clear hr3 hs3 hl3;have HLL:=zH hLL;by_cases hv:zic cq.raw
     ·have HVV:=zH hv;clear hv
      go_wp2_with (first
       |(go_at_call 50;(with_reducible refine HDN.o.mono ?_);rintro e8 w8 ⟨v8,er8,rfl,hb8,h81,_⟩;obtain⟨rfl,rfl⟩:=h81 HVV.o;have HCY:=zH (HCX.o.bS hb8);have HKY:=zH (HKX.o.bw hb8);have HBY:=zH (zaa HBX.o hb8);obtain⟨-,g0,g1,g2,u0,u1,u2⟩:=HCY.o;clear hb8 h81))
      refine zka rfl rfl Tryz.aggCh Tryz.sizeCh (HCY.o.set _ _ _) rfl ?_;have hch:=(HKY.o.bld.over3 HCY.o (by rw[HML.o.2.2.1];have:=HC7.o.lt;omega) zZ zZ zZ (.slice r1 r2 r3) (.slice s1 s2 s3) (.slice l1 l2 l3)).chain;rw[HCC.o,HR3.o.1,HR3.o.2.1,HR3.o.2.2]at hch;exact⟨λ _=>⟨_,_,rfl,zea HBY.o (zLR _) _ _ _,λ _=>⟨rfl,hch⟩,λ h=>absurd HVV.o h⟩,λ h=>absurd HLL.o zO⟩
     ·have HVV:=zH hv;clear hv
      go_wp2_with (first
       |(go_at_call 50;(with_reducible refine HDN.o.mono ?_);rintro e8 w8 ⟨v8,er8,rfl,hb8,_,h81⟩;obtain⟨rfl,rfl⟩:=h81 HVV.o;have HCY:=zH (HCX.o.bS hb8);have HBY:=zH (zaa HBX.o hb8);obtain⟨-,g0,g1,g2,u0,u1,u2⟩:=HCY.o;clear hb8 h81))
      refine zka rfl rfl Tryz.aggCh Tryz.sizeCh (HCY.o.set _ _ _) rfl ?_;exact⟨λ _=>⟨_,_,rfl,zea HBY.o (zLR _) _ _ _,λ h=>absurd h HVV.o,λ _=>⟨rfl,rfl⟩⟩,λ h=>absurd HLL.o zO⟩
end Go.Proofs.YtkpedaflofejnaaGreat
