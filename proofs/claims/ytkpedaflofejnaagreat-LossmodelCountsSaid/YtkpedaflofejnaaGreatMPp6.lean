/- Lemmas. -/
import Derived.Test.YtkpedaflofejnaaGreatMLo26
import Derived.Test.YtkpedaflofejnaaGreatMTl4
set_option linter.unusedVariables false
set_option linter.unusedSimpArgs false
namespace Go.Proofs.YtkpedaflofejnaaGreat
open Go.RowKit
def prol (z:Nat) (v:List Nat) (x:Nat):List (List Nat):=((List.range x).map λ y=>v++ [y]).filter λ u=>ztf u<=z
theorem prol_succ (z:Nat) (v:List Nat) (x:Nat):prol z v (x+1)=prol z v x++if ztf (v++ [x])<=z then [v++ [x]]else []:=by
 unfold prol;rw[List.range_succ,List.map_append,List.filter_append]
 congr 1
 simp only[List.map_cons,List.map_nil,List.filter_cons,List.filter_nil];by_cases h:ztf (v++ [x])<=z<;>simp[h]
theorem prol_len (z:Nat) (v:List Nat) (x:Nat):(prol z v x).length<=x:=by
 unfold prol;refine zLT (List.length_filter_le _ _) ?_;simp
def snoD (l:List (List Nat)) (p z j:Nat):List (List Nat):=(l.take j).flatMap λ v=>prol z v (p+1)
theorem snoD_zero (l:List (List Nat)) (p z:Nat):snoD l p z 0= []:=rfl
theorem snoD_succ (l:List (List Nat)) (p z j:Nat) (h:j<l.length):snoD l p z (j+1)=snoD l p z j++prol z l[j] (p+1):=by
 unfold snoD;rw[List.take_succ_eq_append_getElem h,List.flatMap_append];simp
theorem zgq (l:List (List Nat)) (p z:Nat):snoD l p z l.length=snocF l p z:=by
 unfold snoD snocF;rw[zTL (zLR _)];rfl
theorem zfm (l:List (List Nat)) (p z:Nat):∀j,j<=l.length->(snoD l p z j).length<=j*(p+1)
 | 0,_=>Nat.le_of_eq (by simp[snoD_zero])
 | j+1,h=>by
   rw[snoD_succ l p z j h,zLA,Nat.succ_mul];exact Nat.add_le_add (zfm l p z j zO) (prol_len _ _ _)
theorem zrp (ph:List Nat) (i m:Nat) (h:i<ph.length):zbb (ph.take (i+1)) m=snocF (zbb (ph.take i) m) ph[i] m:=by
 rw[List.take_succ_eq_append_getElem h,zil]
theorem zsp (ph:List Nat) (m:Nat) (hp:∀x∈ph,x<=4):∀i,i<=ph.length->(zbb (ph.take i) m).length<=5^i
 | 0,_=>by simp[zbb]
 | i+1,h=>by
   have hx:=hp _ (zGM (show i<ph.length from h));rw[zrp ph i m h,<-zgq];refine zLT (zfm _ _ _ _ (zLR _)) ?_;have ih:=zsp ph m hp i zO;rw[Nat.pow_succ];exact zMM ih zO
theorem enumF_vlen {ph:List Nat} {m i:Nat} {v:List Nat} (hi:i<=ph.length) (h:v∈zbb (ph.take i) m):v.length=i:=by
 have h1:=((zmd _ _ _).1 h).1;rw[zTK,Nat.min_eq_left hi]at h1;exact h1
theorem append1_big {P:Program} (t e:TypeId) (i:TypeInfo) (z:Value) (bytes:Nat) (ht:P.underlying t=some (.slice e)) (hi:P.info? e=some i) (hz:i.zero=some z) (hsize:i.size=1) (hby:i.bytes=bytes) (hby2:bytes<=64) (hzc:z.cells=#[z]) (hzn:∀k,z≠ .int .u32 k)
 (w0:World) {ops:Array Oper} {rest:List Oper} {o:Oper} {a:Act} {Q:Exit->Act->World->Prop} (hgd:o.guard=none) (s x:Operand)
 (ho:o.op= .call { callee:= .builtin .append,args:=#[s,x],argTypes:=#[t,t] }) (B:Nat) (e':TypeId)
 (v:Value) (xs:List Value) (hs:a.eval s=v) (hown:zbc w0 e B 1 v xs.length xs) (c:Value) (hc1:c.oneCell'=true) (hcn:∀k,c≠ .int .u32 k) (hxe:a.eval x= .slice (some ⟨w0.heap.size,0,none⟩) 1 1) (hn:xs.length<=4000) (hbase:B<=w0.heap.size)
 (h:∀v' w',zbc w' e B 1 v' (xs++ [c]).length (xs++ [c])->w0.grownBy w' v.ownBlock->zdc w0 v->(v'.ownBlock=v.ownBlock\/v'.ownBlock=some (w0.heap.size+1))->zlb v'->wpList P ops Q rest (a.put o.dst v') w'):
 wpList P ops Q (o::rest) a (w0.alloc (.cells #[c] e')):=by
 refine znd w0 hgd s x t ho B e e' i _ 1 bytes ht hi hz hsize hby (by rw[hzc];rfl) zD (λ d hd=>by rw[hzc]at hd;simp at hd;subst hd;exact hzn) v xs.length xs hs hown #[c] rfl hxe
  (λ u hu=>by simp at hu;subst hu;exact hc1) (λ u hu z=>by simp at hu;subst hu;exact hcn z) (by simp[maxLen];omega) (by have :(xs.length+1)*bytes<=4001*64:=zMM zO hby2;omega) hbase ?_
 intro v' w' k1 k2 k3;refine h v' w' ?_ k2 hown.nl k3 k1.sl;rw[zLA];exact k1
def RVec2 (w0:World) (L:List (List Nat)) (e:Ending) (w:World):Prop:=∃v,e= .returned v/\Below w0.heap.size w0 w/\(L.length<128->∃rs,zfc w w0.heap.size v rs L)/\(128<=L.length->v= .slice none 0 0)
set_option maxRecDepth 100000 in
set_option maxHeartbeats 6400000 in
theorem rvectors_any (vm:Value) (ph:List Nat) (m:Nat) (mm:Int) (w:World) (hmm:mm=(m:Nat)) (hv:zjb w vm ph) (hn:ph.length<=4) (hp:∀x∈ph,x<=4) (hm:m<=100):Calls Tryz.prog 56 #[vm, .int .i64 mm] w (RVec2 w (zbb ph m)):=by
 subst hmm;obtain⟨i3,hi3,hz3,hs3,hy3⟩:=info_parts Tryz.infoInt;obtain⟨i4,hi4,hz4,hs4,hy4⟩:=info_parts Tryz.infoInts;have hA1:=zti (P:=Tryz.prog) 31 3 i3 Tryz.underlying31 hi3 hz3 hs3 hy3;have vsl:=hv.sl;have vln:=hv.len;obtain⟨n,hnn⟩:∃n,ph.length=n:=⟨_,rfl⟩;rw[hnn]at hn vln;have HV:=zH hv;have HN:=zH hnn;have HP:=zH hp
 have HL5:zI (∀i,i<=n->(zbb (ph.take i) m).length<=625):=zH (λ i hi=>by
  have h:=zsp ph m hp i zO;have h2:5^i<=5^4:=Nat.pow_le_pow_right zD zO;exact zLT h h2)
 have hba:=zba w (.cells #[.slice none 0 0] 31);have HBA:=zH hba
 have HO0:zI (zfc (w.alloc (.cells #[.slice none 0 0] 31)) w.heap.size (.slice (some ⟨w.heap.size,0,none⟩) 1 1) [.slice none 0 0] (zbb (ph.take 0) m)):=zH (by
  refine⟨⟨zvh w 31 (.slice none 0 0),?_⟩,by simp[zbb],λ j a b=> ?_,by simp⟩
  ·intro g hg cur e fz hc c hcc z;simp only[Value.ownBlock,Option.some.injEq]at hg;subst hg;rw[heap_alloc_new]at hc;(injection hc with hc);(injection hc with hc _ _);subst hc;simp at hcc;subst hcc;simp
  ·(obtain rfl:j=0:=by simp at a;omega);exact zib.nil _ _ _)
 clear hv hp hnn hba;go_enter Tryz.func56,Tryz.ntmps56;go_wp2_with fail;go_loopg [5,6] (n) (λ g u5 u6 wr=>∃ (i:Nat) (v:Value) (rs:List Value),i<=n/\g=n-i/\u6= .int .i64 i/\v=u5/\zfc wr w.heap.size v rs (zbb (ph.take i) m)/\Below w.heap.size w wr);case atStart=>exact⟨0,_,_,zZL _,rfl,rfl,rfl,HO0.o,HBA.o⟩
 case round=>
  obtain⟨i,v,rs,hin,hg,rfl,rfl,ho,hbr⟩:=hrel;obtain⟨wx,hwx⟩:∃w6,w6=wr:=⟨_,rfl⟩;subst hwx;have HG:=zH hg;have HO:=zH ho;have HBR:=zH hbr;have vsl1:=ho.own.sl;have vln1:slen v=(zbb (ph.take i) m).length:=ho.rowsV.len;have hL5:=HL5.o i hin;have HVL:zI (∀u∈zbb (ph.take i) m,u.length=i):=zH (λ u hu=>enumF_vlen (by rw[HN.o];exact hin) hu);clear hg ho hbr HO0 HBA;by_cases hil:i<n
  ·(have hip:i<ph.length:=by rw[HN.o];exact hil);have HCP:=zH (HV.o.at' i hip);have hp4:=HP.o _ (zGM hip);have HSTP:=zH (zrp ph i m hip);have hL6:=HL5.o (i+1) hil;rw[HSTP.o,<-zgq]at hL6;generalize ph[i]'hip=p at *
   generalize zbb (ph.take i) m=L at *
   have HL6:=zH hL6;have i1:(0:Int)<=(i:Int):=zO;have i2:(i:Int)<(n:Nat):=zO;clear hL6 hip;go_wp2_with fail;go_loopg [7,8] (L.length) (λ g u7 u8 wr=>∃ (j:Nat) (vn:Value) (rn:List Value),j<=L.length/\g=L.length-j/\u8= .int .i64 j/\vn=u7/\zfc wr w.heap.size vn rn (snoD L p m j)/\zfc wr w.heap.size v rs L/\(v.ownBlock=none\/v.ownBlock≠vn.ownBlock)/\Below w.heap.size w wr)
   case atStart=>exact⟨0,_,[],zZL _,rfl,rfl,rfl,by rw[snoD_zero];exact zfc.nil HO.o.sz,HO.o,(by
    show v.ownBlock=none\/v.ownBlock≠none
    cases v.ownBlock with
    | none=>exact Or.inl rfl
    | some k=>exact Or.inr (by simp)),HBR.o⟩
   case round=>
    obtain⟨j,vn,rn,hjL,hg,rfl,rfl,hnx,ho,hd,hbr⟩:=hrel;obtain⟨wy,hwy⟩:∃w6,w6=wr:=⟨_,rfl⟩;subst hwy;have HG2:=zH hg;have HNX:=zH hnx;have HO2:=zH ho;have HD2:=zH hd;have HBR2:=zH hbr;have nsl:=hnx.own.sl;have nln:slen vn=(snoD L p m j).length:=hnx.rowsV.len;clear hg hnx ho hd hbr HO HBR;by_cases hjl:j<L.length
    ·have HSN:=zH (snoD_succ L p m j hjl);have HUL:=zH (HVL.o _ (zGM hjl));have HUX:zI (∀ (h:j<L.length),L[j]=L[j]'hjl):=zH (λ _=>rfl)
     have HB6:zI ((snoD L p m j).length+(p+1)<=4000):=zH (by
      have h1:=zfm L p m j hjL;have h2:j*(p+1)<=625*5:=zMM zO zO;omega)
     generalize L[j]'hjl=u at *
     go_wp2_with fail;go_loopg [7,9] (p+1) (λ g u7 u9 wr=>∃ (x:Nat) (vn:Value) (rn:List Value),x<=p+1/\g=p+1-x/\u9= .int .i64 x/\vn=u7/\zfc wr w.heap.size vn rn (snoD L p m j++prol m u x)/\zfc wr w.heap.size v rs L/\(v.ownBlock=none\/v.ownBlock≠vn.ownBlock)/\Below w.heap.size w wr);case atStart=>exact⟨0,_,_,zZL _,rfl,rfl,rfl,by(have h:=HNX.o;simpa [prol]using h),HO2.o,HD2.o,HBR2.o⟩
     case round=>
      obtain⟨x,vn,rn,hxp,hg,rfl,rfl,hnx,ho,hd,hbr⟩:=hrel;obtain⟨wz,hwz⟩:∃w6,w6=wr:=⟨_,rfl⟩;subst hwz;have HG3:=zH hg;have HNX3:=zH hnx;have HO3:=zH ho;have HD3:=zH hd;have HBR3:=zH hbr;have nsl:=hnx.own.sl;have nln:slen vn=(snoD L p m j++prol m u x).length:=hnx.rowsV.len;have cp:=zca hbr HCP.o;clear hg hnx ho hd hbr HNX HO2 HD2 HBR2;by_cases hxl:x<=p
      ·have j1:decide (x<=p)=true:=zDT hxl;obtain⟨row,hrow,hrv⟩:=HO3.o.rowsV.at' j hjl;rw[HUX.o hjl]at hrv;have HRV:=zH hrv;have HPS:=zH (prol_succ m u x);have hul:=HUL.o
       have HRN:zI (rn.length<=4000):=zH (by
        rw[HNX3.o.rl,zLA];have h1:=HB6.o;have h2:=prol_len m u x;omega)
       have usl:=hrv.sl;have hsw:w.heap.size<=wz.heap.size:=HO3.o.sz;have i5:(0:Int)<=(j:Int):=zO;have i6:(j:Int)<(L.length:Nat):=zO;clear hrv
       go_upto_region 13 with(first
        |(at_builtin;refine zmb wz rfl _ _ 31 rfl wz.heap.size 3 i3 (.int .i64 0) 8 Tryz.underlying31 hi3 hz3 hs3 hy3 rfl (.slice none 0 0) [] rfl (zib.nil _ _ _) row rfl (HRV.o.sl) (u.map zod) (by rw[zMP];exact HRV.o.len) (λ j hj=>zta.cell HRV.o j hj) (zun u) (by simp[maxLen];omega) (by simp;omega) (zLR _) ?_;intro v5 w5 ho5 hg5 hb5;rw[List.nil_append]at ho5;have hsz5:wz.heap.size<=w5.heap.size:=hb5.size;have s5:=ho5.sl)
        |(at_builtin;refine hA1 w5 rfl _ _ rfl wz.heap.size _ v5 u rfl ho5 x rfl zO hsz5 ?_;intro v6 w6 ho6 hb6;have hbz:=hb5.trans hb6;have HO6:=zH ho6;have HB6':=zH hbz;have s6:=ho6.sl;have hrow2:=zca hbz hrow;clear ho6 hb6 ho5 hg5 hb5 hsz5 s5 hbz))
       obtain⟨q1,q2,q3,rfl,_⟩:=id s6;have HO7:=zH (HO3.o.bw HB6'.o);have HNX7:=zH (HNX3.o.bw HB6'.o);have HBR7:=zH (zaa HBR3.o HB6'.o);have HOW:zI (zib w6 3 w.heap.size (.slice q1 q2 q3) ((u++ [x]).map zod)):=zH (HO6.o.mono hsw);clear hrow hrow2 HO3 HNX3 HBR3 HO6 cp;by_cases hz:ztf (u++ [x])<=m
       ·have e5:decide (ztf (u++ [x])<=m)=true:=zDT hz;have HZ:=zH hz;clear hz
        go_wp2_with (first
         |(go_at_call 62;(with_reducible refine(zdp _ (u++ [x]) _ HOW.o.natsV (by simp;omega)).mono ?_);rintro e8 w8 ⟨rfl,hb8⟩;have HOW8:=zH (HOW.o.bw hb8);have HO8:=zH (HO7.o.bw hb8);have hout:=HNX7.o.bw hb8;have HBR8:=zH (zaa HBR7.o hb8);have hown:=hout.own;have hsz:=hout.sz;have hpl:=HRN.o;clear hb8)
         |(at_builtin;refine append1_big (P:=Tryz.prog) 24 31 i4 (.slice none 0 0) 24 Tryz.underlying24 hi4 hz4 hs4 hy4 zD rfl zZ w8 rfl _ _ rfl w.heap.size _ vn rn rfl hown (.slice q1 q2 q3) rfl zZ rfl hpl hsz ?_;intro v9 w9 ho9 hg9 hn9 hq9 hs9;have HP9:=zH (hout.push HOW8.o ho9 hg9);have HO9:=zH (HO8.o.grown hown hg9 HD3.o);have HD9:=zH (zrf HD3.o (λ g hg=>(HO8.o.own.block g hg).2) (zLS _) hq9);have HB9:=zH (HBR8.o.trans HP9.o.2);clear ho9 hg9 hn9 hq9 hout hown hsz))
        go_roundg (p+1- (x+1));case measure=>(have:=HG3.o;omega)
        case rel=>
         have h:=HP9.o.1;rw[List.append_assoc,show [u++ [x]]=(if ztf (u++ [x])<=m then [u++ [x]]else [])from(zIP HZ.o).symm,<-HPS.o]at h;exact⟨x+1,_,_,zO,rfl,by go_num,rfl,h,HO9.o,HD9.o,HB9.o⟩
       ·have e5:decide (ztf (u++ [x])<=m)=false:=zDF hz;have HZ:=zH hz;clear hz
        go_wp2_with (first
         |(go_at_call 62;(with_reducible refine(zdp _ (u++ [x]) _ HOW.o.natsV (by simp;omega)).mono ?_);rintro e8 w8 ⟨rfl,hb8⟩;have HO8:=zH (HO7.o.bw hb8);have HNX8:=zH (HNX7.o.bw hb8);have HBR8:=zH (zaa HBR7.o hb8);clear hb8))
        go_roundg (p+1- (x+1));case measure=>(have:=HG3.o;omega)
        case rel=>
         have h:=HNX8.o;(have e:prol m u (x+1)=prol m u x:=by rw[HPS.o,zIN HZ.o,List.append_nil]);rw[<-e]at h;exact⟨x+1,_,_,zO,rfl,by go_num,rfl,h,HO8.o,HD3.o,HBR8.o⟩
      ·obtain rfl:x=p+1:=zO;have j1:decide (p+1<=p)=false:=zDF zO;have HN4:zI (zfc wz w.heap.size vn rn (snoD L p m (j+1))):=zH (by rw[HSN.o];exact HNX3.o);rw[<-HSN.o]at nln
       have e6:decide ((4096:Int)<((snoD L p m (j+1)).length:Int))=false:=zDF (by
        have h1:=HB6.o;have h2:=zfm L p m (j+1) hjl;have h3:(j+1)*(p+1)<=625*5:=zMM zO zO;omega)
       go_wp2_with fail;go_roundg (L.length- (j+1));(case measure=>(have:=HG2.o;omega));case rel=>exact⟨j+1,_,_,zO,rfl,by go_num,rfl,HN4.o,HO3.o,HD3.o,HBR3.o⟩
    ·obtain rfl:j=L.length:=zO;have HN4:zI (zfc wy w.heap.size vn rn (zbb (ph.take (i+1)) m)):=zH (by rw[HSTP.o,<-zgq];exact HNX.o);go_wp2_with fail;go_roundg (n- (i+1));(case measure=>(have:=HG.o;omega));case rel=>exact⟨i+1,_,_,zO,rfl,by go_num,rfl,HN4.o,HBR2.o⟩
  ·obtain rfl:i=n:=zO;have HA:zI (ph.take i=ph):=zH (zTL (by rw[HN.o];exact zLR _));rw[HA.o]at HO vln1 hL5;obtain⟨F,hF⟩:∃F,zbb ph m=F:=⟨_,rfl⟩;rw[hF]at HO vln1 hL5;have HFF:=zH hF;clear hF;by_cases hFL:F.length<128
   ·have e7:decide ((128:Int)<(F.length:Int)+1)=false:=zDF zO;have HFL:=zH hFL;clear hFL;go_wp2_with fail;go_ret;have h0:=HFF.o;subst h0;exact⟨v,rfl,HBR.o,λ _=>⟨rs,HO.o⟩,λ h=>absurd HFL.o zO⟩
   ·have e7:decide ((128:Int)<(F.length:Int)+1)=true:=zDT zO;have HFL:=zH hFL;clear hFL;go_wp2_with fail;go_ret;have h0:=HFF.o;subst h0;exact⟨.slice none 0 0,rfl,HBR.o,λ h=>absurd h HFL.o,λ _=>rfl⟩
set_option maxHeartbeats 3200000
set_option maxRecDepth 100000 in
theorem rmerge_main (P k m:Nat) (st:Int) (w:World) (hP1:1<=P) (hP4:P<=4) (k1:1<=k) (m4:m<=4) (km:k+m<=4):Calls Tryz.prog 17 #[.int .i64 (P:Nat), .int .i64 (k:Nat), .int .i64 (m:Nat), .int .i64 st] w (zro w (zao (P:Nat) (k:Nat) (m:Nat) st)):=by
 rw[mergA_nat P k m st hP1 hP4 k1 zO m4 zO];obtain⟨n,hn⟩:∃n,k+m=n:=⟨_,rfl⟩;rw[hn];have n1:1<=n:=zO;have n4:n<=4:=zO;have mn:m<=n:=zO;have HFM:zI (∀v∈zbb (List.replicate n P) m,v.length=n/\∀x∈v,x<=P):=zH (λ v hv=>full_mem mn hv);have HTM:zI (∀v∈zbb (List.replicate n P) m,zec P v∈zue P n m):=zH (λ v hv=>tally_mem hP1 mn hv);have HCL:zI (∀v∈zue P n m,v.length=P+1):=zH (λ v hv=>((zik hP1 mn).1 hv).1)
 have HCB:zI ((zue P n m).length<=1000):=zH (by
  rw[zhr];refine zLT (spl_le _ (show m+1<=n+1 by omega)) ?_;rw[<-zig];exact zbi _ zO _ zO)
 obtain⟨F,hF⟩:∃F,zbb (List.replicate n P) m=F:=⟨_,rfl⟩;obtain⟨C,hC⟩:∃C,zue P n m=C:=⟨_,rfl⟩;rw[hF,hC]at HTM;rw[hF]at HFM;rw[hC]at HCL HCB;rw[hF,hC];generalize hRR:(if 128<=F.length then((0,2):Int×Int)else if st<0\/(F.length:Int)<st then(0,5)else if st=(F.length:Int)then((C.length:Int),0)else(((C.idxOf (zec P (F.getD st.toNat [])):Nat):Int),0))=RR;have HRR:=zH hRR;clear hRR;have HF:=zH hF;have HC:=zH hC;have HN:=zH hn;have hcb:=HCB.o;obtain⟨i3,hi3,hz3,hs3,hy3⟩:=info_parts Tryz.infoInt;have hM:=zbo (P:=Tryz.prog) 31 3 i3 (.int .i64 0) Tryz.underlying31 hi3 hz3 hs3 (by rw[hy3];decide) rfl;have hA1:=zti (P:=Tryz.prog) 31 3 i3 Tryz.underlying31 hi3 hz3 hs3 hy3
 have hEQ:∀ (w:World) (a:Option Addr) (n c:Nat),(binOp .eql 24 (.slice a n c) (.slice none 0 0)).run Tryz.prog w= .ok (.bool a.isNone) w:=λ w a n c=>by
  rw[Lib.run_eql_slice_nil w 24 31 a n c 0 0 Tryz.underlying24]
 clear hF hC hi3 hz3 hs3 hy3;have e1:decide ((P:Int)<1)=false:=zDF zO;have e2:decide ((4:Int)<(P:Nat))=false:=zDF zO;have hkm:((k:Nat):Int)+(m:Nat)=(n:Nat):=zO;go_enter Tryz.func17,Tryz.ntmps17
 go_upto_region 4 with(first
  |(go_at_call 51;(with_reducible refine(zoq k m _ k1 zO m4 zO).mono ?_);rintro e3 w3 ⟨rfl,hb3⟩;have HB3:=zH hb3;clear hb3))
 clear e1 e2;go_wp2_with fail;go_loopg [10,11] (n) (λ g u10 u11 wr=>∃ (a:Nat) (v:Value),a<=n/\g=n-a/\u11= .int .i64 a/\v=u10/\zib wr 3 w3.heap.size v ((List.replicate a P).map zod)/\Below w3.heap.size w3 wr);case atStart=>exact⟨0,_,zZL _,rfl,rfl,rfl,zib.nil _ _ _,zBR _ _⟩
 case round=>
  obtain⟨a,v9,han,hg,rfl,rfl,ho,hbr⟩:=hrel;obtain⟨w6,hw6⟩:∃w6,w6=wr:=⟨_,rfl⟩;subst hw6;have HG:=zH hg;have HO:=zH ho;have HBR:=zH hbr;have s9:=ho.sl;have l9:slen v9=a:=by rw[ho.len,zMP,zRP]
  clear hg ho hbr;by_cases hal:a<n
  ·have i2:(a:Int)<(k:Int)+(m:Int):=zO;have ho:=HO.o;have hsz:=HBR.o.size;go_wp2_with (at_builtin;refine hA1 w6 rfl _ _ rfl w3.heap.size _ v9 (List.replicate a P) rfl ho P rfl (by simp;omega) hsz ?_;intro v7 w7 ho7 hb7;have HO7:=zH ho7;have HB7:=zH (HBR.o.trans hb7);clear ho7 hb7);go_roundg (n- (a+1));case measure=>(have:=HG.o;omega)
   case rel=>
    have h:=HO7.o;rw[<-List.replicate_succ']at h;exact⟨a+1,_,zO,rfl,by go_num,rfl,h,HB7.o⟩
  ·obtain rfl:a=n:=zO;have i2:¬ (a:Int)<(k:Int)+(m:Int):=zO;clear hal han;have HNV:zI (zjb w6 v9 (List.replicate a P)):=zH HO.o.natsV;have HBX:=zH (zaa HB3.o HBR.o);clear HG HO HBR
   go_upto_region 9 with(first
    |(go_at_call 56;(with_reducible refine(rvectors_any v9 (List.replicate a P) m _ _ rfl HNV.o (by rw[zRP];omega) (λ x hx=>by rw[List.eq_of_mem_replicate hx];omega) zO).mono ?_);rintro e7 w7 ⟨vb,rfl,hb7,hv7⟩;rw[HF.o]at hv7;have HV7:=zH hv7;have HB7:=zH (zaa HBX.o hb7);clear hb7 hv7))
   clear s9 l9;by_cases hFL:128<=F.length
   ·have hnil:=HV7.o.2 hFL;subst hnil;have h:=HRR.o;rw[zIP hFL]at h;subst h;clear hFL;go_wp2_with fail;go_ret2;exact⟨rfl,HB7.o⟩
   obtain⟨rs,hV⟩:=HV7.o.1 zO;have HV:=zH hV.rowsV;have lsl:=hV.rowsV.sl;have lln:slen vb=F.length:=hV.rowsV.len;have HFL:=zH hFL
   have hFpos:0<F.length:=by
    rcases Nat.eq_zero_or_pos F.length with h | h
    ·exfalso
     have h1:List.replicate a 1∈zbb (List.replicate a P) m:=(zmd _ _ _).2 ⟨by simp,λ i hi=>by
      rw[List.getElem_replicate,zGD,List.getElem?_replicate,zIP (by simpa using hi)];exact hP1,by
      (have :ztf (List.replicate a 1)=0:=by rw[zke];exact List.count_eq_zero.2 (λ h=>by have:=List.eq_of_mem_replicate h;omega));omega⟩
     rw[HF.o,List.length_eq_zero_iff.1 h]at h1;cases h1
    ·exact h
   obtain⟨vb1,vb2,vb3,rfl,hvb⟩:=id lsl;obtain rfl:vb2=F.length:=lln
   obtain⟨ad,rfl⟩:∃ad,vb1=some ad:=by
    cases hvv:vb1 with
    | none=>
      exfalso;rw[hvv]at hvb;have h1:=hvb.2.2 rfl;omega
    | some ad=>exact⟨ad,rfl⟩
   clear hV HV7 hFL;by_cases hs1:st<0
   ·have e4:decide (st<0)=true:=zDT hs1;have h:=HRR.o;rw[zIN HFL.o,zIP (Or.inl hs1)]at h;subst h;clear hs1;go_wp2_with fail;go_ret2;exact⟨rfl,HB7.o⟩
   have e4:decide (st<0)=false:=zDF hs1;by_cases hs2:(F.length:Int)<st
   ·have e5:decide ((F.length:Int)<st)=true:=zDT hs2;have h:=HRR.o;rw[zIN HFL.o,zIP (Or.inr hs2)]at h;subst h;clear hs1 hs2;go_wp2_with fail;go_ret2;exact⟨rfl,HB7.o⟩
   obtain⟨s,rfl⟩:∃s:Nat,st=s:=⟨st.toNat,zO⟩;have hsF:s<=F.length:=zO;have e5:decide (F.length<s)=false:=zDF zO;have HR2:=HRR.o;rw[zIN HFL.o,zIN zO]at HR2;replace HRR:=zH HR2;clear hs1 hs2 HR2
   go_upto_region 14 with(first
    |(go_at_call 70;(with_reducible refine(zln P a m _ _ _ _ rfl zO rfl hP1 hP4 zO mn).mono ?_);rintro e8 w8 ⟨vc,rsc,rfl,hv8,hb8⟩;rw[HC.o]at hv8;have HVC:=zH hv8.rowsV;have HB8:=zH (zaa HB7.o hb8);have HV8:=zH (HV.o.bw hb8);have csl:=hv8.rowsV.sl;have cln:slen vc=C.length:=hv8.rowsV.len;clear hb8 hv8))
   by_cases hsl:s=F.length
   ·(have e6:(((s:Nat):Int)==((F.length:Nat):Int))=true:=by simp[hsl]);have h:=HRR.o;rw[zIP zO]at h;subst h;clear hsl;go_wp2_with fail;go_ret2;exact⟨rfl,HB8.o⟩
   (have e6:(((s:Nat):Int)==((F.length:Nat):Int))=false:=by simp;omega);have hsl2:s<F.length:=zO;have h:=HRR.o;rw[zIN zO]at h;rw[Int.toNat_natCast,zGD,zGE hsl2]at h;replace HRR:=zH (show(((C.idxOf (zec P (F[s]'hsl2)):Nat):Int),(0:Int))=RR from h);clear h hsl;obtain⟨r,hr0,hrv⟩:=HV8.o.at' s hsl2;have HFS:=zH (HFM.o _ (zGM hsl2));have HTC:=zH (HTM.o _ (zGM hsl2));generalize F[s]'hsl2=v at *
   have HR:=zH hrv;have rsl:=hrv.sl;(have rln:slen r=a:=by rw[hrv.len];exact HFS.o.1);clear hrv
   go_upto_region 17 with(refine hM _ rfl _ _ rfl w8.heap.size _ (P+1) ?_ rfl rfl zO (zLR _) ?_
                          ·omega
                          intro vT wT hvT hbT hgT;have HOT:zI (zib wT 3 w8.heap.size vT ((zec P (v.take 0)).map zod)):=zH (by rw[List.take_zero,tally_nil,List.map_replicate];exact hvT);have HBT:=zH hbT;have sT:=hvT.sl;(have lT:slen vT=P+1:=by rw[hvT.len,zRP]);clear hvT hbT hgT)
   clear hM;have i1:(0:Int)<=(s:Int):=zO;have i2':(s:Int)<(F.length:Nat):=zO;go_wp2_with fail;go_loopg [15] (a) (λ g u15 wr=>∃j:Nat,j<=a/\g=a-j/\u15= .int .i64 j/\zib wr 3 w8.heap.size vT ((zec P (v.take j)).map zod)/\Below w8.heap.size w8 wr);case atStart=>exact⟨0,zZL _,rfl,rfl,HOT.o,HBT.o⟩
   case round=>
    obtain⟨j,hja,hg,rfl,ho,hbr⟩:=hrel;obtain⟨wx,hwx⟩:∃w6,w6=wr:=⟨_,rfl⟩;subst hwx;have HG:=zH hg;have HO:=zH ho;have HBR:=zH hbr;have cs:=zca hbr hr0;clear hg ho hbr HOT HBT;by_cases hjl:j<a
    ·(have hjv:j<v.length:=by rw[HFS.o.1];exact hjl);have cj:=(HR.o.bw HBR.o).at' j hjv;have hx:=HFS.o.2 _ (zGM hjv)
     have HTS:zI (zbf (zec P (v.take j)) (v[j]'hjv)=zec P (v.take (j+1))):=zH (by
      rw[List.take_succ_eq_append_getElem hjv,zzo])
     generalize v[j]'hjv=x at *
     have hb:=zok HO.o (i:=x) (by rw[zuc];omega);obtain⟨cx,fx,ho2,hb2⟩:=hb;rw[HTS.o]at ho2;have HO2:=zH ho2;have HB2:=zH hb2
     have hty:(zec P (v.take j)).getD x 0<=100:=by
      rw[znh (λ z hz=>HFS.o.2 z (List.mem_of_mem_take hz))];have h1:=List.count_le_length (a:=x) (l:=v.take j);rw[zTK]at h1;omega
     generalize (zec P (v.take j)).getD x 0=y at *
     have i3:(0:Int)<=(j:Int):=zO;have i4:(j:Int)<(a:Nat):=zO;have i5:(0:Int)<=(x:Int):=zO;have i6:(x:Int)<((P+1:Nat):Int):=zO;clear ho2 hb2 hjv;go_wp2_with fail;go_roundg (a- (j+1));(case measure=>(have:=HG.o;omega));case rel=>exact⟨j+1,zO,rfl,by go_num,HO2.o,HBR.o.trans HB2.o⟩
    ·obtain rfl:j=a:=zO
     have HNT:zI (zjb wx vT (zec P v)):=zH (by
      have h:=HO.o.natsV;rw[zTL (by rw[HFS.o.1];omega)]at h;exact h)
     have HBX8:=zH (zaa HB8.o HBR.o);have HVX:=zH (HVC.o.bw HBR.o);clear HG HO
     go_wp2_with (first
      |(go_at_call 60;(with_reducible refine(zfp _ _ C (zec P v) _ HVX.o HNT.o (λ x hx=>by rw[HCL.o x hx,zuc]) zO (by rw[zuc];omega)).mono ?_);rintro e9 w9 ⟨rfl,hb9⟩;have HB9:=zH (zaa HBX8.o hb9);clear hb9))
     have h:=HRR.o;subst h;go_ret2;exact⟨rfl,HB9.o⟩
set_option maxRecDepth 100000 in
theorem rmerge_km (ph:Int) (k m:Nat) (st:Int) (w:World) (k1:1<=k) (m4:m<=4) (km:k+m<=4):Calls Tryz.prog 17 #[.int .i64 ph, .int .i64 (k:Nat), .int .i64 (m:Nat), .int .i64 st] w (zro w (zao ph (k:Nat) (m:Nat) st)):=by
 by_cases h1:ph<1
 ·rw[zzn (Or.inl h1)];have e1:decide (ph<1)=true:=zDT h1;clear h1;go_enter Tryz.func17,Tryz.ntmps17;go_wp2_with fail;go_ret2;exact⟨rfl,zBR _ _⟩
 ·by_cases h2:4<ph
  ·rw[zzn (Or.inr (Or.inl h2))];have e1:decide (ph<1)=false:=zDF h1;have e2:decide (4<ph)=true:=zDT h2;clear h1 h2;go_enter Tryz.func17,Tryz.ntmps17;go_wp2_with fail;go_ret2;exact⟨rfl,zBR _ _⟩
  ·obtain⟨P,rfl⟩:∃P:Nat,ph=P:=⟨ph.toNat,zO⟩;exact rmerge_main P k m st w zO zO k1 m4 km
end Go.Proofs.YtkpedaflofejnaaGreat
namespace Go.Proofs.YtkpedaflofejnaaGreat
theorem tf_nums :∀x,x<6->∀y,y<8->fq false (x+1) (y+1)=mkRat (((x+1)*(840/(y+1)):Nat):Int) 840/\(x+1)*(840/(y+1))<=5040/\0<fq false (x+1) (y+1)/\zsa (fq false (x+1) (y+1)).num.natAbs<=32/\zsa (fq false (x+1) (y+1)).den<=32:=by decide+kernel
theorem tfQ.over {q:Rat} (h:tfQ q):over 840 5040 q:=by
 obtain⟨x,y,hx,hy,rfl⟩:=h;obtain⟨h1,h2,_⟩:=tf_nums x hx y hy;exact⟨_,h1,by rw[Int.natAbs_natCast];exact h2⟩
theorem tfQ.pos {q:Rat} (h:tfQ q):0<q:=by
 obtain⟨x,y,hx,hy,rfl⟩:=h;exact(tf_nums x hx y hy).2.2.1
theorem tfQ.lim {q:Rat} (h:tfQ q):zdh q:=by
 obtain⟨x,y,hx,hy,rfl⟩:=h;obtain⟨_,_,h1,h2,h3⟩:=tf_nums x hx y hy;exact⟨Rat.le_of_lt h1,h2,h3⟩
theorem st_nums :∀k,k<9->0<=fq false k 8/\zsa (fq false k 8).num.natAbs<=32/\zsa (fq false k 8).den<=32:=by decide+kernel
theorem st_over {k:Nat} (h:k<9):over 8 8 (fq false k 8):=⟨(k:Int),by unfold fq sgn;simp,by simp;omega⟩
theorem fq_add8 (a b:Nat):fq false a 8+fq false b 8=fq false (a+b) 8:=by
 unfold fq sgn;simp only[Bool.false_eq_true,if_false];rw[Rat.mkRat_add_mkRat _ _ zD zD,Rat.mkRat_eq_iff zD zD]
 push_cast
 grind
theorem lsum_st :∀ks:List Nat,zof (ks.map λ k=>fq false k 8)=fq false ks.sum 8
 | []=>by decide+kernel
 | k::ks=>by rw[List.map_cons,lsum_cons,lsum_st ks,fq_add8,List.sum_cons,Nat.add_comm]
theorem mem_sum :∀ {ks:List Nat} {k:Nat},k∈ks->k<=ks.sum
 | a::ks,k,h=>by
   rw[List.sum_cons];rcases List.mem_cons.1 h with rfl | h
   ·omega
   ·have:=mem_sum h;omega
section
variable {n left:Nat} {S E:List Rat} {R:List (List Rat)}
theorem LT.st_mem (h:LT n n 0 S E R) {q:Rat} (hq:q∈S):∃k,k<9/\q=fq false k 8:=by
 obtain⟨ks,rfl,e2⟩:=h.st;obtain⟨k,hk,rfl⟩:=List.mem_map.1 hq;exact⟨k,by have:=mem_sum hk;omega,rfl⟩
theorem LT.ex_get (h:LT n n 0 S E R) {j:Nat} (hj:j<n):(tfQ (E.getD j 0)\/(E.getD j 0=0/\j+1<n)):=by
 have hj':j<E.length:=by rw[h.el];exact hj
 rw[zGD,zGE hj'];exact h.ex j hj'
theorem LT.rt_get (h:LT n n 0 S E R) {i j:Nat} (hi:i<n) (hj:j<n):(j=i+1->tfQ ((R.getD i []).getD j 0))/\(j=i->(R.getD i []).getD j 0=0)/\(tfQ ((R.getD i []).getD j 0)\/(R.getD i []).getD j 0=0):=by
 have hi':i<R.length:=by rw[h.rl];exact hi
 have e1:R.getD i []=R[i]:=by rw[zGD,zGE hi'];rfl
 obtain⟨h1,h2⟩:=h.rt i hi';have hj':j<R[i].length:=by rw[h1];exact hj
 have e2:R[i].getD j 0=R[i][j]:=by rw[zGD,zGE hj'];rfl
 rw[e1,e2];exact h2 j hj'
end
section
variable {n:Nat} {l:LQ}
theorem LT.law (h:LT n n 0 l.start l.exit l.rates) (hn:1<=n) (hn4:n<=4):LawP l where
 n1:=by rw[h.sl];exact hn
 n4:=by rw[h.sl];exact hn4
 el:=by rw[h.sl,h.el]
 rl:=by rw[h.sl,h.rl]
 st:=λ q hq=>by obtain⟨k,hk,rfl⟩:=h.st_mem hq;exact st_nums k hk
 ex:=λ q hq=>by
  obtain⟨j,hj,rfl⟩:=List.mem_iff_getElem.1 hq;rcases h.ex j hj with h1 | h1
  ·exact h1.lim
  ·rw[h1.1];exact limQ_zero
 row:=λ i hi=>by
  obtain⟨h1,h2⟩:=h.rt i hi;refine⟨by rw[h.sl];exact h1,λ q hq=> ?_,?_⟩
  ·obtain⟨j,hj,rfl⟩:=List.mem_iff_getElem.1 hq;rcases(h2 j hj).2.2 with h3 | h3
   ·exact h3.lim
   ·rw[h3];exact limQ_zero
  ·(have hi2:i<l.rates[i].length:=by rw[h1,<-h.rl];exact hi);rw[zGD,zGE hi2];exact(h2 i hi2).2.1 rfl
 sum:=by
  obtain⟨ks,e1,e2⟩:=h.st;rw[e1,lsum_st,show ks.sum=8 by omega];decide+kernel
 ends:=⟨λ i=>n-1-i,λ i hi=>by
  rw[h.sl]at hi |-
  refine⟨show n-1-i<=n by omega,?_⟩;rcases h.ex_get hi with h1 | ⟨h1,h2⟩
  ·exact Or.inl h1.pos
  ·exact Or.inr ⟨i+1,h2,((h.rt_get hi h2).1 rfl).pos,show n-1- (i+1)<n-1-i by omega⟩⟩
theorem LT.sm (h:LT n n 0 l.start l.exit l.rates):SmL 840 5040 l where
 r:=λ i j hi hj=>by
  rw[h.sl]at hi hj;rcases(h.rt_get hi hj).2.2 with h3 | h3
  ·exact h3.over
  ·unfold rtQ;rw[h3];exact over.zero _ _
 e:=λ i hi=>by
  rw[h.sl]at hi;rcases h.ex_get hi with h1 | ⟨h1,h2⟩
  ·exact h1.over
  ·unfold exQ;rw[h1];exact over.zero _ _
theorem LT.start8 (h:LT n n 0 l.start l.exit l.rates) {i:Nat} (hi:i<l.start.length):over 8 8 (stQ l i):=by
 obtain⟨k,hk,e⟩:=h.st_mem (getD_memQ hi);unfold stQ;rw[e];exact st_over hk
end
section
variable {a b:LQ}
theorem zvj.law {m:Nat} (h:zvj m a) (hm:m<=4):LawP a:=by obtain⟨n,h1,h2,h3⟩:=h;exact h3.law h1 (zLT h2 hm)
theorem zvj.sm {m:Nat} (h:zvj m a):SmL 840 5040 a:=by obtain⟨n,h1,h2,h3⟩:=h;exact h3.sm
theorem zvj.start8 {m:Nat} (h:zvj m a) {i:Nat} (hi:i<a.start.length):over 8 8 (stQ a i):=by obtain⟨n,h1,h2,h3⟩:=h;exact h3.start8 hi
end
end Go.Proofs.YtkpedaflofejnaaGreat
