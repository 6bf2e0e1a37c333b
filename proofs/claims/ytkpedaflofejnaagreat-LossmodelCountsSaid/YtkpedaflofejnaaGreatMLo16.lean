/- Lemmas. -/
import Derived.Test.YtkpedaflofejnaaGreatMLn5
import Derived.Test.YtkpedaflofejnaaGreatMLo17
set_option linter.unusedVariables false
set_option linter.unusedSimpArgs false
namespace Go.Proofs.YtkpedaflofejnaaGreat
set_option maxHeartbeats 6400000
open Go.RowKit
structure zfc (w:World) (B:Nat) (v:Value) (rs:List Value) (L:List (List Nat)):Prop where
 own:zbc w 31 B 1 v rs.length rs
 rl:rs.length=L.length
 rows:∀ (j:Nat) (h:j<rs.length) (h':j<L.length),zib w 3 B rs[j] (L[j].map zod)
 sz:B<=w.heap.size
section
variable {w w':World} {B B':Nat} {v v' r u:Value} {rs xs:List Value} {L:List (List Nat)} {x:List Nat}
theorem zfc.nil (h:B<=w.heap.size):zfc w B (.slice none 0 0) [] []:=⟨zbc.nil _ _ _ _,rfl,λ j h=>(by cases h),h⟩
theorem zfc.bw (h:zfc w B v rs L) (hb:Below w.heap.size w w'):zfc w' B v rs L:=
 ⟨h.own.bw hb,h.rl,λ j h1 h2=>(h.rows j h1 h2).bw hb,zLT h.sz hb.size⟩
theorem zfc.grown (h:zfc w B v rs L) (hu:zbc w 31 B' 1 u xs.length xs) (hg:w.grownBy w' u.ownBlock) (hd:v.ownBlock=none\/v.ownBlock≠u.ownBlock):zfc w' B v rs L:=
 ⟨h.own.grown hg hd,h.rl,λ j h1 h2=>(h.rows j h1 h2).grown hg ((h.rows j h1 h2).kindR hu zD),zLT h.sz hg.size⟩
theorem zfc.push (h:zfc w B v rs L) (hr:zib w 3 B r (x.map zod)) (hv:zbc w' 31 B 1 v' (rs++ [r]).length (rs++ [r])) (hg:w.grownBy w' v.ownBlock):zfc w' B v' (rs++ [r]) (L++ [x])/\Below B w w':=by
 have hb:Below B w w':=zob (B:=B) hg h.sz h.own.block;refine⟨⟨hv,by simp[h.rl],λ j h4 h5=> ?_,zLT h.sz hb.size⟩,hb⟩;rcases zOG j rs.length with hj | hj
 ·have hj2:j<L.length:=by rw[<-h.rl];exact hj
  rw[zAL hj,zAL hj2];exact(h.rows j hj hj2).grown hg ((h.rows j hj hj2).kindR h.own zD)
 ·obtain rfl:j=rs.length:=by simp at h4;omega
  have e1:(rs++ [r])[rs.length]'h4=r:=by simp
  have e2:(L++ [x])[rs.length]'h5=x:=by simp[h.rl]
  rw[e1,e2];exact hr.grown hg (hr.kindR h.own zD)
theorem zfc.rowsV (h:zfc w B v rs L):NRows w v L:=
 ⟨h.own.sl,by rw[h.own.len];exact h.rl,λ j hj=>by
  have hj2:j<rs.length:=by rw[h.rl];exact hj
  exact⟨rs[j],h.own.cell j hj2,(h.rows j hj2 hj).natsV⟩⟩
end
def spl (f:Nat->List (List Nat)) (x:Nat):List (List Nat):=(List.range x).flatMap λ y=>(f y).map (y:: ·)
theorem zfq (f:Nat->List (List Nat)) (x:Nat):spl f (x+1)=spl f x++(f x).map (x:: ·):=zai _ x
theorem spl_le (f:Nat->List (List Nat)) {x y:Nat} (h:x<=y):(spl f x).length<=(spl f y).length:=by
 obtain⟨t,e⟩:=zlj (λ y=>(f y).map (y:: ·)) h;unfold spl;rw[e,zLA];exact Nat.le_add_right _ _
theorem spl_all (f:Nat->List (List Nat)) (x:Nat):spl f x++((f x).take (f x).length).map (x:: ·)=spl f (x+1):=by
 rw[zTL (zLR _),zfq]
theorem spl_next (f:Nat->List (List Nat)) (x i:Nat) (h:i<(f x).length):spl f x++((f x).take (i+1)).map (x:: ·)=(spl f x++((f x).take i).map (x:: ·))++ [x::(f x)[i]]:=by
 rw[List.take_succ_eq_append_getElem h,List.map_append,List.append_assoc];rfl
theorem spl_part (f:Nat->List (List Nat)) {x lim i:Nat} (h:x<=lim) (hi:i<=(f x).length):(spl f x++((f x).take i).map (x:: ·)).length<=(spl f (lim+1)).length:=by
 have h1:=spl_le f (show x+1<=lim+1 by omega);rw[zfq,zLA,zMP]at h1;rw[zLA,zMP,zTK,Nat.min_eq_left hi];omega
theorem zig (r n:Nat):zag (r+1) n=spl (λ y=>zag r (n-y)) (n+1):=rfl
theorem zhr (P n m:Nat):zue P n m=spl (λ z=>zag (P-1) (n-z)) (m+1):=rfl
theorem spl_bound (f:Nat->List (List Nat)) (b:Nat) (hf:∀y,(f y).length<=b):∀x,(spl f x).length<=x*b
 | 0=>Nat.le_of_eq (by simp[spl])
 | x+1=>by
   rw[zfq,zLA,zMP,Nat.succ_mul];exact Nat.add_le_add (spl_bound f b hf x) (hf x)
theorem zio :∀ (r n:Nat),n<=8->(zag r n).length<=9^r
 | 0,n,_=>zLR _
 | r+1,n,h=>by
   rw[zig,Nat.pow_succ,Nat.mul_comm];exact zLT (spl_bound _ (9^r) (λ y=>zio r (n-y) zO) (n+1)) (zMR _ zO)
theorem zci {r n:Nat} (hr:r<=3) (h:n<=8):(zag r n).length<=729:=
 zLT (zio r n h) (Nat.pow_le_pow_right zD hr)
theorem zbi :∀r,r<5->∀n,n<9->(zag r n).length<=1000:=by decide+kernel
def RRows (w0:World) (L:List (List Nat)) (e:Ending) (w:World):Prop:=∃v rs,e= .returned v/\zfc w w0.heap.size v rs L/\Below w0.heap.size w0 w
theorem zvh (w:World) (e:TypeId) (c:Value):zib (w.alloc (.cells #[c] e)) e w.heap.size (.slice (some ⟨w.heap.size,0,none⟩) 1 1) [c]:=
 World.ownsRow_lit (size:=1) (base:=w.heap.size) w #[c] (e:=e) 1 (zLR _) (by simp[maxLen]) rfl
theorem zun (l:List Nat):∀u∈l.map zod,u.oneCell'=true:=λ u hu=>by
 obtain⟨y,_,rfl⟩:=List.mem_map.1 hu;rfl
set_option maxRecDepth 100000 in
theorem rsplits_any :∀ (r n:Nat) (pp nn:Int) (w:World),pp=((r+1:Nat):Int)->nn=(n:Nat)->r<=3->n<=8->Calls Tryz.prog 115 #[.int .i64 pp, .int .i64 nn] w (RRows w (zag r n)):=by
 obtain⟨i3,hi3,hz3,hs3,hy3⟩:=info_parts Tryz.infoInt;obtain⟨i4,hi4,hz4,hs4,hy4⟩:=info_parts Tryz.infoInts;intro r
 induction r with
 | zero=>
   intro n pp nn w hpp hnn hr hn;subst hpp;subst hnn;go_enter Tryz.func115,Tryz.ntmps115;go_wp2_with fail;go_ret;have h1:=zvh w 3 (.int .i64 (n:Nat));have h2:=(zfc.nil (w:=w.alloc (.cells #[.int .i64 (n:Nat)] 3)) (B:=w.heap.size) (by simp));have h3:=zba (w.alloc (.cells #[.int .i64 (n:Nat)] 3)) (.cells #[.slice (some ⟨w.heap.size,0,none⟩) 1 1] 31);have h4:=(zvh (w.alloc (.cells #[.int .i64 (n:Nat)] 3)) 31 (.slice (some ⟨w.heap.size,0,none⟩) 1 1)).mono (B':=w.heap.size) (by simp);(have hs1:(w.alloc (.cells #[.int .i64 (n:Nat)] 3)).heap.size=w.heap.size+1:=by simp);rw[hs1]at h4;refine⟨.slice (some ⟨w.heap.size+1,0,none⟩) 1 1,[.slice (some ⟨w.heap.size,0,none⟩) 1 1],rfl,⟨⟨h4,?_⟩,rfl,λ j a b=> ?_,by simp;omega⟩,zaa (zba w _) h3⟩
   ·intro g hg cur e fz hc c hcc z;simp only[Value.ownBlock,Option.some.injEq]at hg;subst hg;rw[<-hs1,heap_alloc_new]at hc;(injection hc with hc);(injection hc with hc _ _);subst hc;simp at hcc;subst hcc;simp
   ·(obtain rfl:j=0:=by simp at a;omega);exact h1.bw h3
 | succ r ih=>
   intro n pp nn w hpp hnn hr hn;subst hpp;subst hnn;obtain⟨F,hF⟩:∃F:Nat->List (List Nat),(λ y=>zag r (n-y))=F:=⟨_,rfl⟩;have HF:=zH hF
   have HTOT:zI ((spl F (n+1)).length<=1000):=zH (by
    rw[<-hF,<-zig];exact zLT (zci hr hn) zD)
   have HLEN:zI (∀x,∀y∈F x,y.length<=100):=zH (λ x y hy=>by
    rw[<-hF]at hy;have:=((zgg _ _ _).1 hy).1;omega)
   clear hF;(have e1:(((r+1+1:Nat):Int)==1)=false:=by simp;omega);go_enter Tryz.func115,Tryz.ntmps115;go_wp2_with fail;go_loopg [5,6] (n+1) (λ g uo ux wr=>∃ (x:Nat) (v:Value) (rs:List Value),x<=n+1/\g=n+1-x/\ux= .int .i64 x/\v=uo/\zfc wr w.heap.size v rs (spl F x)/\Below w.heap.size w wr);case atStart=>exact⟨0,_,[],zZL _,rfl,rfl,rfl,zfc.nil (zLR _),zBR _ _⟩
   case round=>
    obtain⟨x,v,rs,hxn,hg,rfl,rfl,ho,hbr⟩:=hrel;obtain⟨wy,hwy⟩:∃w6,w6=wr:=⟨_,rfl⟩;subst hwy;have HG:=zH hg;have HO:=zH ho;have HBR:=zH hbr;have vsl0:=ho.own.sl;clear hg ho hbr;by_cases hxl:x<=n
    ·have j1:decide (x<=n)=true:=zDT hxl;have HFX:zI (F x=zag r (n-x)):=zH (by rw[<-HF.o]);obtain⟨M,hM⟩:∃M,(F x).length=M:=⟨_,rfl⟩;(have hM2:M<=800:=by rw[<-hM,HFX.o];exact zLT (zci zO zO) zD);have HM:=zH hM;clear hM
     go_upto_region 8 with(first
      |(go_at_call 115;(with_reducible refine(ih (n-x) _ _ _ zO zO zO zO).mono ?_);rintro e3 w3 ⟨vr,rsr,rfl,hr3,hb3⟩
        rw[<-HFX.o]at hr3;have HR3:=zH hr3;have HO3:=zH (HO.o.bw hb3);have HB3:=zH (zaa HBR.o hb3)
        have HD3:zI (vr.ownBlock=none\/vr.ownBlock≠v.ownBlock):=zH (by
         cases h:vr.ownBlock with
         | none=>exact Or.inl rfl
         | some k=>
           (refine Or.inr λ e=> ?_);have h1:=(hr3.own.block k h).1;have h2:=(HO.o.own.block k e.symm).2;omega)
        have rsl0:=hr3.own.sl;clear hr3 hb3))
     obtain⟨wq,hwq⟩:∃q,wy.heap.size=q:=⟨_,rfl⟩;rw[hwq]at HR3;clear hwq HO HBR;go_wp2_with fail;go_loopg [5,8] (M) (λ g uo ui wr=>∃ (i:Nat) (v:Value) (rs:List Value),i<=M/\g=M-i/\ui= .int .i64 i/\v=uo/\zfc wr w.heap.size v rs (spl F x++((F x).take i).map (x:: ·))/\zfc wr wq vr rsr (F x)/\(vr.ownBlock=none\/vr.ownBlock≠v.ownBlock)/\Below w.heap.size w wr);case atStart=>exact⟨0,_,_,zZL _,rfl,rfl,rfl,(by have h:=HO3.o;simpa using h),HR3.o,HD3.o,HB3.o⟩
     case round=>
      obtain⟨i,v,rs,hiM,hg,rfl,rfl,ho,hr,hd,hbr⟩:=hrel;obtain⟨wx,hwx⟩:∃w6,w6=wr:=⟨_,rfl⟩;subst hwx;have HG2:=zH hg;have HO:=zH ho;have HR:=zH hr;have HD:=zH hd;have HBR:=zH hbr;have vsl:=ho.own.sl;have rsl:=hr.own.sl;(have rln:slen vr=M:=by rw[hr.rowsV.len,HM.o]);clear hg ho hr hd hbr HO3 HR3 HD3 HB3;by_cases hil:i<M
      ·(have hif:i<(F x).length:=by rw[HM.o];exact hil);obtain⟨row,hrow,hrv⟩:=HR.o.rowsV.at' i hif;have HNX:=zH (spl_next F x i hif)
       have HPL:zI (rs.length<=1000):=zH (by
        rw[HO.o.rl];exact zLT (spl_part F (lim:=n) zO (zLO hif)) HTOT.o)
       have HRL:zI (((F x)[i]'hif).length<=100):=zH (HLEN.o _ _ (zGM hif));generalize (F x)[i]'hif=u at *
       have HROW:=zH hrow;have HRV:=zH hrv;have i1:(0:Int)<=(i:Int):=zO;have i2:(i:Int)<(M:Nat):=zO;have usl:=hrv.sl;have hsw:w.heap.size<=wx.heap.size:=HO.o.sz;have c9:=zca (zba wx (.cells #[.int .i64 (x:Nat)] 3)) hrow;clear hrow hrv hif
       go_wp2_with (first
        |(at_builtin;refine zmb (wx.alloc (.cells #[.int .i64 (x:Nat)] 3)) rfl _ _ 31 rfl wx.heap.size 3 i3 (.int .i64 0) 8 Tryz.underlying31 hi3 hz3 hs3 hy3 rfl (.slice (some ⟨wx.heap.size,0,none⟩) 1 1) [.int .i64 (x:Nat)] rfl (zvh wx 3 _) row rfl (HRV.o.sl) (u.map zod) (by rw[zMP];exact HRV.o.len) (λ j hj=>zca (zba wx _) (zta.cell HRV.o j hj)) (zun u) (by have:=HRL.o;simp[maxLen];omega) (by have:=HRL.o;simp;omega) (by simp) ?_;intro v5 w5 ho5 hg5 hb5;have hb6:Below wx.heap.size wx w5:=((zBR wx.heap.size wx).alloc (zLR _) _).trans hb5;have ho6:zib w5 3 w.heap.size v5 ((x::u).map zod):=zib.mono ho5 hsw;have HO6:=zH ho6;have hout:=HO.o.bw hb6;have hown:=hout.own;have hpl:rs.length<=1000:=HPL.o;have hsz:=hout.sz;obtain⟨q1,q2,q3,rfl,_⟩:=id ho5.sl;clear ho5 hg5 hb5)
        |(at_builtin;refine zzg (P:=Tryz.prog) 24 31 i4 (.slice none 0 0) 24 Tryz.underlying24 hi4 hz4 hs4 hy4 zD rfl zZ w5 rfl _ _ rfl w.heap.size _ v rs rfl hown (.slice q1 q2 q3) rfl zZ rfl hpl hsz ?_;intro v7 w7 ho7 hg7 hn7 hq7 hs7;have HP:=zH (hout.push HO6.o ho7 hg7);have HR7:=zH ((HR.o.bw hb6).grown hown hg7 HD.o);have HD7:=zH (zrf HD.o (λ g hg=>(HR.o.own.block g hg).2) (zLT hb6.size (zLS _)) hq7);have HB7:=zH ((zaa HBR.o hb6).trans HP.o.2);clear ho7 hg7 hn7 hq7 hout hown hsz))
       go_roundg (M- (i+1));case measure=>(have:=HG2.o;omega)
       case rel=>
        have h:=HP.o.1;rw[<-HNX.o]at h;exact⟨i+1,_,_,zO,rfl,by go_num,rfl,h,HR7.o,HD7.o,HB7.o⟩
      ·obtain rfl:i=M:=zO
       have HFIN:=zH (by
        have h:=HO.o;rw[<-HM.o,spl_all]at h;exact h)
       go_wp2_with fail;go_roundg (n-x);(case measure=>(have:=HG.o;omega));case rel=>exact⟨x+1,_,_,zO,zO,by go_num,rfl,HFIN.o,HBR.o⟩
    ·obtain rfl:x=n+1:=zO;have j1:decide (n+1<=n)=false:=zDF zO;go_wp2_with fail;go_ret;refine⟨_,rs,rfl,?_,HBR.o⟩;rw[zig,HF.o];exact HO.o
set_option maxRecDepth 100000 in
theorem zln (P n m:Nat) (pp nn mm:Int) (w:World) (hpp:pp=(P:Nat)) (hnn:nn=(n:Nat)) (hmm:mm=(m:Nat)) (hP:1<=P) (hP4:P<=4) (hn:n<=8) (hm:m<=n):Calls Tryz.prog 70 #[.int .i64 pp, .int .i64 nn, .int .i64 mm] w (RRows w (zue P n m)):=by
 obtain⟨i3,hi3,hz3,hs3,hy3⟩:=info_parts Tryz.infoInt;obtain⟨i4,hi4,hz4,hs4,hy4⟩:=info_parts Tryz.infoInts;subst hpp;subst hnn;subst hmm;obtain⟨F,hF⟩:∃F:Nat->List (List Nat),(λ y=>zag (P-1) (n-y))=F:=⟨_,rfl⟩;have HF:=zH hF
 have HTOT:zI ((spl F (m+1)).length<=1000):=zH (by
  have h1:(spl F (m+1)).length<=(spl F (n+1)).length:=spl_le F zO
  have h2:(spl F (n+1)).length<=1000:=by
   rw[<-hF,<-zig];exact zbi _ zO n zO
  omega)
 have HLEN:zI (∀x,∀y∈F x,y.length<=100):=zH (λ x y hy=>by
  rw[<-hF]at hy;have:=((zgg _ _ _).1 hy).1;omega)
 clear hF;go_enter Tryz.func70,Tryz.ntmps70;go_wp2_with fail;go_loopg [7,8] (m+1) (λ g uo ux wr=>∃ (x:Nat) (v:Value) (rs:List Value),x<=m+1/\g=m+1-x/\ux= .int .i64 x/\v=uo/\zfc wr w.heap.size v rs (spl F x)/\Below w.heap.size w wr);case atStart=>exact⟨0,_,[],zZL _,rfl,rfl,rfl,zfc.nil (zLR _),zBR _ _⟩
 case round=>
  obtain⟨x,v,rs,hxn,hg,rfl,rfl,ho,hbr⟩:=hrel;obtain⟨wy,hwy⟩:∃w6,w6=wr:=⟨_,rfl⟩;subst hwy;have HG:=zH hg;have HO:=zH ho;have HBR:=zH hbr;have vsl0:=ho.own.sl;clear hg ho hbr;by_cases hxl:x<=m
  ·have j1:decide (x<=m)=true:=zDT hxl;have HFX:zI (F x=zag (P-1) (n-x)):=zH (by rw[<-HF.o]);obtain⟨M,hM⟩:∃M,(F x).length=M:=⟨_,rfl⟩;(have hM2:M<=800:=by rw[<-hM,HFX.o];exact zLT (zci zO zO) zD);have HM:=zH hM;clear hM
   go_upto_region 6 with(first
    |(go_at_call 115;(with_reducible refine(rsplits_any (P-1) (n-x) _ _ _ zO zO zO zO).mono ?_);rintro e3 w3 ⟨vr,rsr,rfl,hr3,hb3⟩
      rw[<-HFX.o]at hr3;have HR3:=zH hr3;have HO3:=zH (HO.o.bw hb3);have HB3:=zH (zaa HBR.o hb3)
      have HD3:zI (vr.ownBlock=none\/vr.ownBlock≠v.ownBlock):=zH (by
       cases h:vr.ownBlock with
       | none=>exact Or.inl rfl
       | some k=>
         (refine Or.inr λ e=> ?_);have h1:=(hr3.own.block k h).1;have h2:=(HO.o.own.block k e.symm).2;omega)
      have rsl0:=hr3.own.sl;clear hr3 hb3))
   obtain⟨wq,hwq⟩:∃q,wy.heap.size=q:=⟨_,rfl⟩;rw[hwq]at HR3;clear hwq HO HBR;go_wp2_with fail;go_loopg [7,10] (M) (λ g uo ui wr=>∃ (i:Nat) (v:Value) (rs:List Value),i<=M/\g=M-i/\ui= .int .i64 i/\v=uo/\zfc wr w.heap.size v rs (spl F x++((F x).take i).map (x:: ·))/\zfc wr wq vr rsr (F x)/\(vr.ownBlock=none\/vr.ownBlock≠v.ownBlock)/\Below w.heap.size w wr);case atStart=>exact⟨0,_,_,zZL _,rfl,rfl,rfl,(by have h:=HO3.o;simpa using h),HR3.o,HD3.o,HB3.o⟩
   case round=>
    obtain⟨i,v,rs,hiM,hg,rfl,rfl,ho,hr,hd,hbr⟩:=hrel;obtain⟨wx,hwx⟩:∃w6,w6=wr:=⟨_,rfl⟩;subst hwx;have HG2:=zH hg;have HO:=zH ho;have HR:=zH hr;have HD:=zH hd;have HBR:=zH hbr;have vsl:=ho.own.sl;have rsl:=hr.own.sl;(have rln:slen vr=M:=by rw[hr.rowsV.len,HM.o]);clear hg ho hr hd hbr HO3 HR3 HD3 HB3;by_cases hil:i<M
    ·(have hif:i<(F x).length:=by rw[HM.o];exact hil);obtain⟨row,hrow,hrv⟩:=HR.o.rowsV.at' i hif;have HNX:=zH (spl_next F x i hif)
     have HPL:zI (rs.length<=1000):=zH (by
      rw[HO.o.rl];exact zLT (spl_part F (lim:=m) zO (zLO hif)) HTOT.o)
     have HRL:zI (((F x)[i]'hif).length<=100):=zH (HLEN.o _ _ (zGM hif));generalize (F x)[i]'hif=u at *
     have HROW:=zH hrow;have HRV:=zH hrv;have i1:(0:Int)<=(i:Int):=zO;have i2:(i:Int)<(M:Nat):=zO;have usl:=hrv.sl;have hsw:w.heap.size<=wx.heap.size:=HO.o.sz;have c9:=zca (zba wx (.cells #[.int .i64 (x:Nat)] 3)) hrow;clear hrow hrv hif
     go_wp2_with (first
      |(at_builtin;refine zmb (wx.alloc (.cells #[.int .i64 (x:Nat)] 3)) rfl _ _ 31 rfl wx.heap.size 3 i3 (.int .i64 0) 8 Tryz.underlying31 hi3 hz3 hs3 hy3 rfl (.slice (some ⟨wx.heap.size,0,none⟩) 1 1) [.int .i64 (x:Nat)] rfl (zvh wx 3 _) row rfl (HRV.o.sl) (u.map zod) (by rw[zMP];exact HRV.o.len) (λ j hj=>zca (zba wx _) (zta.cell HRV.o j hj)) (zun u) (by have:=HRL.o;simp[maxLen];omega) (by have:=HRL.o;simp;omega) (by simp) ?_;intro v5 w5 ho5 hg5 hb5;have hb6:Below wx.heap.size wx w5:=((zBR wx.heap.size wx).alloc (zLR _) _).trans hb5;have ho6:zib w5 3 w.heap.size v5 ((x::u).map zod):=zib.mono ho5 hsw;have HO6:=zH ho6;have hout:=HO.o.bw hb6;have hown:=hout.own;have hpl:rs.length<=1000:=HPL.o;have hsz:=hout.sz;obtain⟨q1,q2,q3,rfl,_⟩:=id ho5.sl;clear ho5 hg5 hb5)
      |(at_builtin;refine zzg (P:=Tryz.prog) 24 31 i4 (.slice none 0 0) 24 Tryz.underlying24 hi4 hz4 hs4 hy4 zD rfl zZ w5 rfl _ _ rfl w.heap.size _ v rs rfl hown (.slice q1 q2 q3) rfl zZ rfl hpl hsz ?_;intro v7 w7 ho7 hg7 hn7 hq7 hs7;have HP:=zH (hout.push HO6.o ho7 hg7);have HR7:=zH ((HR.o.bw hb6).grown hown hg7 HD.o);have HD7:=zH (zrf HD.o (λ g hg=>(HR.o.own.block g hg).2) (zLT hb6.size (zLS _)) hq7);have HB7:=zH ((zaa HBR.o hb6).trans HP.o.2);clear ho7 hg7 hn7 hq7 hout hown hsz))
     go_roundg (M- (i+1));case measure=>(have:=HG2.o;omega)
     case rel=>
      have h:=HP.o.1;rw[<-HNX.o]at h;exact⟨i+1,_,_,zO,rfl,by go_num,rfl,h,HR7.o,HD7.o,HB7.o⟩
    ·obtain rfl:i=M:=zO
     have HFIN:=zH (by
      have h:=HO.o;rw[<-HM.o,spl_all]at h;exact h)
     go_wp2_with fail;go_roundg (m-x);(case measure=>(have:=HG.o;omega));case rel=>exact⟨x+1,_,_,zO,zO,by go_num,rfl,HFIN.o,HBR.o⟩
  ·obtain rfl:x=m+1:=zO;have j1:decide (m+1<=m)=false:=zDF zO;go_wp2_with fail;go_ret;refine⟨_,rs,rfl,?_,HBR.o⟩;rw[zhr,HF.o];exact HO.o
theorem zdl (S:Nat->Rat):∀ (cs:List Nat) (c i d:Nat) (p:Rat),zaf S (cs++ [c]) i d p=zmj (S (i+cs.length)) (d+cs.sum) c (zaf S cs i d p)
 | [],c,i,d,p=>by simp[zaf]
 | x::cs,c,i,d,p=>by
   (show zaf S (cs++ [c]) (i+1) (d+x) _=_);rw[zdl S cs c];(show zmj (S (i+1+cs.length)) (d+x+cs.sum) c _=zmj (S (i+(x::cs).length)) (d+(x::cs).sum) c (zaf S cs (i+1) (d+x) _));rw[List.length_cons,List.sum_cons,show i+1+cs.length=i+(cs.length+1)by omega,show d+x+cs.sum=d+(x+cs.sum)by omega]
theorem Sz.choice {d k:Nat} (hd:d<256) (hk:k<256) (hk0:k≠0):Sz 8 (fq false d k):=⟨false,d,k,hk0,hd,hk,rfl⟩
theorem zyg {s:Rat} (hs:Sz 32 s) {d j:Nat} {p:Rat} (hp:Sz j p):∀k,d+k<256->Sz (j+40*k) (zmj s d k p)
 | 0,_=>hp
 | k+1,h=>by
   have ih:=zyg hs (d:=d) hp k zO;have h1:=(ih.mul (Sz.choice (d:=d+(k+1)) (k:=k+1) h zO zO)).mul hs;exact h1.mono zO
theorem ztq {S:Nat->Rat} (hS:∀i,Sz 32 (S i)):∀ (cs:List Nat) (i d j:Nat) (p:Rat),Sz j p->d+cs.sum<256->Sz (j+40*cs.sum) (zaf S cs i d p)
 | [],i,d,j,p,hp,_=>hp.mono zO
 | c::cs,i,d,j,p,hp,h=>by
   (rw[List.sum_cons]at h |-);have h1:=zyg (hS i) (d:=d) hp c zO;exact(ztq hS cs (i+1) (d+c) _ _ h1 zO).mono zO
theorem lmmake_dk (d k:Nat) (hd:d<256) (hk:k<256) (hk0:k≠0) (dd kk:Int) (h1:dd=(d:Nat)) (h2:kk=(k:Nat)) (w:World):Calls Tryz.prog 100 #[.int .i64 dd, .int .i64 kk] w (RF0 w (fq false d k)):=by
 subst h1;subst h2
 exact(zjk (d:Nat) (k:Nat) w zO zO zO zO zO).mono λ _ _ h=>h.ok (by
  rw[zDF (show ¬ ((d:Nat):Int)<0 by omega),zDF (show ¬ ((k:Nat):Int)<0 by omega)];rfl) ((Sz.choice hd hk hk0).fits zD)
theorem zwj {cs:List Nat} {i:Nat} (h:i<cs.length):(cs.take (i+1)).sum=(cs.take i).sum+cs[i]:=by
 rw[List.take_succ_eq_append_getElem h,List.sum_append];simp
theorem zpg (cs:List Nat) (i:Nat):(cs.take i).sum<=cs.sum:=by
 have h:=congrArg List.sum (List.take_append_drop i cs);rw[List.sum_append]at h;omega
set_option maxRecDepth 100000 in
set_option maxHeartbeats 3200000 in
theorem zvn (vc vst:Value) (cs:List Nat) (sl:List Rat) (w:World) (hc:zjb w vc cs) (hs:znc w vst sl) (hl:cs.length=sl.length) (hl4:cs.length<=8) (hsum:cs.sum<=8) (hsz:∀q∈sl,Sz 32 q):
 Calls Tryz.prog 69 #[vc,vst] w (RF1 w (zaf (λ i=>sl.getD i 0) cs 0 0 1)):=by
 have csl:=hc.sl;have cln:=hc.len;have ssl:=hs.sl;have sln:=hs.len;have hba:=zba w (.cells #[.bool false, .slice none 0 0, .slice none 0 0] 53);have HR:=zH (C3.new w 53 (.bool false) (.slice none 0 0) (.slice none 0 0))
 have HSZ:zI (∀i,Sz 32 ((λ i=>sl.getD i 0) i)):=zH (λ i=>by
  show Sz 32 (sl.getD i 0)
  rcases zOG i sl.length with h | h
  ·rw[zGD,zGE h];exact hsz _ (zGM h)
  ·rw[zGD,List.getElem?_eq_none h];exact⟨false,0,1,zD,zD,zD,by decide+kernel⟩)
 obtain⟨n,hn⟩:∃n,cs.length=n:=⟨_,rfl⟩;rw[hn]at hl hl4 cln;rw[<-hl]at sln;have HC:=zH hc;have HS:=zH hs;have HL:=zH hl;have HN:=zH hn;have HSUM:=zH hsum;have HBA:=zH hba;clear hc hs hl hsz hn hsum hba;go_enter Tryz.func69,Tryz.ntmps69
 go_upto_region 2 with(first
  |(go_at_call 105;(with_reducible refine(zul _).mono ?_);rintro e3 w3 ⟨v3,rfl,hv3,hb3⟩;obtain⟨t3,a31,l31,k31,a32,l32,k32,rfl⟩:=hv3.iF;have hbb:=zba w3 (.cells #[.bool t3, .slice a31 l31 k31, .slice a32 l32 k32] 53);have HP:=zH (C3.new w3 53 (.bool t3) (.slice a31 l31 k31) (.slice a32 l32 k32));have HV:=zH (hv3.bw hbb);have HB3:=zH (zaa HBA.o (zaa hb3 hbb));have HR3:=zH (HR.o.bS (zaa hb3 hbb));have HLT:zI (w.heap.size<w3.heap.size):=zH (zLM HR.o.lt hb3.size);clear hv3 hb3 hbb))
 obtain⟨b5,hb5⟩:∃b,w3.heap.size=b:=⟨_,rfl⟩;rw[hb5]at HP HLT |-
 clear hb5;generalize w3.alloc (.cells #[.bool t3, .slice a31 l31 k31, .slice a32 l32 k32] 53)=W3 at *
 go_wp2_with fail;go_loopg [6,15] (n) (λ g u6 u15 wr=>∃ (i d:Nat) (t:Bool) (a1:Option Addr) (l1 k1:Nat) (a2:Option Addr) (l2 k2:Nat),i<=n/\g=n-i/\u15= .int .i64 i/\u6= .int .i64 d/\d=(cs.take i).sum/\C3 wr b5 (.bool t) (.slice a1 l1 k1) (.slice a2 l2 k2)/\zna wr (.agg #[.bool t, .slice a1 l1 k1, .slice a2 l2 k2]) (zaf (λ i=>sl.getD i 0) (cs.take i) 0 0 1)/\C3 wr w.heap.size (.bool false) (.slice none 0 0) (.slice none 0 0)/\Below w.heap.size w wr);case atStart=>exact⟨0,0,_,_,_,_,_,_,_,zZL _,rfl,rfl,rfl,rfl,HP.o,HV.o,HR3.o,HB3.o⟩
 case round=>
  obtain⟨i,d,t,a1,l1,k1,a2,l2,k2,hin,hg,rfl,rfl,hd,hp,hv,hr,hbr⟩:=hrel;obtain⟨wx,hwx⟩:∃w6,w6=wr:=⟨_,rfl⟩;subst hwx;have HG:=zH hg;have HPP:=zH hp;have HVV:=zH hv;have HRR:=zH hr;have HBR:=zH hbr;have HD:=zH hd;have hd8:d<=8:=by rw[hd];exact zLT (zpg cs i) HSUM.o
  clear hg hp hv hr hbr hd HP HV HR3 HB3;by_cases hil:i<n
  ·(have hic:i<cs.length:=by rw[HN.o];exact hil);have i1:(0:Int)<=(i:Int):=zO;have i2:(i:Int)<(n:Nat):=zO;have cc:=(HC.o.bw HBR.o).at' i hic;have HST:=zH (zwj hic)
   have HMS:zI (zaf (λ i=>sl.getD i 0) (cs.take (i+1)) 0 0 1=zmj (sl.getD i 0) d (cs[i]'hic) (zaf (λ i=>sl.getD i 0) (cs.take i) 0 0 1)):=zH (by
    rw[List.take_succ_eq_append_getElem hic,zdl,Nat.zero_add,Nat.zero_add,<-HD.o];simp[Nat.min_eq_left (zLO hic)])
   have hdm:d+cs[i]'hic<=8:=by
    have h:=HST.o;rw[<-HD.o]at h;rw[<-h];exact zLT (zpg cs (i+1)) HSUM.o
   generalize cs[i]'hic=m at *
   have HSI:zI (Sz 32 (sl.getD i 0)):=zH (HSZ.o i)
   have HSP:zI (Sz (1+40*d) (zaf (λ i=>sl.getD i 0) (cs.take i) 0 0 1)):=zH (by
    have h:=ztq HSZ.o (cs.take i) 0 0 1 1 Sz.one (by rw[<-HD.o];omega);rw[<-HD.o]at h;exact h)
   have HSA:zI (∃t a b,w.cell? (ptr vst (i*3))=some (.bool t)/\w.cell? (ptr vst (i*3+1))=some a/\w.cell? (ptr vst (i*3+2))=some b/\zlb a/\zlb b/\zmf w (.agg #[.bool t,a,b]) (sl.getD i 0)):=zH (by
    (have hi2:i<sl.length:=by rw[<-HL.o];exact hil);have h:=HS.o.at' i hi2;rw[zGD,zGE hi2];exact h)
   generalize sl.getD i 0=s at *
   generalize zaf (λ i=>sl.getD i 0) (cs.take i) 0 0 1=q at *
   clear hic;go_wp2_with fail;go_loopg [6,9] (m) (λ g u6 u9 wr=>∃ (k:Nat) (t:Bool) (a1:Option Addr) (l1 k1:Nat) (a2:Option Addr) (l2 k2:Nat),k<=m/\g=m-k/\u9= .int .i64 ((k+1:Nat):Int)/\u6= .int .i64 ((d+k:Nat):Int)/\C3 wr b5 (.bool t) (.slice a1 l1 k1) (.slice a2 l2 k2)/\zna wr (.agg #[.bool t, .slice a1 l1 k1, .slice a2 l2 k2]) (zmj s d k q)/\C3 wr w.heap.size (.bool false) (.slice none 0 0) (.slice none 0 0)/\Below w.heap.size w wr);case atStart=>exact⟨0,_,_,_,_,_,_,_,zZL _,rfl,rfl,rfl,HPP.o,HVV.o,HRR.o,HBR.o⟩
   case round=>
    obtain⟨k,t',a1',l1',k1',a2',l2',k2',hkm,hg,rfl,rfl,hp,hv,hr,hbr⟩:=hrel;obtain⟨wy,hwy⟩:∃w6,w6=wr:=⟨_,rfl⟩;subst hwy;have HG2:=zH hg;have HP2:=zH hp;have HV2:=zH hv;have HR2:=zH hr;have HB2:=zH hbr;clear hg hp hv hr hbr;by_cases hkl:k<m
    ·have j1:decide (k+1<=m)=true:=zDT hkl;have HF1:zI (fits (zmj s d k q*fq false (d+(k+1)) (k+1))):=zH (((zyg HSI.o HSP.o k zO).mul (Sz.choice (d:=d+(k+1)) (k:=k+1) zO zO zO)).fits zO);have HF2:zI (fits (zmj s d k q*fq false (d+(k+1)) (k+1)*s)):=zH ((zyg HSI.o HSP.o (k+1) zO).fits zO);have HF0:zI (fits (zmj s d k q)):=zH ((zyg HSI.o HSP.o k zO).fits zO);have HFC:zI (fits (fq false (d+(k+1)) (k+1))):=zH ((Sz.choice (d:=d+(k+1)) (k:=k+1) zO zO zO).fits zD)
     go_upto_region 11 with(first
      |(go_at_call 100;(with_reducible refine(lmmake_dk (d+(k+1)) (k+1) zO zO zO _ _ zO zO _).mono ?_);rintro e3 w3 ⟨v3,rfl,hv3,hb3⟩;obtain⟨t4,a41,l41,k41,a42,l42,k42,rfl⟩:=hv3.iF;have hbb:=zba w3 (.cells #[.bool t4, .slice a41 l41 k41, .slice a42 l42 k42] 53);have HC4:=zH (C3.new w3 53 (.bool t4) (.slice a41 l41 k41) (.slice a42 l42 k42));have HV4:=zH (hv3.bw hbb);have HP4:=zH (HP2.o.bS (zaa hb3 hbb));have HVP4:=zH (HV2.o.bw (zaa hb3 hbb));have HR4:=zH (HR2.o.bS (zaa hb3 hbb));have HB4:=zH (zaa HB2.o (zaa hb3 hbb));clear hv3 hb3 hbb))
     obtain⟨b4,hb4⟩:∃b,w3.heap.size=b:=⟨_,rfl⟩;(rw[hb4]at HC4 |-);clear hb4;generalize w3.alloc (.cells #[.bool t4, .slice a41 l41 k41, .slice a42 l42 k42] 53)=W4 at *
     obtain⟨ts,as1,bs1,z0,z1,z2,⟨sa1,sl1,sk1,rfl,_⟩,⟨sa2,sl2,sk2,rfl,_⟩,hsv⟩:=HSA.o;replace z0:=zca HB4.o z0;replace z1:=zca HB4.o z1;replace z2:=zca HB4.o z2;have HSV:=zH (hsv.bw HB4.o);obtain⟨-,p0,p1,p2,-,-,-⟩:=HP4.o;obtain⟨-,c0,c1,c2,-,-,-⟩:=HC4.o;clear hsv;refine wpL.st9 8 p0 p1 p2 c0 c1 c2 z0 z1 z2 (λ wd hbD hHeld=> ?_);have HPD:=zH (HP4.o.bS hbD);have HVD:=zH (HVP4.o.bw hbD);have HCD:=zH (HV4.o.bw hbD);have HSD:=zH (HSV.o.bw hbD);have HRD:=zH (HR4.o.bS hbD);have HBD:=zH (zaa HB4.o hbD);clear p0 p1 p2 c0 c1 c2 z0 z1 z2 hbD;refine zY 0 ?_;refine zY 1 ?_;refine zU 3 ?_;refine zU 4 ?_;refine zU 5 ?_;refine zY 6 ?_;(refine zCF 2 49 #[.agg #[.bool t', .slice a1' l1' k1', .slice a2' l2' k2'], .agg #[.bool t4, .slice a41 l41 k41, .slice a42 l42 k42]] (ztg _ _ _ _ _ (HVD.o.toV HF0.o) (HCD.o.toV HFC.o) HF1.o) λ t5 a51 l51 k51 a52 l52 k52 w5 hv5 hb5=>⟨kcl9 hb5 hHeld,λ hH5=> ?_⟩);have HSE:=zH (HSD.o.bw hb5);have HPE:=zH (HPD.o.bS hb5);have HRE:=zH (HRD.o.bS hb5);have HBE:=zH (zaa HBD.o hb5);clear hHeld HPD HVD HCD HSD HRD HBD;(refine zCF 7 49 #[.agg #[.bool t5, .slice a51 l51 k51, .slice a52 l52 k52], .agg #[.bool ts, .slice sa1 sl1 sk1, .slice sa2 sl2 sk2]] (ztg _ _ _ _ _ (hv5.toV HF1.o) HSE.o HF2.o) λ t6 a61 l61 k61 a62 l62 k62 w6 hv6 hb6=>⟨kcl9 hb6 hH5,λ hH6=> ?_⟩);have HPF:=zH (HPE.o.bS hb6);have HRF:=zH (HRE.o.bS hb6);have HBF:=zH (zaa HBE.o hb6);have HV6:=zH hv6;clear hH5 HPE HRE HBE HSE hv5 hb5 hv6 hb6;obtain⟨-,g0,g1,g2,k3,k4,k5⟩:=HPF.o;(refine zW 8 ?_;intro K hK);rw[zIP (by rfl)];go_simp;have HE:=zH (zAI (HPF.o.set (.bool t6) (.slice a61 l61 k61) (.slice a62 l62 k62)) (zAI (HV6.o.set3 HPF.o zZ zZ (.bool t6) (.slice a61 l61 k61) (.slice a62 l62 k62)) (zAI (HRF.o.set_other (Nat.ne_of_lt HLT.o) (.bool t6) (.slice a61 l61 k61) (.slice a62 l62 k62)) (zea HBF.o (zLO HLT.o) (.bool t6) (.slice a61 l61 k61) (.slice a62 l62 k62)))));refine hK.o _ _ (λ h=>by first | cases h | simp at h) ?_;clear hK K hH6 g0 g1 g2 k3 k4 k5;refine wpL.done (by kernel_rfl) ?_ _;go_wp2_with fail;go_roundg (m- (k+1));(case measure=>(have:=HG2.o;omega));case rel=>exact⟨k+1,_,_,_,_,_,_,_,zO,rfl,by go_num,by go_num,HE.o.1,HE.o.2.1,HE.o.2.2.1,HE.o.2.2.2⟩
    ·obtain rfl:k=m:=zO;have j1:decide (k+1<=k)=false:=zDF zO;go_wp2_with fail;go_roundg (n- (i+1));(case measure=>(have:=HG.o;omega));case rel=>exact⟨i+1,d+k,_,_,_,_,_,_,_,zO,rfl,by go_num,rfl,by rw[HST.o,<-HD.o],HP2.o,by rw[HMS.o];exact HV2.o,HR2.o,HB2.o⟩
  ·obtain rfl:i=n:=zO;have hall:cs.take i=cs:=zTL (by rw[HN.o];exact zLR _);have HV7:zI (zna wx (.agg #[.bool t, .slice a1 l1 k1, .slice a2 l2 k2]) (zaf (λ i=>sl.getD i 0) cs 0 0 1)):=zH (by have h:=HVV.o;rw[hall]at h;exact h);obtain⟨-,p0,p1,p2,-,-,-⟩:=HPP.o;obtain⟨-,g0,g1,g2,k3,k4,k5⟩:=HRR.o;clear hall;go_wp2_with fail;refine zab rfl rfl Tryz.aggF Tryz.sizeF (HRR.o.set _ _ _) rfl ?_;exact⟨_,rfl,HV7.o.set3 HRR.o zZ zZ _ _ _,zea HBR.o (zLR _) _ _ _⟩
end Go.Proofs.YtkpedaflofejnaaGreat
