/- Lemmas. -/
import Derived.Test.YtlpdkbmmbdfoiaaGreatEMath7
set_option linter.unusedVariables false
set_option linter.unusedSimpArgs false
namespace Go.Proofs.YtlpdkbmmbdfoiaaGreat
set_option maxRecDepth 100000
open Go.RowKit
def IsN (w:World) (v:Value):Prop:=∃l,zfc w v l/\l.length<=65536
theorem app_ex (w:World) (v:Value) (l:List Nat) (h:zfc w v l) (hl:l.length<=65536):
 ∃v' w',(Builtin.append_ #[36,36] 36 #[.slice none 0 0,v]).run Tryz.prog w= .ok v' w'/\zcc w' 142 w.heap.size v' l/\Below w.heap.size w w':=by
 obtain⟨i0,hi,hz0,hz1,hz2⟩:=info_parts Tryz.info102
 obtain⟨v',w',h1,h2,h3⟩:=zlj (P:=Tryz.prog) w w.heap.size 36 36 142 i0 (.int .u32 0) 4 Tryz.underlying36 hi hz0 hz1 hz2 rfl (.slice none 0 0) [] (zce.nil _ _ _) v h.sl (l.map u32V) (by rw[h.len,List.length_map])
  (fun j hj=>by rw[h.cell j (by simpa using hj)];simp[u32V]) (fun u hu=>by obtain⟨x,_,rfl⟩:=List.mem_map.1 hu;rfl) (by simp only[List.length_nil,List.length_map,Nat.zero_add];unfold maxLen;omega) (by simp only[List.length_nil,List.length_map,Nat.zero_add];omega) (zLR _)
 exact⟨v',w',h1,⟨by simpa using h2,h.lm⟩,zna h3 (zLR _) (fun k hk=>by simp[Value.ownBlock]at hk)⟩
open Classical in
noncomputable def appVW (w:World) (v:Value):Value×World:=if h:∃p:Value×World,(Builtin.append_ #[36,36] 36 #[.slice none 0 0,v]).run Tryz.prog w= .ok p.1 p.2 then h.choose else(v,w)
noncomputable def appV (w:World) (v:Value):Value:=(appVW w v).1
noncomputable def appW (w:World) (v:Value):World:=(appVW w v).2
theorem zck {w:World} {v v':Value} {w':World} (h:(Builtin.append_ #[36,36] 36 #[.slice none 0 0,v]).run Tryz.prog w= .ok v' w'):appV w v=v'/\appW w v=w':=by
 have h2:∃p:Value×World,(Builtin.append_ #[36,36] 36 #[.slice none 0 0,v]).run Tryz.prog w= .ok p.1 p.2:=⟨(v',w'),h⟩
 have h3:=h.symm.trans h2.choose_spec
 injection h3 with h4 h5
 unfold appV appW appVW
 rw[dif_pos h2]
 exact⟨h4.symm,h5.symm⟩
theorem run_app (w:World) (v:Value) (h:IsN w v):(Builtin.append_ #[36,36] 36 #[.slice none 0 0,v]).run Tryz.prog w= .ok (appV w v) (appW w v):=by
 obtain⟨l,h1,h2⟩:=h
 obtain⟨v',w',h3,h4,h5⟩:=app_ex w v l h1 h2
 rw[h3,(zck h3).1,(zck h3).2]
theorem ztj {ops:Array Oper} {d x:Tmp} {pos:String} {af:Array Edge} {a:Act} {w:World} {K:Act->World->Prop} {Q:Exit->Act->World->Prop} {E:Prop} (v:Value) (hv:a.eval (.tmp x)=v) (h:IsN w v)
 (hK:K (a.put (some d) (appV w v)) (appW w v)):
 if Region.wanted ⟨some d, .call { callee:= .builtin .append,args:=#[.const (.slice none 0 0), .tmp x],argTypes:=#[36,36] },36,pos,af,none⟩ (yielded ops a.tmps)=true then
  Oper.wp Tryz.prog ⟨some d, .call { callee:= .builtin .append,args:=#[.const (.slice none 0 0), .tmp x],argTypes:=#[36,36] },36,pos,af,none⟩ a w K Q else E:=by
 rw[if_pos (by simp[Region.wanted])]
 have h2:=run_app w v h
 have h3:a.eval (.const (.slice none 0 0))= .slice none 0 0:=rfl
 unfold Oper.wp execOp
 simp only[resolve,invoke,builtin,Sem.run_bind,Sem.run_pure,Result.andThen_ok,List.map_toArray,List.map_cons,List.map_nil,h3,hv,h2]
 exact hK
theorem zbo (w:World) (v:Value) (l:List Nat) (h:zfc w v l) (hl:l.length<=65536):zcc (appW w v) 142 w.heap.size (appV w v) l/\Below w.heap.size w (appW w v):=by
 obtain⟨v',w',h3,h4,h5⟩:=app_ex w v l h hl
 rw[(zck h3).1,(zck h3).2]
 exact⟨h4,h5⟩
theorem zaj {w:World} {e:TypeId} {B:Nat} {v:Value} {A p C:List Nat} (h:zcc w e B v (A++p++C)) (i:Nat) (hi:i<p.length):
 w.cell? (ptr v (A.length+i))=some (.int .u32 (p[i]:Nat))/\w.frozen? (ptr v (A.length+i))=false:=by
 have h1:=h.nat.cell (A.length+i) (by simp;omega)
 have h2:=zxe A p C i hi
 obtain⟨h3,h4⟩:=List.getElem?_eq_some_iff.1 h2
 rw[h4]at h1
 exact⟨h1,h.frozen (A.length+i) h3⟩
theorem zqf {w:World} {e:TypeId} {B:Nat} {v:Value} {A p C:List Nat} (h:zcc w e B v (A++p++C)) (j:Nat) (hj:j<p.length) (x:Nat) (hx:x<4294967296):
 zcc (w.setCell (ptr v (A.length+j)) (.int .u32 (x:Nat))) e B v (A++p.set j x++C)/\Below B w (w.setCell (ptr v (A.length+j)) (.int .u32 (x:Nat))):=by
 have h1:=h.set (A.length+j) (by simp;omega) x hx
 rw[zhk A p C j x hj]at h1
 exact h1
theorem zzn (w:World) (o:Obj):Below w.heap.size w (w.alloc o):=(Below.refl w.heap.size w).alloc (zLR _) o
theorem rcmp_gt (va vb:Value) (m n:Nat) (w:World) (ha:zob w va m) (hb:zob w vb n) (h:n<m):
 Calls Tryz.prog 77 #[va,vb] w fun e w'=>(∃c:Int,e= .returned (.int .i64 c)/\decide (0<c)=true)/\Below w.heap.size w w':=
 (zee va vb m n w ha hb).mono fun _ _ ⟨a,b⟩=>⟨⟨_,a,by rw[zul h];rfl⟩,b⟩
theorem rcmp_le (va vb:Value) (m n:Nat) (w:World) (ha:zob w va m) (hb:zob w vb n) (h:m<=n):
 Calls Tryz.prog 77 #[va,vb] w fun e w'=>(∃c:Int,e= .returned (.int .i64 c)/\decide (0<c)=false)/\Below w.heap.size w w':=
 (zee va vb m n w ha hb).mono fun _ _ ⟨a,b⟩=>⟨⟨_,a,by unfold zfj;split<;>(first | rfl | (rw[if_neg (by omega)];rfl))⟩,b⟩
set_option maxHeartbeats 4000000 in
theorem rdivide_long (va vb:Value) (m n:Nat) (w:World) (ha:zjb w va m) (hb:zjb w vb n) (h:n<=m) (hn:2<=zda n) (hm:zda m<=512):
 Calls Tryz.prog 196 #[va,vb] w (RDiv w m n):=by
 have hnm:=zfb h
 have hn0:n≠0:=fun e=>by rw[e,zzc]at hn;omega
 have HMl:=zH (show(zla m).length<=65536 by have:=hm;unfold zda at this;omega)
 have HNl:=zH (show(zla n).length<=65536 by have:=hm;have:=hnm;unfold zda at *;omega)
 obtain⟨s,hs⟩:∃s,s=32*zda n-zua n:=⟨_,rfl⟩
 obtain⟨hs32,hbn,hnY,top,htop1,htop2⟩:=norm2 hn0 hs
 have hXY:2^s*n<=2^s*m:=zML _ h
 have hLX:zda (2^s*m)<=513:=by
  rw[zzb]
  have h1:=zhe m
  have h2:=zzu hm
  have h3:2^s<=2^32:=Nat.pow_le_pow_right (by decide) (by omega)
  rw[show(2:Nat)^32=4294967296 from by decide]at h3
  rw[zmb 512]
  exact Nat.mul_lt_mul_of_le_of_lt h3 (zLM h1 h2) (by decide)
 have hLN:=zfb hXY
 rw[hnY]at hLN
 have hbeg:=div_begin (m:=2^s*m) (n:=2^s*n) (s:=0) (Nat.mul_ne_zero (Nat.ne_of_gt (Nat.pow_pos (by decide))) hn0) hXY
 rw[Nat.pow_zero,Nat.one_mul,Nat.one_mul,hnY]at hbeg
 have hread:=fun(q o:Nat)=>div_read (m:=m) (n:=n) (s:=s) (q:=q) (o:=o) (V:=2^s*n) hn0 rfl
 have hY0:0<2^s*n:=Nat.pos_of_ne_zero (Nat.mul_ne_zero (Nat.ne_of_gt (Nat.pow_pos (by decide))) hn0)
 have HSI:Hid (32*((zda n:Nat):Int)- ((zua n:Nat):Int)=(s:Int)):=zH (by omega)
 have HSS:Hid (s<=65536):=zH (by omega)
 obtain⟨X,hX⟩:∃X,2^s*m=X:=⟨_,rfl⟩
 obtain⟨Y,hY⟩:∃Y,2^s*n=Y:=⟨_,rfl⟩
 rw[hX]at hXY hLX hLN hbeg hread
 rw[hY]at hXY hnY htop1 hbeg hread hY0
 obtain⟨M,hMl⟩:∃M,zda X+1=zda n+M:=⟨zda X+1-zda n,by omega⟩
 rw[show zda X+1-zda n=M from by omega]at hbeg
 have hM1:1<=M:=by omega
 have hM2:M<=514:=by omega
 have HMl2:=zH hMl
 have HXE:=zH hX
 have HYE:=zH hY
 have HREAD:=zH hread
 have HBEG:=zH hbeg
 have HTOP:=zH (And.intro htop1 htop2)
 have HXY:=zH (And.intro hXY hY0)
 have HNY:=zH hnY
 clear hMl hX hY hread hbeg htop1 htop2 hXY hs hbn hY0
 have sa:=ha.v.sl
 have la:slen va=zda m:=ha.v.len
 have sb:=hb.v.sl
 have lb:slen vb=zda n:=hb.v.len
 have hn1:(((zda n:Nat):Int)==1)=false:=by simp;omega
 have HH:=zH (And.intro h (And.intro hm hs32))
 have hmb:zda m<=4294967296:=by omega
 have hnb:zda n<=512:=by omega
 have hbits:zua n<=32*zda n:=(norm2 hn0 rfl).2.1
 clear hm hs32
 obtain⟨i0,hi,hz0,hz1,hz2⟩:=info_parts Tryz.info102
 have hM:=zmd (P:=Tryz.prog) 36 142 i0 Tryz.underlying36 hi hz0 hz1 hz2
 have hA:=zkj (P:=Tryz.prog) 36 142 i0 Tryz.underlying36 hi hz0 hz1 hz2
 clear hi hz0 hz1 hz2
 go_enter Tryz.func196,Tryz.ntmps196
 go_wp2_with (first
  |(go_at_call 77;refine(rcmp_ge va vb m n _ ha.nat hb.nat h).mono ?_;rintro e w1 ⟨⟨c,rfl,hc⟩,hb1⟩)
  |(go_at_call 207;refine(zsq vb n _ (hb.nat.below hb1)).mono ?_;rintro e w2 ⟨rfl,hb2⟩;have hbw2:=zaa hb1 hb2))
 rw[HSI.out]
 clear hbits HSI hc
 have hax:=(ha.below hbw2).v
 have HCAP:Hid (∀ (wx:World) (v:Value),zcc wx 142 w.heap.size v (zla X++ [0,0])->zda X+1<=scap v):=zH (fun wx v hv=>by
  have h1:=hv.nat.sl.le
  have h2:slen v=zda X+2:=by rw[hv.nat.len];simp[zda]
  omega)
 have HYT:Hid (∀ (wx:World) (v:Value),zjb wx v Y->wx.cell? (ptr v (zda n-1))=some (.int .u32 (top:Nat))):=zH (fun wx v hv=>by
  obtain⟨h1,h2⟩:=List.getElem?_eq_some_iff.1 HTOP.out.1
  rw[<-h2];exact hv.v.cell _ h1)
 have ht32:top<4294967296:=by
  obtain⟨h1,h2⟩:=List.getElem?_eq_some_iff.1 HTOP.out.1
  rw[<-h2];exact zrb Y _ (zGM _)
 have tok1:True:=trivial
 have tok2:True:=trivial
 have tok3:True:=trivial
 have hroomX:(zla X).length+ [0,0].length<=35184372088832:=by show zda X+2<=_;omega
 have HRX:=zH hroomX
 clear hroomX
 go_wp2_with (first
  |(go_at_call 216;have _t:=tok1;refine(rup_own va (zla m) s _ hax HMl.out HSS.out).mono ?_;rw[zha,HXE.out];rintro e w3 ⟨x0,rfl,hx0,hx02,hb3⟩;clear tok1 _t;have hbw3:=zaa hbw2 hb3)
  |(at_builtin;go_loud (refine hA _ rfl _ _ rfl w.heap.size x0 (zla X) rfl (by exact(hx0.mono hbw2.size).below (zzn _ _)) _ rfl [0,0] (by exact zal _ _ 0 0 (by decide) (by decide)) HRX.out (by exact zLT hbw3.size (zzn _ _).size) ?_);intro xv w4 hxv _ hb4;have hbw4:=(hbw3.trans ((zzn _ _).mono hbw3.size)).trans hb4)
  |(go_at_call 216;have _t:=tok2;refine(rup_own vb (zla n) s _ (hb.v.below hbw4) HNl.out HSS.out).mono ?_;rw[zha,HYE.out];rintro e w5 ⟨yv,rfl,hyv,hyv2,hb5⟩;have hbw5:=zaa hbw4 hb5;clear tok2 _t)
  |(go_at_call 216;have _t:=tok3;refine(rup_any va (zla m) s _ (ha.v.below hbw5) HMl.out HSS.out).mono ?_;rw[zha,HXE.out];rintro e w6 ⟨x2,rfl,hx2,hb6⟩;have sx2:=hx2.v.sl;have lx2:slen x2=zda X:=hx2.v.len;have hb56:=zaa hb5 hb6;have hx6:=hxv.below hb56;have hy6:zjb w6 yv Y:=⟨(hyv.below hb6).nat,hyv2⟩;have hbw6:=hbw4.trans (hb56.mono hbw4.size);have sxv:=hx6.nat.sl;have cxv:zda X+1<=scap xv:=HCAP.out _ _ hx6;have cxv1:zda X<scap xv:=cxv;have cxv2:(zda X:Int)+1<=scap xv:=(by omega);have cxv3:(0:Int)<=(zda X:Int)+1:=(by omega);have stk:=sxv.tk cxv;have ltk:=sxv.slen_tk (zda X+1);have syv:=hy6.v.sl;have lyv:slen yv=zda n:=hy6.v.len.trans HNY.out;have hyt:=(HYT.out _ _ hy6);clear tok3 _t)
  |(refine hM _ rfl _ _ rfl w.heap.size _ M (by have:=HMl2.out;omega) rfl rfl (by omega) (by exact hbw6.size) ?_;intro qv w7 hqv hb7 hqb;have sqv:=hqv.nat.sl;have lqv:slen qv=M:=hqv.nat.len.trans (by simp)))
 have hbw7:=hbw6.trans (hb7.mono hbw6.size)
 have hx7:=hx6.below hb7
 have hy7:=hy6.below hb7
 have hxbl:=hxv.block (by simp)
 have hybl:=hyv.block (by show 0<zda Y;omega)
 have hne1:(base xv).block<(base yv).block:=by omega
 have hne2:(base yv).block<(base qv).block:=by have:=hb6.size;omega
 have hqlt:=(hqv.block (by simp;omega)).2
 have HNE:=zH (And.intro hne1 hne2)
 have hty:top<=top/\pw (zda n-1)*top<=Y:=by
  obtain⟨h1,h2⟩:=List.getElem?_eq_some_iff.1 HTOP.out.1
  have:=top_le (l:=zla Y) (N:=zda n) HNY.out (by omega)
  rw[zha]at this
  rw[<-h2];exact⟨zLR _,this⟩
 have HTY:=zH hty.2
 have hL:zda X+1<=514:=by omega
 clear hxv hyv hx6 hy6 hx0 hx2 hb1 hb2 hb3 hb4 hb5 hb6 hb7 hb56 hbw2 hbw3 hbw4 hbw5 hbw6 hax cxv cxv1 cxv2 cxv3 hyt hxbl hybl hne1 hne2 hty hqb hyv2 hx02 sx2 lx2 hLX hLN hnm hmb hn1 la lb sa sb
 go_loopw [15] (fun u15 wr=>∃ (k:Nat) (o qd:List Nat),k<=M/\u15= .int .i64 ((k:Int)-1)/\zcc wr 142 w.heap.size xv o/\o.length=zda X+2/\zcc wr 142 w.heap.size qv qd/\qd.length=M/\zjb wr yv Y/\
  X=Y*pw k*val (qd.drop k)+val o/\val o<Y*pw k/\Below w.heap.size w wr/\(base qv).block<wr.heap.size) (fun u15 _=>(intOf u15+1).toNat)
 case atStart=>exact⟨M,zla X++ [0,0],_,zLR _,rfl,hx7,by simp[zda],hqv,by simp,hy7,by rw[List.drop_of_length_le (by simp),zac,zha];simp[val],by rw[zac,zha];simp only[val];exact HBEG.out,hbw7,hqlt⟩
 case round=>
  have hMl:=HMl2.out
  obtain⟨k,o,qd,hk,rfl,hx,hol,hq,hqdl,hy,hval,hlt,hbr,hqb⟩:=hrel
  clear hx7 hqv hy7 hbw7 hqlt
  by_cases hk0:0<k
  ·obtain⟨j,rfl⟩:∃j,k=j+1:=⟨k-1,by omega⟩
   rw[show(((j+1:Nat):Int)-1)=(j:Int)from by omega]
   obtain⟨o1,o2,o3,o4⟩:=znk (o:=o) (j:=j) (n:=zda n) (V:=Y) (by omega) hx.lm (by rw[<-HNY.out];exact zhe Y) (by rw[<-zmb];exact hlt) (by omega)
   have hAl:(o.take j).length=j:=by rw[List.length_take];omega
   have hpl:((o.drop j).take (zda n+1)).length=zda n+1:=by rw[List.length_take,List.length_drop];omega
   have hpt:((o.take (zda X+1)).drop j).take (zda n+1)=(o.drop j).take (zda n+1):=by
    rw[List.drop_take,List.take_take,Nat.min_eq_left (by omega)]
   generalize o.take j=A at *
   generalize (o.drop j).take (zda n+1)=p at *
   generalize o.drop (j+(zda n+1))=C at *
   subst hAl
   have hwin:=window_top hpl (by omega) (fun x hx'=>hx.lm x (by rw[o1];simp[hx']))
   have HGG:=zH (fun t ht=>guess_ge (t:=t) (Q:=val p/Y) (hwin.1.trans ht) hwin.2 HTY.out rfl (by have:=HTOP.out.2;omega))
   subst o1
   obtain⟨hc1,hf1⟩:=zaj hx (zda n) (by omega)
   obtain⟨hc0,hf0⟩:=zaj hx (zda n-1) (by omega)
   have a1:p[zda n]'(by omega)<4294967296:=hx.lm _ (by simp)
   have a0:p[zda n-1]'(by omega)<4294967296:=hx.lm _ (by simp)
   rw[show A.length+(zda n-1)=A.length+zda n-1 from by omega]at hc0
   have hor:=or_lo _ _ a1 a0
   have HGT:=zH (HGG.out _ rfl)
   have hQ32:val p/Y<4294967296:=by rw[Nat.div_lt_iff_lt_mul HXY.out.2,Nat.mul_comm];exact o3
   have HQ32:=zH hQ32
   have HO2:=zH o2
   have HO4:=zH o4
   have HPL:=zH hpl
   have HPT:=zH hpt
   have HV:=zH hval
   have HOL:=zH hol
   have HQL:=zH hqdl
   have hjN:A.length+zda n+1<=zda X+1:=by omega
   have ht2:2147483648<=top:=HTOP.out.2
   generalize p[zda n]'(by omega)=x1 at *
   generalize p[zda n-1]'(by omega)=x0' at *
   clear hMl o2 o3 o4 hpl hpt hval hol hqdl hf1 hf0 hwin HGG hQ32 hlt
   have e1:IntKind.i64.wrap ((A.length:Int)+(zda n:Nat))=(A.length:Int)+(zda n:Nat):=IntWalk.i64_in _ (by omega)
   have e2:((A.length:Int)+(zda n:Nat)).toNat=A.length+zda n:=by omega
   have e3:(0:Int)<=(A.length:Int)+(zda n:Nat):=by omega
   have e4:(A.length:Int)+(zda n:Nat)<((zda X+1:Nat):Int):=by omega
   have e5:IntKind.i64.wrap ((A.length:Int)+(zda n:Nat)-1)=(A.length:Int)+(zda n:Nat)-1:=IntWalk.i64_in _ (by omega)
   have e6:((A.length:Int)+(zda n:Nat)-1).toNat=A.length+zda n-1:=by omega
   have e7:(1:Int)<=(A.length:Int)+(zda n:Nat):=by omega
   have e8:(A.length:Int)+(zda n:Nat)-1<((zda X+1:Nat):Int):=by omega
   have e9:IntKind.u64.wrap ((x1:Int)*4294967296)=(x1:Int)*4294967296:=by rw[zyb];omega
   go_wp2_with fail
   go_quiet (fail)
   clear e1 e2 e3 e4 e5 e6 e7 e8 e9 hor hc1 hc0
   rw[show((x1:Int)*4294967296+(x0':Int))=((x1*4294967296+x0':Nat):Int)from by omega]
   have ht64:x1*4294967296+x0'<18446744073709551616:=by omega
   generalize x1*4294967296+x0'=t at *
   have hx:=hx.drawn nq
   have hq:=hq.drawn nq
   have hy:=hy.drawn nq
   have hbr:=hbr.trans ((zka wr nq).mono hbr.size)
   have hqb:=zLM hqb (zka (B:=wr.heap.size) wr nq).size
   generalize wr.drewN nq=W at *
   have HGT2:=fun(g:Nat)=>zH (guess_gt (Y:=Y) (g:=g) (V:=val p) (Q:=val p/Y) HXY.out.2 rfl)
   have HQE:=zH (rfl:val p/Y=val p/Y)
   obtain⟨Q,hQ⟩:∃Q,val p/Y=Q:=⟨_,rfl⟩
   rw[hQ]at HGT HQ32 HGT2
   have HQ:=zH hQ
   clear hQ HQE
   have hw:IntKind.u64.wrap ((t:Int)/(top:Int))=((t/top:Nat):Int):=by
    rw[<-Int.natCast_ediv,zyb]
    have h5:t/top<=t:=Nat.div_le_self _ _
    generalize t/top=z at *
    omega
   have YL:Hid ((zla Y).length<=65536):=zH (by have h5:=HNY.out;unfold zda at h5;unfold zda at hnb;omega)
   have PL:Hid (p.length<=65536):=zH (by have h5:=HPL.out;omega)
   have PL2:Hid (([]:List Nat).length+p.length<=35184372088832):=zH (by have h5:=PL.out;rw[List.length_nil];omega)
   have HCUT:Hid (∀wi:World,Below W.heap.size W wi->Hid (zfc wi (cut 1 (tk xv (zda X+1)) A.length (A.length+zda n+1)) p)):=zH (fun wi hwi=>zH (by
    have h5:=(hx.below hwi).nat.tk (zda X+1) (by have:=HOL.out;omega)
    have h6:=h5.cut A.length (A.length+zda n+1) (by omega) (by rw[List.length_take];have:=HOL.out;omega)
    rw[show A.length+zda n+1-A.length=zda n+1 from by omega,HPT.out]at h6
    exact h6))
   have HQB:Hid (Q<=4294967295):=zH (by have h5:=HQ32.out;omega)
   have G0:=HGT.out
   have HG0:=zH G0
   clear G0 HGT
   generalize t/top=G0 at *
   have e1:IntKind.i64.wrap ((A.length:Int)+(zda n:Nat))=(A.length:Int)+(zda n:Nat):=IntWalk.i64_in _ (by omega)
   have e2:IntKind.i64.wrap ((A.length:Int)+(zda n:Nat)+1)=(A.length:Int)+(zda n:Nat)+1:=IntWalk.i64_in _ (by omega)
   have e3:((A.length:Int)+(zda n:Nat)+1).toNat=A.length+zda n+1:=by omega
   have e4:(A.length:Int)<=(A.length:Int)+(zda n:Nat)+1:=by omega
   have e5:(A.length:Int)+(zda n:Nat)+1<=(scap (tk xv (zda X+1)):Nat):=by have h5:=stk.le;rw[ltk]at h5;omega
   have E:=zH (And.intro e1 (And.intro e2 (And.intro e3 (And.intro e4 e5))))
   clear e1 e2 e3 e4 e5
   have HW:=zH hw
   by_cases hgb:4294967295<G0
   ·have hgd:decide ((4294967295:Int)<(G0:Int))=true:=decide_eq_true (by omega)
    go_wp2_with fail
    go_loopw [17] (fun u17 wi=>∃g:Nat,u17= .int .u64 g/\Q<=g/\g<4294967296/\Below W.heap.size W wi) (fun u17 _=>(intOf u17).toNat)
    case atStart=>exact⟨4294967295,rfl,HQB.out,by decide,Below.refl _ _⟩
    case round=>
     obtain⟨g,rfl,hQg,hg,hwi⟩:=hrel
     have G64:Hid (g<18446744073709551616):=zH (by omega)
     have GL:Hid ((zla g).length<=65536):=zH (by have h5:zda g<=1:=zzb.2 (by simpa [pw]using hg);unfold zda at h5;omega)
     by_cases hgq:Q<g
     ·have HGQ:=zH ((HGT2 g).out.2 hgq)
      go_wp2_with fail
      obtain⟨e1,e2,e3,e4,e5⟩:=E.out
      go_region_law (first
       |(refine zjc rfl 72 #[.int .u64 g] (by go_simp) (zkd g G64.out _) ?_;rintro e wa ⟨gv,rfl,hgv,hba⟩;refine⟨_,rfl,?_⟩;have hwa:=zaa hwi (zaa (zja _) hba))
       |(refine zjc rfl 197 #[yv,gv] (by go_simp) (zod yv gv (zla Y) (zla g) _ (hy.below hwa).v hgv.v YL.out GL.out) ?_;rw[zha,zha];rintro e wb ⟨tv,rfl,htv,hbb⟩;refine⟨_,rfl,?_⟩;have hwb:=zaa hwa hbb;have hct:=(HCUT.out _ hwb).out;have hisn:IsN wb _:=⟨p,hct,PL.out⟩;have hao:=zbo wb _ p hct PL.out;have hpn:=(hao.1.nat.natN (zLT PL.out (by decide))))
       |(refine ztj (cut 1 (tk xv (zda X+1)) A.length (A.length+zda n+1)) (by go_simp) hisn ?_)
       |(refine zjc rfl 77 #[tv,appV wb (cut 1 (tk xv (zda X+1)) A.length (A.length+zda n+1))] (by go_simp) (rcmp_gt tv _ (Y*g) (val p) _ (htv.nat.below hao.2) hpn HGQ.out) ?_;rintro e wd ⟨⟨c1,rfl,hc1⟩,hbd⟩;refine⟨_,rfl,?_⟩))
      clear e1 e2 e3 e4 e5
      have hwd:=zaa (zaa hwb hao.2) hbd
      have hgi:(g:Int)-1=((g-1:Nat):Int):=by omega
      clear hao hpn hisn hct htv hgv hba hbb hbd hwa hwb
      go_wp2_with fail
      go_roundw
      case rel=>exact⟨g-1,by rw[<-hgi],by omega,by omega,hwd⟩
      case measure=>simp[intOf];omega
     ·have hle:Y*g<=val p:=Nat.le_of_not_lt (fun h5=>hgq ((HGT2 g).out.1 h5))
      have HGQ:=zH hle
      have HGE:Hid (Q=g):=zH (by omega)
      have HLE:Hid ((zla (Y*g)).length<=p.length):=zH (zLT (zfb hle) (zsb (fun x h5=>hx.lm x (by simp[h5]))))
      have HVE:Hid (val (zla (Y*g))<=val p):=zH (by rw[zha];exact hle)
      clear hle
      go_wp2_with fail
      obtain⟨e1,e2,e3,e4,e5⟩:=E.out
      go_region_law (first
       |(refine zjc rfl 72 #[.int .u64 g] (by go_simp) (zkd g G64.out _) ?_;rintro e wa ⟨gv,rfl,hgv,hba⟩;refine⟨_,rfl,?_⟩;have hwa:=zaa hwi (zaa (zja _) hba))
       |(refine zjc rfl 197 #[yv,gv] (by go_simp) (zod yv gv (zla Y) (zla g) _ (hy.below hwa).v hgv.v YL.out GL.out) ?_;rw[zha,zha];rintro e wb ⟨tv,rfl,htv,hbb⟩;refine⟨_,rfl,?_⟩;have hwb:=zaa hwa hbb;have hct:=(HCUT.out _ hwb).out;have hisn:IsN wb _:=⟨p,hct,PL.out⟩;have hao:=zbo wb _ p hct PL.out;have hpn:=(hao.1.nat.natN (zLT PL.out (by decide))))
       |(refine ztj (cut 1 (tk xv (zda X+1)) A.length (A.length+zda n+1)) (by go_simp) hisn ?_)
       |(refine zjc rfl 77 #[tv,appV wb (cut 1 (tk xv (zda X+1)) A.length (A.length+zda n+1))] (by go_simp) (rcmp_le tv _ (Y*g) (val p) _ (htv.nat.below hao.2) hpn HGQ.out) ?_;rintro e wd ⟨⟨c1,rfl,hc1⟩,hbd⟩;refine⟨_,rfl,?_⟩))
      clear e1 e2 e3 e4 e5
      have hwd:=zaa (zaa hwb hao.2) hbd
      clear hao hpn hisn hct htv hgv hba hbb hbd hwa hwb
      have hct:=(HCUT.out _ hwd).out
      have e6:(A.length:Int)+(zda n:Nat)+1<=(scap (tk xv (zda X+1)):Nat):=E.out.2.2.2.2
      have e7:A.length+zda n+1<=scap (tk xv (zda X+1)):=by omega
      have e8:A.length+zda n<scap (tk xv (zda X+1)):=by omega
      go_wp2_with (first
       |(at_builtin;refine hA _ rfl _ _ rfl wd.heap.size (.slice none 0 0) [] rfl (zcc.nil _ _ _) _ rfl p (by exact hct) PL2.out (zLR _) ?_;intro pv we hpv _ hbe;have hwe:=zaa hwd hbe)
       |(go_at_call 72;(with_reducible refine(zkd g G64.out _).mono ?_);rintro e wf ⟨gv,rfl,hgv,hbf⟩;have hwf:=zaa hwe hbf)
       |(go_at_call 197;(with_reducible refine(zod yv gv (zla Y) (zla g) _ (hy.below hwf).v hgv.v YL.out GL.out).mono ?_);rw[zha,zha];rintro e wg ⟨tv,rfl,htv,hbg⟩;have hwg:=zaa hwf hbg)
       |(go_at_call 155;refine(zdl pv tv p (zla (Y*g)) _ (by exact((hpv.nat.below hbf).below hbg)) htv.v PL.out HLE.out HVE.out).mono ?_;rw[zha];rintro e wh ⟨rv,rfl,hrv,hrv2,hbh⟩;have hwh:=zaa hwg hbh))
      have hx8:=hx.below hwh
      have hq8:=hq.below hwh
      have hy8:=hy.below hwh
      have hbr8:=hbr.trans (hwh.mono hbr.size)
      have hqb8:=zLM hqb hwh.size
      have hrblk:0<(zla (val p-Y*g)).length->(base xv).block<(base rv).block/\(base qv).block<(base rv).block:=fun h5=>by
       have h6:=(hrv.block h5).1
       have h7:=hwg.size
       have h8:=HNE.out
       omega
      have hrn:zfc wh rv (zla (val p-Y*g)):=hrv.nat
      have hRl:(zla (val p-Y*g)).length<=p.length:=zLT (zfb (Nat.sub_le _ _)) (zsb (fun x h5=>hx.lm x (by simp[h5])))
      have hRv:val (zla (val p-Y*g))=val p%Y:=by rw[zha,Nat.mod_eq_sub_mul_div,HQ.out,HGE.out]
      obtain⟨R,hR⟩:∃R,zla (val p-Y*g)=R:=⟨_,rfl⟩
      rw[hR]at hrblk hrn hRl hRv
      have HRB:=zH hrblk
      have HRL:=zH hRl
      have HRV:=zH hRv
      have hrsl:=hrn.sl
      have hrlen:slen rv=R.length:=hrn.len
      have hRb:R.length<=514:=by have h5:=HPL.out;omega
      clear hR hrblk hRl hRv hrv hrv2 hx hq hy hbr hqb hwd hct e6 e7 e8 hpv hbe hwe hgv hbf hwf htv hbg hwg hbh HVE HLE HGQ hgq hwi
      go_loopw [19] (fun u19 wi=>∃ (jj:Nat) (p':List Nat),jj<=zda n+1/\u19= .int .i64 jj/\zcc wi 142 w.heap.size xv (A++p'++C)/\p'.length=zda n+1/\val (p'.take jj)=val (R.take jj)/\
       zcc wi 142 w.heap.size qv qd/\zjb wi yv Y/\zfc wi rv R/\Below w.heap.size w wi/\(base qv).block<wi.heap.size) (fun u19 _=>zda n+1- (intOf u19).toNat)
      case atStart=>exact⟨0,p,by omega,rfl,hx8,HPL.out,by simp,hq8,hy8,hrn,hbr8,hqb8⟩
      case round=>
       obtain⟨jj,p',hjj,rfl,hx9,hpl9,hv9,hq9,hy9,hr9,hbr9,hqb9⟩:=hrel
       clear hx8 hq8 hy8 hrn hbr8 hqb8
       have HV9:=zH hv9
       have HPL9:=zH hpl9
       clear hv9
       have hxq:=HNE.out
       by_cases hjn:jj<=zda n
       ·obtain⟨hc9,hf9⟩:=zaj hx9 jj (by omega)
        generalize p'[jj]'(by omega)=y0 at *
        have hidx:A.length+jj<zda X+1:=by omega
        have hjp:jj<p'.length:=by omega
        have hs0:zcc (wr.setCell (ptr xv (A.length+jj)) (.int .u32 0)) 142 w.heap.size xv (A++p'.set jj 0++C)/\Below w.heap.size wr (wr.setCell (ptr xv (A.length+jj)) (.int .u32 0)):=zqf hx9 jj hjp 0 (by decide)
        have HT:=zH (zmf R jj)
        have hRz:∀z:Nat,z=R.getD jj 0->Hid (val ((p'.set jj z).take (jj+1))=val (R.take (jj+1))):=fun z hz=>zH (zlh hjp hz HT.out HV9.out)
        have hq10:=hq9.other (ptr xv (A.length+jj)) (.int .u32 0) (by rw[zsa];omega)
        have hy10:zjb (wr.setCell (ptr xv (A.length+jj)) (.int .u32 0)) yv Y:=⟨hy9.v.other (ptr xv (A.length+jj)) (.int .u32 0) (by rw[zsa];omega),hy9.2⟩
        have hsz:(wr.setCell (ptr xv (A.length+jj)) (.int .u32 0)).heap.size=wr.heap.size:=by simp[World.setCell]
        by_cases hjr:jj<R.length
        ·have hbne:=HRB.out (by omega)
         have hr10:=hr9.other (ptr xv (A.length+jj)) (.int .u32 0) (by rw[zsa];omega)
         have hz:=hr10.cell jj hjr
         have hz1:=hr9.lt jj hjr
         have HZ:=hRz R[jj] (zaf R jj hjr).symm
         generalize R[jj]'hjr=z at *
         have hs1:=zqf hs0.1 jj (by simpa using hjp) z hz1
         rw[List.set_set]at hs1
         have hf10:=(zaj hs0.1 jj (by simpa using hjp)).2
         have hq11:=hq10.other (ptr xv (A.length+jj)) (.int .u32 (z:Nat)) (by rw[zsa];omega)
         have hy11:zjb ((wr.setCell (ptr xv (A.length+jj)) (.int .u32 0)).setCell (ptr xv (A.length+jj)) (.int .u32 (z:Nat))) yv Y:=⟨hy10.v.other (ptr xv (A.length+jj)) (.int .u32 (z:Nat)) (by rw[zsa];omega),hy10.2⟩
         have hr11:=hr10.other (ptr xv (A.length+jj)) (.int .u32 (z:Nat)) (by rw[zsa];omega)
         have hsz2:((wr.setCell (ptr xv (A.length+jj)) (.int .u32 0)).setCell (ptr xv (A.length+jj)) (.int .u32 (z:Nat))).heap.size=wr.heap.size:=by simp[World.setCell]
         have hbr11:=hbr9.trans (hs0.2.trans hs1.2)
         have F:=zH (And.intro hs1.1 (And.intro hq11 (And.intro hy11 (And.intro hr11 (And.intro hbr11 hsz2)))))
         clear hs0 hs1 hq11 hy11 hr11 hbr11 hsz2 hq10 hy10 hr10 hsz hRz hjp hpl9
         go_wp2_with fail
         go_roundw
         case rel=>exact⟨jj+1,p'.set jj z,by omega,by go_num,F.out.1,by rw[List.length_set];exact HPL9.out,HZ.out,F.out.2.1,F.out.2.2.1,F.out.2.2.2.1,F.out.2.2.2.2.1,by rw[F.out.2.2.2.2.2];exact hqb9⟩
         case measure=>simp[intOf];omega
        ·have HZ:=hRz 0 (zhi R jj (by omega)).symm
         have hr10:zfc (wr.setCell (ptr xv (A.length+jj)) (.int .u32 0)) rv R:=by
          by_cases h5:0<R.length
          ·have hbne:=HRB.out h5
           exact hr9.other (ptr xv (A.length+jj)) (.int .u32 0) (by rw[zsa];omega)
          ·exact⟨hr9.sl,hr9.len,fun j5 h6=>by omega,hr9.lm⟩
         have hbr10:=hbr9.trans hs0.2
         have F:=zH (And.intro hs0.1 (And.intro hq10 (And.intro hy10 (And.intro hr10 (And.intro hbr10 hsz)))))
         clear hs0 hbr10 hq10 hy10 hr10 hsz hRz hjp hpl9
         go_wp2_with fail
         go_roundw
         case rel=>exact⟨jj+1,p'.set jj 0,by omega,by go_num,F.out.1,by rw[List.length_set];exact HPL9.out,HZ.out,F.out.2.1,F.out.2.2.1,F.out.2.2.2.1,F.out.2.2.2.2.1,by rw[F.out.2.2.2.2.2];exact hqb9⟩
         case measure=>simp[intOf];omega
       ·obtain rfl:jj=zda n+1:=by omega
        have hpv:val p'=val p%Y:=by
         have h5:=HV9.out
         have h6:=HRL.out
         have h7:=HPL.out
         rw[List.take_of_length_le (by omega),List.take_of_length_le (by omega)]at h5
         rw[h5];exact HRV.out
        have hqa:A.length<qd.length:=by have h5:=HQL.out;omega
        have HF:=zH (zhd (ou:=zla X) (lv:=zla Y) (p':=p') (by rw[zha,zha];exact HV.out) (fun x h5=>hx9.lm x (by simp[h5])) HO2.out HO4.out (by rw[zha];exact HXY.out.2) (Q:=g) (by rw[zha];exact HQ.out.trans HGE.out) (by rw[zha];exact hpv) hqa)
        have hset:=hq9.set A.length hqa g hg
        have hfz:=hq9.frozen A.length hqa
        have hco:=hq9.nat.cell A.length hqa
        generalize qd[A.length]'hqa=q0 at *
        have hx10:=hx9.other (ptr qv A.length) (.int .u32 (g:Nat)) (by rw[zsa];omega)
        have hy10:zjb (wr.setCell (ptr qv A.length) (.int .u32 (g:Nat))) yv Y:=⟨hy9.v.other (ptr qv A.length) (.int .u32 (g:Nat)) (by rw[zsa];omega),hy9.2⟩
        have hsz:(wr.setCell (ptr qv A.length) (.int .u32 (g:Nat))).heap.size=wr.heap.size:=by simp[World.setCell]
        have F:=zH (And.intro hx10 (And.intro hset.1 (And.intro hy10 (And.intro (hbr9.trans hset.2) hsz))))
        have HAL:Hid ((A++p'++C).length=zda X+2):=zH (by have h5:=HOL.out;have h6:=HPL.out;simp only[List.length_append]at h5 |-;omega)
        clear hx10 hset hy10 hsz hpv hqa hpl9
        go_wp2_with fail
        go_roundw
        case rel=>
         have h5:=HF.out
         rw[zha,zha]at h5
         exact⟨A.length,A++p'++C,_,by omega,by go_num,F.out.1,HAL.out,F.out.2.1,by rw[List.length_set];exact HQL.out,F.out.2.2.1,h5.1,h5.2,F.out.2.2.2.1,by rw[F.out.2.2.2.2];exact hqb9⟩
        case measure=>simp[intOf]
   ·have hgd:decide ((4294967295:Int)<(G0:Int))=false:=decide_eq_false (by omega)
    have HG2:Hid (G0<4294967296):=zH (by omega)
    go_wp2_with fail
    go_loopw [17] (fun u17 wi=>∃g:Nat,u17= .int .u64 g/\Q<=g/\g<4294967296/\Below W.heap.size W wi) (fun u17 _=>(intOf u17).toNat)
    case atStart=>exact⟨G0,rfl,HG0.out,HG2.out,Below.refl _ _⟩
    case round=>
     obtain⟨g,rfl,hQg,hg,hwi⟩:=hrel
     have G64:Hid (g<18446744073709551616):=zH (by omega)
     have GL:Hid ((zla g).length<=65536):=zH (by have h5:zda g<=1:=zzb.2 (by simpa [pw]using hg);unfold zda at h5;omega)
     by_cases hgq:Q<g
     ·have HGQ:=zH ((HGT2 g).out.2 hgq)
      go_wp2_with fail
      obtain⟨e1,e2,e3,e4,e5⟩:=E.out
      go_region_law (first
       |(refine zjc rfl 72 #[.int .u64 g] (by go_simp) (zkd g G64.out _) ?_;rintro e wa ⟨gv,rfl,hgv,hba⟩;refine⟨_,rfl,?_⟩;have hwa:=zaa hwi (zaa (zja _) hba))
       |(refine zjc rfl 197 #[yv,gv] (by go_simp) (zod yv gv (zla Y) (zla g) _ (hy.below hwa).v hgv.v YL.out GL.out) ?_;rw[zha,zha];rintro e wb ⟨tv,rfl,htv,hbb⟩;refine⟨_,rfl,?_⟩;have hwb:=zaa hwa hbb;have hct:=(HCUT.out _ hwb).out;have hisn:IsN wb _:=⟨p,hct,PL.out⟩;have hao:=zbo wb _ p hct PL.out;have hpn:=(hao.1.nat.natN (zLT PL.out (by decide))))
       |(refine ztj (cut 1 (tk xv (zda X+1)) A.length (A.length+zda n+1)) (by go_simp) hisn ?_)
       |(refine zjc rfl 77 #[tv,appV wb (cut 1 (tk xv (zda X+1)) A.length (A.length+zda n+1))] (by go_simp) (rcmp_gt tv _ (Y*g) (val p) _ (htv.nat.below hao.2) hpn HGQ.out) ?_;rintro e wd ⟨⟨c1,rfl,hc1⟩,hbd⟩;refine⟨_,rfl,?_⟩))
      clear e1 e2 e3 e4 e5
      have hwd:=zaa (zaa hwb hao.2) hbd
      have hgi:(g:Int)-1=((g-1:Nat):Int):=by omega
      clear hao hpn hisn hct htv hgv hba hbb hbd hwa hwb
      go_wp2_with fail
      go_roundw
      case rel=>exact⟨g-1,by rw[<-hgi],by omega,by omega,hwd⟩
      case measure=>simp[intOf];omega
     ·have hle:Y*g<=val p:=Nat.le_of_not_lt (fun h5=>hgq ((HGT2 g).out.1 h5))
      have HGQ:=zH hle
      have HGE:Hid (Q=g):=zH (by omega)
      have HLE:Hid ((zla (Y*g)).length<=p.length):=zH (zLT (zfb hle) (zsb (fun x h5=>hx.lm x (by simp[h5]))))
      have HVE:Hid (val (zla (Y*g))<=val p):=zH (by rw[zha];exact hle)
      clear hle
      go_wp2_with fail
      obtain⟨e1,e2,e3,e4,e5⟩:=E.out
      go_region_law (first
       |(refine zjc rfl 72 #[.int .u64 g] (by go_simp) (zkd g G64.out _) ?_;rintro e wa ⟨gv,rfl,hgv,hba⟩;refine⟨_,rfl,?_⟩;have hwa:=zaa hwi (zaa (zja _) hba))
       |(refine zjc rfl 197 #[yv,gv] (by go_simp) (zod yv gv (zla Y) (zla g) _ (hy.below hwa).v hgv.v YL.out GL.out) ?_;rw[zha,zha];rintro e wb ⟨tv,rfl,htv,hbb⟩;refine⟨_,rfl,?_⟩;have hwb:=zaa hwa hbb;have hct:=(HCUT.out _ hwb).out;have hisn:IsN wb _:=⟨p,hct,PL.out⟩;have hao:=zbo wb _ p hct PL.out;have hpn:=(hao.1.nat.natN (zLT PL.out (by decide))))
       |(refine ztj (cut 1 (tk xv (zda X+1)) A.length (A.length+zda n+1)) (by go_simp) hisn ?_)
       |(refine zjc rfl 77 #[tv,appV wb (cut 1 (tk xv (zda X+1)) A.length (A.length+zda n+1))] (by go_simp) (rcmp_le tv _ (Y*g) (val p) _ (htv.nat.below hao.2) hpn HGQ.out) ?_;rintro e wd ⟨⟨c1,rfl,hc1⟩,hbd⟩;refine⟨_,rfl,?_⟩))
      clear e1 e2 e3 e4 e5
      have hwd:=zaa (zaa hwb hao.2) hbd
      clear hao hpn hisn hct htv hgv hba hbb hbd hwa hwb
      have hct:=(HCUT.out _ hwd).out
      have e6:(A.length:Int)+(zda n:Nat)+1<=(scap (tk xv (zda X+1)):Nat):=E.out.2.2.2.2
      have e7:A.length+zda n+1<=scap (tk xv (zda X+1)):=by omega
      have e8:A.length+zda n<scap (tk xv (zda X+1)):=by omega
      go_wp2_with (first
       |(at_builtin;refine hA _ rfl _ _ rfl wd.heap.size (.slice none 0 0) [] rfl (zcc.nil _ _ _) _ rfl p (by exact hct) PL2.out (zLR _) ?_;intro pv we hpv _ hbe;have hwe:=zaa hwd hbe)
       |(go_at_call 72;(with_reducible refine(zkd g G64.out _).mono ?_);rintro e wf ⟨gv,rfl,hgv,hbf⟩;have hwf:=zaa hwe hbf)
       |(go_at_call 197;(with_reducible refine(zod yv gv (zla Y) (zla g) _ (hy.below hwf).v hgv.v YL.out GL.out).mono ?_);rw[zha,zha];rintro e wg ⟨tv,rfl,htv,hbg⟩;have hwg:=zaa hwf hbg)
       |(go_at_call 155;refine(zdl pv tv p (zla (Y*g)) _ (by exact((hpv.nat.below hbf).below hbg)) htv.v PL.out HLE.out HVE.out).mono ?_;rw[zha];rintro e wh ⟨rv,rfl,hrv,hrv2,hbh⟩;have hwh:=zaa hwg hbh))
      have hx8:=hx.below hwh
      have hq8:=hq.below hwh
      have hy8:=hy.below hwh
      have hbr8:=hbr.trans (hwh.mono hbr.size)
      have hqb8:=zLM hqb hwh.size
      have hrblk:0<(zla (val p-Y*g)).length->(base xv).block<(base rv).block/\(base qv).block<(base rv).block:=fun h5=>by
       have h6:=(hrv.block h5).1
       have h7:=hwg.size
       have h8:=HNE.out
       omega
      have hrn:zfc wh rv (zla (val p-Y*g)):=hrv.nat
      have hRl:(zla (val p-Y*g)).length<=p.length:=zLT (zfb (Nat.sub_le _ _)) (zsb (fun x h5=>hx.lm x (by simp[h5])))
      have hRv:val (zla (val p-Y*g))=val p%Y:=by rw[zha,Nat.mod_eq_sub_mul_div,HQ.out,HGE.out]
      obtain⟨R,hR⟩:∃R,zla (val p-Y*g)=R:=⟨_,rfl⟩
      rw[hR]at hrblk hrn hRl hRv
      have HRB:=zH hrblk
      have HRL:=zH hRl
      have HRV:=zH hRv
      have hrsl:=hrn.sl
      have hrlen:slen rv=R.length:=hrn.len
      have hRb:R.length<=514:=by have h5:=HPL.out;omega
      clear hR hrblk hRl hRv hrv hrv2 hx hq hy hbr hqb hwd hct e6 e7 e8 hpv hbe hwe hgv hbf hwf htv hbg hwg hbh HVE HLE HGQ hgq hwi
      go_loopw [19] (fun u19 wi=>∃ (jj:Nat) (p':List Nat),jj<=zda n+1/\u19= .int .i64 jj/\zcc wi 142 w.heap.size xv (A++p'++C)/\p'.length=zda n+1/\val (p'.take jj)=val (R.take jj)/\
       zcc wi 142 w.heap.size qv qd/\zjb wi yv Y/\zfc wi rv R/\Below w.heap.size w wi/\(base qv).block<wi.heap.size) (fun u19 _=>zda n+1- (intOf u19).toNat)
      case atStart=>exact⟨0,p,by omega,rfl,hx8,HPL.out,by simp,hq8,hy8,hrn,hbr8,hqb8⟩
      case round=>
       obtain⟨jj,p',hjj,rfl,hx9,hpl9,hv9,hq9,hy9,hr9,hbr9,hqb9⟩:=hrel
       clear hx8 hq8 hy8 hrn hbr8 hqb8
       have HV9:=zH hv9
       have HPL9:=zH hpl9
       clear hv9
       have hxq:=HNE.out
       by_cases hjn:jj<=zda n
       ·obtain⟨hc9,hf9⟩:=zaj hx9 jj (by omega)
        generalize p'[jj]'(by omega)=y0 at *
        have hidx:A.length+jj<zda X+1:=by omega
        have hjp:jj<p'.length:=by omega
        have hs0:zcc (wr.setCell (ptr xv (A.length+jj)) (.int .u32 0)) 142 w.heap.size xv (A++p'.set jj 0++C)/\Below w.heap.size wr (wr.setCell (ptr xv (A.length+jj)) (.int .u32 0)):=zqf hx9 jj hjp 0 (by decide)
        have HT:=zH (zmf R jj)
        have hRz:∀z:Nat,z=R.getD jj 0->Hid (val ((p'.set jj z).take (jj+1))=val (R.take (jj+1))):=fun z hz=>zH (zlh hjp hz HT.out HV9.out)
        have hq10:=hq9.other (ptr xv (A.length+jj)) (.int .u32 0) (by rw[zsa];omega)
        have hy10:zjb (wr.setCell (ptr xv (A.length+jj)) (.int .u32 0)) yv Y:=⟨hy9.v.other (ptr xv (A.length+jj)) (.int .u32 0) (by rw[zsa];omega),hy9.2⟩
        have hsz:(wr.setCell (ptr xv (A.length+jj)) (.int .u32 0)).heap.size=wr.heap.size:=by simp[World.setCell]
        by_cases hjr:jj<R.length
        ·have hbne:=HRB.out (by omega)
         have hr10:=hr9.other (ptr xv (A.length+jj)) (.int .u32 0) (by rw[zsa];omega)
         have hz:=hr10.cell jj hjr
         have hz1:=hr9.lt jj hjr
         have HZ:=hRz R[jj] (zaf R jj hjr).symm
         generalize R[jj]'hjr=z at *
         have hs1:=zqf hs0.1 jj (by simpa using hjp) z hz1
         rw[List.set_set]at hs1
         have hf10:=(zaj hs0.1 jj (by simpa using hjp)).2
         have hq11:=hq10.other (ptr xv (A.length+jj)) (.int .u32 (z:Nat)) (by rw[zsa];omega)
         have hy11:zjb ((wr.setCell (ptr xv (A.length+jj)) (.int .u32 0)).setCell (ptr xv (A.length+jj)) (.int .u32 (z:Nat))) yv Y:=⟨hy10.v.other (ptr xv (A.length+jj)) (.int .u32 (z:Nat)) (by rw[zsa];omega),hy10.2⟩
         have hr11:=hr10.other (ptr xv (A.length+jj)) (.int .u32 (z:Nat)) (by rw[zsa];omega)
         have hsz2:((wr.setCell (ptr xv (A.length+jj)) (.int .u32 0)).setCell (ptr xv (A.length+jj)) (.int .u32 (z:Nat))).heap.size=wr.heap.size:=by simp[World.setCell]
         have hbr11:=hbr9.trans (hs0.2.trans hs1.2)
         have F:=zH (And.intro hs1.1 (And.intro hq11 (And.intro hy11 (And.intro hr11 (And.intro hbr11 hsz2)))))
         clear hs0 hs1 hq11 hy11 hr11 hbr11 hsz2 hq10 hy10 hr10 hsz hRz hjp hpl9
         go_wp2_with fail
         go_roundw
         case rel=>exact⟨jj+1,p'.set jj z,by omega,by go_num,F.out.1,by rw[List.length_set];exact HPL9.out,HZ.out,F.out.2.1,F.out.2.2.1,F.out.2.2.2.1,F.out.2.2.2.2.1,by rw[F.out.2.2.2.2.2];exact hqb9⟩
         case measure=>simp[intOf];omega
        ·have HZ:=hRz 0 (zhi R jj (by omega)).symm
         have hr10:zfc (wr.setCell (ptr xv (A.length+jj)) (.int .u32 0)) rv R:=by
          by_cases h5:0<R.length
          ·have hbne:=HRB.out h5
           exact hr9.other (ptr xv (A.length+jj)) (.int .u32 0) (by rw[zsa];omega)
          ·exact⟨hr9.sl,hr9.len,fun j5 h6=>by omega,hr9.lm⟩
         have hbr10:=hbr9.trans hs0.2
         have F:=zH (And.intro hs0.1 (And.intro hq10 (And.intro hy10 (And.intro hr10 (And.intro hbr10 hsz)))))
         clear hs0 hbr10 hq10 hy10 hr10 hsz hRz hjp hpl9
         go_wp2_with fail
         go_roundw
         case rel=>exact⟨jj+1,p'.set jj 0,by omega,by go_num,F.out.1,by rw[List.length_set];exact HPL9.out,HZ.out,F.out.2.1,F.out.2.2.1,F.out.2.2.2.1,F.out.2.2.2.2.1,by rw[F.out.2.2.2.2.2];exact hqb9⟩
         case measure=>simp[intOf];omega
       ·obtain rfl:jj=zda n+1:=by omega
        have hpv:val p'=val p%Y:=by
         have h5:=HV9.out
         have h6:=HRL.out
         have h7:=HPL.out
         rw[List.take_of_length_le (by omega),List.take_of_length_le (by omega)]at h5
         rw[h5];exact HRV.out
        have hqa:A.length<qd.length:=by have h5:=HQL.out;omega
        have HF:=zH (zhd (ou:=zla X) (lv:=zla Y) (p':=p') (by rw[zha,zha];exact HV.out) (fun x h5=>hx9.lm x (by simp[h5])) HO2.out HO4.out (by rw[zha];exact HXY.out.2) (Q:=g) (by rw[zha];exact HQ.out.trans HGE.out) (by rw[zha];exact hpv) hqa)
        have hset:=hq9.set A.length hqa g hg
        have hfz:=hq9.frozen A.length hqa
        have hco:=hq9.nat.cell A.length hqa
        generalize qd[A.length]'hqa=q0 at *
        have hx10:=hx9.other (ptr qv A.length) (.int .u32 (g:Nat)) (by rw[zsa];omega)
        have hy10:zjb (wr.setCell (ptr qv A.length) (.int .u32 (g:Nat))) yv Y:=⟨hy9.v.other (ptr qv A.length) (.int .u32 (g:Nat)) (by rw[zsa];omega),hy9.2⟩
        have hsz:(wr.setCell (ptr qv A.length) (.int .u32 (g:Nat))).heap.size=wr.heap.size:=by simp[World.setCell]
        have F:=zH (And.intro hx10 (And.intro hset.1 (And.intro hy10 (And.intro (hbr9.trans hset.2) hsz))))
        have HAL:Hid ((A++p'++C).length=zda X+2):=zH (by have h5:=HOL.out;have h6:=HPL.out;simp only[List.length_append]at h5 |-;omega)
        clear hx10 hset hy10 hsz hpv hqa hpl9
        go_wp2_with fail
        go_roundw
        case rel=>
         have h5:=HF.out
         rw[zha,zha]at h5
         exact⟨A.length,A++p'++C,_,by omega,by go_num,F.out.1,HAL.out,F.out.2.1,by rw[List.length_set];exact HQL.out,F.out.2.2.1,h5.1,h5.2,F.out.2.2.2.1,by rw[F.out.2.2.2.2];exact hqb9⟩
        case measure=>simp[intOf]
  ·obtain rfl:k=0:=by omega
   have hlt2:val o<Y:=by simpa [zye]using hlt
   obtain⟨hqe,hoe⟩:=HREAD.out (val qd) (val o) (by rw[zye,Nat.mul_one,List.drop_zero]at hval;exact hval) hlt2
   have hoX:val o<pw (zda X+1):=by
    have h5:=HXY.out.1
    have h6:=zhe X
    have h7:=zzu (show zda X<=zda X+1 by omega)
    omega
   have hot:=(limb_zero (l:=o) (k:=zda X+1) (by omega) hoX).2
   have hxt:=(hx.nat.tk (zda X+1) (by omega)).natN (by rw[List.length_take];omega)
   rw[hot,hoe]at hxt
   have hVl:zda (2^s*(m%n))<=65536:=by
    rw[<-hoe]
    have h5:=zfb (Nat.le_of_lt hlt2)
    have h6:=HNY.out
    omega
   have HVL:Hid ((zla (2^s*(m%n))).length<=65536):=zH hVl
   have HDV:Hid (2^s*(m%n)/2^s=m%n):=zH (Nat.mul_div_cancel_left _ (Nat.pow_pos (by decide)))
   have HT:=zH (zra qv (m/n) wr (zob.of_eq (hq.nat.natN (by omega)) hqe))
   have HXT:=zH hxt
   clear hqe hoe hot hoX hVl hlt2 hlt hval hxt hMl
   go_wp2_with (first
    |(go_at_call 106;(with_reducible refine HT.out.mono ?_);rintro e wa ⟨q1,rfl,hq1,hba⟩)
    |(go_at_call 106;(with_reducible refine(zra _ _ _ (HXT.out.below hba)).mono ?_);rintro e wb ⟨r1,rfl,hr1,hbb⟩)
    |(go_at_call 217;(with_reducible refine(rdown_any r1 _ s _ hr1.v HVL.out HSS.out).mono ?_);rw[zha,HDV.out];rintro e wc ⟨r2,rfl,hr2,hbc⟩))
   go_ret2
   exact⟨_,_,rfl,(hq1.below hbb).below hbc,hr2,hbr.trans ((zaa (zaa hba hbb) hbc).mono hbr.size)⟩
theorem zqk (va vb:Value) (m n:Nat) (w:World) (ha:zjb w va m) (hb:zjb w vb n) (hn:n≠0) (hm:zda m<=512):
 Calls Tryz.prog 196 #[va,vb] w (RDiv w m n):=by
 rcases Nat.lt_or_ge m n with h | h
 ·exact rdivide_less va vb m n w ha hb h
 ·have h0:zda n≠0:=fun h'=>hn (zta.1 h')
  rcases Nat.lt_or_ge (zda n) 2 with h2 | h2
  ·exact zfn va vb m n w ha hb h (by omega) hm
  ·exact rdivide_long va vb m n w ha hb h h2 hm
end Go.Proofs.YtlpdkbmmbdfoiaaGreat
