/- Lemmas. -/
import Derived.Test.YtkpedaflofejnaaGreatMMath7
set_option linter.unusedVariables false
set_option linter.unusedSimpArgs false
namespace Go.Proofs.YtkpedaflofejnaaGreat
open Go.RowKit
def IsN (w:World) (v:Value):Prop:=∃l,ztc w v l/\l.length<=65536
theorem app_ex (w:World) (v:Value) (l:List Nat) (h:ztc w v l) (hl:l.length<=65536):
 ∃v' w',(Builtin.append_ #[51,51] 51 #[.slice none 0 0,v]).run Tryz.prog w= .ok v' w'/\zsc w' 134 w.heap.size v' l/\Below w.heap.size w w':=by
 obtain⟨i0,hi,hz0,hz1,hz2⟩:=info_parts Tryz.info102
 obtain⟨v',w',h1,h2,h3⟩:=zsl (P:=Tryz.prog) w w.heap.size 51 51 134 i0 (.int .u32 0) 4 Tryz.underlying51 hi hz0 hz1 hz2 rfl (.slice none 0 0) [] (zib.nil _ _ _) v h.sl (l.map u32V) (by rw[h.len,zMP])
  (λ j hj=>by rw[h.cell j (by simpa using hj)];simp[u32V]) (λ u hu=>by obtain⟨x,_,rfl⟩:=List.mem_map.1 hu;rfl) (by simp only[List.length_nil,zMP,Nat.zero_add];unfold maxLen;omega) (by simp only[List.length_nil,zMP,Nat.zero_add];omega) (zLR _)
 exact⟨v',w',h1,⟨by simpa using h2,h.lm⟩,zmc h3 (zLR _) (λ k hk=>by simp[Value.ownBlock]at hk)⟩
open Classical in
noncomputable def appVW (w:World) (v:Value):Value×World:=if h:∃p:Value×World,(Builtin.append_ #[51,51] 51 #[.slice none 0 0,v]).run Tryz.prog w= .ok p.1 p.2 then h.choose else(v,w)
noncomputable def appV (w:World) (v:Value):Value:=(appVW w v).1
noncomputable def appW (w:World) (v:Value):World:=(appVW w v).2
theorem ztm {w:World} {v v':Value} {w':World} (h:(Builtin.append_ #[51,51] 51 #[.slice none 0 0,v]).run Tryz.prog w= .ok v' w'):appV w v=v'/\appW w v=w':=by
 have h2:∃p:Value×World,(Builtin.append_ #[51,51] 51 #[.slice none 0 0,v]).run Tryz.prog w= .ok p.1 p.2:=⟨(v',w'),h⟩;have h3:=h.symm.trans h2.choose_spec;injection h3 with h4 h5
 unfold appV appW appVW;rw[dif_pos h2];exact⟨h4.symm,h5.symm⟩
theorem run_app (w:World) (v:Value) (h:IsN w v):(Builtin.append_ #[51,51] 51 #[.slice none 0 0,v]).run Tryz.prog w= .ok (appV w v) (appW w v):=by
 obtain⟨l,h1,h2⟩:=h;obtain⟨v',w',h3,h4,h5⟩:=app_ex w v l h1 h2;rw[h3,(ztm h3).1,(ztm h3).2]
theorem zem {ops:Array Oper} {d x:Tmp} {pos:String} {af:Array Edge} {a:Act} {w:World} {K:Act->World->Prop} {Q:Exit->Act->World->Prop} {E:Prop} (v:Value) (hv:a.eval (.tmp x)=v) (h:IsN w v)
 (hK:K (a.put (some d) (appV w v)) (appW w v)):
 if Region.wanted ⟨some d, .call { callee:= .builtin .append,args:=#[.const (.slice none 0 0), .tmp x],argTypes:=#[51,51] },51,pos,af,none⟩ (yielded ops a.tmps)=true then
  Oper.wp Tryz.prog ⟨some d, .call { callee:= .builtin .append,args:=#[.const (.slice none 0 0), .tmp x],argTypes:=#[51,51] },51,pos,af,none⟩ a w K Q else E:=by
 rw[zIP (by simp[Region.wanted])];have h2:=run_app w v h;have h3:a.eval (.const (.slice none 0 0))= .slice none 0 0:=rfl;unfold Oper.wp execOp;simp only[resolve,invoke,builtin,Sem.run_bind,Sem.run_pure,Result.andThen_ok,List.map_toArray,List.map_cons,List.map_nil,h3,hv,h2];exact hK
theorem zkr (w:World) (v:Value) (l:List Nat) (h:ztc w v l) (hl:l.length<=65536):zsc (appW w v) 134 w.heap.size (appV w v) l/\Below w.heap.size w (appW w v):=by
 obtain⟨v',w',h3,h4,h5⟩:=app_ex w v l h hl;rw[(ztm h3).1,(ztm h3).2];exact⟨h4,h5⟩
theorem zal {w:World} {e:TypeId} {B:Nat} {v:Value} {A p C:List Nat} (h:zsc w e B v (A++p++C)) (i:Nat) (hi:i<p.length):
 w.cell? (ptr v (A.length+i))=some (.int .u32 (p[i]:Nat))/\w.frozen? (ptr v (A.length+i))=false:=by
 have h1:=h.nat.cell (A.length+i) (by simp;omega);have h2:=zwf A p C i hi;obtain⟨h3,h4⟩:=List.getElem?_eq_some_iff.1 h2;rw[h4]at h1;exact⟨h1,h.frozen (A.length+i) h3⟩
theorem zrg {w:World} {e:TypeId} {B:Nat} {v:Value} {A p C:List Nat} (h:zsc w e B v (A++p++C)) (j:Nat) (hj:j<p.length) (x:Nat) (hx:x<4294967296):
 zsc (w.setCell (ptr v (A.length+j)) (.int .u32 (x:Nat))) e B v (A++p.set j x++C)/\Below B w (w.setCell (ptr v (A.length+j)) (.int .u32 (x:Nat))):=by
 have h1:=h.set (A.length+j) (by simp;omega) x hx;rw[zdn A p C j x hj]at h1;exact h1
theorem zjr (w:World) (o:Obj):Below w.heap.size w (w.alloc o):=(zBR w.heap.size w).alloc (zLR _) o
theorem rcmp_gt (va vb:Value) (m n:Nat) (w:World) (ha:zwb w va m) (hb:zwb w vb n) (h:n<m):
 Calls Tryz.prog 91 #[va,vb] w λ e w'=>(∃c:Int,e= .returned (.int .i64 c)/\decide (0<c)=true)/\Below w.heap.size w w':=
 (zye va vb m n w ha hb).mono λ _ _ ⟨a,b⟩=>⟨⟨_,a,by rw[zmo h];rfl⟩,b⟩
theorem rcmp_le (va vb:Value) (m n:Nat) (w:World) (ha:zwb w va m) (hb:zwb w vb n) (h:m<=n):
 Calls Tryz.prog 91 #[va,vb] w λ e w'=>(∃c:Int,e= .returned (.int .i64 c)/\decide (0<c)=false)/\Below w.heap.size w w':=
 (zye va vb m n w ha hb).mono λ _ _ ⟨a,b⟩=>⟨⟨_,a,by unfold zjl;split<;>(first | rfl | (rw[zIN zO];rfl))⟩,b⟩
set_option maxRecDepth 100000 in
set_option maxHeartbeats 4000000 in
theorem rdivide_long (va vb:Value) (m n:Nat) (w:World) (ha:zpb w va m) (hb:zpb w vb n) (h:n<=m) (hn:2<=zda n) (hm:zda m<=512):
 Calls Tryz.prog 145 #[va,vb] w (RDiv w m n):=by
 have hnm:=zfb h;have hn0:n≠0:=λ e=>by rw[e,zkd]at hn;omega
 have HMl:=zH (show(zja m).length<=65536 by have:=hm;unfold zda at this;omega);have HNl:=zH (show(zja n).length<=65536 by have:=hm;have:=hnm;unfold zda at *;omega);obtain⟨s,hs⟩:∃s,s=32*zda n-zsa n:=⟨_,rfl⟩;obtain⟨hs32,hbn,hnY,top,htop1,htop2⟩:=norm2 hn0 hs;have hXY:2^s*n<=2^s*m:=zML _ h
 have hLX:zda (2^s*m)<=513:=by
  rw[zcc];have h1:=zcf m;have h2:=pw_le hm;have h3:2^s<=2^32:=Nat.pow_le_pow_right zD zO;rw[show(2:Nat)^32=4294967296 from zD]at h3;rw[zrb 512];exact Nat.mul_lt_mul_of_le_of_lt h3 (zLM h1 h2) zD
 have hLN:=zfb hXY;rw[hnY]at hLN;have hbeg:=div_begin (m:=2^s*m) (n:=2^s*n) (s:=0) (zMZ (Nat.ne_of_gt (Nat.pow_pos zD)) hn0) hXY;rw[Nat.pow_zero,Nat.one_mul,Nat.one_mul,hnY]at hbeg;have hread:=fun(q o:Nat)=>div_read (m:=m) (n:=n) (s:=s) (q:=q) (o:=o) (V:=2^s*n) hn0 rfl
 have hY0:0<2^s*n:=zPZ (zMZ (Nat.ne_of_gt (Nat.pow_pos zD)) hn0);have HSI:zI (32*((zda n:Nat):Int)- ((zsa n:Nat):Int)=(s:Int)):=zH zO;have HSS:zI (s<=65536):=zH zO;obtain⟨X,hX⟩:∃X,2^s*m=X:=⟨_,rfl⟩;obtain⟨Y,hY⟩:∃Y,2^s*n=Y:=⟨_,rfl⟩;rw[hX]at hXY hLX hLN hbeg hread;rw[hY]at hXY hnY htop1 hbeg hread hY0;obtain⟨M,hMl⟩:∃M,zda X+1=zda n+M:=⟨zda X+1-zda n,zO⟩;rw[show zda X+1-zda n=M from zO]at hbeg;have hM1:1<=M:=zO;have hM2:M<=514:=zO;have HMl2:=zH hMl;have HXE:=zH hX;have HYE:=zH hY;have HREAD:=zH hread;have HBEG:=zH hbeg;have HTOP:=zH (zAI htop1 htop2);have HXY:=zH (zAI hXY hY0);have HNY:=zH hnY;clear hMl hX hY hread hbeg htop1 htop2 hXY hs hbn hY0;have sa:=ha.v.sl;have la:slen va=zda m:=ha.v.len;have sb:=hb.v.sl;have lb:slen vb=zda n:=hb.v.len;have hn1:(((zda n:Nat):Int)==1)=false:=by simp;omega
 have HH:=zH (zAI h (zAI hm hs32));have hmb:zda m<=4294967296:=zO;have hnb:zda n<=512:=zO;have hbits:zsa n<=32*zda n:=(norm2 hn0 rfl).2.1;clear hm hs32;obtain⟨i0,hi,hz0,hz1,hz2⟩:=info_parts Tryz.info102;have hM:=zfe (P:=Tryz.prog) 51 134 i0 Tryz.underlying51 hi hz0 hz1 hz2;have hA:=zml (P:=Tryz.prog) 51 134 i0 Tryz.underlying51 hi hz0 hz1 hz2;clear hi hz0 hz1 hz2;go_enter Tryz.func145,Tryz.ntmps145
 go_wp2_with (first
  |(go_at_call 91;refine(rcmp_ge va vb m n _ ha.nat hb.nat h).mono ?_;rintro e w1 ⟨⟨c,rfl,hc⟩,hb1⟩)
  |(go_at_call 160;refine(zee vb n _ (hb.nat.bw hb1)).mono ?_;rintro e w2 ⟨rfl,hb2⟩;have hbw2:=zaa hb1 hb2))
 rw[HSI.o];clear hbits HSI hc;have hax:=(ha.bw hbw2).v
 have HCAP:zI (∀ (wx:World) (v:Value),zsc wx 134 w.heap.size v (zja X++ [0,0])->zda X+1<=scap v):=zH (λ wx v hv=>by
  have h1:=hv.nat.sl.le;have h2:slen v=zda X+2:=by rw[hv.nat.len];simp[zda]
  omega)
 have HYT:zI (∀ (wx:World) (v:Value),zpb wx v Y->wx.cell? (ptr v (zda n-1))=some (.int .u32 (top:Nat))):=zH (λ wx v hv=>by
  obtain⟨h1,h2⟩:=List.getElem?_eq_some_iff.1 HTOP.o.1;rw[<-h2];exact hv.v.cell _ h1)
 have ht32:top<4294967296:=by
  obtain⟨h1,h2⟩:=List.getElem?_eq_some_iff.1 HTOP.o.1;rw[<-h2];exact zvb Y _ (zGM _)
 have tok1:True:=trivial;have tok2:True:=trivial;have tok3:True:=trivial;have hroomX:(zja X).length+ [0,0].length<=35184372088832:=by show zda X+2<=_;omega
 have HRX:=zH hroomX;clear hroomX
 go_wp2_with (first
  |(go_at_call 161;have _t:=tok1;refine(rup_own va (zja m) s _ hax HMl.o HSS.o).mono ?_;rw[zfa,HXE.o];rintro e w3 ⟨x0,rfl,hx0,hx02,hb3⟩;clear tok1 _t;have hbw3:=zaa hbw2 hb3)
  |(at_builtin;go_loud (refine hA _ rfl _ _ rfl w.heap.size x0 (zja X) rfl (by exact(hx0.mono hbw2.size).bw (zjr _ _)) _ rfl [0,0] (by exact ztn _ _ 0 0 zD zD) HRX.o (by exact zLT hbw3.size (zjr _ _).size) ?_);intro xv w4 hxv _ hb4;have hbw4:=(hbw3.trans ((zjr _ _).mono hbw3.size)).trans hb4)
  |(go_at_call 161;have _t:=tok2;refine(rup_own vb (zja n) s _ (hb.v.bw hbw4) HNl.o HSS.o).mono ?_;rw[zfa,HYE.o];rintro e w5 ⟨yv,rfl,hyv,hyv2,hb5⟩;have hbw5:=zaa hbw4 hb5;clear tok2 _t)
  |(go_at_call 161;have _t:=tok3;refine(rup_any va (zja m) s _ (ha.v.bw hbw5) HMl.o HSS.o).mono ?_;rw[zfa,HXE.o];rintro e w6 ⟨x2,rfl,hx2,hb6⟩;have sx2:=hx2.v.sl;have lx2:slen x2=zda X:=hx2.v.len;have hb56:=zaa hb5 hb6;have hx6:=hxv.bw hb56;have hy6:zpb w6 yv Y:=⟨(hyv.bw hb6).nat,hyv2⟩;have hbw6:=hbw4.trans (hb56.mono hbw4.size);have sxv:=hx6.nat.sl;have cxv:zda X+1<=scap xv:=HCAP.o _ _ hx6;have cxv1:zda X<scap xv:=cxv;have cxv2:(zda X:Int)+1<=scap xv:=zO;have cxv3:(0:Int)<=(zda X:Int)+1:=zO;have stk:=sxv.tk cxv;have ltk:=sxv.slen_tk (zda X+1);have syv:=hy6.v.sl;have lyv:slen yv=zda n:=hy6.v.len.trans HNY.o;have hyt:=(HYT.o _ _ hy6);clear tok3 _t)
  |(refine hM _ rfl _ _ rfl w.heap.size _ M (by have:=HMl2.o;omega) rfl rfl zO (by exact hbw6.size) ?_;intro qv w7 hqv hb7 hqb;have sqv:=hqv.nat.sl;have lqv:slen qv=M:=hqv.nat.len.trans (by simp)))
 have hbw7:=hbw6.trans (hb7.mono hbw6.size);have hx7:=hx6.bw hb7;have hy7:=hy6.bw hb7;have hxbl:=hxv.block (by simp);have hybl:=hyv.block (by show 0<zda Y;omega);have hne1:(base xv).block<(base yv).block:=zO;have hne2:(base yv).block<(base qv).block:=by have:=hb6.size;omega
 have hqlt:=(hqv.block (by simp;omega)).2;have HNE:=zH (zAI hne1 hne2)
 have hty:top<=top/\pw (zda n-1)*top<=Y:=by
  obtain⟨h1,h2⟩:=List.getElem?_eq_some_iff.1 HTOP.o.1;have:=top_le (l:=zja Y) (N:=zda n) HNY.o zO;rw[zfa]at this;rw[<-h2];exact⟨zLR _,this⟩
 have HTY:=zH hty.2;have hL:zda X+1<=514:=zO;clear hxv hyv hx6 hy6 hx0 hx2 hb1 hb2 hb3 hb4 hb5 hb6 hb7 hb56 hbw2 hbw3 hbw4 hbw5 hbw6 hax cxv cxv1 cxv2 cxv3 hyt hxbl hybl hne1 hne2 hty hqb hyv2 hx02 sx2 lx2 hLX hLN hnm hmb hn1 la lb sa sb
 go_loopw [15] (λ u15 wr=>∃ (k:Nat) (o qd:List Nat),k<=M/\u15= .int .i64 ((k:Int)-1)/\zsc wr 134 w.heap.size xv o/\o.length=zda X+2/\zsc wr 134 w.heap.size qv qd/\qd.length=M/\zpb wr yv Y/\
  X=Y*pw k*val (qd.drop k)+val o/\val o<Y*pw k/\Below w.heap.size w wr/\(base qv).block<wr.heap.size) (λ u15 _=>(intOf u15+1).toNat)
 case atStart=>exact⟨M,zja X++ [0,0],_,zLR _,rfl,hx7,by simp[zda],hqv,by simp,hy7,by rw[List.drop_of_length_le (by simp),zoc,zfa];simp[val],by rw[zoc,zfa];simp only[val];exact HBEG.o,hbw7,hqlt⟩
 case round=>
  have hMl:=HMl2.o;obtain⟨k,o,qd,hk,rfl,hx,hol,hq,hqdl,hy,hval,hlt,hbr,hqb⟩:=hrel;clear hx7 hqv hy7 hbw7 hqlt;by_cases hk0:0<k
  ·obtain⟨j,rfl⟩:∃j,k=j+1:=⟨k-1,zO⟩;rw[show(((j+1:Nat):Int)-1)=(j:Int)from zO];obtain⟨o1,o2,o3,o4⟩:=zin (o:=o) (j:=j) (n:=zda n) (V:=Y) zO hx.lm (by rw[<-HNY.o];exact zcf Y) (by rw[<-zrb];exact hlt) zO;(have hAl:(o.take j).length=j:=by rw[zTK];omega);have hpl:((o.drop j).take (zda n+1)).length=zda n+1:=by rw[zTK,List.length_drop];omega
   have hpt:((o.take (zda X+1)).drop j).take (zda n+1)=(o.drop j).take (zda n+1):=by
    rw[List.drop_take,List.take_take,Nat.min_eq_left zO]
   generalize o.take j=A at *
   generalize (o.drop j).take (zda n+1)=p at *
   generalize o.drop (j+(zda n+1))=C at *
   subst hAl;have hwin:=window_top hpl zO (λ x hx'=>hx.lm x (by rw[o1];simp[hx']));have HGG:=zH (λ t ht=>guess_ge (t:=t) (Q:=val p/Y) (hwin.1.trans ht) hwin.2 HTY.o rfl (by have:=HTOP.o.2;omega));subst o1;obtain⟨hc1,hf1⟩:=zal hx (zda n) zO;obtain⟨hc0,hf0⟩:=zal hx (zda n-1) zO;have a1:p[zda n]' zO<4294967296:=hx.lm _ (by simp);have a0:p[zda n-1]' zO<4294967296:=hx.lm _ (by simp);rw[show A.length+(zda n-1)=A.length+zda n-1 from zO]at hc0;have hor:=or_lo _ _ a1 a0;have HGT:=zH (HGG.o _ rfl);(have hQ32:val p/Y<4294967296:=by rw[Nat.div_lt_iff_lt_mul HXY.o.2,Nat.mul_comm];exact o3);have HQ32:=zH hQ32;have HO2:=zH o2;have HO4:=zH o4;have HPL:=zH hpl;have HPT:=zH hpt;have HV:=zH hval;have HOL:=zH hol;have HQL:=zH hqdl;have hjN:A.length+zda n+1<=zda X+1:=zO;have ht2:2147483648<=top:=HTOP.o.2;generalize p[zda n]' zO=x1 at *
   generalize p[zda n-1]' zO=x0' at *
   clear hMl o2 o3 o4 hpl hpt hval hol hqdl hf1 hf0 hwin HGG hQ32 hlt;have e1:IntKind.i64.wrap ((A.length:Int)+(zda n:Nat))=(A.length:Int)+(zda n:Nat):=IntWalk.i64_in _ zO;have e2:((A.length:Int)+(zda n:Nat)).toNat=A.length+zda n:=zO;have e3:(0:Int)<=(A.length:Int)+(zda n:Nat):=zO;have e4:(A.length:Int)+(zda n:Nat)<((zda X+1:Nat):Int):=zO;have e5:IntKind.i64.wrap ((A.length:Int)+(zda n:Nat)-1)=(A.length:Int)+(zda n:Nat)-1:=IntWalk.i64_in _ zO;have e6:((A.length:Int)+(zda n:Nat)-1).toNat=A.length+zda n-1:=zO;have e7:(1:Int)<=(A.length:Int)+(zda n:Nat):=zO;have e8:(A.length:Int)+(zda n:Nat)-1<((zda X+1:Nat):Int):=zO;(have e9:IntKind.u64.wrap ((x1:Int)*4294967296)=(x1:Int)*4294967296:=by rw[zhc];omega);go_wp2_with fail;go_quiet (fail);clear e1 e2 e3 e4 e5 e6 e7 e8 e9 hor hc1 hc0;rw[show((x1:Int)*4294967296+(x0':Int))=((x1*4294967296+x0':Nat):Int)from zO];have ht64:x1*4294967296+x0'<18446744073709551616:=zO;generalize x1*4294967296+x0'=t at *
   have hx:=hx.drawn nq;have hq:=hq.drawn nq;have hy:=hy.drawn nq;have hbr:=hbr.trans ((zia wr nq).mono hbr.size);have hqb:=zLM hqb (zia (B:=wr.heap.size) wr nq).size;generalize wr.drewN nq=W at *
   (have HGT2:=fun(g:Nat)=>zH (guess_gt (Y:=Y) (g:=g) (V:=val p) (Q:=val p/Y) HXY.o.2 rfl));have HQE:=zH (rfl:val p/Y=val p/Y);obtain⟨Q,hQ⟩:∃Q,val p/Y=Q:=⟨_,rfl⟩;rw[hQ]at HGT HQ32 HGT2;have HQ:=zH hQ;clear hQ HQE
   have hw:IntKind.u64.wrap ((t:Int)/(top:Int))=((t/top:Nat):Int):=by
    rw[<-Int.natCast_ediv,zhc];have h5:t/top<=t:=Nat.div_le_self _ _;generalize t/top=z at *
    omega
   have YL:zI ((zja Y).length<=65536):=zH (by have h5:=HNY.o;unfold zda at h5;unfold zda at hnb;omega);have PL:zI (p.length<=65536):=zH (by have h5:=HPL.o;omega);have PL2:zI (([]:List Nat).length+p.length<=35184372088832):=zH (by have h5:=PL.o;rw[List.length_nil];omega)
   have HCUT:zI (∀wi:World,Below W.heap.size W wi->zI (ztc wi (cut 1 (tk xv (zda X+1)) A.length (A.length+zda n+1)) p)):=zH (λ wi hwi=>zH (by
    have h5:=(hx.bw hwi).nat.tk (zda X+1) (by have:=HOL.o;omega);have h6:=h5.cut A.length (A.length+zda n+1) zO (by rw[zTK];have:=HOL.o;omega);rw[show A.length+zda n+1-A.length=zda n+1 from zO,HPT.o]at h6;exact h6))
   have HQB:zI (Q<=4294967295):=zH (by have h5:=HQ32.o;omega);have G0:=HGT.o;have HG0:=zH G0;clear G0 HGT;generalize t/top=G0 at *
   have e1:IntKind.i64.wrap ((A.length:Int)+(zda n:Nat))=(A.length:Int)+(zda n:Nat):=IntWalk.i64_in _ zO;have e2:IntKind.i64.wrap ((A.length:Int)+(zda n:Nat)+1)=(A.length:Int)+(zda n:Nat)+1:=IntWalk.i64_in _ zO;have e3:((A.length:Int)+(zda n:Nat)+1).toNat=A.length+zda n+1:=zO;have e4:(A.length:Int)<=(A.length:Int)+(zda n:Nat)+1:=zO;(have e5:(A.length:Int)+(zda n:Nat)+1<=(scap (tk xv (zda X+1)):Nat):=by have h5:=stk.le;rw[ltk]at h5;omega);have E:=zH (zAI e1 (zAI e2 (zAI e3 (zAI e4 e5))));clear e1 e2 e3 e4 e5;have HW:=zH hw;by_cases hgb:4294967295<G0
   ·have hgd:decide ((4294967295:Int)<(G0:Int))=true:=zDT zO;go_wp2_with fail;go_loopw [17] (λ u17 wi=>∃g:Nat,u17= .int .u64 g/\Q<=g/\g<4294967296/\Below W.heap.size W wi) (λ u17 _=>(intOf u17).toNat);case atStart=>exact⟨4294967295,rfl,HQB.o,zD,zBR _ _⟩
    case round=>
     obtain⟨g,rfl,hQg,hg,hwi⟩:=hrel;have G64:zI (g<18446744073709551616):=zH zO;have GL:zI ((zja g).length<=65536):=zH (by have h5:zda g<=1:=zcc.2 (by simpa [pw]using hg);unfold zda at h5;omega);by_cases hgq:Q<g
     ·have HGQ:=zH ((HGT2 g).o.2 hgq);go_wp2_with fail;obtain⟨e1,e2,e3,e4,e5⟩:=E.o
      go_region_law (first
       |(refine zxc rfl 81 #[.int .u64 g] (by go_simp) (zde g G64.o _) ?_;rintro e wa ⟨gv,rfl,hgv,hba⟩;refine⟨_,rfl,?_⟩;have hwa:=zaa hwi (zaa (zha _) hba))
       |(refine zxc rfl 152 #[yv,gv] (by go_simp) (zme yv gv (zja Y) (zja g) _ (hy.bw hwa).v hgv.v YL.o GL.o) ?_;rw[zfa,zfa];rintro e wb ⟨tv,rfl,htv,hbb⟩;refine⟨_,rfl,?_⟩;have hwb:=zaa hwa hbb;have hct:=(HCUT.o _ hwb).o;have hisn:IsN wb _:=⟨p,hct,PL.o⟩;have hao:=zkr wb _ p hct PL.o;have hpn:=(hao.1.nat.natN (zLT PL.o zD)))
       |(refine zem (cut 1 (tk xv (zda X+1)) A.length (A.length+zda n+1)) (by go_simp) hisn ?_)
       |(refine zxc rfl 91 #[tv,appV wb (cut 1 (tk xv (zda X+1)) A.length (A.length+zda n+1))] (by go_simp) (rcmp_gt tv _ (Y*g) (val p) _ (htv.nat.bw hao.2) hpn HGQ.o) ?_;rintro e wd ⟨⟨c1,rfl,hc1⟩,hbd⟩;refine⟨_,rfl,?_⟩))
      clear e1 e2 e3 e4 e5;have hwd:=zaa (zaa hwb hao.2) hbd;have hgi:(g:Int)-1=((g-1:Nat):Int):=zO;clear hao hpn hisn hct htv hgv hba hbb hbd hwa hwb;go_wp2_with fail;go_roundw;(case rel=>exact⟨g-1,by rw[<-hgi],zO,zO,hwd⟩);case measure=>simp[intOf];omega
     ·have hle:Y*g<=val p:=Nat.le_of_not_lt (λ h5=>hgq ((HGT2 g).o.1 h5));have HGQ:=zH hle;have HGE:zI (Q=g):=zH zO;have HLE:zI ((zja (Y*g)).length<=p.length):=zH (zLT (zfb hle) (zxb (λ x h5=>hx.lm x (by simp[h5]))));have HVE:zI (val (zja (Y*g))<=val p):=zH (by rw[zfa];exact hle);clear hle;go_wp2_with fail;obtain⟨e1,e2,e3,e4,e5⟩:=E.o
      go_region_law (first
       |(refine zxc rfl 81 #[.int .u64 g] (by go_simp) (zde g G64.o _) ?_;rintro e wa ⟨gv,rfl,hgv,hba⟩;refine⟨_,rfl,?_⟩;have hwa:=zaa hwi (zaa (zha _) hba))
       |(refine zxc rfl 152 #[yv,gv] (by go_simp) (zme yv gv (zja Y) (zja g) _ (hy.bw hwa).v hgv.v YL.o GL.o) ?_;rw[zfa,zfa];rintro e wb ⟨tv,rfl,htv,hbb⟩;refine⟨_,rfl,?_⟩;have hwb:=zaa hwa hbb;have hct:=(HCUT.o _ hwb).o;have hisn:IsN wb _:=⟨p,hct,PL.o⟩;have hao:=zkr wb _ p hct PL.o;have hpn:=(hao.1.nat.natN (zLT PL.o zD)))
       |(refine zem (cut 1 (tk xv (zda X+1)) A.length (A.length+zda n+1)) (by go_simp) hisn ?_)
       |(refine zxc rfl 91 #[tv,appV wb (cut 1 (tk xv (zda X+1)) A.length (A.length+zda n+1))] (by go_simp) (rcmp_le tv _ (Y*g) (val p) _ (htv.nat.bw hao.2) hpn HGQ.o) ?_;rintro e wd ⟨⟨c1,rfl,hc1⟩,hbd⟩;refine⟨_,rfl,?_⟩))
      clear e1 e2 e3 e4 e5;have hwd:=zaa (zaa hwb hao.2) hbd;clear hao hpn hisn hct htv hgv hba hbb hbd hwa hwb;have hct:=(HCUT.o _ hwd).o;have e6:(A.length:Int)+(zda n:Nat)+1<=(scap (tk xv (zda X+1)):Nat):=E.o.2.2.2.2;have e7:A.length+zda n+1<=scap (tk xv (zda X+1)):=zO;have e8:A.length+zda n<scap (tk xv (zda X+1)):=zO
      go_wp2_with (first
       |(at_builtin;refine hA _ rfl _ _ rfl wd.heap.size (.slice none 0 0) [] rfl (zsc.nil _ _ _) _ rfl p (by exact hct) PL2.o (zLR _) ?_;intro pv we hpv _ hbe;have hwe:=zaa hwd hbe)
       |(go_at_call 81;(with_reducible refine(zde g G64.o _).mono ?_);rintro e wf ⟨gv,rfl,hgv,hbf⟩;have hwf:=zaa hwe hbf)
       |(go_at_call 152;(with_reducible refine(zme yv gv (zja Y) (zja g) _ (hy.bw hwf).v hgv.v YL.o GL.o).mono ?_);rw[zfa,zfa];rintro e wg ⟨tv,rfl,htv,hbg⟩;have hwg:=zaa hwf hbg)
       |(go_at_call 134;refine(zyn pv tv p (zja (Y*g)) _ (by exact((hpv.nat.bw hbf).bw hbg)) htv.v PL.o HLE.o HVE.o).mono ?_;rw[zfa];rintro e wh ⟨rv,rfl,hrv,hrv2,hbh⟩;have hwh:=zaa hwg hbh))
      have hx8:=hx.bw hwh;have hq8:=hq.bw hwh;have hy8:=hy.bw hwh;have hbr8:=hbr.trans (hwh.mono hbr.size);have hqb8:=zLM hqb hwh.size
      have hrblk:0<(zja (val p-Y*g)).length->(base xv).block<(base rv).block/\(base qv).block<(base rv).block:=λ h5=>by
       have h6:=(hrv.block h5).1;have h7:=hwg.size;have h8:=HNE.o;omega
      have hrn:ztc wh rv (zja (val p-Y*g)):=hrv.nat;have hRl:(zja (val p-Y*g)).length<=p.length:=zLT (zfb (Nat.sub_le _ _)) (zxb (λ x h5=>hx.lm x (by simp[h5])));(have hRv:val (zja (val p-Y*g))=val p%Y:=by rw[zfa,Nat.mod_eq_sub_mul_div,HQ.o,HGE.o]);obtain⟨R,hR⟩:∃R,zja (val p-Y*g)=R:=⟨_,rfl⟩;rw[hR]at hrblk hrn hRl hRv;have HRB:=zH hrblk;have HRL:=zH hRl;have HRV:=zH hRv;have hrsl:=hrn.sl;have hrlen:slen rv=R.length:=hrn.len;(have hRb:R.length<=514:=by have h5:=HPL.o;omega);clear hR hrblk hRl hRv hrv hrv2 hx hq hy hbr hqb hwd hct e6 e7 e8 hpv hbe hwe hgv hbf hwf htv hbg hwg hbh HVE HLE HGQ hgq hwi
      go_loopw [19] (λ u19 wi=>∃ (jj:Nat) (p':List Nat),jj<=zda n+1/\u19= .int .i64 jj/\zsc wi 134 w.heap.size xv (A++p'++C)/\p'.length=zda n+1/\val (p'.take jj)=val (R.take jj)/\
       zsc wi 134 w.heap.size qv qd/\zpb wi yv Y/\ztc wi rv R/\Below w.heap.size w wi/\(base qv).block<wi.heap.size) (λ u19 _=>zda n+1- (intOf u19).toNat)
      case atStart=>exact⟨0,p,zO,rfl,hx8,HPL.o,by simp,hq8,hy8,hrn,hbr8,hqb8⟩
      case round=>
       obtain⟨jj,p',hjj,rfl,hx9,hpl9,hv9,hq9,hy9,hr9,hbr9,hqb9⟩:=hrel;clear hx8 hq8 hy8 hrn hbr8 hqb8;have HV9:=zH hv9;have HPL9:=zH hpl9;clear hv9;have hxq:=HNE.o;by_cases hjn:jj<=zda n
       ·obtain⟨hc9,hf9⟩:=zal hx9 jj zO;generalize p'[jj]' zO=y0 at *
        have hidx:A.length+jj<zda X+1:=zO;have hjp:jj<p'.length:=zO;have hs0:zsc (wr.setCell (ptr xv (A.length+jj)) (.int .u32 0)) 134 w.heap.size xv (A++p'.set jj 0++C)/\Below w.heap.size wr (wr.setCell (ptr xv (A.length+jj)) (.int .u32 0)):=zrg hx9 jj hjp 0 zD;have HT:=zH (zng R jj);(have hRz:∀z:Nat,z=R.getD jj 0->zI (val ((p'.set jj z).take (jj+1))=val (R.take (jj+1))):=λ z hz=>zH (zqj hjp hz HT.o HV9.o));have hq10:=hq9.other (ptr xv (A.length+jj)) (.int .u32 0) (by rw[zma];omega);have hy10:zpb (wr.setCell (ptr xv (A.length+jj)) (.int .u32 0)) yv Y:=⟨hy9.v.other (ptr xv (A.length+jj)) (.int .u32 0) (by rw[zma];omega),hy9.2⟩;(have hsz:(wr.setCell (ptr xv (A.length+jj)) (.int .u32 0)).heap.size=wr.heap.size:=by simp[World.setCell]);by_cases hjr:jj<R.length
        ·have hbne:=HRB.o zO;have hr10:=hr9.other (ptr xv (A.length+jj)) (.int .u32 0) (by rw[zma];omega);have hz:=hr10.cell jj hjr;have hz1:=hr9.lt jj hjr;have HZ:=hRz R[jj] (zyf R jj hjr).symm;generalize R[jj]'hjr=z at *
         have hs1:=zrg hs0.1 jj (by simpa using hjp) z hz1;rw[List.set_set]at hs1;have hf10:=(zal hs0.1 jj (by simpa using hjp)).2;have hq11:=hq10.other (ptr xv (A.length+jj)) (.int .u32 (z:Nat)) (by rw[zma];omega);have hy11:zpb ((wr.setCell (ptr xv (A.length+jj)) (.int .u32 0)).setCell (ptr xv (A.length+jj)) (.int .u32 (z:Nat))) yv Y:=⟨hy10.v.other (ptr xv (A.length+jj)) (.int .u32 (z:Nat)) (by rw[zma];omega),hy10.2⟩;have hr11:=hr10.other (ptr xv (A.length+jj)) (.int .u32 (z:Nat)) (by rw[zma];omega);(have hsz2:((wr.setCell (ptr xv (A.length+jj)) (.int .u32 0)).setCell (ptr xv (A.length+jj)) (.int .u32 (z:Nat))).heap.size=wr.heap.size:=by simp[World.setCell]);have hbr11:=hbr9.trans (hs0.2.trans hs1.2);have F:=zH (zAI hs1.1 (zAI hq11 (zAI hy11 (zAI hr11 (zAI hbr11 hsz2)))));clear hs0 hs1 hq11 hy11 hr11 hbr11 hsz2 hq10 hy10 hr10 hsz hRz hjp hpl9;go_wp2_with fail;go_roundw;(case rel=>exact⟨jj+1,p'.set jj z,zO,by go_num,F.o.1,by rw[zGS];exact HPL9.o,HZ.o,F.o.2.1,F.o.2.2.1,F.o.2.2.2.1,F.o.2.2.2.2.1,by rw[F.o.2.2.2.2.2];exact hqb9⟩);case measure=>simp[intOf];omega
        ·have HZ:=hRz 0 (zmk R jj zO).symm
         have hr10:ztc (wr.setCell (ptr xv (A.length+jj)) (.int .u32 0)) rv R:=by
          by_cases h5:0<R.length
          ·have hbne:=HRB.o h5;exact hr9.other (ptr xv (A.length+jj)) (.int .u32 0) (by rw[zma];omega)
          ·exact⟨hr9.sl,hr9.len,λ j5 h6=>zO,hr9.lm⟩
         have hbr10:=hbr9.trans hs0.2;have F:=zH (zAI hs0.1 (zAI hq10 (zAI hy10 (zAI hr10 (zAI hbr10 hsz)))));clear hs0 hbr10 hq10 hy10 hr10 hsz hRz hjp hpl9;go_wp2_with fail;go_roundw;(case rel=>exact⟨jj+1,p'.set jj 0,zO,by go_num,F.o.1,by rw[zGS];exact HPL9.o,HZ.o,F.o.2.1,F.o.2.2.1,F.o.2.2.2.1,F.o.2.2.2.2.1,by rw[F.o.2.2.2.2.2];exact hqb9⟩);case measure=>simp[intOf];omega
       ·obtain rfl:jj=zda n+1:=zO
        have hpv:val p'=val p%Y:=by
         have h5:=HV9.o;have h6:=HRL.o;have h7:=HPL.o;rw[zTL zO,zTL zO]at h5;rw[h5];exact HRV.o
        (have hqa:A.length<qd.length:=by have h5:=HQL.o;omega);have HF:=zH (zae (ou:=zja X) (lv:=zja Y) (p':=p') (by rw[zfa,zfa];exact HV.o) (λ x h5=>hx9.lm x (by simp[h5])) HO2.o HO4.o (by rw[zfa];exact HXY.o.2) (Q:=g) (by rw[zfa];exact HQ.o.trans HGE.o) (by rw[zfa];exact hpv) hqa);have hset:=hq9.set A.length hqa g hg;have hfz:=hq9.frozen A.length hqa;have hco:=hq9.nat.cell A.length hqa;generalize qd[A.length]'hqa=q0 at *
        have hx10:=hx9.other (ptr qv A.length) (.int .u32 (g:Nat)) (by rw[zma];omega);have hy10:zpb (wr.setCell (ptr qv A.length) (.int .u32 (g:Nat))) yv Y:=⟨hy9.v.other (ptr qv A.length) (.int .u32 (g:Nat)) (by rw[zma];omega),hy9.2⟩;(have hsz:(wr.setCell (ptr qv A.length) (.int .u32 (g:Nat))).heap.size=wr.heap.size:=by simp[World.setCell]);have F:=zH (zAI hx10 (zAI hset.1 (zAI hy10 (zAI (hbr9.trans hset.2) hsz))));have HAL:zI ((A++p'++C).length=zda X+2):=zH (by have h5:=HOL.o;have h6:=HPL.o;simp only[zLA]at h5 |-;omega);clear hx10 hset hy10 hsz hpv hqa hpl9;go_wp2_with fail;go_roundw
        case rel=>
         have h5:=HF.o;rw[zfa,zfa]at h5;exact⟨A.length,A++p'++C,_,zO,by go_num,F.o.1,HAL.o,F.o.2.1,by rw[zGS];exact HQL.o,F.o.2.2.1,h5.1,h5.2,F.o.2.2.2.1,by rw[F.o.2.2.2.2];exact hqb9⟩
        case measure=>simp[intOf]
   ·have hgd:decide ((4294967295:Int)<(G0:Int))=false:=zDF zO;have HG2:zI (G0<4294967296):=zH zO;go_wp2_with fail;go_loopw [17] (λ u17 wi=>∃g:Nat,u17= .int .u64 g/\Q<=g/\g<4294967296/\Below W.heap.size W wi) (λ u17 _=>(intOf u17).toNat);case atStart=>exact⟨G0,rfl,HG0.o,HG2.o,zBR _ _⟩
    case round=>
     obtain⟨g,rfl,hQg,hg,hwi⟩:=hrel;have G64:zI (g<18446744073709551616):=zH zO;have GL:zI ((zja g).length<=65536):=zH (by have h5:zda g<=1:=zcc.2 (by simpa [pw]using hg);unfold zda at h5;omega);by_cases hgq:Q<g
     ·have HGQ:=zH ((HGT2 g).o.2 hgq);go_wp2_with fail;obtain⟨e1,e2,e3,e4,e5⟩:=E.o
      go_region_law (first
       |(refine zxc rfl 81 #[.int .u64 g] (by go_simp) (zde g G64.o _) ?_;rintro e wa ⟨gv,rfl,hgv,hba⟩;refine⟨_,rfl,?_⟩;have hwa:=zaa hwi (zaa (zha _) hba))
       |(refine zxc rfl 152 #[yv,gv] (by go_simp) (zme yv gv (zja Y) (zja g) _ (hy.bw hwa).v hgv.v YL.o GL.o) ?_;rw[zfa,zfa];rintro e wb ⟨tv,rfl,htv,hbb⟩;refine⟨_,rfl,?_⟩;have hwb:=zaa hwa hbb;have hct:=(HCUT.o _ hwb).o;have hisn:IsN wb _:=⟨p,hct,PL.o⟩;have hao:=zkr wb _ p hct PL.o;have hpn:=(hao.1.nat.natN (zLT PL.o zD)))
       |(refine zem (cut 1 (tk xv (zda X+1)) A.length (A.length+zda n+1)) (by go_simp) hisn ?_)
       |(refine zxc rfl 91 #[tv,appV wb (cut 1 (tk xv (zda X+1)) A.length (A.length+zda n+1))] (by go_simp) (rcmp_gt tv _ (Y*g) (val p) _ (htv.nat.bw hao.2) hpn HGQ.o) ?_;rintro e wd ⟨⟨c1,rfl,hc1⟩,hbd⟩;refine⟨_,rfl,?_⟩))
      clear e1 e2 e3 e4 e5;have hwd:=zaa (zaa hwb hao.2) hbd;have hgi:(g:Int)-1=((g-1:Nat):Int):=zO;clear hao hpn hisn hct htv hgv hba hbb hbd hwa hwb;go_wp2_with fail;go_roundw;(case rel=>exact⟨g-1,by rw[<-hgi],zO,zO,hwd⟩);case measure=>simp[intOf];omega
     ·have hle:Y*g<=val p:=Nat.le_of_not_lt (λ h5=>hgq ((HGT2 g).o.1 h5));have HGQ:=zH hle;have HGE:zI (Q=g):=zH zO;have HLE:zI ((zja (Y*g)).length<=p.length):=zH (zLT (zfb hle) (zxb (λ x h5=>hx.lm x (by simp[h5]))));have HVE:zI (val (zja (Y*g))<=val p):=zH (by rw[zfa];exact hle);clear hle;go_wp2_with fail;obtain⟨e1,e2,e3,e4,e5⟩:=E.o
      go_region_law (first
       |(refine zxc rfl 81 #[.int .u64 g] (by go_simp) (zde g G64.o _) ?_;rintro e wa ⟨gv,rfl,hgv,hba⟩;refine⟨_,rfl,?_⟩;have hwa:=zaa hwi (zaa (zha _) hba))
       |(refine zxc rfl 152 #[yv,gv] (by go_simp) (zme yv gv (zja Y) (zja g) _ (hy.bw hwa).v hgv.v YL.o GL.o) ?_;rw[zfa,zfa];rintro e wb ⟨tv,rfl,htv,hbb⟩;refine⟨_,rfl,?_⟩;have hwb:=zaa hwa hbb;have hct:=(HCUT.o _ hwb).o;have hisn:IsN wb _:=⟨p,hct,PL.o⟩;have hao:=zkr wb _ p hct PL.o;have hpn:=(hao.1.nat.natN (zLT PL.o zD)))
       |(refine zem (cut 1 (tk xv (zda X+1)) A.length (A.length+zda n+1)) (by go_simp) hisn ?_)
       |(refine zxc rfl 91 #[tv,appV wb (cut 1 (tk xv (zda X+1)) A.length (A.length+zda n+1))] (by go_simp) (rcmp_le tv _ (Y*g) (val p) _ (htv.nat.bw hao.2) hpn HGQ.o) ?_;rintro e wd ⟨⟨c1,rfl,hc1⟩,hbd⟩;refine⟨_,rfl,?_⟩))
      clear e1 e2 e3 e4 e5;have hwd:=zaa (zaa hwb hao.2) hbd;clear hao hpn hisn hct htv hgv hba hbb hbd hwa hwb;have hct:=(HCUT.o _ hwd).o;have e6:(A.length:Int)+(zda n:Nat)+1<=(scap (tk xv (zda X+1)):Nat):=E.o.2.2.2.2;have e7:A.length+zda n+1<=scap (tk xv (zda X+1)):=zO;have e8:A.length+zda n<scap (tk xv (zda X+1)):=zO
      go_wp2_with (first
       |(at_builtin;refine hA _ rfl _ _ rfl wd.heap.size (.slice none 0 0) [] rfl (zsc.nil _ _ _) _ rfl p (by exact hct) PL2.o (zLR _) ?_;intro pv we hpv _ hbe;have hwe:=zaa hwd hbe)
       |(go_at_call 81;(with_reducible refine(zde g G64.o _).mono ?_);rintro e wf ⟨gv,rfl,hgv,hbf⟩;have hwf:=zaa hwe hbf)
       |(go_at_call 152;(with_reducible refine(zme yv gv (zja Y) (zja g) _ (hy.bw hwf).v hgv.v YL.o GL.o).mono ?_);rw[zfa,zfa];rintro e wg ⟨tv,rfl,htv,hbg⟩;have hwg:=zaa hwf hbg)
       |(go_at_call 134;refine(zyn pv tv p (zja (Y*g)) _ (by exact((hpv.nat.bw hbf).bw hbg)) htv.v PL.o HLE.o HVE.o).mono ?_;rw[zfa];rintro e wh ⟨rv,rfl,hrv,hrv2,hbh⟩;have hwh:=zaa hwg hbh))
      have hx8:=hx.bw hwh;have hq8:=hq.bw hwh;have hy8:=hy.bw hwh;have hbr8:=hbr.trans (hwh.mono hbr.size);have hqb8:=zLM hqb hwh.size
      have hrblk:0<(zja (val p-Y*g)).length->(base xv).block<(base rv).block/\(base qv).block<(base rv).block:=λ h5=>by
       have h6:=(hrv.block h5).1;have h7:=hwg.size;have h8:=HNE.o;omega
      have hrn:ztc wh rv (zja (val p-Y*g)):=hrv.nat;have hRl:(zja (val p-Y*g)).length<=p.length:=zLT (zfb (Nat.sub_le _ _)) (zxb (λ x h5=>hx.lm x (by simp[h5])));(have hRv:val (zja (val p-Y*g))=val p%Y:=by rw[zfa,Nat.mod_eq_sub_mul_div,HQ.o,HGE.o]);obtain⟨R,hR⟩:∃R,zja (val p-Y*g)=R:=⟨_,rfl⟩;rw[hR]at hrblk hrn hRl hRv;have HRB:=zH hrblk;have HRL:=zH hRl;have HRV:=zH hRv;have hrsl:=hrn.sl;have hrlen:slen rv=R.length:=hrn.len;(have hRb:R.length<=514:=by have h5:=HPL.o;omega);clear hR hrblk hRl hRv hrv hrv2 hx hq hy hbr hqb hwd hct e6 e7 e8 hpv hbe hwe hgv hbf hwf htv hbg hwg hbh HVE HLE HGQ hgq hwi
      go_loopw [19] (λ u19 wi=>∃ (jj:Nat) (p':List Nat),jj<=zda n+1/\u19= .int .i64 jj/\zsc wi 134 w.heap.size xv (A++p'++C)/\p'.length=zda n+1/\val (p'.take jj)=val (R.take jj)/\
       zsc wi 134 w.heap.size qv qd/\zpb wi yv Y/\ztc wi rv R/\Below w.heap.size w wi/\(base qv).block<wi.heap.size) (λ u19 _=>zda n+1- (intOf u19).toNat)
      case atStart=>exact⟨0,p,zO,rfl,hx8,HPL.o,by simp,hq8,hy8,hrn,hbr8,hqb8⟩
      case round=>
       obtain⟨jj,p',hjj,rfl,hx9,hpl9,hv9,hq9,hy9,hr9,hbr9,hqb9⟩:=hrel;clear hx8 hq8 hy8 hrn hbr8 hqb8;have HV9:=zH hv9;have HPL9:=zH hpl9;clear hv9;have hxq:=HNE.o;by_cases hjn:jj<=zda n
       ·obtain⟨hc9,hf9⟩:=zal hx9 jj zO;generalize p'[jj]' zO=y0 at *
        have hidx:A.length+jj<zda X+1:=zO;have hjp:jj<p'.length:=zO;have hs0:zsc (wr.setCell (ptr xv (A.length+jj)) (.int .u32 0)) 134 w.heap.size xv (A++p'.set jj 0++C)/\Below w.heap.size wr (wr.setCell (ptr xv (A.length+jj)) (.int .u32 0)):=zrg hx9 jj hjp 0 zD;have HT:=zH (zng R jj);(have hRz:∀z:Nat,z=R.getD jj 0->zI (val ((p'.set jj z).take (jj+1))=val (R.take (jj+1))):=λ z hz=>zH (zqj hjp hz HT.o HV9.o));have hq10:=hq9.other (ptr xv (A.length+jj)) (.int .u32 0) (by rw[zma];omega);have hy10:zpb (wr.setCell (ptr xv (A.length+jj)) (.int .u32 0)) yv Y:=⟨hy9.v.other (ptr xv (A.length+jj)) (.int .u32 0) (by rw[zma];omega),hy9.2⟩;(have hsz:(wr.setCell (ptr xv (A.length+jj)) (.int .u32 0)).heap.size=wr.heap.size:=by simp[World.setCell]);by_cases hjr:jj<R.length
        ·have hbne:=HRB.o zO;have hr10:=hr9.other (ptr xv (A.length+jj)) (.int .u32 0) (by rw[zma];omega);have hz:=hr10.cell jj hjr;have hz1:=hr9.lt jj hjr;have HZ:=hRz R[jj] (zyf R jj hjr).symm;generalize R[jj]'hjr=z at *
         have hs1:=zrg hs0.1 jj (by simpa using hjp) z hz1;rw[List.set_set]at hs1;have hf10:=(zal hs0.1 jj (by simpa using hjp)).2;have hq11:=hq10.other (ptr xv (A.length+jj)) (.int .u32 (z:Nat)) (by rw[zma];omega);have hy11:zpb ((wr.setCell (ptr xv (A.length+jj)) (.int .u32 0)).setCell (ptr xv (A.length+jj)) (.int .u32 (z:Nat))) yv Y:=⟨hy10.v.other (ptr xv (A.length+jj)) (.int .u32 (z:Nat)) (by rw[zma];omega),hy10.2⟩;have hr11:=hr10.other (ptr xv (A.length+jj)) (.int .u32 (z:Nat)) (by rw[zma];omega);(have hsz2:((wr.setCell (ptr xv (A.length+jj)) (.int .u32 0)).setCell (ptr xv (A.length+jj)) (.int .u32 (z:Nat))).heap.size=wr.heap.size:=by simp[World.setCell]);have hbr11:=hbr9.trans (hs0.2.trans hs1.2);have F:=zH (zAI hs1.1 (zAI hq11 (zAI hy11 (zAI hr11 (zAI hbr11 hsz2)))));clear hs0 hs1 hq11 hy11 hr11 hbr11 hsz2 hq10 hy10 hr10 hsz hRz hjp hpl9;go_wp2_with fail;go_roundw;(case rel=>exact⟨jj+1,p'.set jj z,zO,by go_num,F.o.1,by rw[zGS];exact HPL9.o,HZ.o,F.o.2.1,F.o.2.2.1,F.o.2.2.2.1,F.o.2.2.2.2.1,by rw[F.o.2.2.2.2.2];exact hqb9⟩);case measure=>simp[intOf];omega
        ·have HZ:=hRz 0 (zmk R jj zO).symm
         have hr10:ztc (wr.setCell (ptr xv (A.length+jj)) (.int .u32 0)) rv R:=by
          by_cases h5:0<R.length
          ·have hbne:=HRB.o h5;exact hr9.other (ptr xv (A.length+jj)) (.int .u32 0) (by rw[zma];omega)
          ·exact⟨hr9.sl,hr9.len,λ j5 h6=>zO,hr9.lm⟩
         have hbr10:=hbr9.trans hs0.2;have F:=zH (zAI hs0.1 (zAI hq10 (zAI hy10 (zAI hr10 (zAI hbr10 hsz)))));clear hs0 hbr10 hq10 hy10 hr10 hsz hRz hjp hpl9;go_wp2_with fail;go_roundw;(case rel=>exact⟨jj+1,p'.set jj 0,zO,by go_num,F.o.1,by rw[zGS];exact HPL9.o,HZ.o,F.o.2.1,F.o.2.2.1,F.o.2.2.2.1,F.o.2.2.2.2.1,by rw[F.o.2.2.2.2.2];exact hqb9⟩);case measure=>simp[intOf];omega
       ·obtain rfl:jj=zda n+1:=zO
        have hpv:val p'=val p%Y:=by
         have h5:=HV9.o;have h6:=HRL.o;have h7:=HPL.o;rw[zTL zO,zTL zO]at h5;rw[h5];exact HRV.o
        (have hqa:A.length<qd.length:=by have h5:=HQL.o;omega);have HF:=zH (zae (ou:=zja X) (lv:=zja Y) (p':=p') (by rw[zfa,zfa];exact HV.o) (λ x h5=>hx9.lm x (by simp[h5])) HO2.o HO4.o (by rw[zfa];exact HXY.o.2) (Q:=g) (by rw[zfa];exact HQ.o.trans HGE.o) (by rw[zfa];exact hpv) hqa);have hset:=hq9.set A.length hqa g hg;have hfz:=hq9.frozen A.length hqa;have hco:=hq9.nat.cell A.length hqa;generalize qd[A.length]'hqa=q0 at *
        have hx10:=hx9.other (ptr qv A.length) (.int .u32 (g:Nat)) (by rw[zma];omega);have hy10:zpb (wr.setCell (ptr qv A.length) (.int .u32 (g:Nat))) yv Y:=⟨hy9.v.other (ptr qv A.length) (.int .u32 (g:Nat)) (by rw[zma];omega),hy9.2⟩;(have hsz:(wr.setCell (ptr qv A.length) (.int .u32 (g:Nat))).heap.size=wr.heap.size:=by simp[World.setCell]);have F:=zH (zAI hx10 (zAI hset.1 (zAI hy10 (zAI (hbr9.trans hset.2) hsz))));have HAL:zI ((A++p'++C).length=zda X+2):=zH (by have h5:=HOL.o;have h6:=HPL.o;simp only[zLA]at h5 |-;omega);clear hx10 hset hy10 hsz hpv hqa hpl9;go_wp2_with fail;go_roundw
        case rel=>
         have h5:=HF.o;rw[zfa,zfa]at h5;exact⟨A.length,A++p'++C,_,zO,by go_num,F.o.1,HAL.o,F.o.2.1,by rw[zGS];exact HQL.o,F.o.2.2.1,h5.1,h5.2,F.o.2.2.2.1,by rw[F.o.2.2.2.2];exact hqb9⟩
        case measure=>simp[intOf]
  ·obtain rfl:k=0:=zO;(have hlt2:val o<Y:=by simpa [zxf]using hlt);obtain⟨hqe,hoe⟩:=HREAD.o (val qd) (val o) (by rw[zxf,Nat.mul_one,List.drop_zero]at hval;exact hval) hlt2
   have hoX:val o<pw (zda X+1):=by
    have h5:=HXY.o.1;have h6:=zcf X;have h7:=pw_le (show zda X<=zda X+1 by omega);omega
   have hot:=(limb_zero (l:=o) (k:=zda X+1) zO hoX).2;have hxt:=(hx.nat.tk (zda X+1) zO).natN (by rw[zTK];omega);rw[hot,hoe]at hxt
   have hVl:zda (2^s*(m%n))<=65536:=by
    rw[<-hoe];have h5:=zfb (zLO hlt2);have h6:=HNY.o;omega
   have HVL:zI ((zja (2^s*(m%n))).length<=65536):=zH hVl;have HDV:zI (2^s*(m%n)/2^s=m%n):=zH (Nat.mul_div_cancel_left _ (Nat.pow_pos zD));have HT:=zH (zoa qv (m/n) wr (zwb.of_eq (hq.nat.natN zO) hqe));have HXT:=zH hxt;clear hqe hoe hot hoX hVl hlt2 hlt hval hxt hMl
   go_wp2_with (first
    |(go_at_call 89;(with_reducible refine HT.o.mono ?_);rintro e wa ⟨q1,rfl,hq1,hba⟩)
    |(go_at_call 89;(with_reducible refine(zoa _ _ _ (HXT.o.bw hba)).mono ?_);rintro e wb ⟨r1,rfl,hr1,hbb⟩)
    |(go_at_call 162;(with_reducible refine(rdown_any r1 _ s _ hr1.v HVL.o HSS.o).mono ?_);rw[zfa,HDV.o];rintro e wc ⟨r2,rfl,hr2,hbc⟩))
   go_ret2;exact⟨_,_,rfl,(hq1.bw hbb).bw hbc,hr2,hbr.trans ((zaa (zaa hba hbb) hbc).mono hbr.size)⟩
theorem zkn (va vb:Value) (m n:Nat) (w:World) (ha:zpb w va m) (hb:zpb w vb n) (hn:n≠0) (hm:zda m<=512):
 Calls Tryz.prog 145 #[va,vb] w (RDiv w m n):=by
 rcases zOG m n with h | h
 ·exact rdivide_less va vb m n w ha hb h
 ·have h0:zda n≠0:=λ h'=>hn (zqa.1 h')
  rcases zOG (zda n) 2 with h2 | h2
  ·exact znq va vb m n w ha hb h zO hm
  ·exact rdivide_long va vb m n w ha hb h h2 hm
end Go.Proofs.YtkpedaflofejnaaGreat
