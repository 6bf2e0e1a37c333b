/- Lemmas. -/
import Derived.Test.YtkpedaflofejnaaGreatMMath4
import Derived.Deep.RegionWith
import Derived.Deep.DeepCutAuto
import Derived.Deep.CutBlock
set_option linter.unusedVariables false
set_option linter.unusedSimpArgs false
namespace Go.Proofs.YtkpedaflofejnaaGreat
set_option maxHeartbeats 4000000
open Go.RowKit
theorem cast_div_mod (a b c:Nat):((a/b%c:Nat):Int)=(a:Int)/(b:Int)%(c:Int):=by
 rw[Int.natCast_emod,Int.natCast_ediv]
theorem zir (e s:Nat):(e:Int)/2^s%4294967296=((e/2^s%4294967296:Nat):Int):=by
 have h:=cast_div_mod e (2^s) 4294967296;rw[Int.natCast_pow]at h;exact h.symm
theorem zha {B:Nat} (w:World):Below B w w.drew:=(zBR B w).drew
theorem zpb.drew {w:World} {v:Value} {n:Nat} (h:zpb w v n):zpb w.drew v n:=h.bw (zha w)
theorem zwb.drew {w:World} {v:Value} {n:Nat} (h:zwb w v n):zwb w.drew v n:=h.bw (zha w)
theorem zpb.v {w:World} {v:Value} {n:Nat} (h:zpb w v n):ztc w v (zja n):=h.1
theorem zsc.mono {w:World} {e:TypeId} {B B':Nat} {v:Value} {o:List Nat} (h:zsc w e B v o) (hB:B'<=B):zsc w e B' v o:=⟨h.own.mono hB,h.lm⟩
theorem zsc.grown {w w':World} {e:TypeId} {B b:Nat} {v:Value} {o:List Nat} (h:zsc w e B v o) (hg:w.grownBy w' (some b)) (hb:v.ownBlock=none\/v.ownBlock≠some b):zsc w' e B v o:=⟨World.ownsRow.kept h.own hg hb,h.lm⟩
theorem ztc.other {w:World} {v:Value} {l:List Nat} (h:ztc w v l) (p:Addr) (u:Value) (hp:(Go.Proofs.YtkpedaflofejnaaGreat.base v).block≠p.block):ztc (w.setCell p u) v l:=h.grown (zdd w p u) hp
theorem zsc.other {w:World} {e:TypeId} {B:Nat} {v:Value} {o:List Nat} (h:zsc w e B v o) (p:Addr) (u:Value) (hp:p.block≠(Go.Proofs.YtkpedaflofejnaaGreat.base v).block):zsc (w.setCell p u) e B v o:=⟨h.own.other p u hp,h.lm⟩
theorem zne {w:World} {e:TypeId} {B b:Nat} {v:Value} {o:List Nat} (h:zsc w e B v o) (hb:b≠(Go.Proofs.YtkpedaflofejnaaGreat.base v).block):v.ownBlock=none\/v.ownBlock≠some b:=by
 rcases h.own.2 with⟨rfl,h0⟩ | ⟨g,cap,cur,rfl,_⟩
 ·exact .inl rfl
 ·exact .inr (λ e=>by simp only[Value.ownBlock,Option.some.injEq]at e;exact hb e.symm)
theorem cmp_lt (va vb:Value) (m n:Nat) (w:World) (ha:zwb w va m) (hb:zwb w vb n) (h:m<n):
 Calls Tryz.prog 119 #[va,vb] w λ e w'=>(∃c:Int,e= .returned (.int .i64 c)/\decide (c<0)=true)/\∃k,w'=w.drewN k:=
 (zlo va vb m n w ha hb).mono λ _ _ ⟨a,b⟩=>⟨⟨_,a,by rw[zdi h];rfl⟩,b⟩
structure DivS (w0 wx:World) (ru V:Value) (ou lv:List Nat) (m n s:Nat):Prop where
 own:zsc wx 134 w0.heap.size ru ou
 oul:ou.length=zda m+1
 ouv:val ou=2^s*m
 v:ztc wx V lv
 lvl:lv.length=zda n
 lvv:val lv=2^s*n
 top:∃t,lv[zda n-1]? =some t/\2147483648<=t
 ne:(base ru).block<(base V).block
 lt:(base V).block<wx.heap.size
 bw:Below w0.heap.size w0 wx
def RDiv (w0:World) (m n:Nat) (e:Ending) (w:World):Prop:=
 ∃q r,e= .returned (.tuple #[q,r])/\zpb w q (m/n)/\zpb w r (m%n)/\Below w0.heap.size w0 w
set_option maxRecDepth 100000 in
theorem divide_less (va vb:Value) (m n:Nat) (w:World) (ha:zpb w va m) (hb:zpb w vb n) (h:m<n):
 Calls Tryz.prog 168 #[va,vb] w (RDiv w m n):=by
 have HQ:=zH (Nat.div_eq_of_lt h);have HR:=zH (Nat.mod_eq_of_lt h);go_enter Tryz.func168,Tryz.ntmps168
 go_wp2_with (first
  |(go_at_call 119;refine(cmp_lt va vb m n _ ha.nat hb.nat h).mono ?_;rintro e w' ⟨⟨c,rfl,hc⟩,nq0,rfl⟩)
  |(go_at_call 155;refine(zbe va m _ (ha.nat.drawn nq0)).mono ?_;rintro e w' ⟨r,rfl,hr,hbl⟩))
 go_ret2;exact⟨_,r,rfl,by rw[HQ.o];exact zpb.nil _,by rw[HR.o];exact hr,(zia w nq0).trans hbl⟩
set_option maxRecDepth 100000 in
theorem divide_short (va vb:Value) (m n:Nat) (w:World) (ha:zpb w va m) (hb:zpb w vb n) (h:n<=m) (hn:zda n=1) (hm:zda m<=512):
 Calls Tryz.prog 168 #[va,vb] w (RDiv w m n):=by
 have hl:zja n= [n]:=by
  have h0:n≠0:=λ e=>by rw[e,zkd]at hn;omega
  have h1:n<4294967296:=by have:=zcc.1 (Nat.le_of_eq hn);simpa [pw]using this
  rw[zge h0,Nat.mod_eq_of_lt h1,Nat.div_eq_of_lt h1,zgc]
 have h1:n<4294967296:=by have:=zcc.1 (Nat.le_of_eq hn);simpa [pw]using this
 have h0:0<n:=zPZ λ e=>by rw[e,zkd]at hn;omega
 have hcell:w.cell? (ptr vb 0)=some (.int .u32 n):=by
  have:=hb.1.cell 0 (by rw[hl];simp);simpa [hl]using this
 have sb:=hb.1.sl;have lb:slen vb=1:=by rw[hb.1.len,hl];rfl
 have HM:=zH (show(zja m).length<=65536 by have:=hm;unfold zda at this;omega);have hd:m%n<n:=zML2 _ h0;have HN:=zH (hn);clear hl hn hm;go_enter Tryz.func168,Tryz.ntmps168;go_wp2_with (go_at_call 119;refine(cmp_ge va vb m n _ ha.nat hb.nat h).mono ?_;rintro e w' ⟨⟨c,rfl,hc⟩,nq0,rfl⟩);refine(short_any va (zja m) n _ (ha.drawn nq0).1 HM.o h0 h1).mono ?_;rintro e w' ⟨q,rfl,hq,hbl⟩;rw[zfa]at *
 go_wp2_with fail;have hmk:=zmm (m%n) zO w';rw[Int.natCast_emod]at hmk;refine hmk.mono ?_;rintro e w2 ⟨r,rfl,hr,hbl2⟩;go_wp2;go_ret2;exact⟨_,r,rfl,hq.bw hbl2,hr,(zia w nq0).trans (hbl.trans (hbl2.mono hbl.size))⟩
set_option maxRecDepth 100000 in
theorem divide_long (va vb:Value) (m n:Nat) (w:World) (ha:zpb w va m) (hb:zpb w vb n) (h:n<=m) (hn:2<=zda n) (hm:zda m<=512):
 Calls Tryz.prog 168 #[va,vb] w (RDiv w m n):=by
 have hnm:=zfb h;have hn0:n≠0:=λ e=>by rw[e,zkd]at hn;omega
 have HM:=zH (show(zja m).length<=65536 by have:=hm;unfold zda at this;omega);have HN:=zH (show(zja n).length<=65536 by have:=hm;have:=hnm;unfold zda at *;omega);have hmb:zda m<=4294967296:=zO;clear hm;have sa:=ha.1.sl;have la:slen va=zda m:=ha.1.len;have sb:=hb.1.sl;have lb:slen vb=zda n:=hb.1.len;have hn1:(((zda n:Nat):Int)==1)=false:=by simp;omega
 go_enter Tryz.func168,Tryz.ntmps168;go_wp2_with (go_at_call 119;refine(cmp_ge va vb m n _ ha.nat hb.nat h).mono ?_;rintro e w' ⟨⟨c,rfl,hc⟩,nq0,rfl⟩);have ha0:=ha.drawn nq0;have hb0:=hb.drawn nq0;have hbel0:=zia (B:=w.heap.size) w nq0;generalize w.drewN nq0=W0 at *
 have hxlt:zda n-1<(zja n).length:=by show zda n-1<zda n;omega
 obtain⟨x,hx⟩:∃x,(zja n)[zda n-1]? =some x:=⟨_,zGE hxlt⟩;have hxc:=hb0.1.cell (zda n-1) hxlt;have hx0:=last_pos hn0 hxlt;have hx1:(zja n)[zda n-1]<4294967296:=zvb n _ (zGM _);rw[show(zja n)[zda n-1]=x from by rw[zGE hxlt]at hx;injection hx]at hxc hx0 hx1;have HX:=zH hx;clear hx hc;go_loop [8] (λ u8=>∃s:Nat,u8= .int .u64 s/\s<32/\x*2^s<4294967296) (λ u8=>32- (intOf u8).toNat);case atStart=>exact⟨0,rfl,zO,by simpa using hx1⟩
 case round=>
  obtain⟨s,rfl,hs,hxs⟩:=hrel
  have hw:IntKind.u32.wrap ((x:Int)*2^s)=((x*2^s:Nat):Int):=by
   rw[show((x:Int)*2^s)=((x*2^s:Nat):Int)from by rw[Int.natCast_mul,Int.natCast_pow];rfl,IntKind.wrap_u32];omega
  by_cases hlt:x*2^s<2147483648
  ·have hs2:s+1<32:=by
    rcases zOG (s+1) 32 with h1 | h1
    ·exact h1
    ·exfalso;have h2:2^31<=2^s:=Nat.pow_le_pow_right zD zO;have h3:1*2^s<=x*2^s:=zMR _ hx0;omega
   (have hx2:x*2^(s+1)<4294967296:=by rw[Nat.pow_succ,<-Nat.mul_assoc];omega);have HX2:=zH hx2;have HS2:=zH hs2;clear hx2 hs2;generalize x*2^s=y at *
   have hdec:decide ((y:Int)<2147483648)=true:=zDT zO;go_wp2;go_round;(case rel=>exact⟨s+1,by go_num,HS2.o,HX2.o⟩);case measure=>simp[intOf];omega
  ·have HXS:=zH (zAI hlt hxs);have hsr:s<4294967296:=zO;generalize hy:x*2^s=y at *
   have hdec:decide ((y:Int)<2147483648)=false:=zDF zO;have HY:=zH hy;clear hy hlt hxs;go_upto_region 9 with fail;go_cut [9,10] (λ u9 u10 wx=>∃ou lv,DivS w wx u9 u10 ou lv m n s)
   case first =>
    go_region_with (first
     |(go_at_call 174;(with_reducible refine(up_any va (zja m) s _ ha0.drew.v HM.o hs).mono ?_);rintro e w1 ⟨ru,ou,rfl,hou,houl,houv,hbu⟩)
     |(go_at_call 174;(with_reducible refine(up_any vb (zja n) s _ (hb0.drew.bw hbu).v HN.o hs).mono ?_);rintro e w2 ⟨rv,ov,rfl,hov,hovl,hovv,hbv⟩;have srv:=hov.nat.sl;have crv:zda n<=scap rv:=(by have:=srv.le;have:=hov.nat.len;have :ov.length=zda n+1:=hovl;omega)))
    have hB0:w.heap.size<=W0.drew.heap.size:=hbel0.size;have hbl1:=hou.block zO;have hbl2:=hov.block zO;have hou2:=(hou.bw hbv).mono hB0;have hbw:Below w.heap.size w w2:=hbel0.trans ((zha W0).trans ((hbu.mono hB0).trans (hbv.mono (by have:=hbu.size;omega))));rw[zfa]at houv hovv;have hnt:=norm_top (lu:=ov) hn0 HX.o (by rw[HY.o];have:=HXS.o;omega) (by rw[HY.o];exact HXS.o.2) hs hovl hov.lm hovv
    have hS:DivS w w2 ru (tk rv (zda n)) ou (ov.take (zda n)) m n s:=
     ⟨hou2,houl,houv,hov.nat.tk _ (by rw[hovl];exact zLS _),by rw[zTK,hovl];exact Nat.min_eq_left (zLS _),hnt.1,
      ⟨_,by rw[List.getElem?_take,zIP zO];exact zGE (by have :ov.length=zda n+1:=hovl;omega),hnt.2⟩,
      by rw[base_tk];omega,by rw[base_tk];omega,hbw⟩
    have HS:=zH hS;clear hou houl houv hbu hov hovl hovv hbv srv crv hB0 hbl1 hbl2 hou2 hbw hnt hS;go_wp2_with fail;go_meet;exact⟨_,_,HS.o⟩
   case rest=>
    obtain⟨ou,lv,hS⟩:=hcut;clear ha hb ha0 hb0 hbel0 sa la sb lb hn1 hxc hw hdec HXS HY HX;obtain⟨i0,hi,hz0,hz1,hz2⟩:=info_parts Tryz.info102;have hM:=zfe (P:=Tryz.prog) 51 134 i0 Tryz.underlying51 hi hz0 hz1 hz2;have sv:=hS.v.sl;(have lvv:slen u10=zda n:=by rw[hS.v.len,hS.lvl]);have su:=hS.own.nat.sl;(have luu:slen u9=zda m+1:=by rw[hS.own.nat.len,hS.oul]);have hroom:zda m+1-zda n<=35184372088832:=zO;go_wp2_with (refine hM _ rfl _ _ rfl w.heap.size _ (zda m+1-zda n) zO rfl rfl hroom hS.bw.size ?_;intro qv w3 hq hb3 hq3);have hV:=hS.v.bw hb3;have hlvl:=hS.lvl;have hvv:=hS.lvv;have hU:=hS.own.bw hb3;have hul:=hS.oul;have huv:=hS.ouv;have hbeg:=div_begin (s:=s) hn0 h;rw[<-huv,<-hvv]at hbeg;have htop:=hS.top;have hne1:=hS.ne;(have hne2:(base u10).block<(base qv).block:=by have:=hS.lt;omega);have hbw:=hS.bw.trans (hb3.mono hS.bw.size);have hsz:=hS.bw.size;have hmod:val lv=2^s*n/\val ou=2^s*m:=⟨hvv,huv⟩;have HMOD:=zH hmod;(have hvlt:val lv<pw (zda n):=by have:=zqf hV.lm;rwa[hlvl]at this);clear hM hvv huv hmod hS hxlt hx0 hx1;generalize hlq:zda m+1-zda n=lq at *
    have HNN:zI (zda n<=65536):=zH HN.o;generalize zda n=nn at *
    generalize zda m=mm at *
    obtain⟨N,rfl⟩:∃N,nn=N+2:=⟨nn-2,zO⟩;obtain⟨tp,ht1,ht2⟩:=htop;rw[show N+2-1=N+1 from rfl]at ht1;obtain⟨htl,rfl⟩:=List.getElem?_eq_some_iff.1 ht1;have hct:=hV.cell (N+1) zO;have hce:=hV.cell N zO;have hlt1:lv[N+1]<4294967296:=hV.lm _ (zGM _);have hle1:lv[N]' zO<4294967296:=hV.lm _ (zGM _);obtain⟨tp,htp⟩:∃t,lv[N+1]=t:=⟨_,rfl⟩;obtain⟨nx,hnx⟩:∃t,lv[N]' zO=t:=⟨_,rfl⟩;rw[htp]at hct ht2 hlt1;rw[hnx]at hce hle1;have HTP:=zH htp;have HNX:=zH hnx;have HBEG:=zH hbeg;have HVLT:=zH hvlt;clear ht1 htp hnx hbeg hvlt;rw[show((N+2:Nat):Int)=(N:Int)+2 from zO];go_quiet (fail);have hq1:mm+1<=lq+(N+2):=zO;have hq2:lq+(N+2)<=mm+1:=zO;have hbd:Below w3.heap.size w3 (w3.drewN nq):=zia w3 nq;have hV4:=hV.bw hbd;have hU4:=hU.bw hbd;have hq4:=hq.bw hbd;have hbw4:=hbw.trans (hbd.mono hbw.size);have sq:=hq.nat.sl;(have lqq:slen qv=lq:=by rw[hq.nat.len];simp);clear hlq hV hU hq hbw hb3 hbd hct hce;generalize w3.drewN nq=w4 at *
    go_wp2_with fail;(try rw[show N+2-1=N+1 from rfl]);try rw[show N+2-2=N from rfl]
    go_loopw [15] (λ u15 wr=>∃ (k:Nat) (o qd:List Nat),k<=lq/\u15= .int .i64 ((k:Int)-1)/\zsc wr 134 w.heap.size u9 o/\o.length=mm+1/\zsc wr 134 w.heap.size qv qd/\qd.length=lq/\
     ztc wr u10 lv/\val ou=val lv*pw k*val (qd.drop k)+val o/\val o<val lv*pw k/\Below w.heap.size w wr/\(base qv).block<wr.heap.size) (λ u15 _=>(intOf u15+1).toNat)
    case atStart=>exact⟨lq,ou,_,zLR _,by simp,hU4,hul,hq4,by simp,hV4,by rw[List.drop_of_length_le (by simp)];simp[val],HBEG.o,hbw4,by have:=hq4.block (by simp;omega);omega⟩
    case round=>
     obtain⟨k,o,qd,hk,rfl,hU,hol,hq,hqdl,hV,hM1,hM2,hbr,hqb⟩:=hrel;have HM1:=zH hM1;have HM2:=zH hM2;clear hM1 hM2 hV4 hU4 hq4 hbw4;by_cases hk0:0<k
     ·obtain⟨j,rfl⟩:∃j,k=j+1:=⟨k-1,zO⟩;have hp:=zin (o:=o) (j:=j) (n:=N+2) (V:=val lv) zO hU.nat.lm HVLT.o (by rw[<-zrb];exact HM2.o) zO;obtain⟨ho,hov,hplt,hCz⟩:=hp;(have hAl:(o.take j).length=j:=by rw[zTK];omega);(have hpl:((o.drop j).take (N+2+1)).length=N+3:=by rw[zTK,List.length_drop];omega);have hpm:Lm ((o.drop j).take (N+2+1)):=(hU.nat.lm.drop j).take _;have hAm:Lm (o.take j):=hU.nat.lm.take j;generalize o.take j=A at *
      generalize (o.drop j).take (N+2+1)=p at *
      generalize o.drop (j+(N+2+1))=C at *
      subst ho;subst hAl;have R:zqo p lv N:=⟨hpl.symm,hlvl.symm,hpm,hV.lm,by rw[HTP.o];exact ht2,hplt⟩;have hlen:∀k,k<N+3->A.length+k<(A++p++C).length:=λ k hk=>by simp;omega
      have hcell:∀k (h:k<N+3),wr.cell? (ptr u9 (A.length+k))=some (.int .u32 (p[k]' zO:Nat)):=λ k h=>by
       have:=hU.nat.cell (A.length+k) (hlen k h);rwa[(List.getElem_eq_iff (hlen k h)).2 (zwf A p C k zO)]at this
      obtain⟨d2,hd2⟩:∃t,p[N+2]' zO=t:=⟨_,rfl⟩;obtain⟨d1,hd1⟩:∃t,p[N+1]' zO=t:=⟨_,rfl⟩;obtain⟨d0,hd0⟩:∃t,p[N]' zO=t:=⟨_,rfl⟩;have hc2:=hcell (N+2) zO;have hc1:=hcell (N+1) zO;have hc0:=hcell N zO;(have l2:d2<4294967296:=by rw[<-hd2];exact hpm _ (zGM _));(have l1:d1<4294967296:=by rw[<-hd1];exact hpm _ (zGM _));(have l0:d0<4294967296:=by rw[<-hd0];exact hpm _ (zGM _));rw[hd2]at hc2;rw[hd1]at hc1;rw[hd0]at hc0;have HD2:=zH hd2;have HD1:=zH hd1;have HD0:=zH hd0;have HHOV:=zH hov;have HCZ:=zH hCz;have HPLT:=zH hplt;clear hd2 hd1 hd0 hov hCz hplt;have HCELL:=zH hcell;have HLEN:=zH hlen;clear hcell hlen;have hor:=or_lo d2 d1 l2 l1;obtain⟨hd,hhd⟩:∃t,d2*4294967296+d1=t:=⟨_,rfl⟩;rw[hhd]at hor;have HHD:=zH hhd;clear hhd;go_wp2_with fail;go_quiet (fail);have hst:=R.start;simp only[HD2.o,HD1.o,HTP.o,HHD.o]at hst;have hdm:=Nat.div_add_mod hd tp;have hml:=zML2 hd (show 0<tp by omega);have hgB1:hd/tp<=4294967297:=by have:=hst.2;exact this
      have hquo:IntKind.u64.wrap ((hd:Int)/tp)=((hd/tp:Nat):Int):=by
       rw[<-Int.natCast_ediv,zhc];generalize hd/tp=q0 at *;omega
      (have hrem:(hd:Int).tmod tp=((hd%tp:Nat):Int):=by rw[Int.tmod_eq_emod_of_nonneg zO];rfl);obtain⟨g0,hg0⟩:∃t,hd/tp=t:=⟨_,rfl⟩;obtain⟨r0,hr0⟩:∃t,hd%tp=t:=⟨_,rfl⟩;rw[hg0]at hquo hst hdm hgB1;rw[hr0]at hrem hml hdm;have HST:=zH hst;have HDM:=zH hdm;clear hst hdm hg0 hr0;go_wp2_with fail;have hbd1:Below wr.heap.size wr (wr.drewN nq):=zia wr nq;have hU:=hU.bw hbd1;have hq:=hq.bw hbd1;have hV:=hV.bw hbd1;have hbr:=hbr.trans (hbd1.mono hbr.size);have hqb:=zLM hqb hbd1.size;have hc0:(wr.drewN nq).cell? (ptr u9 (A.length+N))=some (.int .u32 (d0:Nat)):=hc0;clear hbd1 hc2 hc1 hor;generalize wr.drewN nq=wr1 at *
      go_quiet (fail);have hbd1:Below wr1.heap.size wr1 (wr1.drewN nq):=zia wr1 nq;have hU:=hU.bw hbd1;have hq:=hq.bw hbd1;have hV:=hV.bw hbd1;have hbr:=hbr.trans (hbd1.mono hbr.size);have hqb:=zLM hqb hbd1.size;have hc0:(wr1.drewN nq).cell? (ptr u9 (A.length+N))=some (.int .u32 (d0:Nat)):=hc0;clear hbd1 hquo hrem;generalize wr1.drewN nq=wr2 at *
      (have hc0b:wr2.cell? (ptr u9 (A.length+(N+2)-2))=some (.int .u32 (d0:Nat)):=by rw[show A.length+(N+2)-2=A.length+N from zO];exact hc0);obtain⟨Q,hQ⟩:∃t,val p/val lv=t:=⟨_,rfl⟩;have HQ:=zH hQ;have hs0:=HST.o;rw[hQ]at hs0;clear hQ;(have hcap:A.length+(N+2)+1<=scap u9:=by have:=su.le;have:=HLEN.o (N+2) zO;omega);have a1:zlb (cut 1 u9 A.length (A.length+(N+2)+1)):=su.cut zO hcap;(have a2:slen (cut 1 u9 A.length (A.length+(N+2)+1))=N+2+1:=by rw[su.slen_cut];omega);(have a3:∀k,ptr (cut 1 u9 A.length (A.length+(N+2)+1)) k=ptr u9 (A.length+k):=λ k=>by rw[ptr_cut su zO,Nat.mul_one]);have a4:(base u10).block≠(base u9).block:=zO;have a5:(base u9).block≠(base qv).block:=zO;(have a6:0<(A++p++C).length:=by simp;omega);have a7:A.length<qd.length:=zO;have a8:A.length<=lq:=zO;(have a9:∀p':List Nat,p'.length=N+2+1->(A++p'++C).length=mm+1:=λ p' h=>by simp at hol |-;omega);have a10:(base u10).block≠(base qv).block:=zO;have A1:=zH a1;have A2:=zH a2;have A3:=zH a3;have A6:=zH a6;have A7:=zH a7;have A9:=zH a9;clear a1 a2 a3 a6 a7 a9;go_wp2_with fail;go_loop [17,18] (λ u17 u18=>∃g r:Nat,u17= .int .u64 g/\u18= .int .u64 r/\Q<=g/\g<=4294967297/\g*tp+r=hd/\r<4294967296) (λ u17 _=>(intOf u17).toNat);case atStart=>exact⟨g0,r0,rfl,rfl,hs0.1,hgB1,by rw[Nat.mul_comm];exact HDM.o,zO⟩
      case round=>
       obtain⟨g,r,rfl,rfl,hg1,hg2,hgr,hrb⟩:=hrel;have HGR:=zH hgr;clear hgr;(have hlow:=λ hh=>R.lower (g:=g) (r:=r) (by rw[HQ.o];exact hg1) (by rw[HTP.o,HD2.o,HD1.o,HHD.o];exact HGR.o) hh);simp only[HTP.o,HD2.o,HD1.o,HHD.o,HQ.o,HD0.o,HNX.o]at hlow;(have hbrk:=fun(g r:Nat) (h:g*tp+r=hd) hh=>R.break (g:=g) (r:=r) (by rw[HTP.o,HD2.o,HD1.o,HHD.o];exact h) hh);rw[HQ.o]at hbrk;have hor2:=or_lo r d0 hrb l0;obtain⟨e0,he0⟩:∃t,r*4294967296+d0=t:=⟨_,rfl⟩;rw[he0]at hor2 hlow;have HLOW:=zH hlow;have HBRK:=zH hbrk;have HE0:=zH he0;clear hlow hbrk he0;by_cases hgB:4294967296<=g
       ·have hdec1:decide (4294967296<=(g:Int))=true:=zDT zO;obtain⟨k1,k2,k3⟩:=HLOW.o (Or.inl hgB);have K2:=zH k2;have K3:=zH k3;have K1:=zH k1;have HG2:=zH hg2;have hg1:(1:Int)<=(g:Int):=zO;have hg2:(g:Int)<=4294967297:=zO;clear k3 k1 k2 hgB;by_cases hbk:4294967296<=r+tp
        ·have hbb:=HBRK.o (g-1) (r+tp) K3.o hbk;have hdec2:decide (4294967296<=(r:Int)+tp)=true:=zDT zO;have HG:=zH (show Q<=g-1/\g-1<=Q+1/\g-1<4294967296 from⟨K1.o,hbb.2,hbb.1⟩);have hgi:(g:Int)-1=((g-1:Nat):Int):=zO;clear hbb hbk;go_wp2_with fail;clear hdec1 HLOW K1 K2 K3 HG2 HGR HE0 hor2;generalize g-1=G at *
         have hgb5:G<4294967296:=HG.o.2.2;refine(zoh (cut 1 u9 A.length (A.length+(N+2)+1)) u10 u9 A p C lv (N+2) G w.heap.size wr2 A1.o A2.o A3.o hU hpl hV hlvl HNN.o hgb5 a4).mono ?_;rintro e w5 ⟨b,p1,rfl,hU5,hp1l,hp1v,hgr5⟩;have hV5:=hV.grown hgr5 a4;have hq5:=hq.grown hgr5 (zne hq a5);have hbl:=hU.block A6.o;have hbr5:=hbr.trans (zhd hgr5 hbl.1 hbr.size);have hqb5:=zLM hqb hgr5.size;have hp1m:Lm p1:=λ x hx=>hU5.lm x (by simp[hx])
         cases b with
         | false=>
           simp only[Bool.false_eq_true,if_false,Nat.zero_mul,Nat.add_zero]at hp1v;obtain⟨hGQ,hmd⟩:=R.sub0 (by rw[HQ.o];exact HG.o.1) (by rw[HQ.o];exact HG.o.2.1) hp1v;rw[HQ.o]at hGQ;have HF:=zH (zae (p':=p1) HM1.o hAm HHOV.o HCZ.o R.vpos HQ.o hmd A7.o);have HP1:=zH hp1l;have hfz:=hq5.frozen A.length A7.o;have hco:=hq5.nat.cell A.length A7.o;have hset:=hq5.set A.length A7.o G hgb5;have HS:=zH hset;have HGQ:=zH hGQ;clear hp1v hmd hp1l hset hGQ;go_wp2;go_roundw
           case rel=>exact⟨A.length,A++p1++C,_,a8,by go_num,hU5.other _ _ (by rw[zma];exact λ e=>a5 e.symm),A9.o _ HP1.o,HS.o.1,by rw[zGS];exact hqdl,hV5.other _ _ (by rw[zma];exact a10),
            by rw[HGQ.o];exact HF.o.1,HF.o.2,hbr5.trans HS.o.2,by simpa [World.setCell]using hqb5⟩
           case measure=>simp[intOf]
         | true=>
           simp only[if_true,Nat.one_mul]at hp1v;go_wp2_with fail;refine(zzi (cut 1 u9 A.length (A.length+(N+2)+1)) u10 u9 A p1 C lv (N+2) w.heap.size w5 A1.o A2.o A3.o hU5 hp1l hV5 hlvl HNN.o a4).mono ?_;rintro e w6 ⟨b2,p2,rfl,hU6,hp2l,hp2v,hgr6⟩;(have hp2m:Lm p2:=λ x hx=>hU6.lm x (by simp[hx]));obtain⟨hGQ,hG1,hmd⟩:=R.sub1 (by rw[HQ.o];exact HG.o.1) (by rw[HQ.o];exact HG.o.2.1) hp1m hp1l hp2m hp2l hp1v hp2v;rw[HQ.o]at hGQ;have HF:=zH (zae (p':=p2) HM1.o hAm HHOV.o HCZ.o R.vpos HQ.o hmd A7.o);have HP2:=zH hp2l;have hV6:=hV5.grown hgr6 a4;have hq6:=hq5.grown hgr6 (zne hq5 a5);have hbl:=hU5.block (by rw[A9.o _ hp1l];exact Nat.succ_pos _);have hbr6:=hbr5.trans (zhd hgr6 hbl.1 hbr5.size);have hqb6:=zLM hqb5 hgr6.size;have hfz:=hq6.frozen A.length A7.o;have hco:=hq6.nat.cell A.length A7.o;have hQb:Q<4294967296:=zLL HG.o.1 hgb5;have hset:=hq6.set A.length A7.o Q hQb;have HS:=zH hset;(have hGi:(G:Int)-1=Q:=by rw[<-hGQ];exact(Int.ofNat_sub hG1).symm);clear hp1v hp2v hmd hp1l hp2l hset hGQ hG1;go_wp2;go_roundw
           case rel=>exact⟨A.length,A++p2++C,_,a8,by go_num,hU6.other _ _ (by rw[zma];exact λ e=>a5 e.symm),A9.o _ HP2.o,HS.o.1,by rw[zGS];exact hqdl,hV6.other _ _ (by rw[zma];exact a10),
            HF.o.1,HF.o.2,hbr6.trans HS.o.2,by simpa [World.setCell]using hqb6⟩
           case measure=>simp[intOf]
        ·have hdec2:decide (4294967296<=(r:Int)+tp)=false:=zDF zO;have HBK:=zH hbk;have hgi:(g:Int)-1=((g-1:Nat):Int):=zO;clear hbk;go_wp2_with fail;go_round;(case rel=>exact⟨g-1,r+tp,rfl,by go_num,K1.o,zO,K3.o,by have:=HBK.o;omega⟩);case measure=>simp[intOf];omega
       ·have hgb:g<4294967296:=zO;obtain⟨m1,m2⟩:=zoi hgb hle1;have hdec1:decide (4294967296<=(g:Int))=false:=zDF zO;by_cases htst:e0<g*nx
        ·(have htst':(e0:Int)<(g:Int)*nx:=by rw[<-Int.natCast_mul];omega);have hdec3:decide ((e0:Int)<(g:Int)*nx)=true:=zDT htst';obtain⟨k1,k2,k3⟩:=HLOW.o (Or.inr htst);have K2:=zH k2;have K3:=zH k3;have K1:=zH k1;have HG2:=zH hg2;have hg1:(1:Int)<=(g:Int):=zO;have hg2:(g:Int)<=4294967297:=zO;clear k3 k1 k2 hgB htst;by_cases hbk:4294967296<=r+tp
         ·have hbb:=HBRK.o (g-1) (r+tp) K3.o hbk;have hdec2:decide (4294967296<=(r:Int)+tp)=true:=zDT zO;have HG:=zH (show Q<=g-1/\g-1<=Q+1/\g-1<4294967296 from⟨K1.o,hbb.2,hbb.1⟩);have hgi:(g:Int)-1=((g-1:Nat):Int):=zO;clear hbb hbk;go_wp2_with fail;clear hdec1 HLOW K1 K2 K3 HG2 HGR HE0 hor2;generalize g-1=G at *
          have hgb5:G<4294967296:=HG.o.2.2;refine(zoh (cut 1 u9 A.length (A.length+(N+2)+1)) u10 u9 A p C lv (N+2) G w.heap.size wr2 A1.o A2.o A3.o hU hpl hV hlvl HNN.o hgb5 a4).mono ?_;rintro e w5 ⟨b,p1,rfl,hU5,hp1l,hp1v,hgr5⟩;have hV5:=hV.grown hgr5 a4;have hq5:=hq.grown hgr5 (zne hq a5);have hbl:=hU.block A6.o;have hbr5:=hbr.trans (zhd hgr5 hbl.1 hbr.size);have hqb5:=zLM hqb hgr5.size;have hp1m:Lm p1:=λ x hx=>hU5.lm x (by simp[hx])
          cases b with
          | false=>
            simp only[Bool.false_eq_true,if_false,Nat.zero_mul,Nat.add_zero]at hp1v;obtain⟨hGQ,hmd⟩:=R.sub0 (by rw[HQ.o];exact HG.o.1) (by rw[HQ.o];exact HG.o.2.1) hp1v;rw[HQ.o]at hGQ;have HF:=zH (zae (p':=p1) HM1.o hAm HHOV.o HCZ.o R.vpos HQ.o hmd A7.o);have HP1:=zH hp1l;have hfz:=hq5.frozen A.length A7.o;have hco:=hq5.nat.cell A.length A7.o;have hset:=hq5.set A.length A7.o G hgb5;have HS:=zH hset;have HGQ:=zH hGQ;clear hp1v hmd hp1l hset hGQ;go_wp2;go_roundw
            case rel=>exact⟨A.length,A++p1++C,_,a8,by go_num,hU5.other _ _ (by rw[zma];exact λ e=>a5 e.symm),A9.o _ HP1.o,HS.o.1,by rw[zGS];exact hqdl,hV5.other _ _ (by rw[zma];exact a10),
             by rw[HGQ.o];exact HF.o.1,HF.o.2,hbr5.trans HS.o.2,by simpa [World.setCell]using hqb5⟩
            case measure=>simp[intOf]
          | true=>
            simp only[if_true,Nat.one_mul]at hp1v;go_wp2_with fail;refine(zzi (cut 1 u9 A.length (A.length+(N+2)+1)) u10 u9 A p1 C lv (N+2) w.heap.size w5 A1.o A2.o A3.o hU5 hp1l hV5 hlvl HNN.o a4).mono ?_;rintro e w6 ⟨b2,p2,rfl,hU6,hp2l,hp2v,hgr6⟩;(have hp2m:Lm p2:=λ x hx=>hU6.lm x (by simp[hx]));obtain⟨hGQ,hG1,hmd⟩:=R.sub1 (by rw[HQ.o];exact HG.o.1) (by rw[HQ.o];exact HG.o.2.1) hp1m hp1l hp2m hp2l hp1v hp2v;rw[HQ.o]at hGQ;have HF:=zH (zae (p':=p2) HM1.o hAm HHOV.o HCZ.o R.vpos HQ.o hmd A7.o);have HP2:=zH hp2l;have hV6:=hV5.grown hgr6 a4;have hq6:=hq5.grown hgr6 (zne hq5 a5);have hbl:=hU5.block (by rw[A9.o _ hp1l];exact Nat.succ_pos _);have hbr6:=hbr5.trans (zhd hgr6 hbl.1 hbr5.size);have hqb6:=zLM hqb5 hgr6.size;have hfz:=hq6.frozen A.length A7.o;have hco:=hq6.nat.cell A.length A7.o;have hQb:Q<4294967296:=zLL HG.o.1 hgb5;have hset:=hq6.set A.length A7.o Q hQb;have HS:=zH hset;(have hGi:(G:Int)-1=Q:=by rw[<-hGQ];exact(Int.ofNat_sub hG1).symm);clear hp1v hp2v hmd hp1l hp2l hset hGQ hG1;go_wp2;go_roundw
            case rel=>exact⟨A.length,A++p2++C,_,a8,by go_num,hU6.other _ _ (by rw[zma];exact λ e=>a5 e.symm),A9.o _ HP2.o,HS.o.1,by rw[zGS];exact hqdl,hV6.other _ _ (by rw[zma];exact a10),
             HF.o.1,HF.o.2,hbr6.trans HS.o.2,by simpa [World.setCell]using hqb6⟩
            case measure=>simp[intOf]
         ·have hdec2:decide (4294967296<=(r:Int)+tp)=false:=zDF zO;have HBK:=zH hbk;have hgi:(g:Int)-1=((g-1:Nat):Int):=zO;clear hbk;go_wp2_with fail;go_round;(case rel=>exact⟨g-1,r+tp,rfl,by go_num,K1.o,zO,K3.o,by have:=HBK.o;omega⟩);case measure=>simp[intOf];omega
        ·(have htst':¬ (e0:Int)<(g:Int)*nx:=by rw[<-Int.natCast_mul];omega);have hdec3:decide ((e0:Int)<(g:Int)*nx)=false:=zDF htst';have hps:=R.pass (g:=g) (r:=r) (by rw[HTP.o,HD2.o,HD1.o,HHD.o];exact HGR.o) hgb (by rw[HD0.o,HNX.o,HE0.o];exact htst);rw[HQ.o]at hps;have HG:=zH (show Q<=g/\g<=Q+1/\g<4294967296 from⟨hg1,hps,hgb⟩);clear hps htst hgB;go_wp2_with fail;generalize g=G at *
         have hgb5:G<4294967296:=HG.o.2.2;refine(zoh (cut 1 u9 A.length (A.length+(N+2)+1)) u10 u9 A p C lv (N+2) G w.heap.size wr2 A1.o A2.o A3.o hU hpl hV hlvl HNN.o hgb5 a4).mono ?_;rintro e w5 ⟨b,p1,rfl,hU5,hp1l,hp1v,hgr5⟩;have hV5:=hV.grown hgr5 a4;have hq5:=hq.grown hgr5 (zne hq a5);have hbl:=hU.block A6.o;have hbr5:=hbr.trans (zhd hgr5 hbl.1 hbr.size);have hqb5:=zLM hqb hgr5.size;have hp1m:Lm p1:=λ x hx=>hU5.lm x (by simp[hx])
         cases b with
         | false=>
           simp only[Bool.false_eq_true,if_false,Nat.zero_mul,Nat.add_zero]at hp1v;obtain⟨hGQ,hmd⟩:=R.sub0 (by rw[HQ.o];exact HG.o.1) (by rw[HQ.o];exact HG.o.2.1) hp1v;rw[HQ.o]at hGQ;have HF:=zH (zae (p':=p1) HM1.o hAm HHOV.o HCZ.o R.vpos HQ.o hmd A7.o);have HP1:=zH hp1l;have hfz:=hq5.frozen A.length A7.o;have hco:=hq5.nat.cell A.length A7.o;have hset:=hq5.set A.length A7.o G hgb5;have HS:=zH hset;have HGQ:=zH hGQ;clear hp1v hmd hp1l hset hGQ;go_wp2;go_roundw
           case rel=>exact⟨A.length,A++p1++C,_,a8,by go_num,hU5.other _ _ (by rw[zma];exact λ e=>a5 e.symm),A9.o _ HP1.o,HS.o.1,by rw[zGS];exact hqdl,hV5.other _ _ (by rw[zma];exact a10),
            by rw[HGQ.o];exact HF.o.1,HF.o.2,hbr5.trans HS.o.2,by simpa [World.setCell]using hqb5⟩
           case measure=>simp[intOf]
         | true=>
           simp only[if_true,Nat.one_mul]at hp1v;go_wp2_with fail;refine(zzi (cut 1 u9 A.length (A.length+(N+2)+1)) u10 u9 A p1 C lv (N+2) w.heap.size w5 A1.o A2.o A3.o hU5 hp1l hV5 hlvl HNN.o a4).mono ?_;rintro e w6 ⟨b2,p2,rfl,hU6,hp2l,hp2v,hgr6⟩;(have hp2m:Lm p2:=λ x hx=>hU6.lm x (by simp[hx]));obtain⟨hGQ,hG1,hmd⟩:=R.sub1 (by rw[HQ.o];exact HG.o.1) (by rw[HQ.o];exact HG.o.2.1) hp1m hp1l hp2m hp2l hp1v hp2v;rw[HQ.o]at hGQ;have HF:=zH (zae (p':=p2) HM1.o hAm HHOV.o HCZ.o R.vpos HQ.o hmd A7.o);have HP2:=zH hp2l;have hV6:=hV5.grown hgr6 a4;have hq6:=hq5.grown hgr6 (zne hq5 a5);have hbl:=hU5.block (by rw[A9.o _ hp1l];exact Nat.succ_pos _);have hbr6:=hbr5.trans (zhd hgr6 hbl.1 hbr5.size);have hqb6:=zLM hqb5 hgr6.size;have hfz:=hq6.frozen A.length A7.o;have hco:=hq6.nat.cell A.length A7.o;have hQb:Q<4294967296:=zLL HG.o.1 hgb5;have hset:=hq6.set A.length A7.o Q hQb;have HS:=zH hset;(have hGi:(G:Int)-1=Q:=by rw[<-hGQ];exact(Int.ofNat_sub hG1).symm);clear hp1v hp2v hmd hp1l hp2l hset hGQ hG1;go_wp2;go_roundw
           case rel=>exact⟨A.length,A++p2++C,_,a8,by go_num,hU6.other _ _ (by rw[zma];exact λ e=>a5 e.symm),A9.o _ HP2.o,HS.o.1,by rw[zGS];exact hqdl,hV6.other _ _ (by rw[zma];exact a10),
            HF.o.1,HF.o.2,hbr6.trans HS.o.2,by simpa [World.setCell]using hqb6⟩
           case measure=>simp[intOf]
     ·obtain rfl:k=0:=zO;obtain⟨ev,eu⟩:=HMOD.o;have hm1:=HM1.o;rw[zxf,Nat.mul_one,List.drop_zero,eu]at hm1;have hm2:=HM2.o;rw[zxf,Nat.mul_one]at hm2;obtain⟨hqv,hov⟩:=div_read hn0 ev hm1 hm2;have hoz:=limb_zero (l:=o) (k:=N+2) zO (zRR hm2 HVLT.o);have HQV:=zH hqv;have HOV:=zH hov;have HOZ:=zH hoz;clear hm1 hm2 hqv hov hoz ev eu HM1 HM2;obtain⟨i0,hi,hz0,hz1,hz2⟩:=info_parts Tryz.info102;have hM:=zfe (P:=Tryz.prog) 51 134 i0 Tryz.underlying51 hi hz0 hz1 hz2;have hroom2:N+2<=35184372088832:=zO;go_wp2_with (refine hM _ rfl _ _ rfl w.heap.size _ (N+2) zO rfl rfl hroom2 hbr.size ?_;intro rv w5 hr hb5 hr5);clear hM;have hU5:=hU.bw hb5;have hq5:=hq.bw hb5;have hbr5:=hbr.trans (hb5.mono hbr.size);have hne3:(base u9).block<(base rv).block:=zO;have hne4:(base qv).block<(base rv).block:=zO;have srv:zlb rv:=hr.nat.sl;(have lrv:slen rv=N+2:=by rw[hr.nat.len];simp);have hcap2:N+2<slen u9:=zO;clear hU hq hbr hb5 hk0 hk;have hlen:=run_len_sl (P:=Tryz.prog) w5 (t:=51) (ty:=3) srv (by rfl);rw[hlen];clear hlen;go_wp2_with fail
      go_loopw [167] (λ u wr=>∃ (i:Nat) (r:List Nat),i<=N+2/\u= .int .i64 i/\zsc wr 134 w.heap.size rv r/\r.length=N+2/\zsc wr 134 w.heap.size u9 o/\zsc wr 134 w.heap.size qv qd/\
       2^s*val (r.take i)+(o[0]' zO)%2^s=val (o.take i)+pw i*((o[i]?.getD 0)%2^s)/\Below w.heap.size w wr) (λ u _=>N+2- (intOf u).toNat)
      case atStart=>exact⟨0,_,zO,rfl,hr,by simp,hU5,hq5,by simp[val,zxf,zGE (show 0<o.length by omega)],hbr5⟩
      case round=>
       obtain⟨i,r,hi2,rfl,hr,hrl,hU,hq,hval,hbr⟩:=hrel;have HV:=zH hval;clear hval;by_cases hin:i<N+2
       ·have hc0:=hU.nat.cell i zO;have hc1:=hU.nat.cell (i+1) zO;have l0:o[i]' zO<4294967296:=hU.lm _ (zGM _);have l1:o[i+1]' zO<4294967296:=hU.lm _ (zGM _);have hfz:=hr.frozen i zO;have hco:=hr.nat.cell i zO;have hv:=HV.o;rw[zGE (show i<o.length by omega)]at hv;(have hst:=fun(z:Nat) (hz9:z=((o[i+1]' zO*4294967296+o[i]' zO)/2^s)%4294967296)=>rest_step (r:=r) (o:=o) (k:=2^(32-s)) (i:=i) (P:=2^s) (a:=o[i]' zO) (b:=o[i+1]' zO) (z:=z) (by rw[<-Nat.pow_add,Nat.add_sub_cancel' zO]) zO (zga o i zO) l0 hz9 _ hv);have hor:=or_lo (o[i+1]' zO) (o[i]' zO) l1 l0;obtain⟨e,he⟩:∃t,o[i+1]' zO*4294967296+o[i]' zO=t:=⟨_,rfl⟩;rw[he]at hor hst;have HST:=zH hst;(have hnext:o[i+1]?.getD 0=o[i+1]' zO:=by rw[zGE (show i+1<o.length by omega)];rfl);have HNEXT:=zH hnext;have he64:e<18446744073709551616:=zO;have HE:=zH he64;clear he hst hv hnext HV he64;generalize o[i+1]' zO=b at *
        generalize o[i]' zO=a at *
        go_wp2_with fail;(go_region);have hz9:e/2^s%4294967296<4294967296:=zML2 _ zD;have hzc:=zir e s;rw[hzc];have hval:=(HST.o _ rfl);clear hzc;generalize e/2^s%4294967296=z at *
        have hset:=hr.set i zO z hz9;have hbd:=zha (B:=w.heap.size) (wr.setCell (ptr rv i) (.int .u32 (z:Nat)));have hbd2:=zha (B:=(wr.setCell (ptr rv i) (.int .u32 (z:Nat))).heap.size) (wr.setCell (ptr rv i) (.int .u32 (z:Nat)));have hr6:=hset.1.bw hbd2;have hU6:=(hU.other (ptr rv i) (.int .u32 (z:Nat)) (by rw[zma];exact λ e=>zO)).bw hbd2;have hq6:=(hq.other (ptr rv i) (.int .u32 (z:Nat)) (by rw[zma];exact λ e=>zO)).bw hbd2;have hbr6:=(hbr.trans hset.2).trans hbd;have HV:=zH hval;clear hval hset hbd hbd2 hr hU hq hbr;go_wp2_with fail;go_roundw;(case rel=>exact⟨i+1,_,zO,by go_num,hr6,by rw[zGS];exact hrl,hU6,hq6,by rw[zGE (show i+1<o.length by omega)];exact HV.o,hbr6⟩);case measure=>simp[intOf];omega
       ·obtain rfl:i=N+2:=zO;have hv2:val r=m%n:=rest_end zO zO HOZ.o HOV.o hrl HV.o;have hqn:zwb wr qv (m/n):=⟨qd,hq.nat,HQV.o,zO⟩;have hrn:zwb wr rv (m%n):=⟨r,hr.nat,hv2,zO⟩;have HBR:=zH hbr;clear hv2 HOZ HV HQV HOV hr hU hq hbr hbr5 hU5 hq5;obtain⟨sq1,cq,kq⟩:=hqn.scap;obtain⟨sr1,cr,kr⟩:=hrn.scap;go_wp2_with fail;go_quiet ((go_at_call 139;first | with_reducible exact Calls.quiet_of_same ((zcb qv (m/n) _ (hqn.drawn _)).mono λ e w' ⟨h1,h2⟩=>⟨h1,h2.symm⟩) | with_reducible exact Calls.quiet_of_same ((zcb rv (m%n) _ (hrn.drawn _)).mono λ e w' ⟨h1,h2⟩=>⟨h1,h2.symm⟩)));have hbd:=zia (B:=w.heap.size) wr nq;have kq2:=kq.drawn nq;have kr2:=kr.drawn nq;go_wp2_with fail;go_ret2;exact⟨_,_,rfl,kq2,kr2,HBR.o.trans hbd⟩
end Go.Proofs.YtkpedaflofejnaaGreat
