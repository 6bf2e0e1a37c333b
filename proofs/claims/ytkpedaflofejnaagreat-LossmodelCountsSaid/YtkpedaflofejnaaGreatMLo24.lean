/- Lemmas. -/
import Derived.Test.YtkpedaflofejnaaGreatMLo20
set_option linter.unusedVariables false
set_option linter.unusedSimpArgs false
namespace Go.Proofs.YtkpedaflofejnaaGreat
open Go.RowKit
theorem set_le {v:List Nat} {i x B:Nat} (h:∀j,v.getD j 0<=B) (hx:x<=B) (j:Nat):(v.set i x).getD j 0<=B:=by
 rw[zGD,List.getElem?_set];have h2:=h j;split
 ·split
  ·exact hx
  ·simp
 ·rw[<-zGD];exact h2
def zbm (l:LwF) (v:List Nat) (i q:Nat):Mv:=(v.set i (q+1),l.R (v.getD i 0-1) q)
def zzf (l:LwF) (v:List Nat) (i q:Nat):List Mv:=(List.range q).map (zbm l v i)
theorem fragP_succ (l:LwF) (v:List Nat) (i q:Nat):zzf l v i (q+1)=zzf l v i q++ [zbm l v i q]:=by
 unfold zzf;rw[List.range_succ,List.map_append];rfl
theorem zar (l:LwF) (v:List Nat) (i:Nat):zbr l v i=zzf l v i l.n++ [(v.set i 0,l.E (v.getD i 0-1))]:=rfl
set_option maxRecDepth 100000 in
set_option maxHeartbeats 12800000 in
theorem fragment_any (M:MkD) (w1 w:World) (st:Nat->Rat) (mv:List Nat->List Mv) (pre:List Mv) (fr i p:Nat) (fi ii:Int) (vv vlaw:Value) (v:List Nat) (l:LQ) (D B:Nat) (h:M.Ok w1 w st (zzc M.L mv fr (znb M.L pre))) (hv:zjb w1 vv v) (hl:LawV w1 vlaw l) (hfi:fi=(fr:Nat)) (hii:ii=(i:Nat)) (hfr:fr<M.L.length) (hi:i<v.length) (hp1:v.getD i 0=p+1) (hp:p<l.start.length) (hrl:l.rates.length=l.start.length) (hel:l.exit.length=l.start.length) (hr1:(l.rates.getD p []).length=l.start.length) (hn4:l.start.length<=8)
 (hvl:v.length<=100) (hsm:∀j,v.getD j 0<=50) (hroom:zqk D B) (hov:∀m∈pre++zbr (lwF l) v i,over D B m.2) (hlen:pre.length<=900):
 Calls Tryz.prog 43 #[.pointer (some ⟨M.b,0,none⟩), .int .i64 fi,vv, .int .i64 ii,vlaw] w (λ e w'=>e= .returned (.tuple #[])/\M.Step w1 w w' st (zzc M.L mv fr (znb M.L (pre++zbr (lwF l) v i)))):=by
 subst hfi;subst hii;obtain⟨nm,vS,vR,vE,rfl,hS,hR,hE⟩:=hl;obtain⟨sa,sn,sk,rfl,_⟩:=id hS.sl;obtain⟨ra,rn,rk,rfl,_⟩:=id hR.sl;obtain⟨ea,en,ek,rfl,_⟩:=id hE.sl;have HLE:=zH (zLT h.le h.bld.sz);have hba:=zba w (.cells #[.string nm, .slice sa sn sk, .slice ra rn rk, .slice ea en ek] 30);have HT:=zH (C4.new w 30 (.string nm) (.slice sa sn sk) (.slice ra rn rk) (.slice ea en ek));have HK:=zH (h.bw hba);have HB0:=zH hba;have HI:=zH h.hi;have HKW:=zH h.bld.sz;have HV:=zH hv
 have HRP:zI (∃r,w1.cell? (ptr (.slice ra rn rk) p)=some r/\znc w1 r (l.rates.getD p [])):=zH (by
  have hp3:p<l.rates.length:=zO;have:=hR.at' p hp3;rw[zGD,zGE hp3];exact this)
 have HEP:=zH (hE.at' p zO)
 have HEQ:zI (l.exit[p]' zO=(lwF l).E p):=zH (by
  show _=l.exit.getD p 0
  rw[zGD,zGE zO];rfl)
 have vsl:=hv.sl;have srl:=hR.sl;have sel:=hE.sl;have vln:slen vv=v.length:=hv.len;have cv0:=hv.at' i hi;have HSM:=zH hsm;have HROOM:=zH hroom;have HOV:=zH hov;have HLEN:=zH hlen;have hrn:rn=l.rates.length:=hR.len;have hen:en=l.exit.length:=hE.len;obtain⟨n,hn⟩:∃n,l.start.length=n:=⟨_,rfl⟩;rw[hn]at hp hrl hel hr1 hn4;rw[hrl]at hrn;rw[hel]at hen;replace hrn:=hrn.symm;replace hen:=hen.symm;subst hrn;subst hen;have HNL:zI ((lwF l).n=n):=zH hn;have HR1:=zH hr1;have HVI:=zH hi;have HVL:=zH hvl;have HP1:=zH hp1;have HPQ:zI (v.getD i 0-1=p):=zH zO;have hgd:v[i]'hi=v.getD i 0:=by rw[zGD,zGE hi];rfl
 rw[hgd,hp1]at cv0;have cv:=zca hba (zca h.bel cv0);have i1:(0:Int)<=(i:Int):=zO;have i2:(i:Int)<((v.length:Nat):Int):=zO;obtain⟨vr,hcr,hvr⟩:=HRP.o;have rsl:=hvr.sl;have rln:slen vr=n:=by rw[hvr.len,HR1.o]
 have HVR:=zH hvr;obtain⟨b9,hb9⟩:∃b,w.heap.size=b:=⟨_,rfl⟩;have H9:zI (M.hi<=b9):=zH (by rw[<-hb9];exact HI.o);have j1:(0:Int)<=(p:Int):=zO;have j2:(p:Int)<(n:Nat):=zO;clear h hv hS hR hE hba hrl hel hr1 hsm hroom hov hlen hn hgd cv0 hi hvl hp1 hvr;go_enter Tryz.func43,Tryz.ntmps43;go_upto_region 1 with fail;rw[hb9]at HT;clear hb9;generalize w.alloc (.cells #[.string nm, .slice sa sn sk, .slice ra n rk, .slice ea n ek] 30)=W3 at *
 have cr:=zca HK.o.bel hcr;obtain⟨-,d0,d1,d2,d3,-,-,-,-⟩:=HT.o
 have HKq:zI (M.Ok w1 W3 st (zzc M.L mv fr (znb M.L (pre++zzf (lwF l) v i 0)))):=zH (by
  have e:pre++zzf (lwF l) v i 0=pre:=by unfold zzf;simp
  rw[e];exact HK.o)
 have HBK:zI (Below M.B w W3):=zH (HB0.o.mono HKW.o);clear hcr;go_wp2_with fail;clear cr cv d0 d1 d2 d3;go_loopg [24] (n) (λ g u24 wr=>∃q:Nat,q<=n/\g=n-q/\u24= .int .i64 q/\M.Ok w1 wr st (zzc M.L mv fr (znb M.L (pre++zzf (lwF l) v i q)))/\C4 wr b9 (.string nm) (.slice sa sn sk) (.slice ra n rk) (.slice ea n ek)/\Below M.B w wr/\zya M.hi w wr);case atStart=>exact⟨0,zZL _,rfl,rfl,HKq.o,HT.o,HBK.o,zya.bw HB0.o⟩
 case round=>
  obtain⟨q,hqn,hg,rfl,hk,ht,hbk,hmk⟩:=hrel;obtain⟨wx,hwx⟩:∃w6,w6=wr:=⟨_,rfl⟩;subst hwx;have HG:=zH hg;have HKX:=zH hk;have HTX:=zH ht;have HBX:=zH hbk;have HMX:=zH hmk;clear hg hk ht hbk hmk HKq HT HBK HB0 HK;by_cases hql:q<n
  ·(have hql2:q<(l.rates.getD p []).length:=by rw[HR1.o];exact hql);obtain⟨t1,xa,xb,z0,z1,z2,⟨xa1,xa2,xa3,rfl,_⟩,⟨xb1,xb2,xb3,rfl,_⟩,hx⟩:=HVR.o.at' q hql2
   have hxe:(l.rates.getD p [])[q]'hql2=(lwF l).R p q:=by
    (show _=(l.rates.getD p []).getD q 0);rw[zGD (l:=l.rates.getD p []),zGE hql2];rfl
   rw[hxe]at hx;replace z0:=zca HKX.o.bel z0;replace z1:=zca HKX.o.bel z1;replace z2:=zca HKX.o.bel z2;have hba:=zba wx (.cells #[.bool t1, .slice xa1 xa2 xa3, .slice xb1 xb2 xb3] 53);have HX:=zH ((hx.bw HKX.o.bel).bw hba);have HXC:=zH (C3.new wx 53 (.bool t1) (.slice xa1 xa2 xa3) (.slice xb1 xb2 xb3));have HBA:=zH hba;have HQ:zI (zzf (lwF l) v i (q+1)=zzf (lwF l) v i q++ [zbm (lwF l) v i q]):=zH (fragP_succ _ _ _ _);have i5:(0:Int)<=(q:Int):=zO;have i6:(q:Int)<(n:Nat):=zO;have HQR:zI ((zbm (lwF l) v i q).2=(lwF l).R p q):=zH (by show(lwF l).R _ q=_;rw[HPQ.o]);clear hx hxe hba hql2;obtain⟨x,hx⟩:∃x,(lwF l).R p q=x:=⟨_,rfl⟩;rw[hx]at HX HQR;clear hx;by_cases hx0:x=0
   ·have e0:decide (x=0)=true:=zDT hx0;have HX0:=zH hx0;clear hx0
    go_wp2_with (first
     |(go_at_call 45;(with_reducible refine(zud _ x _ HX.o).mono ?_);rintro e4 w4 ⟨rfl,hb4⟩;have HB4:=zH (zaa HBA.o hb4);clear hb4 z0 z1 z2))
    go_roundg (n- (q+1));case measure=>(have:=HG.o;omega)
    case rel=>
     refine⟨q+1,zO,rfl,by go_num,(HKX.o.bw HB4.o).congr (λ i _=>rfl) (λ r c _ _=> ?_),HTX.o.bS HB4.o,zsb HBX.o HB4.o (zLT HKW.o HMX.o.size),HMX.o.trans (zya.bw HB4.o)⟩;rw[HQ.o,<-List.append_assoc]
     have e:znb M.L ((pre++zzf (lwF l) v i q)++ [zbm (lwF l) v i q])=znb M.L (pre++zzf (lwF l) v i q):=by
      funext c
      refine zgf _ ?_;rw[HQR.o,HX0.o]
     rw[e]
   ·have e0:decide (x=0)=false:=zDF hx0;clear hx0
    have HMEM:zI (zbm (lwF l) v i q∈zbr (lwF l) v i):=zH (by
     rw[zar];exact List.mem_append_left _ (List.mem_map.2 ⟨q,List.mem_range.2 (by rw[HNL.o];exact hql),rfl⟩))
    have HOQ:zI (∀y∈(pre++zzf (lwF l) v i q)++ [zbm (lwF l) v i q],over D B y.2):=zH (λ y hy=>by
     refine HOV.o y ?_;rcases List.mem_append.1 hy with h1 | h1
     ·rcases List.mem_append.1 h1 with h2 | h2
      ·exact List.mem_append_left _ h2
      ·refine List.mem_append_right _ ?_;rw[zar];obtain⟨r,hr,rfl⟩:=List.mem_map.1 h2;exact List.mem_append_left _ (List.mem_map.2 ⟨r,List.mem_range.2 (by have:=List.mem_range.1 hr;rw[HNL.o];omega),rfl⟩)
     ·rw[List.mem_singleton.1 h1];exact List.mem_append_right _ HMEM.o)
    have HTG:zI (zhb (zbm (lwF l) v i q).1/\1<=(zbm (lwF l) v i q).1.length/\(zbm (lwF l) v i q).1.length<=100):=zH ⟨zqg (B:=50) zD (set_le HSM.o zO),by show 1<=(v.set i (q+1)).length;rw[zGS];have:=HVI.o;omega,by show(v.set i (q+1)).length<=100;rw[zGS];exact HVL.o⟩;have HLQ:zI ((pre++zzf (lwF l) v i q).length<1000):=zH (by rw[zLA];unfold zzf;rw[zMP,List.length_range];have:=HLEN.o;omega)
    go_upto_region 6 with(first
     |(go_at_call 45;(with_reducible refine(zud _ x _ HX.o).mono ?_);rintro e4 w4 ⟨rfl,hb4⟩;have HB4:=zH (zaa HBA.o hb4);have HK4:=zH (HKX.o.bw HB4.o);have HX4:=zH (HX.o.bw hb4);obtain⟨-,g0,g1,g2,-,-,-⟩:=HXC.o.bS hb4;clear hb4 z0 z1 z2))
    refine wpL.st3 8 g0 g1 g2 (λ wd hbD hHeld=> ?_);have HKD:=zH (HK4.o.bw hbD);have HXD:zI (zmf wd (.agg #[.bool t1, .slice xa1 xa2 xa3, .slice xb1 xb2 xb3]) (zbm (lwF l) v i q).2):=zH (by rw[HQR.o];exact HX4.o.bw hbD);have HVD:=zH (HV.o.bw HKD.o.bel);have HBD:=zH (zaa HB4.o hbD);(have hwq:IntKind.i64.wrap (((q:Nat):Int)+1)=((q+1:Nat):Int):=by rw[zub zO zO];omega);clear g0 g1 g2 hbD;refine zU 0 ?_;refine zU 1 ?_;refine zU 2 ?_;refine zU 3 ?_;refine zU 4 ?_;refine zU 5 ?_;refine zY 7 ?_;(refine zW 6 ?_;intro K hK);refine zla 48 #[vv, .int .i64 (i:Nat), .int .i64 (IntKind.i64.wrap (((q:Nat):Int)+1))] ?_ ?_ (zfi vv v i (q+1) _ _ _ HVD.o rfl hwq HVI.o HVL.o) ?_
    ·rfl
    ·go_simp
    rintro e5 w5 ⟨v5,rfl,ho5,hb5⟩;have hH5:=zpp hb5 hHeld;refine⟨_,rfl,?_⟩;refine hK.o _ _ (λ _=>hH5) ?_;have HO5:=zH ho5.natsV;have HK5:=zH (HKD.o.bw hb5);have HX5:=zH (HXD.o.bw hb5);have HB5:=zH (zaa HBD.o hb5);clear hK K hHeld ho5 hb5 HKD HXD HVD HBD;refine zS ?_;clear hwq;(refine zW 8 ?_;intro K hK);refine zla 46 #[.pointer (some ⟨M.b,0,none⟩), .int .i64 (fr:Nat),v5, .agg #[.bool t1, .slice xa1 xa2 xa3, .slice xb1 xb2 xb3]] ?_ ?_ (zxn (zbm (lwF l) v i q) ((fr:Nat):Int) v5 (.agg #[.bool t1, .slice xa1 xa2 xa3, .slice xb1 xb2 xb3]) HK5.o HO5.o HTG.o.1 HTG.o.2.1 HTG.o.2.2 HX5.o hfr rfl HROOM.o HOQ.o HLQ.o) ?_
    ·rfl
    ·go_simp
    rintro e8 w8 ⟨rfl,hs8⟩;have HS8:=zH hs8;refine⟨_,rfl,?_⟩;refine hK.o _ _ (λ h=>by first | cases h | simp at h) ?_;clear hK K hH5 hs8;refine wpL.done (by kernel_rfl) ?_ _;go_wp2_with fail;go_roundg (n- (q+1));case measure=>(have:=HG.o;omega)
    case rel=>
     have hs:=HS8.o;rw[List.append_assoc,<-HQ.o]at hs;exact⟨q+1,zO,rfl,by go_num,hs.1,(HTX.o.bS HB5.o).moves hs.2.2 H9.o,(zsb HBX.o HB5.o (zLT HKW.o HMX.o.size)).trans hs.2.1,(HMX.o.trans (zya.bw HB5.o)).trans hs.2.2⟩
  ·obtain rfl:q=n:=zO;obtain⟨t1,xa,xb,z0,z1,z2,⟨xa1,xa2,xa3,rfl,_⟩,⟨xb1,xb2,xb3,rfl,_⟩,hx⟩:=HEP.o;rw[HEQ.o]at hx;replace z0:=zca HKX.o.bel z0;replace z1:=zca HKX.o.bel z1;replace z2:=zca HKX.o.bel z2;have HX:=zH (hx.bw HKX.o.bel);obtain⟨-,d0,d1,d2,d3,-,-,-,-⟩:=HTX.o;obtain⟨mx,hmx⟩:∃mx:Mv,(v.set i 0,(lwF l).E (v.getD i 0-1))=mx:=⟨_,rfl⟩;have HQ:zI (pre++zbr (lwF l) v i=(pre++zzf (lwF l) v i q)++ [mx]):=zH (by rw[<-hmx,zar,HNL.o,List.append_assoc]);have HMX1:zI (mx.1=v.set i 0):=zH (by rw[<-hmx]);have HQR:zI (mx.2=(lwF l).E p):=zH (by rw[<-hmx,<-HPQ.o]);clear hmx;obtain⟨x,hxx⟩:∃x,(lwF l).E p=x:=⟨_,rfl⟩;rw[hxx]at HX HQR;clear hx hxx;by_cases hx0:x=0
   ·have e0:decide (x=0)=true:=zDT hx0;have HX0:=zH hx0;clear hx0
    go_wp2_with (first
     |(go_at_call 45;(with_reducible refine(zud _ x _ HX.o).mono ?_);rintro e4 w4 ⟨rfl,hb4⟩;have HB4:=zH hb4;clear hb4 z0 z1 z2 d0 d1 d2 d3))
    go_end0;refine⟨rfl,(HKX.o.bw HB4.o).congr (λ i _=>rfl) (λ r c _ _=> ?_),zsb HBX.o HB4.o (zLT HKW.o HMX.o.size),HMX.o.trans (zya.bw HB4.o)⟩;rw[HQ.o]
    have e:znb M.L ((pre++zzf (lwF l) v i q)++ [mx])=znb M.L (pre++zzf (lwF l) v i q):=by
     funext c
     refine zgf _ ?_;rw[HQR.o,HX0.o]
    rw[e]
   ·have e0:decide (x=0)=false:=zDF hx0;clear hx0;have HOQ:zI (∀y∈(pre++zzf (lwF l) v i q)++ [mx],over D B y.2):=zH (λ y hy=>HOV.o y (by rw[HQ.o];exact hy))
    have HTG:zI (zhb mx.1/\1<=mx.1.length/\mx.1.length<=100):=zH (by
     rw[HMX1.o,zGS];exact⟨zqg (B:=50) zD (set_le HSM.o zO),by have:=HVI.o;omega,HVL.o⟩)
    have HLQ:zI ((pre++zzf (lwF l) v i q).length<1000):=zH (by rw[zLA];unfold zzf;rw[zMP,List.length_range];have:=HLEN.o;omega)
    go_upto_region 9 with(first
     |(go_at_call 45;(with_reducible refine(zud _ x _ HX.o).mono ?_);rintro e4 w4 ⟨rfl,hb4⟩;have HB4:=zH hb4;have HK4:=zH (HKX.o.bw HB4.o);have HX4:=zH (HX.o.bw hb4);replace d3:=zca hb4 d3;replace z0:=zca hb4 z0;replace z1:=zca hb4 z1;replace z2:=zca hb4 z2;clear hb4))
    refine wpL.st4 10 d3 z0 z1 z2 (λ wd hbD hHeld=> ?_);have HKD:=zH (HK4.o.bw hbD);have HXD:zI (zmf wd (.agg #[.bool t1, .slice xa1 xa2 xa3, .slice xb1 xb2 xb3]) mx.2):=zH (by rw[HQR.o];exact HX4.o.bw hbD);have HVD:=zH (HV.o.bw HKD.o.bel);have HBD:=zH (zaa HB4.o hbD);clear d0 d1 d2 d3 z0 z1 z2 hbD;refine zU 0 ?_;refine zU 1 ?_;refine zU 2 ?_;refine zU 3 ?_;refine zU 5 ?_;refine zY 6 ?_;refine zU 7 ?_;refine zU 8 ?_;refine zY 9 ?_;(refine zW 4 ?_;intro K hK);refine zla 48 #[vv, .int .i64 (i:Nat), .int .i64 0] ?_ ?_ (zfi vv v i 0 _ _ _ HVD.o rfl rfl HVI.o HVL.o) ?_
    ·rfl
    ·go_simp
    rintro e5 w5 ⟨v5,rfl,ho5,hb5⟩;have hH5:=kcl4 hb5 hHeld;refine⟨_,rfl,?_⟩;refine hK.o _ _ (λ _=>hH5) ?_;have HO5:=zH ho5.natsV;have HK5:=zH (HKD.o.bw hb5);have HX5:=zH (HXD.o.bw hb5);have HB5:=zH (zaa HBD.o hb5);clear hK K hHeld ho5 hb5 HKD HXD HVD HBD;refine zS ?_;rw[<-HMX1.o]at HO5;(refine zW 10 ?_;intro K hK);refine zla 46 #[.pointer (some ⟨M.b,0,none⟩), .int .i64 (fr:Nat),v5, .agg #[.bool t1, .slice xa1 xa2 xa3, .slice xb1 xb2 xb3]] ?_ ?_ (zxn mx ((fr:Nat):Int) v5 (.agg #[.bool t1, .slice xa1 xa2 xa3, .slice xb1 xb2 xb3]) HK5.o HO5.o HTG.o.1 HTG.o.2.1 HTG.o.2.2 HX5.o hfr rfl HROOM.o HOQ.o HLQ.o) ?_
    ·rfl
    ·go_simp
    rintro e8 w8 ⟨rfl,hs8⟩;have HS8:=zH hs8;refine⟨_,rfl,?_⟩;refine hK.o _ _ (λ h=>by first | cases h | simp at h) ?_;clear hK K hH5 hs8;refine wpL.done (by kernel_rfl) ?_ _;go_wp2_with fail;go_end0;have hs:=HS8.o;rw[<-HQ.o]at hs;exact⟨rfl,hs.1,(zsb HBX.o HB5.o (zLT HKW.o HMX.o.size)).trans hs.2.1,(HMX.o.trans (zya.bw HB5.o)).trans hs.2.2⟩
theorem zjf (g:List Nat):∀v:List Nat,(zhg v g).length=v.length:=by
 unfold zhg
 induction g with
 | nil=>intro v;rfl
 | cons x g ih=>intro v;rw[List.foldl_cons,ih,zGS]
theorem zpm (g:List Nat):∀ (v:List Nat) (y:Nat),(zhg v g).getD y 0=if y∈g then 0 else v.getD y 0:=by
 unfold zhg
 induction g with
 | nil=>intro v y;simp
 | cons x g ih=>
   intro v y;rw[List.foldl_cons,ih];by_cases h:y∈g
   ·rw[zIP h,zIP (by simp[h])]
   ·rw[zIN h];by_cases e:y=x
    ·subst e;rw[zIP (by simp),zGD,List.getElem?_set,zIP rfl];split<;>rfl
    ·rw[zIN (by simp[e,h]),zGD,List.getElem?_set,zIN (λ h=>e h.symm),zGD]
theorem hitV_eq (g v:List Nat):zhg v g=v↔∀y∈g,v.getD y 0=0:=by
 constructor
 ·intro h y hy;have h1:=zpm g v y;rw[h,zIP hy]at h1;exact h1
 ·intro h;refine List.ext_getElem (zjf g v) λ i h1 h2=> ?_
  have h3:=zpm g v i;rw[zGD,zGE h1,zGD,zGE h2]at h3;by_cases e:i∈g
  ·have h4:=h i e;rw[zGD,zGE h2]at h4;rw[zIP e]at h3;exact Eq.trans h3 h4.symm
  ·rw[zIN e]at h3;exact h3
theorem hitV_snoc (v g:List Nat) (x:Nat):zhg v (g++ [x])=(zhg v g).set x 0:=by
 unfold zhg;rw[List.foldl_append];rfl
def hitB (v g:List Nat):Bool:=decide (zhg v g≠v)
theorem hitB_nil (v:List Nat):hitB v []=false:=zDF (by simp[zhg])
theorem hitB_snoc (v g:List Nat) (x:Nat):hitB v (g++ [x])=(hitB v g || decide (0<(zhg v g).getD x 0)):=by
 have e:zhg v (g++ [x])=v↔zhg v g=v/\(zhg v g).getD x 0=0:=by
  rw[hitV_eq,hitV_eq,zpm];constructor
  ·intro h;refine⟨λ y hy=>h y (by simp[hy]),?_⟩;split
   ·rfl
   ·exact h x (by simp)
  ·rintro⟨h1,h2⟩ y hy;rcases List.mem_append.1 hy with h3 | h3
   ·exact h1 y h3
   ·rw[List.mem_singleton.1 h3]at *
    by_cases h4:x∈g
    ·exact h1 x h4
    ·rwa[zIN h4]at h2
 unfold hitB;by_cases h1:zhg v g=v
 ·by_cases h2:(zhg v g).getD x 0=0
  ·rw[zDF (by simp[e,h1];rw[h1]at h2;simpa using h2),zDF (by simp[h1]),zDF zO];rfl
  ·rw[zDT (show zhg v (g++ [x])≠v from λ h=>h2 (e.1 h).2),zDF (by simp[h1]),zDT zO];rfl
 ·rw[zDT (show zhg v (g++ [x])≠v from λ h=>h1 (e.1 h).1),zDT h1];rfl
set_option maxRecDepth 100000 in
set_option maxHeartbeats 3200000 in
theorem struck_any (vv vg:Value) (v g:List Nat) (w:World) (hv:zjb w vv v) (hg:zjb w vg g) (hn:v.length<=100) (hn1:1<=v.length) (hin:∀x∈g,x<v.length) (hgl:g.length<=100):
 Calls Tryz.prog 44 #[vv,vg] w λ e w'=>Below w.heap.size w w'/\(zhg v g=v->e= .returned (.slice none 0 0))/\(zhg v g≠v->∃a l k,e= .returned (.slice (some a) l k)/\zjb w' (.slice (some a) l k) (zhg v g)):=by
 obtain⟨i3,hi3,hz3,hs3,hy3⟩:=info_parts Tryz.infoInt;have vsl:=hv.sl;have vln:=hv.len;have gsl:=hg.sl;have gln:=hg.len;obtain⟨n,hnn⟩:∃n,v.length=n:=⟨_,rfl⟩;rw[hnn]at hn hn1 vln hin;obtain⟨r,hr⟩:∃r,g.length=r:=⟨_,rfl⟩;rw[hr]at gln hgl;have HV:=zH hv;have HGV:=zH hg;have HN:=zH hnn;have HR:=zH hr;have HIN:=zH hin;clear hv hg hnn hr hin;go_enter Tryz.func44,Tryz.ntmps44
 go_upto_region 3 with(first
  |(refine zmb w rfl _ _ 31 rfl w.heap.size 3 i3 (.int .i64 0) 8 Tryz.underlying31 hi3 hz3 hs3 hy3 rfl (.slice none 0 0) [] rfl (zib.nil _ _ _) vv rfl HV.o.sl (v.map zod) (by rw[zMP];exact HV.o.len) (λ j hj=>zta.cell HV.o j hj) (λ x hx=>by obtain⟨y,_,rfl⟩:=List.mem_map.1 hx;rfl) (by simp[maxLen,HN.o];omega) (by simp[HN.o];omega) (zLR _) ?_;intro v5 w5 ho5 hg5 hb5;rw[List.nil_append]at ho5;have HO:=zH ho5;have HB:=zH hb5;have s5:=ho5.sl;(have l5:slen v5=n:=by rw[ho5.len,zMP,HN.o]);clear ho5 hg5 hb5))
 clear hi3 hz3 hs3 hy3;go_wp2_with fail;have HO0:zI (zib w5 3 w.heap.size v5 ((zhg v (g.take 0)).map zod)):=HO;go_loopg [6,13] (r) (λ gg u6 u13 wr=>∃j:Nat,j<=r/\gg=r-j/\u13= .int .i64 j/\u6= .bool (hitB v (g.take j))/\zib wr 3 w.heap.size v5 ((zhg v (g.take j)).map zod)/\Below w.heap.size w wr);case atStart=>exact⟨0,zZL _,rfl,rfl,by rw[List.take_zero,hitB_nil],HO0.o,HB.o⟩
 case round=>
  obtain⟨j,hjr,hgg,rfl,rfl,ho,hbr⟩:=hrel;obtain⟨w6,hw6⟩:∃w6,w6=wr:=⟨_,rfl⟩;subst hw6;have HG:=zH hgg;have HOX:=zH ho;have HBR:=zH hbr;clear hgg ho hbr HO HO0 HB;by_cases hjl:j<r
  ·(have hjg:j<g.length:=by rw[HR.o];exact hjl);have cg:=(HGV.o.bw HBR.o).at' j hjg;have hx:=HIN.o _ (zGM hjg);have HTK:zI (g.take (j+1)=g.take j++ [g[j]'hjg]):=zH (List.take_succ_eq_append_getElem hjg);generalize g[j]'hjg=x at *
   (have hxl:x<((zhg v (g.take j)).map zod).length:=by rw[zMP,zjf,HN.o];exact hx);have cx:=HOX.o.cell x hxl;have fx:=HOX.o.frozen x hxl;have hset:=HOX.o.set x hxl (zod 0);rw[<-List.map_set,<-hitV_snoc,<-HTK.o]at hset;have HSET:=zH hset
   have hyy:((zhg v (g.take j)).map zod)[x]'hxl=zod ((zhg v (g.take j)).getD x 0):=by
    rw[List.getElem_map,zGD,zGE (by rw[zMP]at hxl;exact hxl)];rfl
   rw[hyy]at cx;have HSB:zI (hitB v (g.take (j+1))=(hitB v (g.take j) || decide (0<(zhg v (g.take j)).getD x 0))):=zH (by rw[HTK.o,hitB_snoc]);clear hyy hset hxl;generalize (zhg v (g.take j)).getD x 0=y at *
   unfold zod at cx;have i1:(0:Int)<=(x:Int):=zO;have i2:(x:Int)<(n:Nat):=zO;have i3:(0:Int)<=(j:Int):=zO;have i4:(j:Int)<(r:Nat):=zO;clear hjg
   cases hbb:hitB v (g.take j)with
   | true=>
     rw[hbb]at HSB;clear hbb;go_wp2_with fail;go_roundg (r- (j+1));(case measure=>(have:=HG.o;omega));case rel=>exact⟨j+1,zO,rfl,by go_num,by rw[HSB.o];rfl,HSET.o.1,HBR.o.trans HSET.o.2⟩
   | false=>
     rw[hbb]at HSB;clear hbb;go_wp2_with fail;go_roundg (r- (j+1));(case measure=>(have:=HG.o;omega));case rel=>exact⟨j+1,zO,rfl,by go_num,by rw[HSB.o,Bool.false_or],HSET.o.1,HBR.o.trans HSET.o.2⟩
  ·obtain rfl:j=r:=zO;have hall:g.take j=g:=zTL (by rw[HR.o];exact zLR _);rw[hall]at HOX;rw[hall];have HS:=zH s5;have HL:=zH l5;by_cases hb:zhg v g=v
   ·have e1:hitB v g=false:=zDF (λ h=>h hb);have HH:=zH hb;clear hb hall;rw[e1];go_wp2_with fail;go_ret;exact⟨HBR.o,λ _=>rfl,λ h=>absurd HH.o h⟩
   ·have e1:hitB v g=true:=zDT hb;have HH:=zH hb;clear hb hall;rw[e1];have hnv:=HOX.o.natsV;rcases HOX.o.2 with⟨_,h0⟩ | ⟨gq,cap,cur,e8,_⟩
    ·rw[zMP,zjf,HN.o]at h0;omega
    ·(rw[e8]at hnv |-);have HNV:=zH hnv;clear hnv e8;go_wp2_with fail;go_ret;exact⟨HBR.o,λ h=>absurd h HH.o,λ _=>⟨_,_,_,rfl,HNV.o⟩⟩
structure LawsV (w:World) (v:Value) (ls:List LQ):Prop where
 sl:zlb v
 len:slen v=ls.length
 at':∀ (j:Nat) (h:j<ls.length),∃nm s r e,w.cell? (ptr v (j*4))=some (.string nm)/\w.cell? (ptr v (j*4+1))=some s/\w.cell? (ptr v (j*4+2))=some r/\w.cell? (ptr v (j*4+3))=some e/\znc w s ls[j].start/\MatV w r ls[j].rates/\znc w e ls[j].exit
theorem LawsV.bw {w w':World} {v:Value} {ls:List LQ} (h:LawsV w v ls) (hb:Below w.heap.size w w'):LawsV w' v ls:=
 ⟨h.sl,h.len,λ j hj=>by
  obtain⟨nm,s,r,e,h1,h2,h3,h4,h5,h6,h7⟩:=h.at' j hj;exact⟨nm,s,r,e,zca hb h1,zca hb h2,zca hb h3,zca hb h4,h5.bw hb,h6.bw hb,h7.bw hb⟩⟩
def lqNo :LQ:=⟨[],[],[]⟩
def lwI (ls:List LQ) (i:Nat):LwF:=lwF (ls.getD i lqNo)
theorem begV_succ (ls:Nat->LwF) (v:List Nat) (k:Nat) (p:Rat):begV ls v (k+1) p=begV ls v k p*(ls k).S (v.getD k 0-1):=rfl
theorem begV_sz {ls:Nat->LwF} (h:∀i j,Sz 32 ((ls i).S j)) (v:List Nat):∀k,Sz (1+32*k) (begV ls v k 1)
 | 0=>Sz.one.mono zO
 | k+1=>((begV_sz h v k).mul (h k _)).mono zO
theorem Sz.zero32 :Sz 32 0:=⟨false,0,1,zD,zD,zD,by decide+kernel⟩
theorem lwI_sz {ls:List LQ} (h:∀l∈ls,∀q∈l.start,Sz 32 q) (i j:Nat):Sz 32 ((lwI ls i).S j):=by
 show Sz 32 ((ls.getD i lqNo).start.getD j 0)
 have h1:∀q∈(ls.getD i lqNo).start,Sz 32 q:=by
  rcases zOG i ls.length with hi | hi
  ·rw[zGD,zGE hi];exact h _ (zGM hi)
  ·rw[zGD,List.getElem?_eq_none hi];intro q hq;cases hq
 rcases zOG j (ls.getD i lqNo).start.length with hj | hj
 ·rw[zGD (l:=(ls.getD i lqNo).start),zGE hj];exact h1 _ (zGM hj)
 ·rw[zGD (l:=(ls.getD i lqNo).start),List.getElem?_eq_none hj];exact Sz.zero32
set_option maxRecDepth 100000 in
set_option maxHeartbeats 3200000 in
theorem begin_any (vv vls:Value) (v:List Nat) (ls:List LQ) (w:World) (hv:zjb w vv v) (hls:LawsV w vls ls) (hl:v.length=ls.length) (h8:v.length<=8) (hpos:∀i,i<v.length->1<=v.getD i 0/\v.getD i 0<=(lwI ls i).n) (hp50:∀i,v.getD i 0<=50) (hsz:∀l∈ls,∀q∈l.start,Sz 32 q):
 Calls Tryz.prog 47 #[vv,vls] w (RF1 w (begV (lwI ls) v v.length 1)):=by
 have vsl:=hv.sl;have vln:=hv.len;have ssl:=hls.sl;have sln:=hls.len;have hba:=zba w (.cells #[.bool false, .slice none 0 0, .slice none 0 0] 53);have HR:=zH (C3.new w 53 (.bool false) (.slice none 0 0) (.slice none 0 0));have HSZ:=zH (begV_sz (lwI_sz hsz) v);obtain⟨n,hn⟩:∃n,v.length=n:=⟨_,rfl⟩;rw[hn]at hl h8 hpos vln;rw[<-hl]at sln;rw[hn];have HV:=zH hv;have HLS:=zH hls;have HL:=zH hl;have HN:=zH hn;have HP:=zH hpos;have HP50:=zH hp50;have HBA:=zH hba;clear hv hls hl hsz hn hpos hba hp50;go_enter Tryz.func47,Tryz.ntmps47
 go_upto_region 2 with(first
  |(go_at_call 105;(with_reducible refine(zul _).mono ?_);rintro e3 w3 ⟨v3,rfl,hv3,hb3⟩;obtain⟨t3,a31,l31,k31,a32,l32,k32,rfl⟩:=hv3.iF;have hbb:=zba w3 (.cells #[.bool t3, .slice a31 l31 k31, .slice a32 l32 k32] 53);have HPP:=zH (C3.new w3 53 (.bool t3) (.slice a31 l31 k31) (.slice a32 l32 k32));have HVV:=zH (hv3.bw hbb);have HB3:=zH (zaa HBA.o (zaa hb3 hbb));have HR3:=zH (HR.o.bS (zaa hb3 hbb));have HLT:zI (w.heap.size<w3.heap.size):=zH (zLM HR.o.lt hb3.size);clear hv3 hb3 hbb))
 obtain⟨b5,hb5⟩:∃b,w3.heap.size=b:=⟨_,rfl⟩;rw[hb5]at HPP HLT |-
 clear hb5;generalize w3.alloc (.cells #[.bool t3, .slice a31 l31 k31, .slice a32 l32 k32] 53)=W3 at *
 go_wp2_with fail;go_loopg [11] (n) (λ g u11 wr=>∃ (i:Nat) (t:Bool) (a1:Option Addr) (l1 k1:Nat) (a2:Option Addr) (l2 k2:Nat),i<=n/\g=n-i/\u11= .int .i64 i/\C3 wr b5 (.bool t) (.slice a1 l1 k1) (.slice a2 l2 k2)/\zna wr (.agg #[.bool t, .slice a1 l1 k1, .slice a2 l2 k2]) (begV (lwI ls) v i 1)/\C3 wr w.heap.size (.bool false) (.slice none 0 0) (.slice none 0 0)/\Below w.heap.size w wr);case atStart=>exact⟨0,_,_,_,_,_,_,_,zZL _,rfl,rfl,HPP.o,HVV.o,HR3.o,HB3.o⟩
 case round=>
  obtain⟨i,t,a1,l1,k1,a2,l2,k2,hin,hg,rfl,hp,hv,hr,hbr⟩:=hrel;obtain⟨wx,hwx⟩:∃w6,w6=wr:=⟨_,rfl⟩;subst hwx;have HG:=zH hg;have HPX:=zH hp;have HVX:=zH hv;have HRX:=zH hr;have HBR:=zH hbr;clear hg hp hv hr hbr HPP HVV HR3 HB3;by_cases hil:i<n
  ·(have hiv:i<v.length:=by rw[HN.o];exact hil);(have his:i<ls.length:=by rw[<-HL.o];exact hil);have cv:=(HV.o.bw HBR.o).getD hiv;obtain⟨y,hy⟩:∃y,v.getD i 0=y+1:=⟨v.getD i 0-1,by have:=(HP.o i hil).1;omega⟩
   have hyn:y<(ls[i]'his).start.length:=by
    have h:=(HP.o i hil).2
    have e:(lwI ls i).n=(ls[i]'his).start.length:=by
     (show(ls.getD i lqNo).start.length=_);rw[zGD,zGE his];rfl
    rw[hy,e]at h;omega
   have hy50:y<=50:=by have h:=HP50.o i;omega
   have HBV:zI (begV (lwI ls) v (i+1) 1=begV (lwI ls) v i 1*((ls[i]'his).start[y]'hyn)):=zH (by
    rw[begV_succ,hy,Nat.add_sub_cancel];(have e2:ls.getD i lqNo=ls[i]'his:=by rw[zGD,zGE his];rfl);(show _*(ls.getD i lqNo).start.getD y 0=_);rw[e2,zGD,zGE hyn];rfl)
   rw[hy]at cv;obtain⟨nm,vs,vr,ve,c0,c1,c2,c3,hS,hM,hE⟩:=(HLS.o.bw HBR.o).at' i his;obtain⟨sa,sn,sk,rfl,_⟩:=id hS.sl;have hsn:sn=(ls[i]'his).start.length:=hS.len;obtain⟨ts,as1,bs1,z0,z1,z2,⟨sa1,sl1,sk1,rfl,_⟩,⟨sa2,sl2,sk2,rfl,_⟩,hsv⟩:=hS.at' y hyn;(have hyn2:y<sn:=by rw[hsn];exact hyn);have HSV:=zH hsv;have HF0:zI (fits (begV (lwI ls) v i 1)):=zH ((HSZ.o i).fits zO);have HF1:zI (fits (begV (lwI ls) v (i+1) 1)):=zH ((HSZ.o (i+1)).fits zO);rw[HBV.o]at HF1;have sslS:=hS.sl;clear hS hM hE hsv hy;generalize (ls[i]'his).start[y]'_=s at *
   clear c0 c2 c3 hiv hyn hsn his;have i1:(0:Int)<=(i:Int):=zO;have i2:(i:Int)<(n:Nat):=zO;go_upto_region 5 with fail;obtain⟨-,p0,p1,p2,-,-,-⟩:=HPX.o;refine wpL.st7 11 p0 p1 p2 c1 z0 z1 z2 (λ wd hbD hHeld=> ?_);have HPD:=zH (HPX.o.bS hbD);have HVD:=zH (HVX.o.bw hbD);have HSD:=zH (HSV.o.bw hbD);have HRD:=zH (HRX.o.bS hbD);have HBD:=zH (zaa HBR.o hbD);clear p0 p1 p2 c1 z0 z1 z2 hbD;have i3:(0:Int)<=(y:Int):=zO;have i4:(y:Int)<(sn:Nat):=zO;have hwy:IntKind.i64.wrap ((y:Nat):Int)=((y:Nat):Int):=zub zO zO;refine zY 0 ?_;refine zU 1 ?_;refine zU 2 ?_;refine zU 3 ?_;refine zU 4 ?_;refine zY 5 ?_;refine zU 6 ?_;refine zU 7 ?_;(try rw[hwy]);refine zU 8 ?_;refine zY 9 ?_;(refine zCF 10 49 #[.agg #[.bool t, .slice a1 l1 k1, .slice a2 l2 k2], .agg #[.bool ts, .slice sa1 sl1 sk1, .slice sa2 sl2 sk2]] (ztg _ _ _ _ _ (HVD.o.toV HF0.o) HSD.o HF1.o) λ t6 a61 l61 k61 a62 l62 k62 w6 hv6 hb6=>⟨kcl7 hb6 hHeld,λ hH6=> ?_⟩);have HPF:=zH (HPD.o.bS hb6);have HRF:=zH (HRD.o.bS hb6);have HBF:=zH (zaa HBD.o hb6);have HV6:=zH hv6;clear hHeld HPD HVD HSD HRD HBD hv6 hb6;obtain⟨-,g0,g1,g2,k3,k4,k5⟩:=HPF.o;(refine zW 11 ?_;intro K hK);rw[zIP (by rfl)];go_simp;have HE:=zH (zAI (HPF.o.set (.bool t6) (.slice a61 l61 k61) (.slice a62 l62 k62)) (zAI (HV6.o.set3 HPF.o zZ zZ (.bool t6) (.slice a61 l61 k61) (.slice a62 l62 k62)) (zAI (HRF.o.set_other (Nat.ne_of_lt HLT.o) (.bool t6) (.slice a61 l61 k61) (.slice a62 l62 k62)) (zea HBF.o (zLO HLT.o) (.bool t6) (.slice a61 l61 k61) (.slice a62 l62 k62)))));refine hK.o _ _ (λ h=>by first | cases h | simp at h) ?_;clear hK K hH6 g0 g1 g2 k3 k4 k5;refine wpL.done (by kernel_rfl) ?_ _;go_wp2_with fail;go_roundg (n- (i+1));(case measure=>(have:=HG.o;omega));case rel=>exact⟨i+1,_,_,_,_,_,_,_,zO,rfl,by go_num,HE.o.1,by rw[HBV.o];exact HE.o.2.1,HE.o.2.2.1,HE.o.2.2.2⟩
  ·obtain rfl:i=n:=zO;obtain⟨-,p0,p1,p2,-,-,-⟩:=HPX.o;obtain⟨-,g0,g1,g2,k3,k4,k5⟩:=HRX.o;go_wp2_with fail;refine zab rfl rfl Tryz.aggF Tryz.sizeF (HRX.o.set _ _ _) rfl ?_;exact⟨_,rfl,HVX.o.set3 HRX.o zZ zZ _ _ _,zea HBR.o (zLR _) _ _ _⟩
end Go.Proofs.YtkpedaflofejnaaGreat
