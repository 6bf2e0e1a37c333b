/- Lemmas. -/
import Derived.Test.YtkpedaflofejnaaGreatMLo17
set_option linter.unusedVariables false
set_option linter.unusedSimpArgs false
namespace Go.Proofs.YtkpedaflofejnaaGreat
open Go.RowKit
theorem zfo :∀ (u:List Nat) (i:Nat),u.getD i 0<=u.sum
 | [],i=>by simp
 | x::u,0=>by simp
 | x::u,i+1=>by
   have:=zfo u i;simp only[List.getD_cons_succ,List.sum_cons];omega
theorem zhq {u:List Nat} (h:u.sum<=8):∀i,u.getD i 0<=8:=λ i=>zLT (zfo u i) h
theorem zqg {u:List Nat} {B:Nat} (hB:B<256) (h:∀i,u.getD i 0<=B):zhb u:=λ x hx=>by
 obtain⟨i,hi,rfl⟩:=List.getElem_of_mem hx;have:=h i;rw[zGD,zGE hi]at this;exact zLL this hB
theorem bump_le {u:List Nat} {i B:Nat} (h:∀j,u.getD j 0<=B) (j:Nat):(zbf u i).getD j 0<=B+1:=by
 unfold zbf;rw[zGD,List.getElem?_set];have h1:=h i;have h2:=h j;split
 ·split
  ·(show u.getD i 0+1<=B+1);omega
  ·simp
 ·rw[<-zGD];omega
theorem zxg {u:List Nat} {i B:Nat} (h:∀j,u.getD j 0<=B) (j:Nat):(zyb u i).getD j 0<=B:=by
 unfold zyb;rw[zGD,List.getElem?_set];have h1:=h i;have h2:=h j;split
 ·split
  ·(show u.getD i 0-1<=B);omega
  ·simp
 ·rw[<-zGD];exact h2
def sevQ (l:LwF) (v:List Nat) (p q:Nat):Mv:=(zbf (zyb v (p+1)) (q+1),(v.getD (p+1) 0:Rat)*l.R p q)
def zuo (l:LwF) (v:List Nat) (p q:Nat):List Mv:=(List.range q).map (sevQ l v p)
theorem sevP_succ (l:LwF) (v:List Nat) (p q:Nat):zuo l v p (q+1)=zuo l v p q++ [sevQ l v p q]:=by
 unfold zuo;rw[List.range_succ,List.map_append];rfl
theorem sevM_eq (l:LwF) (v:List Nat) (p:Nat):ziq l v p=zuo l v p l.n++ [(zbf (zyb v (p+1)) 0,(v.getD (p+1) 0:Rat)*l.E p)]:=rfl
theorem zxn {M:MkD} {w1 w:World} {st:Nat->Rat} {mv:List Nat->List Mv} {pre:List Mv} {fr:Nat} {D B:Nat} (m:Mv) (fi:Int) (vt vx:Value) (h:M.Ok w1 w st (zzc M.L mv fr (znb M.L pre))) (hu:zjb w vt m.1) (hsm:zhb m.1) (hu1:1<=m.1.length) (hu2:m.1.length<=100) (hx:zmf w vx m.2) (hfr:fr<M.L.length) (hfi:fi=(fr:Nat)) (hroom:zqk D B) (hov:∀x∈pre++ [m],over D B x.2) (hlen:pre.length<1000):
 Calls Tryz.prog 46 #[.pointer (some ⟨M.b,0,none⟩), .int .i64 fi,vt,vx] w (λ e w'=>e= .returned (.tuple #[])/\M.Step w1 w w' st (zzc M.L mv fr (znb M.L (pre++ [m])))):=by
 have h1:fits (znb M.L pre (M.L.idxOf m.1)):=zzj hroom (λ x hx=>hov x (by simp[hx])) zO;have h2:fits (znb M.L (pre++ [m]) (M.L.idxOf m.1)):=zzj hroom hov (by simp;omega);refine move_K fr fi vt vx m.1 m.2 h hu hsm hu1 hu2 hx hfr hfi (by rw[zuf];exact h1) (by rw[zuf,<-zkq];exact h2) (λ r c hn=> ?_) (by rw[zuf,zuf,zkq]);exact tabM_put (λ k hk=>rowM_put hk) hn
set_option maxRecDepth 100000 in
set_option maxHeartbeats 12800000 in
theorem several_any (M:MkD) (w1 w:World) (st:Nat->Rat) (mv:List Nat->List Mv) (pre:List Mv) (fr p:Nat) (fi pp:Int) (vv vlaw:Value) (v:List Nat) (l:LQ) (D B:Nat) (h:M.Ok w1 w st (zzc M.L mv fr (znb M.L pre))) (hv:zjb w1 vv v) (hl:LawV w1 vlaw l) (hfi:fi=(fr:Nat)) (hpp:pp=(p:Nat)) (hfr:fr<M.L.length) (hp:p<l.start.length) (hrl:l.rates.length=l.start.length) (hel:l.exit.length=l.start.length) (hr1:(l.rates.getD p []).length=l.start.length) (hn4:l.start.length<=4)
 (hvl:v.length=l.start.length+1) (hsum:v.sum<=8) (hpos:0<v.getD (p+1) 0) (hroom:zqk D B) (hov:∀m∈pre++ziq (lwF l) v p,over D B m.2) (hlen:pre.length<=900):
 Calls Tryz.prog 68 #[.pointer (some ⟨M.b,0,none⟩), .int .i64 fi,vv, .int .i64 pp,vlaw] w (λ e w'=>e= .returned (.tuple #[])/\M.Step w1 w w' st (zzc M.L mv fr (znb M.L (pre++ziq (lwF l) v p)))):=by
 subst hfi;subst hpp;obtain⟨nm,vS,vR,vE,rfl,hS,hR,hE⟩:=hl;obtain⟨sa,sn,sk,rfl,_⟩:=id hS.sl;obtain⟨ra,rn,rk,rfl,_⟩:=id hR.sl;obtain⟨ea,en,ek,rfl,_⟩:=id hE.sl;have hle:=h.le;have HLE:=zH (zLT h.le h.bld.sz);have hba:=zba w (.cells #[.string nm, .slice sa sn sk, .slice ra rn rk, .slice ea en ek] 30);have HT:=zH (C4.new w 30 (.string nm) (.slice sa sn sk) (.slice ra rn rk) (.slice ea en ek));have HK:=zH (h.bw hba);have HB0:=zH hba;have HI:=zH h.hi;have HKW:=zH h.bld.sz;have hp2:p+1<v.length:=zO;have hm8:=zhq hsum (p+1);have HV:=zH hv
 have HRP:zI (∃r,w1.cell? (ptr (.slice ra rn rk) p)=some r/\znc w1 r (l.rates.getD p [])):=zH (by
  have hp3:p<l.rates.length:=zO;have:=hR.at' p hp3;rw[zGD,zGE hp3];exact this)
 have HEP:=zH (hE.at' p zO)
 have HEQ:zI (l.exit[p]' zO=(lwF l).E p):=zH (by
  show _=l.exit.getD p 0
  rw[zGD,zGE zO];rfl)
 have vsl:=hv.sl;have srl:=hR.sl;have sel:=hE.sl;have vln:slen vv=v.length:=hv.len;have cv0:=hv.at' (p+1) hp2;have HSM:=zH (zhq hsum);have HROOM:=zH hroom;have HOV:=zH hov;have HLEN:=zH hlen;have hrn:rn=l.rates.length:=hR.len;have hen:en=l.exit.length:=hE.len;obtain⟨n,hn⟩:∃n,l.start.length=n:=⟨_,rfl⟩;rw[hn]at hp hrl hel hr1 hn4 hvl;rw[hrl]at hrn;rw[hel]at hen;replace hrn:=hrn.symm;replace hen:=hen.symm;subst hrn;subst hen;rw[hvl]at vln hp2;have HVL:=zH hvl;have HNL:zI ((lwF l).n=n):=zH hn;have HR1:=zH hr1;have hgd:v[p+1]'(by rw[hvl];exact hp2)=v.getD (p+1) 0:=by rw[zGD,zGE (by rw[hvl];exact hp2)];rfl
 rw[hgd]at cv0;obtain⟨m,hm⟩:∃m,v.getD (p+1) 0=m:=⟨_,rfl⟩;have HM:=zH hm;rw[hm]at cv0 hm8 hpos;have cv:=zca hba (zca h.bel cv0);have HCV:zI (∀wq,Below w1.heap.size w1 wq->wq.cell? (ptr vv (p+1))=some (.int .i64 (m:Nat))):=zH (λ wq hb=>zca hb cv0);have HDR:zI (v.set (p+1) (m-1)=zyb v (p+1)):=zH (by unfold zyb;rw[HM.o]);have HFN:zI (fits (fq false m 1)):=zH (zvl ⟨m,zO⟩);have i1:(0:Int)<=((p+1:Nat):Int):=zO;have i2:((p+1:Nat):Int)<((n+1:Nat):Int):=zO;clear h hv hS hR hE hba hrl hel hr1 hvl hsum hroom hov hlen hn hgd hm cv0;go_enter Tryz.func68,Tryz.ntmps68
 go_upto_region 2 with(first
  |(go_at_call 105;(with_reducible refine(lmnumber_nat m zO _).mono ?_);rintro e3 w3 ⟨v3,rfl,hv3,hb3⟩;obtain⟨t3,a31,l31,k31,a32,l32,k32,rfl⟩:=hv3.iF;have hbb:=zba w3 (.cells #[.bool t3, .slice a31 l31 k31, .slice a32 l32 k32] 53);have HN:=zH (C3.new w3 53 (.bool t3) (.slice a31 l31 k31) (.slice a32 l32 k32));have HNV:=zH (hv3.bw hbb);have HT3:=zH (HT.o.bS (zaa hb3 hbb));have HK3:=zH (HK.o.bw (zaa hb3 hbb));have HB3:=zH (zaa HB0.o (zaa hb3 hbb));have HL3:zI (w.heap.size<=w3.heap.size):=zH (zLT HB0.o.size hb3.size);clear hv3 hb3 hbb cv))
 obtain⟨b9,hb9⟩:∃b,w.heap.size=b:=⟨_,rfl⟩;obtain⟨b10,hb10⟩:∃b,w3.heap.size=b:=⟨_,rfl⟩;rw[hb9]at HT3;rw[hb10]at HN;rw[hb9,hb10];have H9:zI (M.hi<=b9):=zH (by rw[<-hb9];exact HI.o);have H10:zI (M.hi<=b10):=zH (by rw[<-hb10];exact zLT HI.o HL3.o);clear hb9 hb10;generalize w3.alloc (.cells #[.bool t3, .slice a31 l31 k31, .slice a32 l32 k32] 53)=W3 at *
 obtain⟨vr,hcr,hvr⟩:=HRP.o;have rsl:=hvr.sl;have rln:slen vr=n:=by rw[hvr.len,HR1.o]
 have cr:=zca HK3.o.bel hcr;have HVR:=zH hvr;obtain⟨-,d0,d1,d2,d3,-,-,-,-⟩:=HT3.o;have j1:(0:Int)<=(p:Int):=zO;have j2:(p:Int)<(n:Nat):=zO
 have HKq:zI (M.Ok w1 W3 st (zzc M.L mv fr (znb M.L (pre++zuo (lwF l) v p 0)))):=zH (by
  have e:pre++zuo (lwF l) v p 0=pre:=by unfold zuo;simp
  rw[e];exact HK3.o)
 have HBK:zI (Below M.B w W3):=zH (HB3.o.mono (by have:=HK3.o.bld.sz;have:=HK.o.bld;exact HKW.o));clear hcr hvr;go_wp2_with fail;clear cr d0 d1 d2 d3;go_loopg [27] (n) (λ g u27 wr=>∃q:Nat,q<=n/\g=n-q/\u27= .int .i64 q/\M.Ok w1 wr st (zzc M.L mv fr (znb M.L (pre++zuo (lwF l) v p q)))/\C4 wr b9 (.string nm) (.slice sa sn sk) (.slice ra n rk) (.slice ea n ek)/\C3 wr b10 (.bool t3) (.slice a31 l31 k31) (.slice a32 l32 k32)/\zna wr (.agg #[.bool t3, .slice a31 l31 k31, .slice a32 l32 k32]) (fq false m 1)/\Below M.B w wr/\zya M.hi w wr);case atStart=>exact⟨0,zZL _,rfl,rfl,HKq.o,HT3.o,HN.o,HNV.o,HBK.o,zya.bw HB3.o⟩
 case round=>
  obtain⟨q,hqn,hg,rfl,hk,ht,hc,hf,hbk,hmk⟩:=hrel;obtain⟨wx,hwx⟩:∃w6,w6=wr:=⟨_,rfl⟩;subst hwx;have HG:=zH hg;have HKX:=zH hk;have HTX:=zH ht;have HCX:=zH hc;have HFX:=zH hf;have HBX:=zH hbk;have HMX:=zH hmk;clear hg hk ht hc hf hbk hmk HKq HT3 HN HNV HBK HB3 HK3;by_cases hql:q<n
  ·(have hql2:q<(l.rates.getD p []).length:=by rw[HR1.o];exact hql);obtain⟨t1,xa,xb,z0,z1,z2,⟨xa1,xa2,xa3,rfl,_⟩,⟨xb1,xb2,xb3,rfl,_⟩,hx⟩:=HVR.o.at' q hql2
   have hxe:(l.rates.getD p [])[q]'hql2=(lwF l).R p q:=by
    (show _=(l.rates.getD p []).getD q 0);rw[zGD (l:=l.rates.getD p []),zGE hql2];rfl
   rw[hxe]at hx;replace z0:=zca HKX.o.bel z0;replace z1:=zca HKX.o.bel z1;replace z2:=zca HKX.o.bel z2;have hba:=zba wx (.cells #[.bool t1, .slice xa1 xa2 xa3, .slice xb1 xb2 xb3] 53);have HX:=zH ((hx.bw HKX.o.bel).bw hba);have HXC:=zH (C3.new wx 53 (.bool t1) (.slice xa1 xa2 xa3) (.slice xb1 xb2 xb3));have HBA:=zH hba;have HQ:zI (zuo (lwF l) v p (q+1)=zuo (lwF l) v p q++ [sevQ (lwF l) v p q]):=zH (sevP_succ _ _ _ _);(have hz:∀y:Rat,y=(lwF l).R p q->True:=λ _ _=>trivial);have i5:(0:Int)<=(q:Int):=zO;have i6:(q:Int)<(n:Nat):=zO;clear hx hxe hba hql2 hz;obtain⟨x,hx⟩:∃x,(lwF l).R p q=x:=⟨_,rfl⟩;have HXE:=zH hx;rw[hx]at HX;clear hx;by_cases hx0:x=0
   ·have e0:decide (x=0)=true:=zDT hx0;have HX0:=zH hx0;clear hx0
    go_wp2_with (first
     |(go_at_call 45;(with_reducible refine(zud _ x _ HX.o).mono ?_);rintro e4 w4 ⟨rfl,hb4⟩;have HB4:=zH (zaa HBA.o hb4);clear hb4 z0 z1 z2))
    go_roundg (n- (q+1));case measure=>(have:=HG.o;omega)
    case rel=>
     refine⟨q+1,zO,rfl,by go_num,(HKX.o.bw HB4.o).congr (λ i _=>rfl) (λ r c _ _=> ?_),HTX.o.bS HB4.o,HCX.o.bS HB4.o,HFX.o.bw HB4.o,zsb HBX.o HB4.o (zLT HKW.o HMX.o.size),HMX.o.trans (zya.bw HB4.o)⟩;rw[HQ.o,<-List.append_assoc]
     have e:znb M.L ((pre++zuo (lwF l) v p q)++ [sevQ (lwF l) v p q])=znb M.L (pre++zuo (lwF l) v p q):=by
      funext c
      refine zgf _ ?_;(show _*(lwF l).R p q=0);rw[HXE.o,HX0.o,Rat.mul_zero]
     rw[e]
   ·have e0:decide (x=0)=false:=zDF hx0;clear hx0
    have HMEM:zI (sevQ (lwF l) v p q∈ziq (lwF l) v p):=zH (by
     rw[sevM_eq];exact List.mem_append_left _ (List.mem_map.2 ⟨q,List.mem_range.2 (by rw[HNL.o];exact hql),rfl⟩))
    have HRATE:zI ((sevQ (lwF l) v p q).2=fq false m 1*x):=zH (by
     (show((v.getD (p+1) 0:Nat):Rat)*(lwF l).R p q=_);rw[HM.o,HXE.o,zdr])
    have HFR:zI (fits (fq false m 1*x)):=zH (by
     rw[<-HRATE.o];exact HROOM.o.fits (HOV.o _ (List.mem_append_right _ HMEM.o)))
    have HOQ:zI (∀y∈(pre++zuo (lwF l) v p q)++ [sevQ (lwF l) v p q],over D B y.2):=zH (λ y hy=>by
     refine HOV.o y ?_;rcases List.mem_append.1 hy with h1 | h1
     ·rcases List.mem_append.1 h1 with h2 | h2
      ·exact List.mem_append_left _ h2
      ·refine List.mem_append_right _ ?_;rw[sevM_eq];obtain⟨r,hr,rfl⟩:=List.mem_map.1 h2;exact List.mem_append_left _ (List.mem_map.2 ⟨r,List.mem_range.2 (by have:=List.mem_range.1 hr;rw[HNL.o];omega),rfl⟩)
     ·rw[List.mem_singleton.1 h1];exact List.mem_append_right _ HMEM.o)
    have HTG:zI (zhb (sevQ (lwF l) v p q).1/\1<=(sevQ (lwF l) v p q).1.length/\(sevQ (lwF l) v p q).1.length<=100):=zH ⟨zqg (B:=9) zD (bump_le (zxg HSM.o)),by show 1<=(zbf _ _).length;rw[zwd,zdb,HVL.o];omega,by show(zbf _ _).length<=100;rw[zwd,zdb,HVL.o];omega⟩;have HLQ:zI ((pre++zuo (lwF l) v p q).length<1000):=zH (by rw[zLA];unfold zuo;rw[zMP,List.length_range];have:=HLEN.o;omega)
    go_wp2_with (first
     |(go_at_call 45;(with_reducible refine(zud _ x _ HX.o).mono ?_);rintro e4 w4 ⟨rfl,hb4⟩;have HB4:=zH (zaa HBA.o hb4);have HK4:=zH (HKX.o.bw HB4.o);have cv4:=HCV.o _ HK4.o.bel;have HX4:=zH (HX.o.bw hb4);have HXC4:=zH (HXC.o.bS hb4);clear hb4 z0 z1 z2)
     |(go_at_call 48;(with_reducible refine(zfi vv v (p+1) (m-1) _ _ _ (HV.o.bw HK4.o.bel) zO zO (by rw[HVL.o];omega) (by rw[HVL.o];omega)).mono ?_);rintro e5 w5 ⟨v5,rfl,ho5,hb5⟩;rw[HDR.o]at ho5;have s5:=ho5.sl;(have l5:slen v5=n+1:=by rw[ho5.len,zMP,zdb,HVL.o]);obtain⟨c5,f5,ho6,hb6⟩:=zok ho5 (i:=q+1) (by rw[zdb,HVL.o];omega);have hy8:=zxg (i:=p+1) HSM.o (q+1);obtain⟨y,hy⟩:∃y,(zyb v (p+1)).getD (q+1) 0=y:=⟨_,rfl⟩;rw[hy]at c5 ho6 hb6 hy8;obtain⟨W6,hW6⟩:∃W6,w5.setCell (ptr v5 (q+1)) (.int .i64 ((y:Int)+1))=W6:=⟨_,rfl⟩;rw[hW6]at ho6 hb6;have HO6:=zH ho6;have HB6:=zH (zaa HB4.o (hb5.trans hb6));have HK6:=zH (HKX.o.bw HB6.o);have HX6:=zH (HX4.o.bw (hb5.trans hb6));have HF6:=zH (HFX.o.bw HB6.o);obtain⟨-,g0,g1,g2,-,-,-⟩:=HCX.o.bS HB6.o;obtain⟨-,k0,k1,k2,-,-,-⟩:=HXC4.o.bS (hb5.trans hb6);clear hy ho5 hb5 ho6 hb6 cv4)
     |(go_at_call 49;(with_reducible refine(ztg _ _ (fq false m 1) x _ (HF6.o.toV HFN.o) HX6.o HFR.o).mono ?_);rintro e7 w7 ⟨v7,rfl,hv7,hb7⟩;obtain⟨t7,a71,l71,k71,a72,l72,k72,rfl⟩:=hv7.iF;rw[<-HRATE.o]at hv7;have HV7:=zH (hv7.toV (by rw[HRATE.o];exact HFR.o));have HO7:zI (zjb w7 v5 (sevQ (lwF l) v p q).1):=zH ((HO6.o.bw hb7).natsV);have HB7:=zH (zaa HB6.o hb7);have HK7:=zH (HKX.o.bw HB7.o);clear hv7 hb7)
     |(go_at_call 46;(with_reducible refine(zxn (sevQ (lwF l) v p q) _ _ _ HK7.o HO7.o HTG.o.1 HTG.o.2.1 HTG.o.2.2 HV7.o hfr rfl HROOM.o HOQ.o HLQ.o).mono ?_);rintro e8 w8 ⟨rfl,hs8⟩;have HS8:=zH hs8;clear hs8))
    go_roundg (n- (q+1));case measure=>(have:=HG.o;omega)
    case rel=>
     have hs:=HS8.o;rw[List.append_assoc,<-HQ.o]at hs;refine⟨q+1,zO,rfl,by go_num,hs.1,(HTX.o.bS HB7.o).moves hs.2.2 H9.o,(HCX.o.bS HB7.o).moves hs.2.2 H10.o,(HFX.o.bw HB7.o).moves hs.2.2,(zsb HBX.o HB7.o (zLT HKW.o HMX.o.size)).trans hs.2.1,(HMX.o.trans (zya.bw HB7.o)).trans hs.2.2⟩
  ·obtain rfl:q=n:=zO;obtain⟨t1,xa,xb,z0,z1,z2,⟨xa1,xa2,xa3,rfl,_⟩,⟨xb1,xb2,xb3,rfl,_⟩,hx⟩:=HEP.o;rw[HEQ.o]at hx;replace z0:=zca HKX.o.bel z0;replace z1:=zca HKX.o.bel z1;replace z2:=zca HKX.o.bel z2;have HX:=zH (hx.bw HKX.o.bel);have HQ:zI (pre++ziq (lwF l) v p=(pre++zuo (lwF l) v p q)++ [(zbf (zyb v (p+1)) 0,(v.getD (p+1) 0:Rat)*(lwF l).E p)]):=zH (by rw[sevM_eq,HNL.o,List.append_assoc]);obtain⟨-,d0,d1,d2,d3,-,-,-,-⟩:=HTX.o;obtain⟨x,hxx⟩:∃x,(lwF l).E p=x:=⟨_,rfl⟩;have HXE:=zH hxx;rw[hxx]at HX;clear hx hxx;by_cases hx0:x=0
   ·have e0:decide (x=0)=true:=zDT hx0;have HX0:=zH hx0;clear hx0
    go_wp2_with (first
     |(go_at_call 45;(with_reducible refine(zud _ x _ HX.o).mono ?_);rintro e4 w4 ⟨rfl,hb4⟩;have HB4:=zH hb4;clear hb4 z0 z1 z2 d0 d1 d2 d3))
    go_end0;refine⟨rfl,(HKX.o.bw HB4.o).congr (λ i _=>rfl) (λ r c _ _=> ?_),zsb HBX.o HB4.o (zLT HKW.o HMX.o.size),HMX.o.trans (zya.bw HB4.o)⟩;rw[HQ.o]
    have e:znb M.L ((pre++zuo (lwF l) v p q)++ [(zbf (zyb v (p+1)) 0,(v.getD (p+1) 0:Rat)*(lwF l).E p)])=znb M.L (pre++zuo (lwF l) v p q):=by
     funext c
     refine zgf _ ?_;(show _*(lwF l).E p=0);rw[HXE.o,HX0.o,Rat.mul_zero]
    rw[e]
   ·have e0:decide (x=0)=false:=zDF hx0;clear hx0;obtain⟨mx,hmx⟩:∃mx:Mv,(zbf (zyb v (p+1)) 0,(v.getD (p+1) 0:Rat)*(lwF l).E p)=mx:=⟨_,rfl⟩;have HMX1:zI (mx.1=zbf (zyb v (p+1)) 0):=zH (by rw[<-hmx])
    have HRATE:zI (mx.2=fq false m 1*x):=zH (by
     rw[<-hmx];(show((v.getD (p+1) 0:Nat):Rat)*(lwF l).E p=_);rw[HM.o,HXE.o,zdr])
    rw[hmx]at HQ;have HOQ:zI (∀y∈(pre++zuo (lwF l) v p q)++ [mx],over D B y.2):=zH (λ y hy=>HOV.o y (by rw[HQ.o];exact hy))
    have HFR:zI (fits (fq false m 1*x)):=zH (by
     rw[<-HRATE.o];exact HROOM.o.fits (HOQ.o mx (by simp)))
    have HTG:zI (zhb mx.1/\1<=mx.1.length/\mx.1.length<=100):=zH (by
     rw[HMX1.o];exact⟨zqg (B:=9) zD (bump_le (zxg HSM.o)),by rw[zwd,zdb,HVL.o];omega,by rw[zwd,zdb,HVL.o];omega⟩)
    have HLQ:zI ((pre++zuo (lwF l) v p q).length<1000):=zH (by rw[zLA];unfold zuo;rw[zMP,List.length_range];have:=HLEN.o;omega);clear hmx
    go_upto_region 13 with(first
     |(go_at_call 45;(with_reducible refine(zud _ x _ HX.o).mono ?_);rintro e4 w4 ⟨rfl,hb4⟩;have HB4:=zH hb4;have HK4:=zH (HKX.o.bw HB4.o);have cv4:=HCV.o _ HK4.o.bel;have HX4:=zH (HX.o.bw hb4);clear hb4 d0 d1 d2 d3)
     |(go_at_call 48;(with_reducible refine(zfi vv v (p+1) (m-1) _ _ _ (HV.o.bw HK4.o.bel) zO zO (by rw[HVL.o];omega) (by rw[HVL.o];omega)).mono ?_);rintro e5 w5 ⟨v5,rfl,ho5,hb5⟩;rw[HDR.o]at ho5;have s5:=ho5.sl;(have l5:slen v5=q+1:=by rw[ho5.len,zMP,zdb,HVL.o]);obtain⟨c5,f5,ho6,hb6⟩:=zok ho5 (i:=0) (by rw[zdb,HVL.o];omega);have hy8:=zxg (i:=p+1) HSM.o 0;obtain⟨y,hy⟩:∃y,(zyb v (p+1)).getD 0 0=y:=⟨_,rfl⟩;rw[hy]at c5 ho6 hb6 hy8;obtain⟨W6,hW6⟩:∃W6,w5.setCell (ptr v5 0) (.int .i64 ((y:Int)+1))=W6:=⟨_,rfl⟩;rw[hW6]at ho6 hb6;have HO6:=zH ho6;have HB6:=zH (zaa HB4.o (hb5.trans hb6));have HK6:=zH (HKX.o.bw HB6.o);have HX6:=zH (HX4.o.bw (hb5.trans hb6));have HF6:=zH (HFX.o.bw HB6.o);obtain⟨-,g0,g1,g2,-,-,-⟩:=HCX.o.bS HB6.o;obtain⟨-,-,-,-,d3,-,-,-,-⟩:=HTX.o.bS HB6.o;have y0:=zca HB6.o z0;have y1:=zca HB6.o z1;have y2:=zca HB6.o z2;clear hy ho5 hb5 ho6 hb6 cv4 z0 z1 z2))
    refine wpL.st7 10 g0 g1 g2 d3 y0 y1 y2 (λ wd hbD hHeld=> ?_);have HKD:=zH (HK6.o.bw hbD);have HXD:=zH (HX6.o.bw hbD);have HFD:=zH (HF6.o.bw hbD);have HOD:=zH (HO6.o.bw hbD);have HBD:=zH (zaa HB6.o hbD);clear g0 g1 g2 d3 y0 y1 y2 hbD;refine zU 0 ?_;refine zU 1 ?_;refine zU 2 ?_;refine zY 3 ?_;refine zU 4 ?_;refine zY 5 ?_;refine zU 6 ?_;refine zU 7 ?_;refine zY 8 ?_;(refine zCF 9 49 #[.agg #[.bool t3, .slice a31 l31 k31, .slice a32 l32 k32], .agg #[.bool t1, .slice xa1 xa2 xa3, .slice xb1 xb2 xb3]] (ztg _ _ (fq false m 1) x _ (HFD.o.toV HFN.o) HXD.o HFR.o) λ t7 a71 l71 k71 a72 l72 k72 w7 hv7 hb7=>⟨kcl7 hb7 hHeld,λ hH7=> ?_⟩);rw[<-HRATE.o]at hv7;have HV7:=zH (hv7.toV (by rw[HRATE.o];exact HFR.o));have HO7:zI (zjb w7 v5 mx.1):=zH (by rw[HMX1.o];exact(HOD.o.bw hb7).natsV);have HB7:=zH (zaa HBD.o hb7);have HK7:=zH (HKD.o.bw hb7);clear hHeld hv7 hb7 HKD HXD HFD HOD HBD;(refine zW 10 ?_;intro K hK);refine zla 46 #[.pointer (some ⟨M.b,0,none⟩), .int .i64 (fr:Nat),v5, .agg #[.bool t7, .slice a71 l71 k71, .slice a72 l72 k72]] ?_ ?_ (zxn mx ((fr:Nat):Int) v5 (.agg #[.bool t7, .slice a71 l71 k71, .slice a72 l72 k72]) HK7.o HO7.o HTG.o.1 HTG.o.2.1 HTG.o.2.2 HV7.o hfr rfl HROOM.o HOQ.o HLQ.o) ?_
    ·rfl
    ·go_simp
    rintro e8 w8 ⟨rfl,hs8⟩;have HS8:=zH hs8;refine⟨_,rfl,?_⟩;refine hK.o _ _ (λ h=>by first | cases h | simp at h) ?_;clear hK K hH7 hs8;refine wpL.done (by kernel_rfl) ?_ _;go_wp2_with fail;go_end0;have hs:=HS8.o;rw[<-HQ.o]at hs;exact⟨rfl,hs.1,(zsb HBX.o HB7.o (zLT HKW.o HMX.o.size)).trans hs.2.1,(HMX.o.trans (zya.bw HB7.o)).trans hs.2.2⟩
theorem len_bits {w:World} {v:Value} {m:Nat} (h:zpb w v m):(slen v<=1↔zsa m<=32):=by
 have h1:slen v=zda m:=h.1.len;rw[h1];exact⟨λ h=>zfg (k:=1) h,λ h=>zqc (k:=1) h⟩
theorem cmp_pos (q:Rat):decide ((0:Int)<zto q 0)=decide (0<q):=by
 unfold zto;by_cases h1:q<0
 ·have h2:¬0<q:=Rat.not_lt.2 (Rat.le_of_lt h1);rw[zIP h1,zDF h2];rfl
 ·rw[zIN h1];by_cases h2:0<q
  ·rw[zIP h2,zDT h2];rfl
  ·rw[zIN h2,zDF h2];rfl
theorem r2same_can (va vb:Value) (p q:Rat) (w:World) (ha:zna w va p) (hb:zna w vb q) (hp:fits p) (hq:fits q):Calls Tryz.prog 29 #[va,vb] w λ en w'=>en= .returned (.bool (decide (p=q)))/\Below w.heap.size w w':=by
 have h:=zhp va vb _ _ _ _ _ _ w ha.raw hb.raw ⟨p.den_nz,hp.2,hp.1⟩ ⟨q.den_nz,hq.2,hq.1⟩;rw[zrc,zrc]at h;exact h
end Go.Proofs.YtkpedaflofejnaaGreat
