/- Lemmas. -/
import Derived.Test.YtlpdkbmmbdfoiaaGreatERe4
import Derived.Test.YtlpdkbmmbdfoiaaGreatECp1
set_option linter.unusedVariables false
set_option linter.unusedSimpArgs false
namespace Go.Proofs.YtlpdkbmmbdfoiaaGreat
set_option maxHeartbeats 12800000
open Go.RowKit
def bqE (mb:Bool) (c:RC) (l:List Nat) (i:Nat):Rat:=if mb=true then 1 else lsr c (l.getD i 0) c.rates.length
structure RsolP (c:RC) (l:List Nat) (mb:Bool):Prop where
 lt:∀i,i<l.length->l.getD i 0<c.rates.length
 le:l.length<=20
 fA:zau l.length l.length (zis c l)
 fr:∀i k,i<l.length->k<=c.rates.length->fits (lsr c (l.getD i 0) k)
 w:wtF l.length l.length (zis c l)+wts (zib l.length (bqE mb c l))+wts (qs c.start)<=1900
 reg:1<=l.length->(elim false l.length (zpa l.length (zis c l) (fun i _=>bqE mb c l i)) l.length).r=l.length
 slim:1<=l.length->slimR l.length (l.length+1) (zpa l.length (zis c l) (fun i _=>bqE mb c l i))
theorem zjf.newC {b:Nat} (w:World) (cs:Array Value) (ty:TypeId) (hb:w.heap.size=b):zjf (w.alloc (.cells cs ty)) b cs:=by subst hb;exact zjf.new w cs ty
theorem frb {w w':World} {e:TypeId} {B:Nat} {v:Value} {q:List Rat} (h:zya w e B v q) (hb:Below w.heap.size w w'):zya w' e B v q:=h.moves (zhb.below (B:=B) hb) (zLR _)
theorem frKind {w:World} {B:Nat} {v u:Value} {q:List Rat} {xs:List Value} (h:zya w 38 B v q) (h2:zlc w 25 B 1 u xs.length xs):v.ownBlock=none\/v.ownBlock≠u.ownBlock:=by
 obtain⟨ys,y1,y2⟩:=id h
 exact y1.kinds h2 (by decide)
theorem frKind' {w:World} {B:Nat} {v u:Value} {q:List Rat} {xs:List Value} (h:zya w 38 B v q) (h2:zlc w 25 B 1 u xs.length xs):u.ownBlock=none\/u.ownBlock≠v.ownBlock:=by
 obtain⟨ys,y1,y2⟩:=id h
 exact h2.kinds y1 (by decide)
structure SvW (w:World) (B m:Nat) (A:Mx) (b:Nat->Rat) (i:Nat) (u8 u9:Value) (rs:List Value):Prop where
 rows:MkR w B u8 rs m A
 rl:rs.length=i
 rhs:zya w 38 B u9 (zib i b)
 ap:∀ (j:Nat) (hj:j<rs.length) g,rs[j].ownBlock=some g->u9.ownBlock≠some g
section
variable {w w':World} {B m i:Nat} {A:Mx} {b:Nat->Rat} {u8 u9 r v':Value} {rs:List Value}
theorem SvW.below (h:SvW w B m A b i u8 u9 rs) (hb:Below w.heap.size w w'):SvW w' B m A b i u8 u9 rs:=⟨h.rows.below hb,h.rl,frb h.rhs hb,h.ap⟩
structure SvX (w:World) (B m:Nat) (A:Mx) (b:Nat->Rat) (i:Nat) (u8 u9:Value) (rs:List Value):Prop where
 rows:MkR w B u8 rs m A
 rl:rs.length=i+1
 rhs:zya w 38 B u9 (zib i b)
 ap:∀ (j:Nat) (hj:j<rs.length) g,rs[j].ownBlock=some g->u9.ownBlock≠some g
theorem SvX.below (h:SvX w B m A b i u8 u9 rs) (hb:Below w.heap.size w w'):SvX w' B m A b i u8 u9 rs:=⟨h.rows.below hb,h.rl,frb h.rhs hb,h.ap⟩
theorem SvW.push1 (h:SvW w B m A b i u8 u9 rs) (hr:zya w 38 B r (zib m (A i))) (hne:∀g,r.ownBlock=some g->u9.ownBlock≠some g)
 (hv:zlc w' 25 B 1 v' (rs++ [r]).length (rs++ [r])) (hg:w.grownBy w' u8.ownBlock):SvX w' B m A b i v' u9 (rs++ [r])/\Below B w w':=by
 have hp:=h.rows.push (r:=r) (by rw[h.rl];exact hr) hv hg h.rows.ra.nl
 refine⟨⟨hp.1,by rw[List.length_append,h.rl];rfl,h.rhs.grown hg h.rows.ra.nl (frKind h.rhs h.rows.ra),fun j hj g hg2=> ?_⟩,hp.2⟩
 by_cases e:j<rs.length
 ·rw[List.getElem_append_left e]at hg2;exact h.ap j e g hg2
 ·have e2:j=rs.length:=by rw[List.length_append]at hj;simp at hj;omega
  subst e2
  rw[List.getElem_append_right (zLR _)]at hg2
  simp at hg2
  exact hne g hg2
theorem SvX.push2 (h:SvX w B m A b i u8 u9 rs) (hv:zya w' 38 B v' (zib (i+1) b)) (hg:w.grownBy w' u9.ownBlock) (hn:zlb w u9) (ho:v'.ownBlock=u9.ownBlock\/v'.ownBlock=some w.heap.size):
 SvW w' B m A b (i+1) u8 v' rs/\Below B w w':=by
 have hb:Below B w w':=zna hg h.rows.sz (fun k hk=>(h.rhs.block k hk).1)
 refine⟨⟨⟨h.rows.ra.grown hg (frKind' h.rhs h.rows.ra),fun j hj=>(h.rows.rows j hj).grown hg hn ?_,zLT h.rows.sz hb.size⟩,h.rl,hv,fun j hj g hg2=> ?_⟩,hb⟩
 ·cases hk:rs[j].ownBlock with
  | none=>exact Or.inl rfl
  | some g=>exact Or.inr fun e=>h.ap j hj g hk e.symm
 ·rcases ho with e | e
  ·rw[e];exact h.ap j hj g hg2
  ·rw[e]
   intro e2
   have:=((h.rows.rows j hj).block g hg2).2
   simp at e2
   omega
end
structure SvZ (W1:World) (m:Nat) (A:Mx) (b:Nat->Rat) (i:Nat) (u8 u9 r:Value) (rs:List Value) (b14:Nat) (t:Bool) (x y:Value) (q:Rat) (w:World):Prop where
 s:SvW w W1.heap.size m A b i u8 u9 rs
 r:zya w 38 W1.heap.size r (zib m (A i))
 q:zqa w (.agg #[.bool t,x,y]) q
 acc:C3 w b14 (.bool t) x y
 w:Below W1.heap.size W1 w
theorem bqE_false (c:RC) (l:List Nat) (i:Nat):bqE false c l i=lsr c (l.getD i 0) c.rates.length:=rfl
set_option maxRecDepth 100000 in
theorem rweights_nil (va:Value) (w:World) (sa:zgc va) (h0:slen va=0):Calls Tryz.prog 174 #[va] w fun e w'=>e= .returned (.int .i64 0)/\Below w.heap.size w w':=by
 go_enter Tryz.func174,Tryz.ntmps174
 go_wp2_with fail
 go_loopg [3,4] (0) (fun g u3 u4 wr=>u3= .int .i64 0/\u4= .int .i64 0/\wr=w)
 case atStart=>exact⟨rfl,rfl,rfl⟩
 case round=>
  obtain⟨rfl,rfl,rfl⟩:=hrel
  go_wp2_with fail
  go_ret
  exact⟨rfl,Below.refl _ _⟩
theorem qs_ofs (l:List Rat):qs (l.map RF.of)=l:=by
 unfold qs
 rw[List.map_map]
 exact(List.map_congr_left fun x _=>RF.of_q x).trans (List.map_id l)
theorem rawV_qs (n:Nat) (b:Nat->Rat):qs (zmu n b)=zib n b:=qs_ofs _
theorem neg_zs (x:Rat): -x=0-x:=by grind
set_option maxRecDepth 100000 in
theorem rsolve21_any (va vl:Value) (mb:Bool) (c:CQ) (l:List Nat) (w:World) (ha:zlq w va c) (hv:zzp c.raw) (hl:zgv w vl (ztr l)) (hp:RsolP c.raw l mb):
 Calls Tryz.prog 178 #[va,vl, .bool mb] w (fun e w'=>∃v,e= .returned (.tuple #[v, .int .i64 0])/\zbb w' v (zib l.length (fun j=>(elim false l.length (zpa l.length (zis c.raw l) (fun i _=>bqE mb c.raw l i)) l.length).A j l.length/(elim false l.length (zpa l.length (zis c.raw l) (fun i _=>bqE mb c.raw l i)) l.length).A j j))/\Below w.heap.size w w'):=by
 obtain⟨i3,hi3,hz3,hs3,hy3⟩:=info_parts Tryz.infoF
 have hA1:=zpp (P:=Tryz.prog) 25 38 i3 Tryz.underlying25 hi3 hz3 hs3 hy3
 have hAP:=fun{ops:Array Oper} {o:Oper} {a:Act} {w:World} {K:Act->World->Prop} {Q:Exit->Act->World->Prop} {E:Prop}=>zcg (P:=Tryz.prog) 25 38 i3 Tryz.underlying25 hi3 hz3 hs3 hy3 (ops:=ops) (o:=o) (a:=a) (w:=w) (K:=K) (Q:=Q) (E:=E)
 obtain⟨i4,hi4,hz4,hs4,hy4⟩:=info_parts Tryz.infoRow
 have hAR:=fun{ops:Array Oper} {o:Oper} {a:Act} {w:World} {K:Act->World->Prop} {Q:Exit->Act->World->Prop} {E:Prop}=>step_app_one (P:=Tryz.prog) 24 25 i4 _ 24 Tryz.underlying24 hi4 hz4 hs4 hy4 (by decide) rfl (fun z=>by simp) (ops:=ops) (o:=o) (a:=a) (w:=w) (K:=K) (Q:=Q) (E:=E)
 clear hi3 hz3 hs3 hy3 hi4 hz4 hs4 hy4
 have hlen:c.rates.length=c.start.length:=by have h:=hv.2.2.2.1;simpa [CQ.raw]using h
 have hrl:c.raw.rates.length=c.rates.length:=by simp[CQ.raw]
 have hlol:c.lost.length=c.start.length:=by have h:=hv.2.2.1;simpa [CQ.raw]using h
 have h128:c.start.length<=128:=by have h:=hv.2.1;simpa [CQ.raw]using h
 obtain⟨n,hn⟩:∃n,c.start.length=n:=⟨_,rfl⟩
 rw[hn]at hlen hlol h128
 obtain⟨rv,sv,lv,rfl,hr,hs,hlo⟩:=id ha
 obtain⟨ra,rn,rk,rfl,_⟩:=id hr.sl
 obtain⟨sa,sn,sk,rfl,_⟩:=id hs.sl
 obtain⟨la,ln,lk,rfl,_⟩:=id (zhc.sl hlo)
 obtain⟨va1,vn1,vk1,rfl,_⟩:=id (zhc.sl hl)
 have hrn:rn=n:=hr.len.trans hlen
 have hsn:sn=n:=hs.len.trans hn
 have hln:ln=n:=by have h:ln=c.lost.length:=hlo.len;omega
 subst hrn
 obtain rfl:sn=rn:=hsn
 obtain rfl:ln=sn:=hln
 obtain⟨m,hm⟩:∃m,l.length=m:=⟨_,rfl⟩
 have hvn1:vn1=m:=by have h:=zhc.len hl;rw[List.length_map,zbq,hm]at h;exact h
 subst hvn1
 have HBW:=zH (zca w (.cells #[.slice ra ln rk, .slice sa ln sk, .slice la ln lk] 28))
 have HC:=zH (C3.new w 28 (.slice ra ln rk) (.slice sa ln sk) (.slice la ln lk))
 have HRT:=zH (hr.below HBW.out)
 have HST:=zH (hs.below HBW.out)
 have HLO:=zH (hlo.below HBW.out)
 have HVL:=zH (zgv.below hl HBW.out)
 have HA:=zH (ha.below HBW.out)
 have srt:=hr.sl
 have sst:=hs.sl
 have slo:=zhc.sl hlo
 have svl:=zhc.sl hl
 have HV:=zH hv
 have HP:=zH hp
 have HLEN:=zH hlen
 have HLOL:=zH hlol
 have HN:=zH hn
 have HM:=zH hm
 have HRL:Hid (c.raw.rates.length=ln):=zH (hrl.trans hlen)
 have hm20:vn1<=20:=by rw[<-hm];exact hp.le
 have hng:¬ (24:Int)<(vn1:Nat):=by omega
 clear hr hs hlo hl ha hv hp hlen hrl hlol hn hm
 go_enter Tryz.func178,Tryz.ntmps178
 go_upto_region 1 with fail
 obtain⟨bc,hbc⟩:∃b,w.heap.size=b:=⟨_,rfl⟩
 have HBC:=zH hbc
 rw[hbc]at HC |-
 clear hbc
 generalize w.alloc (.cells #[.slice ra ln rk, .slice sa ln sk, .slice la ln lk] 28)=W1 at *
 go_wp2_with fail
 go_loopg [8,9,10] (vn1) (fun g u8 u9 u10 wr=>∃ (i:Nat) (rs:List Value),i<=vn1/\g=vn1-i/\u10= .int .i64 i/\SvW wr W1.heap.size vn1 (zis c.raw l) (bqE mb c.raw l) i u8 u9 rs/\Below W1.heap.size W1 wr)
 case atStart=>exact⟨0,[],zZL _,rfl,rfl,⟨⟨zlc.nil _ _ _ _,fun j h=>by simp at h,zLR _⟩,rfl,zya.nil _ _ _,fun j h=>by simp at h⟩,Below.refl _ _⟩
 case round=>
  obtain⟨i,rs,hin,hg,rfl,hsv,hbr⟩:=hrel
  obtain⟨W9,hw9⟩:∃w6,w6=wr:=⟨_,rfl⟩
  subst hw9
  have HG:=zH hg
  have HSV:=zH hsv
  have HBR:=zH hbr
  have sv8:=hsv.rows.ra.sl
  have sv9:=hsv.rhs.sl
  clear hg hsv
  obtain⟨_,c0,c1,c2,_,_,_⟩:=HC.out.belowS HBR.out
  by_cases hil:i<vn1
  ·have hil3:i<(ztr l).length:=by rw[zbq,HM.out];exact hil
   have hcl:=(HVL.out.below hbr).at' i hil3
   rw[zct (by rw[HM.out];exact hil)]at hcl
   have hsl:=HP.out.lt i (by rw[HM.out];exact hil)
   rw[HRL.out]at hsl
   obtain⟨s,hs⟩:∃s,l.getD i 0=s:=⟨_,rfl⟩
   rw[hs]at hcl hsl
   have HS:=zH hs
   have hir:s<c.rates.length:=by rw[HLEN.out];exact hsl
   obtain⟨rv,hrv,hrow⟩:=HRT.out.at' s hir
   have HRE:Hid (c.rates.getD s []=c.rates[s]'hir):=zH (by rw[zGD,zGE hir];rfl)
   rw[<-HRE.out]at hrow
   obtain⟨hi9,hrn9,hrp9,hrq9,hel9,hsum9⟩:=rawRow HV.out (i:=s) (by rw[HN.out];exact hsl)
   have HRN:Hid ((c.rates.getD s []).length=ln):=zH (by rw[hrn9,HN.out])
   have HRP:=zH hrp9
   have HRQ:=zH hrq9
   have HEL:=zH hel9
   obtain⟨rra,rrn,rrk,rfl,_⟩:=id hrow.sl
   have srow:=hrow.sl
   have HRW:=zH hrow
   have HRV:=zH hrv
   have i1:(0:Int)<=(i:Int):=by omega
   have i2:(i:Int)<(vn1:Nat):=by omega
   have k1:(0:Int)<=(s:Int):=by omega
   have k2:(s:Int)<(ln:Nat):=by omega
   obtain rfl:ln=rrn:=by rw[<-HRN.out];exact hrow.len.symm
   clear hrv hrow hs hrn9 hrp9 hrq9 hel9 hsum9 hbr
   go_wp2_with fail
   clear c0 c1 c2 hcl
   go_loopg [12,13] (vn1) (fun g u12 u13 wi=>∃ (j:Nat),j<=vn1/\g=vn1-j/\u13= .int .i64 j/\zya wi 38 W9.heap.size u12 (zib j (zis c.raw l i))/\Below W9.heap.size W9 wi)
   case atStart=>exact⟨0,zZL _,rfl,rfl,zya.nil _ _ _,Below.refl _ _⟩
   case round=>
    obtain⟨j,hjn,hg,rfl,hfr,hbi⟩:=hrel
    obtain⟨W11,hw9⟩:∃w6,w6=wr:=⟨_,rfl⟩
    subst hw9
    have HGJ:=zH hg
    have HFR:=zH hfr
    have HBI:=zH hbi
    have HB6:=zH (zaa HBR.out hbi)
    have s10:=hfr.sl
    obtain⟨_,c0,c1,c2,_,_,_⟩:=HC.out.belowS HB6.out
    have hri:=zba HB6.out HRV.out
    clear hg hfr
    by_cases hjl:j<vn1
    ·have hjl3:j<(ztr l).length:=by rw[zbq,HM.out];exact hjl
     have hcl:=(HVL.out.below HB6.out).at' j hjl3
     rw[zct (by rw[HM.out];exact hjl)]at hcl
     have hslj:=HP.out.lt j (by rw[HM.out];exact hjl)
     rw[HRL.out]at hslj
     obtain⟨t,ht⟩:∃t,l.getD j 0=t:=⟨_,rfl⟩
     rw[ht]at hcl hslj
     have HTT:=zH ht
     have hrl:(zib j (zis c.raw l i)).length<=1000:=by rw[zea];omega
     have j1:(0:Int)<=(j:Int):=by omega
     have j2:(j:Int)<(vn1:Nat):=by omega
     have k3:(0:Int)<=(t:Int):=by omega
     have k4:(t:Int)<(ln:Nat):=by omega
     clear ht
     by_cases e:i=j
     ·have hd:((i:Int)==(j:Int))=true:=by simp;omega
      have HIJ:=zH e
      clear e
      have hAN:=HA.out.raw.below HB6.out
      have HOUT:Hid (∀w0,zdq w0 (.agg #[.slice ra ln rk, .slice sa ln sk, .slice la ln lk]) c.raw->Calls Tryz.prog 70 #[.agg #[.slice ra ln rk, .slice sa ln sk, .slice la ln lk], .int .i64 s] w0 (RF1 w0 (zgg (zaq c.raw s)))):=zH (fun w0 h=>by
       rw[zkr,HRQ.out]
       exact zps _ c.raw s w0 h hi9 HRP.out)
      have HSY:Hid (zis c.raw l i j=zgg (zaq c.raw s)):=zH (by unfold zis;rw[if_pos HIJ.out,HS.out])
      go_wp2_with (first
       |(go_at_call 70;(with_reducible refine(HOUT.out _ hAN).mono ?_);rintro e13 w13 ⟨v13,rfl,hv13,hb13⟩
         obtain⟨t13,x13,y13,rfl,⟨a131,l131,k131,rfl,q131⟩,⟨a132,l132,k132,rfl,q132⟩⟩:=hv13.isF
         have hfr5:=frb HFR.out hb13
         have hsz5:=zLT HBI.out.size hb13.size)
       |(at_builtin;refine hA1 w13 rfl _ _ rfl W9.heap.size _ u12 (zib j (zis c.raw l i)) rfl hfr5 _ _ _ (zgg (zaq c.raw s)) hv13 rfl hrl hsz5 ?_;intro v4' w50 ho50 hg50 hn50 hq50 sv50
         have hg5:Below W9.heap.size w13 w50:=zna hg50 hsz5 (fun k hk=>(hfr5.block k hk).1)
         have HO50:=zH ho50))
      go_roundg (vn1- (j+1))
      case measure=>(have:=HGJ.out;omega)
      case rel=>exact⟨j+1,by omega,rfl,by go_num,by rw[<-zlk,HSY.out];exact HO50.out,(zfa HBI.out hb13 HBI.out.size).trans hg5⟩
     ·have hd:((i:Int)==(j:Int))=false:=by simp;omega
      have HSY:Hid (zis c.raw l i j=0-rq c.raw s t):=zH (by unfold zis;rw[if_neg e,HS.out,HTT.out])
      clear e
      obtain⟨ts,as1,ls1,ks1,as2,ls2,ks2,g1,g2,g3,hfs⟩:=(HRW.out.below HB6.out).cellsAt (k:=t) (by rw[HRN.out];exact hslj)
      have HQE:Hid (0-rq c.raw s t= -((c.rates.getD s []).getD t 0)):=zH (by show 0- (zaq c.raw s).getD t 0=_;rw[zkr,neg_zs])
      obtain⟨q,hq⟩:∃q,(c.rates.getD s []).getD t 0=q:=⟨_,rfl⟩
      rw[hq]at hfs HQE
      clear hq
      have hbD:=zja (B:=W11.heap.size) W11
      have hBI0:=HBI.out.size
      have hF1:=hfs.below hbD
      have hfrD:=frb HFR.out hbD
      have c0:=zba hbD c0
      have hri:=zba hbD hri
      have g1:=zba hbD g1
      have g2:=zba hbD g2
      have g3:=zba hbD g3
      have hcl:=zba hbD hcl
      have HBD:=zH (zaa HBI.out hbD)
      clear c1 c2 hfs hbi
      go_upto_region 15 with fail
      go_region_law (first
       |(refine zjc rfl 105 #[.agg #[.bool ts, .slice as1 ls1 ks1, .slice as2 ls2 ks2]] ?_ (zmv _ q _ hF1) ?_;go_simp;rintro e13 w13 ⟨v13,rfl,hv13,hb13⟩;refine⟨_,rfl,?_⟩
         obtain⟨t13,x13,y13,rfl,⟨a131,l131,k131,rfl,q131⟩,⟨a132,l132,k132,rfl,q132⟩⟩:=hv13.isF
         have hba:=zca w13 (.cells #[.bool t13, .slice a131 l131 k131, .slice a132 l132 k132] 38)
         have hb14:=zaa hb13 hba
         have hv14:=hv13.below hba
         have hfr5:=frb hfrD hb14
         have hvb:=zjf.new w13 #[.bool t13, .slice a131 l131 k131, .slice a132 l132 k132] 38
         have hsz5:=zLT HBD.out.size hb14.size)
       |(refine hAP rfl _ _ rfl W9.heap.size u12 (zib j (zis c.raw l i)) rfl hfr5 _ _ _ (-q) hv14 w13.heap.size rfl hvb hrl hsz5 ?_;intro v4' w50 ho50 hg50 hn50 hq50
         have sv50:=ho50.sl
         have hg5:Below W9.heap.size (w13.alloc (.cells #[.bool t13, .slice a131 l131 k131, .slice a132 l132 k132] 38)) w50:=zna hg50 hsz5 (fun k hk=>(hfr5.block k hk).1)
         have HO50:=zH ho50))
      all_goals
       go_wp2_with fail
       go_roundg (vn1- (j+1))
       case measure=>(have:=HGJ.out;omega)
       case rel=>exact⟨j+1,by omega,rfl,by go_num,by rw[<-zlk,HSY.out,HQE.out];exact HO50.out,(zfa HBD.out hb14 HBD.out.size).trans hg5⟩
    ·obtain rfl:vn1=j:=by omega
     have HLSF:Hid (∀k,k<=ln->fits (lsr c.raw s k)):=zH (fun k hk=>by
      have h:=HP.out.fr i k (by rw[HM.out];exact hil) (by rw[HRL.out];exact hk)
      rwa[HS.out]at h)
     clear hbi c0 c1 c2 hri
     go_upto_if 61 with(go_at_call 20;(with_reducible refine(zas _).mono ?_);rintro e13 w13 ⟨v13,rfl,hv13,hb13⟩
                        obtain⟨t13,x13,y13,rfl,⟨a131,l131,k131,rfl,q131⟩,⟨a132,l132,k132,rfl,q132⟩⟩:=hv13.isF
                        have hba:=zca w13 (.cells #[.bool t13, .slice a131 l131 k131, .slice a132 l132 k132] 38)
                        have HBA:=zH hba
                        have HV13:=zH (hv13.below hba)
                        have HC13:=zH (C3.new w13 38 (.bool t13) (.slice a131 l131 k131) (.slice a132 l132 k132))
                        have HB13:=zH (zaa HBI.out hb13)
                        have HFR13:=zH (frb HFR.out hb13)
                        clear hv13 hba)
     generalize w13.alloc (.cells #[.bool t13, .slice a131 l131 k131, .slice a132 l132 k132] 38)=W13 at *
     go_cut [] (fun wy=>∃ (t':Bool) (x' y':Value),C3 wy w13.heap.size (.bool t') x' y'/\zqa wy (.agg #[.bool t',x',y']) (bqE mb c.raw l i)/\Below w13.heap.size w13 wy)
     case first =>
      cases mb with
      | true=>
        go_wp2_with fail
        go_meet
        case rel=>exact⟨_,_,_,HC13.out,HV13.out,HBA.out⟩
      | false=>
        obtain⟨_,n0,n1,n2,f0,f1,f2⟩:=HC13.out
        go_wp2_with (go_at_call 20;(with_reducible refine(zwi _).mono ?_);rintro e14 w14 ⟨v14,rfl,hv14,hb14⟩
                     obtain⟨t14,x14,y14,rfl,⟨a141,l141,k141,rfl,q141⟩,⟨a142,l142,k142,rfl,q142⟩⟩:=hv14.isF
                     have HC14:=zH (HC13.out.belowS hb14)
                     have HV14:=zH hv14
                     have HB14:=zH (zaa HBA.out hb14)
                     clear n0 n1 n2 f0 f1 f2
                     obtain⟨_,n0,n1,n2,f0,f1,f2⟩:=HC14.out
                     clear hv14 hb14)
        go_loopg [15] (ln) (fun g u15 wr=>∃ (k:Nat) (t':Bool) (x' y':Value),k<=ln/\g=ln-k/\u15= .int .i64 k/\C3 wr w13.heap.size (.bool t') x' y'/\zqa wr (.agg #[.bool t',x',y']) (lsr c.raw s k)/\Below w13.heap.size w13 wr)
        case atStart=>exact⟨0,_,_,_,zZL _,rfl,rfl,HC14.out.set _ _ _,HV14.out.set3 HC14.out (fun z=>by simp) (fun z=>by simp) _ _ _,zga HB14.out (zLR _) _ _ _⟩
        case round=>
         obtain⟨k,t',x',y',hkn,hg,rfl,hcr,hfr,hbr⟩:=hrel
         obtain⟨wq,hwq⟩:∃w6,w6=wr:=⟨_,rfl⟩
         subst hwq
         obtain⟨_,_,_,hF6,⟨c81,m81,n81,rfl,_⟩,⟨c82,m82,n82,rfl,_⟩⟩:=hfr.isF
         injection hF6 with hF6
         injection hF6 with hF6
         simp only[List.cons.injEq,and_true,Value.bool.injEq]at hF6
         obtain⟨rfl,rfl,rfl⟩:=hF6
         have HGK:=zH hg
         have HCR:=zH hcr
         have HFA:=zH hfr
         have HBK:=zH hbr
         clear HC14 HV14 HB14 hg hcr hfr n0 n1 n2 f0 f1 f2
         have hbW:=zaa (zaa HBR.out HB13.out) hbr
         obtain⟨_,c0,c1,c2,_,_,_⟩:=HC.out.belowS hbW
         by_cases hkl:k<ln
         ·have hkL:k<c.lost.length:=by rw[HLOL.out];exact hkl
          have hri:=zba hbW HRV.out
          have qL:=(HLO.out.below hbW).at' k hkL
          obtain⟨ts,as1,ls1,ks1,as2,ls2,ks2,g1,g2,g3,hfs⟩:=(HRW.out.below hbW).cellsAt (k:=k) (by rw[HRN.out];exact hkl)
          have HLS:Hid (lsr c.raw s (k+1)=lsr c.raw s k+if c.lost.getD k false=true then rq c.raw s k else 0):=zH rfl
          have HQE:Hid (rq c.raw s k=(c.rates.getD s []).getD k 0):=zH (by show(zaq c.raw s).getD k 0=_;rw[zkr])
          have HQF:Hid (fits ((c.rates.getD s []).getD k 0)):=zH (HEL.out k (by rw[HN.out];exact hkl))
          rw[zrn hkL,HQE.out]at HLS
          obtain⟨q,hq⟩:∃q,(c.rates.getD s []).getD k 0=q:=⟨_,rfl⟩
          rw[hq]at hfs HLS HQF
          obtain⟨xL,hxL⟩:∃x,c.lost[k]'hkL=x:=⟨_,rfl⟩
          rw[hxL]at qL HLS
          have i3:(0:Int)<=(k:Int):=by omega
          have i4:(k:Int)<(ln:Nat):=by omega
          clear hq hxL hbr
          cases xL with
          | false=>
            have HLS:Hid (lsr c.raw s (k+1)=lsr c.raw s k):=zH (by have h:=HLS.out;simp only[Bool.false_eq_true,if_false,Rat.add_zero]at h;exact h)
            go_wp2_with fail
            go_roundg (ln- (k+1))
            case measure=>(have:=HGK.out;omega)
            case rel=>exact⟨k+1,_,_,_,by omega,rfl,by go_num,HCR.out,by rw[HLS.out];exact HFA.out,HBK.out⟩
          | true=>
            have HLS:Hid (lsr c.raw s (k+1)=lsr c.raw s k+q):=zH (by have h:=HLS.out;simp only[if_true]at h;exact h)
            have HFF:Hid (fits (lsr c.raw s k)/\fits (lsr c.raw s k+q)):=zH ⟨HLSF.out k hkn,by rw[<-HLS.out];exact HLSF.out (k+1) hkl⟩
            go_upto_region 23 with fail
            have hbD:=zja (B:=wq.heap.size) wq
            have c0:=zba hbD c0
            have hri:=zba hbD hri
            have g1:=zba hbD g1
            have g2:=zba hbD g2
            have g3:=zba hbD g3
            have hF1:=HFA.out.below hbD
            have hF2:=hfs.below hbD
            have hCD:=HCR.out.belowS hbD
            have HCD:=zH hCD
            have HBD:=zH (zfa HBK.out hbD HBK.out.size)
            obtain⟨_,q0,q1,q2,_,_,_⟩:=hCD
            clear c1 c2 qL hbD HFA HCR HBK hbW
            go_region_law (refine zjc rfl 19 #[.agg #[.bool t', .slice c81 m81 n81, .slice c82 m82 n82], .agg #[.bool ts, .slice as1 ls1 ks1, .slice as2 ls2 ks2]] ?_ (zhv _ _ (lsr c.raw s k) q _ hF1 hF2 HFF.out.1 HQF.out HFF.out.2) ?_;go_simp;rintro e9 w9 ⟨v9,rfl,hv9,hb9⟩;refine⟨_,rfl,?_⟩
                           obtain⟨t9,x9,y9,rfl,⟨a1,l91,k1,rfl,_⟩,⟨a2,l92,k2,rfl,_⟩⟩:=hv9.isF
                           have HCR9:=zH (HCD.out.belowS hb9)
                           have HV9:=zH hv9
                           have HB9:=zH (zfa HBD.out hb9 HBD.out.size)
                           clear q0 q1 q2
                           obtain⟨_,q0,q1,q2,f0,f1,f2⟩:=HCR9.out
                           clear hv9)
            all_goals
             go_wp2_with fail
             go_roundg (ln- (k+1))
             case measure=>(have:=HGK.out;omega)
             case rel=>exact⟨k+1,_,_,_,by omega,rfl,by go_num,HCR9.out.set _ _ _,by rw[HLS.out];exact HV9.out.set3 HCR9.out (fun z=>by simp) (fun z=>by simp) _ _ _,zga HB9.out (zLR _) _ _ _⟩
         ·obtain rfl:k=ln:=by omega
          go_wp2_with fail
          go_meet
          case rel=>
           refine⟨_,_,_,HCR.out,?_,HBK.out⟩
           rw[bqE_false,HS.out,HRL.out]
           exact HFA.out
     case rest=>
      obtain⟨t18,x18,y18,hC18,hv18,hb18⟩:=hcut
      obtain⟨W,hW⟩:∃w6,w6=wc:=⟨_,rfl⟩
      subst hW
      have hbW:=zaa HB13.out hb18
      have HSW:=zH (HSV.out.below hbW)
      have HFW:=zH (frb HFR13.out hb18)
      have HBW1:=zH (zaa HBR.out hbW)
      have HNE:Hid (∀g,u12.ownBlock=some g->u9.ownBlock≠some g):=zH (fun g h1 h2=>by
       have k1:=(HFR13.out.block g h1).1
       have k2:=(HSV.out.rhs.block g h2).2
       omega)
      have HFU:Hid (zya W 38 W1.heap.size u12 (zib vn1 (zis c.raw l i))):=zH (HFW.out.mono HBR.out.size)
      have hv18':=hv18
      obtain⟨_,_,_,hF18,⟨a181,l181,k181,rfl,_⟩,⟨a182,l182,k182,rfl,_⟩⟩:=hv18'.isF
      injection hF18 with hF18
      injection hF18 with hF18
      simp only[List.cons.injEq,and_true,Value.bool.injEq]at hF18
      obtain⟨rfl,rfl,rfl⟩:=hF18
      obtain⟨r1,r2,r3,rfl,_⟩:=id s10
      have hwl:w13.heap.size<W.heap.size:=hC18.lt
      have hU8:∀b,w13.heap.size<=b->u8.ownBlock≠some b:=fun b hb e=>by
       have k1:=(HSV.out.rows.ra.block _ e).2
       have k2:=HB13.out.size
       omega
      have hrsl:rs.length<=1000:=by have:=HSV.out.rl;omega
      have hbql:(zib i (bqE mb c.raw l)).length<=1000:=by rw[zea];omega
      have HQ18:=zH hv18
      clear hv18' HSV HFR HFR13 HFW HV13 HC13 HB13 HBA HBI HB6 HGJ hb13
      obtain⟨b14,hb14⟩:∃b,w13.heap.size=b:=⟨_,rfl⟩
      rw[hb14]at hC18 hwl hU8
      clear hb18
      rw[hb14]
      go_upto_region 24 with fail
      have bI:=zca W (.cells #[.slice r1 r2 r3] 25)
      have bF:=zca W (.cells #[.bool t18, .slice a181 l181 k181, .slice a182 l182 k182] 38)
      have bIF:=zca (W.alloc (.cells #[.slice r1 r2 r3] 25)) (.cells #[.bool t18, .slice a181 l181 k181, .slice a182 l182 k182] 38)
      have bFI:=zca (W.alloc (.cells #[.bool t18, .slice a181 l181 k181, .slice a182 l182 k182] 38)) (.cells #[.slice r1 r2 r3] 25)
      have hD:=zja (B:=W.heap.size) W
      have X1:=zH (SvZ.mk (HSW.out.below (zaa bI (zja _))) (frb HFU.out (zaa bI (zja _))) (hv18.below (zaa bI (zja _))) (hC18.belowS (zaa bI (zja _))) (zaa HBW1.out (zaa bI (zja _))))
      have X2:=zH (SvZ.mk (HSW.out.below (zaa (zaa bI bIF) (zja _))) (frb HFU.out (zaa (zaa bI bIF) (zja _))) (hv18.below (zaa (zaa bI bIF) (zja _))) (hC18.belowS (zaa (zaa bI bIF) (zja _))) (zaa HBW1.out (zaa (zaa bI bIF) (zja _))))
      have X3:=zH (SvZ.mk (HSW.out.below (zaa (zaa bF bFI) (zja _))) (frb HFU.out (zaa (zaa bF bFI) (zja _))) (hv18.below (zaa (zaa bF bFI) (zja _))) (hC18.belowS (zaa (zaa bF bFI) (zja _))) (zaa HBW1.out (zaa (zaa bF bFI) (zja _))))
      have eF3:=zH (((zjf.new W #[.bool t18, .slice a181 l181 k181, .slice a182 l182 k182] 38).below bFI).below (zja _))
      have eF2:=zH ((zjf.newC (b:=W.heap.size+1) (W.alloc (.cells #[.slice r1 r2 r3] 25)) #[.bool t18, .slice a181 l181 k181, .slice a182 l182 k182] 38 (by simp)).below (zja _))
      obtain⟨_,d0,d1,d2,_,_,_⟩:=hC18.belowS hD
      obtain⟨_,m0,m1,m2,_,_,_⟩:=X1.out.acc
      have hU8a:∀b,W.heap.size<=b->u8.ownBlock≠some b:=fun b hb=>hU8 b (by omega)
      have hU8b:=hU8 b14 (zLR _)
      clear bI bF bIF bFI hD hC18 hbW
      go_region_law (first
       |(refine hAR rfl _ _ rfl W1.heap.size u8 rs rfl X1.out.s.rows.ra (.slice r1 r2 r3) rfl (fun z=>by simp) W.heap.size rfl ?_ hrsl X1.out.s.rows.sz ?_;go_simp;intro v20 w20 ho20 hg20
         have hS20:=X1.out.s.push1 X1.out.r HNE.out ho20 hg20
         have hv20:=X1.out.q.grown hg20 X1.out.s.rows.ra.nl
         have hC20:=X1.out.acc.grown hg20 hU8b
         have hB20:=X1.out.w.trans hS20.2
         obtain⟨_,d0,d1,d2,_,_,_⟩:=id hC20)
       |(refine hAR rfl _ _ rfl W1.heap.size u8 rs rfl X2.out.s.rows.ra (.slice r1 r2 r3) rfl (fun z=>by simp) W.heap.size rfl ?_ hrsl X2.out.s.rows.sz ?_;go_simp;intro v20 w20 ho20 hg20
         have hS20:=X2.out.s.push1 X2.out.r HNE.out ho20 hg20
         have hv20:=X2.out.q.grown hg20 X2.out.s.rows.ra.nl
         have hB20:=X2.out.w.trans hS20.2
         have hF20:=eF2.out.grown hg20 (hU8a _ (by omega)))
       |(refine hAR rfl _ _ rfl W1.heap.size u8 rs rfl X3.out.s.rows.ra (.slice r1 r2 r3) rfl (fun z=>by simp) (W.heap.size+1) rfl ?_ hrsl X3.out.s.rows.sz ?_;go_simp;intro v20 w20 ho20 hg20
         have hS20:=X3.out.s.push1 X3.out.r HNE.out ho20 hg20
         have hv20:=X3.out.q.grown hg20 X3.out.s.rows.ra.nl
         have hB20:=X3.out.w.trans hS20.2
         have hF20:=eF3.out.grown hg20 (hU8a _ (zLR _)))
       |(refine hAP rfl _ _ rfl W1.heap.size u9 (zib i (bqE mb c.raw l)) rfl (hS20.1.below (zca _ _)).rhs _ _ _ _ (hv20.below (zca _ _)) w20.heap.size rfl (zjf.new _ _ _) hbql (hS20.1.below (zca _ _)).rows.sz ?_;intro v21 w21 hs21 hg21 hn21 ho21
         rw[zlk]at hs21
         have hS21:=(hS20.1.below (zca _ _)).push2 hs21 hg21 hn21 ho21
         have hB21:=(zfa hB20 (zca _ _) hB20.size).trans hS21.2)
       |(refine hAP rfl _ _ rfl W1.heap.size u9 (zib i (bqE mb c.raw l)) rfl hS20.1.rhs _ _ _ _ hv20 _ rfl hF20 hbql hS20.1.rows.sz ?_;intro v21 w21 hs21 hg21 hn21 ho21
         rw[zlk]at hs21
         have hS21:=hS20.1.push2 hs21 hg21 hn21 ho21
         have hB21:=hB20.trans hS21.2))
      all_goals
       clear d0 d1 d2
       go_wp2_with fail
       go_roundg (vn1- (i+1))
       case measure=>(have:=HG.out;omega)
       case rel=>exact⟨i+1,_,by omega,rfl,by go_num,hS21.1,hB21⟩
  ·obtain rfl:i=vn1:=by omega
   have HMAT:Hid (zam W9 u8 i i (zis c.raw l)):=zH (by have h:=HSV.out.rows.mat;rwa[HSV.out.rl]at h)
   have HRH:Hid (zbb W9 u9 (zib i (bqE mb c.raw l))):=zH HSV.out.rhs.fracs
   have HSTN:Hid (zbb W9 (.slice sa ln sk) c.start):=zH (HST.out.below hbr)
   have l8:slen u8=i:=by have h:=HSV.out.rows.ra.len;rwa[HSV.out.rl]at h
   have hfA:=HP.out.fA
   have hfb:∀k,k<i->fits (bqE mb c.raw l k):=fun k hk=>by
    cases mb with
    | true=>exact zdt
    | false=>exact HP.out.fr k _ (by rw[HM.out];exact hk) (zLR _)
   rw[HM.out]at hfA
   have HFA:=zH hfA
   have HFB:=zH hfb
   have HWT:Hid (∀w0,zam w0 u8 i i (zis c.raw l)->Calls Tryz.prog 174 #[u8] w0 fun e w'=>e= .returned (.int .i64 (wtF i i (zis c.raw l):Nat))/\Below w0.heap.size w0 w'):=zH (fun w0 k=>by
    rcases Nat.eq_zero_or_pos i with h | h
    ·subst h;exact rweights_nil u8 w0 k.sl k.len
    ·exact zjv u8 i _ w0 k HFA.out h (by omega))
   have HWV:Hid (∀w0,zbb w0 u9 (zib i (bqE mb c.raw l))->Calls Tryz.prog 175 #[u9] w0 fun e w'=>e= .returned (.int .i64 (wts (zib i (bqE mb c.raw l)):Nat))/\Below w0.heap.size w0 w'):=zH (fun w0 k=>by
    have h:=zvr u9 (zmu i (bqE mb c.raw l)) w0 k.raw (zpw HFB.out) (by rw[zrk];omega)
    rwa[rawV_qs]at h)
   have HWS:Hid (∀w0,zbb w0 (.slice sa ln sk) c.start->Calls Tryz.prog 175 #[.slice sa ln sk] w0 fun e w'=>e= .returned (.int .i64 (wts (qs c.raw.start):Nat))/\Below w0.heap.size w0 w'):=zH (fun w0 k=>zvr _ c.raw.start w0 k.raw (fun x hx=>HV.out.2.2.2.2.1.ok x hx) (by have h:=HV.out.2.1;omega))
   have hw:=HP.out.w
   rw[HM.out]at hw
   have HW0:=zH hw
   obtain⟨Wa,hWa⟩:∃W,wtF i i (zis c.raw l)=W:=⟨_,rfl⟩
   obtain⟨Wb,hWb⟩:∃W,wts (zib i (bqE mb c.raw l))=W:=⟨_,rfl⟩
   obtain⟨Wc,hWc⟩:∃W,wts (qs c.raw.start)=W:=⟨_,rfl⟩
   rw[hWa,hWb,hWc]at hw
   rw[hWa]at HWT
   rw[hWb]at HWV
   rw[hWc]at HWS
   have hwi:¬ (1900:Int)<((Wa:Nat):Int)+((Wb:Nat):Int)+((Wc:Nat):Int):=by omega
   have hwd:decide ((1900:Int)<IntKind.i64.wrap (IntKind.i64.wrap ((Wa:Int)+(Wb:Nat))+(Wc:Nat)))=false:=by
    have e1:IntKind.i64.wrap ((Wa:Int)+(Wb:Nat))=(Wa:Int)+(Wb:Nat):=zge (by omega) (by omega)
    have e2:IntKind.i64.wrap ((Wa:Int)+(Wb:Nat)+(Wc:Nat))=(Wa:Int)+(Wb:Nat)+(Wc:Nat):=zge (by omega) (by omega)
    rw[e1,e2]
    exact decide_eq_false (by omega)
   have HWD:=zH hwd
   have S0:=zH (And.intro c1 c2)
   clear hwd hWa hWb hWc hfA hfb HSV c0 c1 c2
   go_wp2_with fail
   go_region_held3 (fun w'=>w'.cell? ⟨bc,1,none⟩=some (.slice sa ln sk)/\w'.cell? ⟨bc,2,none⟩=some (.slice la ln lk)/\Below W9.heap.size W9 w') (first
    | with_reducible exact kp2a S0.out (zja _)
    | with_reducible exact kp2w (by assumption) (by assumption)) (first
    |(go_at_call 174;(with_reducible refine(HWT.out _ (HMAT.out.below (kp2c (by assumption)))).mono ?_);rintro e31 w31 ⟨rfl,hb31⟩)
    |(go_at_call 175;first
       |((with_reducible refine(HWV.out _ (HRH.out.below (kp2c (by assumption)))).mono ?_);rintro e32 w32 ⟨rfl,hb32⟩)
       |((with_reducible refine(HWS.out _ (HSTN.out.below (kp2c (by assumption)))).mono ?_);rintro e33 w33 ⟨rfl,hb33⟩)))
   all_goals
    have hE:=zH (kp2c (by assumption))
    rw[HWD.out]
    have hEA:=HMAT.out.below hE.out
    have HMT:=zH hEA
    have HRT9:=zH (HRH.out.below hE.out)
    have HBE:=zH (zaa (zaa HBW.out hbr) hE.out)
    rcases Nat.eq_zero_or_pos i with h0 | h0
    ·have hz:(((i:Nat):Int)==0)=true:=by simp;omega
     have HZ:=zH h0
     clear h0 hEA
     go_wp2_with fail
     go_ret2
     refine⟨_,rfl,?_,HBE.out⟩
     have h:=(zya.nil w33 38 0).fracs
     have e:∀f:Nat->Rat,zib l.length f= []:=fun f=>by rw[HM.out,HZ.out];rfl
     rw[e]
     exact h
    ·have hz:(((i:Nat):Int)==0)=false:=by simp;omega
     have HRG:=zH (HP.out.reg (by rw[HM.out];exact h0))
     have HSLM:=zH (HP.out.slim (by rw[HM.out];exact h0))
     have HI1:Hid (1<=i):=zH h0
     rw[HM.out]at HRG HSLM
     clear hEA h0
     go_wp2_with (go_at_call 182;(with_reducible refine(rsolve_reg u8 u9 i (zis c.raw l) (bqE mb c.raw l) _ HMT.out HRT9.out HI1.out hm20 HFA.out HFB.out (by rw[rawV_qs];exact zLT (Nat.le_add_right _ _) HW0.out) HRG.out HSLM.out).mono ?_);rintro e9 w40 ⟨v9,er9,rfl,hb9,hs9,hn9⟩
                  obtain⟨rfl,hx9⟩:=hn9 (by rw[HRG.out];exact Nat.lt_irrefl _)
                  have HX9:=zH hx9
                  have sv9':=hx9.sl
                  have HB9:=zH (zaa HBE.out hb9)
                  clear hn9 hs9 hx9)
     go_ret2
     exact⟨_,rfl,by rw[HM.out];exact HX9.out,HB9.out⟩
end Go.Proofs.YtlpdkbmmbdfoiaaGreat
