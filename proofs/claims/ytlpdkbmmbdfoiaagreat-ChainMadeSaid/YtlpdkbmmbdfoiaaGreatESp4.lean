/- Lemmas. -/
import Derived.Test.YtlpdkbmmbdfoiaaGreatESz1
set_option linter.unusedVariables false
set_option linter.unusedSimpArgs false
namespace Go.Proofs.YtlpdkbmmbdfoiaaGreat
set_option maxRecDepth 100000
open Go.RowKit
theorem zdv (s:Bool) (d:Nat):fq s 0 d=0:=by
 unfold fq sgn;cases s<;>simp
theorem quo_raw2 (va vb:Value) (x:RF) (s:Bool) (n d:Nat) (q:Rat) (w:World) (ha:zdc w va x.neg x.n x.d) (hb:zdc w vb s n d) (hx:x.ok) (hy:okN n d) (hq:fq s n d=q) (hq0:q≠0) (hr:fits (x.q/q)):Calls Tryz.prog 161 #[va,vb] w (RF0 w (x.q/q)):=by
 subst hq
 exact(quo_frac va vb _ _ _ _ _ _ w ha hb hx hy (fun h=>hq0 (by subst h;exact zdv _ _))).mono fun _ _ h=>h.ok rfl hr
theorem quo_cr (va vb:Value) (p:Rat) (s:Bool) (n d:Nat) (q:Rat) (w:World) (ha:zqa w va p) (hb:zdc w vb s n d) (hp:fits p) (hy:okN n d) (hq:fq s n d=q) (hq0:q≠0) (hr:fits (p/q)):Calls Tryz.prog 161 #[va,vb] w (RF0 w (p/q)):=by
 have:=quo_raw2 va vb (RF.of p) s n d q w ha.raw hb (RF.of_ok hp) hy hq hq0 (by rw[RF.of_q];exact hr)
 rwa[RF.of_q]at this
section
variable {w:World} {B n:Nat} {vO:Value} {rs:List Value} {qs:Nat->List Rat}
theorem zrj.put (h:zrj w B vO rs n qs) {i j:Nat} (hi:i<rs.length) (hj:j<(qs i).length) (hB:B<=w.heap.size) {x y z:Value} {r:Rat} (hf:zqa w (.agg #[x,y,z]) r):
 zrj (((w.setCell (ptr rs[i] (j*3)) x).setCell (ptr rs[i] (j*3+1)) y).setCell (ptr rs[i] (j*3+2)) z) B vO rs n (fun k=>if k=i then(qs i).set j r else qs k)/\
  Below B w (((w.setCell (ptr rs[i] (j*3)) x).setCell (ptr rs[i] (j*3+1)) y).setCell (ptr rs[i] (j*3+2)) z):=by
 obtain⟨own,row,ap⟩:=h
 obtain⟨p1,p2⟩:=(row i hi).put (i:=j) hj hf
 have hnl:=(row i hi).noLimb
 obtain⟨ys,y1,y2⟩:=id (row i hi)
 refine⟨⟨own.grown p2 (own.kinds y1 (by decide)),fun k hk=> ?_,ap⟩,zna p2 hB (fun k hk=>((row i hi).block k hk).1)⟩
 by_cases hki:k=i
 ·subst hki;rw[if_pos rfl];exact p1
 ·rw[if_neg hki];exact(row k hk).grown p2 hnl (ap k i hk hi hki)
end
theorem rowL_put {n i:Nat} {f g:Nat->Rat} (h:∀k,k<n->k≠i->f k=g k):(zib n f).set i (g i)=zib n g:=by
 refine List.ext_getElem (by rw[List.length_set,zea,zea]) fun k h1 h2=> ?_
 rw[zea]at h2
 by_cases hk:k=i
 ·subst hk;rw[List.getElem_set_self,ztb]
 ·rw[List.getElem_set_ne (fun e=>hk e.symm),ztb,ztb];exact h k h2 hk
set_option maxHeartbeats 6400000 in
theorem zrs (va vx:Value) (c:RC) (t1:Bool) (nr dr:Nat) (q:Rat) (w:World) (ha:zdq w va c) (hv:zzp c) (hx:zdc w vx t1 nr dr) (hf:okN nr dr) (hfq:fq t1 nr dr=q) (hq:q≠0)
 (h1:∀i j,i<c.rates.length->j<c.rates.length->fits ((zaq c i).getD j 0/q)) (h2:∀i,i<c.rates.length->fits (zgg (zaq c i)/q)/\fits (1-zgg (zaq c i)/q)):
 Calls Tryz.prog 83 #[va,vx] w (fun e w'=>∃v,e= .returned (.tuple #[v, .int .i64 0])/\zam w' v c.rates.length c.rates.length (zfq c q)/\Below w.heap.size w w'):=by
 obtain⟨i3,hi3,hz3,hs3,hy3⟩:=info_parts Tryz.infoF
 have hAP:=fun{ops:Array Oper} {o:Oper} {a:Act} {w:World} {K:Act->World->Prop} {Q:Exit->Act->World->Prop} {E:Prop}=>zcg (P:=Tryz.prog) 25 38 i3 Tryz.underlying25 hi3 hz3 hs3 hy3 (ops:=ops) (o:=o) (a:=a) (w:=w) (K:=K) (Q:=Q) (E:=E)
 obtain⟨i4,hi4,hz4,hs4,hy4⟩:=info_parts Tryz.infoRow
 have hMR:=zbi (P:=Tryz.prog) 24 25 i4 Tryz.underlying24 hi4 hz4 hs4 hy4
 clear hi3 hz3 hs3 hy3 hi4 hz4 hs4 hy4
 obtain⟨rv,sv,lv,rfl,hr,hs,hl⟩:=id ha
 obtain⟨ra,rn,rk,rfl,_⟩:=id hr.sl
 obtain⟨sa,sn,sk,rfl,_⟩:=id hs.sl
 obtain⟨la,ln,lk,rfl,_⟩:=id (zhc.sl hl)
 obtain⟨x1,y1,rfl,hx4,hx5⟩:=id hx
 obtain⟨a11,l11,k11,rfl,_⟩:=hx4.slen.1
 obtain⟨a12,l12,k12,rfl,_⟩:=hx5.slen.1
 have hbx:=zca w (.cells #[.slice ra rn rk, .slice sa sn sk, .slice la ln lk] 28)
 have hb2:=zca (w.alloc (.cells #[.slice ra rn rk, .slice sa sn sk, .slice la ln lk] 28)) (.cells #[.bool t1, .slice a11 l11 k11, .slice a12 l12 k12] 38)
 have HC:=zH ((C3.new w 28 (.slice ra rn rk) (.slice sa sn sk) (.slice la ln lk)).belowS hb2)
 have HR:=zH (C3.newB (b:=w.heap.size+1) (w.alloc (.cells #[.slice ra rn rk, .slice sa sn sk, .slice la ln lk] 28)) 38 (.bool t1) (.slice a11 l11 k11) (.slice a12 l12 k12) (by simp))
 have HBW:=zH (zaa hbx hb2)
 have HA:=zH (ha.below HBW.out)
 have HX:=zH (hx.below HBW.out)
 have HV:=zH hv
 have HF:=zH hf
 clear hr hs hl ha hv hbx hb2 hx hf hx4 hx5
 go_enter Tryz.func83,Tryz.ntmps83
 go_upto_region 1 with fail
 generalize (w.alloc (.cells #[.slice ra rn rk, .slice sa sn sk, .slice la ln lk] 28)).alloc (.cells #[.bool t1, .slice a11 l11 k11, .slice a12 l12 k12] 38)=W2 at *
 obtain⟨n,hnl⟩:∃n,c.rates.length=n:=⟨_,rfl⟩
 have HNL:=zH hnl
 have hn:n<=128:=by have:=HV.out.2.1;have:=HV.out.2.2.2.1;omega
 rw[hnl]at h1 h2
 have H1:=zH h1
 have H2:=zH h2
 have HQ0:=zH hq
 have HFQ0:=zH hfq
 clear h1 h2 hq hnl hfq
 obtain⟨rv',sv',lv',hcE,hr',hs',hl'⟩:=id HA.out
 injection hcE with hcE
 injection hcE with hcE
 simp only[List.cons.injEq,and_true]at hcE
 obtain⟨rfl,rfl,rfl⟩:=hcE
 have hrn:rn=n:=hr'.len.trans HNL.out
 subst hrn
 have HRT:=zH hr'
 have srt:=hr'.sl
 clear hr' hs' hl'
 obtain⟨_,c0,c1,c2,_,_,_⟩:=HC.out
 go_wp2_with (refine hMR W2 rfl _ _ rfl W2.heap.size _ rn rfl rfl rfl (by omega) (zLR _) ?_;intro vO w5 hO5 hb5
              have HO5:=zH (zrj.start hO5)
              have HB5:=zH hb5
              have slO:=hO5.sl
              have lnO:=hO5.len
              have c0:=zba hb5 c0
              have c1:=zba hb5 c1
              have c2:=zba hb5 c2
              clear hO5 hb5)
 obtain⟨B,hB⟩:∃B,W2.heap.size=B:=⟨_,rfl⟩
 go_loopg [22] (rn) (fun g u22 wr=>∃ (i:Nat) (rs:List Value),i<=rn/\g=rn-i/\u22= .int .i64 i/\zrj wr W2.heap.size vO rs rn (fun k=>if k<i then zib rn (zfq c q k)else [])/\Below W2.heap.size W2 wr)
 case atStart=>exact⟨0,_,zZL _,rfl,rfl,HO5.out,HB5.out⟩
 case round=>
  obtain⟨i,rs,hin,hg,rfl,hO,hbr⟩:=hrel
  obtain⟨w6,hw6⟩:∃w6,w6=wr:=⟨_,rfl⟩
  subst hw6
  have HG:=zH hg
  have HO:=zH hO
  have HBR:=zH hbr
  have HA6:=zH (HA.out.below hbr)
  have HX6:=zH (HX.out.below hbr)
  obtain⟨_,c0,c1,c2,_,_,_⟩:=HC.out.belowS hbr
  clear HO5 HB5 hg hO
  by_cases hil:i<rn
  ·have hi2:i<c.rates.length:=by rw[HNL.out];exact hil
   obtain⟨ri,hci0,hri⟩:=HRT.out.at' i hi2
   have hci:=zba hbr hci0
   have hil2:i<c.lost.length:=by have:=HV.out.2.2.1;have:=HV.out.2.2.2.1;omega
   obtain⟨hi3,hrl,hrow,hrq⟩:=HV.out.row hil2
   have hrn2:(c.rates[i]'hi2).length=rn:=by have:=HV.out.2.2.1;have:=HV.out.2.2.2.1;have:=HNL.out;omega
   have HROW:=zH hrow
   have HRQ:Hid (zaq c i=qs (c.rates[i]'hi2)):=zH hrq
   obtain⟨ra1,ra2,ra3,rfl,_⟩:=id hri.sl
   have hra2:ra2=rn:=hri.len.trans hrn2
   subst hra2
   have sri:=hri.sl
   have HRI:=zH hri
   have HRL:=zH hrn2
   have j1:(0:Int)<=(i:Int):=by omega
   have j2:(i:Int)<(ra2:Nat):=by omega
   clear hrl hrow hrq hri hrn2
   go_wp2_with fail
   go_loopg [29] (ra2) (fun g u29 wr=>∃ (j:Nat) (rs:List Value),j<=ra2/\g=ra2-j/\u29= .int .i64 j/\zrj wr W2.heap.size vO rs ra2 (fun k=>if k<i then zib ra2 (zfq c q k)else if k=i then zib j (fun j=>(zaq c i).getD j 0/q)else [])/\Below W2.heap.size W2 wr)
   case atStart=>exact⟨0,rs,zZL _,rfl,rfl,HO.out.congr (fun k hk=>by
    by_cases h1:k<i
    ·rw[if_pos h1,if_pos h1]
    ·rw[if_neg h1,if_neg h1];split<;>rfl),HBR.out⟩
   case round=>
    obtain⟨j,rs,hjn,hgj,rfl,hOj,hbj⟩:=hrel
    obtain⟨w7,hw7⟩:∃w7,w7=wr:=⟨_,rfl⟩
    subst hw7
    have HGJ:=zH hgj
    have HOJ:=zH hOj
    have HBJ:=zH hbj
    clear HO HBR hgj hOj
    by_cases hjl:j<ra2
    ·have hj2:j<(c.rates[i]'hi2).length:=by rw[HRL.out];exact hjl
     have HQE:Hid ((zaq c i).getD j 0=((c.rates[i]'hi2)[j]'hj2).q):=zH (by
      rw[HRQ.out]
      unfold qs
      rw[zGD,List.getElem?_map,zGE hj2];rfl)
     have HXO:Hid (((c.rates[i]'hi2)[j]'hj2).ok):=zH (HROW.out.ok _ (zGM hj2))
     obtain⟨ea,eb,g1,g2,g3,g4,g5⟩:=(HRI.out.below hbj).at' j hj2
     obtain⟨x,hxe⟩:∃x,(c.rates[i]'hi2)[j]'hj2=x:=⟨_,rfl⟩
     rw[hxe]at g1 g4 g5 HQE HXO
     obtain⟨ea1,ea2,ea3,rfl,_⟩:=g4.slen.1
     obtain⟨eb1,eb2,eb3,rfl,_⟩:=g5.slen.1
     have hb8:=zca w7 (.cells #[.bool x.neg, .slice ea1 ea2 ea3, .slice eb1 eb2 eb3] 38)
     have HXN:Hid (zdc (w7.alloc (.cells #[.bool x.neg, .slice ea1 ea2 ea3, .slice eb1 eb2 eb3] 38)) (.agg #[.bool x.neg, .slice ea1 ea2 ea3, .slice eb1 eb2 eb3]) x.neg x.n x.d):=zH (zdc.below ⟨_,_,rfl,g4,g5⟩ hb8)
     have HXQ:=zH ((HX.out.below hbj).below hb8)
     obtain⟨_,d0,d1,d2,_,_,_⟩:=(HR.out.below hbj HR.out.lt).belowS hb8
     obtain⟨_,e0,e1,e2,_,_,_⟩:=C3.new w7 38 (.bool x.neg) (.slice ea1 ea2 ea3) (.slice eb1 eb2 eb3)
     have HFQ:Hid (fits (x.q/q)):=zH (by rw[<-HQE.out];exact H1.out i j hil hjl)
     have j3:(0:Int)<=(j:Int):=by omega
     have j4:(j:Int)<(ra2:Nat):=by omega
     clear g4 g5 hxe
     go_wp2_with (go_at_call 161;(with_reducible refine(quo_raw2 _ _ x t1 nr dr q _ HXN.out HXQ.out HXO.out HF.out HFQ0.out HQ0.out HFQ.out).mono ?_);rintro e8 w8 ⟨v8,rfl,hv8,hbq⟩
                  obtain⟨t8,x8,y8,rfl,⟨a81,l81,k81,rfl,_⟩,⟨a82,l82,k82,rfl,_⟩⟩:=hv8.isF
                  have hba:=zca w8 (.cells #[.bool t8, .slice a81 l81 k81, .slice a82 l82 k82] 38)
                  have hb9:=zaa (zaa hb8 hbq) hba
                  have HV9:=zH (hv8.below hba)
                  have HC9:=zH (C3.new w8 38 (.bool t8) (.slice a81 l81 k81) (.slice a82 l82 k82))
                  have HO9:=zH (HOJ.out.below hb9)
                  have HB9:=zH (zfa HBJ.out hb9 HBJ.out.size))
     obtain⟨b11,hb11⟩:∃b,w8.heap.size=b:=⟨_,rfl⟩
     rw[hb11]at HC9
     rw[hb11]
     clear hb11 d0 d1 d2 e0 e1 e2 g1 g2 g3 hv8 hbq hba hb8 hb9
     generalize w8.alloc (.cells #[.bool t8, .slice a81 l81 k81, .slice a82 l82 k82] 38)=W9 at *
     have hi9:i<rs.length:=by rw[HO9.out.rl];exact hil
     have s2:=HO9.out.own.cell i hi9
     obtain⟨o1,o2,o3,ho,_⟩:=(HO9.out.row i hi9).sl
     rw[ho]at s2
     have HOO:=zH ho
     obtain⟨_,d0,d1,d2,_,_,_⟩:=HC9.out
     have hbD:=zja (B:=W9.heap.size) W9
     clear ho
     refine wpL.start 8 (fun w'=>w'.cell? (ptr vO i)=some (.slice o1 o2 o3)/\w'.cell? ⟨b11,0,none⟩=some (.bool t8)/\w'.cell? ⟨b11,1,none⟩=some (.slice a81 l81 k81)/\w'.cell? ⟨b11,2,none⟩=some (.slice a82 l82 k82)) (by kernel_rfl) ⟨zba hbD s2,zba hbD d0,zba hbD d1,zba hbD d2⟩ (fun hHeld=> ?_)
     generalize W9.drew=wd at *
     refine wpL.u 0 ?_
     refine wpL.u 1 ?_
     refine wpL.t 2 ?_
     refine wpL.t 3 ?_
     refine wpL.t 4 ?_
     refine wpL.t 5 ?_
     refine wpL.t 6 ?_
     (refine wpL.oo 7 ?_;intro K hK)
     rw[if_pos (by rfl)]
     go_simp
     have hb8:=zca wd (.cells #[.bool t8, .slice a81 l81 k81, .slice a82 l82 k82] 38)
     have hVB:=zjf.new wd #[.bool t8, .slice a81 l81 k81, .slice a82 l82 k82] 38
     refine hK.out _ _ (fun _=>⟨zba hb8 hHeld.1,zba hb8 hHeld.2.1,zba hb8 hHeld.2.2.1,zba hb8 hHeld.2.2.2⟩) ?_
     clear hK K hHeld d0 d1 d2 s2
     try simp only[Act.put,List.setIfInBounds_toArray,List.set_cons_zero,List.set_cons_succ]
     have hv8:=(HV9.out.below hbD).below hb8
     have hO8:=(HO9.out.below hbD).below hb8
     have hB8:=zfa (zfa HB9.out hbD HB9.out.size) hb8 (zLT HB9.out.size hbD.size)
     have hsz8:W2.heap.size<=(wd.alloc (.cells #[.bool t8, .slice a81 l81 k81, .slice a82 l82 k82] 38)).heap.size:=hB8.size
     generalize hw9:wd.alloc (.cells #[.bool t8, .slice a81 l81 k81, .slice a82 l82 k82] 38)=w9 at *
     clear hw9
     have hro:=hO8.row i hi9
     rw[HOO.out,if_neg (Nat.lt_irrefl i),if_pos rfl]at hro
     have hlen9:(zib j (fun j=>(zaq c i).getD j 0/q)).length<=1000:=by rw[zea];omega
     rw[<-HQE.out]at hv8
     (refine wpL.oo 8 ?_;intro K hK)
     refine hAP rfl _ _ (by rfl) W2.heap.size (.slice o1 o2 o3) (zib j (fun j=>(zaq c i).getD j 0/q)) (by rfl) hro (.bool t8) (.slice a81 l81 k81) (.slice a82 l82 k82) ((zaq c i).getD j 0/q) hv8 wd.heap.size (by rfl) hVB hlen9 hsz8 ?_
     intro v10 w10 hf10 hg10 hn10 ho10
     obtain⟨y1,y2,y3,rfl,_⟩:=id hf10.sl
     refine hK.out _ _ (fun h=>by first | cases h | simp at h) ?_
     clear hK K
     try simp only[Act.put,List.setIfInBounds_toArray,List.set_cons_zero,List.set_cons_succ]
     have hnO:vO.ownBlock=none\/vO.ownBlock≠(Value.slice o1 o2 o3).ownBlock:=by
      obtain⟨ys,y1,y2⟩:=hro
      exact hO8.own.kinds y1 (by decide)
     have hown10:=hO8.own.grown hg10 hnO
     have c10:w10.cell? (ptr vO i)=some (.slice o1 o2 o3):=by rw[hown10.cell i hi9,HOO.out]
     have f10:=hown10.frozen i hi9
     have hset:=hO8.set hi9 hsz8 hf10 (by rw[HOO.out];exact hg10) (by rw[HOO.out];exact hn10) (by rw[HOO.out];exact ho10)
     have HSET:=zH hset
     have HB10:=zH (hB8.trans hset.2)
     clear hset hnO hown10 hO8 hro hf10 hg10 hn10 ho10 hB8 hb8 hbD hv8 hVB
     (refine wpL.oo 9 ?_;intro K hK)
     rw[if_pos (by rfl)]
     go_simp
     refine hK.out _ _ (fun h=>by first | cases h | simp at h) ?_
     clear hK K
     try simp only[Act.put,List.setIfInBounds_toArray,List.set_cons_zero,List.set_cons_succ]
     (refine wpL.oo 10 ?_;intro K hK)
     rw[if_pos (by rfl)]
     go_simp
     refine hK.out _ _ (fun h=>by first | cases h | simp at h) ?_
     clear hK K c10 f10
     refine wpL.done (by kernel_rfl) ?_ _
     go_wp2_with fail
     go_roundg (ra2- (j+1))
     case measure=>(have:=HGJ.out;omega)
     case rel=>exact⟨j+1,_,by omega,rfl,by go_num,HSET.out.1.congr (fun k hk=>by
      by_cases h1:k=i
      ·subst h1;rw[if_pos rfl,if_neg (Nat.lt_irrefl k),if_pos rfl,zlk]
      ·rw[if_neg h1]
       by_cases h2:k<i
       ·rw[if_pos h2,if_pos h2]
       ·rw[if_neg h2,if_neg h2,if_neg h1,if_neg h1]),HB10.out⟩
    ·obtain rfl:j=ra2:=by omega
     have HOUT:Hid (∀w0,zdq w0 (.agg #[.slice ra j rk, .slice sa sn sk, .slice la ln lk]) c->Calls Tryz.prog 162 #[.agg #[.slice ra j rk, .slice sa sn sk, .slice la ln lk], .int .i64 i] w0 (RF1 w0 (zgg (zaq c i)))):=zH (fun w0 h=>by rw[HRQ.out];exact zav _ c i w0 h hi2 HROW.out)
     have HFO:Hid (fits (zgg (zaq c i))):=zH (by
      have h:=HROW.out.fits (c.rates[i]'hi2).length
      rw[List.take_length]at h
      rw[HRQ.out];exact h)
     have HF2:=zH (H2.out i hil)
     have HAJ:=zH (HA.out.below hbj)
     have HXJ:=zH (HX.out.below hbj)
     obtain⟨_,d0,d1,d2,_,_,_⟩:=HR.out.below hbj HR.out.lt
     obtain⟨_,e0,e1,e2,_,_,_⟩:=HC.out.below hbj HC.out.lt
     have S0:=zH (And.intro e0 (And.intro e1 (And.intro e2 (And.intro d0 (And.intro d1 d2)))))
     clear hci d0 d1 d2 e0 e1 e2 c0 c1 c2
     go_wp2_with fail
     go_cut [13,14] (fun u13 u14 wy=>∃ (b13:Nat) (t':Bool) (x' y':Value),u13= .pointer (some ⟨b13,0,none⟩)/\u14= .int .i64 0/\C3 wy b13 (.bool t') x' y'/\zqa wy (.agg #[.bool t',x',y']) (zgg (zaq c i)/q)/\Below w7.heap.size w7 wy/\w7.heap.size<=b13)
     case first =>
      go_region_held3 (fun w'=>w'.cell? ⟨w.heap.size,0,none⟩=some (.slice ra j rk)/\w'.cell? ⟨w.heap.size,1,none⟩=some (.slice sa sn sk)/\w'.cell? ⟨w.heap.size,2,none⟩=some (.slice la ln lk)/\w'.cell? ⟨w.heap.size+1,0,none⟩=some (.bool t1)/\w'.cell? ⟨w.heap.size+1,1,none⟩=some (.slice a11 l11 k11)/\w'.cell? ⟨w.heap.size+1,2,none⟩=some (.slice a12 l12 k12)/\Below w7.heap.size w7 w') (first
       | with_reducible exact zvt S0.out (zja _)
       | with_reducible exact zpu (by assumption) (zca _ _)
       | with_reducible exact zpu (by assumption) (by assumption)
       | with_reducible exact zvt S0.out (zaa hB32 (zca _ _))
       | with_reducible exact zut S0.out hB32 (zLR _) _ _ _
       | with_reducible exact zut S0.out hB32 hB31.size _ _ _
       | with_reducible exact zut S0.out (zaa hB32 (zca _ _)) hB32.size _ _ _) (first
       |(go_at_call 162;(with_reducible refine(HOUT.out _ (HAJ.out.below (zgi (by assumption)))).mono ?_);rintro e31 w31 ⟨v31,rfl,hv31,hb31⟩
         have hB31:=zaa (zgi (by assumption)) hb31
         have hc5:=(fun(p:Addr) hp=>hb31.cell (p:=p) hp)
         have hf5:=(fun(p:Addr) hp=>hb31.frozen (p:=p) hp)
         have zq:=hb31.size
         (try simp only[zfk,zvo]at zq)
         (try have z1:w7.heap.size<w31.heap.size:=(by omega)))
       |(go_at_call 161;first
          |((with_reducible refine(quo_cr _ _ (zgg (zaq c i)) t1 nr dr q _ hv31 (HXJ.out.below hB31) HFO.out HF.out HFQ0.out HQ0.out HF2.out.1).mono ?_);rintro e32 w32 ⟨v32,rfl,hv32,hb32⟩
            obtain⟨t32,x32,y32,rfl,⟨a321,l321,k321,rfl,_⟩,⟨a322,l322,k322,rfl,_⟩⟩:=hv32.isF
            have hB32:=zaa hB31 hb32
            have hc6:=(fun(p:Addr) hp=>hb32.cell (p:=p) hp)
            have hf6:=(fun(p:Addr) hp=>hb32.frozen (p:=p) hp)
            have zq2:=hb32.size
            (try simp only[zfk,zvo]at zq2)
            (try have z2:w7.heap.size<w32.heap.size:=(by omega))
            (try have z3:w31.heap.size<w32.heap.size:=(by omega)))
          |((with_reducible refine(quo_cr _ _ (zgg (zaq c i)) t1 nr dr q _ (hv31.below (zca _ _)) (HXJ.out.below (zaa hB31 (zca _ _))) HFO.out HF.out HFQ0.out HQ0.out HF2.out.1).mono ?_);rintro e32 w32 ⟨v32,rfl,hv32,hb32⟩
            obtain⟨t32,x32,y32,rfl,⟨a321,l321,k321,rfl,_⟩,⟨a322,l322,k322,rfl,_⟩⟩:=hv32.isF
            have hB32:=zaa (zaa hB31 (zca _ _)) hb32
            have hc6:=(fun(p:Addr) hp=>hb32.cell (p:=p) hp)
            have hf6:=(fun(p:Addr) hp=>hb32.frozen (p:=p) hp)
            have zq2:=hb32.size
            (try simp only[zfk,zvo]at zq2)
            (try have z2:w7.heap.size<w32.heap.size:=(by omega))
            (try have z3:w31.heap.size<w32.heap.size:=(by omega)))))
      all_goals
       have hE:=zgi (by assumption)
       go_wp2_with fail
       go_meet
       case rel=>
        first
         | exact⟨_,_,_,_,rfl,rfl,C3.new w32 _ _ _ _,hv32.below (zca _ _),hE,hB32.size⟩
         | exact⟨_,_,_,_,rfl,rfl,((C3.new w31 38 (.bool false) (.slice none 0 0) (.slice none 0 0)).belowS hb32).set _ _ _,hv32.set3 ((C3.new w31 38 (.bool false) (.slice none 0 0) (.slice none 0 0)).belowS hb32) (fun z=>by simp) (fun z=>by simp) _ _ _,hE,hB31.size⟩
         | exact⟨_,_,_,_,rfl,rfl,(((C3.newB (b:=w7.heap.size) w7.drew 38 (.bool false) (.slice none 0 0) (.slice none 0 0) rfl).belowS hb31).belowS hb32).set _ _ _,hv32.set3 (((C3.newB (b:=w7.heap.size) w7.drew 38 (.bool false) (.slice none 0 0) (.slice none 0 0) rfl).belowS hb31).belowS hb32) (fun z=>by simp) (fun z=>by simp) _ _ _,hE,zLR _⟩
         | exact⟨_,_,_,_,rfl,rfl,((((C3.newB (b:=w7.heap.size) w7 38 (.bool false) (.slice none 0 0) (.slice none 0 0) rfl).belowS (zja _)).belowS hb31).belowS hb32).set _ _ _,hv32.set3 ((((C3.newB (b:=w7.heap.size) w7 38 (.bool false) (.slice none 0 0) (.slice none 0 0) rfl).belowS (zja _)).belowS hb31).belowS hb32) (fun z=>by simp) (fun z=>by simp) _ _ _,hE,zLR _⟩
     case rest=>
      obtain⟨b13,t6,x6,y6,rfl,rfl,hC6,hv6,hb6,hbb⟩:=hcut
      obtain⟨w3,hw3⟩:∃w3,w3=wc:=⟨_,rfl⟩
      subst hw3
      have hv6':=hv6
      obtain⟨_,_,_,hF6,⟨a61,l61,k61,rfl,_⟩,⟨a62,l62,k62,rfl,_⟩⟩:=hv6'.isF
      injection hF6 with hF6
      injection hF6 with hF6
      simp only[List.cons.injEq,and_true,Value.bool.injEq]at hF6
      obtain⟨rfl,rfl,rfl⟩:=hF6
      have HQ6:=zH hv6
      have HC6:=zH hC6
      have HO6:=zH (HOJ.out.below hb6)
      have HB6:=zH (zfa HBJ.out hb6 HBJ.out.size)
      clear hv6 S0 hC6
      go_wp2_with fail
      have hbD:=zja (B:=w3.heap.size) w3
      have HFI:=zH HF2.out.1
      have HFI2:=zH HF2.out.2
      have HQD:=zH (HQ6.out.below hbD)
      obtain⟨_,d0,d1,d2,_,_,_⟩:=HC6.out.belowS hbD
      refine wpL.start 6 (fun w'=>w'.cell? ⟨b13,0,none⟩=some (.bool t6)/\w'.cell? ⟨b13,1,none⟩=some (.slice a61 l61 k61)/\w'.cell? ⟨b13,2,none⟩=some (.slice a62 l62 k62)) (by kernel_rfl) ⟨d0,d1,d2⟩ (fun hHeld=> ?_)
      obtain⟨wd,hwd⟩:∃wd,w3.drew=wd:=⟨_,rfl⟩
      rw[hwd]at hHeld hbD HQD d0 d1 d2 |-
      refine wpL.t 1 ?_
      (refine wpL.oo 0 ?_;intro K hK)
      refine zxa 109 #[.int .i64 1] ?_ ?_ (zqs wd) ?_
      ·rfl
      ·go_simp
      rintro e8 w8 ⟨v8,rfl,hv8,hb8⟩
      refine⟨_,rfl,?_⟩
      refine hK.out _ _ (fun _=>⟨zba hb8 d0,zba hb8 d1,zba hb8 d2⟩) ?_
      have d0:=zba hb8 d0
      have d1:=zba hb8 d1
      have d2:=zba hb8 d2
      clear hK K hHeld
      try simp only[Act.put,List.setIfInBounds_toArray,List.set_cons_zero,List.set_cons_succ]
      have HQ8:=HQD.out.below hb8
      (refine wpL.oo 2 ?_;intro K hK)
      refine zxa 163 #[v8, .agg #[.bool t6, .slice a61 l61 k61, .slice a62 l62 k62]] ?_ ?_ (sub_can _ _ 1 (zgg (zaq c i)/q) _ hv8 HQ8 zdt HFI.out HFI2.out) ?_
      ·rfl
      ·go_simp
      rintro e9 w9 ⟨v9,rfl,hv9,hb9⟩
      obtain⟨t9,x9,y9,rfl,⟨a91,l91,k91,rfl,_⟩,⟨a92,l92,k92,rfl,_⟩⟩:=hv9.isF
      refine⟨_,rfl,?_⟩
      refine hK.out _ _ (fun _=>⟨zba hb9 d0,zba hb9 d1,zba hb9 d2⟩) ?_
      have d0:=zba hb9 d0
      have d1:=zba hb9 d1
      have d2:=zba hb9 d2
      clear hK K
      try simp only[Act.put,List.setIfInBounds_toArray,List.set_cons_zero,List.set_cons_succ]
      have hHeld:=And.intro d0 (And.intro d1 d2)
      refine wpL.u 3 ?_
      refine wpL.u 4 ?_
      refine wpL.u 5 ?_
      clear hHeld
      have hC9:=((HC6.out.belowS hbD).belowS hb8).belowS hb9
      have hB9:=zaa (zaa (zaa hb6 hbD) hb8) hb9
      obtain⟨_,_,_,_,f0,f1,f2⟩:=id hC9
      (refine wpL.oo 6 ?_;intro K hK)
      rw[if_pos (by rfl)]
      go_simp
      refine hK.out _ _ (fun h=>by first | cases h | simp at h) ?_
      clear hK K
      try simp only[Act.put,List.setIfInBounds_toArray,List.set_cons_zero,List.set_cons_succ]
      (refine wpL.oo 7 ?_;intro K hK)
      rw[if_pos (by rfl)]
      go_simp
      refine hK.out _ _ (fun h=>by first | cases h | simp at h) ?_
      clear hK K
      refine wpL.done (by kernel_rfl) ?_ _
      have hCW:=hC9.set (.bool t9) (.slice a91 l91 k91) (.slice a92 l92 k92)
      have hVW:=hv9.set3 hC9 (fun z=>by simp) (fun z=>by simp) (.bool t9) (.slice a91 l91 k91) (.slice a92 l92 k92)
      have hBW:Below w7.heap.size w7 (((w9.setCell ⟨b13,0,none⟩ (.bool t9)).setCell ⟨b13,1,none⟩ (.slice a91 l91 k91)).setCell ⟨b13,2,none⟩ (.slice a92 l92 k92)):=((hB9.setCell (p:=⟨b13,0,none⟩) hbb _).setCell (p:=⟨b13,1,none⟩) hbb _).setCell (p:=⟨b13,2,none⟩) hbb _
      clear d0 d1 d2 f0 f1 f2 hC9 hB9 hb6 hbD hb8 hb9 hv8 hv9 HQ8 HQD HQ6
      generalize ((w9.setCell ⟨b13,0,none⟩ (.bool t9)).setCell ⟨b13,1,none⟩ (.slice a91 l91 k91)).setCell ⟨b13,2,none⟩ (.slice a92 l92 k92)=w10 at *
      have HOW:=zH (HOJ.out.below hBW)
      have HBW2:=zH (zfa HBJ.out hBW HBJ.out.size)
      have HVW:=zH hVW
      have HCW:=zH hCW
      clear hBW hVW hCW HOJ HBJ HO6 HB6 HC6
      go_wp2_with fail
      have hbD:=zja (B:=w10.heap.size) w10
      have hOD:=HOW.out.below hbD
      have hVD:=HVW.out.below hbD
      have hBD:=zfa HBW2.out hbD HBW2.out.size
      obtain⟨_,d0,d1,d2,_,_,_⟩:=HCW.out.belowS hbD
      have hir:i<rs.length:=by rw[hOD.rl];exact hil
      have s2:=hOD.own.cell i hir
      obtain⟨o1,o2,o3,ho,_⟩:=(hOD.row i hir).sl
      rw[ho]at s2
      have hrow:=hOD.row i hir
      rw[ho,if_neg (Nat.lt_irrefl i),if_pos rfl]at hrow
      have HOO:=zH ho
      have so:=hrow.sl
      have lo:o2=j:=by have h:=hrow.fracs.len;rw[zea]at h;exact h
      subst lo
      clear ho
      refine wpN.start [7] (fun w'=>w'.cell? (ptr vO i)=some (.slice o1 o2 o3)/\w'.cell? ⟨b13,0,none⟩=some (.bool t9)/\w'.cell? ⟨b13,1,none⟩=some (.slice a91 l91 k91)/\w'.cell? ⟨b13,2,none⟩=some (.slice a92 l92 k92)) (by kernel_rfl) ⟨s2,d0,d1,d2⟩ (fun hHeld=> ?_)
      generalize w10.drew=wd at *
      refine wpN.t 0 ?_
      refine wpN.t 1 ?_
      refine wpN.t 2 ?_
      refine wpN.t 3 ?_
      refine wpN.t 4 ?_
      refine wpN.t 5 ?_
      refine wpN.t 6 ?_
      have f0:=hrow.frozen (i*3) (by rw[zea];omega)
      have f1:=hrow.frozen (i*3+1) (by rw[zea];omega)
      have f2:=hrow.frozen (i*3+2) (by rw[zea];omega)
      have n01:=hrow.inj (by rw[zea];omega) (show i*3≠i*3+1 by omega)
      have n02:=hrow.inj (by rw[zea];omega) (show i*3≠i*3+2 by omega)
      have n12:=hrow.inj (by rw[zea];omega) (show i*3+1≠i*3+2 by omega)
      obtain⟨_,e0,_⟩:=hrow.fracs.at' i (by rw[zea];exact hil)
      (refine wpN.oo 7 ?_;intro K hK)
      rw[if_pos (by rfl)]
      go_simp
      refine hK.out _ _ (fun h=>by cases h) ?_
      clear hK K hHeld f0 f1 f2 n01 n02 n12 d0 d1 d2 s2
      refine wpN.done (by kernel_rfl) ?_ _
      have hput:=hOD.put (i:=i) (j:=i) hir (by rw[if_neg (Nat.lt_irrefl i),if_pos rfl,zea];exact hil) hBD.size hVD
      rw[HOO.out]at hput
      have HPUT:=zH hput
      have HBP:=zH (hBD.trans hput.2)
      clear hput hOD hVD hBD hrow hbD
      go_wp2_with fail
      go_roundg (o2- (i+1))
      case measure=>(have:=HG.out;omega)
      case rel=>
       refine⟨i+1,rs,by omega,rfl,by go_num,HPUT.out.1.congr (fun k hk=> ?_),HBP.out⟩
       by_cases h1:k=i
       ·subst h1
        rw[if_pos rfl,if_neg (Nat.lt_irrefl k),if_pos (Nat.lt_succ_self k)]
        simp only[if_true]
        have e1:zfq c q k k=1-zgg (zaq c k)/q:=if_pos rfl
        rw[<-e1]
        exact rowL_put fun j hj hjk=>by unfold zfq;rw[if_neg (fun e=>hjk e.symm)]
       ·rw[if_neg h1]
        by_cases h2:k<i
        ·rw[if_pos h2,if_pos (by omega)]
        ·rw[if_neg h2,if_neg h1,if_neg (by omega)]
  ·obtain rfl:i=rn:=by omega
   have hB2:=zfa HBW.out hbr HBW.out.size
   have hO2:=HO.out
   clear HO HBR
   go_wp2_with fail
   go_ret2
   refine⟨_,rfl,?_,hB2⟩
   rw[HNL.out]
   refine⟨hO2.own.sl,hO2.own.len,fun k hk=> ?_⟩
   have hk2:k<rs.length:=by rw[hO2.rl];exact hk
   refine⟨rs[k],hO2.own.cell k hk2,?_⟩
   have h:=(hO2.row k hk2).fracs
   rwa[if_pos hk]at h
end Go.Proofs.YtlpdkbmmbdfoiaaGreat
