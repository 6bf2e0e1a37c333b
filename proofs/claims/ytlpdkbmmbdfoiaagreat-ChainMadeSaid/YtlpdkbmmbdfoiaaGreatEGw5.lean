/- Lemmas. -/
import Derived.Test.YtlpdkbmmbdfoiaaGreatEHs1
set_option linter.unusedVariables false
set_option linter.unusedSimpArgs false
namespace Go.Proofs.YtlpdkbmmbdfoiaaGreat
open Go.RowKit
def zis (c:RC) (l:List Nat):Mx:=fun i j=>if i=j then zgg (zaq c (l.getD i 0))else 0-rq c (l.getD i 0) (l.getD j 0)
theorem sub_cr (va vb:Value) (p:Rat) (x:RF) (w:World) (ha:zqa w va p) (hb:zdc w vb x.neg x.n x.d) (hp:fits p) (hx:x.ok) (hr:fits (p-x.q)):Calls Tryz.prog 163 #[va,vb] w (RF0 w (p-x.q)):=by
 have h:=sub_frac va vb _ _ _ _ _ _ w ha.raw hb (zuc hp) hx
 rw[zvb]at h
 exact h.mono fun _ _ h=>h.ok rfl hr
theorem zct {l:List Nat} {i:Nat} (h:i<l.length):(ztr l)[i]'(by rw[zbq];exact h)=((l.getD i 0:Nat):Int):=by
 unfold ztr
 rw[List.getElem_map,zGD,zGE h]
 rfl
theorem zbb.setC3 {w:World} {v:Value} {q:List Rat} {b:Nat} {s:Bool} {x y:Value} (h:zbb w v q) (hc:C3 w b (.bool s) x y) (hx:∀z,x≠ .int .u32 z) (hy:∀z,y≠ .int .u32 z) (hne:(base v).block≠b) (u0 u1 u2:Value):
 zbb (((w.setCell ⟨b,0,none⟩ u0).setCell ⟨b,1,none⟩ u1).setCell ⟨b,2,none⟩ u2) v q:=
 ((h.setc (p:=⟨b,0,none⟩) hne hc.c0 (by simp) u0).setc (p:=⟨b,1,none⟩) hne (hc.set0 u0).c1 hx u1).setc (p:=⟨b,2,none⟩) hne ((hc.set0 u0).set1 u1).c2 hy u2
structure zzt (c:RC) (l:List Nat) (b x:Nat->Rat):Prop where
 lt:∀i,i<l.length->l.getD i 0<c.rates.length
 le:l.length<=24
 fn:∀i j,i<l.length->j<l.length->fits (0-rq c (l.getD i 0) (l.getD j 0))
 fA:zau l.length l.length (zis c l)
 fb:∀i,i<l.length->fits (b i)
 w:wtF l.length l.length (zis c l)+wts (zib l.length b)+wts (qs c.start)<=1900
 sys:l.length=0\/SysOk l.length (zis c l) b x
 fp:∀i,i<l.length->fits ((qs c.start).getD (l.getD i 0) 0*x i)
 fs:∀k,k<=l.length->fits (sg k fun i=>(qs c.start).getD (l.getD i 0) 0*x i)
theorem mat_cell {w:World} {b:Nat} {r:Value} {q:List RF} (hb:w.cell? ⟨b,0,none⟩=some r) (hq:zni w r q):zlw w (.slice (some ⟨b,0,none⟩) 1 1) [q]:=by
 refine⟨⟨_,1,1,rfl,zLR _,by simp[maxLen],fun e=>by cases e⟩,rfl,fun j hj=> ?_⟩
 obtain rfl:j=0:=by simp at hj;omega
 have hp:∀k,ptr (.slice (some ⟨b,0,none⟩) 1 1) k=⟨b,k,none⟩:=fun k=>by simp only[ptr,base,Addr.add_lit,Nat.zero_add]
 exact⟨r,by rw[hp];exact hb,hq⟩
theorem zfu (w:World) (b:Nat) (r:Value) (q:List RF) (W:Nat) (hq:zni w r q) (hok:∀x∈q,x.ok) (hl:q.length<=65536) (hW:wts (qs q)=W) (hb:w.cell? ⟨b,0,none⟩=some r):
 Calls Tryz.prog 146 #[.slice (some ⟨b,0,none⟩) 1 1] w fun e w'=>e= .returned (.int .i64 (W:Nat))/\Below w.heap.size w w':=by
 have h:=zzq _ [q] w (mat_cell hb hq) (fun l hl x hx=>by obtain rfl:l=q:=by simpa using hl
                                                         exact hok x hx) (fun l h=>by obtain rfl:l=q:=by simpa using h
                                                                                      exact hl) (by simp)
 rw[zhr,hW]at h
 exact h
set_option maxRecDepth 100000 in
set_option maxHeartbeats 6400000 in
theorem zru (va vl vb:Value) (c:RC) (l:List Nat) (b x:Nat->Rat) (w:World) (ha:zdq w va c) (hv:zzp c) (hl:zgv w vl (ztr l)) (hb:zbb w vb (zib l.length b)) (hp:zzt c l b x):
 Calls Tryz.prog 110 #[va,vl,vb] w (RF0 w (sg l.length fun i=>(qs c.start).getD (l.getD i 0) 0*x i)):=by
 obtain⟨i3,hi3,hz3,hs3,hy3⟩:=info_parts Tryz.infoF
 have hAP:=fun{ops:Array Oper} {o:Oper} {a:Act} {w:World} {K:Act->World->Prop} {Q:Exit->Act->World->Prop} {E:Prop}=>zcg (P:=Tryz.prog) 25 38 i3 Tryz.underlying25 hi3 hz3 hs3 hy3 (ops:=ops) (o:=o) (a:=a) (w:=w) (K:=K) (Q:=Q) (E:=E)
 obtain⟨i4,hi4,hz4,hs4,hy4⟩:=info_parts Tryz.infoRow
 have hMR:=zbi (P:=Tryz.prog) 24 25 i4 Tryz.underlying24 hi4 hz4 hs4 hy4
 clear hi3 hz3 hs3 hy3 hi4 hz4 hs4 hy4
 have hlen:c.rates.length=c.start.length:=hv.2.2.2.1
 have h128:c.start.length<=128:=hv.2.1
 obtain⟨rv,sv,lv,rfl,hr,hs,hlo⟩:=id ha
 obtain⟨ra,rn,rk,rfl,_⟩:=id hr.sl
 obtain⟨sa,sn,sk,rfl,_⟩:=id hs.sl
 obtain⟨la,ln,lk,rfl,_⟩:=id (zhc.sl hlo)
 obtain⟨va1,vn1,vk1,rfl,_⟩:=id (zhc.sl hl)
 obtain⟨vb1,vbn,vb3,rfl,_⟩:=id hb.sl
 obtain⟨m,hm⟩:∃m,l.length=m:=⟨_,rfl⟩
 have hvn1:vn1=m:=by have h:=zhc.len hl;rw[List.length_map,zbq,hm]at h;exact h
 subst hvn1
 have hvbn:vbn=vn1:=by have h:=hb.len;rw[zea,hm]at h;exact h
 subst hvbn
 have hbx:=zca w (.cells #[.slice ra rn rk, .slice sa sn sk, .slice la ln lk] 28)
 have hb2:=zca (w.alloc (.cells #[.slice ra rn rk, .slice sa sn sk, .slice la ln lk] 28)) (.cells #[.bool false, .slice none 0 0, .slice none 0 0] 38)
 have HC:=zH ((C3.new w 28 (.slice ra rn rk) (.slice sa sn sk) (.slice la ln lk)).belowS hb2)
 have HR6:=zH (C3.newB (b:=w.heap.size+1) (w.alloc (.cells #[.slice ra rn rk, .slice sa sn sk, .slice la ln lk] 28)) 38 (.bool false) (.slice none 0 0) (.slice none 0 0) (by simp))
 have HBW:=zH (zaa hbx hb2)
 have HA:=zH (ha.below HBW.out)
 have HRT:=zH (hr.below HBW.out)
 have HST:=zH (hs.below HBW.out)
 have HVL:=zH (zgv.below hl HBW.out)
 have HVB:=zH (hb.below HBW.out)
 have HV:=zH hv
 have HP:=zH hp
 have HM:=zH hm
 have hm24:vbn<=24:=by rw[<-hm];exact hp.le
 have srt:=hr.sl
 have hrn:rn=c.rates.length:=hr.len
 have hsn:sn=c.rates.length:=hs.len.trans hlen.symm
 have HRN:=zH hrn
 have HSN:=zH hsn
 have svl:=zhc.sl hl
 have svb:=hb.sl
 have hn:rn<=128:=by omega
 clear hr hs hlo hl hb ha hv hp hbx hb2 hlen h128 hrn hsn hm
 go_enter Tryz.func110,Tryz.ntmps110
 go_upto_region 1 with fail
 generalize (w.alloc (.cells #[.slice ra rn rk, .slice sa sn sk, .slice la ln lk] 28)).alloc (.cells #[.bool false, .slice none 0 0, .slice none 0 0] 38)=W2 at *
 obtain⟨_,c0,c1,c2,_,_,_⟩:=HC.out
 have hng:¬ (24:Int)<(vbn:Nat):=by omega
 go_wp2_with (refine hMR W2 rfl _ _ rfl W2.heap.size _ vbn rfl rfl rfl (by omega) (zLR _) ?_;intro vO w5 hO5 hb5
              have HO5:=zH (zrj.start hO5)
              have HB5:=zH hb5
              have slO:=hO5.sl
              have lnO:=hO5.len
              have c0:=zba hb5 c0
              have c1:=zba hb5 c1
              have c2:=zba hb5 c2
              clear hO5 hb5)
 clear hMR
 go_loopg [31] (vbn) (fun g u31 wr=>∃ (i:Nat) (rs:List Value),i<=vbn/\g=vbn-i/\u31= .int .i64 i/\zrj wr W2.heap.size vO rs vbn (fun k=>if k<i then zib vbn (zis c l k)else [])/\Below W2.heap.size W2 wr)
 case atStart=>exact⟨0,_,zZL _,rfl,rfl,HO5.out,HB5.out⟩
 case round=>
  obtain⟨i,rs,hin,hg,rfl,hO,hbr⟩:=hrel
  obtain⟨w6,hw6⟩:∃w6,w6=wr:=⟨_,rfl⟩
  subst hw6
  have HG:=zH hg
  have HO:=zH hO
  have HBR:=zH hbr
  clear HO5 HB5 hg hO c0 c1 c2
  by_cases hil:i<vbn
  ·have hil3:i<(ztr l).length:=by rw[zbq,HM.out];exact hil
   have hcl:=(HVL.out.below hbr).at' i hil3
   rw[zct (by rw[HM.out];exact hil)]at hcl
   have hsl:=HP.out.lt i (by rw[HM.out];exact hil)
   obtain⟨s,hs⟩:∃s,l.getD i 0=s:=⟨_,rfl⟩
   rw[hs]at hcl hsl
   have HS:=zH hs
   obtain⟨ri,hci0,hri⟩:=HRT.out.at' s hsl
   have hsl2:s<c.lost.length:=by have:=HV.out.2.2.1;have:=HV.out.2.2.2.1;omega
   obtain⟨hi3,hrl,hrow,hrq⟩:=HV.out.row hsl2
   have hrn2:(c.rates[s]'hsl).length=rn:=by have:=HV.out.2.2.1;have:=HV.out.2.2.2.1;have:=HRN.out;omega
   have HROW:=zH hrow
   have HRQ:Hid (zaq c s=qs (c.rates[s]'hsl)):=zH hrq
   obtain⟨ra1,ra2,ra3,rfl,_⟩:=id hri.sl
   have hra2:ra2=rn:=hri.len.trans hrn2
   subst hra2
   have sri:=hri.sl
   have HRI:=zH hri
   have HRL:=zH hrn2
   have j1:(0:Int)<=(i:Int):=by omega
   have j2:(i:Int)<(vbn:Nat):=by omega
   have k1:(0:Int)<=(s:Int):=by omega
   have k2:(s:Int)<(ra2:Nat):=by have:=HRN.out;omega
   have HCI0:=zH hci0
   clear hrl hrow hrq hri hrn2 hs hci0
   go_wp2_with fail
   clear hcl
   go_loopg [38] (vbn) (fun g u38 wr=>∃ (j:Nat) (rs:List Value),j<=vbn/\g=vbn-j/\u38= .int .i64 j/\zrj wr W2.heap.size vO rs vbn (fun k=>if k<i then zib vbn (zis c l k)else if k=i then zib j (fun j=>0-rq c s (l.getD j 0))else [])/\Below W2.heap.size W2 wr)
   case atStart=>exact⟨0,rs,zZL _,rfl,rfl,HO.out.congr (fun k hk=>by
    by_cases h1:k<i
    ·rw[if_pos h1,if_pos h1]
    ·rw[if_neg h1,if_neg h1];split<;>rfl),HBR.out⟩
   case round=>
    obtain⟨j,rs,hjn,hgj,rfl,hOj,hbj⟩:=hrel
    obtain⟨w7,hw7⟩:∃w7,w7=wr:=⟨_,rfl⟩
    subst hw7
    have HGJ:=zH hgj
    have HOJ:=zH hOj
    have HBJ:=zH hbj
    clear HO HBR hgj hOj
    by_cases hjl:j<vbn
    ·have hjl3:j<(ztr l).length:=by rw[zbq,HM.out];exact hjl
     have hcl:=(HVL.out.below hbj).at' j hjl3
     rw[zct (by rw[HM.out];exact hjl)]at hcl
     have hslj:=HP.out.lt j (by rw[HM.out];exact hjl)
     have HFN:Hid (fits (0-rq c s (l.getD j 0))):=zH (by have h:=HP.out.fn i j (by rw[HM.out];exact hil) (by rw[HM.out];exact hjl);rwa[HS.out]at h)
     obtain⟨t,ht⟩:∃t,l.getD j 0=t:=⟨_,rfl⟩
     rw[ht]at hcl hslj HFN
     have HTT:=zH ht
     have ht2:t<(c.rates[s]'hsl).length:=by rw[HRL.out];have:=HRN.out;omega
     have HQE:Hid (rq c s t=((c.rates[s]'hsl)[t]'ht2).q):=zH (by
      unfold rq
      rw[HRQ.out]
      unfold qs
      rw[zGD,List.getElem?_map,zGE ht2];rfl)
     have HXO:Hid (((c.rates[s]'hsl)[t]'ht2).ok):=zH (HROW.out.ok _ (zGM ht2))
     obtain⟨ea,eb,g1,g2,g3,g4,g5⟩:=(HRI.out.below hbj).at' t ht2
     obtain⟨y,hye⟩:∃y,(c.rates[s]'hsl)[t]'ht2=y:=⟨_,rfl⟩
     rw[hye]at g1 g4 g5 HQE HXO
     obtain⟨ea1,ea2,ea3,rfl,_⟩:=g4.slen.1
     obtain⟨eb1,eb2,eb3,rfl,_⟩:=g5.slen.1
     have HXN:Hid (zdc w7 (.agg #[.bool y.neg, .slice ea1 ea2 ea3, .slice eb1 eb2 eb3]) y.neg y.n y.d):=zH ⟨_,_,rfl,g4,g5⟩
     have HFS:Hid (fits (0-y.q)):=zH (by rw[<-HQE.out];exact HFN.out)
     obtain⟨_,c0,c1,c2,_,_,_⟩:=HC.out.below hbj HC.out.lt
     have hci:=zba hbj HCI0.out
     have S0:=zH (And.intro c0 (And.intro c1 (And.intro hci (And.intro g1 (And.intro g2 g3)))))
     have j3:(0:Int)<=(j:Int):=by omega
     have j4:(j:Int)<(vbn:Nat):=by omega
     have k3:(0:Int)<=(t:Int):=by omega
     have k4:(t:Int)<(ra2:Nat):=by have:=HRN.out;omega
     clear g4 g5 hye g1 g2 g3 c0 c1 c2 hci ht
     go_wp2_with fail
     clear hcl
     go_cut [13,14] (fun u13 u14 wy=>∃ (b13:Nat) (t':Bool) (x' y':Value),u13= .pointer (some ⟨b13,0,none⟩)/\u14= .int .i64 0/\C3 wy b13 (.bool t') x' y'/\zqa wy (.agg #[.bool t',x',y']) (0-rq c s t)/\Below w7.heap.size w7 wy/\w7.heap.size<=b13)
     case first =>
      go_region_held3 (fun w'=>w'.cell? ⟨w.heap.size,0,none⟩=some (.slice ra ra2 rk)/\w'.cell? ⟨w.heap.size,1,none⟩=some (.slice sa sn sk)/\w'.cell? (ptr (.slice ra ra2 rk) s)=some (.slice ra1 ra2 ra3)/\w'.cell? (ptr (.slice ra1 ra2 ra3) (t*3))=some (.bool y.neg)/\w'.cell? (ptr (.slice ra1 ra2 ra3) (t*3+1))=some (.slice ea1 ea2 ea3)/\w'.cell? (ptr (.slice ra1 ra2 ra3) (t*3+2))=some (.slice eb1 eb2 eb3)/\Below w7.heap.size w7 w') (first
       | with_reducible exact zvt S0.out (zja _)
       | with_reducible exact zpu (by assumption) (zca _ _)
       | with_reducible exact zpu (by assumption) (by assumption)
       | with_reducible exact zvt S0.out (zaa hB32 (zca _ _))
       | with_reducible exact zut S0.out hB32 (zLR _) _ _ _
       | with_reducible exact zut S0.out hB32 hB31.size _ _ _
       | with_reducible exact zut S0.out (zaa hB32 (zca _ _)) hB32.size _ _ _) (first
       |(go_at_call 109;(with_reducible refine(zdr _).mono ?_);rintro e31 w31 ⟨v31,rfl,hv31,hb31⟩
         have hB31:=zaa (zgi (by assumption)) hb31
         have hc5:=(fun(p:Addr) hp=>hb31.cell (p:=p) hp)
         have hf5:=(fun(p:Addr) hp=>hb31.frozen (p:=p) hp)
         have zq:=hb31.size
         (try simp only[zfk,zvo]at zq)
         (try have z1:w7.heap.size<w31.heap.size:=(by omega)))
       |(go_at_call 163;first
          |((with_reducible refine(sub_cr _ _ 0 y _ hv31 (HXN.out.below hB31) zkl HXO.out HFS.out).mono ?_);rintro e32 w32 ⟨v32,rfl,hv32,hb32⟩
            obtain⟨t32,x32,y32,rfl,⟨a321,l321,k321,rfl,_⟩,⟨a322,l322,k322,rfl,_⟩⟩:=hv32.isF
            have hB32:=zaa hB31 hb32
            have hc6:=(fun(p:Addr) hp=>hb32.cell (p:=p) hp)
            have hf6:=(fun(p:Addr) hp=>hb32.frozen (p:=p) hp)
            have zq2:=hb32.size
            (try simp only[zfk,zvo]at zq2)
            (try have z2:w7.heap.size<w32.heap.size:=(by omega))
            (try have z3:w31.heap.size<w32.heap.size:=(by omega)))
          |((with_reducible refine(sub_cr _ _ 0 y _ (hv31.below (zca _ _)) (HXN.out.below (zaa hB31 (zca _ _))) zkl HXO.out HFS.out).mono ?_);rintro e32 w32 ⟨v32,rfl,hv32,hb32⟩
            obtain⟨t32,x32,y32,rfl,⟨a321,l321,k321,rfl,_⟩,⟨a322,l322,k322,rfl,_⟩⟩:=hv32.isF
            have hB32:=zaa (zaa hB31 (zca _ _)) hb32
            have hc6:=(fun(p:Addr) hp=>hb32.cell (p:=p) hp)
            have hf6:=(fun(p:Addr) hp=>hb32.frozen (p:=p) hp)
            have zq2:=hb32.size
            (try simp only[zfk,zvo]at zq2)
            (try have z2:w7.heap.size<w32.heap.size:=(by omega))
            (try have z3:w31.heap.size<w32.heap.size:=(by omega)))))
      all_goals
       have hE:=zgi (by assumption)
       rw[<-HQE.out]at hv32
       go_wp2_with fail
       go_meet
       case rel=>
        first
         | exact⟨_,_,_,_,rfl,rfl,C3.new w32 _ _ _ _,hv32.below (zca _ _),hE,hB32.size⟩
         | exact⟨_,_,_,_,rfl,rfl,((C3.new w31 38 (.bool false) (.slice none 0 0) (.slice none 0 0)).belowS hb32).set _ _ _,hv32.set3 ((C3.new w31 38 (.bool false) (.slice none 0 0) (.slice none 0 0)).belowS hb32) (fun z=>by simp) (fun z=>by simp) _ _ _,hE,hB31.size⟩
         | exact⟨_,_,_,_,rfl,rfl,(((C3.newB (b:=w7.heap.size) w7.drew 38 (.bool false) (.slice none 0 0) (.slice none 0 0) rfl).belowS hb31).belowS hb32).set _ _ _,hv32.set3 (((C3.newB (b:=w7.heap.size) w7.drew 38 (.bool false) (.slice none 0 0) (.slice none 0 0) rfl).belowS hb31).belowS hb32) (fun z=>by simp) (fun z=>by simp) _ _ _,hE,zLR _⟩
         | exact⟨_,_,_,_,rfl,rfl,((((C3.newB (b:=w7.heap.size) w7 38 (.bool false) (.slice none 0 0) (.slice none 0 0) rfl).belowS (zja _)).belowS hb31).belowS hb32).set _ _ _,hv32.set3 ((((C3.newB (b:=w7.heap.size) w7 38 (.bool false) (.slice none 0 0) (.slice none 0 0) rfl).belowS (zja _)).belowS hb31).belowS hb32) (fun z=>by simp) (fun z=>by simp) _ _ _,hE,zLR _⟩
     case rest=>
      obtain⟨b11,t8,x8,y8,rfl,rfl,hC6,hv6,hb6,hbb⟩:=hcut
      obtain⟨W9,hw3⟩:∃w3,w3=wc:=⟨_,rfl⟩
      subst hw3
      have hv6':=hv6
      obtain⟨_,_,_,hF6,⟨a81,l81,k81,rfl,_⟩,⟨a82,l82,k82,rfl,_⟩⟩:=hv6'.isF
      injection hF6 with hF6
      injection hF6 with hF6
      simp only[List.cons.injEq,and_true,Value.bool.injEq]at hF6
      obtain⟨rfl,rfl,rfl⟩:=hF6
      have HV9:=zH hv6
      have HC9:=zH hC6
      have HO9:=zH (HOJ.out.below hb6)
      have HB9:=zH (zfa HBJ.out hb6 HBJ.out.size)
      clear hv6 hb6 HOJ HBJ S0 hC6
      go_wp2_with fail
      have hi9:i<rs.length:=by rw[HO9.out.rl];exact hil
      have s2:=HO9.out.own.cell i hi9
      obtain⟨o1,o2,o3,ho,_⟩:=(HO9.out.row i hi9).sl
      rw[ho]at s2
      have HOO:=zH ho
      obtain⟨_,d0,d1,d2,_,_,_⟩:=HC9.out
      have hbD:=zja (B:=W9.heap.size) W9
      clear ho
      refine wpL.start 8 (fun w'=>w'.cell? (ptr vO i)=some (.slice o1 o2 o3)/\w'.cell? ⟨b11,0,none⟩=some (.bool t8)/\w'.cell? ⟨b11,1,none⟩=some (.slice a81 l81 k81)/\w'.cell? ⟨b11,2,none⟩=some (.slice a82 l82 k82)) (by kernel_rfl) ⟨zba hbD s2,zba hbD d0,zba hbD d1,zba hbD d2⟩ (fun hHeld=> ?_)
      generalize W9.drew=wd at *
      refine wpL.u 0 ?_
      refine wpL.u 1 ?_
      refine wpL.t 2 ?_
      refine wpL.t 3 ?_
      refine wpL.t 4 ?_
      refine wpL.t 5 ?_
      refine wpL.t 6 ?_
      (refine wpL.oo 7 ?_;intro K hK)
      rw[if_pos (by rfl)]
      go_simp
      have hb8:=zca wd (.cells #[.bool t8, .slice a81 l81 k81, .slice a82 l82 k82] 38)
      have hVB:=zjf.new wd #[.bool t8, .slice a81 l81 k81, .slice a82 l82 k82] 38
      refine hK.out _ _ (fun _=>⟨zba hb8 hHeld.1,zba hb8 hHeld.2.1,zba hb8 hHeld.2.2.1,zba hb8 hHeld.2.2.2⟩) ?_
      clear hK K hHeld d0 d1 d2 s2
      try simp only[Act.put,List.setIfInBounds_toArray,List.set_cons_zero,List.set_cons_succ]
      have hv8:=(HV9.out.below hbD).below hb8
      have hO8:=(HO9.out.below hbD).below hb8
      have hB8:=zfa (zfa HB9.out hbD HB9.out.size) hb8 (zLT HB9.out.size hbD.size)
      have hsz8:W2.heap.size<=(wd.alloc (.cells #[.bool t8, .slice a81 l81 k81, .slice a82 l82 k82] 38)).heap.size:=hB8.size
      generalize hw9:wd.alloc (.cells #[.bool t8, .slice a81 l81 k81, .slice a82 l82 k82] 38)=w9 at *
      clear hw9
      have hro:=hO8.row i hi9
      rw[HOO.out,if_neg (Nat.lt_irrefl i),if_pos rfl]at hro
      have hlen9:(zib j (fun j=>0-rq c s (l.getD j 0))).length<=1000:=by rw[zea];omega
      rw[<-HTT.out]at hv8
      (refine wpL.oo 8 ?_;intro K hK)
      refine hAP rfl _ _ (by rfl) W2.heap.size (.slice o1 o2 o3) (zib j (fun j=>0-rq c s (l.getD j 0))) (by rfl) hro (.bool t8) (.slice a81 l81 k81) (.slice a82 l82 k82) (0-rq c s (l.getD j 0)) hv8 wd.heap.size (by rfl) hVB hlen9 hsz8 ?_
      intro v10 w10 hf10 hg10 hn10 ho10
      obtain⟨y1,y2,y3,rfl,_⟩:=id hf10.sl
      refine hK.out _ _ (fun h=>by first | cases h | simp at h) ?_
      clear hK K
      try simp only[Act.put,List.setIfInBounds_toArray,List.set_cons_zero,List.set_cons_succ]
      have hnO:vO.ownBlock=none\/vO.ownBlock≠(Value.slice o1 o2 o3).ownBlock:=by
       obtain⟨ys,y1,y2⟩:=hro
       exact hO8.own.kinds y1 (by decide)
      have hown10:=hO8.own.grown hg10 hnO
      have c10:w10.cell? (ptr vO i)=some (.slice o1 o2 o3):=by rw[hown10.cell i hi9,HOO.out]
      have f10:=hown10.frozen i hi9
      have hset:=hO8.set hi9 hsz8 hf10 (by rw[HOO.out];exact hg10) (by rw[HOO.out];exact hn10) (by rw[HOO.out];exact ho10)
      have HSET:=zH hset
      have HB10:=zH (hB8.trans hset.2)
      clear hset hnO hown10 hO8 hro hf10 hg10 hn10 ho10 hB8 hb8 hbD hv8 hVB
      (refine wpL.oo 9 ?_;intro K hK)
      rw[if_pos (by rfl)]
      go_simp
      refine hK.out _ _ (fun h=>by first | cases h | simp at h) ?_
      clear hK K
      try simp only[Act.put,List.setIfInBounds_toArray,List.set_cons_zero,List.set_cons_succ]
      (refine wpL.oo 10 ?_;intro K hK)
      rw[if_pos (by rfl)]
      go_simp
      refine hK.out _ _ (fun h=>by first | cases h | simp at h) ?_
      clear hK K c10 f10
      refine wpL.done (by kernel_rfl) ?_ _
      go_wp2_with fail
      go_roundg (vbn- (j+1))
      case measure=>(have:=HGJ.out;omega)
      case rel=>exact⟨j+1,_,by omega,rfl,by go_num,HSET.out.1.congr (fun k hk=>by
       by_cases h1:k=i
       ·subst h1;rw[if_pos rfl,if_neg (Nat.lt_irrefl k),if_pos rfl,zlk]
       ·rw[if_neg h1]
        by_cases h2:k<i
        ·rw[if_pos h2,if_pos h2]
        ·rw[if_neg h2,if_neg h2,if_neg h1,if_neg h1]),HB10.out⟩
    ·obtain rfl:j=vbn:=by omega
     have HOUT:Hid (∀w0,zdq w0 (.agg #[.slice ra ra2 rk, .slice sa sn sk, .slice la ln lk]) c->Calls Tryz.prog 162 #[.agg #[.slice ra ra2 rk, .slice sa sn sk, .slice la ln lk], .int .i64 s] w0 (RF1 w0 (zgg (zaq c s)))):=zH (fun w0 h=>by rw[HRQ.out];exact zav _ c s w0 h hsl HROW.out)
     go_wp2_with fail
     have hbD:=zja (B:=w7.heap.size) w7
     have hOD:=HOJ.out.below hbD
     have hBD:=zfa HBJ.out hbD HBJ.out.size
     have hAD:=HA.out.below hBD
     obtain⟨_,d0,d1,d2,_,_,_⟩:=HC.out.belowS hBD
     have hir:i<rs.length:=by rw[hOD.rl];exact hil
     have s2:=hOD.own.cell i hir
     obtain⟨o1,o2,o3,ho,_⟩:=(hOD.row i hir).sl
     rw[ho]at s2
     have HOO:=zH ho
     have so:zgc (.slice o1 o2 o3):=by rw[<-ho];exact(hOD.row i hir).sl
     have lo:o2=j:=by
      have hrow:=hOD.row i hir
      rw[ho,if_neg (Nat.lt_irrefl i),if_pos rfl]at hrow
      have h:=hrow.fracs.len
      rw[zea]at h
      exact h
     subst lo
     clear ho
     refine wpN.start [9] (fun w'=>w'.cell? (ptr vO i)=some (.slice o1 o2 o3)/\w'.cell? ⟨w.heap.size,0,none⟩=some (.slice ra ra2 rk)/\w'.cell? ⟨w.heap.size,1,none⟩=some (.slice sa sn sk)/\w'.cell? ⟨w.heap.size,2,none⟩=some (.slice la ln lk)) (by kernel_rfl) ⟨s2,d0,d1,d2⟩ (fun hHeld=> ?_)
     generalize w7.drew=wd at *
     refine wpN.t 0 ?_
     refine wpN.t 1 ?_
     refine wpN.t 2 ?_
     refine wpN.t 3 ?_
     refine wpN.t 4 ?_
     refine wpN.t 5 ?_
     refine wpN.t 6 ?_
     (refine wpN.oo 7 ?_;intro K hK)
     refine zxa 162 #[.agg #[.slice ra ra2 rk, .slice sa sn sk, .slice la ln lk], .int .i64 s] ?_ ?_ (HOUT.out wd hAD) ?_
     ·rfl
     ·go_simp
     rintro e9 w9 ⟨v9,rfl,hv9,hb9⟩
     obtain⟨t9,x9,y9,rfl,⟨a91,l91,k91,rfl,_⟩,⟨a92,l92,k92,rfl,_⟩⟩:=hv9.isF
     refine⟨_,rfl,?_⟩
     have hHeld:w9.cell? (ptr vO i)=some (.slice o1 o2 o3)/\w9.cell? ⟨w.heap.size,0,none⟩=some (.slice ra ra2 rk)/\w9.cell? ⟨w.heap.size,1,none⟩=some (.slice sa sn sk)/\w9.cell? ⟨w.heap.size,2,none⟩=some (.slice la ln lk):=⟨zba hb9 s2,zba hb9 d0,zba hb9 d1,zba hb9 d2⟩
     refine hK.out _ _ (fun _=>hHeld) ?_
     clear hK K
     try simp only[Act.put,List.setIfInBounds_toArray,List.set_cons_zero,List.set_cons_succ]
     refine wpN.t 8 ?_
     have hO9:=hOD.below hb9
     have hB9:=zfa hBD hb9 hBD.size
     have hrow:=hO9.row i hir
     rw[HOO.out,if_neg (Nat.lt_irrefl i),if_pos rfl]at hrow
     have f0:=hrow.frozen (i*3) (by rw[zea];omega)
     have f1:=hrow.frozen (i*3+1) (by rw[zea];omega)
     have f2:=hrow.frozen (i*3+2) (by rw[zea];omega)
     have n01:=hrow.inj (by rw[zea];omega) (show i*3≠i*3+1 by omega)
     have n02:=hrow.inj (by rw[zea];omega) (show i*3≠i*3+2 by omega)
     have n12:=hrow.inj (by rw[zea];omega) (show i*3+1≠i*3+2 by omega)
     obtain⟨_,e0,_⟩:=hrow.fracs.at' i (by rw[zea];exact hil)
     (refine wpN.oo 9 ?_;intro K hK)
     rw[if_pos (by rfl)]
     go_simp
     refine hK.out _ _ (fun h=>by cases h) ?_
     clear hK K hHeld f0 f1 f2 n01 n02 n12 d0 d1 d2 s2
     refine wpN.done (by kernel_rfl) ?_ _
     have hput:=hO9.put (i:=i) (j:=i) hir (by rw[if_neg (Nat.lt_irrefl i),if_pos rfl,zea];exact hil) hB9.size hv9
     rw[HOO.out]at hput
     have HPUT:=zH hput
     have HBP:=zH (hB9.trans hput.2)
     clear hput hOD hO9 hv9 hBD hB9 hrow hbD hb9 hAD
     go_wp2_with fail
     go_roundg (o2- (i+1))
     case measure=>(have:=HG.out;omega)
     case rel=>
      refine⟨i+1,rs,by omega,rfl,by go_num,HPUT.out.1.congr (fun k hk=> ?_),HBP.out⟩
      by_cases h1:k=i
      ·subst h1
       rw[if_pos rfl,if_neg (Nat.lt_irrefl k),if_pos (Nat.lt_succ_self k)]
       simp only[if_true]
       have e1:zis c l k k=zgg (zaq c s):=by unfold zis;rw[if_pos rfl,HS.out]
       rw[<-e1]
       exact rowL_put fun j hj hjk=>by unfold zis;rw[if_neg (fun e=>hjk e.symm),HS.out]
      ·rw[if_neg h1]
       by_cases h2:k<i
       ·rw[if_pos h2,if_pos (by omega)]
       ·rw[if_neg h2,if_neg h1,if_neg (by omega)]
  ·obtain rfl:i=vbn:=by omega
   have hO2:=HO.out
   have HMT:Hid (zam w6 vO i i (zis c l)):=zH ⟨hO2.own.sl,hO2.own.len,fun k hk=>by
    have hk2:k<rs.length:=by rw[hO2.rl];exact hk
    refine⟨rs[k],hO2.own.cell k hk2,?_⟩
    have h:=(hO2.row k hk2).fracs
    rwa[if_pos hk]at h⟩
   clear hO2 HO
   obtain⟨W1,hW1⟩:∃W,wtF i i (zis c l)=W:=⟨_,rfl⟩
   obtain⟨W2',hW2⟩:∃W,wts (zib i b)=W:=⟨_,rfl⟩
   obtain⟨W3,hW3⟩:∃W,wts (qs c.start)=W:=⟨_,rfl⟩
   have hwi:(W1:Int)+(W2':Nat)+(W3:Nat)<=1900:=by have h:=HP.out.w;rw[HM.out,hW1,hW2,hW3]at h;omega
   have HW1:=zH hW1
   have HFA:Hid (zau i i (zis c l)):=zH (by have h:=HP.out.fA;rwa[HM.out]at h)
   have HVB0:=zH (HVB.out.below hbr)
   have HVBN:Hid (zni w6 (.slice vb1 i vb3) (zmu i b)):=zH (by have h:=HVB0.out.raw;rw[HM.out]at h;exact h)
   have HST6:=zH (HST.out.below hbr)
   have HA6:=zH (HA.out.below hbr)
   have HWB:Hid (∀w0 k,w0.cell? ⟨k,0,none⟩=some (.slice vb1 i vb3)->Below w6.heap.size w6 w0->Calls Tryz.prog 146 #[.slice (some ⟨k,0,none⟩) 1 1] w0 fun e w'=>e= .returned (.int .i64 (W2':Nat))/\Below w0.heap.size w0 w'):=
    zH (fun w0 k h1 h2=>zfu w0 k _ (zmu i b) W2' (HVBN.out.below h2) (zpw (fun j hj=>HP.out.fb j (by rw[HM.out];exact hj))) (by rw[zrk];omega) (by unfold zmu;rw[zvh];exact hW2) h1)
   have HWS:Hid (∀w0 k,w0.cell? ⟨k,0,none⟩=some (.slice sa sn sk)->Below w6.heap.size w6 w0->Calls Tryz.prog 146 #[.slice (some ⟨k,0,none⟩) 1 1] w0 fun e w'=>e= .returned (.int .i64 (W3:Nat))/\Below w0.heap.size w0 w'):=
    zH (fun w0 k h1 h2=>zfu w0 k _ c.start W3 (HST6.out.below h2) HV.out.2.2.2.2.1.ok (by have:=HV.out.2.1;omega) hW3 h1)
   obtain⟨_,c0,c1,c2,_,_,_⟩:=HC.out.below hbr HC.out.lt
   have S0:=zH (And.intro c1 c1)
   clear hW1 hW2 hW3 c0 c1 c2
   go_wp2_with fail
   have hwd:decide ((1900:Int)<IntKind.i64.wrap (IntKind.i64.wrap ((W1:Int)+(W2':Nat))+(W3:Nat)))=false:=by
    have e1:IntKind.i64.wrap ((W1:Int)+(W2':Nat))=(W1:Int)+(W2':Nat):=zge (by omega) (by omega)
    have e2:IntKind.i64.wrap ((W1:Int)+(W2':Nat)+(W3:Nat))=(W1:Int)+(W2':Nat)+(W3:Nat):=zge (by omega) (by omega)
    rw[e1,e2]
    exact decide_eq_false (by omega)
   go_cut [79,84,87] (fun u79 u84 u87 wy=>u87= .bool false/\Below w6.heap.size w6 wy)
   case first =>
    go_region_held3 (fun w'=>w'.cell? ⟨w.heap.size,1,none⟩=some (.slice sa sn sk)/\w'.cell? ⟨w.heap.size,1,none⟩=some (.slice sa sn sk)/\Below w6.heap.size w6 w') (first
     | with_reducible exact kp2a S0.out (zja _)
     | with_reducible exact kp2w (by assumption) (zca _ _)
     | with_reducible exact kp2w (by assumption) (by assumption)) (first
     |(go_at_call 146;first
        |((with_reducible refine(zwr _ i i (zis c l) _ (HMT.out.below (kp2c (by assumption))) (by omega) (by omega) HFA.out).mono ?_);rw[HW1.out];rintro e31 w31 ⟨rfl,hb31⟩
          have hc5:=(fun(p:Addr) hp=>hb31.cell (p:=p) hp)
          have zq:=hb31.size
          (try simp only[zfk,zvo]at zq))
        |(with_reducible refine(HWB.out _ _ ?_ (kp2c (by assumption))).mono ?_;(focus ((repeat (first | (simp;done) | with_reducible refine zba (zca _ _) ?_ | with_reducible refine zba hb32 ?_ | with_reducible refine zba hb31 ?_ | with_reducible refine zba (zja _) ?_));done));rintro e32 w32 ⟨rfl,hb32⟩
          have hc6:=(fun(p:Addr) hp=>hb32.cell (p:=p) hp)
          have zq2:=hb32.size
          (try simp only[zfk,zvo]at zq2))
        |(with_reducible refine(HWS.out _ _ ?_ (kp2c (by assumption))).mono ?_;(focus ((repeat (first | (simp;done) | with_reducible refine zba (zca _ _) ?_ | with_reducible refine zba hb32 ?_ | with_reducible refine zba hb31 ?_ | with_reducible refine zba (zja _) ?_));done));rintro e33 w33 ⟨rfl,hb33⟩)))
    all_goals
     have hE:=kp2c (by assumption)
     go_wp2_with fail
     go_meet
     case rel=>exact⟨by first | rfl | exact congrArg Value.bool hwd,hE⟩
   case rest=>
    obtain⟨rfl,hcb⟩:=hcut
    obtain⟨w7,hw7⟩:∃w7,w7=wc:=⟨_,rfl⟩
    subst hw7
    have HMT7:=zH (HMT.out.below hcb)
    have HVB7:=zH (HVB0.out.below hcb)
    have HVL7:=zH (HVL.out.below (zfa hbr hcb hbr.size))
    have HST7:=zH (HST6.out.below hcb)
    have HC7:=zH ((HC.out.below hbr HC.out.lt).belowS hcb)
    have HR67:=zH ((HR6.out.below hbr HR6.out.lt).belowS hcb)
    have HB7:=zH (zaa (zaa HBW.out hbr) hcb)
    clear HMT HVB0 HVBN HST6 HA6 HWB HWS S0 HW1 HFA hwd hcb hbr hwi
    go_upto_region 18 with(first
     |(go_at_call 109;(with_reducible refine(zdr _).mono ?_);rintro e8 w8 ⟨v8,rfl,hv8,hb8⟩
       obtain⟨t8,x8,y8,rfl,⟨a81,l81,k81,rfl,_⟩,⟨a82,l82,k82,rfl,_⟩⟩:=hv8.isF
       have hba:=zca w8 (.cells #[.bool t8, .slice a81 l81 k81, .slice a82 l82 k82] 38)
       have hbb:=zaa hb8 hba
       have HC15:=zH (C3.new w8 38 (.bool t8) (.slice a81 l81 k81) (.slice a82 l82 k82))
       have HS15:=zH (hv8.below hba)
       have HLB:=zH hb8.size
       have HMT8:=zH (HMT7.out.below hbb)
       have HVB8:=zH (HVB7.out.below hbb)
       have HR68:=zH (HR67.out.belowS hbb)
       have HB8:=zH hbb
       clear hv8 hb8 hba hbb))
    obtain⟨b15,hb15⟩:∃b,w8.heap.size=b:=⟨_,rfl⟩
    rw[hb15]at HC15 HLB |-
    clear hb15 HMT7 HVB7
    generalize w8.alloc (.cells #[.bool t8, .slice a81 l81 k81, .slice a82 l82 k82] 38)=W8 at *
    obtain⟨_,r0,r1,r2,q0,q1,q2⟩:=HR68.out
    obtain⟨_,d0,d1,d2,f0,f1,f2⟩:=HC15.out
    by_cases hi0:i=0
    ·subst hi0
     have hz:(((0:Nat):Int)==0)=true:=rfl
     go_wp2_with fail
     refine zoa rfl rfl Tryz.aggF Tryz.sizeF (HR68.out.set _ _ _) rfl ?_
     refine⟨_,rfl,?_,zga (zaa HB7.out HB8.out) (Nat.le_succ _) _ _ _⟩
     have h:=HS15.out.set3 HR68.out (fun z=>by simp) (fun z=>by simp) (.bool t8) (.slice a81 l81 k81) (.slice a82 l82 k82)
     rw[HM.out]
     exact h
    ·have hz:(((i:Nat):Int)==0)=false:=by simp;omega
     have HSYS:Hid (SysOk i (zis c l) b x):=zH (by
      rcases HP.out.sys with h | h
      ·exact absurd (HM.out.symm.trans h) hi0
      ·rwa[HM.out]at h)
     have HVB9:Hid (zbb W8 (.slice vb1 i vb3) (zib i b)):=zH (by have h:=HVB8.out;rwa[HM.out]at h)
     have HI0:=zH hi0
     clear HVB8 r0 r1 r2 q0 q1 q2 d0 d1 d2 f0 f1 f2 hi0
     go_wp2_with (first
      |(go_at_call 98;(with_reducible refine(solve_reg _ _ i (zis c l) b x _ HMT8.out HVB9.out HSYS.out).mono ?_);rintro e9 w9 ⟨v9,rfl,hv9,hb9,hn9⟩
        obtain⟨x1,x2,x3,rfl,_⟩:=id hv9.sl
        have hx2:x2=i:=by have h:=hv9.len;rw[zea]at h;exact h
        subst hx2
        have slx:=hv9.sl
        have HX9:=zH hv9
        have HN9:Hid ((base (.slice x1 x2 x3)).block≠b15):=zH (by have:=HC15.out.lt;exact fun e=>by rw[e]at hn9;omega)
        have HC9:=zH (HC15.out.belowS hb9)
        have HS9:=zH (HS15.out.below hb9)
        have HB9:=zH (zaa HB8.out hb9)
        clear hv9 hb9 hn9))
     clear HMT8 HVB9 HC15 HS15 HR68 HB8
     go_loopg [106] (x2) (fun g u106 wr=>∃ (k:Nat) (t':Bool) (x' y':Value),k<=x2/\g=x2-k/\u106= .int .i64 k/\C3 wr b15 (.bool t') x' y'/\zqa wr (.agg #[.bool t',x',y']) (sg k fun i=>(qs c.start).getD (l.getD i 0) 0*x i)/\zbb wr (.slice x1 x2 x3) (zib x2 x)/\Below w7.heap.size w7 wr)
     case atStart=>exact⟨0,_,_,_,zZL _,rfl,rfl,HC9.out,HS9.out,HX9.out,HB9.out⟩
     case round=>
      obtain⟨k,t',x',y',hkn,hg,rfl,hcr,hfr,hxr,hbr⟩:=hrel
      obtain⟨wq,hwq⟩:∃w6,w6=wr:=⟨_,rfl⟩
      subst hwq
      obtain⟨_,_,_,hF6,⟨c81,m81,n81,rfl,_⟩,⟨c82,m82,n82,rfl,_⟩⟩:=hfr.isF
      injection hF6 with hF6
      injection hF6 with hF6
      simp only[List.cons.injEq,and_true,Value.bool.injEq]at hF6
      obtain⟨rfl,rfl,rfl⟩:=hF6
      have HG:=zH hg
      have HCR:=zH hcr
      have HFR:=zH hfr
      have HXR:=zH hxr
      have HBR:=zH hbr
      clear HC9 HS9 HX9 HB9 hg hcr hfr hxr
      by_cases hkl:k<x2
      ·have hkl3:k<(ztr l).length:=by rw[zbq,HM.out];exact hkl
       have hcl:=(HVL7.out.below hbr).at' k hkl3
       rw[zct (by rw[HM.out];exact hkl)]at hcl
       have hsl:=HP.out.lt k (by rw[HM.out];exact hkl)
       have HPR:Hid (fits ((qs c.start).getD (l.getD k 0) 0*x k)):=zH (HP.out.fp k (by rw[HM.out];exact hkl))
       have HSG:Hid (fits (sg k fun i=>(qs c.start).getD (l.getD i 0) 0*x i)/\fits (sg (k+1) fun i=>(qs c.start).getD (l.getD i 0) 0*x i)):=zH ⟨HP.out.fs k (by rw[HM.out];omega),HP.out.fs (k+1) (by rw[HM.out];omega)⟩
       have HFX:Hid (fits (x k)):=zH (HSYS.out.fx k hkl)
       obtain⟨s,hs⟩:∃s,l.getD k 0=s:=⟨_,rfl⟩
       rw[hs]at hcl hsl HPR
       have HS:=zH hs
       have hsl2:s<c.start.length:=by have:=HV.out.2.2.2.1;omega
       have HQE:Hid ((qs c.start).getD s 0=(c.start[s]'hsl2).q):=zH (by
        unfold qs
        rw[zGD,List.getElem?_map,zGE hsl2];rfl)
       have HXO:Hid ((c.start[s]'hsl2).ok):=zH (HV.out.2.2.2.2.1.ok _ (zGM hsl2))
       obtain⟨ea,eb,g1,g2,g3,g4,g5⟩:=(HST7.out.below hbr).at' s hsl2
       obtain⟨y,hye⟩:∃y,c.start[s]'hsl2=y:=⟨_,rfl⟩
       rw[hye]at g1 g4 g5 HQE HXO
       obtain⟨ea1,ea2,ea3,rfl,_⟩:=g4.slen.1
       obtain⟨eb1,eb2,eb3,rfl,_⟩:=g5.slen.1
       have HYN:Hid (zdc wq (.agg #[.bool y.neg, .slice ea1 ea2 ea3, .slice eb1 eb2 eb3]) y.neg y.n y.d):=zH ⟨_,_,rfl,g4,g5⟩
       rw[HQE.out]at HPR
       obtain⟨za,zb,p1,p2,p3,p4,p5⟩:=HXR.out.at' k (by rw[zea];exact hkl)
       rw[ztb]at p1 p4 p5
       obtain⟨za1,za2,za3,rfl,_⟩:=p4.v.sl
       obtain⟨zb1,zb2,zb3,rfl,_⟩:=p5.v.sl
       obtain⟨z,hze⟩:∃z,x k=z:=⟨_,rfl⟩
       rw[hze]at p1 p4 p5 HPR HFX
       have HZE:=zH hze
       have HZC:Hid (zqa wq (.agg #[.bool (decide (z<0)), .slice za1 za2 za3, .slice zb1 zb2 zb3]) z):=zH ⟨_,_,rfl,p4,p5⟩
       obtain⟨_,_,c1,_,_,_,_⟩:=HC7.out.belowS hbr
       have S0:=zH (And.intro c1 (And.intro g1 (And.intro g2 (And.intro g3 (And.intro p1 (And.intro p2 (And.intro p3 p3)))))))
       have sls:=HST7.out.sl
       have j3:(0:Int)<=(k:Int):=by omega
       have j4:(k:Int)<(x2:Nat):=by omega
       have k3:(0:Int)<=(s:Int):=by omega
       have k4:(s:Int)<(sn:Nat):=by have:=HSN.out;omega
       clear g4 g5 hye g1 g2 g3 p1 p2 p3 p4 p5 c1 hs hze
       go_wp2_with fail
       clear hcl
       go_cut [20] (fun u20 wy=>∃ (b20:Nat) (t':Bool) (x' y':Value),u20= .pointer (some ⟨b20,0,none⟩)/\C3 wy b20 (.bool t') x' y'/\zqa wy (.agg #[.bool t',x',y']) (y.q*z)/\Below wq.heap.size wq wy/\wq.heap.size<=b20)
       case first =>
        go_region_held3 (fun w'=>w'.cell? ⟨w.heap.size,1,none⟩=some (.slice sa sn sk)/\w'.cell? (ptr (.slice sa sn sk) (s*3))=some (.bool y.neg)/\w'.cell? (ptr (.slice sa sn sk) (s*3+1))=some (.slice ea1 ea2 ea3)/\w'.cell? (ptr (.slice sa sn sk) (s*3+2))=some (.slice eb1 eb2 eb3)/\w'.cell? (ptr (.slice x1 x2 x3) (k*3))=some (.bool (decide (z<0)))/\w'.cell? (ptr (.slice x1 x2 x3) (k*3+1))=some (.slice za1 za2 za3)/\w'.cell? (ptr (.slice x1 x2 x3) (k*3+2))=some (.slice zb1 zb2 zb3)/\w'.cell? (ptr (.slice x1 x2 x3) (k*3+2))=some (.slice zb1 zb2 zb3)/\Below wq.heap.size wq w') (first
         | with_reducible exact kp8a S0.out (zja _)
         | with_reducible exact kp8w (by assumption) (zca _ _)
         | with_reducible exact kp8w (by assumption) (by assumption)
         | with_reducible exact kp8a S0.out (zaa hB32 (zca _ _))
         | with_reducible exact kp8s S0.out hB32 (zLR _) _ _ _
         | with_reducible exact kp8s S0.out hB32 hB31.size _ _ _
         | with_reducible exact kp8s S0.out (zaa hB32 (zca _ _)) hB32.size _ _ _) (first
         |(go_at_call 131;
           (with_reducible refine(mul_rc _ _ y z _ (HYN.out.below (zhw (by assumption))) (HZC.out.below (zhw (by assumption))) HXO.out HFX.out HPR.out).mono ?_);rintro e32 w32 ⟨v32,rfl,hv32,hb32⟩
           obtain⟨t32,x32,y32,rfl,⟨a321,l321,k321,rfl,_⟩,⟨a322,l322,k322,rfl,_⟩⟩:=hv32.isF
           have hB32:=zaa (zhw (by assumption)) hb32
           have hc6:=(fun(p:Addr) hp=>hb32.cell (p:=p) hp)
           have hf6:=(fun(p:Addr) hp=>hb32.frozen (p:=p) hp)
           have zq2:=hb32.size
           (try simp only[zfk,zvo]at zq2)
           (try have z2:wq.heap.size<w32.heap.size:=(by omega))))
        all_goals
         have hE:=zhw (by assumption)
         go_wp2_with fail
         go_meet
         case rel=>
          first
           | exact⟨_,_,_,_,rfl,C3.new w32 _ _ _ _,hv32.below (zca _ _),hE,hB32.size⟩
           | exact⟨_,_,_,_,rfl,((C3.newB (b:=wq.heap.size) wq.drew 38 (.bool false) (.slice none 0 0) (.slice none 0 0) rfl).belowS hb32).set _ _ _,hv32.set3 ((C3.newB (b:=wq.heap.size) wq.drew 38 (.bool false) (.slice none 0 0) (.slice none 0 0) rfl).belowS hb32) (fun z=>by simp) (fun z=>by simp) _ _ _,hE,zLR _⟩
       case rest=>
        obtain⟨b20,tz,xz,yz,rfl,hC6,hv6,hb6,hbb⟩:=hcut
        obtain⟨W9,hw3⟩:∃w3,w3=wc:=⟨_,rfl⟩
        subst hw3
        have hCR6:=HCR.out.belowS hb6
        have HCR6:=zH hCR6
        have HFR6:=zH (HFR.out.below hb6)
        have HXR6:=zH (HXR.out.below hb6)
        have HB6:=zH (zaa HBR.out hb6)
        have HV6:=zH hv6
        have HFM:Hid (fits (y.q*z)):=HPR
        have HSE:Hid ((sg k fun i=>(qs c.start).getD (l.getD i 0) 0*x i)+y.q*z=sg (k+1) fun i=>(qs c.start).getD (l.getD i 0) 0*x i):=zH (by
         show _=_+(qs c.start).getD (l.getD k 0) 0*x k
         rw[HS.out,HQE.out,HZE.out])
        obtain⟨_,d0,d1,d2,f0,f1,f2⟩:=hCR6
        obtain⟨_,e0,e1,e2,_,_,_⟩:=hC6
        clear hv6 hb6 S0 HCR HFR HXR HBR hbr HYN HZC
        go_wp2_with (first
         |(go_at_call 80;(with_reducible refine(add_can _ _ _ (y.q*z) _ HFR6.out HV6.out HSG.out.1 HFM.out (by rw[HSE.out];exact HSG.out.2)).mono ?_);rw[HSE.out];rintro e8 w8 ⟨v8,rfl,hv8,hb8⟩
           obtain⟨t9,x9,y9,rfl,⟨a91,l91,k91,rfl,_⟩,⟨a92,l92,k92,rfl,_⟩⟩:=hv8.isF
           have hCR9:=HCR6.out.belowS hb8
           have HCR9:=zH hCR9
           have HX9:=zH (HXR6.out.below hb8)
           have HB9:=zH (zaa HB6.out hb8)
           have HV9:=zH hv8
           obtain⟨_,r0,r1,r2,q0,q1,q2⟩:=hCR9
           clear hv8 hb8))
        go_roundg (x2- (k+1))
        case measure=>(have:=HG.out;omega)
        case rel=>
         exact⟨k+1,_,_,_,by omega,rfl,by go_num,HCR9.out.set _ _ _,HV9.out.set3 HCR9.out (fun z=>by simp) (fun z=>by simp) _ _ _,HX9.out.setC3 HCR9.out (fun z=>by simp) (fun z=>by simp) HN9.out _ _ _,zga HB9.out HLB.out _ _ _⟩
      ·obtain rfl:k=x2:=by omega
       obtain⟨_,d0,d1,d2,_,_,_⟩:=HCR.out
       have HR6R:=zH (HR67.out.belowS hbr)
       obtain⟨_,r0,r1,r2,q0,q1,q2⟩:=HR6R.out
       go_wp2_with fail
       refine zoa rfl rfl Tryz.aggF Tryz.sizeF (HR6R.out.set _ _ _) rfl ?_
       refine⟨_,rfl,?_,zga (zaa HB7.out hbr) (Nat.le_succ _) _ _ _⟩
       rw[HM.out]
       exact HFR.out.set3 HR6R.out (fun z=>by simp) (fun z=>by simp) _ _ _
end Go.Proofs.YtlpdkbmmbdfoiaaGreat
