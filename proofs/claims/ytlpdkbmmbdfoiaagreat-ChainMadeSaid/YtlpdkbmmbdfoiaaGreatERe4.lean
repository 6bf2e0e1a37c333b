/- Lemmas. -/
import Derived.Test.YtlpdkbmmbdfoiaaGreatERe3
import Derived.Test.YtlpdkbmmbdfoiaaGreatECs4
set_option linter.unusedVariables false
set_option linter.unusedSimpArgs false
namespace Go.Proofs.YtlpdkbmmbdfoiaaGreat
set_option maxHeartbeats 6400000
open Go.RowKit
def ApR (rs:List Value):Prop:=∀ (i j:Nat) (hi:i<rs.length) (hj:j<rs.length),i≠j->rs[i].ownBlock=none\/rs[i].ownBlock≠rs[j].ownBlock
theorem ApR.push {rs:List Value} {r:Value} {Z:Nat} (h:ApR rs) (h1:∀ (j:Nat) (hj:j<rs.length) g,rs[j].ownBlock=some g->g<Z) (h2:∀g,r.ownBlock=some g->Z<=g):ApR (rs++ [r]):=by
 intro i j hi hj hij
 rw[List.length_append]at hi hj
 simp only[List.length_cons,List.length_nil]at hi hj
 by_cases e1:i<rs.length
 ·rw[List.getElem_append_left e1]
  by_cases e2:j<rs.length
  ·rw[List.getElem_append_left e2];exact h i j e1 e2 hij
  ·obtain rfl:j=rs.length:=by omega
   rw[List.getElem_append_right (by omega)]
   cases hb:rs[i].ownBlock with
   | none=>exact Or.inl rfl
   | some g=>
     refine Or.inr fun e=> ?_
     have k1:=h1 i e1 g hb
     have k2:=h2 g (by simpa using e.symm)
     omega
 ·obtain rfl:i=rs.length:=by omega
  rw[List.getElem_append_right (by omega)]
  have e2:j<rs.length:=by omega
  rw[List.getElem_append_left e2]
  simp only[Nat.sub_self,List.getElem_cons_zero]
  cases hb:r.ownBlock with
  | none=>exact Or.inl rfl
  | some g=>
    refine Or.inr fun e=> ?_
    have k1:=h1 j e2 g e.symm
    have k2:=h2 g hb
    omega
theorem zew (va:Value) (q:Rat) (w:World) (ha:zqa w va q) (hq:fits q):Calls Tryz.prog 116 #[va] w (RF0 w q):=by
 have h:=zmq va (RF.of q) w ha.raw (RF.of_ok hq)
 rw[RF.of_q]at h
 exact h
set_option maxRecDepth 100000 in
theorem rcopied_own (va:Value) (n m:Nat) (A:Mx) (w:World) (ha:zam w va n m A) (hn24:n<=24) (hm24:m<=24) (hf:zau n m A):
 Calls Tryz.prog 213 #[va] w fun e w'=>∃v rs,e= .returned v/\zrj w' w.heap.size v rs n (fun k=>zib m (A k))/\Below w.heap.size w w':=by
 obtain⟨i3,hi3,hz3,hs3,hy3⟩:=info_parts Tryz.infoF
 have hAP:=zpp (P:=Tryz.prog) 25 38 i3 Tryz.underlying25 hi3 hz3 hs3 hy3
 obtain⟨i4,hi4,hz4,hs4,hy4⟩:=info_parts Tryz.infoRow
 have hAR:=zxl (P:=Tryz.prog) 24 25 i4 _ 24 Tryz.underlying24 hi4 hz4 hs4 hy4 (by decide) rfl (fun z=>by simp)
 clear hi3 hz3 hs3 hy3 hi4 hz4 hs4 hy4
 have HOK:=zH hf
 have sa:=ha.sl
 have la:=ha.len
 have HA:=zH ha
 clear ha hf
 go_enter Tryz.func213,Tryz.ntmps213
 go_wp2_with fail
 go_loopg [3,4] (n) (fun g u3 u4 wr=>∃ (i:Nat) (rs:List Value),i<=n/\g=n-i/\u4= .int .i64 i/\rs.length=i/\MkR wr w.heap.size u3 rs m A/\ApR rs/\Below w.heap.size w wr)
 case atStart=>exact⟨0,[],zZL _,rfl,rfl,rfl,⟨zlc.nil _ _ _ _,fun j h=>by simp at h,zLR _⟩,fun i j hi=>by simp at hi,Below.refl _ _⟩
 case round=>
  obtain⟨i,rs,hin,hg,rfl,hrs,hmk,hap,hbr⟩:=hrel
  obtain⟨w2,hw2⟩:∃w2,w2=wr:=⟨_,rfl⟩
  subst hw2
  have HG:=zH hg
  have HRS:=zH hrs
  have HM:=zH hmk
  have HAPR:=zH hap
  have HB2:=zH hbr
  have svr:=hmk.ra.sl
  clear hg hrs hmk hap
  by_cases hir:i<n
  ·have i1:(0:Int)<=(i:Int):=by omega
   have i2:(i:Int)<(n:Nat):=by omega
   go_wp2_with fail
   go_loopg [5,6] (m) (fun g u5 u6 wi=>∃ (k:Nat),k<=m/\g=m-k/\u6= .int .i64 k/\zya wi 38 w2.heap.size u5 (zib k (A i))/\Below w2.heap.size w2 wi)
   case atStart=>exact⟨0,zZL _,rfl,rfl,zya.nil _ _ _,Below.refl _ _⟩
   case round=>
    obtain⟨k,hk,hgk,rfl,hfr,hbi⟩:=hrel
    obtain⟨wb,hwb⟩:∃wb,wb=wr:=⟨_,rfl⟩
    subst hwb
    have HGK:=zH hgk
    have HFR:=zH hfr
    have HBI:=zH hbi
    have srow:=hfr.sl
    obtain⟨r,hcr,hfr2⟩:=(HA.out.below (HB2.out.trans (hbi.mono HB2.out.size))).row i hir
    have slr:=hfr2.sl
    have lnr:slen r=m:=by rw[hfr2.len,zea]
    obtain⟨r1,r2,r3,rfl,_⟩:=id slr
    obtain rfl:r2=m:=lnr
    clear hgk hfr
    by_cases hkn:k<r2
    ·obtain⟨ts,as1,ls1,ks1,as2,ls2,ks2,g1,g2,g3,hfs⟩:=hfr2.cellsAt (k:=k) (by rw[zea];exact hkn)
     rw[zuv hkn]at hfs
     have HF:=zH hfs
     have HX:=zH (HOK.out i k hir hkn)
     have hrl:(zib k (A i)).length<=1000:=by rw[zea];omega
     have k1:(0:Int)<=(k:Int):=by omega
     have k2:(k:Int)<(r2:Nat):=by omega
     clear hfs hfr2 hbi
     go_wp2_with (first
      |(go_at_call 116;(with_reducible refine(zew _ (A i k) _ HF.out HX.out).mono ?_);rintro e13 w13 ⟨v13,rfl,hv13,hb13⟩
        obtain⟨t13,x13,y13,rfl,⟨a131,l131,k131,rfl,q131⟩,⟨a132,l132,k132,rfl,q132⟩⟩:=hv13.isF
        have hba:=zca w13 (.cells #[.bool t13, .slice a131 l131 k131, .slice a132 l132 k132] 38)
        have hb14:=zaa hb13 hba
        have hv14:=hv13.below hba
        have hfr5:=HFR.out.moves (zhb.below (B:=w2.heap.size) hb14) (zLR _)
        have hsz5:=zLT HBI.out.size hb14.size
        have sz1:(w13.alloc (.cells #[.bool t13, .slice a131 l131 k131, .slice a132 l132 k132] 38)).heap.size=w13.heap.size+1:=(by simp)
        have SZ1:=zH sz1
        obtain⟨_,c0,c1,c2,_,_,_⟩:=C3.new w13 38 (.bool t13) (.slice a131 l131 k131) (.slice a132 l132 k132)
        clear sz1)
      |(at_builtin;refine hAP (w13.alloc (.cells #[.bool t13, .slice a131 l131 k131, .slice a132 l132 k132] 38)) rfl _ _ rfl w2.heap.size _ u5 (zib k (A i)) rfl hfr5 _ _ _ (A i k) hv14 (by rw[SZ1.out];rfl) hrl hsz5 ?_;intro v4' w50 ho50 hg50 hn50 hq50 sv50
        have hg5:Below w2.heap.size (w13.alloc (.cells #[.bool t13, .slice a131 l131 k131, .slice a132 l132 k132] 38)) w50:=zna hg50 hsz5 (fun k hk=>(hfr5.block k hk).1)
        have HO50:=zH ho50))
     go_roundg (r2- (k+1))
     case measure=>(have:=HGK.out;omega)
     case rel=>exact⟨k+1,by omega,rfl,by go_num,by rw[<-zlk];exact HO50.out,(zfa HBI.out hb14 HBI.out.size).trans hg5⟩
    ·obtain rfl:r2=k:=by omega
     obtain⟨a11,l11,k11,rfl,_⟩:=id srow
     have hm5:=HM.out.below hbi
     have hra:=hm5.ra
     have hsz5:=hm5.sz
     have hlen:rs.length<=1000:=by rw[HRS.out];omega
     have HM5:=zH hm5
     have HAP2:Hid (ApR (rs++ [.slice a11 l11 k11])):=zH (HAPR.out.push (Z:=w2.heap.size) (fun j hj g hg=>((HM.out.rows j hj).block g hg).2) (fun g hg=>(HFR.out.block g hg).1))
     have HR5:Hid (zya wb 38 w.heap.size (.slice a11 l11 k11) (zib r2 (A rs.length))):=zH (by rw[HRS.out];exact HFR.out.mono HB2.out.size)
     clear hm5
     go_wp2_with (first
      |(at_builtin;refine hAR _ rfl _ _ rfl w.heap.size _ u3 rs rfl hra (.slice a11 l11 k11) rfl (fun z=>by simp) rfl hlen hsz5 ?_;intro v5' w21 ho21 hg21 hn21 hq21 sv21
        have hG:=HM5.out.push HR5.out ho21 hg21 hn21
        have HG5:=zH hG
        clear hG))
     go_roundg (n- (i+1))
     case measure=>(have:=HG.out;omega)
     case rel=>exact⟨i+1,_,by omega,rfl,by go_num,by rw[List.length_append,HRS.out];rfl,HG5.out.1,HAP2.out,(zfa HB2.out hbi HB2.out.size).trans HG5.out.2⟩
  ·obtain rfl:n=i:=by omega
   go_wp2_with fail
   go_ret
   refine⟨_,rs,rfl,⟨?_,HM.out.rows,HAPR.out⟩,hbr⟩
   have h:=HM.out.ra
   rw[HRS.out]at h
   exact h
theorem zrj.rtab {w:World} {B n m:Nat} {v:Value} {rs:List Value} {M:Mx} (h:zrj w B v rs n (fun k=>zib m (M k))) (np:0<n) (mp:0<m):ztv w B w.heap.size v rs n m M:=by
 have hl:=h.rl
 have hb:∀ (i:Nat) (hi:i<rs.length),∃g,rs[i].ownBlock=some g/\(base rs[i]).block=g/\g<w.heap.size:=fun i hi=>by
  obtain⟨g,h1,h2,_,h3,_⟩:=(h.row i hi).blk (by rw[zea];exact mp)
  exact⟨g,h1,h2,h3⟩
 obtain⟨g,_,k2,_,k3,_⟩:=h.own.blk (by omega)
 refine⟨by rw[hl];exact h.own,hl,np,mp,h.row,fun i j hi hj hij=> ?_,by omega,fun i hi=> ?_,zLR _⟩
 ·obtain⟨g1,e1,_,_⟩:=hb i hi
  rcases h.ap i j hi hj hij with e | e
  ·rw[e1]at e;cases e
  ·exact e
 ·obtain⟨g1,_,e2,e3⟩:=hb i hi
  omega
theorem beside_row (n:Nat) (A:Mx) (b:Nat->Rat) (i:Nat):zib n (A i)++ [b i]=zib (n+1) (zpa n A (fun i _=>b i) i):=by
 rw[<-zlk]
 have e1:zib n (A i)=zib n (zpa n A (fun i _=>b i) i):=zdf fun j hj=>by unfold zpa;rw[if_pos hj]
 have e2:zpa n A (fun i _=>b i) i n=b i:=by unfold zpa;rw[if_neg (Nat.lt_irrefl n)]
 rw[e1,e2]
set_option maxRecDepth 100000 in
theorem rsolve_reg (va vb:Value) (n:Nat) (A:Mx) (b:Nat->Rat) (w:World) (ha:zam w va n n A) (hb:zbb w vb (zib n b)) (hn1:1<=n) (hn:n<=20) (hf:zau n n A) (hfb:∀i,i<n->fits (b i)) (hw:wtF n n A+wts (qs (zmu n b))<=1900)
 (hreg:(elim false n (zpa n A (fun i _=>b i)) n).r=n) (hs:slimR n (n+1) (zpa n A (fun i _=>b i))):
 Calls Tryz.prog 182 #[va,vb] w (RSolve w n (elim false n (zpa n A (fun i _=>b i)) n)):=by
 obtain⟨i3,hi3,hz3,hs3,hy3⟩:=info_parts Tryz.infoF
 have hAP:=fun{ops:Array Oper} {o:Oper} {a:Act} {w:World} {K:Act->World->Prop} {Q:Exit->Act->World->Prop} {E:Prop}=>zcg (P:=Tryz.prog) 25 38 i3 Tryz.underlying25 hi3 hz3 hs3 hy3 (ops:=ops) (o:=o) (a:=a) (w:=w) (K:=K) (Q:=Q) (E:=E)
 have hA1:=zpp (P:=Tryz.prog) 25 38 i3 Tryz.underlying25 hi3 hz3 hs3 hy3
 clear hi3 hz3 hs3 hy3
 obtain⟨M,hM⟩:∃M,zpa n A (fun i _=>b i)=M:=⟨_,rfl⟩
 have HROW:Hid (∀i,zib n (A i)++ [b i]=zib (n+1) (M i)):=zH (fun i=>by rw[<-hM];exact beside_row n A b i)
 rw[hM]at hreg hs |-
 have HREG:=zH hreg
 have HSL:=zH hs
 have HSH:Hid (∀w0,zam w0 va n n A->Calls Tryz.prog 211 #[va] w0 fun e w'=>e= .returned (.tuple #[.int .i64 n, .int .i64 n, .bool true])/\Below w0.heap.size w0 w'):=zH (fun w0 k=>rshape_ok va (rawM n n A) n n w0 k.raw (zls hn1 (by omega) hn1 (by omega) hf) (zpc _ _ _) (zth hn1))
 have HWT:Hid (∀w0,zam w0 va n n A->Calls Tryz.prog 174 #[va] w0 fun e w'=>e= .returned (.int .i64 (wtF n n A:Nat))/\Below w0.heap.size w0 w'):=zH (fun w0 k=>zjv va n A w0 k hf hn1 (by omega))
 have hv:vecP (zmu n b) n:=⟨zpw hfb,zrk n b⟩
 have HVC:Hid (∀w0 v,zbb w0 v (zib n b)->Calls Tryz.prog 212 #[v, .int .i64 n] w0 fun e w'=>e= .returned (.bool true)/\Below w0.heap.size w0 w'):=zH (fun w0 v h=>(zlv _ (zmu n b) n w0 h.raw).mono fun e w' h=>by rw[decide_eq_true hv]at h;exact h)
 have HWV:Hid (∀w0 v,zbb w0 v (zib n b)->Calls Tryz.prog 175 #[v] w0 fun e w'=>e= .returned (.int .i64 (wts (qs (zmu n b)):Nat))/\Below w0.heap.size w0 w'):=zH (fun w0 v h=>zvr v (zmu n b) w0 h.raw hv.1 (by rw[zrk];omega))
 have HCP:Hid (∀w0,zam w0 va n n A->Calls Tryz.prog 213 #[va] w0 fun e w'=>∃v rs,e= .returned v/\zrj w' w0.heap.size v rs n (fun k=>zib n (A k))/\Below w0.heap.size w0 w'):=zH (fun w0 k=>rcopied_own va n n A w0 k (by omega) (by omega) hf)
 obtain⟨W1,hW1⟩:∃W,wtF n n A=W:=⟨_,rfl⟩
 obtain⟨W2,hW2⟩:∃W,wts (qs (zmu n b))=W:=⟨_,rfl⟩
 rw[hW1,hW2]at hw
 rw[hW1]at HWT
 rw[hW2]at HWV
 have hwi:¬ (1900:Int)<(W1:Int)+(W2:Int):=by omega
 have sa:=ha.sl
 have la:=ha.len
 obtain⟨v1,v2,v3,rfl,_⟩:=id hb.sl
 have sb:=hb.sl
 have hv2:v2=n:=by have h:=hb.len;rw[zea]at h;exact h
 subst hv2
 have HA:=zH ha
 have HBV:=zH hb
 have HFB:=zH hfb
 have inn:((v2:Int) != (v2:Int))=false:=by simp
 clear ha hb hW1 hW2 hv hf hfb hw hM hreg hs
 go_enter Tryz.func182,Tryz.ntmps182
 go_wp2_with (first
  |(go_at_call 211;(with_reducible refine(HSH.out _ HA.out).mono ?_);rintro e1 w1 ⟨rfl,hb1⟩
    have HA1:=zH (HA.out.below hb1)
    have HV1:=zH (HBV.out.below hb1))
  |(go_at_call 212;(with_reducible refine(HVC.out _ _ HV1.out).mono ?_);rintro e2 w2 ⟨rfl,hb2⟩
    have HA2:=zH (HA1.out.below hb2)
    have HV2:=zH (HV1.out.below hb2))
  |(go_at_call 174;(with_reducible refine(HWT.out _ HA2.out).mono ?_);rintro e3 w3 ⟨rfl,hb3⟩
    have HA3:=zH (HA2.out.below hb3)
    have HV3:=zH (HV2.out.below hb3))
  |(go_at_call 175;(with_reducible refine(HWV.out _ _ HV3.out).mono ?_);rintro e4 w4 ⟨rfl,hb4⟩
    have HA4:=zH (HA3.out.below hb4)
    have HV4:=zH (HV3.out.below hb4)
    have HB4:=zH (zaa (zaa (zaa hb1 hb2) hb3) hb4)
    clear hb1 hb2 hb3 hb4)
  |(go_at_call 213;(with_reducible refine(HCP.out _ HA4.out).mono ?_);rintro e5 w5 ⟨v5,rs5,rfl,ho5,hb5⟩
    have HO5:=zH ho5
    have HB5:=zH hb5
    clear ho5 hb5))
 obtain⟨B,hBd⟩:∃B,w4.heap.size=B:=⟨_,rfl⟩
 rw[hBd]at HO5 HB5
 have HBD:=zH hBd
 clear hBd
 go_loopg [10] (v2) (fun g u10 wr=>∃ (i:Nat) (rs:List Value),i<=v2/\g=v2-i/\u10= .int .i64 i/\zrj wr B v5 rs v2 (fun k=>if k<i then zib (v2+1) (M k)else zib v2 (A k))/\Below B w4 wr)
 case atStart=>exact⟨0,rs5,zZL _,rfl,rfl,HO5.out.congr (fun i hi=>by rw[if_neg (Nat.not_lt_zero i)]),HB5.out⟩
 case round=>
  obtain⟨i,rs,hi,hg,rfl,hT,hbr⟩:=hrel
  obtain⟨w6,hw6⟩:∃w6,w6=wr:=⟨_,rfl⟩
  subst hw6
  have HG:=zH hg
  have HT:=zH hT
  have HBR:=zH hbr
  have hBB:B<=w6.heap.size:=by have:=hbr.size;have:=HBD.out;omega
  have HBB:=zH hBB
  have hBw:=zfa HB4.out (by rw[HBD.out];exact hbr) HB4.out.size
  have sv5:zgc v5:=hT.own.sl
  have lv5:slen v5=v2:=hT.own.len
  clear hg HO5 HB5
  by_cases hi1:i<v2
  ·have hir:i<rs.length:=by have:=hT.rl;omega
   have hc:=hT.own.cell i hir
   obtain⟨r1,r2,r3,hre,_⟩:=(hT.row i hir).sl
   rw[hre]at hc
   have HRE:=zH hre
   obtain⟨ts,as1,ls1,ks1,as2,ls2,ks2,g1,g2,g3,hfs⟩:=(HV4.out.below (by rw[HBD.out];exact hbr)).cellsAt (k:=i) (by rw[zea];exact hi1)
   rw[zuv hi1]at hfs
   have HE:=zH hfs
   have HFI:=zH (HFB.out i hi1)
   have HRI:=zH (HROW.out i)
   obtain⟨q,hq⟩:∃q,b i=q:=⟨_,rfl⟩
   rw[hq]at HE HFI HRI
   have j1:(0:Int)<=(i:Int):=by omega
   have j2:(i:Int)<(v2:Nat):=by omega
   clear hfs hT hbr hBw hq hre
   go_wp2_with (go_at_call 116;(with_reducible refine(zew _ q _ HE.out HFI.out).mono ?_);rintro e13 w13 ⟨v13,rfl,hv13,hb13⟩
                obtain⟨t13,x13,y13,rfl,⟨a131,l131,k131,rfl,q131⟩,⟨a132,l132,k132,rfl,q132⟩⟩:=hv13.isF
                have hba:=zca w13 (.cells #[.bool t13, .slice a131 l131 k131, .slice a132 l132 k132] 38)
                have hb14:=zaa hb13 hba
                have HV14:=zH (hv13.below hba)
                have HC14:=zH (C3.new w13 38 (.bool t13) (.slice a131 l131 k131) (.slice a132 l132 k132))
                have HT14:=zH (HT.out.below hb14)
                have HB14:=zH (zfa HBR.out hb14 HBB.out)
                have HZ14:=zH (zLT HBB.out hb14.size)
                have hc14:=zba hb14 hc
                obtain⟨_,c0,c1,c2,_,_,_⟩:=HC14.out
                clear hb13 hba hb14 hv13 g1 g2 g3 hc)
   obtain⟨b11,hb11⟩:∃b,w13.heap.size=b:=⟨_,rfl⟩
   rw[hb11]at HC14 c0 c1 c2
   rw[hb11]
   clear hb11
   generalize w13.alloc (.cells #[.bool t13, .slice a131 l131 k131, .slice a132 l132 k132] 38)=w7 at *
   have hbD:=zja (B:=w7.heap.size) w7
   refine wpL.start 8 (fun w'=>w'.cell? (ptr v5 i)=some (.slice r1 r2 r3)/\w'.cell? ⟨b11,0,none⟩=some (.bool t13)/\w'.cell? ⟨b11,1,none⟩=some (.slice a131 l131 k131)/\w'.cell? ⟨b11,2,none⟩=some (.slice a132 l132 k132)) (by kernel_rfl) ⟨zba hbD hc14,zba hbD c0,zba hbD c1,zba hbD c2⟩ (fun hHeld=> ?_)
   generalize w7.drew=w7d at *
   refine wpL.u 0 ?_
   refine wpL.u 1 ?_
   refine wpL.t 2 ?_
   refine wpL.t 3 ?_
   refine wpL.t 4 ?_
   refine wpL.t 5 ?_
   refine wpL.t 6 ?_
   (refine wpL.oo 7 ?_;intro K hK)
   rw[if_pos (by rfl)]
   go_simp
   have hb8:=zca w7d (.cells #[.bool t13, .slice a131 l131 k131, .slice a132 l132 k132] 38)
   have hVB:=zjf.new w7d #[.bool t13, .slice a131 l131 k131, .slice a132 l132 k132] 38
   have hc8:=zba hb8 hHeld.1
   refine hK.out _ _ (fun _=>⟨hc8,zba hb8 hHeld.2.1,zba hb8 hHeld.2.2.1,zba hb8 hHeld.2.2.2⟩) ?_
   clear hK K hHeld c0 c1 c2 hc14
   try simp only[Act.put,List.setIfInBounds_toArray,List.set_cons_zero,List.set_cons_succ]
   have hv8:=(HV14.out.below hbD).below hb8
   have hT8:=(HT14.out.below hbD).below hb8
   have hB7:B<=w7.heap.size:=HZ14.out
   have hB8:=zfa (zfa HB14.out hbD hB7) hb8 (zLT hB7 hbD.size)
   have hsz8:B<=(w7d.alloc (.cells #[.bool t13, .slice a131 l131 k131, .slice a132 l132 k132] 38)).heap.size:=zLT (zLT hB7 hbD.size) hb8.size
   generalize hw9:w7d.alloc (.cells #[.bool t13, .slice a131 l131 k131, .slice a132 l132 k132] 38)=w9 at *
   clear hw9
   have hir:i<rs.length:=by have:=hT8.rl;omega
   have hro:=hT8.row i hir
   rw[HRE.out,if_neg (Nat.lt_irrefl i)]at hro
   have hlen9:(zib v2 (A i)).length<=1000:=by rw[zea];omega
   (refine wpL.oo 8 ?_;intro K hK)
   refine hAP rfl _ _ (by rfl) B (.slice r1 r2 r3) (zib v2 (A i)) (by rfl) hro (.bool t13) (.slice a131 l131 k131) (.slice a132 l132 k132) q hv8 w7d.heap.size (by rfl) hVB hlen9 hsz8 ?_
   intro v10 w10 hf10 hg10 hn10 ho10
   obtain⟨y1,y2,y3,rfl,_⟩:=id hf10.sl
   refine hK.out _ _ (fun h=>by first | cases h | simp at h) ?_
   clear hK K
   try simp only[Act.put,List.setIfInBounds_toArray,List.set_cons_zero,List.set_cons_succ]
   have hnO:v5.ownBlock=none\/v5.ownBlock≠(Value.slice r1 r2 r3).ownBlock:=by
    obtain⟨ys,y1,y2⟩:=hro
    exact hT8.own.kinds y1 (by decide)
   have hown10:=hT8.own.grown hg10 hnO
   have c10:w10.cell? (ptr v5 i)=some (.slice r1 r2 r3):=by rw[hown10.cell i hir,HRE.out]
   have f10:=hown10.frozen i hir
   have hset:=hT8.set hir hsz8 hf10 (by rw[HRE.out];exact hg10) (by rw[HRE.out];exact hn10) (by rw[HRE.out];exact ho10)
   have HSET:=zH hset.1
   have HBP:=zH (hB8.trans hset.2)
   clear hset hnO hown10 hT8 hro hf10 hg10 hn10 ho10 hB8 hb8 hbD hv8 hVB hc8 hir
   (refine wpL.oo 9 ?_;intro K hK)
   rw[if_pos (by rfl)]
   go_simp
   refine hK.out _ _ (fun h=>by first | cases h | simp at h) ?_
   clear hK K
   try simp only[Act.put,List.setIfInBounds_toArray,List.set_cons_zero,List.set_cons_succ]
   (refine wpL.oo 10 ?_;intro K hK)
   rw[if_pos (by rfl)]
   go_simp
   refine hK.out _ _ (fun h=>by first | cases h | simp at h) ?_
   clear hK K c10 f10
   refine wpL.done (by kernel_rfl) ?_ _
   go_wp2_with fail
   go_roundg (v2- (i+1))
   case measure=>(have:=HG.out;omega)
   case rel=>
    refine⟨i+1,_,by omega,rfl,by go_num,HSET.out.congr (fun k hk=> ?_),HBP.out⟩
    by_cases h1:k=i
    ·subst h1;rw[if_pos rfl,if_pos (Nat.lt_succ_self k),HRI.out]
    ·rw[if_neg h1]
     by_cases h2:k<i
     ·rw[if_pos h2,if_pos (by omega)]
     ·rw[if_neg h2,if_neg (by omega)]
  ·obtain rfl:i=v2:=by omega
   have HRT:Hid (ztv w6 B w6.heap.size v5 rs i (i+1) M):=zH ((hT.congr (fun k hk=>by rw[if_pos hk])).rtab (by omega) (by omega))
   clear hT hbr hBw
   have ilt:¬ (i:Int)<(i:Int):=by omega
   go_wp2_with (go_at_call 214;(with_reducible refine(relim_any v5 rs B i (i+1) M _ HRT.out (by omega) (by omega) (by omega) HREG.out HSL.out).mono ?_);rintro e14 w14 ⟨d14,rs14,rfl,hd14,ht14,hb14⟩
                obtain⟨t4,x4,y4,rfl,⟨a41,l41,k41,rfl,_⟩,⟨a42,l42,k42,rfl,_⟩⟩:=hd14
                have hba:=zca w14 (.cells #[.bool t4, .slice a41 l41 k41, .slice a42 l42 k42] 38)
                have HT14:=zH (ht14.below hba)
                have HB14:=zH (zfa (HBR.out.trans hb14) hba (zLT HBB.out hb14.size))
                clear hba hb14 ht14)
   generalize w14.alloc (.cells #[.bool t4, .slice a41 l41 k41, .slice a42 l42 k42] 38)=w15 at *
   go_loopg [15,16] (i) (fun g u15 u16 wr=>∃ (k:Nat),k<=i/\g=i-k/\u16= .int .i64 k/\zya wr 38 w15.heap.size u15 (zib k (fun k=>rT i M i k i))/\Below w15.heap.size w15 wr)
   case atStart=>exact⟨0,zZL _,rfl,rfl,zya.nil _ _ _,Below.refl _ _⟩
   case round=>
    obtain⟨k,hk,hg,rfl,hfr,hbr⟩:=hrel
    obtain⟨w16,hw16⟩:∃w16,w16=wr:=⟨_,rfl⟩
    subst hw16
    have HG2:=zH hg
    have HFR2:=zH hfr
    have HBR2:=zH hbr
    have srow:=hfr.sl
    clear hg hfr
    by_cases hk2:k<i
    ·have hT16:=HT14.out.below hbr
     have hkr:k<rs14.length:=by have:=hT16.rl;omega
     have hc:=hT16.own.cell k hkr
     have srr:=(hT16.row k hkr).sl
     have lrr:slen rs14[k]=i+1:=by rw[(hT16.row k hkr).fracs.len,zea]
     obtain⟨ea,eb,g1,g2,g3,g4,g5⟩:=hT16.elem (i:=k) (j:=i) hkr (by omega)
     have hfr16:=HFR2.out
     have hrl:(zib k (fun k=>rT i M i k i)).length<=1000:=by rw[zea];omega
     obtain⟨x,hx⟩:∃x,rT i M i k i=x:=⟨_,rfl⟩
     have HX:=zH hx
     rw[hx]at g1 g4 g5
     obtain⟨ea1,ea2,ea3,rfl,_⟩:=g4.v.sl
     obtain⟨eb1,eb2,eb3,rfl,_⟩:=g5.v.sl
     have hv16:zqa w16 (.agg #[.bool (decide (x<0)), .slice ea1 ea2 ea3, .slice eb1 eb2 eb3]) x:=⟨_,_,rfl,g4,g5⟩
     have hsz16:w15.heap.size<=w16.heap.size:=hbr.size
     generalize rs14[k]=ck at *
     have j1:(0:Int)<=(k:Int):=by omega
     have j2:(k:Int)<(i:Nat):=by omega
     have j3:(i:Int)<((i+1:Nat):Int):=by omega
     have j4:(0:Int)<=(i:Int):=by omega
     clear g4 g5 hT16 hbr hx hkr
     go_wp2_with (first
      |(at_builtin;refine hA1 w16 rfl _ _ rfl w15.heap.size _ u15 (zib k (fun k=>rT i M i k i)) rfl hfr16 _ _ _ x hv16 rfl hrl hsz16 ?_;intro v17 w17 ho17 hg17 hn17 hq17 sv17
        have hg5:Below w15.heap.size w16 w17:=zna hg17 hsz16 (fun k hk=>(hfr16.block k hk).1)
        have HO17:=zH ho17
        have HB17:=zH (HBR2.out.trans hg5)))
     go_roundg (i- (k+1))
     case measure=>(have:=HG2.out;omega)
     case rel=>exact⟨k+1,by omega,rfl,by go_num,by rw[<-zlk,HX.out];exact HO17.out,HB17.out⟩
    ·obtain rfl:k=i:=by omega
     go_wp2_with fail
     go_ret2
     refine⟨_,0,rfl,?_,fun h=>absurd HREG.out (by omega),fun _=>⟨rfl,?_⟩⟩
     ·exact zfa (zfa HB4.out (by rw[HBD.out];exact HB14.out) HB4.out.size) HBR2.out (zLT HB4.out.size HB14.out.size)
     ·have h:=HFR2.out.fracs
      have e:zib k (fun j=>rT k M k j k)=zib k (fun j=>(elim false k M k).A j k/(elim false k M k).A j j):=zdf fun j hj=>by unfold rT;rw[if_pos hj]
      rw[e]at h
      exact h
end Go.Proofs.YtlpdkbmmbdfoiaaGreat
