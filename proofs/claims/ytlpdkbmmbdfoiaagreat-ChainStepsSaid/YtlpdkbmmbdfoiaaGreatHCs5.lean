/-
  package drydockref21: Step, whatever the rate and the vector.
-/
import Derived.Test.YtlpdkbmmbdfoiaaGreatHCs3
import Derived.Test.YtlpdkbmmbdfoiaaGreatHRg4
set_option linter.unusedVariables false
set_option linter.unusedSimpArgs false
namespace Go.Proofs.YtlpdkbmmbdfoiaaGreat
set_option maxHeartbeats 3200000
open Go.RowKit
theorem zfr.not {s:Bool} {n d:Nat} (h:¬zfr s n d) (ho:okN n d):¬0<fq s n d:=by
 by_cases hn:n=0
 ·rw[hn,zdv];exact Rat.lt_irrefl
 ·cases s
  ·exact absurd ⟨ho,rfl,hn⟩ h
  ·intro h0
   have h1:=zqu true n d ho.1
   have h2:0<n/Nat.gcd n d:=Nat.div_pos (Nat.le_of_dvd (Nat.pos_of_ne_zero hn) (Nat.gcd_dvd_left n d)) (Nat.gcd_pos_of_pos_left _ (Nat.pos_of_ne_zero hn))
   rw[decide_eq_true h2]at h1
   have h3:fq true n d<0:=of_decide_eq_true h1
   exact absurd h0 (Rat.not_lt.2 (Rat.le_of_lt h3))
set_option maxRecDepth 100000 in
theorem zkq (vx:Value) (t1:Bool) (nr dr:Nat) (b:Bool) (w:World) (hx:zdc w vx t1 nr dr) (hb:b=true↔zfr t1 nr dr):
 Calls Tryz.prog 115 #[vx] w (fun e w'=>e= .returned (.bool b)∧Below w.heap.size w w'):=by
 by_cases hp:zfr t1 nr dr
 ·obtain rfl:b=true:=hb.2 hp
  have HF:=zH hp.1
  obtain⟨z,hz⟩:∃z,zsr (fq t1 nr dr) 0=z:=⟨_,rfl⟩
  have hz0:0<z:=by rw[←hz,cmpR_gt];exact hp.q
  have HZ:=zH hz
  clear hz hp hb
  obtain⟨x1,y1,rfl,hx4,hx5⟩:=id hx
  obtain⟨a11,l11,k11,rfl,_⟩:=hx4.slen.1
  obtain⟨a12,l12,k12,rfl,_⟩:=hx5.slen.1
  have hb2:=zca w (.cells #[.bool t1, .slice a11 l11 k11, .slice a12 l12 k12] 38)
  have HR:=zH (C3.new w 38 (.bool t1) (.slice a11 l11 k11) (.slice a12 l12 k12))
  have HX:=zH (hx.below hb2)
  have HB:=zH hb2
  clear hx hx4 hx5 hb2
  go_enter Tryz.func115,Tryz.ntmps115
  go_upto_region 1 with fail
  generalize w.alloc (.cells #[.bool t1, .slice a11 l11 k11, .slice a12 l12 k12] 38)=W2 at *
  obtain⟨_,d0,d1,d2,_,_,_⟩:=HR.out
  go_wp2_with (first
   |(go_at_call 49;(with_reducible refine(zlm _ _ _ _ _ HX.out HF.out).mono ?_);rintro e1 w1 ⟨rfl,hb1⟩
     clear d0 d1 d2
     obtain⟨_,d0,d1,d2,_,_,_⟩:=HR.out.belowS hb1
     have HX1:=zH (HX.out.below hb1)
     have HB1:=zH (zaa HB.out hb1)
     clear hb1)
   |(go_at_call 34;(with_reducible refine(zns _ t1 nr dr _ HX1.out HF.out).mono ?_);rw[HZ.out];rintro e2 w2 ⟨rfl,hb2⟩
     have HB2:=zH (zaa HB1.out hb2)))
  go_ret
  exact⟨rfl,HB2.out⟩
 ·obtain rfl:b=false:=by cases b;rfl;exact absurd (hb.1 rfl) hp
  by_cases hf:okN nr dr
  ·have HF:=zH hf
   obtain⟨z,hz⟩:∃z,zsr (fq t1 nr dr) 0=z:=⟨_,rfl⟩
   have hz0:¬0<z:=by rw[←hz,cmpR_gt];exact zfr.not hp hf
   have hdz:decide (0<z)=false:=decide_eq_false hz0
   have HZ:=zH hz
   clear hz hp hb hf
   obtain⟨x1,y1,rfl,hx4,hx5⟩:=id hx
   obtain⟨a11,l11,k11,rfl,_⟩:=hx4.slen.1
   obtain⟨a12,l12,k12,rfl,_⟩:=hx5.slen.1
   have hb2:=zca w (.cells #[.bool t1, .slice a11 l11 k11, .slice a12 l12 k12] 38)
   have HR:=zH (C3.new w 38 (.bool t1) (.slice a11 l11 k11) (.slice a12 l12 k12))
   have HX:=zH (hx.below hb2)
   have HB:=zH hb2
   clear hx hx4 hx5 hb2
   go_enter Tryz.func115,Tryz.ntmps115
   go_upto_region 1 with fail
   generalize w.alloc (.cells #[.bool t1, .slice a11 l11 k11, .slice a12 l12 k12] 38)=W2 at *
   obtain⟨_,d0,d1,d2,_,_,_⟩:=HR.out
   go_wp2_with (first
    |(go_at_call 49;(with_reducible refine(zlm _ _ _ _ _ HX.out HF.out).mono ?_);rintro e1 w1 ⟨rfl,hb1⟩
      clear d0 d1 d2
      obtain⟨_,d0,d1,d2,_,_,_⟩:=HR.out.belowS hb1
      have HX1:=zH (HX.out.below hb1)
      have HB1:=zH (zaa HB.out hb1)
      clear hb1)
    |(go_at_call 34;(with_reducible refine(zns _ t1 nr dr _ HX1.out HF.out).mono ?_);rw[HZ.out];rintro e2 w2 ⟨rfl,hb2⟩
      have HB2:=zH (zaa HB1.out hb2)))
   go_ret
   exact⟨rfl,HB2.out⟩
  ·have HF:=zH hf
   clear hp hb hf
   obtain⟨x1,y1,rfl,hx4,hx5⟩:=id hx
   obtain⟨a11,l11,k11,rfl,_⟩:=hx4.slen.1
   obtain⟨a12,l12,k12,rfl,_⟩:=hx5.slen.1
   have hb2:=zca w (.cells #[.bool t1, .slice a11 l11 k11, .slice a12 l12 k12] 38)
   have HR:=zH (C3.new w 38 (.bool t1) (.slice a11 l11 k11) (.slice a12 l12 k12))
   have HX:=zH (hx.below hb2)
   have HB:=zH hb2
   clear hx hx4 hx5 hb2
   go_enter Tryz.func115,Tryz.ntmps115
   go_upto_region 1 with fail
   generalize w.alloc (.cells #[.bool t1, .slice a11 l11 k11, .slice a12 l12 k12] 38)=W2 at *
   obtain⟨_,d0,d1,d2,_,_,_⟩:=HR.out
   go_wp2_with (first
    |(go_at_call 49;(with_reducible refine(zms _ _ _ _ _ HX.out HF.out).mono ?_);rintro e1 w1 ⟨rfl,hb1⟩
      have HB1:=zH (zaa HB.out hb1)
      clear hb1))
   go_ret
   exact⟨rfl,HB1.out⟩
theorem rowL_at {n:Nat} {f:Nat→Rat} {i:Nat} (h:i<n):(zib n f).getD i 0=f i:=by
 have h2:i<(zib n f).length:=by rw[zea];exact h
 rw[List.getD_eq_getElem?_getD,List.getElem?_eq_getElem h2,Option.getD_some,ztb]
theorem qs_getD (row:List RF) (i:Nat):(qs row).getD i 0=(row.getD i rf0).q:=by
 by_cases h:i<row.length
 ·have h2:i<(qs row).length:=by rw[zgq];exact h
  rw[List.getD_eq_getElem?_getD,List.getElem?_eq_getElem h2,Option.getD_some,zqt _ _ h,List.getD_eq_getElem?_getD,List.getElem?_eq_getElem h,Option.getD_some]
 ·have h2:¬i<(qs row).length:=by rw[zgq];exact h
  rw[List.getD_eq_getElem?_getD,List.getElem?_eq_none (by omega),List.getD_eq_getElem?_getD,List.getElem?_eq_none (by omega)]
  exact(fq_zero false 1 (by decide)).symm
theorem rweights_mat (va:Value) (n:Nat) (A:Mx) (w:World) (ha:zam w va n n A) (hf:zau n n A) (h1:1≤n) (h24:n≤24):
 Calls Tryz.prog 174 #[va] w fun e w'=>e= .returned (.int .i64 (wtF n n A:Nat))∧Below w.heap.size w w':=
 rweights_any va (rawM n n A) w ha.raw (zls h1 h24 h1 h24 hf)
theorem rdot_col (vu vv:Value) (n:Nat) (f:Nat→Rat) (row:List RF) (w:World) (hu:zbb w vu (zib n f)) (hv:zni w vv row) (hl:row.length=n) (hn:n≤1000) (hf:∀k,k<n→fits (f k)) (hok:∀x∈row,x.ok)
 (hp:∀k,k<n→fits ((qs row).getD k 0*f k)) (hs:∀k,k≤n→fits (sg k fun i=>(qs row).getD i 0*f i)):
 Calls Tryz.prog 176 #[vu,vv] w (RF1 w (sg n fun i=>(qs row).getD i 0*f i)):=by
 have e1:(zib n f).map RF.of=rowF n fun k=>RF.of (f k):=by unfold zib rowF;rw[List.map_map];rfl
 have e2:row=rowF n fun k=>row.getD k rf0:=by rw[←hl];exact(rowF_of row).symm
 have h2:∀i,(RF.of (f i)).q*(row.getD i rf0).q=(qs row).getD i 0*f i:=fun i=>by rw[RF.of_q,qs_getD,Rat.mul_comm]
 have hu2:=hu.raw
 rw[e1]at hu2
 have hv2:zni w vv (rowF n fun k=>row.getD k rf0):=by rw[←e2];exact hv
 have h:=rdot_raw vu vv n (fun k=>RF.of (f k)) (fun k=>row.getD k rf0) w hu2 hv2 hn (fun k hk=>RF.of_ok (hf k hk)) (fun k hk=>by
  have hk2:k<row.length:=by omega
  rw[List.getD_eq_getElem?_getD,List.getElem?_eq_getElem hk2,Option.getD_some]
  exact hok _ (List.getElem_mem hk2))
  (fun k hk=>by rw[h2];exact hp k hk) (fun k hk=>by simp only[h2];exact hs k hk)
 simp only[h2]at h
 exact h
set_option maxRecDepth 100000 in
theorem r21step_any (va vv:Value) (n:Nat) (A:Mx) (row:List RF) (w:World) (ha:zam w va n n A) (hv:zni w vv row) (hl:row.length=n) (h1:1≤n) (h24:n≤24) (hok:∀x∈row,x.ok) (hf:zau n n A):
 Calls Tryz.prog 118 #[va,vv] w (RSt w (if wtF n n A+wts (qs row)≤3800 then 0 else 2) (if wtF n n A+wts (qs row)≤3800 then zib n fun j=>sg n fun i=>(qs row).getD i 0*A i j else [])):=by
 have HWA:Hid (∀w0 va,zam w0 va n n A→Calls Tryz.prog 174 #[va] w0 fun e w'=>e= .returned (.int .i64 (wtF n n A:Nat))∧Below w0.heap.size w0 w'):=zH (fun w0 va k=>rweights_mat va n A w0 k hf h1 h24)
 have HWV:Hid (∀w0 vv,zni w0 vv row→Calls Tryz.prog 175 #[vv] w0 fun e w'=>e= .returned (.int .i64 (wts (qs row):Nat))∧Below w0.heap.size w0 w'):=zH (fun w0 vv k=>zvr vv row w0 k hok (by omega))
 have HA:=zH ha
 have HV:=zH hv
 have hb1:wtF n n A≤536870912*24:=by
  have h:=wtsM_lim (zls h1 h24 h1 h24 hf)
  exact h
 have hb2:wts (qs row)≤8192*24:=Nat.le_trans (zgt row hok) (Nat.mul_le_mul_left _ (by omega))
 by_cases hw:wtF n n A+wts (qs row)≤3800
 ·rw[if_pos hw,if_pos hw]
  obtain⟨i3,hi3,hz3,hs3,hy3⟩:=info_parts Tryz.infoF
  have hAP:=zpp (P:=Tryz.prog) 25 38 i3 Tryz.underlying25 hi3 hz3 hs3 hy3
  clear hi3 hz3 hs3 hy3
  have HDOT:Hid (∀w0 vu vv j,j<n→zbb w0 vu (zib n fun i=>A i j)→zni w0 vv row→Calls Tryz.prog 176 #[vu,vv] w0 (RF1 w0 (sg n fun i=>(qs row).getD i 0*A i j))):=zH (fun w0 vu vv j hj k1 k2=>
   rdot_col vu vv n (fun i=>A i j) row w0 k1 k2 hl (by omega) (fun k hk=>hf k j hk hj) hok (fun k hk=>step_prod (by rw[zgq];exact hl) hw hk hj) (fun k hk=>zvu (by rw[zgq];exact hl) hw hk hj))
  obtain⟨W1,hW1⟩:∃W,wtF n n A=W:=⟨_,rfl⟩
  obtain⟨W2,hW2⟩:∃W,wts (qs row)=W:=⟨_,rfl⟩
  rw[hW1,hW2]at hw
  rw[hW1]at HWA
  rw[hW2]at HWV
  have hwi:¬ (3800:Int)<(W1:Nat)+(W2:Nat):=by omega
  obtain⟨v1,vn,v3,rfl,_⟩:=id hv.sl
  have hvn:vn=n:=hv.len.trans hl
  subst hvn
  have sv:=hv.sl
  have sa:=ha.sl
  have la:=ha.len
  have hn24:=h24
  clear ha hv hb1 hb2 hW1 hW2 hok hf hl hw
  go_enter Tryz.func118,Tryz.ntmps118
  go_wp2_with (first
   |(go_at_call 174;(with_reducible refine(HWA.out _ _ HA.out).mono ?_);rintro e1 w1 ⟨rfl,hb1⟩
     have HV1:=zH (HV.out.below hb1))
   |(go_at_call 175;(with_reducible refine(HWV.out _ _ HV1.out).mono ?_);rintro e2 w2 ⟨rfl,hb2⟩
     have HB2:=zH (zaa hb1 hb2)
     clear hb1 hb2))
  go_loopg [6,7] (vn) (fun g u6 u7 wr=>∃ (j:Nat),j≤vn∧g=vn-j∧u7= .int .i64 j∧zya wr 38 w2.heap.size u6 (zib j fun j=>sg vn fun i=>(qs row).getD i 0*A i j)∧Below w2.heap.size w2 wr)
  case atStart=>exact⟨0,Nat.zero_le _,rfl,rfl,zya.nil _ _ _,Below.refl _ _⟩
  case round=>
   obtain⟨j,hjn,hg,rfl,hfr,hbr⟩:=hrel
   obtain⟨W5,hw5⟩:∃w5,w5=wr:=⟨_,rfl⟩
   subst hw5
   have HG:=zH hg
   have HFR:=zH hfr
   have HBR:=zH hbr
   have sfr:=hfr.sl
   clear hg hfr hbr
   by_cases hjl:j<vn
   ·go_wp2_with fail
    go_loopg [8,9] (vn) (fun g u8 u9 wi=>∃ (i:Nat),i≤vn∧g=vn-i∧u9= .int .i64 i∧zya wi 38 W5.heap.size u8 (zib i fun i=>A i j)∧Below W5.heap.size W5 wi)
    case atStart=>exact⟨0,Nat.zero_le _,rfl,rfl,zya.nil _ _ _,Below.refl _ _⟩
    case round=>
     obtain⟨i,hin,hg,rfl,hfc,hbi⟩:=hrel
     obtain⟨W7,hw7⟩:∃w7,w7=wr:=⟨_,rfl⟩
     subst hw7
     have HGI:=zH hg
     have HFC:=zH hfc
     have HBI:=zH hbi
     have HBJ:=zH (zfa HBR.out hbi HBR.out.size)
     have HBW:=zH (zfa HB2.out HBJ.out HB2.out.size)
     have sfc:=hfc.sl
     clear hg hbi
     by_cases hil:i<vn
     ·obtain⟨ri,hci,hri⟩:=(HA.out.below HBW.out).row i hil
      obtain⟨ri1,ri2,ri3,rfl,_⟩:=id hri.sl
      have sri:=hri.sl
      have hri2:ri2=vn:=by have h:=hri.len;rw[zea]at h;exact h
      subst hri2
      obtain⟨ts,as1,ls1,ks1,as2,ls2,ks2,g1,g2,g3,hfs⟩:=hri.cellsAt (k:=j) (by rw[zea];exact hjl)
      rw[rowL_at hjl]at hfs
      have HFS:=zH hfs
      have hlen:(zib i fun i=>A i j).length≤1000:=by rw[zea];omega
      have hsz:=HBI.out.size
      have i1:(0:Int)≤(i:Int):=by omega
      have i2:(i:Int)<(ri2:Nat):=by omega
      have j1:(0:Int)≤(j:Int):=by omega
      have j2:(j:Int)<(ri2:Nat):=by omega
      clear hri hfs hfc
      go_wp2_with (first
       |(at_builtin;refine hAP _ rfl _ _ rfl W5.heap.size _ u8 (zib i fun i=>A i j) rfl HFC.out _ _ _ (A i j) HFS.out rfl hlen hsz ?_;intro v50 w50 ho50 hg50 hn50 hq50 sv50
         have hbg:=zid hg50 hsz HFC.out.block
         have HB50:=zH (HBI.out.trans hbg)
         have HO50:=zH ho50
         clear hbg hg50 hn50 hq50 ho50))
      go_roundg (ri2- (i+1))
      case measure=>(have:=HGI.out;omega)
      case rel=>exact⟨i+1,by omega,rfl,by go_num,by rw[←zlk];exact HO50.out,HB50.out⟩
     ·obtain rfl:i=vn:=by omega
      have HFC2:=zH hfc.fracs
      have HVW:=zH (HV.out.below HBW.out)
      have HFR7:=zH (HFR.out.moves (zhb.below (B:=w2.heap.size) HBI.out) (Nat.le_refl _))
      have hlen:(zib j fun j=>sg i fun k=>(qs row).getD k 0*A k j).length≤1000:=by rw[zea];omega
      clear hfc
      go_wp2_with (first
       |(go_at_call 176;(with_reducible refine(HDOT.out _ _ _ j hjl HFC2.out HVW.out).mono ?_);rintro e31 w31 ⟨v31,rfl,hv31,hb31⟩
         obtain⟨t6,x31,y31,rfl,⟨a61,l61,k61,rfl,_⟩,⟨a62,l62,k62,rfl,_⟩⟩:=hv31.isF
         have hfr5:=HFR7.out.moves (zhb.below (B:=w2.heap.size) hb31) (Nat.le_refl _)
         have hB9:=zfa HBJ.out hb31 HBJ.out.size
         have hsz5:=hB9.size)
       |(at_builtin;refine hAP w31 rfl _ _ rfl w2.heap.size _ u6 (zib j fun j=>sg i fun k=>(qs row).getD k 0*A k j) rfl hfr5 _ _ _ _ hv31 rfl hlen hsz5 ?_;intro v4' w50 ho50 hg50 hn50 hq50 sv50
         have hg5:=zid hg50 hsz5 hfr5.block
         have HO50:=zH ho50))
      go_roundg (i- (j+1))
      case measure=>(have:=HG.out;omega)
      case rel=>exact⟨j+1,by omega,rfl,by go_num,by rw[←zlk];exact HO50.out,hB9.trans hg5⟩
   ·obtain rfl:j=vn:=by omega
    go_wp2_with fail
    go_ret2
    exact⟨_,rfl,HFR.out.fracs,zfa HB2.out HBR.out HB2.out.size⟩
 ·rw[if_neg hw,if_neg hw]
  obtain⟨W1,hW1⟩:∃W,wtF n n A=W:=⟨_,rfl⟩
  obtain⟨W2,hW2⟩:∃W,wts (qs row)=W:=⟨_,rfl⟩
  rw[hW1,hW2]at hw
  rw[hW1]at HWA hb1
  rw[hW2]at HWV hb2
  have hwi:(3800:Int)<(W1:Nat)+(W2:Nat):=by omega
  clear ha hv hW1 hW2 hok hf hl hw
  go_enter Tryz.func118,Tryz.ntmps118
  go_wp2_with (first
   |(go_at_call 174;(with_reducible refine(HWA.out _ _ HA.out).mono ?_);rintro e1 w1 ⟨rfl,hb1⟩
     have HV1:=zH (HV.out.below hb1))
   |(go_at_call 175;(with_reducible refine(HWV.out _ _ HV1.out).mono ?_);rintro e2 w2 ⟨rfl,hb2⟩
     have HB2:=zH (zaa hb1 hb2)
     clear hb1 hb2))
  go_ret2
  exact RSt.nil rfl rfl HB2.out
theorem zpt (va vv:Value) (c:RC) (ρ:Rat) (row:List RF) (w:World) (n:Nat) (hn:c.rates.length=n) (ha:zam w va n n (zfq c ρ)) (hv:zni w vv row) (hl:row.length=n) (h1:1≤n) (h24:n≤24) (hok:∀x∈row,x.ok) (hf:zau n n (zfq c ρ)):
 Calls Tryz.prog 118 #[va,vv] w (RSt w (zur c ρ (qs row)) (zjs c ρ (qs row))):=by
 have h:=r21step_any va vv n (zfq c ρ) row w ha hv hl h1 h24 hok hf
 subst hn
 exact h
set_option maxHeartbeats 3200000
set_option maxRecDepth 100000 in
theorem rstep_rated (va vx vv:Value) (c:CQ) (t1:Bool) (nr dr:Nat) (row:List RF) (w:World) (ha:zlq w va c) (hv:zzp c.raw) (hx:zdc w vx t1 nr dr) (hvv:zni w vv row) (hp:¬zfr t1 nr dr):
 Calls Tryz.prog 53 #[va,vx,vv] w (RSt w 1 []):=by
 have hlen:c.rates.length=c.start.length:=by have h:=hv.2.2.2.1;simpa [CQ.raw]using h
 have hrl:c.raw.rates.length=c.rates.length:=by simp[CQ.raw]
 have hsl:c.raw.start.length=c.start.length:=by simp[CQ.raw]
 obtain⟨rv,sv,lv,rfl,hr,hs,hl9⟩:=id ha
 obtain⟨ra,rn,rk,rfl,_⟩:=id hr.sl
 obtain⟨sa,sn,sk,rfl,_⟩:=id hs.sl
 obtain⟨la,ln,lk,rfl,_⟩:=id (zhc.sl hl9)
 obtain⟨x1,y1,rfl,hx4,hx5⟩:=id hx
 obtain⟨a11,l11,k11,rfl,_⟩:=hx4.slen.1
 obtain⟨a12,l12,k12,rfl,_⟩:=hx5.slen.1
 have hsn:sn=c.start.length:=hs.len
 have hbx:=zca w (.cells #[.slice ra rn rk, .slice sa sn sk, .slice la ln lk] 28)
 have hb2:=zca (w.alloc (.cells #[.slice ra rn rk, .slice sa sn sk, .slice la ln lk] 28)) (.cells #[.bool t1, .slice a11 l11 k11, .slice a12 l12 k12] 38)
 have HC:=zH ((C3.new w 28 (.slice ra rn rk) (.slice sa sn sk) (.slice la ln lk)).belowS hb2)
 have HC9:=zH (C3.newB (b:=w.heap.size+1) (w.alloc (.cells #[.slice ra rn rk, .slice sa sn sk, .slice la ln lk] 28)) 38 (.bool t1) (.slice a11 l11 k11) (.slice a12 l12 k12) (by simp))
 have HBW:=zH (zaa hbx hb2)
 have HS:=zH (hs.below HBW.out)
 have HA:=zH (ha.below HBW.out)
 have HX:=zH (hx.below HBW.out)
 have HV:=zH hv
 have HLEN:=zH (And.intro hlen (And.intro hrl hsl))
 have HSN:=zH hsn
 have ssn:=hs.sl
 clear hr hs hl9 ha hv hbx hb2 hx hx4 hx5 hlen hrl hsl
 obtain⟨v1,vn,v3,rfl,_⟩:=id hvv.sl
 have svv:=hvv.sl
 have HVV:=zH (hvv.below HBW.out)
 have hvn:vn=row.length:=hvv.len
 have HVN:=zH hvn
 clear hvv hvn
 have HPOS:Hid (∀w0 vx,zdc w0 vx t1 nr dr→Calls Tryz.prog 115 #[vx] w0 (fun e w'=>e= .returned (.bool false)∧Below w0.heap.size w0 w')):=zH (fun w0 vx k=>zkq vx t1 nr dr false w0 k ⟨fun h=>(by cases h),fun h=>absurd h hp⟩)
 clear hp hsn
 go_enter Tryz.func53,Tryz.ntmps53
 go_upto_region 1 with fail
 generalize (w.alloc (.cells #[.slice ra rn rk, .slice sa sn sk, .slice la ln lk] 28)).alloc (.cells #[.bool t1, .slice a11 l11 k11, .slice a12 l12 k12] 38)=W2 at *
 obtain⟨bc,hbc⟩:∃b,w.heap.size=b:=⟨_,rfl⟩
 have HBC:=zH hbc
 rw[hbc]at HC HC9 ⊢
 clear hbc
 obtain⟨_,c0,c1,c2,_,_,_⟩:=HC.out
 obtain⟨_,d0,d1,d2,_,_,_⟩:=HC9.out
 go_wp2_with (first
  |(go_at_call 69;(with_reducible refine(zjq _ c.raw _ HA.out.raw).mono ?_);rintro e1 w1 ⟨⟨bv,rfl,hbv⟩,hb1⟩;obtain rfl:bv=true:=hbv.2 HV.out;clear hbv
    have HX1:=zH (HX.out.below hb1)
    have HA1:=zH (HA.out.below hb1)
    have HB1:=zH (zaa HBW.out hb1)
    have HC1:=zH (HC.out.belowS hb1)
    have HC91:=zH (HC9.out.belowS hb1)
    have HS1:=zH (HS.out.below hb1)
    have HW1:=zH hb1
    clear hb1 c0 c1 c2 d0 d1 d2
    obtain⟨_,c0,c1,c2,_,_,_⟩:=HC1.out
    obtain⟨_,d0,d1,d2,_,_,_⟩:=HC91.out)
  |(go_at_call 115;(with_reducible refine(HPOS.out _ _ HX1.out).mono ?_);rintro e2 w2 ⟨rfl,hb2⟩
    have HX2:=zH (HX1.out.below hb2)
    have HA2:=zH (HA1.out.below hb2)
    have HB2:=zH (zaa HB1.out hb2)
    have HC2:=zH (HC1.out.belowS hb2)
    have HC92:=zH (HC91.out.belowS hb2)
    have HS2:=zH (HS1.out.below hb2)
    have HW2:=zH (zaa HW1.out hb2)
    clear hb2 c0 c1 c2 d0 d1 d2
    obtain⟨_,c0,c1,c2,_,_,_⟩:=HC2.out
    obtain⟨_,d0,d1,d2,_,_,_⟩:=HC92.out)
  | fail)
 go_ret2
 exact RSt.nil rfl rfl HB2.out
set_option maxRecDepth 100000 in
theorem rstep_len (va vx vv:Value) (c:CQ) (t1:Bool) (nr dr:Nat) (row:List RF) (w:World) (ha:zlq w va c) (hv:zzp c.raw) (hx:zdc w vx t1 nr dr) (hvv:zni w vv row) (hp:zfr t1 nr dr) (hl:row.length≠c.start.length):
 Calls Tryz.prog 53 #[va,vx,vv] w (RSt w 1 []):=by
 have hlen:c.rates.length=c.start.length:=by have h:=hv.2.2.2.1;simpa [CQ.raw]using h
 have hrl:c.raw.rates.length=c.rates.length:=by simp[CQ.raw]
 have hsl:c.raw.start.length=c.start.length:=by simp[CQ.raw]
 obtain⟨rv,sv,lv,rfl,hr,hs,hl9⟩:=id ha
 obtain⟨ra,rn,rk,rfl,_⟩:=id hr.sl
 obtain⟨sa,sn,sk,rfl,_⟩:=id hs.sl
 obtain⟨la,ln,lk,rfl,_⟩:=id (zhc.sl hl9)
 obtain⟨x1,y1,rfl,hx4,hx5⟩:=id hx
 obtain⟨a11,l11,k11,rfl,_⟩:=hx4.slen.1
 obtain⟨a12,l12,k12,rfl,_⟩:=hx5.slen.1
 have hsn:sn=c.start.length:=hs.len
 have hbx:=zca w (.cells #[.slice ra rn rk, .slice sa sn sk, .slice la ln lk] 28)
 have hb2:=zca (w.alloc (.cells #[.slice ra rn rk, .slice sa sn sk, .slice la ln lk] 28)) (.cells #[.bool t1, .slice a11 l11 k11, .slice a12 l12 k12] 38)
 have HC:=zH ((C3.new w 28 (.slice ra rn rk) (.slice sa sn sk) (.slice la ln lk)).belowS hb2)
 have HC9:=zH (C3.newB (b:=w.heap.size+1) (w.alloc (.cells #[.slice ra rn rk, .slice sa sn sk, .slice la ln lk] 28)) 38 (.bool t1) (.slice a11 l11 k11) (.slice a12 l12 k12) (by simp))
 have HBW:=zH (zaa hbx hb2)
 have HS:=zH (hs.below HBW.out)
 have HA:=zH (ha.below HBW.out)
 have HX:=zH (hx.below HBW.out)
 have HV:=zH hv
 have HLEN:=zH (And.intro hlen (And.intro hrl hsl))
 have HSN:=zH hsn
 have ssn:=hs.sl
 clear hr hs hl9 ha hv hbx hb2 hx hx4 hx5 hlen hrl hsl
 obtain⟨v1,vn,v3,rfl,_⟩:=id hvv.sl
 have svv:=hvv.sl
 have HVV:=zH (hvv.below HBW.out)
 have hvn:vn=row.length:=hvv.len
 have HVN:=zH hvn
 clear hvv hvn
 have HPOS:Hid (∀w0 vx,zdc w0 vx t1 nr dr→Calls Tryz.prog 115 #[vx] w0 (fun e w'=>e= .returned (.bool true)∧Below w0.heap.size w0 w')):=zH (fun w0 vx k=>zkq vx t1 nr dr true w0 k ⟨fun _=>hp,fun _=>rfl⟩)
 have HNE:Hid (vn≠sn):=zH (by rw[HVN.out,hsn];exact hl)
 have hne:((vn:Int)==(sn:Int))=false:=by simp;have:=HNE.out;omega
 clear hp hl hsn
 go_enter Tryz.func53,Tryz.ntmps53
 go_upto_region 1 with fail
 generalize (w.alloc (.cells #[.slice ra rn rk, .slice sa sn sk, .slice la ln lk] 28)).alloc (.cells #[.bool t1, .slice a11 l11 k11, .slice a12 l12 k12] 38)=W2 at *
 obtain⟨bc,hbc⟩:∃b,w.heap.size=b:=⟨_,rfl⟩
 have HBC:=zH hbc
 rw[hbc]at HC HC9 ⊢
 clear hbc
 obtain⟨_,c0,c1,c2,_,_,_⟩:=HC.out
 obtain⟨_,d0,d1,d2,_,_,_⟩:=HC9.out
 go_wp2_with (first
  |(go_at_call 69;(with_reducible refine(zjq _ c.raw _ HA.out.raw).mono ?_);rintro e1 w1 ⟨⟨bv,rfl,hbv⟩,hb1⟩;obtain rfl:bv=true:=hbv.2 HV.out;clear hbv
    have HX1:=zH (HX.out.below hb1)
    have HA1:=zH (HA.out.below hb1)
    have HB1:=zH (zaa HBW.out hb1)
    have HC1:=zH (HC.out.belowS hb1)
    have HC91:=zH (HC9.out.belowS hb1)
    have HS1:=zH (HS.out.below hb1)
    have HW1:=zH hb1
    clear hb1 c0 c1 c2 d0 d1 d2
    obtain⟨_,c0,c1,c2,_,_,_⟩:=HC1.out
    obtain⟨_,d0,d1,d2,_,_,_⟩:=HC91.out)
  |(go_at_call 115;(with_reducible refine(HPOS.out _ _ HX1.out).mono ?_);rintro e2 w2 ⟨rfl,hb2⟩
    have HX2:=zH (HX1.out.below hb2)
    have HA2:=zH (HA1.out.below hb2)
    have HB2:=zH (zaa HB1.out hb2)
    have HC2:=zH (HC1.out.belowS hb2)
    have HC92:=zH (HC91.out.belowS hb2)
    have HS2:=zH (HS1.out.below hb2)
    have HW2:=zH (zaa HW1.out hb2)
    clear hb2 c0 c1 c2 d0 d1 d2
    obtain⟨_,c0,c1,c2,_,_,_⟩:=HC2.out
    obtain⟨_,d0,d1,d2,_,_,_⟩:=HC92.out)
  | fail)
 go_ret2
 exact RSt.nil rfl rfl HB2.out
set_option maxRecDepth 100000 in
theorem rstep_bad (va vx vv:Value) (c:CQ) (t1:Bool) (nr dr:Nat) (row:List RF) (w:World) (ha:zlq w va c) (hv:zzp c.raw) (hx:zdc w vx t1 nr dr) (hvv:zni w vv row) (hp:zfr t1 nr dr) (hl:row.length=c.start.length) (hb:∃x∈row,¬x.ok):
 Calls Tryz.prog 53 #[va,vx,vv] w (RSt w 1 []):=by
 have hlen:c.rates.length=c.start.length:=by have h:=hv.2.2.2.1;simpa [CQ.raw]using h
 have hrl:c.raw.rates.length=c.rates.length:=by simp[CQ.raw]
 have hsl:c.raw.start.length=c.start.length:=by simp[CQ.raw]
 obtain⟨rv,sv,lv,rfl,hr,hs,hl9⟩:=id ha
 obtain⟨ra,rn,rk,rfl,_⟩:=id hr.sl
 obtain⟨sa,sn,sk,rfl,_⟩:=id hs.sl
 obtain⟨la,ln,lk,rfl,_⟩:=id (zhc.sl hl9)
 obtain⟨x1,y1,rfl,hx4,hx5⟩:=id hx
 obtain⟨a11,l11,k11,rfl,_⟩:=hx4.slen.1
 obtain⟨a12,l12,k12,rfl,_⟩:=hx5.slen.1
 have hsn:sn=c.start.length:=hs.len
 have hbx:=zca w (.cells #[.slice ra rn rk, .slice sa sn sk, .slice la ln lk] 28)
 have hb2:=zca (w.alloc (.cells #[.slice ra rn rk, .slice sa sn sk, .slice la ln lk] 28)) (.cells #[.bool t1, .slice a11 l11 k11, .slice a12 l12 k12] 38)
 have HC:=zH ((C3.new w 28 (.slice ra rn rk) (.slice sa sn sk) (.slice la ln lk)).belowS hb2)
 have HC9:=zH (C3.newB (b:=w.heap.size+1) (w.alloc (.cells #[.slice ra rn rk, .slice sa sn sk, .slice la ln lk] 28)) 38 (.bool t1) (.slice a11 l11 k11) (.slice a12 l12 k12) (by simp))
 have HBW:=zH (zaa hbx hb2)
 have HS:=zH (hs.below HBW.out)
 have HA:=zH (ha.below HBW.out)
 have HX:=zH (hx.below HBW.out)
 have HV:=zH hv
 have HLEN:=zH (And.intro hlen (And.intro hrl hsl))
 have HSN:=zH hsn
 have ssn:=hs.sl
 clear hr hs hl9 ha hv hbx hb2 hx hx4 hx5 hlen hrl hsl
 obtain⟨v1,vn,v3,rfl,_⟩:=id hvv.sl
 have svv:=hvv.sl
 have HVV:=zH (hvv.below HBW.out)
 have hvn:vn=row.length:=hvv.len
 have HVN:=zH hvn
 clear hvv hvn
 have HPOS:Hid (∀w0 vx,zdc w0 vx t1 nr dr→Calls Tryz.prog 115 #[vx] w0 (fun e w'=>e= .returned (.bool true)∧Below w0.heap.size w0 w')):=zH (fun w0 vx k=>zkq vx t1 nr dr true w0 k ⟨fun _=>hp,fun _=>rfl⟩)
 have HBAD:=zH hb
 have HL:Hid (row.length=sn):=zH (by omega)
 obtain rfl:vn=sn:=by have:=HVN.out;omega
 have hvn:vn≤128:=by have:=HV.out.2.1;have:=HL.out;have:=HLEN.out.2.2;omega
 clear hp hl hsn hb
 go_enter Tryz.func53,Tryz.ntmps53
 go_upto_region 1 with fail
 generalize (w.alloc (.cells #[.slice ra rn rk, .slice sa vn sk, .slice la ln lk] 28)).alloc (.cells #[.bool t1, .slice a11 l11 k11, .slice a12 l12 k12] 38)=W2 at *
 obtain⟨bc,hbc⟩:∃b,w.heap.size=b:=⟨_,rfl⟩
 have HBC:=zH hbc
 rw[hbc]at HC HC9 ⊢
 clear hbc
 obtain⟨_,c0,c1,c2,_,_,_⟩:=HC.out
 obtain⟨_,d0,d1,d2,_,_,_⟩:=HC9.out
 go_wp2_with (first
  |(go_at_call 69;(with_reducible refine(zjq _ c.raw _ HA.out.raw).mono ?_);rintro e1 w1 ⟨⟨bv,rfl,hbv⟩,hb1⟩;obtain rfl:bv=true:=hbv.2 HV.out;clear hbv
    have HX1:=zH (HX.out.below hb1)
    have HA1:=zH (HA.out.below hb1)
    have HB1:=zH (zaa HBW.out hb1)
    have HC1:=zH (HC.out.belowS hb1)
    have HC91:=zH (HC9.out.belowS hb1)
    have HS1:=zH (HS.out.below hb1)
    have HW1:=zH hb1
    clear hb1 c0 c1 c2 d0 d1 d2
    obtain⟨_,c0,c1,c2,_,_,_⟩:=HC1.out
    obtain⟨_,d0,d1,d2,_,_,_⟩:=HC91.out)
  |(go_at_call 115;(with_reducible refine(HPOS.out _ _ HX1.out).mono ?_);rintro e2 w2 ⟨rfl,hb2⟩
    have HX2:=zH (HX1.out.below hb2)
    have HA2:=zH (HA1.out.below hb2)
    have HB2:=zH (zaa HB1.out hb2)
    have HC2:=zH (HC1.out.belowS hb2)
    have HC92:=zH (HC91.out.belowS hb2)
    have HS2:=zH (HS1.out.below hb2)
    have HW2:=zH (zaa HW1.out hb2)
    clear hb2 c0 c1 c2 d0 d1 d2
    obtain⟨_,c0,c1,c2,_,_,_⟩:=HC2.out
    obtain⟨_,d0,d1,d2,_,_,_⟩:=HC92.out)
  | fail)
 have HVV2:=zH (HVV.out.below HW2.out)
 go_loopg [8] (vn) (fun g u8 wr=>∃ (k:Nat),k≤vn∧g=vn-k∧u8= .int .i64 k∧Below w2.heap.size w2 wr∧∀ (j:Nat) (hj:j<row.length),j<k→(row[j]).ok)
 case atStart=>exact⟨0,Nat.zero_le _,rfl,rfl,Below.refl _ _,fun j hj h=>by omega⟩
 case round=>
  obtain⟨k,hkn,hg,rfl,hbr,hall⟩:=hrel
  obtain⟨W3,hw2⟩:∃w2,w2=wr:=⟨_,rfl⟩
  subst hw2
  have HG:=zH hg
  have HBR:=zH hbr
  have HALL:=zH hall
  clear hg c0 c1 c2 d0 d1 d2 hall
  by_cases hkl:k<vn
  ·have hk2:k<row.length:=by rw[HL.out];exact hkl
   by_cases hxo:(row[k]'hk2).ok
   ·have HALL2:Hid (∀ (j:Nat) (hj:j<row.length),j<k+1→(row[j]).ok):=zH (fun j hj h=>by
     by_cases e:j=k
     ·subst e;exact hxo
     ·exact HALL.out j hj (by omega))
    obtain⟨ea,eb,g1,g2,g3,g4,g5⟩:=(HVV2.out.below hbr).at' k hk2
    obtain⟨x,hxe⟩:∃x,row[k]'hk2=x:=⟨_,rfl⟩
    have HXO:Hid (okN x.n x.d):=zH (by rw[←hxe];exact hxo)
    rw[hxe]at g1 g4 g5
    obtain⟨ea1,ea2,ea3,rfl,_⟩:=g4.slen.1
    obtain⟨eb1,eb2,eb3,rfl,_⟩:=g5.slen.1
    have HXN:Hid (zdc W3 (.agg #[.bool x.neg, .slice ea1 ea2 ea3, .slice eb1 eb2 eb3]) x.neg x.n x.d):=zH ⟨_,_,rfl,g4,g5⟩
    have j1:(0:Int)≤(k:Int):=by omega
    have j2:(k:Int)<(vn:Nat):=by omega
    clear g4 g5 hxe
    clear hxo
    go_wp2_with (go_at_call 49;(with_reducible refine(zlm _ _ _ _ _ HXN.out HXO.out).mono ?_);rintro e21 w21 ⟨rfl,hb21⟩
                 have HB21:=zH (zaa HBR.out hb21))
    go_roundg (vn- (k+1))
    case measure=>(have:=HG.out;omega)
    case rel=>exact⟨k+1,by omega,rfl,by go_num,HB21.out,HALL2.out⟩
   ·skip
    obtain⟨ea,eb,g1,g2,g3,g4,g5⟩:=(HVV2.out.below hbr).at' k hk2
    obtain⟨x,hxe⟩:∃x,row[k]'hk2=x:=⟨_,rfl⟩
    have HXO:Hid (¬okN x.n x.d):=zH (by rw[←hxe];exact hxo)
    rw[hxe]at g1 g4 g5
    obtain⟨ea1,ea2,ea3,rfl,_⟩:=g4.slen.1
    obtain⟨eb1,eb2,eb3,rfl,_⟩:=g5.slen.1
    have HXN:Hid (zdc W3 (.agg #[.bool x.neg, .slice ea1 ea2 ea3, .slice eb1 eb2 eb3]) x.neg x.n x.d):=zH ⟨_,_,rfl,g4,g5⟩
    have j1:(0:Int)≤(k:Int):=by omega
    have j2:(k:Int)<(vn:Nat):=by omega
    clear g4 g5 hxe
    clear hxo
    go_wp2_with (go_at_call 49;(with_reducible refine(zms _ _ _ _ _ HXN.out HXO.out).mono ?_);rintro e21 w21 ⟨rfl,hb21⟩
                 have HB21:=zH (zfa HB2.out (zaa HBR.out hb21) HB2.out.size))
    go_ret2
    exact RSt.nil rfl rfl HB21.out
  ·exact absurd HBAD.out (fun⟨x,hx,hn⟩=>by
    obtain⟨j,hj,rfl⟩:=List.getElem_of_mem hx
    exact hn (HALL.out j hj (by have:=HL.out;omega)))
set_option maxRecDepth 100000 in
theorem rstep_run (va vx vv:Value) (c:CQ) (t1:Bool) (nr dr:Nat) (q:Rat) (row:List RF) (w:World) (ha:zlq w va c) (hv:zzp c.raw) (h24:c.start.length≤24) (hx:zdc w vx t1 nr dr) (hvv:zni w vv row) (hp:zfr t1 nr dr) (hfq:fq t1 nr dr=q)
 (hl:row.length=c.start.length) (hok:∀x∈row,x.ok) (hfit:zyp c.raw c.raw.rates.length≤q→zdu c.raw q):
 Calls Tryz.prog 53 #[va,vx,vv] w (RSt w (if q<zyp c.raw c.raw.rates.length then 5 else zur c.raw q (qs row)) (if q<zyp c.raw c.raw.rates.length then []else zjs c.raw q (qs row))):=by
 have h1:1≤c.start.length:=by have h:=hv.1;simpa [CQ.raw]using h
 have hlen:c.rates.length=c.start.length:=by have h:=hv.2.2.2.1;simpa [CQ.raw]using h
 have hrl:c.raw.rates.length=c.rates.length:=by simp[CQ.raw]
 have hsl:c.raw.start.length=c.start.length:=by simp[CQ.raw]
 obtain⟨rv,sv,lv,rfl,hr,hs,hl9⟩:=id ha
 obtain⟨ra,rn,rk,rfl,_⟩:=id hr.sl
 obtain⟨sa,sn,sk,rfl,_⟩:=id hs.sl
 obtain⟨la,ln,lk,rfl,_⟩:=id (zhc.sl hl9)
 obtain⟨x1,y1,rfl,hx4,hx5⟩:=id hx
 obtain⟨a11,l11,k11,rfl,_⟩:=hx4.slen.1
 obtain⟨a12,l12,k12,rfl,_⟩:=hx5.slen.1
 have hsn:sn=c.start.length:=hs.len
 have hbx:=zca w (.cells #[.slice ra rn rk, .slice sa sn sk, .slice la ln lk] 28)
 have hb2:=zca (w.alloc (.cells #[.slice ra rn rk, .slice sa sn sk, .slice la ln lk] 28)) (.cells #[.bool t1, .slice a11 l11 k11, .slice a12 l12 k12] 38)
 have HC:=zH ((C3.new w 28 (.slice ra rn rk) (.slice sa sn sk) (.slice la ln lk)).belowS hb2)
 have HC9:=zH (C3.newB (b:=w.heap.size+1) (w.alloc (.cells #[.slice ra rn rk, .slice sa sn sk, .slice la ln lk] 28)) 38 (.bool t1) (.slice a11 l11 k11) (.slice a12 l12 k12) (by simp))
 have HBW:=zH (zaa hbx hb2)
 have HS:=zH (hs.below HBW.out)
 have HA:=zH (ha.below HBW.out)
 have HX:=zH (hx.below HBW.out)
 have HV:=zH hv
 have HLEN:=zH (And.intro hlen (And.intro hrl hsl))
 have HSN:=zH hsn
 have ssn:=hs.sl
 clear hr hs hl9 ha hv hbx hb2 hx hx4 hx5 hlen hrl hsl
 obtain⟨v1,vn,v3,rfl,_⟩:=id hvv.sl
 have svv:=hvv.sl
 have HVV:=zH (hvv.below HBW.out)
 have hvn:vn=row.length:=hvv.len
 have HVN:=zH hvn
 clear hvv hvn
 have HPOS:Hid (∀w0 vx,zdc w0 vx t1 nr dr→Calls Tryz.prog 115 #[vx] w0 (fun e w'=>e= .returned (.bool true)∧Below w0.heap.size w0 w')):=zH (fun w0 vx k=>zkq vx t1 nr dr true w0 k ⟨fun _=>hp,fun _=>rfl⟩)
 have HF:=zH hp.1
 have HN0:=zH hp.2.2
 have HFQ:=zH hfq
 have HOK:=zH hok
 have HL:Hid (row.length=sn):=zH (by omega)
 obtain rfl:vn=sn:=by have:=HVN.out;omega
 have hvn:vn≤24:=by omega
 obtain⟨er9,her9⟩:∃er,(if q<zyp c.raw c.raw.rates.length then(5:Int)else zur c.raw q (qs row))=er:=⟨_,rfl⟩
 obtain⟨l9,hl9⟩:∃l,(if q<zyp c.raw c.raw.rates.length then([]:List Rat)else zjs c.raw q (qs row))=l:=⟨_,rfl⟩
 rw[her9,hl9]
 have HER9:=zH her9
 have HL9:=zH hl9
 clear her9 hl9
 have HFIT:=zH hfit
 have HLN:Hid (c.raw.rates.length=c.start.length):=zH (by rw[HLEN.out.2.1,HLEN.out.1])
 have HDIM:Hid (1≤c.start.length∧c.start.length≤24∧row.length=c.start.length):=zH ⟨h1,h24,hl⟩
 clear hok hl hfit hp hfq h1 h24 hsn
 go_enter Tryz.func53,Tryz.ntmps53
 go_upto_region 1 with fail
 generalize (w.alloc (.cells #[.slice ra rn rk, .slice sa vn sk, .slice la ln lk] 28)).alloc (.cells #[.bool t1, .slice a11 l11 k11, .slice a12 l12 k12] 38)=W2 at *
 obtain⟨bc,hbc⟩:∃b,w.heap.size=b:=⟨_,rfl⟩
 have HBC:=zH hbc
 rw[hbc]at HC HC9 ⊢
 clear hbc
 obtain⟨_,c0,c1,c2,_,_,_⟩:=HC.out
 obtain⟨_,d0,d1,d2,_,_,_⟩:=HC9.out
 go_wp2_with (first
  |(go_at_call 69;(with_reducible refine(zjq _ c.raw _ HA.out.raw).mono ?_);rintro e1 w1 ⟨⟨bv,rfl,hbv⟩,hb1⟩;obtain rfl:bv=true:=hbv.2 HV.out;clear hbv
    have HX1:=zH (HX.out.below hb1)
    have HA1:=zH (HA.out.below hb1)
    have HB1:=zH (zaa HBW.out hb1)
    have HC1:=zH (HC.out.belowS hb1)
    have HC91:=zH (HC9.out.belowS hb1)
    have HS1:=zH (HS.out.below hb1)
    have HW1:=zH hb1
    clear hb1 c0 c1 c2 d0 d1 d2
    obtain⟨_,c0,c1,c2,_,_,_⟩:=HC1.out
    obtain⟨_,d0,d1,d2,_,_,_⟩:=HC91.out)
  |(go_at_call 115;(with_reducible refine(HPOS.out _ _ HX1.out).mono ?_);rintro e2 w2 ⟨rfl,hb2⟩
    have HX2:=zH (HX1.out.below hb2)
    have HA2:=zH (HA1.out.below hb2)
    have HB2:=zH (zaa HB1.out hb2)
    have HC2:=zH (HC1.out.belowS hb2)
    have HC92:=zH (HC91.out.belowS hb2)
    have HS2:=zH (HS1.out.below hb2)
    have HW2:=zH (zaa HW1.out hb2)
    clear hb2 c0 c1 c2 d0 d1 d2
    obtain⟨_,c0,c1,c2,_,_,_⟩:=HC2.out
    obtain⟨_,d0,d1,d2,_,_,_⟩:=HC92.out)
  | fail)
 have HVV2:=zH (HVV.out.below HW2.out)
 go_loopg [8] (vn) (fun g u8 wr=>∃ (k:Nat),k≤vn∧g=vn-k∧u8= .int .i64 k∧Below w2.heap.size w2 wr)
 case atStart=>exact⟨0,Nat.zero_le _,rfl,rfl,Below.refl _ _⟩
 case round=>
  obtain⟨k,hkn,hg,rfl,hbr⟩:=hrel
  obtain⟨W3,hw2⟩:∃w2,w2=wr:=⟨_,rfl⟩
  subst hw2
  have HG:=zH hg
  have HBR:=zH hbr
  clear hg c0 c1 c2 d0 d1 d2
  by_cases hkl:k<vn
  ·have hk2:k<row.length:=by rw[HL.out];exact hkl
   obtain⟨ea,eb,g1,g2,g3,g4,g5⟩:=(HVV2.out.below hbr).at' k hk2
   obtain⟨x,hxe⟩:∃x,row[k]'hk2=x:=⟨_,rfl⟩
   have HXO:Hid (okN x.n x.d):=zH (by rw[←hxe];exact(HOK.out _ (List.getElem_mem hk2)))
   rw[hxe]at g1 g4 g5
   obtain⟨ea1,ea2,ea3,rfl,_⟩:=g4.slen.1
   obtain⟨eb1,eb2,eb3,rfl,_⟩:=g5.slen.1
   have HXN:Hid (zdc W3 (.agg #[.bool x.neg, .slice ea1 ea2 ea3, .slice eb1 eb2 eb3]) x.neg x.n x.d):=zH ⟨_,_,rfl,g4,g5⟩
   have j1:(0:Int)≤(k:Int):=by omega
   have j2:(k:Int)<(vn:Nat):=by omega
   clear g4 g5 hxe
   go_wp2_with (go_at_call 49;(with_reducible refine(zlm _ _ _ _ _ HXN.out HXO.out).mono ?_);rintro e21 w21 ⟨rfl,hb21⟩
                have HB21:=zH (zaa HBR.out hb21))
   go_roundg (vn- (k+1))
   case measure=>(have:=HG.out;omega)
   case rel=>exact⟨k+1,by omega,rfl,by go_num,HB21.out⟩
  ·obtain rfl:k=vn:=by omega
   have HA3:=zH (HA2.out.below hbr)
   have HX3:=zH (HX2.out.below hbr)
   have HC3:=zH (HC2.out.belowS hbr)
   have HC93:=zH (HC92.out.belowS hbr)
   have HVV3:=zH (HVV2.out.below hbr)
   have HB3:=zH (zaa HB2.out hbr)
   have HLF:=zH (zwq HV.out _ (Nat.le_refl _))
   clear hbr HBR
   obtain⟨_,c0,c1,c2,_,_,_⟩:=HC3.out
   obtain⟨_,d0,d1,d2,_,_,_⟩:=HC93.out
   obtain⟨L,hL⟩:∃L,zyp c.raw c.raw.rates.length=L:=⟨_,rfl⟩
   have HL3:=zH hL
   rw[hL]at HFIT HLF HER9 HL9
   clear hL
   go_upto_region 9 with(first
    |(go_at_call 17;(with_reducible refine(zqq _ c.raw _ HA3.out.raw HV.out).mono ?_);rw[HL3.out];rintro e5 w5 ⟨v5,rfl,hv5,hb5⟩
      obtain⟨t5,x5,y5,rfl,⟨a51,l51,k51,rfl,_⟩,⟨a52,l52,k52,rfl,_⟩⟩:=hv5.isF
      have hba:=zca w5 (.cells #[.bool t5, .slice a51 l51 k51, .slice a52 l52 k52] 38)
      have hbb:=zaa hb5 hba
      have HC5:=zH (C3.new w5 38 (.bool t5) (.slice a51 l51 k51) (.slice a52 l52 k52))
      have HF5:=zH (hv5.below hba)
      replace HB3:=zH (zaa HB3.out hbb);replace HA3:=zH (HA3.out.below hbb);replace HX3:=zH (HX3.out.below hbb);replace HC3:=zH (HC3.out.belowS hbb);replace HC93:=zH (HC93.out.belowS hbb);replace HVV3:=zH (HVV3.out.below hbb)
      clear hv5 hb5 hba hbb c0 c1 c2 d0 d1 d2))
   obtain⟨b5,hb5⟩:∃b,w5.heap.size=b:=⟨_,rfl⟩
   rw[hb5]at HC5 ⊢
   clear hb5
   generalize w5.alloc (.cells #[.bool t5, .slice a51 l51 k51, .slice a52 l52 k52] 38)=W5 at *
   obtain⟨_,c0,c1,c2,_,_,_⟩:=HC3.out
   obtain⟨_,d0,d1,d2,_,_,_⟩:=HC93.out
   obtain⟨_,p0,p1,p2,_,_,_⟩:=HC5.out
   by_cases hs:q<L
   ·obtain rfl:er9=5:=by rw[←HER9.out,if_pos hs]
    obtain rfl:l9= []:=by rw[←HL9.out,if_pos hs]
    have HSLOW:Hid (decide (q<L)=true):=zH (decide_eq_true hs)
    clear hs
    go_wp2_with (first
     |(go_at_call 50;(with_reducible refine(zzr _ _ t1 nr dr q L _ HX3.out HF5.out HF.out HFQ.out HLF.out).mono ?_);rw[HSLOW.out];rintro e6 w6 ⟨rfl,hb6⟩
       have HB6:=zH (zaa HB3.out hb6)))
    go_ret2
    exact RSt.nil rfl rfl HB6.out
   ·obtain rfl:er9=zur c.raw q (qs row):=by rw[←HER9.out,if_neg hs]
    obtain rfl:l9=zjs c.raw q (qs row):=by rw[←HL9.out,if_neg hs]
    have HSLOW:Hid (decide (q<L)=false):=zH (decide_eq_false hs)
    have HFE:=zH (HFIT.out (Rat.not_lt.1 hs))
    have HM:Hid (∀w0 va vx,zlq w0 va c→zdc w0 vx t1 nr dr→Calls Tryz.prog 117 #[va,vx] w0 (fun e w'=>∃v,e= .returned (.tuple #[v, .bool true])∧zam w' v c.start.length c.start.length (zfq c.raw q)∧Below w0.heap.size w0 w')):=
     zH (fun w0 va vx k1 k2=>zbs va vx c t1 nr dr q w0 k1 HV.out HDIM.out.2.1 k2 HF.out HFQ.out HN0.out HFE.out)
    have HS:Hid (∀w0 va vv,zam w0 va c.start.length c.start.length (zfq c.raw q)→zni w0 vv row→Calls Tryz.prog 118 #[va,vv] w0 (RSt w0 (zur c.raw q (qs row)) (zjs c.raw q (qs row)))):=
     zH (fun w0 va vv k1 k2=>zpt va vv c.raw q row w0 c.start.length HLN.out k1 k2 HDIM.out.2.2 HDIM.out.1 HDIM.out.2.1 HOK.out (by have h:=zrq HFE.out.1 HFE.out.2;rw[HLN.out]at h;exact h))
    clear hs HER9 HL9
    obtain⟨er,her⟩:∃er,zur c.raw q (qs row)=er:=⟨_,rfl⟩
    rw[her]at HS
    have HERR:=zH her
    clear her
    go_wp2_with (first
     |(go_at_call 50;(with_reducible refine(zzr _ _ t1 nr dr q L _ HX3.out HF5.out HF.out HFQ.out HLF.out).mono ?_);rw[HSLOW.out];rintro e6 w6 ⟨rfl,hb6⟩
       have HA6:=zH (HA3.out.below hb6)
       have HX6:=zH (HX3.out.below hb6)
       have HC6:=zH (HC3.out.belowS hb6)
       have HC96:=zH (HC93.out.belowS hb6)
       have HVV6:=zH (HVV3.out.below hb6)
       have HB6:=zH (zaa HB3.out hb6)
       clear hb6 c0 c1 c2 d0 d1 d2
       obtain⟨_,c0,c1,c2,_,_,_⟩:=HC6.out
       obtain⟨_,d0,d1,d2,_,_,_⟩:=HC96.out)
     |(go_at_call 117;(with_reducible refine(HM.out _ _ _ HA6.out HX6.out).mono ?_);rintro e7 w7 ⟨v7,rfl,hm7,hb7⟩
       have HM7:=zH hm7
       have HVV7:=zH (HVV6.out.below hb7)
       have HB7:=zH (zaa HB6.out hb7)
       clear hm7 hb7)
     |(go_at_call 118;(with_reducible refine(HS.out _ _ _ HM7.out HVV7.out).mono ?_);rintro e8 w8 ⟨v8,rfl,hv8,hb8⟩
       have HB8:=zH (zaa HB7.out hb8)))
    go_ret2
    exact⟨v8,by rw[HERR.out];rfl,hv8,HB8.out⟩
theorem rstep_all (va vx vv:Value) (c:CQ) (t1:Bool) (nr dr:Nat) (row:List RF) (w:World) (ha:zlq w va c) (hv:zzp c.raw) (h24:c.start.length≤24) (hx:zdc w vx t1 nr dr) (hvv:zni w vv row) (hfit:zfr t1 nr dr→zyp c.raw c.raw.rates.length≤fq t1 nr dr→zdu c.raw (fq t1 nr dr)):
 Calls Tryz.prog 53 #[va,vx,vv] w (RSt w (zxs c.raw t1 nr dr row) (zws c.raw t1 nr dr row)):=by
 have hs:c.raw.start.length=c.start.length:=by simp[CQ.raw]
 by_cases hp:zfr t1 nr dr
 ·by_cases hl:row.length=c.start.length
  ·by_cases hok:∀x∈row,x.ok
   ·have h3:zfr t1 nr dr∧row.length=c.raw.start.length∧∀x∈row,x.ok:=⟨hp,by rw[hs];exact hl,hok⟩
    rw[zxs,zws,if_pos h3,if_pos h3]
    exact rstep_run va vx vv c t1 nr dr _ row w ha hv h24 hx hvv hp rfl hl hok (hfit hp)
   ·have h3:¬ (zfr t1 nr dr∧row.length=c.raw.start.length∧∀x∈row,x.ok):=fun h=>hok h.2.2
    rw[zxs,zws,if_neg h3,if_neg h3]
    refine rstep_bad va vx vv c t1 nr dr row w ha hv hx hvv hp hl ?_
    exact Classical.byContradiction fun h=>hok fun x hx=>Classical.byContradiction fun hn=>h ⟨x,hx,hn⟩
  ·have h3:¬ (zfr t1 nr dr∧row.length=c.raw.start.length∧∀x∈row,x.ok):=fun h=>hl (by rw[←hs];exact h.2.1)
   rw[zxs,zws,if_neg h3,if_neg h3]
   exact rstep_len va vx vv c t1 nr dr row w ha hv hx hvv hp hl
 ·have h3:¬ (zfr t1 nr dr∧row.length=c.raw.start.length∧∀x∈row,x.ok):=fun h=>hp h.1
  rw[zxs,zws,if_neg h3,if_neg h3]
  exact rstep_rated va vx vv c t1 nr dr row w ha hv hx hvv hp
end Go.Proofs.YtlpdkbmmbdfoiaaGreat
