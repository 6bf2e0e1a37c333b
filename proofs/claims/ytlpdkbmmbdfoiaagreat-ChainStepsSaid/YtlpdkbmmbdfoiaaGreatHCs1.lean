/-
  package chain: Step, whatever the rate and the vector.
-/
import Derived.Test.YtlpdkbmmbdfoiaaGreatHSp10
set_option linter.unusedVariables false
set_option linter.unusedSimpArgs false
namespace Go.Proofs.YtlpdkbmmbdfoiaaGreat
set_option maxHeartbeats 3200000
open Go.RowKit
theorem zbb.nilS (w:World):zbb w (.slice none 0 0) []:=⟨zgc.nil,rfl,fun j h=>by simp at h⟩
def wtR (c:RC) (ρ:Rat) (v:List Rat):Nat:=wtF c.rates.length c.rates.length (zfq c ρ)+wts v
def zur (c:RC) (ρ:Rat) (v:List Rat):Int:=if wtR c ρ v≤3800 then 0 else 2
def zjs (c:RC) (ρ:Rat) (v:List Rat):List Rat:=if wtR c ρ v≤3800 then stepV c ρ v else []
def RSt (w0:World) (er:Int) (l:List Rat) (e:Ending) (w:World):Prop:=∃v,e= .returned (.tuple #[v, .int .i64 er])∧zbb w v l∧Below w0.heap.size w0 w
def zdu (c:RC) (ρ:Rat):Prop:=(∀i j,i<c.rates.length→j<c.rates.length→fits ((zaq c i).getD j 0/ρ))∧(∀i,i<c.rates.length→fits (zgg (zaq c i)/ρ)∧fits (1-zgg (zaq c i)/ρ))
theorem cstep_all (va vv:Value) (c:RC) (ρ:Rat) (row:List RF) (w:World) (ha:zam w va c.rates.length c.rates.length (zfq c ρ)) (hv:zni w vv row) (hl:row.length=c.rates.length) (hn:c.rates.length≤128) (hok:∀x∈row,x.ok) (hm:zau c.rates.length c.rates.length (zfq c ρ)):
 Calls Tryz.prog 84 #[va,vv] w (RSt w (zur c ρ (qs row)) (zjs c ρ (qs row))):=by
 by_cases hw:wtR c ρ (qs row)≤3800
 ·refine(cstep_any va vv _ _ row w ha hv hl hn hok hm hw).mono ?_
  rintro e w' ⟨v,rfl,h1,h2⟩
  exact⟨v,by rw[zur,if_pos hw],by rw[zjs,if_pos hw];exact h1,h2⟩
 ·refine(cstep_big va vv _ _ row w ha hv hl hn hok hm (by unfold wtR at hw;omega)).mono ?_
  rintro e w' ⟨rfl,h2⟩
  exact⟨_,by rw[zur,if_neg hw],by rw[zjs,if_neg hw];exact zbb.nilS _,h2⟩
open Classical in
/-- The error of both Step. -/
noncomputable def zxs (c:RC) (t:Bool) (n d:Nat) (row:List RF):Int:=
 if zfr t n d∧row.length=c.start.length∧∀x∈row,x.ok then(if fq t n d<zyp c c.rates.length then 5 else zur c (fq t n d) (qs row))else 1
open Classical in
/-- The vector of both Step. -/
noncomputable def zws (c:RC) (t:Bool) (n d:Nat) (row:List RF):List Rat:=
 if zfr t n d∧row.length=c.start.length∧∀x∈row,x.ok then(if fq t n d<zyp c c.rates.length then []else zjs c (fq t n d) (qs row))else []
theorem RSt.nil {w0 w:World} {er er':Int} {l:List Rat} (h:er=er') (hl:l= []) (hb:Below w0.heap.size w0 w):RSt w0 er' l (.returned (.tuple #[.slice none 0 0, .int .i64 er])) w:=by
 subst h hl;exact⟨_,rfl,zbb.nilS _,hb⟩
set_option maxRecDepth 100000 in
theorem step_rated (va vx vv:Value) (c:RC) (t1:Bool) (nr dr:Nat) (row:List RF) (w:World) (ha:zdq w va c) (hv:zzp c) (hx:zdc w vx t1 nr dr) (hvv:zni w vv row) (hp:¬zfr t1 nr dr):
 Calls Tryz.prog 22 #[va,vx,vv] w (RSt w 1 []):=by
 obtain⟨rv,sv,lv,rfl,hr,hs,hl⟩:=id ha
 obtain⟨ra,rn,rk,rfl,_⟩:=id hr.sl
 obtain⟨sa,sn,sk,rfl,_⟩:=id hs.sl
 obtain⟨la,ln,lk,rfl,_⟩:=id (zhc.sl hl)
 obtain⟨x1,y1,rfl,hx4,hx5⟩:=id hx
 obtain⟨a11,l11,k11,rfl,_⟩:=hx4.slen.1
 obtain⟨a12,l12,k12,rfl,_⟩:=hx5.slen.1
 have hbx:=zca w (.cells #[.slice ra rn rk, .slice sa sn sk, .slice la ln lk] 28)
 have hb2:=zca (w.alloc (.cells #[.slice ra rn rk, .slice sa sn sk, .slice la ln lk] 28)) (.cells #[.bool t1, .slice a11 l11 k11, .slice a12 l12 k12] 38)
 have HC:=zH ((C3.new w 28 (.slice ra rn rk) (.slice sa sn sk) (.slice la ln lk)).belowS hb2)
 have HR:=zH (C3.newB (b:=w.heap.size+1) (w.alloc (.cells #[.slice ra rn rk, .slice sa sn sk, .slice la ln lk] 28)) 38 (.bool t1) (.slice a11 l11 k11) (.slice a12 l12 k12) (by simp))
 have HBW:=zH (zaa hbx hb2)
 have hsn:sn=c.start.length:=hs.len
 have HA:=zH (ha.below HBW.out)
 have HX:=zH (hx.below HBW.out)
 have HV:=zH hv
 clear hr hs hl ha hv hbx hb2 hx hx4 hx5
 obtain⟨v1,vn,v3,rfl,_⟩:=id hvv.sl
 have svv:=hvv.sl
 have HVV:=zH (hvv.below HBW.out)
 have hvn:vn=row.length:=hvv.len
 have HVN:=zH hvn
 clear hvv hvn
 have HRT:Hid (∀w0 va vx,zdq w0 va c→zdc w0 vx t1 nr dr→Calls Tryz.prog 81 #[va,vx] w0 (fun e w'=>e= .returned (.bool false)∧Below w0.heap.size w0 w')):=zH (fun w0 va vx k1 k2=>by
  by_cases hf:okN nr dr
  ·have h:=zpq va vx c t1 nr dr w0 k1 HV.out k2 hf
   have e:(!t1&& !decide (nr=0))=false:=by
    cases t1
    ·by_cases h0:nr=0
     ·rw[decide_eq_true h0];rfl
     ·exact absurd ⟨hf,rfl,h0⟩ hp
    ·rfl
   rw[e]at h
   exact h
  ·exact rated_no va vx c t1 nr dr w0 k1 HV.out k2 hf)
 clear hp hsn
 go_enter Tryz.func22,Tryz.ntmps22
 go_upto_region 1 with fail
 generalize (w.alloc (.cells #[.slice ra rn rk, .slice sa sn sk, .slice la ln lk] 28)).alloc (.cells #[.bool t1, .slice a11 l11 k11, .slice a12 l12 k12] 38)=W2 at *
 obtain⟨_,c0,c1,c2,_,_,_⟩:=HC.out
 obtain⟨_,d0,d1,d2,_,_,_⟩:=HR.out
 go_wp2_with (first
  |(go_at_call 81;(with_reducible refine(HRT.out _ _ _ HA.out HX.out).mono ?_);rintro e1 w1 ⟨rfl,hb1⟩
    have HB1:=zH (zaa HBW.out hb1))
  | fail)
 go_ret2
 exact RSt.nil rfl rfl HB1.out
set_option maxRecDepth 100000 in
theorem step_len (va vx vv:Value) (c:RC) (t1:Bool) (nr dr:Nat) (row:List RF) (w:World) (ha:zdq w va c) (hv:zzp c) (hx:zdc w vx t1 nr dr) (hvv:zni w vv row) (hp:zfr t1 nr dr) (hl:row.length≠c.start.length):
 Calls Tryz.prog 22 #[va,vx,vv] w (RSt w 1 []):=by
 obtain⟨rv,sv,lv,rfl,hr,hs,hl⟩:=id ha
 obtain⟨ra,rn,rk,rfl,_⟩:=id hr.sl
 obtain⟨sa,sn,sk,rfl,_⟩:=id hs.sl
 obtain⟨la,ln,lk,rfl,_⟩:=id (zhc.sl hl)
 obtain⟨x1,y1,rfl,hx4,hx5⟩:=id hx
 obtain⟨a11,l11,k11,rfl,_⟩:=hx4.slen.1
 obtain⟨a12,l12,k12,rfl,_⟩:=hx5.slen.1
 have hbx:=zca w (.cells #[.slice ra rn rk, .slice sa sn sk, .slice la ln lk] 28)
 have hb2:=zca (w.alloc (.cells #[.slice ra rn rk, .slice sa sn sk, .slice la ln lk] 28)) (.cells #[.bool t1, .slice a11 l11 k11, .slice a12 l12 k12] 38)
 have HC:=zH ((C3.new w 28 (.slice ra rn rk) (.slice sa sn sk) (.slice la ln lk)).belowS hb2)
 have HR:=zH (C3.newB (b:=w.heap.size+1) (w.alloc (.cells #[.slice ra rn rk, .slice sa sn sk, .slice la ln lk] 28)) 38 (.bool t1) (.slice a11 l11 k11) (.slice a12 l12 k12) (by simp))
 have HBW:=zH (zaa hbx hb2)
 have hsn:sn=c.start.length:=hs.len
 have HA:=zH (ha.below HBW.out)
 have HX:=zH (hx.below HBW.out)
 have HV:=zH hv
 clear hr hs hl ha hv hbx hb2 hx hx4 hx5
 obtain⟨v1,vn,v3,rfl,_⟩:=id hvv.sl
 have svv:=hvv.sl
 have HVV:=zH (hvv.below HBW.out)
 have hvn:vn=row.length:=hvv.len
 have HVN:=zH hvn
 clear hvv hvn
 have HF:=zH hp.1
 have HPOS:Hid ((!t1&& !decide (nr=0))=true):=zH (by rw[hp.2.1,decide_eq_false hp.2.2];rfl)
 have HNE:Hid (vn≠sn):=zH (by rw[HVN.out,hsn];exact hl)
 have hne:((vn:Int)==(sn:Int))=false:=by simp;have:=HNE.out;omega
 clear hp hl hsn
 go_enter Tryz.func22,Tryz.ntmps22
 go_upto_region 1 with fail
 generalize (w.alloc (.cells #[.slice ra rn rk, .slice sa sn sk, .slice la ln lk] 28)).alloc (.cells #[.bool t1, .slice a11 l11 k11, .slice a12 l12 k12] 38)=W2 at *
 obtain⟨_,c0,c1,c2,_,_,_⟩:=HC.out
 obtain⟨_,d0,d1,d2,_,_,_⟩:=HR.out
 go_wp2_with (first
  |(go_at_call 81;(with_reducible refine(zpq _ _ c t1 nr dr _ HA.out HV.out HX.out HF.out).mono ?_);rw[HPOS.out];rintro e1 w1 ⟨rfl,hb1⟩
    have HA1:=zH (HA.out.below hb1)
    have HX1:=zH (HX.out.below hb1)
    have HC1:=zH (HC.out.belowS hb1)
    have HR1:=zH (HR.out.belowS hb1)
    have HVV1:=zH (HVV.out.below hb1)
    have HB1:=zH (zaa HBW.out hb1)
    clear hb1
    obtain⟨_,c0,c1,c2,_,_,_⟩:=HC1.out
    obtain⟨_,d0,d1,d2,_,_,_⟩:=HR1.out)
  | fail)
 go_ret2
 exact RSt.nil rfl rfl HB1.out
set_option maxRecDepth 100000 in
theorem step_bad (va vx vv:Value) (c:RC) (t1:Bool) (nr dr:Nat) (row:List RF) (w:World) (ha:zdq w va c) (hv:zzp c) (hx:zdc w vx t1 nr dr) (hvv:zni w vv row) (hp:zfr t1 nr dr) (hl:row.length=c.start.length) (hb:∃x∈row,¬x.ok):
 Calls Tryz.prog 22 #[va,vx,vv] w (RSt w 1 []):=by
 obtain⟨rv,sv,lv,rfl,hr,hs,hl⟩:=id ha
 obtain⟨ra,rn,rk,rfl,_⟩:=id hr.sl
 obtain⟨sa,sn,sk,rfl,_⟩:=id hs.sl
 obtain⟨la,ln,lk,rfl,_⟩:=id (zhc.sl hl)
 obtain⟨x1,y1,rfl,hx4,hx5⟩:=id hx
 obtain⟨a11,l11,k11,rfl,_⟩:=hx4.slen.1
 obtain⟨a12,l12,k12,rfl,_⟩:=hx5.slen.1
 have hbx:=zca w (.cells #[.slice ra rn rk, .slice sa sn sk, .slice la ln lk] 28)
 have hb2:=zca (w.alloc (.cells #[.slice ra rn rk, .slice sa sn sk, .slice la ln lk] 28)) (.cells #[.bool t1, .slice a11 l11 k11, .slice a12 l12 k12] 38)
 have HC:=zH ((C3.new w 28 (.slice ra rn rk) (.slice sa sn sk) (.slice la ln lk)).belowS hb2)
 have HR:=zH (C3.newB (b:=w.heap.size+1) (w.alloc (.cells #[.slice ra rn rk, .slice sa sn sk, .slice la ln lk] 28)) 38 (.bool t1) (.slice a11 l11 k11) (.slice a12 l12 k12) (by simp))
 have HBW:=zH (zaa hbx hb2)
 have hsn:sn=c.start.length:=hs.len
 have HA:=zH (ha.below HBW.out)
 have HX:=zH (hx.below HBW.out)
 have HV:=zH hv
 clear hr hs hl ha hv hbx hb2 hx hx4 hx5
 obtain⟨v1,vn,v3,rfl,_⟩:=id hvv.sl
 have svv:=hvv.sl
 have HVV:=zH (hvv.below HBW.out)
 have hvn:vn=row.length:=hvv.len
 have HVN:=zH hvn
 clear hvv hvn
 have HF:=zH hp.1
 have HPOS:Hid ((!t1&& !decide (nr=0))=true):=zH (by rw[hp.2.1,decide_eq_false hp.2.2];rfl)
 have HBAD:=zH hb
 have HL:Hid (row.length=sn):=zH (by omega)
 obtain rfl:vn=sn:=by have:=HVN.out;omega
 have hvn:vn≤128:=by have:=HV.out.2.1;have:=HL.out;omega
 clear hp hl hsn hb
 go_enter Tryz.func22,Tryz.ntmps22
 go_upto_region 1 with fail
 generalize (w.alloc (.cells #[.slice ra rn rk, .slice sa vn sk, .slice la ln lk] 28)).alloc (.cells #[.bool t1, .slice a11 l11 k11, .slice a12 l12 k12] 38)=W2 at *
 obtain⟨_,c0,c1,c2,_,_,_⟩:=HC.out
 obtain⟨_,d0,d1,d2,_,_,_⟩:=HR.out
 go_wp2_with (first
  |(go_at_call 81;(with_reducible refine(zpq _ _ c t1 nr dr _ HA.out HV.out HX.out HF.out).mono ?_);rw[HPOS.out];rintro e1 w1 ⟨rfl,hb1⟩
    have HA1:=zH (HA.out.below hb1)
    have HX1:=zH (HX.out.below hb1)
    have HC1:=zH (HC.out.belowS hb1)
    have HR1:=zH (HR.out.belowS hb1)
    have HVV1:=zH (HVV.out.below hb1)
    have HB1:=zH (zaa HBW.out hb1)
    clear hb1
    obtain⟨_,c0,c1,c2,_,_,_⟩:=HC1.out
    obtain⟨_,d0,d1,d2,_,_,_⟩:=HR1.out)
  | fail)
 go_loopg [26] (vn) (fun g u26 wr=>∃ (k:Nat),k≤vn∧g=vn-k∧u26= .int .i64 k∧Below w1.heap.size w1 wr∧∀ (j:Nat) (hj:j<row.length),j<k→(row[j]).ok)
 case atStart=>exact⟨0,Nat.zero_le _,rfl,rfl,Below.refl _ _,fun j hj h=>by omega⟩
 case round=>
  obtain⟨k,hkn,hg,rfl,hbr,hall⟩:=hrel
  obtain⟨w2,hw2⟩:∃w2,w2=wr:=⟨_,rfl⟩
  subst hw2
  have HG:=zH hg
  have HBR:=zH hbr
  have HALL:=zH hall
  clear hg c0 c1 c2 d0 d1 d2 hall
  by_cases hkl:k<vn
  ·have hk2:k<row.length:=by rw[HL.out];exact hkl
   obtain⟨ea,eb,g1,g2,g3,g4,g5⟩:=(HVV1.out.below hbr).at' k hk2
   by_cases hxo:(row[k]'hk2).ok
   ·have HALL2:Hid (∀ (j:Nat) (hj:j<row.length),j<k+1→(row[j]).ok):=zH (fun j hj h=>by
     by_cases e:j=k
     ·subst e;exact hxo
     ·exact HALL.out j hj (by omega))
    have HXO:Hid ((row[k]'hk2).ok):=zH hxo
    obtain⟨x,hxe⟩:∃x,row[k]'hk2=x:=⟨_,rfl⟩
    rw[hxe]at g1 g4 g5 HXO
    have HXO:Hid (okN x.n x.d):=zH HXO.out
    obtain⟨ea1,ea2,ea3,rfl,_⟩:=g4.slen.1
    obtain⟨eb1,eb2,eb3,rfl,_⟩:=g5.slen.1
    have hb8:=zca w2 (.cells #[.bool x.neg, .slice ea1 ea2 ea3, .slice eb1 eb2 eb3] 38)
    have HXN:Hid (zdc (w2.alloc (.cells #[.bool x.neg, .slice ea1 ea2 ea3, .slice eb1 eb2 eb3] 38)) (.agg #[.bool x.neg, .slice ea1 ea2 ea3, .slice eb1 eb2 eb3]) x.neg x.n x.d):=zH (zdc.below ⟨_,_,rfl,g4,g5⟩ hb8)
    have j1:(0:Int)≤(k:Int):=by omega
    have j2:(k:Int)<(vn:Nat):=by omega
    clear g4 g5 hxe hxo
    go_wp2_with (go_at_call 79;(with_reducible refine(zrd _ _ _ _ _ HXN.out HXO.out).mono ?_);rintro e21 w21 ⟨rfl,hb21⟩
                 have HB21:=zH (zaa HBR.out (zaa hb8 hb21)))
    go_roundg (vn- (k+1))
    case measure=>(have:=HG.out;omega)
    case rel=>exact⟨k+1,by omega,rfl,by go_num,HB21.out,HALL2.out⟩
   ·have HXO:Hid (¬ (row[k]'hk2).ok):=zH hxo
    obtain⟨x,hxe⟩:∃x,row[k]'hk2=x:=⟨_,rfl⟩
    rw[hxe]at g1 g4 g5 HXO
    have HXO:Hid (¬okN x.n x.d):=zH HXO.out
    obtain⟨ea1,ea2,ea3,rfl,_⟩:=g4.slen.1
    obtain⟨eb1,eb2,eb3,rfl,_⟩:=g5.slen.1
    have hb8:=zca w2 (.cells #[.bool x.neg, .slice ea1 ea2 ea3, .slice eb1 eb2 eb3] 38)
    have HXN:Hid (zdc (w2.alloc (.cells #[.bool x.neg, .slice ea1 ea2 ea3, .slice eb1 eb2 eb3] 38)) (.agg #[.bool x.neg, .slice ea1 ea2 ea3, .slice eb1 eb2 eb3]) x.neg x.n x.d):=zH (zdc.below ⟨_,_,rfl,g4,g5⟩ hb8)
    have j1:(0:Int)≤(k:Int):=by omega
    have j2:(k:Int)<(vn:Nat):=by omega
    clear g4 g5 hxe hxo
    go_wp2_with (go_at_call 79;(with_reducible refine(zys _ _ _ _ _ HXN.out HXO.out).mono ?_);rintro e21 w21 ⟨rfl,hb21⟩
                 have HB21:=zH (zfa HB1.out (zaa HBR.out (zaa hb8 hb21)) HB1.out.size))
    go_ret2
    exact RSt.nil rfl rfl HB21.out
  ·exact absurd HBAD.out (fun⟨x,hx,hn⟩=>by
    obtain⟨j,hj,rfl⟩:=List.getElem_of_mem hx
    exact hn (HALL.out j hj (by have:=HL.out;omega)))
set_option maxRecDepth 100000 in
theorem step_run (va vx vv:Value) (c:RC) (t1:Bool) (nr dr:Nat) (q:Rat) (row:List RF) (w:World) (ha:zdq w va c) (hv:zzp c) (hx:zdc w vx t1 nr dr) (hvv:zni w vv row) (hp:zfr t1 nr dr) (hfq:fq t1 nr dr=q)
 (hl:row.length=c.start.length) (hok:∀x∈row,x.ok) (hfit:zyp c c.rates.length≤q→zdu c q):
 Calls Tryz.prog 22 #[va,vx,vv] w (RSt w (if q<zyp c c.rates.length then 5 else zur c q (qs row)) (if q<zyp c c.rates.length then []else zjs c q (qs row))):=by
 have hlen:c.rates.length=c.start.length:=hv.2.2.2.1
 have h128:c.start.length≤128:=hv.2.1
 obtain⟨rv,sv,lv,rfl,hr,hs,hl⟩:=id ha
 obtain⟨ra,rn,rk,rfl,_⟩:=id hr.sl
 obtain⟨sa,sn,sk,rfl,_⟩:=id hs.sl
 obtain⟨la,ln,lk,rfl,_⟩:=id (zhc.sl hl)
 obtain⟨x1,y1,rfl,hx4,hx5⟩:=id hx
 obtain⟨a11,l11,k11,rfl,_⟩:=hx4.slen.1
 obtain⟨a12,l12,k12,rfl,_⟩:=hx5.slen.1
 have hbx:=zca w (.cells #[.slice ra rn rk, .slice sa sn sk, .slice la ln lk] 28)
 have hb2:=zca (w.alloc (.cells #[.slice ra rn rk, .slice sa sn sk, .slice la ln lk] 28)) (.cells #[.bool t1, .slice a11 l11 k11, .slice a12 l12 k12] 38)
 have HC:=zH ((C3.new w 28 (.slice ra rn rk) (.slice sa sn sk) (.slice la ln lk)).belowS hb2)
 have HR:=zH (C3.newB (b:=w.heap.size+1) (w.alloc (.cells #[.slice ra rn rk, .slice sa sn sk, .slice la ln lk] 28)) 38 (.bool t1) (.slice a11 l11 k11) (.slice a12 l12 k12) (by simp))
 have HBW:=zH (zaa hbx hb2)
 have hsn:sn=c.start.length:=hs.len
 have HA:=zH (ha.below HBW.out)
 have HX:=zH (hx.below HBW.out)
 have HV:=zH hv
 clear hr hs hl ha hv hbx hb2 hx hx4 hx5
 obtain⟨v1,vn,v3,rfl,_⟩:=id hvv.sl
 have svv:=hvv.sl
 have HVV:=zH (hvv.below HBW.out)
 have hvn:vn=row.length:=hvv.len
 have HVN:=zH hvn
 clear hvv hvn
 have HF:=zH hp.1
 have HFQ:=zH hfq
 have HPOS:Hid ((!t1&& !decide (nr=0))=true):=zH (by rw[hp.2.1,decide_eq_false hp.2.2];rfl)
 have HQ0:Hid (q≠0):=zH (fun h=>by have:=hp.q;rw[hfq,h]at this;exact absurd this (by decide))
 clear hp hfq
 have HOK:=zH hok
 have HL:Hid (row.length=sn):=zH (by omega)
 obtain rfl:vn=sn:=by have:=HVN.out;omega
 have hvn:vn≤128:=by omega
 have HR128:Hid (c.rates.length≤128∧row.length=c.rates.length):=zH ⟨by omega,by omega⟩
 obtain⟨er9,her9⟩:∃er,(if q<zyp c c.rates.length then(5:Int)else zur c q (qs row))=er:=⟨_,rfl⟩
 obtain⟨l9,hl9⟩:∃l,(if q<zyp c c.rates.length then([]:List Rat)else zjs c q (qs row))=l:=⟨_,rfl⟩
 rw[her9,hl9]
 have HER9:=zH her9
 have HL9:=zH hl9
 clear her9 hl9
 have HFIT:=zH hfit
 clear hok hl hlen hsn hfit h128
 go_enter Tryz.func22,Tryz.ntmps22
 go_upto_region 1 with fail
 generalize (w.alloc (.cells #[.slice ra rn rk, .slice sa vn sk, .slice la ln lk] 28)).alloc (.cells #[.bool t1, .slice a11 l11 k11, .slice a12 l12 k12] 38)=W2 at *
 obtain⟨_,c0,c1,c2,_,_,_⟩:=HC.out
 obtain⟨_,d0,d1,d2,_,_,_⟩:=HR.out
 go_wp2_with (first
  |(go_at_call 81;(with_reducible refine(zpq _ _ c t1 nr dr _ HA.out HV.out HX.out HF.out).mono ?_);rw[HPOS.out];rintro e1 w1 ⟨rfl,hb1⟩
    have HA1:=zH (HA.out.below hb1)
    have HX1:=zH (HX.out.below hb1)
    have HC1:=zH (HC.out.belowS hb1)
    have HR1:=zH (HR.out.belowS hb1)
    have HVV1:=zH (HVV.out.below hb1)
    have HB1:=zH (zaa HBW.out hb1)
    clear hb1
    obtain⟨_,c0,c1,c2,_,_,_⟩:=HC1.out
    obtain⟨_,d0,d1,d2,_,_,_⟩:=HR1.out)
  | fail)
 go_loopg [26] (vn) (fun g u26 wr=>∃ (k:Nat),k≤vn∧g=vn-k∧u26= .int .i64 k∧Below w1.heap.size w1 wr)
 case atStart=>exact⟨0,Nat.zero_le _,rfl,rfl,Below.refl _ _⟩
 case round=>
  obtain⟨k,hkn,hg,rfl,hbr⟩:=hrel
  obtain⟨w2,hw2⟩:∃w2,w2=wr:=⟨_,rfl⟩
  subst hw2
  have HG:=zH hg
  have HBR:=zH hbr
  clear hg c0 c1 c2 d0 d1 d2
  by_cases hkl:k<vn
  ·have hk2:k<row.length:=by rw[HL.out];exact hkl
   obtain⟨ea,eb,g1,g2,g3,g4,g5⟩:=(HVV1.out.below hbr).at' k hk2
   have HXO:Hid ((row[k]'hk2).ok):=zH (HOK.out _ (List.getElem_mem hk2))
   obtain⟨x,hxe⟩:∃x,row[k]'hk2=x:=⟨_,rfl⟩
   rw[hxe]at g1 g4 g5 HXO
   have HXO:Hid (okN x.n x.d):=zH HXO.out
   obtain⟨ea1,ea2,ea3,rfl,_⟩:=g4.slen.1
   obtain⟨eb1,eb2,eb3,rfl,_⟩:=g5.slen.1
   have hb8:=zca w2 (.cells #[.bool x.neg, .slice ea1 ea2 ea3, .slice eb1 eb2 eb3] 38)
   have HXN:Hid (zdc (w2.alloc (.cells #[.bool x.neg, .slice ea1 ea2 ea3, .slice eb1 eb2 eb3] 38)) (.agg #[.bool x.neg, .slice ea1 ea2 ea3, .slice eb1 eb2 eb3]) x.neg x.n x.d):=zH (zdc.below ⟨_,_,rfl,g4,g5⟩ hb8)
   have j1:(0:Int)≤(k:Int):=by omega
   have j2:(k:Int)<(vn:Nat):=by omega
   clear g4 g5 hxe
   go_wp2_with (go_at_call 79;(with_reducible refine(zrd _ _ _ _ _ HXN.out HXO.out).mono ?_);rintro e21 w21 ⟨rfl,hb21⟩
                have HB21:=zH (zaa HBR.out (zaa hb8 hb21)))
   go_roundg (vn- (k+1))
   case measure=>(have:=HG.out;omega)
   case rel=>exact⟨k+1,by omega,rfl,by go_num,HB21.out⟩
  ·obtain rfl:k=vn:=by omega
   have HA2:=zH (HA1.out.below hbr)
   have HX2:=zH (HX1.out.below hbr)
   have HC2:=zH (HC1.out.belowS hbr)
   have HR2:=zH (HR1.out.belowS hbr)
   have HVV2:=zH (HVV1.out.below hbr)
   have HB2:=zH (zaa HB1.out hbr)
   clear hbr HBR HC1 HR1
   obtain⟨_,c0,c1,c2,_,_,_⟩:=HC2.out
   obtain⟨_,d0,d1,d2,_,_,_⟩:=HR2.out
   by_cases hs:q<zyp c c.rates.length
   ·obtain rfl:er9=5:=by rw[←HER9.out,if_pos hs]
    obtain rfl:l9= []:=by rw[←HL9.out,if_pos hs]
    have HSLOW:Hid (decide (q<zyp c c.rates.length)=true):=zH (decide_eq_true hs)
    clear hs
    go_wp2_with (first
     |(go_at_call 82;(with_reducible refine(zir _ _ c t1 nr dr q _ HA2.out HV.out HX2.out HF.out HFQ.out).mono ?_);rw[HSLOW.out];rintro e3 w3 ⟨rfl,hb3⟩
       have HB3:=zH (zaa HB2.out hb3)))
    go_ret2
    exact RSt.nil rfl rfl HB3.out
   ·obtain rfl:er9=zur c q (qs row):=by rw[←HER9.out,if_neg hs]
    obtain rfl:l9=zjs c q (qs row):=by rw[←HL9.out,if_neg hs]
    have HSLOW:Hid (decide (q<zyp c c.rates.length)=false):=zH (decide_eq_false hs)
    have HFE:=zH (HFIT.out (Rat.not_lt.1 hs))
    have HM:Hid (∀w0 va vx,zdq w0 va c→zdc w0 vx t1 nr dr→Calls Tryz.prog 83 #[va,vx] w0 (fun e w'=>∃v,e= .returned (.tuple #[v, .int .i64 0])∧zam w' v c.rates.length c.rates.length (zfq c q)∧Below w0.heap.size w0 w')):=
     zH (fun w0 va vx k1 k2=>zrs va vx c t1 nr dr q w0 k1 HV.out k2 HF.out HFQ.out HQ0.out HFE.out.1 HFE.out.2)
    have HS:Hid (∀w0 va vv,zam w0 va c.rates.length c.rates.length (zfq c q)→zni w0 vv row→Calls Tryz.prog 84 #[va,vv] w0 (RSt w0 (zur c q (qs row)) (zjs c q (qs row)))):=
     zH (fun w0 va vv k1 k2=>cstep_all va vv c q row w0 k1 k2 HR128.out.2 HR128.out.1 HOK.out (zrq HFE.out.1 HFE.out.2))
    clear hs HER9 HL9
    obtain⟨er,her⟩:∃er,zur c q (qs row)=er:=⟨_,rfl⟩
    rw[her]at HS
    have HERR:=zH her
    clear her
    go_wp2_with (first
     |(go_at_call 82;(with_reducible refine(zir _ _ c t1 nr dr q _ HA2.out HV.out HX2.out HF.out HFQ.out).mono ?_);rw[HSLOW.out];rintro e3 w3 ⟨rfl,hb3⟩
       have HA3:=zH (HA2.out.below hb3)
       have HX3:=zH (HX2.out.below hb3)
       have HC3:=zH (HC2.out.belowS hb3)
       have HR3:=zH (HR2.out.belowS hb3)
       have HVV3:=zH (HVV2.out.below hb3)
       have HB3:=zH (zaa HB2.out hb3)
       clear hb3 c0 c1 c2 d0 d1 d2
       obtain⟨_,c0,c1,c2,_,_,_⟩:=HC3.out
       obtain⟨_,d0,d1,d2,_,_,_⟩:=HR3.out)
     |(go_at_call 83;(with_reducible refine(HM.out _ _ _ HA3.out HX3.out).mono ?_);rintro e4 w4 ⟨v4,rfl,hm4,hb4⟩
       have HM4:=zH hm4
       have HVV4:=zH (HVV3.out.below hb4)
       have HB4:=zH (zaa HB3.out hb4)
       clear hm4 hb4)
     |(go_at_call 84;(with_reducible refine(HS.out _ _ _ HM4.out HVV4.out).mono ?_);rintro e5 w5 ⟨v5,rfl,hv5,hb5⟩
       have HB5:=zH (zaa HB4.out hb5)))
    go_ret2
    exact⟨v5,by rw[HERR.out];rfl,hv5,HB5.out⟩
theorem step_all (va vx vv:Value) (c:RC) (t1:Bool) (nr dr:Nat) (row:List RF) (w:World) (ha:zdq w va c) (hv:zzp c) (hx:zdc w vx t1 nr dr) (hvv:zni w vv row) (hfit:zfr t1 nr dr→zyp c c.rates.length≤fq t1 nr dr→zdu c (fq t1 nr dr)):
 Calls Tryz.prog 22 #[va,vx,vv] w (RSt w (zxs c t1 nr dr row) (zws c t1 nr dr row)):=by
 by_cases hp:zfr t1 nr dr
 ·by_cases hl:row.length=c.start.length
  ·by_cases hok:∀x∈row,x.ok
   ·have h3:zfr t1 nr dr∧row.length=c.start.length∧∀x∈row,x.ok:=⟨hp,hl,hok⟩
    rw[zxs,zws,if_pos h3,if_pos h3]
    exact step_run va vx vv c t1 nr dr _ row w ha hv hx hvv hp rfl hl hok (hfit hp)
   ·have h3:¬ (zfr t1 nr dr∧row.length=c.start.length∧∀x∈row,x.ok):=fun h=>hok h.2.2
    rw[zxs,zws,if_neg h3,if_neg h3]
    refine step_bad va vx vv c t1 nr dr row w ha hv hx hvv hp hl ?_
    exact Classical.byContradiction fun h=>hok fun x hx=>Classical.byContradiction fun hn=>h ⟨x,hx,hn⟩
  ·have h3:¬ (zfr t1 nr dr∧row.length=c.start.length∧∀x∈row,x.ok):=fun h=>hl h.2.1
   rw[zxs,zws,if_neg h3,if_neg h3]
   exact step_len va vx vv c t1 nr dr row w ha hv hx hvv hp hl
 ·have h3:¬ (zfr t1 nr dr∧row.length=c.start.length∧∀x∈row,x.ok):=fun h=>hp h.1
  rw[zxs,zws,if_neg h3,if_neg h3]
  exact step_rated va vx vv c t1 nr dr row w ha hv hx hvv hp
end Go.Proofs.YtlpdkbmmbdfoiaaGreat
