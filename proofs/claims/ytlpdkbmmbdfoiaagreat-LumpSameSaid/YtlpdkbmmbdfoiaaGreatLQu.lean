/-
  A queue of integers: a slice that grows at its end and is cut at its head. No program is named here.
-/
import Derived.Test.YtlpdkbmmbdfoiaaGreatLSz1
import Derived.Test.YtlpdkbmmbdfoiaaGreatLSp5
import Derived.Test.YtlpdkbmmbdfoiaaGreatLMath8
import Derived.Deep.AppendSrc
set_option linter.unusedVariables false
set_option linter.unusedSimpArgs false
namespace Go.Proofs.YtlpdkbmmbdfoiaaGreat
set_option maxHeartbeats 3200000
open Go.RowKit
theorem cmp_rc (va vb:Value) (s:Bool) (n d:Nat) (p q:Rat) (w:World) (ha:zdc w va s n d) (hb:zqa w vb q) (hn:okN n d) (hp:fq s n d=p) (hq:fits q):
 Calls Tryz.prog 130 #[va,vb] w fun en w'=>en= .returned (.tuple #[.int .i64 (zsr p q), .int .i64 0])∧Below w.heap.size w w':=by
 have h:=cmp_frac va vb _ _ _ _ _ _ w ha hb.raw hn (zuc hq)
 rw[zvb,hp]at h
 exact h
set_option maxRecDepth 100000 in
theorem zpq (va vx:Value) (c:RC) (t1:Bool) (nr dr:Nat) (w:World) (ha:zdq w va c) (hv:zzp c) (hx:zdc w vx t1 nr dr) (hf:okN nr dr):
 Calls Tryz.prog 81 #[va,vx] w (fun e w'=>e= .returned (.bool (!t1&& !decide (nr=0)))∧Below w.heap.size w w'):=by
 obtain⟨rv,sv,lv,rfl,hr,hs,hl⟩:=id ha
 obtain⟨ra,rn,rk,rfl,_⟩:=id hr.sl
 obtain⟨sa,sn,sk,rfl,_⟩:=id hs.sl
 obtain⟨la,ln,lk,rfl,_⟩:=id (zhc.sl hl)
 obtain⟨x1,y1,rfl,hx4,hx5⟩:=id hx
 obtain⟨a11,l11,k11,rfl,_⟩:=hx4.slen.1
 obtain⟨a12,l12,k12,rfl,_⟩:=hx5.slen.1
 have hbx:=zca w (.cells #[.slice ra rn rk, .slice sa sn sk, .slice la ln lk] 28)
 have hb2:=zca (w.alloc (.cells #[.slice ra rn rk, .slice sa sn sk, .slice la ln lk] 28)) (.cells #[.bool t1, .slice a11 l11 k11, .slice a12 l12 k12] 38)
 have HC:=zH ((C3.new w 28 (.slice ra rn rk) (.slice sa sn sk) (.slice la ln lk)).belowS hb2)
 have HR:=zH (C3.newB (b:=w.heap.size+1) (w.alloc (.cells #[.slice ra rn rk, .slice sa sn sk, .slice la ln lk] 28)) 38 (.bool t1) (.slice a11 l11 k11) (.slice a12 l12 k12) (by simp))
 have HBW:=zH (zaa hbx hb2)
 have HA:=zH (ha.below HBW.out)
 have HX:=zH (hx.below HBW.out)
 have HV:=zH hv
 clear hr hs hl ha hv hbx hb2 hx hx4 hx5
 go_enter Tryz.func81,Tryz.ntmps81
 go_upto_region 1 with fail
 have HF:=zH hf
 generalize (w.alloc (.cells #[.slice ra rn rk, .slice sa sn sk, .slice la ln lk] 28)).alloc (.cells #[.bool t1, .slice a11 l11 k11, .slice a12 l12 k12] 38)=W2 at *
 obtain⟨_,c0,c1,c2,_,_,_⟩:=HC.out
 go_wp2_with (first
  |(go_at_call 68;(with_reducible refine(zar _ c _ HA.out).mono ?_);rintro e1 w1 ⟨⟨bv,rfl,hbv⟩,hb1⟩;obtain rfl:bv=true:=hbv.2 HV.out;clear hbv
    have HX1:=zH (HX.out.below hb1)
    have HR1:=zH (HR.out.belowS hb1)
    have HB1:=zH (zaa HBW.out hb1)
    clear hb1
    obtain⟨_,d0,d1,d2,_,_,_⟩:=HR1.out)
  |(go_at_call 79;(with_reducible refine(zrd _ _ _ _ _ HX1.out HF.out).mono ?_);rintro e2 w2 ⟨rfl,hb2⟩
    have HX2:=zH (HX1.out.below hb2)
    have HR2:=zH (HR1.out.belowS hb2)
    have HB2:=zH (zaa HB1.out hb2)
    clear hb2 d0 d1 d2
    obtain⟨_,d0,d1,d2,_,_,_⟩:=HR2.out)
  |(go_at_call 145;(with_reducible refine(zer _ _ _ _ _ HX2.out).mono ?_);rintro e3 w3 ⟨rfl,hb3⟩
    have HB3:=zH (zaa HB2.out hb3)))
 go_ret
 exact⟨rfl,HB3.out⟩
set_option maxRecDepth 100000 in
theorem zir (va vx:Value) (c:RC) (t1:Bool) (nr dr:Nat) (q:Rat) (w:World) (ha:zdq w va c) (hv:zzp c) (hx:zdc w vx t1 nr dr) (hf:okN nr dr) (hfq:fq t1 nr dr=q):
 Calls Tryz.prog 82 #[va,vx] w (fun e w'=>e= .returned (.bool (decide (q<zyp c c.rates.length)))∧Below w.heap.size w w'):=by
 obtain⟨rv,sv,lv,rfl,hr,hs,hl⟩:=id ha
 obtain⟨ra,rn,rk,rfl,_⟩:=id hr.sl
 obtain⟨sa,sn,sk,rfl,_⟩:=id hs.sl
 obtain⟨la,ln,lk,rfl,_⟩:=id (zhc.sl hl)
 obtain⟨x1,y1,rfl,hx4,hx5⟩:=id hx
 obtain⟨a11,l11,k11,rfl,_⟩:=hx4.slen.1
 obtain⟨a12,l12,k12,rfl,_⟩:=hx5.slen.1
 have hbx:=zca w (.cells #[.slice ra rn rk, .slice sa sn sk, .slice la ln lk] 28)
 have hb2:=zca (w.alloc (.cells #[.slice ra rn rk, .slice sa sn sk, .slice la ln lk] 28)) (.cells #[.bool t1, .slice a11 l11 k11, .slice a12 l12 k12] 38)
 have HC:=zH ((C3.new w 28 (.slice ra rn rk) (.slice sa sn sk) (.slice la ln lk)).belowS hb2)
 have HR:=zH (C3.newB (b:=w.heap.size+1) (w.alloc (.cells #[.slice ra rn rk, .slice sa sn sk, .slice la ln lk] 28)) 38 (.bool t1) (.slice a11 l11 k11) (.slice a12 l12 k12) (by simp))
 have HBW:=zH (zaa hbx hb2)
 have HA:=zH (ha.below HBW.out)
 have HX:=zH (hx.below HBW.out)
 have HV:=zH hv
 clear hr hs hl ha hv hbx hb2 hx hx4 hx5
 have HF:=zH hf
 have HFQ:=zH hfq
 clear hf hfq
 have HFL:=zH (zwq HV.out _ (Nat.le_refl _))
 have HLT:Hid (decide (zsr q (zyp c c.rates.length)<0)=decide (q<zyp c c.rates.length)):=zH (decide_eq_decide.2 (cmpR_lt _ _))
 go_enter Tryz.func82,Tryz.ntmps82
 go_upto_region 1 with fail
 generalize (w.alloc (.cells #[.slice ra rn rk, .slice sa sn sk, .slice la ln lk] 28)).alloc (.cells #[.bool t1, .slice a11 l11 k11, .slice a12 l12 k12] 38)=W2 at *
 obtain⟨L,hL⟩:∃L,zyp c c.rates.length=L:=⟨_,rfl⟩
 have HL:=zH hL
 rw[hL]at HFL HLT
 clear hL
 have hbN:=zja (B:=W2.heap.size) W2
 have HAN:=zH (HA.out.below hbN)
 have HXN:=zH (HX.out.below hbN)
 obtain⟨_,c0,c1,c2,_,_,_⟩:=HC.out.belowS hbN
 obtain⟨_,d0,d1,d2,_,_,_⟩:=HR.out.belowS hbN
 go_region_held3 (fun w'=>w'.cell? ⟨w.heap.size,0,none⟩=some (.slice ra rn rk)∧w'.cell? ⟨w.heap.size,1,none⟩=some (.slice sa sn sk)∧w'.cell? ⟨w.heap.size,2,none⟩=some (.slice la ln lk)∧w'.cell? ⟨w.heap.size+1,0,none⟩=some (.bool t1)∧w'.cell? ⟨w.heap.size+1,1,none⟩=some (.slice a11 l11 k11)∧w'.cell? ⟨w.heap.size+1,2,none⟩=some (.slice a12 l12 k12)) (exact⟨c0,c1,c2,d0,d1,d2⟩) (first
  |(go_at_call 114;(with_reducible refine(zvv _ c _ HAN.out HV.out).mono ?_);rw[HL.out];rintro e3 w3 ⟨v3,rfl,hv3,hb3⟩
    obtain⟨t3,x3,y3,rfl,⟨a31,l31,k31,rfl,_⟩,⟨a32,l32,k32,rfl,_⟩⟩:=hv3.isF
    have HV3:=zH hv3
    have HX3:=zH (HXN.out.below hb3)
    have HB3:=zH (zaa (zaa HBW.out hbN) hb3)
    have c0:=zba hb3 c0
    have c1:=zba hb3 c1
    have c2:=zba hb3 c2
    have d0:=zba hb3 d0
    have d1:=zba hb3 d1
    have d2:=zba hb3 d2)
  |(go_at_call 130;(with_reducible refine(cmp_rc _ _ t1 nr dr q L _ HX3.out HV3.out HF.out HFQ.out HFL.out).mono ?_);rintro e4 w4 ⟨rfl,hb4⟩
    have HB4:=zH (zaa HB3.out hb4)
    have c0:=zba hb4 c0
    have c1:=zba hb4 c1
    have c2:=zba hb4 c2
    have d0:=zba hb4 d0
    have d1:=zba hb4 d1
    have d2:=zba hb4 d2))
 go_wp2
 go_ret
 exact⟨by rw[HL.out,←HLT.out];rfl,HB4.out⟩
def zfr (s:Bool) (n d:Nat):Prop:=okN n d∧s=false∧n≠0
theorem zfr.q {s:Bool} {n d:Nat} (h:zfr s n d):0<fq s n d:=by
 obtain⟨h1,rfl,h2⟩:=h
 have h3:¬fq false n d<0:=of_decide_eq_false (zqu false n d h1.1)
 have h4:fq false n d≠0:=fq_ne _ h2 h1.1
 grind
set_option maxHeartbeats 1600000
def rq (c:RC) (i j:Nat):Rat:=(zaq c i).getD j 0
theorem RF.above_dec {x:RF} (h:x.ok) (h0:¬x.q<0):(!x.neg&& !decide (x.n=0))=decide (0<x.q):=by
 by_cases hz:x.q.num=0
 ·rw[RF.above_zero h hz,Rat.num_eq_zero.1 hz]
  exact(decide_eq_false (by decide)).symm
 ·rw[RF.above_pos h h0 hz]
  refine(decide_eq_true ?_).symm
  have :x.q≠0:=fun e=>hz (by rw[e];rfl)
  grind
theorem zcw {c:RC} (hv:zzp c) {i j:Nat} (hi:i<c.rates.length) (hj:j<c.rates.length):∃hj2:j<c.rates[i].length,rq c i j=(c.rates[i][j]).q∧(c.rates[i][j]).ok∧¬ (c.rates[i][j]).q<0:=by
 obtain⟨h2,h3,h4,h5⟩:=hv.row (i:=i) (by have:=hv.2.2.1;have:=hv.2.2.2.1;omega)
 have hj2:j<c.rates[i].length:=by have:=hv.2.2.1;have:=hv.2.2.2.1;omega
 refine⟨hj2,?_,h4.ok _ (List.getElem_mem hj2),(h4.1 _ (List.getElem_mem hj2)).2.1⟩
 unfold rq
 rw[h5,List.getD_eq_getElem?_getD,List.getElem?_eq_getElem (by rw[zgq];exact hj2),Option.getD_some,zqt _ _ hj2]
set_option maxRecDepth 100000 in
theorem reach1_any (b:Nat) (c:RC) (i j:Nat) (w:World) (vr vs vl:Value) (hC:C3 w b vr vs vl) (hr:zlw w vr c.rates) (hv:zzp c) (hi:i<c.rates.length) (hj:j<c.rates.length):
 Calls Tryz.prog 172 #[.int .i64 (i:Nat), .int .i64 (j:Nat), .pointer (some ⟨b,0,none⟩)] w (fun e w'=>e= .returned (.bool (decide (0<rq c i j)))∧Below w.heap.size w w'):=by
 obtain⟨hj2,e1,e2,e3⟩:=zcw hv hi hj
 have HP:Hid ((!(c.rates[i][j]).neg&& !decide ((c.rates[i][j]).n=0))=decide (0<rq c i j)):=zH (by rw[e1];exact RF.above_dec e2 e3)
 obtain⟨P,hP⟩:∃P,decide (0<rq c i j)=P:=⟨_,rfl⟩
 rw[hP]at HP ⊢
 clear hP e1 e2 e3
 obtain⟨ri,hci,hri⟩:=hr.at' i hi
 have sr:=hr.sl
 have lr:=hr.len
 have sri:=hri.sl
 have lri:=hri.len
 obtain⟨ra,rn,rk,rfl,_⟩:=id hr.sl
 obtain⟨rai,rni,rki,rfl,_⟩:=id hri.sl
 obtain⟨ea,eb,g1,g2,g3,g4,g5⟩:=hri.at' j hj2
 obtain⟨x,hxe⟩:∃x,(c.rates[i])[j]=x:=⟨_,rfl⟩
 rw[hxe]at g1 g4 g5 HP
 obtain⟨ea1,ea2,ea3,rfl,_⟩:=g4.slen.1
 obtain⟨eb1,eb2,eb3,rfl,_⟩:=g5.slen.1
 have HXN:Hid (zdc w (.agg #[.bool x.neg, .slice ea1 ea2 ea3, .slice eb1 eb2 eb3]) x.neg x.n x.d):=zH ⟨_,_,rfl,g4,g5⟩
 obtain⟨_,c0,c1,c2,_,_,_⟩:=hC
 have i1:(0:Int)≤(i:Int):=by omega
 have i2:(i:Int)<(rn:Nat):=by have :rn=c.rates.length:=lr;omega
 have j1:(0:Int)≤(j:Int):=by omega
 have j2:(j:Int)<(rni:Nat):=by have :rni=c.rates[i].length:=lri;omega
 clear g4 g5 hxe hri hr lr lri
 go_enter Tryz.func172,Tryz.ntmps172
 go_wp2_with (go_at_call 145;(with_reducible refine(zer _ _ _ _ _ HXN.out).mono ?_);rw[HP.out];rintro e9 w9 ⟨rfl,hb9⟩)
 go_ret
 exact⟨rfl,hb9⟩
set_option maxRecDepth 100000 in
theorem fatal1_any (b:Nat) (c:RC) (j i:Nat) (w:World) (vr vs vl:Value) (hC:C3 w b vr vs vl) (hr:zlw w vr c.rates) (hv:zzp c) (hj:j<c.rates.length) (hi:i<c.rates.length):
 Calls Tryz.prog 173 #[.int .i64 (j:Nat), .int .i64 (i:Nat), .pointer (some ⟨b,0,none⟩)] w (fun e w'=>e= .returned (.bool (decide (0<rq c i j)))∧Below w.heap.size w w'):=by
 obtain⟨hj2,e1,e2,e3⟩:=zcw hv hi hj
 have HP:Hid ((!(c.rates[i][j]).neg&& !decide ((c.rates[i][j]).n=0))=decide (0<rq c i j)):=zH (by rw[e1];exact RF.above_dec e2 e3)
 obtain⟨P,hP⟩:∃P,decide (0<rq c i j)=P:=⟨_,rfl⟩
 rw[hP]at HP ⊢
 clear hP e1 e2 e3
 obtain⟨ri,hci,hri⟩:=hr.at' i hi
 have sr:=hr.sl
 have lr:=hr.len
 have sri:=hri.sl
 have lri:=hri.len
 obtain⟨ra,rn,rk,rfl,_⟩:=id hr.sl
 obtain⟨rai,rni,rki,rfl,_⟩:=id hri.sl
 obtain⟨ea,eb,g1,g2,g3,g4,g5⟩:=hri.at' j hj2
 obtain⟨x,hxe⟩:∃x,(c.rates[i])[j]=x:=⟨_,rfl⟩
 rw[hxe]at g1 g4 g5 HP
 obtain⟨ea1,ea2,ea3,rfl,_⟩:=g4.slen.1
 obtain⟨eb1,eb2,eb3,rfl,_⟩:=g5.slen.1
 have HXN:Hid (zdc w (.agg #[.bool x.neg, .slice ea1 ea2 ea3, .slice eb1 eb2 eb3]) x.neg x.n x.d):=zH ⟨_,_,rfl,g4,g5⟩
 obtain⟨_,c0,c1,c2,_,_,_⟩:=hC
 have i1:(0:Int)≤(i:Int):=by omega
 have i2:(i:Int)<(rn:Nat):=by have :rn=c.rates.length:=lr;omega
 have j1:(0:Int)≤(j:Int):=by omega
 have j2:(j:Int)<(rni:Nat):=by have :rni=c.rates[i].length:=lri;omega
 clear g4 g5 hxe hri hr lr lri
 go_enter Tryz.func173,Tryz.ntmps173
 go_wp2_with (go_at_call 145;(with_reducible refine(zer _ _ _ _ _ HXN.out).mono ?_);rw[HP.out];rintro e9 w9 ⟨rfl,hb9⟩)
 go_ret
 exact⟨rfl,hb9⟩
structure QV (w:World) (e:TypeId) (B:Nat) (u:Value) (l:List Int):Prop where
 form:∃ao cap,u= .slice ao l.length cap∧l.length≤cap∧cap≤maxLen∧(ao=none→cap=0)∧
  (0<cap→∃g off cur,ao=some ⟨g,off,none⟩∧B≤g∧w.heap[g]? =some (.cells cur e (0,0))∧off+cap≤cur.size∧∀ (j:Nat) (h:j<l.length),cur[off+j]? =some (.int .i64 l[j]))
section
variable {w w':World} {e:TypeId} {B:Nat} {u:Value} {l:List Int}
theorem QV.nil (w:World) (e:TypeId) (B:Nat):QV w e B (.slice none 0 0) []:=⟨none,0,rfl,Nat.le_refl _,Nat.zero_le _,fun _=>rfl,fun h=>by omega⟩
theorem QV.sl (h:QV w e B u l):zgc u:=by
 obtain⟨ao,cap,rfl,h1,h2,h3,_⟩:=h.form
 exact⟨ao,_,cap,rfl,h1,h2,h3⟩
theorem QV.len (h:QV w e B u l):slen u=l.length:=by
 obtain⟨ao,cap,rfl,_⟩:=h.form
 rfl
theorem QV.cell (h:QV w e B u l) (j:Nat) (hj:j<l.length):w.cell? (ptr u j)=some (.int .i64 l[j]):=by
 obtain⟨ao,cap,rfl,h1,h2,h3,h4⟩:=h.form
 obtain⟨g,off,cur,rfl,_,hg,hs,hc⟩:=h4 (by omega)
 have:=hc j hj
 simp only[ptr,base,Addr.add_lit]
 simp[World.cell?,hg,this]
theorem QV.keep (h:QV w e B u l) (hk:∀ (g:Nat) (cur:Array Value),w.heap[g]? =some (.cells cur e (0,0))→w'.heap[g]? =w.heap[g]?):QV w' e B u l:=by
 obtain⟨ao,cap,rfl,h1,h2,h3,h4⟩:=h.form
 refine⟨ao,cap,rfl,h1,h2,h3,fun hc=> ?_⟩
 obtain⟨g,off,cur,rfl,hB,hg,hs,hcc⟩:=h4 hc
 exact⟨g,off,cur,rfl,hB,by rw[hk g cur hg];exact hg,hs,hcc⟩
theorem QV.below (h:QV w e B u l) (hb:Below w.heap.size w w'):QV w' e B u l:=
 h.keep fun g cur hg=>(zze hb).block g (Array.getElem?_eq_some_iff.1 hg).1 (by simp)
theorem QV.over (h:QV w e B u l) {p:Addr} {t:TypeId} {cs:Array Value} {fz:Nat×Nat} (hp:w.heap[p.block]? =some (.cells cs t fz)) (ht:t≠e) (x:Value):QV (w.setCell p x) e B u l:=
 h.keep fun g cur hg=>Below.heap_setCell _ _ _ _ (fun e'=>by rw[e',hp]at hg;injection hg with hg;injection hg with _ hg _;exact ht hg)
theorem QV.pop {x:Int} (h:QV w e B u (x::l)):QV w e B (cut 1 u 1 (slen u)) l:=by
 obtain⟨ao,cap,rfl,h1,h2,h3,h4⟩:=h.form
 rw[List.length_cons]at h1
 obtain⟨g,off,cur,rfl,hB,hg,hs,hc⟩:=h4 (by omega)
 refine⟨if cap=1 then some ⟨g,off,none⟩else some ⟨g,off+1,none⟩,cap-1,?_,by omega,by omega,(fun e'=>by split at e'<;>cases e'),fun hc2=>⟨g,off+1,cur,by rw[if_neg (by omega)],hB,hg,by omega,fun j hj=> ?_⟩⟩
 ·simp only[cut,slen,List.length_cons,Option.map_some,Addr.add_lit,Nat.one_mul]
  rw[show l.length+1-1=l.length by omega]
 ·have:=hc (j+1) (by rw[List.length_cons];omega)
  rw[show off+1+j=off+(j+1)by omega,this]
  rfl
theorem run_append_Q {P:Program} (w:World) (B:Nat) (t ty e:TypeId) (i:TypeInfo) (ht:P.underlying t=some (.slice e)) (hi:P.info? e=some i) (hz:i.zero=some (.int .i64 0))
 (hsize:i.size=1) (hby:i.bytes=8) (v:Value) (l:List Int) (hown:QV w e B v l) (a:Addr) (c:Nat) (y:Int) (hy:w.cell? a=some (.int .i64 y)) (hn:l.length≤1000) (hbase:B≤w.heap.size):
 ∃v' w',(Builtin.append_ #[t,t] ty #[v, .slice (some a) 1 c]).run P w= .ok v' w'∧QV w' e B v' (l++ [y])∧∃r,w.grownBy w' r∧∀g,r=some g→B≤g∧∃cur,w.heap[g]? =some (.cells cur e (0,0)):=by
 obtain⟨ao,cap,rfl,h1,h2,h3,h4⟩:=hown.form
 have hs:Src P i.size t (.slice (some a) 1 c) 1 [.int .i64 y] w:=by
  rw[hsize]
  exact Src.ofSlice w ht a 1 c [.int .i64 y] rfl (fun j u hu=>by
   have hj:j=0:=by have:=(List.getElem?_eq_some_iff.1 hu).1;simp at this;omega
   subst hj
   simp at hu
   subst hu
   simpa [Addr.add]using hy) (fun u hu=>by simp at hu;subst hu;rfl)
 by_cases hroom:l.length<cap
 ·obtain⟨g,off,cur,rfl,hB,hg,hsz,hc⟩:=h4 (by omega)
  have hi1:off+l.length<cur.size:=by omega
  have hr:=run_append_room_src (P:=P) w t t ty e i ht hi g off l.length cap (.slice (some a) 1 c) 1 [.int .i64 y] hs (by omega)
   (fun j hj=>by
    have hj0:j=0:=by simp at hj;omega
    subst hj0
    rw[hsize,Nat.mul_one,Nat.add_zero]
    simp[World.cell?,hg,hi1])
   (fun j hj=>by
    rw[hsize,Nat.mul_one]
    simp[World.frozen?,hg])
  rw[hsize,Nat.mul_one]at hr
  have hst:w.setCells g (off+l.length) [.int .i64 y]=w.setCell ⟨g,off+l.length,none⟩ (.int .i64 y):=rfl
  rw[hst]at hr
  have hsame:=heap_setCell_same w g (off+l.length) cur e (.int .i64 y) hg
  refine⟨_,_,hr,⟨some ⟨g,off,none⟩,cap,by rw[List.length_append];rfl,by rw[List.length_append];simp;omega,h2,(fun e'=>by cases e'),fun _=>⟨g,off,_,rfl,hB,hsame,by rw[Array.size_setIfInBounds];exact hsz,fun j hj=> ?_⟩⟩,some g,?_,fun g' e'=> ?_⟩
  ·rw[List.length_append]at hj
   simp at hj
   by_cases hjl:j=l.length
   ·subst hjl
    rw[Array.getElem?_setIfInBounds_self_of_lt hi1]
    simp
   ·rw[Array.getElem?_setIfInBounds_ne (by omega),hc j (by omega),List.getElem_append_left (by omega)]
  ·exact⟨rfl,rfl,rfl,by simp[World.setCell],fun k hk hne=>Below.heap_setCell _ _ _ _ (fun e'=>hne (by rw[e']))⟩
  ·injection e' with e'
   subst e'
   exact⟨hB,cur,hg⟩
 ·obtain rfl:cap=l.length:=by omega
  have hold:(Builtin.firstCells i.size l.length (.slice ao l.length l.length)).run P w.drew= .ok (l.map (Value.int .i64)).toArray w.drew:=by
   rw[hsize]
   by_cases h0:0<l.length
   ·obtain⟨g,off,cur,rfl,hB,hg,hsz,hc⟩:=h4 h0
    refine run_firstCells_some w.drew 1 l.length ⟨g,off,none⟩ l.length l.length (l.map (Value.int .i64)) (by simp) (fun j u hu=> ?_)
    obtain⟨hj,rfl⟩:=List.getElem?_eq_some_iff.1 hu
    rw[List.length_map]at hj
    have:=hc j hj
    have h5:w.drew.heap[g]? =some (.cells cur e (0,0)):=hg
    rw[Addr.add_lit,List.getElem_map]
    simp[World.cell?,h5,this]
   ·have hl:l= []:=List.eq_nil_of_length_eq_zero (by omega)
    subst hl
    cases ao with
    | none=>exact run_firstCells_none w.drew 1 0 0 0
    | some b=>exact run_firstCells_some w.drew 1 0 b 0 0 [] rfl (fun j u hu=>by simp at hu)
  have hg:l.length<l.length+1:=by omega
  have hr:=run_append_grow_src (P:=P) w t t ty e i (.int .i64 0) ht hi hz ao l.length l.length (l.map (Value.int .i64)) hold (.slice (some a) 1 c) 1 [.int .i64 y] hs hg (by omega) (growslice_fits hg (by rw[hby];omega))
  have hge:=grownCap_ge w (l.length+1) l.length e
  have hcm:=grownCap_le_maxLen w (l.length+1) l.length e (by simp[maxLen];omega)
  generalize grownCap w (l.length+1) l.length e=G at *
  have e1:(l.map (Value.int .i64)++ [Value.int .i64 y])=(l++ [y]).map (Value.int .i64):=by simp
  rw[e1]at hr
  have hlen:(l++ [y]).length=l.length+1:=by simp
  refine⟨_,_,hr,⟨some ⟨w.heap.size,0,none⟩,G,by rw[hlen],by omega,hcm,(fun e'=>by cases e'),fun _=>⟨w.heap.size,0,_,rfl,hbase,heap_alloc_new w.drew _,?_,fun j hj=> ?_⟩⟩,none,?_,fun g' e'=>by cases e'⟩
  ·rw[Array.size_append,List.size_toArray,List.length_map,hlen,size_zeroCells]
   simp[Value.cells];omega
  ·rw[Nat.zero_add,Array.getElem?_append_left (by simp;omega),List.getElem?_toArray,List.getElem?_map,List.getElem?_eq_getElem hj]
   rfl
  ·exact zze ((zja (B:=w.heap.size) w).alloc (Nat.le_refl _) _)
theorem append1_q {P:Program} (t e:TypeId) (i:TypeInfo) (ht:P.underlying t=some (.slice e)) (hi:P.info? e=some i) (hz:i.zero=some (.int .i64 0)) (hsize:i.size=1) (hby:i.bytes=8)
 (w0:World) {ops:Array Oper} {rest:List Oper} {o:Oper} {a:Act} {Q:Exit→Act→World→Prop} (hgd:o.guard=none) (s x:Operand)
 (ho:o.op= .call { callee:= .builtin .append,args:=#[s,x],argTypes:=#[t,t] }) (B:Nat) (e':TypeId)
 (v:Value) (l:List Int) (hs:a.eval s=v) (hown:QV w0 e B v l) (y:Int) (hxe:a.eval x= .slice (some ⟨w0.heap.size,0,none⟩) 1 1) (hn:l.length≤1000) (hbase:B≤w0.heap.size)
 (h:∀v' w',QV w' e B v' (l++ [y])→Below B w0 w'→(∀ (tB:TypeId) (B1:Nat) (v1:Value) (es:List Value),tB≠e→zce w0 tB B1 v1 es→zce w' tB B1 v1 es)→zgc v'→wpList P ops Q rest (a.put o.dst v') w'):
 wpList P ops Q (o::rest) a (w0.alloc (.cells #[.int .i64 y] e')):=by
 refine wpList_plain hgd fun K hK=> ?_
 have hba:=zca w0 (.cells #[.int .i64 y] e')
 obtain⟨v',w',hr,h2,r,h3,h4⟩:=run_append_Q (P:=P) (w0.alloc (.cells #[.int .i64 y] e')) B t o.type e i ht hi hz hsize hby v l (hown.below hba) ⟨w0.heap.size,0,none⟩ 1 y (by simp) hn (Nat.le_trans hbase hba.size)
 unfold Oper.wp execOp
 simp only[ho,resolve,invoke,builtin,Sem.run_bind,Sem.run_pure,Result.andThen_ok,List.map_toArray,List.map_cons,List.map_nil,hs,hxe,hr]
 refine hK _ _ (h v' w' h2 ((hba.mono hbase).trans (zna h3 (Nat.le_trans hbase hba.size) (fun k hk=>(h4 k hk).1))) (fun tB B1 v1 es hne ho=> ?_) h2.sl)
 have ho2:=ho.below hba
 refine World.ownsRow.kept ho2 h3 ?_
 cases hv1:v1.ownBlock with
 | none=>exact Or.inl rfl
 | some g=>
   refine Or.inr (fun e2=> ?_)
   obtain⟨_,cur,hc⟩:=h4 g e2.symm
   obtain⟨c,fz,hk⟩:=Lib.ownsRow_kind ho2 g hv1
   rw[hk]at hc
   injection hc with hc
   injection hc with _ hc _
   exact hne hc
end
end Go.Proofs.YtlpdkbmmbdfoiaaGreat
