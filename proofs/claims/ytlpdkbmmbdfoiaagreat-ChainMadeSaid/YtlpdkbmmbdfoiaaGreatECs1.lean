/- Lemmas. -/
import Derived.Test.YtlpdkbmmbdfoiaaGreatESp5
set_option linter.unusedVariables false
set_option linter.unusedSimpArgs false
namespace Go.Proofs.YtlpdkbmmbdfoiaaGreat
set_option maxHeartbeats 3200000
open Go.RowKit
theorem cmp_rc (va vb:Value) (s:Bool) (n d:Nat) (p q:Rat) (w:World) (ha:zdc w va s n d) (hb:zqa w vb q) (hn:okN n d) (hp:fq s n d=p) (hq:fits q):
 Calls Tryz.prog 130 #[va,vb] w fun en w'=>en= .returned (.tuple #[.int .i64 (zsr p q), .int .i64 0])/\Below w.heap.size w w':=by
 have h:=cmp_frac va vb _ _ _ _ _ _ w ha hb.raw hn (zuc hq)
 rw[zvb,hp]at h
 exact h
set_option maxRecDepth 100000 in
theorem zpq (va vx:Value) (c:RC) (t1:Bool) (nr dr:Nat) (w:World) (ha:zdq w va c) (hv:zzp c) (hx:zdc w vx t1 nr dr) (hf:okN nr dr):
 Calls Tryz.prog 81 #[va,vx] w (fun e w'=>e= .returned (.bool (!t1&& !decide (nr=0)))/\Below w.heap.size w w'):=by
 obtain⟨rv,sv,lv,rfl,hr,hs,hl⟩:=id ha
 obtain⟨ra,rn,rk,rfl,_⟩:=id hr.sl
 obtain⟨sa,sn,sk,rfl,_⟩:=id hs.sl
 obtain⟨la,ln,lk,rfl,_⟩:=id (zhc.sl hl)
 obtain⟨x1,y1,rfl,hx4,hx5⟩:=id hx
 obtain⟨a11,l11,k11,rfl,_⟩:=hx4.slen.1
 obtain⟨a12,l12,k12,rfl,_⟩:=hx5.slen.1
 have hbx:=zca w (.cells #[.slice ra rn rk, .slice sa sn sk, .slice la ln lk] 28)
 have hb2:=zca (w.alloc (.cells #[.slice ra rn rk, .slice sa sn sk, .slice la ln lk] 28)) (.cells #[.bool t1, .slice a11 l11 k11, .slice a12 l12 k12] 38)
 have HC:=zH ((C3.new w 28 (.slice ra rn rk) (.slice sa sn sk) (.slice la ln lk)).belowS hb2)
 have HR:=zH (C3.newB (b:=w.heap.size+1) (w.alloc (.cells #[.slice ra rn rk, .slice sa sn sk, .slice la ln lk] 28)) 38 (.bool t1) (.slice a11 l11 k11) (.slice a12 l12 k12) (by simp))
 have HBW:=zH (zaa hbx hb2)
 have HA:=zH (ha.below HBW.out)
 have HX:=zH (hx.below HBW.out)
 have HV:=zH hv
 clear hr hs hl ha hv hbx hb2 hx hx4 hx5
 go_enter Tryz.func81,Tryz.ntmps81
 go_upto_region 1 with fail
 have HF:=zH hf
 generalize (w.alloc (.cells #[.slice ra rn rk, .slice sa sn sk, .slice la ln lk] 28)).alloc (.cells #[.bool t1, .slice a11 l11 k11, .slice a12 l12 k12] 38)=W2 at *
 obtain⟨_,c0,c1,c2,_,_,_⟩:=HC.out
 go_wp2_with (first
  |(go_at_call 68;(with_reducible refine(zar _ c _ HA.out).mono ?_);rintro e1 w1 ⟨⟨bv,rfl,hbv⟩,hb1⟩;obtain rfl:bv=true:=hbv.2 HV.out;clear hbv
    have HX1:=zH (HX.out.below hb1)
    have HR1:=zH (HR.out.belowS hb1)
    have HB1:=zH (zaa HBW.out hb1)
    clear hb1
    obtain⟨_,d0,d1,d2,_,_,_⟩:=HR1.out)
  |(go_at_call 79;(with_reducible refine(zrd _ _ _ _ _ HX1.out HF.out).mono ?_);rintro e2 w2 ⟨rfl,hb2⟩
    have HX2:=zH (HX1.out.below hb2)
    have HR2:=zH (HR1.out.belowS hb2)
    have HB2:=zH (zaa HB1.out hb2)
    clear hb2 d0 d1 d2
    obtain⟨_,d0,d1,d2,_,_,_⟩:=HR2.out)
  |(go_at_call 145;(with_reducible refine(zer _ _ _ _ _ HX2.out).mono ?_);rintro e3 w3 ⟨rfl,hb3⟩
    have HB3:=zH (zaa HB2.out hb3)))
 go_ret
 exact⟨rfl,HB3.out⟩
set_option maxRecDepth 100000 in
theorem rated_no (va vx:Value) (c:RC) (t1:Bool) (nr dr:Nat) (w:World) (ha:zdq w va c) (hv:zzp c) (hx:zdc w vx t1 nr dr) (hf:¬okN nr dr):
 Calls Tryz.prog 81 #[va,vx] w (fun e w'=>e= .returned (.bool false)/\Below w.heap.size w w'):=by
 obtain⟨rv,sv,lv,rfl,hr,hs,hl⟩:=id ha
 obtain⟨ra,rn,rk,rfl,_⟩:=id hr.sl
 obtain⟨sa,sn,sk,rfl,_⟩:=id hs.sl
 obtain⟨la,ln,lk,rfl,_⟩:=id (zhc.sl hl)
 obtain⟨x1,y1,rfl,hx4,hx5⟩:=id hx
 obtain⟨a11,l11,k11,rfl,_⟩:=hx4.slen.1
 obtain⟨a12,l12,k12,rfl,_⟩:=hx5.slen.1
 have hbx:=zca w (.cells #[.slice ra rn rk, .slice sa sn sk, .slice la ln lk] 28)
 have hb2:=zca (w.alloc (.cells #[.slice ra rn rk, .slice sa sn sk, .slice la ln lk] 28)) (.cells #[.bool t1, .slice a11 l11 k11, .slice a12 l12 k12] 38)
 have HC:=zH ((C3.new w 28 (.slice ra rn rk) (.slice sa sn sk) (.slice la ln lk)).belowS hb2)
 have HR:=zH (C3.newB (b:=w.heap.size+1) (w.alloc (.cells #[.slice ra rn rk, .slice sa sn sk, .slice la ln lk] 28)) 38 (.bool t1) (.slice a11 l11 k11) (.slice a12 l12 k12) (by simp))
 have HBW:=zH (zaa hbx hb2)
 have HA:=zH (ha.below HBW.out)
 have HX:=zH (hx.below HBW.out)
 have HV:=zH hv
 clear hr hs hl ha hv hbx hb2 hx hx4 hx5
 go_enter Tryz.func81,Tryz.ntmps81
 go_upto_region 1 with fail
 have HF:=zH hf
 generalize (w.alloc (.cells #[.slice ra rn rk, .slice sa sn sk, .slice la ln lk] 28)).alloc (.cells #[.bool t1, .slice a11 l11 k11, .slice a12 l12 k12] 38)=W2 at *
 obtain⟨_,c0,c1,c2,_,_,_⟩:=HC.out
 go_wp2_with (first
  |(go_at_call 68;(with_reducible refine(zar _ c _ HA.out).mono ?_);rintro e1 w1 ⟨⟨bv,rfl,hbv⟩,hb1⟩;obtain rfl:bv=true:=hbv.2 HV.out;clear hbv
    have HX1:=zH (HX.out.below hb1)
    have HR1:=zH (HR.out.belowS hb1)
    have HB1:=zH (zaa HBW.out hb1)
    clear hb1
    obtain⟨_,d0,d1,d2,_,_,_⟩:=HR1.out)
  |(go_at_call 79;(with_reducible refine(zys _ _ _ _ _ HX1.out HF.out).mono ?_);rintro e2 w2 ⟨rfl,hb2⟩
    have HX2:=zH (HX1.out.below hb2)
    have HR2:=zH (HR1.out.belowS hb2)
    have HB2:=zH (zaa HB1.out hb2)
    clear hb2 d0 d1 d2
    obtain⟨_,d0,d1,d2,_,_,_⟩:=HR2.out))
 go_ret
 exact⟨rfl,HB2.out⟩
set_option maxRecDepth 100000 in
theorem zir (va vx:Value) (c:RC) (t1:Bool) (nr dr:Nat) (q:Rat) (w:World) (ha:zdq w va c) (hv:zzp c) (hx:zdc w vx t1 nr dr) (hf:okN nr dr) (hfq:fq t1 nr dr=q):
 Calls Tryz.prog 82 #[va,vx] w (fun e w'=>e= .returned (.bool (decide (q<zyp c c.rates.length)))/\Below w.heap.size w w'):=by
 obtain⟨rv,sv,lv,rfl,hr,hs,hl⟩:=id ha
 obtain⟨ra,rn,rk,rfl,_⟩:=id hr.sl
 obtain⟨sa,sn,sk,rfl,_⟩:=id hs.sl
 obtain⟨la,ln,lk,rfl,_⟩:=id (zhc.sl hl)
 obtain⟨x1,y1,rfl,hx4,hx5⟩:=id hx
 obtain⟨a11,l11,k11,rfl,_⟩:=hx4.slen.1
 obtain⟨a12,l12,k12,rfl,_⟩:=hx5.slen.1
 have hbx:=zca w (.cells #[.slice ra rn rk, .slice sa sn sk, .slice la ln lk] 28)
 have hb2:=zca (w.alloc (.cells #[.slice ra rn rk, .slice sa sn sk, .slice la ln lk] 28)) (.cells #[.bool t1, .slice a11 l11 k11, .slice a12 l12 k12] 38)
 have HC:=zH ((C3.new w 28 (.slice ra rn rk) (.slice sa sn sk) (.slice la ln lk)).belowS hb2)
 have HR:=zH (C3.newB (b:=w.heap.size+1) (w.alloc (.cells #[.slice ra rn rk, .slice sa sn sk, .slice la ln lk] 28)) 38 (.bool t1) (.slice a11 l11 k11) (.slice a12 l12 k12) (by simp))
 have HBW:=zH (zaa hbx hb2)
 have HA:=zH (ha.below HBW.out)
 have HX:=zH (hx.below HBW.out)
 have HV:=zH hv
 clear hr hs hl ha hv hbx hb2 hx hx4 hx5
 have HF:=zH hf
 have HFQ:=zH hfq
 clear hf hfq
 have HFL:=zH (zwq HV.out _ (zLR _))
 have HLT:Hid (decide (zsr q (zyp c c.rates.length)<0)=decide (q<zyp c c.rates.length)):=zH (decide_eq_decide.2 (cmpR_lt _ _))
 go_enter Tryz.func82,Tryz.ntmps82
 go_upto_region 1 with fail
 generalize (w.alloc (.cells #[.slice ra rn rk, .slice sa sn sk, .slice la ln lk] 28)).alloc (.cells #[.bool t1, .slice a11 l11 k11, .slice a12 l12 k12] 38)=W2 at *
 obtain⟨L,hL⟩:∃L,zyp c c.rates.length=L:=⟨_,rfl⟩
 have HL:=zH hL
 rw[hL]at HFL HLT
 clear hL
 have hbN:=zja (B:=W2.heap.size) W2
 have HAN:=zH (HA.out.below hbN)
 have HXN:=zH (HX.out.below hbN)
 obtain⟨_,c0,c1,c2,_,_,_⟩:=HC.out.belowS hbN
 obtain⟨_,d0,d1,d2,_,_,_⟩:=HR.out.belowS hbN
 go_region_held3 (fun w'=>w'.cell? ⟨w.heap.size,0,none⟩=some (.slice ra rn rk)/\w'.cell? ⟨w.heap.size,1,none⟩=some (.slice sa sn sk)/\w'.cell? ⟨w.heap.size,2,none⟩=some (.slice la ln lk)/\w'.cell? ⟨w.heap.size+1,0,none⟩=some (.bool t1)/\w'.cell? ⟨w.heap.size+1,1,none⟩=some (.slice a11 l11 k11)/\w'.cell? ⟨w.heap.size+1,2,none⟩=some (.slice a12 l12 k12)) (exact⟨c0,c1,c2,d0,d1,d2⟩) (first
  |(go_at_call 114;(with_reducible refine(zvv _ c _ HAN.out HV.out).mono ?_);rw[HL.out];rintro e3 w3 ⟨v3,rfl,hv3,hb3⟩
    obtain⟨t3,x3,y3,rfl,⟨a31,l31,k31,rfl,_⟩,⟨a32,l32,k32,rfl,_⟩⟩:=hv3.isF
    have HV3:=zH hv3
    have HX3:=zH (HXN.out.below hb3)
    have HB3:=zH (zaa (zaa HBW.out hbN) hb3)
    have c0:=zba hb3 c0
    have c1:=zba hb3 c1
    have c2:=zba hb3 c2
    have d0:=zba hb3 d0
    have d1:=zba hb3 d1
    have d2:=zba hb3 d2)
  |(go_at_call 130;(with_reducible refine(cmp_rc _ _ t1 nr dr q L _ HX3.out HV3.out HF.out HFQ.out HFL.out).mono ?_);rintro e4 w4 ⟨rfl,hb4⟩
    have HB4:=zH (zaa HB3.out hb4)
    have c0:=zba hb4 c0
    have c1:=zba hb4 c1
    have c2:=zba hb4 c2
    have d0:=zba hb4 d0
    have d1:=zba hb4 d1
    have d2:=zba hb4 d2))
 go_wp2
 go_ret
 exact⟨by rw[HL.out,<-HLT.out];rfl,HB4.out⟩
def zfr (s:Bool) (n d:Nat):Prop:=okN n d/\s=false/\n≠0
theorem zfr.q {s:Bool} {n d:Nat} (h:zfr s n d):0<fq s n d:=by
 obtain⟨h1,rfl,h2⟩:=h
 have h3:¬fq false n d<0:=of_decide_eq_false (zqu false n d h1.1)
 have h4:fq false n d≠0:=fq_ne _ h2 h1.1
 grind
end Go.Proofs.YtlpdkbmmbdfoiaaGreat
namespace Go.Proofs.YtlpdkbmmbdfoiaaGreat
def zyw (own:Int) (p q:List Rat):Prop:=∀ (i:Nat) (x y:Rat),(i:Int)≠own->p[i]? =some x->q[i]? =some y->x=y
def agree (bl:List Int) (f:Nat->List Rat) (g:Nat->Bool) (i j:Nat):Prop:=∀b,bl[i]? =some b->bl[j]? =some b->g i=g j/\zyw b (f i) (f j)
def zeq (q:Rat):Prop:=∃a b:Nat,a<=4/\1<=b/\b<=4/\q=fq false a b
theorem zeq.zero :zeq 0:=⟨0,1,by decide,by decide,by decide,by decide⟩
theorem zeq.cases (P:Rat->Prop) [DecidablePred P] (h:∀a,a<5->∀b,b<5->b≠0->P (fq false a b)) {q:Rat} (hq:zeq q):P q:=by
 obtain⟨a,b,h1,h2,h3,rfl⟩:=hq
 exact h a (by omega) b (by omega) (by omega)
theorem zeq.nonneg {q:Rat} (h:zeq q):¬q<0:=zeq.cases (fun q=>¬q<0) (by decide) h
theorem zeq.wt {q:Rat} (h:zeq q):wt q<=6:=zeq.cases (fun q=>Go.Proofs.YtlpdkbmmbdfoiaaGreat.wt q<=6) (by decide) h
theorem zeq.num {q:Rat} (h:zeq q):q.num.natAbs<=4:=zeq.cases (fun q=>q.num.natAbs<=4) (by decide) h
theorem zeq.den {q:Rat} (h:zeq q):q.den<=4:=zeq.cases (fun q=>q.den<=4) (by decide) h
theorem zrt {n:Nat} (h:n<=4):zua n<=3:=zwb.2 (by omega)
theorem zou {n:Nat} (h:n<=4):zda n<=4:=zzb.2 (by simp[pw];omega)
theorem zeq.fits {q:Rat} (h:zeq q):fits q:=⟨zLT (zrt h.num) (by decide),zLT (zrt h.den) (by decide)⟩
structure zrr (c:CQ):Prop where
 n2:2<=c.start.length
 n5:c.start.length<=5
 ll:c.lost.length=c.start.length
 rl:c.rates.length=c.start.length
 st:∀q∈c.start,zeq q
 sum:zgg c.start=1
 rows:∀ (i:Nat) (r:List Rat),c.rates[i]? =some r->r.length=c.start.length/\(∀q∈r,zeq q)/\(∀x:Rat,r[i]? =some x->x=0)/\(c.lost[i]? =some true->∀q∈r,q=0)
theorem wts_small {l:List Rat} (h:∀q∈l,zeq q):wts l<=6*l.length:=by
 induction l with
 | nil=>simp[wts]
 | cons x l ih=>
   have h1:=(h x (by simp)).wt
   have h2:=ih (fun q hq=>h q (by simp[hq]))
   rw[zmg,List.length_cons]
   omega
theorem zbu (l:List Rat):qs (l.map RF.of)=l:=by
 unfold qs
 rw[List.map_map]
 conv=>rhs;rw[<-List.map_id l]
 exact List.map_congr_left (fun q _=>RF.of_q q)
theorem zlu {l:List Rat} {n:Nat} (hn:l.length=n) (hn5:n<=5) (h:∀q∈l,zeq q):zlr (l.map RF.of) n:=by
 refine⟨fun x hx=> ?_,by rw[List.length_map];exact hn,by rw[zbu];have:=wts_small h;omega⟩
 obtain⟨q,hq,rfl⟩:=List.mem_map.1 hx
 have hs:=h q hq
 refine⟨RF.of_ok hs.fits,?_⟩
 rw[RF.of_q]
 exact⟨hs.nonneg,zou hs.num,zou hs.den⟩
theorem zrr.valid {c:CQ} (h:zrr c):zzp c.raw:=by
 obtain⟨n2,n5,ll,rl,st,sum,rows⟩:=h
 refine⟨by simp[CQ.raw];omega,by simp[CQ.raw];omega,by simp[CQ.raw];exact ll,by simp[CQ.raw];exact rl,?_,fun i r hr=> ?_,?_⟩
 ·have:=zlu (n:=c.start.length) rfl n5 st
  simpa [CQ.raw]using this
 ·simp only[CQ.raw,List.getElem?_map,Option.map_eq_some_iff]at hr
  obtain⟨r',hr',rfl⟩:=hr
  obtain⟨k1,k2,k3,k4⟩:=rows i r' hr'
  refine⟨?_,fun x hx=> ?_,fun hl=> ?_⟩
  ·have:=zlu k1 n5 k2
   simpa [CQ.raw]using this
  ·rw[List.getElem?_map,Option.map_eq_some_iff]at hx
   obtain⟨q,hq,rfl⟩:=hx
   rw[RF.of_q,k3 q hq]
   rfl
  ·rw[zbu]
   have h0:=k4 hl
   have :∀l:List Rat,(∀q∈l,q=0)->wts l=0:=fun l=>by
    induction l with
    | nil=>intro _;rfl
    | cons x l ih=>
      intro h
      rw[zmg,ih (fun q hq=>h q (by simp[hq])),h x (by simp)]
      decide
   exact this r' h0
 ·have :qs c.raw.start=c.start:=zbu _
  rw[this];exact sum
def RowF (n lo i:Nat) (r:List Rat) (m:Nat):Prop:=r.length=m/\(∀q∈r,zeq q)/\(∀x:Rat,r[i]? =some x->x=0)/\((n:Int)-lo<=i->∀q∈r,q=0)
theorem RowF.nil (n lo i:Nat):RowF n lo i [] 0:=⟨rfl,fun q h=>by simp at h,fun x h=>by simp at h,fun _ q h=>by simp at h⟩
theorem RowF.snoc {n lo i m:Nat} {r:List Rat} {x:Rat} (h:RowF n lo i r m) (hx:zeq x) (h1:i=m->x=0) (h2:(n:Int)-lo<=i->x=0):RowF n lo i (r++ [x]) (m+1):=by
 obtain⟨a,b,c,d⟩:=h
 refine⟨by simp[a],fun q hq=> ?_,fun y hy=> ?_,fun hl q hq=> ?_⟩
 ·rcases List.mem_append.1 hq with h | h
  ·exact b q h
  ·simp at h;subst h;exact hx
 ·rcases Nat.lt_or_ge i r.length with h | h
  ·rw[List.getElem?_append_left h]at hy
   exact c y hy
  ·have hi:i<(r++ [x]).length:=(List.getElem?_eq_some_iff.1 hy).1
   have hi2:i=m:=by simp at hi;omega
   rw[List.getElem?_append_right h]at hy
   have h0:i-r.length=0:=by omega
   rw[h0]at hy
   simp at hy
   rw[<-hy]
   exact h1 hi2
 ·rcases List.mem_append.1 hq with h | h
  ·exact d hl q h
  ·simp at h;subst h;exact h2 hl
structure TF (n lo i left:Nat) (rates:List (List Rat)) (start:List Rat) (lost:List Bool):Prop where
 sl:start.length=i
 ll:lost.length=i
 rl:rates.length=i
 left4:left<=4
 fin:i=n->left=0
 sum:zgg start=fq false (4-left) 4
 st:∀q∈start,zeq q
 los:∀ (j:Nat) (b:Bool),lost[j]? =some b->b=decide ((n:Int)-lo<=j)
 rows:∀ (j:Nat) (r:List Rat),rates[j]? =some r->RowF n lo j r n
theorem TF.zero (n lo:Nat) (hn:0<n):TF n lo 0 4 [] [] []:=
 ⟨rfl,rfl,rfl,zLR _,fun h=>by omega,by decide,fun q h=>by simp at h,fun j b h=>by simp at h,fun j r h=>by simp at h⟩
theorem zlz (a b:Nat):fq false a 4+fq false b 4=fq false (a+b) 4:=by
 rw[zhh false a 4 b 4 (by decide) (by decide)]
 unfold fq sgn
 simp only[Bool.false_eq_true,if_false]
 rw[show((a*4+b*4:Nat):Int)=((a+b:Nat):Int)*4 from by omega,show(4*4:Nat)=4*4 from rfl]
 exact Rat.mkRat_mul_right (by decide)
theorem TF.step {n lo i left k:Nat} {rates:List (List Rat)} {start:List Rat} {lost:List Bool} {r:List Rat} (h:TF n lo i left rates start lost) (hk:k<=left) (hl:i+1=n->k=left) (hr:RowF n lo i r n):
 TF n lo (i+1) (left-k) (rates++ [r]) (start++ [fq false k 4]) (lost++ [decide ((n:Int)-lo<=i)]):=by
 obtain⟨sl,ll,rl,l4,fin,sum,st,hlo,rows⟩:=h
 refine⟨by simp[sl],by simp[ll],by simp[rl],by omega,fun h=>by have:=hl h;omega,?_,fun q hq=> ?_,fun j b hb=> ?_,fun j q hq=> ?_⟩
 ·rw[zgl,sum,zlz,show 4-left+k=4- (left-k)from by omega]
 ·rcases List.mem_append.1 hq with h | h
  ·exact st q h
  ·simp at h;subst h;exact⟨k,4,by omega,by decide,by decide,rfl⟩
 ·rcases Nat.lt_or_ge j lost.length with h | h
  ·rw[List.getElem?_append_left h]at hb;exact hlo j b hb
  ·have hj:j<(lost++ [decide ((n:Int)-lo<=i)]).length:=(List.getElem?_eq_some_iff.1 hb).1
   have hj2:j=i:=by simp at hj;omega
   rw[List.getElem?_append_right h,show j-lost.length=0 from by omega]at hb
   simp at hb
   rw[<-hb,hj2]
 ·rcases Nat.lt_or_ge j rates.length with h | h
  ·rw[List.getElem?_append_left h]at hq;exact rows j q hq
  ·have hj:j<(rates++ [r]).length:=(List.getElem?_eq_some_iff.1 hq).1
   have hj2:j=i:=by simp at hj;omega
   rw[List.getElem?_append_right h,show j-rates.length=0 from by omega]at hq
   simp at hq
   rw[<-hq,hj2]
   exact hr
theorem TF.done {n lo left:Nat} {rates:List (List Rat)} {start:List Rat} {lost:List Bool} (h:TF n lo n left rates start lost) (h2:2<=n) (h5:n<=5):zrr ⟨rates,start,lost⟩:=by
 obtain⟨sl,ll,rl,l4,fin,sum,st,hlo,rows⟩:=h
 refine⟨by simp[sl,h2],by simp[sl,h5],by simp[sl,ll],by simp[sl,rl],st,?_,fun i r hr=> ?_⟩
 ·have:=fin rfl
  subst this
  rw[sum];decide
 ·obtain⟨a,b,c,d⟩:=rows i r hr
  refine⟨by simp[sl,a],b,c,fun hl=>d ?_⟩
  have:=hlo i true hl
  simpa using this.symm
theorem zkr (c:CQ) (i:Nat):zaq c.raw i=c.rates.getD i []:=by
 unfold zaq CQ.raw
 simp only[List.getD,List.getElem?_map]
 cases h:c.rates[i]? with
 | none=>rfl
 | some r=>simp[zbu]
theorem zbz (l:List Rat) (s x:Rat):l.foldl (· + ·) (s+x)=l.foldl (· + ·) s+x:=by
 induction l generalizing s with
 | nil=>rfl
 | cons y l ih=>
   simp only[List.foldl_cons]
   rw[show s+x+y=s+y+x by grind,ih]
section
variable {c:CQ} {of:List Int} {share:List Rat}
end
section
variable {c:CQ} {of:List Int} {share:List Rat}
theorem zrr.rate (ht:zrr c) {i j:Nat} (hi:i<c.start.length) (hj:j<c.start.length):zeq ((c.rates.getD i []).getD j 0):=by
 have h1:i<c.rates.length:=by rw[ht.rl];exact hi
 obtain⟨r1,r2,_⟩:=ht.rows i _ (zGE h1)
 have h2:j<c.rates[i].length:=by rw[r1];exact hj
 simp only[List.getD,zGE h1,Option.getD_some,zGE h2]
 exact r2 _ (zGM h2)
end
theorem zyx (x:Rat) (l:List Rat):zgg (x::l)=zgg l+x:=by
 unfold zgg
 rw[List.foldl_cons,zbz]
theorem zix {c:RC} (h:zzp c) {i:Nat} (hi:i<c.lost.length):(zaq c i).length=c.lost.length:=by
 obtain⟨h1,h2,h3,h4,h5,h6,h7⟩:=h
 have hi2:i<c.rates.length:=by omega
 unfold zaq
 simp only[List.getD,zGE hi2,Option.getD_some]
 rw[zgq,(h6 i _ (zGE hi2)).1.2.1,h3]
def zeu (N:Nat) (q:Rat):Prop:=∃a:Nat,a<=N/\q=fq false a 144
theorem zeu.zero (N:Nat):zeu N 0:=⟨0,zZL _,by decide+kernel⟩
theorem zeu.mono {N M:Nat} {q:Rat} (h:zeu N q) (hm:N<=M):zeu M q:=by obtain⟨a,h1,h2⟩:=h;exact⟨a,by omega,h2⟩
theorem zjr (a b m:Nat) (hm:m≠0):fq false a b=fq false (a*m) (b*m):=by
 unfold fq sgn
 simp only[Bool.false_eq_true,if_false]
 rw[show((a*m:Nat):Int)=(a:Int)*(m:Int)from by simp,Rat.mkRat_mul_right hm]
theorem zeu.add {N M:Nat} {p q:Rat} (hp:zeu N p) (hq:zeu M q):zeu (N+M) (p+q):=by
 obtain⟨a,h1,rfl⟩:=hp
 obtain⟨b,h2,rfl⟩:=hq
 refine⟨a+b,by omega,?_⟩
 rw[zhh false a 144 b 144 (by decide) (by decide),zjr (a+b) 144 144 (by decide),Nat.add_mul]
theorem zeq.twelve {q:Rat} (h:zeq q):∃a:Nat,a<=48/\q=fq false a 12:=by
 obtain⟨a,b,h1,h2,h3,rfl⟩:=h
 have hb:b=1\/b=2\/b=3\/b=4:=by omega
 rcases hb with rfl | rfl | rfl | rfl
 ·exact⟨a*12,by omega,zjr a 1 12 (by decide)⟩
 ·exact⟨a*6,by omega,zjr a 2 6 (by decide)⟩
 ·exact⟨a*4,by omega,zjr a 3 4 (by decide)⟩
 ·exact⟨a*3,by omega,zjr a 4 3 (by decide)⟩
theorem zeu.sum {N:Nat} {l:List Rat} (h:∀q∈l,zeu N q):zeu (N*l.length) (zgg l):=by
 induction l with
 | nil=>exact zeu.zero _
 | cons x l ih=>
   rw[zyx,List.length_cons,Nat.mul_succ]
   exact(ih (fun q hq=>h q (by simp[hq]))).add (h x (by simp))
theorem zeu.over {N:Nat} {q:Rat} (h:zeu N q):over 144 N q:=by
 obtain⟨a,h1,rfl⟩:=h
 exact⟨a,by simp[Go.Proofs.YtlpdkbmmbdfoiaaGreat.fq,sgn],by simpa using h1⟩
structure StepOk (c:RC) (ρ:Rat) (v:List Rat):Prop where
 fρ:fits ρ
 pos:0<ρ
 le:zyp c c.rates.length<=ρ
 h1:∀i j,i<c.rates.length->j<c.rates.length->fits ((zaq c i).getD j 0/ρ)
 h2:∀i,i<c.rates.length->fits (zgg (zaq c i)/ρ)/\fits (1-zgg (zaq c i)/ρ)
 hw:wtF c.rates.length c.rates.length (zfq c ρ)+wts v<=3800
def zqy (c:RC) (ρ:Rat) (v:List Rat):List Rat:=zib c.rates.length fun j=>sg c.rates.length fun i=>v.getD i 0*zfq c ρ i j
theorem stepV_length (c:RC) (ρ:Rat) (v:List Rat):(zqy c ρ v).length=c.rates.length:=zea _ _
theorem mk_fq (a d:Nat):fq false a d=mkRat ((a:Nat):Int) d:=rfl
theorem ztu {l:List Rat} {K:Nat} (h:∀q∈l,wt q<=K):wts l<=l.length*K:=by
 induction l with
 | nil=>simp[wts]
 | cons x l ih=>
   have h1:=h x (by simp)
   have h2:=ih fun q hq=>h q (by simp[hq])
   rw[zmg,List.length_cons,Nat.succ_mul]
   omega
section
variable {c:RC}
theorem zfv (hr:∀i,i<c.rates.length->∀q∈zaq c i,zeu 2304 q) {i j:Nat} (hi:i<c.rates.length):over 144 2304 ((zaq c i).getD j 0):=by
 by_cases hj:j<(zaq c i).length
 ·rw[zGD,zGE hj]
  exact(hr i hi _ (zGM hj)).over
 ·rw[zGD,List.getElem?_eq_none (by omega)]
  exact over.zero _ _
theorem big_sum (hv:zzp c) (hn:c.rates.length<=10) (hr:∀i,i<c.rates.length->∀q∈zaq c i,zeu 2304 q) {i:Nat} (hi:i<c.rates.length):zeu 23040 (zgg (zaq c i)):=by
 have h1:=zix hv (i:=i) (by have:=hv.2.2.1;have:=hv.2.2.2.1;omega)
 refine(zeu.sum (hr i hi)).mono ?_
 have:=hv.2.2.1
 have:=hv.2.2.2.1
 omega
theorem stepOk_of (hv:zzp c) (hn:c.rates.length<=10) (hr:∀i,i<c.rates.length->∀q∈zaq c i,zeu 2304 q) {R:Nat} (hR0:R≠0) (hR:R<=23328) (hle:zyp c c.rates.length<=mkRat ((R:Nat):Int) 144) {v:List Rat} (hw:wts v<=700):
 StepOk c (mkRat ((R:Nat):Int) 144) v/\∀i j,i<c.rates.length->j<c.rates.length->over R 48672 (zfq c (mkRat ((R:Nat):Int) 144) i j):=by
 have ho:∀i j,i<c.rates.length->j<c.rates.length->over R 48672 (zfq c (mkRat ((R:Nat):Int) 144) i j):=fun i j hi hj=>
  (stepE_over (n:=c.rates.length) (N:=2304) (S:=23040) hR0 (fun i j hi _=>zfv hr hi) (fun i hi=>(big_sum hv hn hr hi).over) hi hj).mono (by omega)
 refine⟨⟨?_,?_,hle,step_fits1 (N:=2304) hR0 (by omega) (by decide) (fun i j hi _=>zfv hr hi),step_fits2 (S:=23040) hR0 (by omega) (by decide) (fun i hi=>(big_sum hv hn hr hi).over),?_⟩,ho⟩
 ·exact over.fits (D:=144) (B:=R) (by decide) ⟨R,rfl,by simp⟩ (zLL hR (by decide+kernel)) (by decide+kernel)
 ·have h1:¬fq false R 144<0:=of_decide_eq_false (zqu false R 144 (by decide))
  have h2:fq false R 144≠0:=fq_ne _ hR0 (by decide)
  rw[mk_fq]at h1 h2
  grind
 ·have h1:wtF c.rates.length c.rates.length (zfq c (mkRat ((R:Nat):Int) 144))<=c.rates.length*(c.rates.length*31):=wtF_le fun i j hi hj=>
   over.wt (a:=16) (b:=15) hR0 (ho i j hi hj) (by decide) (by omega)
  have h2:c.rates.length*(c.rates.length*31)<=10*(10*31):=Nat.mul_le_mul hn (zMR _ hn)
  omega
theorem stepV_over {R D B:Nat} (hD:D≠0) (hR0:R≠0) {ρ:Rat} (ho:∀i j,i<c.rates.length->j<c.rates.length->over R 48672 (zfq c ρ i j)) {v:List Rat} (hvo:∀q∈v,over D B q):∀q∈zqy c ρ v,over (D*R) (c.rates.length*(B*48672)) q:=by
 intro q hq
 unfold zqy zib at hq
 obtain⟨j,hj,rfl⟩:=List.mem_map.1 hq
 have hj2:=List.mem_range.1 hj
 refine over.sg (Nat.mul_ne_zero hD hR0) fun i hi=>over.mul ?_ (ho i j hi hj2)
 by_cases hi2:i<v.length
 ·rw[zGD,zGE hi2];exact hvo _ (zGM hi2)
 ·rw[zGD,List.getElem?_eq_none (by omega)];exact over.zero _ _
end
end Go.Proofs.YtlpdkbmmbdfoiaaGreat
namespace Go.Proofs.YtlpdkbmmbdfoiaaGreat
open Go.RowKit
def itV (c:RC) (ρ:Rat):Nat->List Rat
 | 0=>qs c.start
 | k+1=>zqy c ρ (itV c ρ k)
theorem znq {c:RC} (hv:zzp c) (ρ:Rat):∀k,(itV c ρ k).length=c.rates.length
 | 0=>by rw[itV,zgq,hv.2.2.2.1]
 | k+1=>stepV_length _ _ _
def wtA (c:RC) (ρ:Rat) (k:Nat):Nat:=wtF c.rates.length c.rates.length (zfq c ρ)+wts (itV c ρ k)
theorem stepV_fits {c:RC} {ρ:Rat} {v:List Rat} (hl:v.length=c.rates.length) (hw:wtF c.rates.length c.rates.length (zfq c ρ)+wts v<=3800):∀x∈zqy c ρ v,fits x:=fun x hx=>by
 unfold zqy zib at hx
 obtain⟨j,hj,rfl⟩:=List.mem_map.1 hx
 exact zvu hl hw (zLR _) (List.mem_range.1 hj)
theorem zbt {c:RC} (hv:zzp c) {ρ:Rat}:∀k,(∀i,i<k->wtA c ρ i<=3800)->∀x∈itV c ρ k,fits x
 | 0,_=>fun x hx=>by
   obtain⟨y,hy,rfl⟩:=List.mem_map.1 hx
   exact RF.fits (hv.2.2.2.2.1.ok y hy)
 | k+1,h=>stepV_fits (znq hv ρ k) (h k (Nat.lt_succ_self k))
theorem zrq {c:RC} {ρ:Rat} (h1:∀i j,i<c.rates.length->j<c.rates.length->fits ((zaq c i).getD j 0/ρ)) (h2:∀i,i<c.rates.length->fits (zgg (zaq c i)/ρ)/\fits (1-zgg (zaq c i)/ρ)):zau c.rates.length c.rates.length (zfq c ρ):=fun i j hi hj=>by
 unfold zfq;split
 ·exact(h2 i hi).2
 ·exact h1 i j hi hj
theorem cstep_can (va vv:Value) (c:RC) (ρ:Rat) (v:List Rat) (w:World) (ha:zam w va c.rates.length c.rates.length (zfq c ρ)) (hv:zbb w vv v) (hl:v.length=c.rates.length) (hn:c.rates.length<=128) (hf:∀x∈v,fits x) (hm:zau c.rates.length c.rates.length (zfq c ρ))
 (hw:wtF c.rates.length c.rates.length (zfq c ρ)+wts v<=3800):
 Calls Tryz.prog 84 #[va,vv] w fun e w'=>∃v',e= .returned (.tuple #[v', .int .i64 0])/\zbb w' v' (zqy c ρ v)/\Below w.heap.size w w':=by
 have hq:qs (v.map RF.of)=v:=zvh v
 have h:=cstep_any va vv c.rates.length (zfq c ρ) (v.map RF.of) w ha hv.raw (by rw[List.length_map];exact hl) hn (fun x hx=>by obtain⟨y,hy,rfl⟩:=List.mem_map.1 hx;exact RF.of_ok (hf y hy)) hm (by rw[hq];exact hw)
 rw[hq]at h
 exact h
set_option maxRecDepth 100000 in
set_option maxHeartbeats 6400000 in
theorem after_ok (va vx:Value) (c:RC) (t1:Bool) (nr dr:Nat) (q:Rat) (m:Nat) (w:World) (ha:zdq w va c) (hv:zzp c) (hx:zdc w vx t1 nr dr) (hp:zfr t1 nr dr) (hfq:fq t1 nr dr=q) (hm:m<=64) (hle:zyp c c.rates.length<=q)
 (h1:∀i j,i<c.rates.length->j<c.rates.length->fits ((zaq c i).getD j 0/q)) (h2:∀i,i<c.rates.length->fits (zgg (zaq c i)/q)/\fits (1-zgg (zaq c i)/q)) (hw:∀i,i<m->wtA c q i<=3800):
 Calls Tryz.prog 48 #[va,vx, .int .i64 (m:Nat)] w (fun e w'=>∃v,e= .returned (.tuple #[v, .int .i64 0])/\zbb w' v (itV c q m)/\Below w.heap.size w w'):=by
 have HFM:=zH (zrq h1 h2)
 have HW:=zH hw
 have HSTEP:Hid (∀ (i:Nat) w0 va vv,i<m->zam w0 va c.rates.length c.rates.length (zfq c q)->zbb w0 vv (itV c q i)->Calls Tryz.prog 84 #[va,vv] w0 fun e w'=>∃v',e= .returned (.tuple #[v', .int .i64 0])/\zbb w' v' (itV c q (i+1))/\Below w0.heap.size w0 w'):=
  zH (fun i w0 va vv hi k1 k2=>cstep_can va vv c q (itV c q i) w0 k1 k2 (znq hv q i) (by have:=hv.2.1;have:=hv.2.2.2.1;omega) (zbt hv i (fun j hj=>hw j (by omega))) (zrq h1 h2) (hw i hi))
 clear hw
 obtain⟨i0,hi,hz0,hz1,hz2⟩:=info_parts Tryz.infoF
 have hM:=zon (P:=Tryz.prog) 25 38 i0 Tryz.underlying25 hi hz0 hz1 (by rw[hz2];decide)
 clear hi hz0 hz1 hz2
 have hlen:c.rates.length=c.start.length:=hv.2.2.2.1
 have h128:c.start.length<=128:=hv.2.1
 obtain⟨rv,sv,lv,rfl,hr,hs,hl⟩:=id ha
 obtain⟨ra,rn,rk,rfl,_⟩:=id hr.sl
 obtain⟨sa,sn,sk,rfl,_⟩:=id hs.sl
 obtain⟨la,ln,lk,rfl,_⟩:=id (zhc.sl hl)
 obtain⟨x1,y1,rfl,hx4,hx5⟩:=id hx
 obtain⟨a11,l11,k11,rfl,_⟩:=hx4.slen.1
 obtain⟨a12,l12,k12,rfl,_⟩:=hx5.slen.1
 have hbx:=zca w (.cells #[.slice ra rn rk, .slice sa sn sk, .slice la ln lk] 28)
 have hb2:=zca (w.alloc (.cells #[.slice ra rn rk, .slice sa sn sk, .slice la ln lk] 28)) (.cells #[.bool t1, .slice a11 l11 k11, .slice a12 l12 k12] 38)
 have HC:=zH ((C3.new w 28 (.slice ra rn rk) (.slice sa sn sk) (.slice la ln lk)).belowS hb2)
 have HR:=zH (C3.newB (b:=w.heap.size+1) (w.alloc (.cells #[.slice ra rn rk, .slice sa sn sk, .slice la ln lk] 28)) 38 (.bool t1) (.slice a11 l11 k11) (.slice a12 l12 k12) (by simp))
 have HBW:=zH (zaa hbx hb2)
 have hsn:sn=c.start.length:=hs.len
 have ssn:=hs.sl
 have HS:=zH (hs.below HBW.out)
 have HA:=zH (ha.below HBW.out)
 have HX:=zH (hx.below HBW.out)
 have HV:=zH hv
 have HF:=zH hp.1
 have HFQ:=zH hfq
 have HPOS:Hid ((!t1&& !decide (nr=0))=true):=zH (by rw[hp.2.1,decide_eq_false hp.2.2];rfl)
 have HQ0:Hid (q≠0):=zH (fun h=>by have:=hp.q;rw[hfq,h]at this;exact absurd this (by decide))
 have HSLOW:Hid (decide (q<zyp c c.rates.length)=false):=zH (decide_eq_false (Rat.not_lt.2 hle))
 have HM:Hid (∀w0 va vx,zdq w0 va c->zdc w0 vx t1 nr dr->Calls Tryz.prog 83 #[va,vx] w0 (fun e w'=>∃v,e= .returned (.tuple #[v, .int .i64 0])/\zam w' v c.rates.length c.rates.length (zfq c q)/\Below w0.heap.size w0 w')):=
  zH (fun w0 va vx k1 k2=>zrs va vx c t1 nr dr q w0 k1 HV.out k2 HF.out HFQ.out HQ0.out h1 h2)
 have HN:Hid (sn=c.rates.length):=zH (by omega)
 have hn128:sn<=128:=by omega
 have hm0:(0:Int)<=(m:Int):=by omega
 have hm64:(m:Int)<=64:=by omega
 clear hr hs hl ha hv hbx hb2 hx hx4 hx5 hp hfq hle h1 h2 hlen h128 hsn
 go_enter Tryz.func48,Tryz.ntmps48
 go_upto_region 1 with fail
 generalize (w.alloc (.cells #[.slice ra rn rk, .slice sa sn sk, .slice la ln lk] 28)).alloc (.cells #[.bool t1, .slice a11 l11 k11, .slice a12 l12 k12] 38)=W2 at *
 obtain⟨_,c0,c1,c2,_,_,_⟩:=HC.out
 obtain⟨_,d0,d1,d2,_,_,_⟩:=HR.out
 go_wp2_with (first
  |(go_at_call 81;(with_reducible refine(zpq _ _ c t1 nr dr _ HA.out HV.out HX.out HF.out).mono ?_);rw[HPOS.out];rintro e1 w1 ⟨rfl,hb1⟩
    have HA1:=zH (HA.out.below hb1)
    have HX1:=zH (HX.out.below hb1)
    have HS1:=zH (HS.out.below hb1)
    have HC1:=zH (HC.out.belowS hb1)
    have HR1:=zH (HR.out.belowS hb1)
    have HB1:=zH (zaa HBW.out hb1)
    clear hb1
    obtain⟨_,c0,c1,c2,_,_,_⟩:=HC1.out
    obtain⟨_,d0,d1,d2,_,_,_⟩:=HR1.out)
  |(go_at_call 82;(with_reducible refine(zir _ _ c t1 nr dr q _ HA1.out HV.out HX1.out HF.out HFQ.out).mono ?_);rw[HSLOW.out];rintro e3 w3 ⟨rfl,hb3⟩
    have HA3:=zH (HA1.out.below hb3)
    have HX3:=zH (HX1.out.below hb3)
    have HS3:=zH (HS1.out.below hb3)
    have HC3:=zH (HC1.out.belowS hb3)
    have HR3:=zH (HR1.out.belowS hb3)
    have HB3:=zH (zaa HB1.out hb3)
    clear hb3 c0 c1 c2 d0 d1 d2
    obtain⟨_,c0,c1,c2,_,_,_⟩:=HC3.out
    obtain⟨_,d0,d1,d2,_,_,_⟩:=HR3.out)
  |(refine hM w3 rfl _ _ rfl w3.heap.size _ sn rfl rfl rfl (by omega) (zLR _) ?_;intro vL w6 hO6 hb6 hv6
    have HO6:=zH hO6
    have HB6:=zH hb6
    have slL:=hO6.sl
    have lnL:=hO6.len
    have c0:=zba hb6 c0
    have c1:=zba hb6 c1
    have c2:=zba hb6 c2
    clear hO6 hb6))
 clear hM
 go_loopg [37] (sn) (fun g u37 wr=>∃ (k:Nat),k<=sn/\g=sn-k/\u37= .int .i64 k/\zqb wr 38 w3.heap.size vL sn/\(∀j,j<k->zlg wr vL j ((qs c.start).getD j 0))/\Below w3.heap.size w3 wr)
 case atStart=>exact⟨0,zZL _,rfl,rfl,HO6.out,fun j h=>by omega,HB6.out⟩
 case round=>
  obtain⟨k,hkn,hg,rfl,ho,he,hbr⟩:=hrel
  obtain⟨w2,hw2⟩:∃w2,w2=wr:=⟨_,rfl⟩
  subst hw2
  have HG:=zH hg
  have HE:=zH he
  have HO:=zH ho
  have HBR:=zH hbr
  clear hg he HO6 HB6 c0 c1 c2 d0 d1 d2
  by_cases hkl:k<sn
  ·have hk2:k<c.start.length:=by have:=HN.out;have:=HV.out.2.2.2.1;omega
   obtain⟨ea,eb,g1,g2,g3,g4,g5⟩:=(HS3.out.below hbr).at' k hk2
   have HXO:Hid ((c.start[k]'hk2).ok):=zH (HV.out.2.2.2.2.1.ok _ (zGM hk2))
   have HXQ:Hid ((qs c.start).getD k 0=(c.start[k]'hk2).q):=zH (by
    have h2:k<(qs c.start).length:=by rw[zgq];exact hk2
    rw[zGD,zGE h2,Option.getD_some,zqt _ _ hk2])
   obtain⟨x,hxe⟩:∃x,c.start[k]'hk2=x:=⟨_,rfl⟩
   rw[hxe]at g1 g4 g5 HXO HXQ
   obtain⟨ea1,ea2,ea3,rfl,_⟩:=g4.slen.1
   obtain⟨eb1,eb2,eb3,rfl,_⟩:=g5.slen.1
   have hb8:=zca w2 (.cells #[.bool x.neg, .slice ea1 ea2 ea3, .slice eb1 eb2 eb3] 38)
   have HXN:Hid (zdc (w2.alloc (.cells #[.bool x.neg, .slice ea1 ea2 ea3, .slice eb1 eb2 eb3] 38)) (.agg #[.bool x.neg, .slice ea1 ea2 ea3, .slice eb1 eb2 eb3]) x.neg x.n x.d):=zH (zdc.below ⟨_,_,rfl,g4,g5⟩ hb8)
   have j1:(0:Int)<=(k:Int):=by omega
   have j2:(k:Int)<(sn:Nat):=by omega
   clear g4 g5 hxe ho hbr
   go_wp2_with (go_at_call 89;(with_reducible refine(zok _ x _ HXN.out HXO.out).mono ?_);rintro e21 w21 ⟨v21,rfl,hv21,hb21⟩
                obtain⟨t21,x21,y21,rfl,⟨a61,l61,k61,rfl,_⟩,⟨a62,l62,k62,rfl,_⟩⟩:=hv21.isF
                have hbb:=zaa hb8 hb21
                have ho3:=HO.out.below hbb
                obtain⟨c0,d0,_⟩:=ho3.cell (k*3) (by omega)
                obtain⟨c1,d1,_⟩:=ho3.cell (k*3+1) (by omega)
                obtain⟨c2,d2,_⟩:=ho3.cell (k*3+2) (by omega)
                have f0:=ho3.frozen (k*3)
                have f1:=ho3.frozen (k*3+1)
                have f2:=ho3.frozen (k*3+2)
                have n01:=ho3.inj (show k*3≠k*3+1 by omega)
                have n02:=ho3.inj (show k*3≠k*3+2 by omega)
                have n12:=ho3.inj (show k*3+1≠k*3+2 by omega)
                have HS4:=zH (ho3.set3 k (.bool t21) (.slice a61 l61 k61) (.slice a62 l62 k62) (fun z=>by simp) (fun z=>by simp) (fun z=>by simp))
                have HE4:=zH (fun j hj=>(HE.out j hj).below hbb)
                have HO4:=zH ho3
                have HV4:=zH hv21
                have HB4:=zH (zfa HBR.out hbb HBR.out.size)
                clear ho3 hv21 hbb hb21)
   go_roundg (sn- (k+1))
   case measure=>(have:=HG.out;omega)
   case rel=>
    refine⟨k+1,by omega,rfl,by go_num,HS4.out.1,fun j hj=> ?_,HB4.out.trans HS4.out.2⟩
    rcases Nat.lt_or_ge j k with h6 | h6
    ·exact zlg.set3_other HO4.out hkl (by omega) (HE4.out j h6) _ _ _ (fun z=>by simp) (fun z=>by simp)
    ·obtain rfl:j=k:=by omega
     rw[HXQ.out]
     exact zlg.set3 HO4.out hkl HV4.out
  ·obtain rfl:k=sn:=by omega
   have HV0:Hid (zbb w2 vL (itV c q 0)):=zH (HO.out.fracs (by rw[znq HV.out];exact HN.out.symm) (fun j hj=>by
    have h2:j<(qs c.start).length:=hj
    have h3:=HE.out j (by rw[znq HV.out]at hj;rw[HN.out];exact hj)
    rw[zGD,zGE h2]at h3
    exact h3))
   have HA4:=zH (HA3.out.below hbr)
   have HX4:=zH (HX3.out.below hbr)
   have HB4:=zH (zaa HB3.out hbr)
   obtain⟨_,c0,c1,c2,_,_,_⟩:=HC3.out.belowS hbr
   obtain⟨_,d0,d1,d2,_,_,_⟩:=HR3.out.belowS hbr
   clear ho hbr HO HE HBR HG
   by_cases hm1:m=0
   ·subst hm1
    have hm2:(((0:Nat):Int)==0)=true:=rfl
    go_wp2_with fail
    go_ret2
    exact⟨_,rfl,HV0.out,HB4.out⟩
   ·have hm2:(((m:Nat):Int)==0)=false:=by simp;omega
    go_wp2_with (go_at_call 83;(with_reducible refine(HM.out _ _ _ HA4.out HX4.out).mono ?_);rintro e4 w4 ⟨v4,rfl,hm4,hb4⟩
                 have HM4:=zH hm4
                 have HV4:=zH (HV0.out.below hb4)
                 have HB5:=zH (zaa HB4.out hb4)
                 clear hm4 hb4)
    go_loopg [2,8,12] (m) (fun g u2 u8 u12 wr=>∃ (i:Nat),i<=m/\g=m-i/\u2= .int .i64 ((m:Int)- (i:Int))/\u12= .int .i64 0/\zbb wr u8 (itV c q i)/\Below w4.heap.size w4 wr)
    case atStart=>exact⟨0,zZL _,rfl,by simp,rfl,HV4.out,Below.refl _ _⟩
    case round=>
     obtain⟨i,hin,hg,rfl,rfl,hvi,hbi⟩:=hrel
     obtain⟨w5,hw5⟩:∃w5,w5=wr:=⟨_,rfl⟩
     subst hw5
     have HG:=zH hg
     have HVI:=zH hvi
     have HBI:=zH hbi
     have HMI:=zH (HM4.out.below hbi)
     clear hg hvi hbi
     by_cases hil:i<m
     ·have hpos:(0:Int)<(m:Int)- (i:Int):=by omega
      go_wp2_with (go_at_call 84;(with_reducible refine(HSTEP.out i _ _ _ hil HMI.out HVI.out).mono ?_);rintro e6 w6 ⟨v6,rfl,hv6',hb6⟩
                   have HV6:=zH hv6'
                   have HB6:=zH (zaa HBI.out hb6)
                   clear hv6' hb6)
      go_roundg (m- (i+1))
      case measure=>(have:=HG.out;omega)
      case rel=>exact⟨i+1,by omega,rfl,by go_num,rfl,HV6.out,HB6.out⟩
     ·obtain rfl:i=m:=by omega
      have hpos:¬ (0:Int)<(i:Int)- (i:Int):=by omega
      go_wp2_with fail
      go_ret2
      exact⟨_,rfl,HVI.out,zaa HB5.out HBI.out⟩
theorem zbb.nilS (w:World):zbb w (.slice none 0 0) []:=⟨zgc.nil,rfl,fun j h=>by simp at h⟩
def wtR (c:RC) (ρ:Rat) (v:List Rat):Nat:=wtF c.rates.length c.rates.length (zfq c ρ)+wts v
def zur (c:RC) (ρ:Rat) (v:List Rat):Int:=if wtR c ρ v<=3800 then 0 else 2
def zjs (c:RC) (ρ:Rat) (v:List Rat):List Rat:=if wtR c ρ v<=3800 then zqy c ρ v else []
def RSt (w0:World) (er:Int) (l:List Rat) (e:Ending) (w:World):Prop:=∃v,e= .returned (.tuple #[v, .int .i64 er])/\zbb w v l/\Below w0.heap.size w0 w
def zdu (c:RC) (ρ:Rat):Prop:=(∀i j,i<c.rates.length->j<c.rates.length->fits ((zaq c i).getD j 0/ρ))/\(∀i,i<c.rates.length->fits (zgg (zaq c i)/ρ)/\fits (1-zgg (zaq c i)/ρ))
theorem RSt.nil {w0 w:World} {er er':Int} {l:List Rat} (h:er=er') (hl:l= []) (hb:Below w0.heap.size w0 w):RSt w0 er' l (.returned (.tuple #[.slice none 0 0, .int .i64 er])) w:=by
 subst h hl;exact⟨_,rfl,zbb.nilS _,hb⟩
end Go.Proofs.YtlpdkbmmbdfoiaaGreat
