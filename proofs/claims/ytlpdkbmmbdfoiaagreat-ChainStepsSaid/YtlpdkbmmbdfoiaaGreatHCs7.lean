/-
  package drydocklaw21: ChainSteps, the walk.
-/
import Derived.Test.YtlpdkbmmbdfoiaaGreatHHp1
import Derived.Test.YtlpdkbmmbdfoiaaGreatHHe0
import Derived.Test.YtlpdkbmmbdfoiaaGreatHHs1
set_option linter.unusedVariables false
set_option linter.unusedSimpArgs false
namespace Go.Proofs.YtlpdkbmmbdfoiaaGreat
open Go.RowKit
theorem val_128 {l:List Nat} (h:Lm l) (h4:l.length≤4):val l<2^128:=by
 have h1:=zoe h
 have h2:pw l.length≤pw 4:=zzu h4
 have h3:pw 4=2^128:=by decide+kernel
 omega
theorem zev {H M:Nat} {q:Rat} (h0:H≠0) (h:over H M q) (h1:H<2^200) (h2:M<2^200):fits q:=
 h.fits h0 (Nat.lt_trans h2 (zcu (by decide))) (Nat.lt_trans h1 (zcu (by decide)))
theorem big_mul {a b K:Nat} (ha:a≤K) (hb:b<2^128) (hK:K*2^128<2^200):a*b<2^200:=
 Nat.lt_of_le_of_lt (Nat.mul_le_mul ha (Nat.le_of_lt hb)) hK
theorem fit_rate {c:CQ} (ht:zrr c) {s:Bool} {n d:Nat} (hp:zfr s n d) (hn:n<2^128) (hd:d<2^128):zdu c.raw (fq s n d):=by
 have hqv:=ht.valid
 have hq0:fq s n d≠0:=fun h=>by have:=hp.q;rw[h]at this;exact absurd this (by decide)
 obtain⟨hok,rfl,hn0⟩:=hp
 have hd0:d≠0:=hok.1
 have hm:c.raw.rates.length=c.start.length:=hqv.2.2.2.1.trans (by simp[CQ.raw])
 have ho:over d n (fq false n d):=⟨n,rfl,by simp⟩
 have k1:144*n<2^200:=big_mul (Nat.le_refl 144) hn (by decide+kernel)
 have hsum:∀i,i<c.raw.rates.length→over 144 23040 (zgg (zaq c.raw i)):=fun i hi=>(big_sum hqv (by have:=ht.n5;omega) (zuu ht) hi).over
 refine⟨fun i j hi hj=> ?_,fun i hi=> ?_⟩
 ·have hg:over 144 2304 ((zaq c.raw i).getD j 0):=zfv (zuu ht) hi
  obtain⟨H,h1,h2,h3⟩:=over.div2 (F:=144) (G:=d) (by decide) hd0 hg ho hq0
  exact zev h1 h3 (Nat.lt_of_le_of_lt h2 k1) (big_mul (Nat.le_refl 2304) hd (by decide+kernel))
 ·obtain⟨H,h1,h2,h3⟩:=over.div2 (F:=144) (G:=d) (by decide) hd0 (hsum i hi) ho hq0
  have k2:23040*d<2^200:=big_mul (Nat.le_refl 23040) hd (by decide+kernel)
  have k3:H≤144*n:=h2
  refine⟨zev h1 h3 (Nat.lt_of_le_of_lt h2 k1) k2,?_⟩
  have h4:=over.sub2 (F:=1) (G:=H) (N:=1) (by decide) h1 (over.one (D:=1) (by decide)) h3
  refine zev (by omega) h4 (by omega) ?_
  have k4:144*n+23040*d<2^200:=by
   have a1:144*n≤144*2^128:=Nat.mul_le_mul_left _ (Nat.le_of_lt hn)
   have a2:23040*d≤23040*2^128:=Nat.mul_le_mul_left _ (Nat.le_of_lt hd)
   exact Nat.lt_of_le_of_lt (Nat.add_le_add a1 a2) (by decide+kernel)
  omega
structure StepsF (c:CQ) (s:Bool) (n d:Nat) (row:List RF) (m:Int) (e1 e2:Int) (l1 l2:List Rat):Prop where
 a:∀w va vx vv,zlq w va c→zdc w vx s n d→zni w vv row→Calls Tryz.prog 22 #[va,vx,vv] w (RSt w e1 l1)
 b:∀w va vx vv,zlq w va c→zdc w vx s n d→zni w vv row→Calls Tryz.prog 53 #[va,vx,vv] w (RSt w e1 l1)
 x:∀w va vx,zlq w va c→zdc w vx s n d→Calls Tryz.prog 48 #[va,vx, .int .i64 m] w (RSt w e2 l2)
 y:∀w va vx,zlq w va c→zdc w vx s n d→Calls Tryz.prog 51 #[va,vx, .int .i64 m] w (RSt w e2 l2)
theorem steps_facts {c:CQ} (ht:zrr c) (s:Bool) (n d:Nat) (hn:n<2^128) (hd:d<2^128) (row:List RF) (m:Int):StepsF c s n d row m (zxs c.raw s n d row) (apErr c.raw s n d m) (zws c.raw s n d row) (apVal c.raw s n d m):=by
 have hv:=ht.valid
 have h24:c.start.length≤24:=by have:=ht.n5;omega
 have hf:zfr s n d→zyp c.raw c.raw.rates.length≤fq s n d→zdu c.raw (fq s n d):=fun hp _=>fit_rate ht hp hn hd
 exact⟨fun w va vx vv k1 k2 k3=>step_all va vx vv c.raw s n d row w k1.raw hv k2 k3 hf,fun w va vx vv k1 k2 k3=>rstep_all va vx vv c s n d row w k1 hv h24 k2 k3 hf,
  fun w va vx k1 k2=>after_all va vx c.raw s n d m w k1.raw hv k2 hf,fun w va vx k1 k2=>rafter_all va vx c s n d m w k1 hv h24 k2 hf⟩
set_option maxRecDepth 100000 in
set_option maxHeartbeats 12800000 in
theorem steps_any (vt:Value) (l:List Nat) (y:RFL) (a b vv:Value) (row:List RFL) (m:Int) (w:World) (ht:zhc w vt (bytes l)) (htb:∀x∈l,x<256) (h1:zfc w a y.a) (h2:zfc w b y.b) (hv:zvs w vv row):
 Calls Tryz.prog 11 #[vt, .agg #[.bool y.neg,a,b],vv, .int .i64 m] w (fun e w'=>e= .returned (.bool true)∧Below w.heap.size w w'):=by
 obtain⟨xa,xn,xk,rfl,_⟩:=id h1.sl
 obtain⟨ya,yn,yk,rfl,_⟩:=id h2.sl
 obtain⟨va,vn,vk,rfl,_⟩:=id hv.sl
 have hxn:xn=y.a.length:=h1.len
 have hyn:yn=y.b.length:=h2.len
 have hvn:vn=row.length:=hv.len
 have svv:=hv.sl
 have hba:=zca w (.cells #[.bool y.neg, .slice xa xn xk, .slice ya yn yk] 38)
 have HC0:=zH (C3.new w 38 (.bool y.neg) (.slice xa xn xk) (.slice ya yn yk))
 have HB:=zH hba
 have HN:=zH (And.intro (h1.belowS hba) (h2.belowS hba))
 have HLN:=zH (And.intro hxn (And.intro hyn hvn))
 have HV:=zH (hv.below hba)
 have HT:=zH (ht.below hba)
 have HTB:=zH htb
 clear h1 h2 hba hxn hyn hvn hv ht htb
 go_enter Tryz.func11,Tryz.ntmps11
 go_upto_region 1 with fail
 obtain⟨b0,hb0⟩:∃b,w.heap.size=b:=⟨_,rfl⟩
 have HB0:=zH hb0
 generalize w.alloc (.cells #[.bool y.neg, .slice xa xn xk, .slice ya yn yk] 38)=W1 at *
 rw[hb0]at HC0 ⊢
 clear hb0
 obtain⟨-,c0,c1,c2,-,-,-⟩:=HC0.out
 by_cases hx:xn≤4
 rotate_left
 ·have ex:decide ((4:Int)<(xn:Nat))=true:=decide_eq_true (by omega)
  have hx4:(4:Int)<(xn:Nat):=by omega
  go_wp2_with (first
   |(go_at_call 46;(with_reducible refine(zoq _).mono ?_);rintro e12 w12 ⟨rfl,hb12⟩))
  go_ret
  exact⟨rfl,zaa HB.out hb12⟩
 have ex:¬ (4:Int)<(xn:Nat):=by omega
 by_cases hy:yn≤4
 rotate_left
 ·have hy4:(4:Int)<(yn:Nat):=by omega
  go_wp2_with (first
   |(go_at_call 46;(with_reducible refine(zoq _).mono ?_);rintro e12 w12 ⟨rfl,hb12⟩))
  go_ret
  exact⟨rfl,zaa HB.out hb12⟩
 have ey:¬ (4:Int)<(yn:Nat):=by omega
 by_cases hz:vn≤12
 rotate_left
 ·have hz4:(12:Int)<(vn:Nat):=by omega
  go_wp2_with (first
   |(go_at_call 46;(with_reducible refine(zoq _).mono ?_);rintro e12 w12 ⟨rfl,hb12⟩))
  go_ret
  exact⟨rfl,zaa HB.out hb12⟩
 have ez:¬ (12:Int)<(vn:Nat):=by omega
 go_wp2_with fail
 go_loopg [9] (vn) (fun g u9 wr=>∃ (k:Nat),k≤vn∧g=vn-k∧u9= .int .i64 k∧wr=W1∧(∀x∈row.take k,x.a.length≤4∧x.b.length≤4))
 case atStart=>exact⟨0,Nat.zero_le _,rfl,rfl,rfl,by simp⟩
 case round=>
  obtain⟨k,hk,hg,rfl,rfl,h8⟩:=hrel
  have H8:=zH h8
  have HG:=zH hg
  clear h8 hg
  by_cases hkl:k<vn
  ·have hkr:k<row.length:=by rw[←HLN.out.2.2];exact hkl
   obtain⟨za,zb,d1,d2,d3,hza,hzb⟩:=HV.out.at' k hkr
   have HSN:=zH (zxc row k hkr)
   have sza:=hza.sl
   have szb:=hzb.sl
   have lza:=hza.len
   have lzb:=hzb.len
   generalize row[k]'hkr=x at *
   generalize hXA:x.a.length=na at *
   generalize hXB:x.b.length=nb at *
   have HXA:=zH hXA
   have HXB:=zH hXB
   have i1:(0:Int)≤(k:Int):=by omega
   have i2:(k:Int)<(vn:Nat):=by omega
   clear hza hzb hXA hXB
   by_cases ga:4<na
   ·have ga4:(4:Int)<(na:Nat):=by omega
    go_wp2_with (first
     |(go_at_call 46;(with_reducible refine(zoq _).mono ?_);rintro e12 w12 ⟨rfl,hb12⟩))
    go_ret
    exact⟨rfl,zaa HB.out hb12⟩
   ·have ga4:¬ (4:Int)<(na:Nat):=by omega
    by_cases gb:4<nb
    ·have gb4:(4:Int)<(nb:Nat):=by omega
     go_wp2_with (first
      |(go_at_call 46;(with_reducible refine(zoq _).mono ?_);rintro e12 w12 ⟨rfl,hb12⟩))
     go_ret
     exact⟨rfl,zaa HB.out hb12⟩
    ·have gb4:¬ (4:Int)<(nb:Nat):=by omega
     go_wp2_with fail
     go_roundg (vn- (k+1))
     case measure=>(have:=HG.out;omega)
     case rel=>exact⟨k+1,by omega,rfl,by go_num,rfl,by rw[HSN.out];intro r hr;rcases List.mem_append.1 hr with h | h;exact H8.out r h;simp at h;subst h;rw[HXA.out,HXB.out];omega⟩
  ·obtain rfl:k=vn:=by omega
   have hsm:∀x∈row,x.small:=fun x hx=>by
    have h:=H8.out x (by rw[List.take_of_length_le (by rw[←HLN.out.2.2];exact Nat.le_refl _)];exact hx)
    exact⟨by omega,by omega⟩
   obtain⟨s,hs⟩:∃s,y.neg=s:=⟨_,rfl⟩
   have h1l:y.a.length≤4:=by rw[←HLN.out.1];exact hx
   have h2l:y.b.length≤4:=by rw[←HLN.out.2.1];exact hy
   have hn:=val_128 HN.out.1.lm h1l
   have hd:=val_128 HN.out.2.lm h2l
   have hX:zdc wr (.agg #[.bool y.neg, .slice xa xn xk, .slice ya yn yk]) y.neg (val y.a) (val y.b):=⟨_,_,rfl,⟨y.a,HN.out.1,rfl,by omega⟩,⟨y.b,HN.out.2,rfl,by omega⟩⟩
   rw[hs]at hX HC0 c0
   obtain⟨p,hp⟩:∃p,val y.a=p:=⟨_,rfl⟩
   obtain⟨d,hd9⟩:∃d,val y.b=d:=⟨_,rfl⟩
   rw[hp]at hX hn
   rw[hd9]at hX hd
   have HX:=zH hX
   have HVN:=zH (HV.out.raw hsm)
   have HS:=zH hs
   have HPD:=zH (And.intro hn hd)
   clear hX hsm hs hp hd9 hn hd h1l h2l HG H8 HV HN hx hy hz
   go_upto_region 9 with(first
    |(go_at_call 41;(with_reducible refine(new_any _ l _ HT.out HTB.out).mono ?_);rintro e1 w1 ⟨bt,rfl,hbt,hT1,hbel1⟩)
    |(go_at_call 42;(with_reducible refine(chain_any bt 0 _ _ hT1).mono ?_);rintro e2 w2 ⟨v2,c,a2,rfl,hC2,hTP,hT2,hsz2,hfr2⟩
      obtain⟨vr,vs,vl,rfl,m1,m2,m3⟩:=id hC2
      obtain⟨ar,nr,kr,rfl,_⟩:=id m1.sl
      obtain⟨as',ns,ks,rfl,_⟩:=id m2.sl
      obtain⟨al,nl,kl,rfl,_⟩:=id (zhc.sl m3)
      have hb12:=hbel1.trans (hfr2 _ hbt hbel1.size)
      have ba3:=zca w2 (.cells #[.slice ar nr kr, .slice as' ns ks, .slice al nl kl] 28)
      have HTP:=zH hTP
      have HC3:=zH (C3.new w2 28 (.slice ar nr kr) (.slice as' ns ks) (.slice al nl kl))
      have HCH:=zH (hC2.below ba3)
      have hbN:=hb12.trans (ba3.mono hb12.size)
      replace HB:=zH (zaa HB.out hbN);replace HC0:=zH (HC0.out.belowS hbN);replace HX:=zH (HX.out.below hbN);replace HVN:=zH (HVN.out.below hbN)
      clear hC2 m1 m2 m3 hTP hfr2 hT1 hT2 hbel1 hsz2 hb12 ba3 hbt hbN c0 c1 c2))
   obtain⟨b3,hb3⟩:∃b,w2.heap.size=b:=⟨_,rfl⟩
   rw[hb3]at HC3 ⊢
   clear hb3
   generalize w2.alloc (.cells #[.slice ar nr kr, .slice as' ns ks, .slice al nl kl] 28)=W3 at *
   have hF:=steps_facts HTP.out s p d HPD.out.1 HPD.out.2 (row.map RFL.rf) m
   obtain⟨e1,he1⟩:∃e,zxs c.raw s p d (row.map RFL.rf)=e:=⟨_,rfl⟩
   obtain⟨e2,he2⟩:∃e,apErr c.raw s p d m=e:=⟨_,rfl⟩
   obtain⟨l1,hl1⟩:∃e,zws c.raw s p d (row.map RFL.rf)=e:=⟨_,rfl⟩
   obtain⟨l2,hl2⟩:∃e,apVal c.raw s p d m=e:=⟨_,rfl⟩
   rw[he1,he2,hl1,hl2]at hF
   have HF:=zH hF
   have q1:(e1==e1)=true:=by simp
   have q2:(e2==e2)=true:=by simp
   have q3:(e1 != e1)=false:=by simp
   clear hF he1 he2 hl1 hl2
   obtain⟨-,c0,c1,c2,-,-,-⟩:=HC0.out
   obtain⟨-,d0,d1,d2,-,-,-⟩:=HC3.out
   go_upto_region 13 with(first
    |(go_at_call 22;(with_reducible refine(HF.out.a _ _ _ _ HCH.out HX.out HVN.out).mono ?_);rintro e4 w4 ⟨v4,rfl,hv4,hb4⟩
      have HV4:=zH hv4
      have sv4:=hv4.sl
      replace HB:=zH (zaa HB.out hb4);replace HC0:=zH (HC0.out.belowS hb4);replace HC3:=zH (HC3.out.belowS hb4);replace HX:=zH (HX.out.below hb4);replace HVN:=zH (HVN.out.below hb4);replace HCH:=zH (HCH.out.below hb4)
      clear hv4 hb4 c0 c1 c2 d0 d1 d2
      obtain⟨-,c0,c1,c2,-,-,-⟩:=HC0.out
      obtain⟨-,d0,d1,d2,-,-,-⟩:=HC3.out)
    |(go_at_call 53;(with_reducible refine(HF.out.b _ _ _ _ HCH.out HX.out HVN.out).mono ?_);rintro e5 w5 ⟨v5,rfl,hv5,hb5⟩
      have HV5:=zH hv5
      have sv5:=hv5.sl
      replace HB:=zH (zaa HB.out hb5);replace HC0:=zH (HC0.out.belowS hb5);replace HC3:=zH (HC3.out.belowS hb5);replace HX:=zH (HX.out.below hb5);replace HCH:=zH (HCH.out.below hb5);replace HV4:=zH (HV4.out.below hb5)
      clear hv5 hb5 c0 c1 c2 d0 d1 d2
      obtain⟨-,c0,c1,c2,-,-,-⟩:=HC0.out
      obtain⟨-,d0,d1,d2,-,-,-⟩:=HC3.out)
    |(go_at_call 23;(with_reducible refine(znr _ _ _ _ _ HV4.out HV5.out).mono ?_);rintro e6 w6 ⟨⟨b6,rfl,hb6⟩,hbel6⟩;obtain rfl:b6=true:=hb6.2 rfl;clear hb6
      replace HB:=zH (zaa HB.out hbel6);replace HC0:=zH (HC0.out.belowS hbel6);replace HC3:=zH (HC3.out.belowS hbel6);replace HX:=zH (HX.out.below hbel6);replace HCH:=zH (HCH.out.below hbel6)
      clear hbel6 c0 c1 c2 d0 d1 d2
      obtain⟨-,c0,c1,c2,-,-,-⟩:=HC0.out
      obtain⟨-,d0,d1,d2,-,-,-⟩:=HC3.out))
   by_cases g1:6<m
   ·by_cases g2:m≤64
    ·skip
     go_wp2_with (first
      |(go_at_call 46;(with_reducible refine(zoq _).mono ?_);rintro e12 w12 ⟨rfl,hb12⟩))
     go_ret
     exact⟨rfl,zaa HB.out hb12⟩
    ·skip
     go_wp2_with (first
      |(go_at_call 48;(with_reducible refine(HF.out.x _ _ _ HCH.out HX.out).mono ?_);rintro e7 w7 ⟨v7,rfl,hv7,hb7⟩
        have HV7:=zH hv7
        have sv7:=hv7.sl
        replace HB:=zH (zaa HB.out hb7);replace HC0:=zH (HC0.out.belowS hb7);replace HC3:=zH (HC3.out.belowS hb7);replace HX:=zH (HX.out.below hb7);replace HCH:=zH (HCH.out.below hb7)
        clear hv7 hb7 c0 c1 c2 d0 d1 d2
        obtain⟨-,c0,c1,c2,-,-,-⟩:=HC0.out
        obtain⟨-,d0,d1,d2,-,-,-⟩:=HC3.out)
      |(go_at_call 51;(with_reducible refine(HF.out.y _ _ _ HCH.out HX.out).mono ?_);rintro e8 w8 ⟨v8,rfl,hv8,hb8⟩
        have HV8:=zH hv8
        have sv8:=hv8.sl
        replace HB:=zH (zaa HB.out hb8);replace HV7:=zH (HV7.out.below hb8)
        clear hv8 hb8 c0 c1 c2 d0 d1 d2)
      |(go_at_call 23;(with_reducible refine(znr _ _ _ _ _ HV7.out HV8.out).mono ?_);rintro e9 w9 ⟨⟨b9,rfl,hb9⟩,hbel9⟩;obtain rfl:b9=true:=hb9.2 rfl;clear hb9
        replace HB:=zH (zaa HB.out hbel9)
        clear hbel9)
      |(go_at_call 46;(with_reducible refine(zoq _).mono ?_);rintro e12 w12 ⟨rfl,hb12⟩))
     go_ret
     exact⟨rfl,zaa HB.out hb12⟩
   ·skip
    go_wp2_with (first
     |(go_at_call 48;(with_reducible refine(HF.out.x _ _ _ HCH.out HX.out).mono ?_);rintro e7 w7 ⟨v7,rfl,hv7,hb7⟩
       have HV7:=zH hv7
       have sv7:=hv7.sl
       replace HB:=zH (zaa HB.out hb7);replace HC0:=zH (HC0.out.belowS hb7);replace HC3:=zH (HC3.out.belowS hb7);replace HX:=zH (HX.out.below hb7);replace HCH:=zH (HCH.out.below hb7)
       clear hv7 hb7 c0 c1 c2 d0 d1 d2
       obtain⟨-,c0,c1,c2,-,-,-⟩:=HC0.out
       obtain⟨-,d0,d1,d2,-,-,-⟩:=HC3.out)
     |(go_at_call 51;(with_reducible refine(HF.out.y _ _ _ HCH.out HX.out).mono ?_);rintro e8 w8 ⟨v8,rfl,hv8,hb8⟩
       have HV8:=zH hv8
       have sv8:=hv8.sl
       replace HB:=zH (zaa HB.out hb8);replace HV7:=zH (HV7.out.below hb8)
       clear hv8 hb8 c0 c1 c2 d0 d1 d2)
     |(go_at_call 23;(with_reducible refine(znr _ _ _ _ _ HV7.out HV8.out).mono ?_);rintro e9 w9 ⟨⟨b9,rfl,hb9⟩,hbel9⟩;obtain rfl:b9=true:=hb9.2 rfl;clear hb9
       replace HB:=zH (zaa HB.out hbel9)
       clear hbel9)
     |(go_at_call 46;(with_reducible refine(zoq _).mono ?_);rintro e12 w12 ⟨rfl,hb12⟩))
    go_ret
    exact⟨rfl,zaa HB.out hb12⟩
end Go.Proofs.YtlpdkbmmbdfoiaaGreat
