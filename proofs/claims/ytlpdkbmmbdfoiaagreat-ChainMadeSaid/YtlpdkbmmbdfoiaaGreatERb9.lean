/- Lemmas. -/
import Derived.Test.YtlpdkbmmbdfoiaaGreatERb8
set_option linter.unusedVariables false
set_option linter.unusedSimpArgs false
namespace Go.Proofs.YtlpdkbmmbdfoiaaGreat
set_option maxRecDepth 100000
open Go.RowKit
set_option maxHeartbeats 1600000 in
theorem zcp (va vb:Value) (p q:Rat) (w:World) (ha:zqa w va p) (hb:zqa w vb q) (hp:fits p) (hq:fits q) (hq0:q≠0) (hf:fits (p/q)):Calls Tryz.prog 40 #[va,vb] w (RF0 w (p/q)):=by
 obtain⟨a1,a2,rfl,n1,n2⟩:=id ha
 obtain⟨b1,b2,rfl,m1,m2⟩:=id hb
 obtain⟨x1,y1,z1,rfl,_⟩:=id n1.v.sl
 obtain⟨x2,y2,z2,rfl,_⟩:=id n2.v.sl
 obtain⟨x3,y3,z3,rfl,_⟩:=id m1.v.sl
 obtain⟨x4,y4,z4,rfl,_⟩:=id m2.v.sl
 have k1:=zca w (.cells #[.bool (decide (p<0)), .slice x1 y1 z1, .slice x2 y2 z2] 38)
 have k2:=zca (w.alloc (.cells #[.bool (decide (p<0)), .slice x1 y1 z1, .slice x2 y2 z2] 38)) (.cells #[.bool (decide (q<0)), .slice x3 y3 z3, .slice x4 y4 z4] 38)
 have k3:=zca ((w.alloc (.cells #[.bool (decide (p<0)), .slice x1 y1 z1, .slice x2 y2 z2] 38)).alloc (.cells #[.bool (decide (q<0)), .slice x3 y3 z3, .slice x4 y4 z4] 38)) (.cells #[.bool false, .slice none 0 0, .slice none 0 0] 38)
 have H3:=zmc w 38 (.bool (decide (p<0))) (.slice x1 y1 z1) (.slice x2 y2 z2) (.bool (decide (q<0))) (.slice x3 y3 z3) (.slice x4 y4 z4) (.bool false) (.slice none 0 0) (.slice none 0 0) _ rfl
 obtain⟨hA,hB,hR,hbw⟩:=H3
 have HA:=zH hA
 have HB:=zH hB
 have HR:=zH hR
 have HAP:=zH (ha.below hbw)
 have HBQ:=zH (hb.below hbw)
 have HP:=zH hp
 have HQ:=zH hq
 have HPQ:=zH hf
 have hqn:q.num.natAbs≠0:=fun e=>hq0 (Rat.num_eq_zero.1 (by omega))
 have hlq:∃L,zda q.num.natAbs=L/\0<L:=⟨_,rfl,Nat.pos_of_ne_zero fun e=>hqn (zta.1 e)⟩
 obtain⟨L,hL,hL0⟩:=hlq
 have HLL:=zH hL
 have HFQ:Hid (p/q=fq (!(decide (p<0)==decide (q<0))) (p.num.natAbs*q.den) (p.den*q.num.natAbs)):=zH (by
  have h:=fq_quo (decide (p<0)) (decide (q<0)) (n:=p.num.natAbs) (d:=p.den) hqn q.den_nz
  rw[zvb,zvb]at h
  exact h)
 have HL:=zH (And.intro (zrc (zuc hp)) (zrc (zuc hq)))
 obtain⟨_,c0,c1,c2,_,_,_⟩:=id hA
 obtain⟨_,d0,d1,d2,_,_,_⟩:=id hB
 have HQNUM:=zH m1.nat
 have HDZ0:Hid (p.den*q.num.natAbs≠0):=zH (Nat.mul_ne_zero p.den_nz hqn)
 clear hA hB hR ha hb n1 n2 m1 m2 hp hq hf k1 k2 k3 hq0 hqn hL
 go_enter Tryz.func40,Tryz.ntmps40
 go_upto_region 5 with(first
  |(go_at_call 49;(with_reducible refine(zlo _ p _ HAP.out HP.out).mono ?_);rintro e1 w1 ⟨rfl,hb1⟩
    obtain⟨_,c0,c1,c2,_,_,_⟩:=HA.out.belowS hb1
    obtain⟨_,d0,d1,d2,_,_,_⟩:=HB.out.belowS hb1)
  |(go_at_call 49;(with_reducible refine(zlo _ q _ (HBQ.out.below hb1) HQ.out).mono ?_);rintro e2 w2' ⟨rfl,hb2'⟩
    obtain⟨_,d0,d1,d2,_,_,_⟩:=HB.out.belowS (zaa hb1 hb2'))
  |(go_at_call 106;(with_reducible refine(zra _ q.num.natAbs _ ((HQNUM.out.below hbw).below (zaa hb1 hb2'))).mono ?_);rintro e2 w2 ⟨r2,rfl,hr2,hb2''⟩
    have s2:=hr2.v.sl
    have l2:slen r2=L:=hr2.v.len.trans HLL.out
    have hb2:=zaa hb2' hb2''))
 have b12:=zaa hb1 hb2
 have hD:=zja (B:=w2.heap.size) w2
 have b1D:=zaa b12 hD
 obtain⟨_,q1,q2,q3,_,_,_⟩:=HA.out.belowS b1D
 obtain⟨_,r1,r2,r3,_,_,_⟩:=HB.out.belowS b1D
 have HRD:=zH (HR.out.belowS b1D)
 have HAD:=zH (HAP.out.below b1D)
 have HBD:=zH (HBQ.out.below b1D)
 have hbwD:=zaa hbw b1D
 obtain⟨u1,u2,hu,nA,nB⟩:=HAD.out
 injection hu with hu
 injection hu with hu
 simp only[List.cons.injEq,and_true,true_and]at hu
 obtain⟨rfl,rfl⟩:=hu
 obtain⟨u1,u2,hu,mA,mB⟩:=HBD.out
 injection hu with hu
 injection hu with hu
 simp only[List.cons.injEq,and_true,true_and]at hu
 obtain⟨rfl,rfl⟩:=hu
 have kA:w.heap.size+1+1≠w.heap.size:=by omega
 have kB:w.heap.size+1+1≠w.heap.size+1:=by omega
 have HNN:=zH (And.intro nA (And.intro nB (And.intro mA mB)))
 have HDZ:=HDZ0
 have HN5:Hid (zda (p.num.natAbs*q.den)<=512):=zH (zLT (zsd HL.out.1.1 HL.out.2.2) (by decide))
 have HD5:Hid (zda (p.den*q.num.natAbs)<=512):=zH (zLT (zsd HL.out.1.2 HL.out.2.1) (by decide))
 clear nA nB mA mB c0 c1 c2 d0 d1 d2
 go_region_held3 (fun w'=>w'.cell? ⟨w.heap.size,0,none⟩=some (.bool (decide (p<0)))/\w'.cell? ⟨w.heap.size,1,none⟩=some (.slice x1 y1 z1)/\w'.cell? ⟨w.heap.size,2,none⟩=some (.slice x2 y2 z2)/\w'.cell? ⟨w.heap.size+1,0,none⟩=some (.bool (decide (q<0)))/\w'.cell? ⟨w.heap.size+1,1,none⟩=some (.slice x3 y3 z3)/\w'.cell? ⟨w.heap.size+1,2,none⟩=some (.slice x4 y4 z4)) (first
  | with_reducible exact⟨q1,q2,q3,r1,r2,r3⟩
  | with_reducible exact keep6b (by assumption) (by assumption)
  | with_reducible exact zvp (zvp (zvp (by assumption) kA kA kA kB kB kB _) kA kA kA kB kB kB _) kA kA kA kB kB kB _) (first
  |(go_at_call 74;(with_reducible refine(zke _ _ p.num.natAbs q.den _ HNN.out.1.nat HNN.out.2.2.2.nat HL.out.1.1 HL.out.2.2).mono ?_);rintro e3 w3 ⟨v3,rfl,hv3,hb3⟩)
  |(go_at_call 74;(with_reducible refine(zke _ _ p.den q.num.natAbs _ (HNN.out.2.1.below hb3).nat (HNN.out.2.2.1.below hb3).nat HL.out.1.2 HL.out.2.1).mono ?_);rintro e4 w4 ⟨v4,rfl,hv4,hb4⟩)
  |(go_at_call 71;(with_reducible refine(zpe _ _ _ (p.num.natAbs*q.den) (p.den*q.num.natAbs) _ (hv3.below hb4).nat hv4.nat HDZ.out HN5.out HD5.out).mono ?_);rintro e5 w5 ⟨v5,rfl,hv5,hb5⟩)
  |(go_at_call 76;(with_reducible refine(zuo _ (p/q) _ (by(rw[HFQ.out];exact hv5)) HPQ.out).mono ?_);rintro e6 w6 ⟨v6,rfl,hv6,hb6⟩
    obtain⟨t9,x9,y9,rfl,⟨a91,l91,k91,rfl,_⟩,⟨a92,l92,k92,rfl,_⟩⟩:=hv6.isF
    have HR6:=zH ((((HRD.out.belowS hb3).belowS hb4).belowS hb5).belowS hb6)
    obtain⟨_,g0,g1,g2,g3,g4,g5⟩:=HR6.out))
 have hbE:=zaa (zaa (zaa (zaa hbwD hb3) hb4) hb5) hb6
 go_wp2_with fail
 refine zoa rfl rfl Tryz.aggF Tryz.sizeF (HR6.out.set _ _ _) rfl ?_
 exact⟨_,rfl,hv6.set3 HR6.out (fun z=>by simp) (fun z=>by simp) _ _ _,zga hbE (zLT (Nat.le_succ _) (Nat.le_succ _)) _ _ _⟩
def rowF (n:Nat) (x:Nat->RF):List RF:=(List.range n).map x
theorem zcr (n:Nat) (x:Nat->RF):(rowF n x).length=n:=by simp[rowF]
theorem rowF_get (n:Nat) (x:Nat->RF) (j:Nat) (h:j<(rowF n x).length):(rowF n x)[j]=x j:=by simp[rowF]
def rf0 :RF:=⟨false,0,1⟩
theorem rowF_of (l:List RF):rowF l.length (fun j=>l.getD j rf0)=l:=by
 refine List.ext_getElem (by rw[zcr]) fun j h1 h2=> ?_
 rw[rowF_get]
 simp[List.getD,zGE h2]
section
variable {w:World} {e:TypeId} {B n:Nat} {v:Value}
end
section
variable {n:Nat} {A:Mx} {b:Nat->Rat}
def solE (n:Nat) (A:Mx) (b:Nat->Rat) (i:Nat):Rat:=(elim false n (zpa n A (fun i _=>b i)) n).A i n/(elim false n (zpa n A (fun i _=>b i)) n).A i i
theorem sol_eq (h:(elim false n (zpa n A (fun i _=>b i)) n).r=n):∀i,i<n->sg n (fun j=>A i j*solE n A b j)=b i:=by
 intro i hi
 exact znl (A:=A) (B:=fun i _=>b i) h (c:=1) (q:=0) (by omega) i hi
end
set_option maxHeartbeats 1600000
def zyz (w0:World) (p:Prop) (e:Ending) (w:World):Prop:=(∃b,e= .returned (.bool b)/\(b=true↔p))/\Below w0.heap.size w0 w
theorem ztt {α:Type _} {a b:List α} (hl:a.length=b.length) (h:∀ (j:Nat) (h1:j<a.length) (h2:j<b.length),a[j]=b[j]):a=b:=List.ext_getElem hl h
theorem zfc.at' {w:World} {v:Value} {l:List Nat} (h:zfc w v l) (j:Nat) (hj:j<l.length):w.cell? (ptr v j)=some (.int .u32 (l[j]:Nat)):=h.cell j hj
theorem zrh (va vb:Value) (a b:List Nat) (w:World) (ha:zfc w va a) (hb:zfc w vb b):
 Calls Tryz.prog 140 #[va,vb] w (zyz w (a=b)):=by
 have sa:=ha.sl
 have la:=ha.len
 have sb:=hb.sl
 have lb:=hb.len
 have hle:=sa.le
 have hle2:=sb.le
 rw[la]at hle
 rw[lb]at hle2
 have hlb:a.length<=9223372036854775807:=by omega
 have hlb2:b.length<=9223372036854775807:=by omega
 clear hle hle2
 have hw:w.heap.size<=w.heap.size:=zLR _
 by_cases hlen:a.length=b.length
 ·skip
  have hL:=zH hlen
  rw[<-hlen]at lb
  clear hlen
  go_enter Tryz.func140,Tryz.ntmps140
  go_wp2_with fail
  go_loopw [5] (fun u5 wr=>∃ (k:Nat),k<=a.length/\u5= .int .i64 k/\(∀ (j:Nat) (h1:j<a.length) (h2:j<b.length),j<k->a[j]=b[j])/\Below w.heap.size w wr) (fun u5 _=>a.length- (intOf u5).toNat)
  case atStart=>exact⟨0,zZL _,rfl,fun j _ _ h=>by omega,Below.refl _ _⟩
  case round=>
   obtain⟨k,hk,rfl,hst,hbr⟩:=hrel
   have HST:=zH hst
   clear hst
   by_cases hkl:k<a.length
   ·have hkb:k<b.length:=by rw[<-hL.out];exact hkl
    have hc:=(ha.below hbr).at' k hkl
    have hd:=(hb.below hbr).at' k hkb
    have HX:Hid (∀ (h1:k<a.length) (h2:k<b.length),a[k]=b[k]↔a[k]'hkl=b[k]'hkb):=zH (fun _ _=>Iff.rfl)
    have i1:(0:Int)<=(k:Int):=by omega
    have i2:(k:Int)<(a.length:Nat):=by omega
    generalize ha':a[k]'hkl=x at *
    generalize hb':b[k]'hkb=y at *
    have HA:=zH ha'
    have HB:=zH hb'
    clear ha' hb'
    by_cases hxy:x=y
    ·subst hxy
     have HST2:Hid (∀ (j:Nat) (h1:j<a.length) (h2:j<b.length),j<k+1->a[j]=b[j]):=zH (fun j h1 h2 h3=>by
      rcases Nat.lt_or_ge j k with h4 | h4
      ·exact HST.out j h1 h2 h4
      ·obtain rfl:j=k:=by omega
       rw[HA.out,HB.out])
     go_wp2_with fail
     go_quiet (fail)
     have hbd:=zaa hbr (zka (B:=wr.heap.size) wr nq)
     go_wp2_with fail
     go_roundw
     case rel=>exact⟨k+1,by omega,by go_num,HST2.out,hbd⟩
     case measure=>simp[intOf];omega
    ·skip
     have hxy2:((x:Int)==(y:Int))=false:=by first | (simp;omega) | simpa using hxy
     go_wp2_with fail
     go_quiet (fail)
     have hbd:=zaa hbr (zka (B:=wr.heap.size) wr nq)
     go_wp2_with fail
     go_ret
     exact⟨⟨false,rfl,by simp;intro h;subst h;exact hxy (HA.out.symm.trans HB.out)⟩,hbd⟩
   ·go_wp2_with fail
    go_ret
    refine⟨⟨true,rfl,by simp;exact ztt hL.out (fun j h1 h2=>HST.out j h1 h2 (by omega))⟩,hbr⟩
 ·have hne:((a.length:Int)==(b.length:Int))=false:=by simp;omega
  go_enter Tryz.func140,Tryz.ntmps140
  go_wp2_with fail
  go_ret
  exact⟨⟨false,rfl,by simp;intro h;exact hlen (by rw[h])⟩,Below.refl _ _⟩
theorem same_ints (va vb:Value) (a b:List Int) (w:World) (ha:zgv w va a) (hb:zgv w vb b):
 Calls Tryz.prog 85 #[va,vb] w (zyz w (a=b)):=by
 have sa:=zhc.sl ha
 have la:slen va=a.length:=by have:=zhc.len ha;simpa using this
 have sb:=zhc.sl hb
 have lb:slen vb=b.length:=by have:=zhc.len hb;simpa using this
 have hle:=sa.le
 have hle2:=sb.le
 rw[la]at hle
 rw[lb]at hle2
 have hlb:a.length<=9223372036854775807:=by omega
 have hlb2:b.length<=9223372036854775807:=by omega
 clear hle hle2
 have hw:w.heap.size<=w.heap.size:=zLR _
 by_cases hlen:a.length=b.length
 ·skip
  have hL:=zH hlen
  rw[<-hlen]at lb
  clear hlen
  go_enter Tryz.func85,Tryz.ntmps85
  go_wp2_with fail
  go_loopw [5] (fun u5 wr=>∃ (k:Nat),k<=a.length/\u5= .int .i64 k/\(∀ (j:Nat) (h1:j<a.length) (h2:j<b.length),j<k->a[j]=b[j])/\Below w.heap.size w wr) (fun u5 _=>a.length- (intOf u5).toNat)
  case atStart=>exact⟨0,zZL _,rfl,fun j _ _ h=>by omega,Below.refl _ _⟩
  case round=>
   obtain⟨k,hk,rfl,hst,hbr⟩:=hrel
   have HST:=zH hst
   clear hst
   by_cases hkl:k<a.length
   ·have hkb:k<b.length:=by rw[<-hL.out];exact hkl
    have hc:=(ha.below hbr).at' k hkl
    have hd:=(hb.below hbr).at' k hkb
    have HX:Hid (∀ (h1:k<a.length) (h2:k<b.length),a[k]=b[k]↔a[k]'hkl=b[k]'hkb):=zH (fun _ _=>Iff.rfl)
    have i1:(0:Int)<=(k:Int):=by omega
    have i2:(k:Int)<(a.length:Nat):=by omega
    generalize ha':a[k]'hkl=x at *
    generalize hb':b[k]'hkb=y at *
    have HA:=zH ha'
    have HB:=zH hb'
    clear ha' hb'
    by_cases hxy:x=y
    ·subst hxy
     have HST2:Hid (∀ (j:Nat) (h1:j<a.length) (h2:j<b.length),j<k+1->a[j]=b[j]):=zH (fun j h1 h2 h3=>by
      rcases Nat.lt_or_ge j k with h4 | h4
      ·exact HST.out j h1 h2 h4
      ·obtain rfl:j=k:=by omega
       rw[HA.out,HB.out])
     go_wp2_with fail
     go_quiet (fail)
     have hbd:=zaa hbr (zka (B:=wr.heap.size) wr nq)
     go_wp2_with fail
     go_roundw
     case rel=>exact⟨k+1,by omega,by go_num,HST2.out,hbd⟩
     case measure=>simp[intOf];omega
    ·skip
     have hxy2:(x==y)=false:=by first | (simp;omega) | simpa using hxy
     go_wp2_with fail
     go_quiet (fail)
     have hbd:=zaa hbr (zka (B:=wr.heap.size) wr nq)
     go_wp2_with fail
     go_ret
     exact⟨⟨false,rfl,by simp;intro h;subst h;exact hxy (HA.out.symm.trans HB.out)⟩,hbd⟩
   ·go_wp2_with fail
    go_ret
    refine⟨⟨true,rfl,by simp;exact ztt hL.out (fun j h1 h2=>HST.out j h1 h2 (by omega))⟩,hbr⟩
 ·have hne:((a.length:Int)==(b.length:Int))=false:=by simp;omega
  go_enter Tryz.func85,Tryz.ntmps85
  go_wp2_with fail
  go_ret
  exact⟨⟨false,rfl,by simp;intro h;exact hlen (by rw[h])⟩,Below.refl _ _⟩
theorem rat_parts {p q:Rat}:p=q↔decide (p<0)=decide (q<0)/\zla p.num.natAbs=zla q.num.natAbs/\zla p.den=zla q.den:=by
 constructor
 ·rintro rfl;exact⟨rfl,rfl,rfl⟩
 ·rintro⟨h1,h2,h3⟩
  have e2:=zhg h2
  have e3:=zhg h3
  rw[<-zvb p,<-zvb q,h1,e2,e3]
set_option maxHeartbeats 1600000 in
theorem znt (va vb:Value) (p q:Rat) (w:World) (ha:zqa w va p) (hb:zqa w vb q):
 Calls Tryz.prog 61 #[va,vb] w (zyz w (p=q)):=by
 obtain⟨a1,a2,rfl,n1,n2⟩:=ha
 obtain⟨b1,b2,rfl,m1,m2⟩:=hb
 have HP:=zH (@rat_parts p q)
 have n1:=n1.1
 have n2:=n2.1
 have m1:=m1.1
 have m2:=m2.1
 obtain⟨a1a,a1n,a1c,rfl,_⟩:=n1.sl
 obtain⟨a2a,a2n,a2c,rfl,_⟩:=n2.sl
 obtain⟨b1a,b1n,b1c,rfl,_⟩:=m1.sl
 obtain⟨b2a,b2n,b2c,rfl,_⟩:=m2.sl
 generalize decide (p<0)=s at *
 generalize decide (q<0)=t at *
 generalize zla p.num.natAbs=x at *
 generalize zla q.num.natAbs=y at *
 generalize zla p.den=z at *
 generalize zla q.den=u at *
 have hbx:=zca w (.cells #[.bool s, .slice a1a a1n a1c, .slice a2a a2n a2c] 38)
 have hbx:=(hbx.alloc hbx.size (.cells #[.bool t, .slice b1a b1n b1c, .slice b2a b2n b2c] 38))
 have n1:=n1.below hbx
 have n2:=n2.below hbx
 have m1:=m1.below hbx
 have m2:=m2.below hbx
 have hC:=(C3.new w 38 (.bool s) (.slice a1a a1n a1c) (.slice a2a a2n a2c)).allocS (.cells #[.bool t, .slice b1a b1n b1c, .slice b2a b2n b2c] 38)
 have hD:=C3.new (w.alloc (.cells #[.bool s, .slice a1a a1n a1c, .slice a2a a2n a2c] 38)) 38 (.bool t) (.slice b1a b1n b1c) (.slice b2a b2n b2c)
 rw[show(w.alloc (.cells #[.bool s, .slice a1a a1n a1c, .slice a2a a2n a2c] 38)).heap.size=w.heap.size+1 from by simp]at hD
 by_cases h1:s=t
 ·subst h1
  by_cases hxy:x=y
  ·by_cases hzu:z=u
   ·have tok:True:=trivial
    go_enter Tryz.func61,Tryz.ntmps61
    go_wp2_with (first
     |(go_at_call 140;have _t:=tok;(with_reducible refine(zrh _ _ x y _ n1 m1).mono ?_);rintro e1 w1 ⟨⟨r1,rfl,h1⟩,hbel1⟩;obtain rfl:r1=true:=h1.2 hxy;clear h1 tok _t
       have n3:=n2.below hbel1
       have m3:=m2.below hbel1
       obtain⟨_,c0,c1,c2,_,_,_⟩:=hC.belowS hbel1
       obtain⟨_,d0,d1,d2,_,_,_⟩:=hD.belowS hbel1)
     |(go_at_call 140;(with_reducible refine(zrh _ _ z u _ n3 m3).mono ?_);rintro e2 w2 ⟨⟨r2,rfl,h2⟩,hbel2⟩;obtain rfl:r2=true:=h2.2 hzu;clear h2))
    go_ret
    exact⟨⟨true,rfl,by simp;exact HP.out.2 ⟨by first | rfl | trivial,hxy,hzu⟩⟩,(hbx.trans (hbel1.mono hbx.size)).trans (hbel2.mono (hbx.trans (hbel1.mono hbx.size)).size)⟩
   ·have tok:True:=trivial
    go_enter Tryz.func61,Tryz.ntmps61
    go_wp2_with (first
     |(go_at_call 140;have _t:=tok;(with_reducible refine(zrh _ _ x y _ n1 m1).mono ?_);rintro e1 w1 ⟨⟨r1,rfl,h1⟩,hbel1⟩;obtain rfl:r1=true:=h1.2 hxy;clear h1 tok _t
       have n3:=n2.below hbel1
       have m3:=m2.below hbel1
       obtain⟨_,c0,c1,c2,_,_,_⟩:=hC.belowS hbel1
       obtain⟨_,d0,d1,d2,_,_,_⟩:=hD.belowS hbel1)
     |(go_at_call 140;(with_reducible refine(zrh _ _ z u _ n3 m3).mono ?_);rintro e2 w2 ⟨⟨r2,rfl,h2⟩,hbel2⟩;obtain rfl:r2=false:=Bool.eq_false_iff.2 (fun h=>hzu (h2.1 h));clear h2))
    go_ret
    exact⟨⟨false,rfl,by simp;exact fun h=>hzu (HP.out.1 h).2.2⟩,(hbx.trans (hbel1.mono hbx.size)).trans (hbel2.mono (hbx.trans (hbel1.mono hbx.size)).size)⟩
  ·go_enter Tryz.func61,Tryz.ntmps61
   go_wp2_with (go_at_call 140;(with_reducible refine(zrh _ _ x y _ n1 m1).mono ?_);rintro e1 w1 ⟨⟨r1,rfl,h1⟩,hbel1⟩;obtain rfl:r1=false:=Bool.eq_false_iff.2 (fun h=>hxy (h1.1 h));clear h1)
   go_ret
   exact⟨⟨false,rfl,by simp;exact fun h=>hxy (HP.out.1 h).2.1⟩,hbx.trans (hbel1.mono hbx.size)⟩
 ·have h2:(s==t)=false:=by simpa using h1
  go_enter Tryz.func61,Tryz.ntmps61
  go_wp2_with fail
  go_ret
  exact⟨⟨false,rfl,by simp;exact fun h=>h1 (HP.out.1 h).1⟩,hbx⟩
set_option maxHeartbeats 1600000 in
theorem znr (va vb:Value) (a b:List Rat) (w:World) (ha:zbb w va a) (hb:zbb w vb b):
 Calls Tryz.prog 23 #[va,vb] w (zyz w (a=b)):=by
 have sa:=ha.sl
 have la:=ha.len
 have sb:=hb.sl
 have lb:=hb.len
 have hle:=sa.le
 have hle2:=sb.le
 rw[la]at hle
 rw[lb]at hle2
 have hlb:a.length<=9223372036854775807:=by omega
 have hlb2:b.length<=9223372036854775807:=by omega
 clear hle hle2
 by_cases hlen:a.length=b.length
 ·skip
  have hL:=zH hlen
  rw[<-hlen]at lb
  clear hlen
  go_enter Tryz.func23,Tryz.ntmps23
  go_wp2_with fail
  go_loopw [5] (fun u5 wr=>∃ (k:Nat),k<=a.length/\u5= .int .i64 k/\(∀ (j:Nat) (h1:j<a.length) (h2:j<b.length),j<k->a[j]=b[j])/\Below w.heap.size w wr) (fun u5 _=>a.length- (intOf u5).toNat)
  case atStart=>exact⟨0,zZL _,rfl,fun j _ _ h=>by omega,Below.refl _ _⟩
  case round=>
   obtain⟨k,hk,rfl,hst,hbr⟩:=hrel
   have HST:=zH hst
   clear hst
   by_cases hkl:k<a.length
   ·have hkb:k<b.length:=by rw[<-hL.out];exact hkl
    have hdr:=zja (B:=wr.heap.size) wr
    have hbd:=zaa hbr hdr
    obtain⟨a1,a2,c1,c2,c3,n1,n2⟩:=(ha.below hbd).at' k hkl
    obtain⟨b1,b2,d1,d2,d3,m1,m2⟩:=(hb.below hbd).at' k hkb
    have i1:(0:Int)<=(k:Int):=by omega
    have i2:(k:Int)<(a.length:Nat):=by omega
    generalize ha':a[k]'hkl=x at *
    generalize hb':b[k]'hkb=y at *
    have HA:=zH ha'
    have HB:=zH hb'
    clear ha' hb'
    have hX:zqa wr.drew (.agg #[.bool (decide (x<0)),a1,a2]) x:=⟨_,_,rfl,n1,n2⟩
    have hY:zqa wr.drew (.agg #[.bool (decide (y<0)),b1,b2]) y:=⟨_,_,rfl,m1,m2⟩
    clear n1 n2 m1 m2
    go_wp2_with fail
    go_region_held3 (fun w'=>w'.cell? (ptr va (k*3))=some (.bool (decide (x<0)))/\w'.cell? (ptr va (k*3+1))=some a1/\w'.cell? (ptr va (k*3+2))=some a2/\w'.cell? (ptr vb (k*3))=some (.bool (decide (y<0)))/\w'.cell? (ptr vb (k*3+1))=some b1/\w'.cell? (ptr vb (k*3+2))=some b2) (exact⟨c1,c2,c3,d1,d2,d3⟩) (first
     |(go_at_call 61;(with_reducible refine(znt _ _ x y _ hX hY).mono ?_);rintro e9 w9 ⟨⟨r9,rfl,h9⟩,hb9⟩
       have c1:=zba hb9 c1
       have c2:=zba hb9 c2
       have c3:=zba hb9 c3
       have d1:=zba hb9 d1
       have d2:=zba hb9 d2
       have d3:=zba hb9 d3))
    clear c1 c2 c3 d1 d2 d3 hX hY
    have hbr2:=zaa hbd hb9
    by_cases hxy:x=y
    ·obtain rfl:r9=true:=h9.2 hxy
     have HST2:Hid (∀ (j:Nat) (h1:j<a.length) (h2:j<b.length),j<k+1->a[j]=b[j]):=zH (fun j h1 h2 h3=>by
      rcases Nat.lt_or_ge j k with h4 | h4
      ·exact HST.out j h1 h2 h4
      ·obtain rfl:j=k:=by omega
       rw[HA.out,HB.out,hxy])
     clear hxy h9
     go_wp2
     go_roundw
     case rel=>exact⟨k+1,by omega,by go_num,HST2.out,hbr2⟩
     case measure=>simp[intOf];omega
    ·obtain rfl:r9=false:=Bool.eq_false_iff.2 (fun h=>hxy (h9.1 h))
     have HXY:=zH hxy
     clear hxy h9
     go_wp2
     go_ret
     exact⟨⟨false,rfl,by simp;intro h;subst h;exact HXY.out (HA.out.symm.trans HB.out)⟩,hbr2⟩
   ·go_wp2_with fail
    go_ret
    refine⟨⟨true,rfl,by simp;exact ztt hL.out (fun j h1 h2=>HST.out j h1 h2 (by omega))⟩,hbr⟩
 ·skip
  have hne:((a.length:Int)==(b.length:Int))=false:=by simp;omega
  go_enter Tryz.func23,Tryz.ntmps23
  go_wp2_with fail
  go_ret
  exact⟨⟨false,rfl,by simp;intro h;exact hlen (by rw[h])⟩,Below.refl _ _⟩
structure MatC (w:World) (v:Value) (m:List (List Rat)):Prop where
 sl:zgc v
 len:slen v=m.length
 at':∀ (j:Nat) (h:j<m.length),∃r,w.cell? (ptr v j)=some r/\zbb w r m[j]
theorem MatC.below {w w':World} {v:Value} {m:List (List Rat)} (h:MatC w v m) (hb:Below w.heap.size w w'):MatC w' v m:=
 ⟨h.sl,h.len,fun j hj=>by obtain⟨r,h1,h2⟩:=h.at' j hj;exact⟨r,zba hb h1,h2.below hb⟩⟩
def cols (a:List (List RF)):Nat:=(a.headD []).length
def mulP (a b:List (List RF)):Prop:=zqh a/\zqh b/\cols a=b.length
instance (a b:List (List RF)):Decidable (mulP a b):=inferInstanceAs (Decidable (_/\_/\_))
def appP (a:List (List RF)) (v:List RF):Prop:=zqh a/\vecP v (cols a)
instance (a :List (List RF)) (v:List RF):Decidable (appP a v):=inferInstanceAs (Decidable (_/\_))
set_option maxHeartbeats 1600000
theorem cmpN_swap (a b:Nat):zfj b a= -zfj a b:=by
 unfold zfj
 rcases Nat.lt_trichotomy a b with h | h | h
 ·rw[if_neg (by omega),if_pos h,if_pos h];rfl
 ·subst h;rw[if_neg (by omega),if_neg (by omega)];rfl
 ·rw[if_pos h,if_neg (by omega),if_pos h]
theorem nlen_prod {n e:Nat} (he:e≠0):(n=0->zda (n*e)=0)/\(n≠0->0<zda (n*e)):=
 ⟨fun h=>zta.2 (by rw[h,Nat.zero_mul]),fun h=>zfg.2 (Nat.mul_ne_zero h he)⟩
theorem ztk (va vb:Value) (s t:Bool) (n d m e:Nat) (w:World) (ha:zdc w va s n d) (hb:zdc w vb t m e) (h1:okN n d) (h2:okN m e):
 Calls Tryz.prog 100 #[va,vb] w fun en w'=>en= .returned (.int .i64 (zsr (fq s n d) (fq t m e)))/\Below w.heap.size w w':=by
 obtain⟨xn,xd,rfl,hxn,hxd⟩:=ha
 obtain⟨yn,yd,rfl,hyn,hyd⟩:=hb
 obtain⟨an,ln,kn,rfl,_⟩:=hxn.slen.1
 obtain⟨ad,ld,kd,rfl,_⟩:=hxd.slen.1
 obtain⟨am,lm,km,rfl,_⟩:=hyn.slen.1
 obtain⟨ae,le,ke,rfl,_⟩:=hyd.slen.1
 have l1:=zH (zrc h1)
 have l2:=zH (zrc h2)
 have z1:=nlen_prod (n:=n) h2.1
 have z2:=nlen_prod (n:=m) h1.1
 have HR:=zH (cmpR_eq s t n d m e h1.1 h2.1)
 have HSW:=zH (cmpN_swap (n*e) (m*d))
 clear h1 h2
 obtain⟨L1,hL1⟩:∃L,zda (n*e)=L:=⟨_,rfl⟩
 obtain⟨L2,hL2⟩:∃L,zda (m*d)=L:=⟨_,rfl⟩
 rw[hL1]at z1
 rw[hL2]at z2
 have HL1:=zH hL1
 have HL2:=zH hL2
 have hX:(s=false)\/(s=true/\n=0/\L1=0)\/(s=true/\n≠0/\0<L1):=by
  cases s
  ·exact Or.inl rfl
  ·by_cases h:n=0
   ·exact Or.inr (Or.inl ⟨rfl,h,z1.1 h⟩)
   ·exact Or.inr (Or.inr ⟨rfl,h,z1.2 h⟩)
 have hY:(t=false)\/(t=true/\m=0/\L2=0)\/(t=true/\m≠0/\0<L2):=by
  cases t
  ·exact Or.inl rfl
  ·by_cases h:m=0
   ·exact Or.inr (Or.inl ⟨rfl,h,z2.1 h⟩)
   ·exact Or.inr (Or.inr ⟨rfl,h,z2.2 h⟩)
 have HX0:=zH hX
 have HY0:=zH hY
 clear hL1 hL2 z1 z2 hX hY
 go_enter Tryz.func100,Tryz.ntmps100
 go_wp2_with fail
 obtain⟨W,hW⟩:∃W,W=((w.alloc (.cells #[.bool s, .slice an ln kn, .slice ad ld kd] 38)).alloc (.cells #[.bool t, .slice am lm km, .slice ae le ke] 38)):=⟨_,rfl⟩
 obtain⟨bx,byy,hbw⟩:=zcf w 38 _ _ _ _ _ _ W hW
 rw[<-hW]
 clear hW
 have hd2:=zja (B:=W.heap.size) W
 have hD:=zaa hbw hd2
 have hbx3:=bx.belowS hd2
 have hby3:=byy.belowS hd2
 have HX3:=zH hbx3
 have HY3:=zH hby3
 obtain⟨_,q1,q2,q3,q4,q5,q6⟩:=hbx3
 obtain⟨_,r1,r2,r3,r4,r5,r6⟩:=hby3
 have g1:=hxn.below hD
 have g2:=hxd.below hD
 have g3:=hyn.below hD
 have g4:=hyd.below hD
 clear bx byy hd2
 have tok1:True:=trivial
 go_region_held3 (fun w'=>w'.cell? ⟨w.heap.size,1,none⟩=some (.slice an ln kn)/\w'.cell? ⟨w.heap.size,2,none⟩=some (.slice ad ld kd)/\w'.cell? ⟨w.heap.size+1,1,none⟩=some (.slice am lm km)/\w'.cell? ⟨w.heap.size+1,2,none⟩=some (.slice ae le ke)) (exact⟨q2,q3,r2,r3⟩) (first
  |(go_at_call 74;have _t:=tok1;clear tok1 _t;(with_reducible refine(zke _ _ n e _ g1 g4 l1.out.1 l2.out.2).mono ?_);rintro e9 w3 ⟨p1,rfl,hp1,hp2⟩
    have X4:=HX3.out.belowS hp2
    have Y4:=HY3.out.belowS hp2
    have HX4:=zH X4
    have HY4:=zH Y4
    obtain⟨_,q1,q2,q3,q4,q5,q6⟩:=X4
    obtain⟨_,r1,r2,r3,r4,r5,r6⟩:=Y4)
  |(go_at_call 74;(with_reducible refine(zke _ _ m d _ (g3.below hp2) (g2.below hp2) l2.out.1 l1.out.2).mono ?_);rintro e9 w4 ⟨p3,rfl,hp3,hp4⟩
    have hp24:=zaa hp2 hp4
    have hp14:=hp1.below hp4
    have X5:=HX4.out.belowS hp4
    have Y5:=HY4.out.belowS hp4
    have HX5:=zH X5
    have HY5:=zH Y5
    obtain⟨_,q1,q2,q3,q4,q5,q6⟩:=X5
    obtain⟨_,r1,r2,r3,r4,r5,r6⟩:=Y5))
 have hdw:Below w.heap.size w w4:=hD.trans (hp24.mono hD.size)
 have HP1:=zH hp14
 have HP3:=zH hp3
 have sp1:=hp14.v.sl
 have lp1:slen p1=L1:=hp14.v.len.trans HL1.out
 have sp3:=hp3.v.sl
 have lp3:slen p3=L2:=hp3.v.len.trans HL2.out
 have k1:=HX5.out.c0
 have k2:=HY5.out.c0
 clear hp24 hp14 hp1 hp3 hp2 hp4 hD g1 g2 g3 g4 HX3 HY3 HX4 HY4 q1 q2 q3 q4 q5 q6 r1 r2 r3 r4 r5 r6 hbw
 rcases HX0.out with rfl | ⟨rfl,hn0,hl0⟩ | ⟨rfl,hn0,hl0⟩<;>rcases HY0.out with rfl | ⟨rfl,hm0,hk0⟩ | ⟨rfl,hm0,hk0⟩<;>(
  try subst hl0
  try subst hk0
  clear HX0 HY0
  go_wp2_with (go_at_call 77;first
   |((with_reducible refine(zee p1 p3 (n*e) (m*d) _ HP1.out.nat HP3.out.nat).mono ?_);rintro e9 w9 ⟨rfl,hb9⟩;have hdw:=zaa hdw hb9)
   |((with_reducible refine(zee p3 p1 (m*d) (n*e) _ HP3.out.nat HP1.out.nat).mono ?_);rintro e9 w9 ⟨rfl,hb9⟩;rw[HSW.out];have hdw:=zaa hdw hb9))
  all_goals
   go_ret
   exact⟨by rw[HR.out];simp[*],hdw⟩)
theorem cmpR_beq (p q:Rat):(zsr p q==0)=decide (p=q):=by
 have:=zji p q
 by_cases h:p=q
 ·rw[decide_eq_true h,this.2 h];rfl
 ·rw[decide_eq_false h]
  have h2:zsr p q≠0:=fun e=>h (this.1 e)
  simpa using h2
theorem r2same_any (va vb:Value) (s t:Bool) (n d m e:Nat) (w:World) (ha:zdc w va s n d) (hb:zdc w vb t m e) (h1:okN n d) (h2:okN m e):
 Calls Tryz.prog 33 #[va,vb] w fun en w'=>en= .returned (.bool (decide (fq s n d=fq t m e)))/\Below w.heap.size w w':=by
 have hA:=ha
 have hB:=hb
 obtain⟨xn,xd,rfl,hxn,hxd⟩:=ha
 obtain⟨yn,yd,rfl,hyn,hyd⟩:=hb
 obtain⟨an,ln,kn,rfl,_⟩:=hxn.slen.1
 obtain⟨ad,ld,kd,rfl,_⟩:=hxd.slen.1
 obtain⟨am,lm,km,rfl,_⟩:=hyn.slen.1
 obtain⟨ae,le,ke,rfl,_⟩:=hyd.slen.1
 have K1:=zH h1
 have K2:=zH h2
 have HE:=zH (cmpR_beq (fq s n d) (fq t m e))
 clear h1 h2
 go_enter Tryz.func33,Tryz.ntmps33
 go_wp2_with fail
 obtain⟨W,hW⟩:∃W,W=((w.alloc (.cells #[.bool s, .slice an ln kn, .slice ad ld kd] 38)).alloc (.cells #[.bool t, .slice am lm km, .slice ae le ke] 38)):=⟨_,rfl⟩
 obtain⟨bx,byy,hbw⟩:=zcf w 38 _ _ _ _ _ _ W hW
 rw[<-hW]
 clear hW
 obtain⟨_,q1,q2,q3,q4,q5,q6⟩:=bx
 obtain⟨_,r1,r2,r3,r4,r5,r6⟩:=byy
 go_wp2_with (go_at_call 100;(with_reducible refine(ztk _ _ s t n d m e _ (hA.below hbw) (hB.below hbw) K1.out K2.out).mono ?_);rintro e9 w9 ⟨rfl,hb9⟩)
 go_ret
 exact⟨by rw[<-HE.out];rfl,zaa hbw hb9⟩
theorem zns (va:Value) (s:Bool) (n d:Nat) (w:World) (ha:zdc w va s n d) (h1:okN n d):
 Calls Tryz.prog 34 #[va] w fun en w'=>en= .returned (.int .i64 (zsr (fq s n d) 0))/\Below w.heap.size w w':=by
 have hA:=ha
 obtain⟨xn,xd,rfl,hxn,hxd⟩:=ha
 obtain⟨an,ln,kn,rfl,_⟩:=hxn.slen.1
 obtain⟨ad,ld,kd,rfl,_⟩:=hxd.slen.1
 have K1:=zH h1
 have K0:Hid (okN (0:Rat).num.natAbs (0:Rat).den):=zH (by decide+kernel)
 have HE:Hid (zsr (fq s n d) (fq false 0 1)=zsr (fq s n d) 0):=zH (by rw[show fq false 0 1=0 from fq_zero false 1 (by decide)])
 clear h1
 go_enter Tryz.func34,Tryz.ntmps34
 go_wp2_with fail
 have bx:=C3.new w 38 (.bool s) (.slice an ln kn) (.slice ad ld kd)
 have hbx:=zca w (.cells #[.bool s, .slice an ln kn, .slice ad ld kd] 38)
 generalize hW:w.alloc (.cells #[.bool s, .slice an ln kn, .slice ad ld kd] 38)=W at *
 clear hW
 have hd2:=zja (B:=W.heap.size) W
 have hD:=zaa hbx hd2
 have hbx3:=bx.belowS hd2
 have HX3:=zH hbx3
 obtain⟨_,q1,q2,q3,q4,q5,q6⟩:=hbx3
 clear bx hd2
 go_region_held3 (fun w'=>w'.cell? ⟨w.heap.size,0,none⟩=some (.bool s)/\w'.cell? ⟨w.heap.size,1,none⟩=some (.slice an ln kn)/\w'.cell? ⟨w.heap.size,2,none⟩=some (.slice ad ld kd)) (exact⟨q1,q2,q3⟩) (first
  |(go_at_call 20;(with_reducible refine(zwi _).mono ?_);rintro e9 w3 ⟨v3,rfl,hv3,hb3⟩
    obtain⟨_,q1,q2,q3,q4,q5,q6⟩:=HX3.out.belowS hb3)
  |(go_at_call 100;(with_reducible refine(ztk _ _ s _ n d _ _ _ ((hA.below hD).below hb3) hv3.raw K1.out K0.out).mono ?_);rintro e9 w4 ⟨rfl,hb4⟩
    obtain⟨_,q1,q2,q3,q4,q5,q6⟩:=HX3.out.belowS (zaa hb3 hb4)))
 go_wp2
 go_ret
 exact⟨by rw[<-HE.out];rfl,zaa (zaa hD hb3) hb4⟩
theorem zpu {w0 X Y:World} {a1 a2 a3 a4 a5 a6:Addr} {x1 x2 x3 x4 x5 x6:Value} (h:X.cell? a1=some x1/\X.cell? a2=some x2/\X.cell? a3=some x3/\X.cell? a4=some x4/\X.cell? a5=some x5/\X.cell? a6=some x6/\Below w0.heap.size w0 X) (hb:Below X.heap.size X Y):
 Y.cell? a1=some x1/\Y.cell? a2=some x2/\Y.cell? a3=some x3/\Y.cell? a4=some x4/\Y.cell? a5=some x5/\Y.cell? a6=some x6/\Below w0.heap.size w0 Y:=by
 obtain⟨k1,k2,k3,k4,k5,k6,k7⟩:=h
 exact⟨zba hb k1,zba hb k2,zba hb k3,zba hb k4,zba hb k5,zba hb k6,zaa k7 hb⟩
theorem zvt {w0 X:World} {a1 a2 a3 a4 a5 a6:Addr} {x1 x2 x3 x4 x5 x6:Value} (h:w0.cell? a1=some x1/\w0.cell? a2=some x2/\w0.cell? a3=some x3/\w0.cell? a4=some x4/\w0.cell? a5=some x5/\w0.cell? a6=some x6) (hb:Below w0.heap.size w0 X):
 X.cell? a1=some x1/\X.cell? a2=some x2/\X.cell? a3=some x3/\X.cell? a4=some x4/\X.cell? a5=some x5/\X.cell? a6=some x6/\Below w0.heap.size w0 X:=by
 obtain⟨k1,k2,k3,k4,k5,k6⟩:=h
 exact⟨zba hb k1,zba hb k2,zba hb k3,zba hb k4,zba hb k5,zba hb k6,hb⟩
theorem zgi {w0 X:World} {a1 a2 a3 a4 a5 a6:Addr} {x1 x2 x3 x4 x5 x6:Value} (h:X.cell? a1=some x1/\X.cell? a2=some x2/\X.cell? a3=some x3/\X.cell? a4=some x4/\X.cell? a5=some x5/\X.cell? a6=some x6/\Below w0.heap.size w0 X):Below w0.heap.size w0 X:=h.2.2.2.2.2.2
theorem zut {w0 X:World} {a1 a2 a3 a4 a5 a6:Addr} {x1 x2 x3 x4 x5 x6:Value} (h:w0.cell? a1=some x1/\w0.cell? a2=some x2/\w0.cell? a3=some x3/\w0.cell? a4=some x4/\w0.cell? a5=some x5/\w0.cell? a6=some x6) (hb:Below w0.heap.size w0 X) {b:Nat} (hB:w0.heap.size<=b) (x y z:Value):
 (((X.setCell ⟨b,0,none⟩ x).setCell ⟨b,1,none⟩ y).setCell ⟨b,2,none⟩ z).cell? a1=some x1/\(((X.setCell ⟨b,0,none⟩ x).setCell ⟨b,1,none⟩ y).setCell ⟨b,2,none⟩ z).cell? a2=some x2/\(((X.setCell ⟨b,0,none⟩ x).setCell ⟨b,1,none⟩ y).setCell ⟨b,2,none⟩ z).cell? a3=some x3/\
 (((X.setCell ⟨b,0,none⟩ x).setCell ⟨b,1,none⟩ y).setCell ⟨b,2,none⟩ z).cell? a4=some x4/\(((X.setCell ⟨b,0,none⟩ x).setCell ⟨b,1,none⟩ y).setCell ⟨b,2,none⟩ z).cell? a5=some x5/\(((X.setCell ⟨b,0,none⟩ x).setCell ⟨b,1,none⟩ y).setCell ⟨b,2,none⟩ z).cell? a6=some x6/\Below w0.heap.size w0 (((X.setCell ⟨b,0,none⟩ x).setCell ⟨b,1,none⟩ y).setCell ⟨b,2,none⟩ z):=
 zvt h (zga hb hB x y z)
theorem zqa.same {w:World} {va vb:Value} {p q:Rat} (ha:zqa w va p) (hb:zqa w vb q) (hp:fits p) (hq:fits q):
 Calls Tryz.prog 33 #[va,vb] w fun en w'=>en= .returned (.bool (decide (p=q)))/\Below w.heap.size w w':=by
 have:=r2same_any va vb _ _ _ _ _ _ w ha.raw hb.raw (zuc hp) (zuc hq)
 rwa[zvb,zvb]at this
theorem r2add_acc (va vb:Value) (p r:Rat) (x:RF) (w:World) (ha:zqa w va p) (hb:zdc w vb x.neg x.n x.d) (hp:fits p) (hx:okN x.n x.d) (hr:p+x.q=r) (hf:fits r):
 Calls Tryz.prog 19 #[va,vb] w (RF0 w r):=by
 refine(r2add_any va vb _ _ _ _ _ _ w ha.raw hb (zuc hp) hx).mono ?_
 rw[zvb,show p+fq x.neg x.n x.d=r from hr]
 rintro e w' ⟨v,er,rfl,h1,h2,_⟩
 obtain⟨rfl,h3⟩:=h2 hf
 exact⟨v,rfl,h3,h1⟩
set_option maxHeartbeats 3200000 in
theorem r2sum_fit (va:Value) (l:List RF) (w:World) (ha:zni w va l) (hok:∀x∈l,x.ok) (hfit:∀k,k<=l.length->fits (zgg (qs (l.take k)))):
 Calls Tryz.prog 148 #[va] w (RF0 w (zgg (qs l))):=by
 have sa:=ha.sl
 have la:=ha.len
 have hle:=sa.le
 rw[la]at hle
 have hlb:l.length<=9223372036854775807:=by omega
 have HOK:=zH hok
 have HFIT:=zH hfit
 clear hok hfit hle
 have hb0:=(zca w (.cells #[.bool false, .slice none 0 0, .slice none 0 0] 38))
 have HR0:=zH (C3.new w 38 (.bool false) (.slice none 0 0) (.slice none 0 0))
 go_enter Tryz.func148,Tryz.ntmps148
 go_wp2_with (go_at_call 20;(with_reducible refine(zwi _).mono ?_);rintro e1 w1 ⟨v1,rfl,hv1,hb1⟩
              obtain⟨t9,x9,y9,rfl,⟨a1,l91,k1,rfl,_⟩,⟨a2,l92,k2,rfl,_⟩⟩:=hv1.isF
              have hT:=C3.new w1 38 (.bool t9) (.slice a1 l91 k1) (.slice a2 l92 k2)
              have hb3:=zca w1 (.cells #[.bool t9, .slice a1 l91 k1, .slice a2 l92 k2] 38)
              have HV:=zH (hv1.below hb3)
              have HB:=zH (zaa (zaa hb0 hb1) hb3)
              have HR3:=zH ((HR0.out.belowS hb1).belowS hb3)
              have hS:w.heap.size<w1.heap.size:=(HR0.out.belowS hb1).lt)
 generalize w1.alloc (.cells #[.bool t9, .slice a1 l91 k1, .slice a2 l92 k2] 38)=W1 at *
 generalize w1.heap.size=S at *
 clear hb0 hb1 hb3 hv1
 go_loopg [5] (l.length) (fun g u5 wr=>∃ (k:Nat) (v0 v1 v2:Value),k<=l.length/\g=l.length-k/\u5= .int .i64 k/\C3 wr S v0 v1 v2/\zqa wr (.agg #[v0,v1,v2]) (zgg (qs (l.take k)))/\C3 wr w.heap.size (.bool false) (.slice none 0 0) (.slice none 0 0)/\Below w.heap.size w wr)
 case atStart=>exact⟨0,_,_,_,zZL _,rfl,rfl,hT,HV.out,HR3.out,HB.out⟩
 case round=>
  obtain⟨k,v0,v1,v2,hk,hg,rfl,hs,hf,hr,hbr⟩:=hrel
  obtain⟨s0,b1,m1,j1,b2,m2,j2,rfl,rfl,rfl⟩:=C3.frac hf
  obtain⟨w2,hw2⟩:∃w2,w2=wr:=⟨_,rfl⟩
  subst hw2
  have HS:=zH hs
  have HR:=zH hr
  have HF:=zH hf
  have HBR:=zH hbr
  clear hT HV HR3 HB hf
  obtain⟨_,s1,s2,s3,s4,s5,s6⟩:=hs
  obtain⟨_,q1,q2,q3,q4,q5,q6⟩:=hr
  by_cases hkl:k<l.length
  ·obtain⟨xa,xb,c1,c2,c3,hxa,hxb⟩:=(ha.below hbr).at' k hkl
   obtain⟨c1a,c1l,c1k,rfl,_⟩:=hxa.slen.1
   obtain⟨c2a,c2l,c2k,rfl,_⟩:=hxb.slen.1
   have HO:Hid (okN l[k].n l[k].d):=zH (HOK.out l[k] (zGM hkl))
   have HQ:=zH (HFIT.out k hk)
   have HE:Hid (zgg (qs (l.take k))+(l[k]'hkl).q=zgg (qs (l.take (k+1)))):=zH (lsum_qs l k hkl).symm
   have HF1:=zH (HFIT.out (k+1) hkl)
   generalize l[k]'hkl=x at *
   have HA:Hid (zdc w2 (.agg #[.bool x.neg, .slice c1a c1l c1k, .slice c2a c2l c2k]) x.neg x.n x.d):=zH ⟨_,_,rfl,hxa,hxb⟩
   have S0:=zH (And.intro s1 (And.intro s2 (And.intro s3 (And.intro c1 (And.intro c2 c3)))))
   have i1:(0:Int)<=(k:Int):=by omega
   have i2:(k:Int)<(l.length:Nat):=by omega
   clear hxa hxb s1 s2 s3 s4 s5 s6 q1 q2 q3 q4 q5 q6 c1 c2 c3 hbr
   go_wp2_with fail
   go_cut [6,7] (fun u6 u7 wy=>∃ (b6:Nat) (t':Bool) (x' y':Value),u6= .pointer (some ⟨b6,0,none⟩)/\u7= .int .i64 0/\C3 wy b6 (.bool t') x' y'/\zqa wy (.agg #[.bool t',x',y']) (zgg (qs (l.take (k+1))))/\Below w2.heap.size w2 wy)
   case first =>
    go_region_held3 (fun w'=>w'.cell? ⟨S,0,none⟩=some (.bool s0)/\w'.cell? ⟨S,1,none⟩=some (.slice b1 m1 j1)/\w'.cell? ⟨S,2,none⟩=some (.slice b2 m2 j2)/\w'.cell? (ptr va (k*3))=some (.bool x.neg)/\w'.cell? (ptr va (k*3+1))=some (.slice c1a c1l c1k)/\w'.cell? (ptr va (k*3+2))=some (.slice c2a c2l c2k)/\Below w2.heap.size w2 w') (first
     | with_reducible exact zvt S0.out (zja _)
     | with_reducible exact zpu (by assumption) (zca _ _)
     | with_reducible exact zpu (by assumption) (by assumption)
     | with_reducible exact zvt S0.out (zaa hB31 (zca _ _))
     | with_reducible exact zut S0.out hB31 (zLR _) _ _ _) (first
     |(go_at_call 19;(with_reducible refine(r2add_acc _ _ (zgg (qs (l.take k))) (zgg (qs (l.take (k+1)))) x _ (HF.out.below (zgi (by assumption))) (HA.out.below (zgi (by assumption))) HQ.out HO.out HE.out HF1.out).mono ?_);rintro e31 w31 ⟨v31,rfl,hv31,hb31⟩
       obtain⟨t31,x31,y31,rfl,⟨a311,l311,k311,rfl,_⟩,⟨a312,l312,k312,rfl,_⟩⟩:=hv31.isF
       have hB31:=zaa (zgi (by assumption)) hb31
       have hc5:=(fun(p:Addr) hp=>hb31.cell (p:=p) hp)
       have hf5:=(fun(p:Addr) hp=>hb31.frozen (p:=p) hp)
       have zq:=hb31.size
       (try simp only[zfk,zvo]at zq)
       (try have z1:w2.heap.size<w31.heap.size:=(by omega))))
    all_goals
     have hE:=zgi (by assumption)
     go_wp2_with fail
     go_meet
     case rel=>
      first
       | exact⟨_,_,_,_,rfl,rfl,C3.new w31 _ _ _ _,hv31.below (zca _ _),hE⟩
       | exact⟨_,_,_,_,rfl,rfl,(((C3.newB (b:=w2.heap.size) w2 38 (.bool false) (.slice none 0 0) (.slice none 0 0) rfl).belowS (zja _)).belowS hb31).set _ _ _,hv31.set3 (((C3.newB (b:=w2.heap.size) w2 38 (.bool false) (.slice none 0 0) (.slice none 0 0) rfl).belowS (zja _)).belowS hb31) (fun z=>by simp) (fun z=>by simp) _ _ _,hE⟩
   case rest=>
    obtain⟨b6,t6,x6,y6,rfl,rfl,hC6,hv6,hb6⟩:=hcut
    obtain⟨w3,hw3⟩:∃w3,w3=wc:=⟨_,rfl⟩
    subst hw3
    have hv6':=hv6
    obtain⟨_,_,_,hF6,⟨a61,l61,k61,rfl,_⟩,⟨a62,l62,k62,rfl,_⟩⟩:=hv6'.isF
    injection hF6 with hF6
    injection hF6 with hF6
    simp only[List.cons.injEq,and_true,Value.bool.injEq]at hF6
    obtain⟨rfl,rfl,rfl⟩:=hF6
    have HS3:=zH (HS.out.belowS hb6)
    have HR3:=zH (HR.out.belowS hb6)
    have HB3:=zH (zaa HBR.out hb6)
    obtain⟨_,e1,e2,e3,_,_,_⟩:=id hC6
    obtain⟨_,s1,s2,s3,s4,s5,s6⟩:=HS3.out
    go_wp2_with fail
    go_roundg (l.length- (k+1))
    case measure=>omega
    case rel=>exact⟨k+1,_,_,_,hkl,rfl,by go_num,HS3.out.set _ _ _,hv6.set3 HS3.out (fun z=>by simp) (fun z=>by simp) _ _ _,HR3.out.set_other (by omega) _ _ _,zga HB3.out (by omega) _ _ _⟩
  ·obtain rfl:k=l.length:=by omega
   have HF2:Hid (zqa w2 (.agg #[.bool s0, .slice b1 m1 j1, .slice b2 m2 j2]) (zgg (qs l))):=zH (by have h5:=HF.out;rw[List.take_length]at h5;exact h5)
   clear HF
   go_wp2
   refine zoa rfl rfl Tryz.aggF Tryz.sizeF (HR.out.set _ _ _) rfl ?_
   exact⟨_,rfl,HF2.out.set3 HR.out (fun z=>by simp) (fun z=>by simp) _ _ _,zga hbr (zLR _) _ _ _⟩
@[go_sem] theorem slen_lit2 (a : Option Addr) (n c : Nat) : slen (.slice a n c) = n := rfl
theorem zmq (va:Value) (x:RF) (w:World) (ha:zdc w va x.neg x.n x.d) (hx:x.ok):Calls Tryz.prog 116 #[va] w (RF0 w x.q):=
 (zus va x.neg x.n x.d w ha).mono fun e w' h=>by
  obtain⟨v,er,rfl,h1,h2,_⟩:=h
  obtain⟨rfl,h3⟩:=h2 hx
  exact⟨v,rfl,h3,h1⟩
theorem den_one {d:Nat} (h:zda d=1):d<4294967296/\∀ (wx:World) (g:Value),zjb wx g d->wx.cell? (ptr g 0)=some (.int .u32 d):=by
 have h0:d≠0:=zfg.1 (by omega)
 have hb:d<4294967296:=by have:=zzb.1 (Nat.le_of_eq h);simpa [pw]using this
 refine⟨hb,fun wx g hg=> ?_⟩
 have h1:=hg.v
 have e:zla d= [d]:=by rw[zxd h0,Nat.mod_eq_of_lt hb,Nat.div_eq_of_lt hb,zbc]
 rw[e]at h1
 exact h1.cell 0 (by simp)
set_option maxHeartbeats 3200000 in
theorem zvr (va:Value) (l:List RF) (w:World) (ha:zni w va l) (hok:∀x∈l,x.ok) (hl:l.length<=65536):
 Calls Tryz.prog 175 #[va] w fun e w'=>e= .returned (.int .i64 (wts (qs l):Nat))/\Below w.heap.size w w':=by
 have sa:=ha.sl
 have la:=ha.len
 have HOK:=zH hok
 clear hok
 go_enter Tryz.func175,Tryz.ntmps175
 go_wp2_with fail
 go_loopw [3,4] (fun u3 u4 wr=>∃ (k:Nat),k<=l.length/\u4= .int .i64 k/\u3= .int .i64 (wts (qs (l.take k)):Nat)/\Below w.heap.size w wr) (fun _ u4 _=>l.length- (intOf u4).toNat)
 case atStart=>exact⟨0,zZL _,rfl,by simp[qs,wts],Below.refl _ _⟩
 case round=>
  obtain⟨k,hk,rfl,rfl,hbr⟩:=hrel
  by_cases hkl:k<l.length
  ·obtain⟨xa,xb,c1,c2,c3,hxa,hxb⟩:=(ha.below hbr).at' k hkl
   obtain⟨c1a,c1l,c1k,rfl,_⟩:=hxa.slen.1
   obtain⟨c2a,c2l,c2k,rfl,_⟩:=hxb.slen.1
   have HX:=zH (HOK.out l[k] (zGM hkl))
   have HTS:=zH (wts_qs l k hkl)
   have hWj:wts (qs (l.take k))<=8192*65536:=by
    have h1:=zgt (l.take k) (fun x h=>HOK.out x (List.mem_of_mem_take h))
    rw[List.length_take]at h1;omega
   generalize l[k]'hkl=x at *
   generalize wts (qs (l.take k))=W1 at *
   have HA:Hid (zdc wr (.agg #[.bool x.neg, .slice c1a c1l c1k, .slice c2a c2l c2k]) x.neg x.n x.d):=zH ⟨_,_,rfl,hxa,hxb⟩
   obtain⟨hf1,hf2⟩:=RF.fits HX.out
   have hn0:=zld (n:=x.q.num.natAbs)
   have hd0:=x.q.den_nz
   have hlp:=zfg (d:=x.q.num.natAbs)
   have hld:=zfg (d:=x.q.den)
   have HONE:=zH (den_one (d:=x.q.den))
   obtain⟨bn,hbn⟩:∃bn,zua x.q.num.natAbs=bn:=⟨_,rfl⟩
   obtain⟨bd,hbd⟩:∃bd,zua x.q.den=bd:=⟨_,rfl⟩
   obtain⟨ln,hln⟩:∃ln,zda x.q.num.natAbs=ln:=⟨_,rfl⟩
   obtain⟨ld,hld2⟩:∃ld,zda x.q.den=ld:=⟨_,rfl⟩
   rw[hbn]at hf1 hn0
   rw[hbd]at hf2
   rw[hln]at hlp
   rw[hld2]at hld
   have HBN:=zH hbn
   have HBD:=zH hbd
   have HLN:=zH hln
   have HLD:=zH hld2
   have hld0:0<ld:=hld.2 hd0
   have i1:(0:Int)<=(k:Int):=by omega
   have i2:(k:Int)<(l.length:Nat):=by omega
   clear hbn hbd hln hld2 hxa hxb hld
   by_cases hz:x.q.num=0
   ·have hbz:bn=0:=by have:=hn0.1;omega
    have hlz:ln=0:=by have:=hlp.1;omega
    have HW:=zH (wt_zero hz)
    have hlq:¬0<ln:=by omega
    have HB0:=zH hbz
    clear hz hn0 hd0 hlp hlz hbz
    go_wp2_with (first
     |(go_at_call 116;(with_reducible refine(zmq _ x _ HA.out HX.out).mono ?_);rintro e w7 ⟨v,rfl,hv,hb7⟩
       obtain⟨xa2,xb2,rfl,hxa2,hxb2⟩:=hv
       obtain⟨y1,y2,y3,rfl,_⟩:=id hxa2.v.sl
       obtain⟨y4,y5,y6,rfl,_⟩:=id hxb2.v.sl
       have e2:y2=_:=hxa2.v.len.trans HLN.out
       have e5:y5=_:=hxb2.v.len.trans HLD.out
       subst e2 e5
       have hb9:=zca w7 (.cells #[.bool (decide (x.q<0)), .slice y1 y2 y3, .slice y4 y5 y6] 38)
       have hC9:=C3.new w7 38 (.bool (decide (x.q<0))) (.slice y1 y2 y3) (.slice y4 y5 y6)
       have HC9:=zH hC9
       have HXA:=zH (hxa2.below hb9)
       have HXB:=zH (hxb2.below hb9)
       have sB:=hxb2.v.sl
       have hb8:=zaa (zaa hbr hb7) hb9
       obtain⟨_,f0,f1,f2,_,_,_⟩:=id hC9
       clear hC9 hxa2 hxb2 hb9)
     |(go_at_call 207;first
       |((with_reducible refine(zsq _ _ _ HXA.out.nat).mono ?_);rintro e w8 ⟨rfl,hb10⟩;rw[HBN.out]
         have hb8:=zaa hb8 hb10
         have HXB:=zH (HXB.out.below hb10)
         skip
         obtain⟨_,f0,f1,f2,_,_,_⟩:=HC9.out.belowS hb10)
       |((with_reducible refine(zsq _ _ _ HXB.out.nat).mono ?_);rintro e w9 ⟨rfl,hb11⟩;rw[HBD.out]
         have hb8:=zaa hb8 hb11)))
    go_roundw
    case rel=>exact⟨k+1,hkl,by go_num,by rw[HTS.out,HW.out,HB0.out];go_num,hb8⟩
    case measure=>simp[intOf];omega
   ·have hbz:0<bn:=hn0.2 (by omega)
    have hlz:0<ln:=hlp.2 (by omega)
    by_cases hd:x.q.den=1
    ·have HW:=zH (wt_int hz hd)
     have hl1:ld=1:=by rw[<-HLD.out,hd];decide+kernel
     have HC1:=zH (HONE.out (by rw[HLD.out];exact hl1))
     have HDE:Hid (∀ (wx:World) (g:Value),zjb wx g x.q.den->wx.cell? (ptr g 0)=some (.int .u32 (1:Nat))):=zH (fun wx g h=>by have:=HC1.out.2 wx g h;rwa[hd]at this)
     have hlq:¬1<ld:=by omega
     clear hz hn0 hd0 hlp hd hl1
     go_wp2_with (first
      |(go_at_call 116;(with_reducible refine(zmq _ x _ HA.out HX.out).mono ?_);rintro e w7 ⟨v,rfl,hv,hb7⟩
        obtain⟨xa2,xb2,rfl,hxa2,hxb2⟩:=hv
        obtain⟨y1,y2,y3,rfl,_⟩:=id hxa2.v.sl
        obtain⟨y4,y5,y6,rfl,_⟩:=id hxb2.v.sl
        have e2:y2=_:=hxa2.v.len.trans HLN.out
        have e5:y5=_:=hxb2.v.len.trans HLD.out
        subst e2 e5
        have hb9:=zca w7 (.cells #[.bool (decide (x.q<0)), .slice y1 y2 y3, .slice y4 y5 y6] 38)
        have hC9:=C3.new w7 38 (.bool (decide (x.q<0))) (.slice y1 y2 y3) (.slice y4 y5 y6)
        have HC9:=zH hC9
        have HXA:=zH (hxa2.below hb9)
        have HXB:=zH (hxb2.below hb9)
        have sB:=hxb2.v.sl
        have hb8:=zaa (zaa hbr hb7) hb9
        obtain⟨_,f0,f1,f2,_,_,_⟩:=id hC9
        clear hC9 hxa2 hxb2 hb9)
      |(go_at_call 207;first
        |((with_reducible refine(zsq _ _ _ HXA.out.nat).mono ?_);rintro e w8 ⟨rfl,hb10⟩;rw[HBN.out]
          have hb8:=zaa hb8 hb10
          have HXB:=zH (HXB.out.below hb10)
          have hden:=HDE.out _ _ HXB.out
          obtain⟨_,f0,f1,f2,_,_,_⟩:=HC9.out.belowS hb10)
        |((with_reducible refine(zsq _ _ _ HXB.out.nat).mono ?_);rintro e w9 ⟨rfl,hb11⟩;rw[HBD.out]
          have hb8:=zaa hb8 hb11)))
     go_roundw
     case rel=>exact⟨k+1,hkl,by go_num,by rw[HTS.out,HW.out,HBN.out];go_num,hb8⟩
     case measure=>simp[intOf];omega
    ·have HW:=zH (wt_frac hz hd)
     by_cases hl1:ld=1
     ·have HC1:=zH (HONE.out (by rw[HLD.out];exact hl1))
      obtain⟨dn,hdn⟩:∃dn,x.q.den=dn:=⟨_,rfl⟩
      have hd2:1<dn:=by omega
      have hd3:dn<4294967296:=by have:=HC1.out.1;omega
      have HDE:Hid (∀ (wx:World) (g:Value),zjb wx g x.q.den->wx.cell? (ptr g 0)=some (.int .u32 dn)):=zH (fun wx g h=>by have:=HC1.out.2 wx g h;rwa[hdn]at this)
      have hlq:¬1<ld:=by omega
      clear hz hn0 hd0 hlp hd hdn hl1
      go_wp2_with (first
       |(go_at_call 116;(with_reducible refine(zmq _ x _ HA.out HX.out).mono ?_);rintro e w7 ⟨v,rfl,hv,hb7⟩
         obtain⟨xa2,xb2,rfl,hxa2,hxb2⟩:=hv
         obtain⟨y1,y2,y3,rfl,_⟩:=id hxa2.v.sl
         obtain⟨y4,y5,y6,rfl,_⟩:=id hxb2.v.sl
         have e2:y2=_:=hxa2.v.len.trans HLN.out
         have e5:y5=_:=hxb2.v.len.trans HLD.out
         subst e2 e5
         have hb9:=zca w7 (.cells #[.bool (decide (x.q<0)), .slice y1 y2 y3, .slice y4 y5 y6] 38)
         have hC9:=C3.new w7 38 (.bool (decide (x.q<0))) (.slice y1 y2 y3) (.slice y4 y5 y6)
         have HC9:=zH hC9
         have HXA:=zH (hxa2.below hb9)
         have HXB:=zH (hxb2.below hb9)
         have sB:=hxb2.v.sl
         have hb8:=zaa (zaa hbr hb7) hb9
         obtain⟨_,f0,f1,f2,_,_,_⟩:=id hC9
         clear hC9 hxa2 hxb2 hb9)
       |(go_at_call 207;first
         |((with_reducible refine(zsq _ _ _ HXA.out.nat).mono ?_);rintro e w8 ⟨rfl,hb10⟩;rw[HBN.out]
           have hb8:=zaa hb8 hb10
           have HXB:=zH (HXB.out.below hb10)
           have hden:=HDE.out _ _ HXB.out
           obtain⟨_,f0,f1,f2,_,_,_⟩:=HC9.out.belowS hb10)
         |((with_reducible refine(zsq _ _ _ HXB.out.nat).mono ?_);rintro e w9 ⟨rfl,hb11⟩;rw[HBD.out]
           have hb8:=zaa hb8 hb11)))
      go_roundw
      case rel=>exact⟨k+1,hkl,by go_num,by rw[HTS.out,HW.out,HBN.out,HBD.out];go_num,hb8⟩
      case measure=>simp[intOf];omega
     ·have hl2:1<ld:=by omega
      clear hz hn0 hd0 hlp hd
      go_wp2_with (first
       |(go_at_call 116;(with_reducible refine(zmq _ x _ HA.out HX.out).mono ?_);rintro e w7 ⟨v,rfl,hv,hb7⟩
         obtain⟨xa2,xb2,rfl,hxa2,hxb2⟩:=hv
         obtain⟨y1,y2,y3,rfl,_⟩:=id hxa2.v.sl
         obtain⟨y4,y5,y6,rfl,_⟩:=id hxb2.v.sl
         have e2:y2=_:=hxa2.v.len.trans HLN.out
         have e5:y5=_:=hxb2.v.len.trans HLD.out
         subst e2 e5
         have hb9:=zca w7 (.cells #[.bool (decide (x.q<0)), .slice y1 y2 y3, .slice y4 y5 y6] 38)
         have hC9:=C3.new w7 38 (.bool (decide (x.q<0))) (.slice y1 y2 y3) (.slice y4 y5 y6)
         have HC9:=zH hC9
         have HXA:=zH (hxa2.below hb9)
         have HXB:=zH (hxb2.below hb9)
         have sB:=hxb2.v.sl
         have hb8:=zaa (zaa hbr hb7) hb9
         obtain⟨_,f0,f1,f2,_,_,_⟩:=id hC9
         clear hC9 hxa2 hxb2 hb9)
       |(go_at_call 207;first
         |((with_reducible refine(zsq _ _ _ HXA.out.nat).mono ?_);rintro e w8 ⟨rfl,hb10⟩;rw[HBN.out]
           have hb8:=zaa hb8 hb10
           have HXB:=zH (HXB.out.below hb10)
           skip
           obtain⟨_,f0,f1,f2,_,_,_⟩:=HC9.out.belowS hb10)
         |((with_reducible refine(zsq _ _ _ HXB.out.nat).mono ?_);rintro e w9 ⟨rfl,hb11⟩;rw[HBD.out]
           have hb8:=zaa hb8 hb11)))
      go_roundw
      case rel=>exact⟨k+1,hkl,by go_num,by rw[HTS.out,HW.out,HBN.out,HBD.out];go_num,hb8⟩
      case measure=>simp[intOf];omega
  ·obtain rfl:k=l.length:=by omega
   rw[List.take_length]at *
   go_wp2_with fail
   go_ret
   exact⟨rfl,hbr⟩
set_option maxHeartbeats 1600000 in
theorem r2mul_raw (va vb:Value) (s t:Bool) (n d m e:Nat) (w:World) (ha:zdc w va s n d) (hb:zdc w vb t m e) (hp:okN n d) (hq:okN m e) (hf:fits (fq s n d*fq t m e)):Calls Tryz.prog 38 #[va,vb] w (RF0 w (fq s n d*fq t m e)):=by
 obtain⟨a1,a2,rfl,n1,n2⟩:=id ha
 obtain⟨b1,b2,rfl,m1,m2⟩:=id hb
 obtain⟨x1,y1,z1,rfl,_⟩:=id n1.slen.1
 obtain⟨x2,y2,z2,rfl,_⟩:=id n2.slen.1
 obtain⟨x3,y3,z3,rfl,_⟩:=id m1.slen.1
 obtain⟨x4,y4,z4,rfl,_⟩:=id m2.slen.1
 have k1:=zca w (.cells #[.bool s, .slice x1 y1 z1, .slice x2 y2 z2] 38)
 have k2:=zca (w.alloc (.cells #[.bool s, .slice x1 y1 z1, .slice x2 y2 z2] 38)) (.cells #[.bool t, .slice x3 y3 z3, .slice x4 y4 z4] 38)
 have k3:=zca ((w.alloc (.cells #[.bool s, .slice x1 y1 z1, .slice x2 y2 z2] 38)).alloc (.cells #[.bool t, .slice x3 y3 z3, .slice x4 y4 z4] 38)) (.cells #[.bool false, .slice none 0 0, .slice none 0 0] 38)
 have H3:=zmc w 38 (.bool s) (.slice x1 y1 z1) (.slice x2 y2 z2) (.bool t) (.slice x3 y3 z3) (.slice x4 y4 z4) (.bool false) (.slice none 0 0) (.slice none 0 0) _ rfl
 obtain⟨hA,hB,hR,hbw⟩:=H3
 have HA:=zH hA
 have HB:=zH hB
 have HR:=zH hR
 have HAP:=zH (ha.below hbw)
 have HBQ:=zH (hb.below hbw)
 have HP:=zH hp
 have HQ:=zH hq
 have HPQ:=zH hf
 have HFQ:Hid (fq s n d*fq t m e=fq (!(s==t)) (n*m) (d*e)):=zH (by rw[fq_mul];rfl)
 have HL:=zH (And.intro (zrc hp) (zrc hq))
 obtain⟨_,c0,c1,c2,_,_,_⟩:=id hA
 obtain⟨_,d0,d1,d2,_,_,_⟩:=id hB
 clear hA hB hR ha hb n1 n2 m1 m2 hp hq hf k1 k2 k3
 go_enter Tryz.func38,Tryz.ntmps38
 go_upto_region 3 with(first
  |(go_at_call 49;(with_reducible refine(zlm _ s n d _ HAP.out HP.out).mono ?_);rintro z1' w1 ⟨rfl,hb1⟩
    obtain⟨_,c0,c1,c2,_,_,_⟩:=HA.out.belowS hb1
    obtain⟨_,d0,d1,d2,_,_,_⟩:=HB.out.belowS hb1)
  |(go_at_call 49;(with_reducible refine(zlm _ t m e _ (HBQ.out.below hb1) HQ.out).mono ?_);rintro z2' w2 ⟨rfl,hb2⟩))
 have b12:=zaa hb1 hb2
 have hD:=zja (B:=w2.heap.size) w2
 have b1D:=zaa b12 hD
 obtain⟨_,q1,q2,q3,_,_,_⟩:=HA.out.belowS b1D
 obtain⟨_,r1,r2,r3,_,_,_⟩:=HB.out.belowS b1D
 have HRD:=zH (HR.out.belowS b1D)
 have HAD:=zH (HAP.out.below b1D)
 have HBD:=zH (HBQ.out.below b1D)
 have hbwD:=zaa hbw b1D
 obtain⟨u1,u2,hu,nA,nB⟩:=HAD.out
 injection hu with hu
 injection hu with hu
 simp only[List.cons.injEq,and_true,true_and]at hu
 obtain⟨rfl,rfl⟩:=hu
 obtain⟨u1,u2,hu,mA,mB⟩:=HBD.out
 injection hu with hu
 injection hu with hu
 simp only[List.cons.injEq,and_true,true_and]at hu
 obtain⟨rfl,rfl⟩:=hu
 have kA:w.heap.size+1+1≠w.heap.size:=by omega
 have kB:w.heap.size+1+1≠w.heap.size+1:=by omega
 have HNN:=zH (And.intro nA (And.intro nB (And.intro mA mB)))
 have HDZ:Hid (d*e≠0):=zH (Nat.mul_ne_zero HP.out.1 HQ.out.1)
 have HN5:Hid (zda (n*m)<=512):=zH (zLT (zsd HL.out.1.1 HL.out.2.1) (by decide))
 have HD5:Hid (zda (d*e)<=512):=zH (zLT (zsd HL.out.1.2 HL.out.2.2) (by decide))
 clear nA nB mA mB c0 c1 c2 d0 d1 d2
 go_region_held3 (fun w'=>w'.cell? ⟨w.heap.size,0,none⟩=some (.bool s)/\w'.cell? ⟨w.heap.size,1,none⟩=some (.slice x1 y1 z1)/\w'.cell? ⟨w.heap.size,2,none⟩=some (.slice x2 y2 z2)/\w'.cell? ⟨w.heap.size+1,0,none⟩=some (.bool t)/\w'.cell? ⟨w.heap.size+1,1,none⟩=some (.slice x3 y3 z3)/\w'.cell? ⟨w.heap.size+1,2,none⟩=some (.slice x4 y4 z4)) (first
  | with_reducible exact⟨q1,q2,q3,r1,r2,r3⟩
  | with_reducible exact keep6b (by assumption) (by assumption)
  | with_reducible exact zvp (zvp (zvp (by assumption) kA kA kA kB kB kB _) kA kA kA kB kB kB _) kA kA kA kB kB kB _) (first
  |(go_at_call 74;(with_reducible refine(zke _ _ n m _ HNN.out.1 HNN.out.2.2.1 HL.out.1.1 HL.out.2.1).mono ?_);rintro z3' w3 ⟨v3,rfl,hv3,hb3⟩)
  |(go_at_call 74;(with_reducible refine(zke _ _ d e _ (HNN.out.2.1.below hb3) (HNN.out.2.2.2.below hb3) HL.out.1.2 HL.out.2.2).mono ?_);rintro z4' w4 ⟨v4,rfl,hv4,hb4⟩)
  |(go_at_call 71;(with_reducible refine(zpe _ _ _ (n*m) (d*e) _ (hv3.below hb4).nat hv4.nat HDZ.out HN5.out HD5.out).mono ?_);rintro z5' w5 ⟨v5,rfl,hv5,hb5⟩)
  |(go_at_call 76;(with_reducible refine(zuo _ (fq s n d*fq t m e) _ (by(rw[HFQ.out];exact hv5)) HPQ.out).mono ?_);rintro z6' w6 ⟨v6,rfl,hv6,hb6⟩
    obtain⟨t9,x9,y9,rfl,⟨a91,l91,k91,rfl,_⟩,⟨a92,l92,k92,rfl,_⟩⟩:=hv6.isF
    have HR6:=zH ((((HRD.out.belowS hb3).belowS hb4).belowS hb5).belowS hb6)
    obtain⟨_,g0,g1,g2,g3,g4,g5⟩:=HR6.out))
 have hbE:=zaa (zaa (zaa (zaa hbwD hb3) hb4) hb5) hb6
 go_wp2_with fail
 refine zoa rfl rfl Tryz.aggF Tryz.sizeF (HR6.out.set _ _ _) rfl ?_
 exact⟨_,rfl,hv6.set3 HR6.out (fun z=>by simp) (fun z=>by simp) _ _ _,zga hbE (zLT (Nat.le_succ _) (Nat.le_succ _)) _ _ _⟩
end Go.Proofs.YtlpdkbmmbdfoiaaGreat
