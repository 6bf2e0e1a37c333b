/-
  package lump: Quotient, the state of its loop.
-/
import Derived.Test.YtlpdkbmmbdfoiaaGreatLSa2
import Derived.Test.YtlpdkbmmbdfoiaaGreatLHp8
import Derived.Test.YtlpdkbmmbdfoiaaGreatLRb5
import Derived.Test.YtlpdkbmmbdfoiaaGreatLMath8
import Derived.Test.YtlpdkbmmbdfoiaaGreatLMath16
import Derived.RegionTactic
import Derived.ChangeAlike
set_option linter.unusedVariables false
set_option linter.unusedSimpArgs false
namespace Go.Proofs.YtlpdkbmmbdfoiaaGreat
open Go.RowKit
def RMean (w0:World) (c:RC) (R:Rat) (e:Ending) (w:World):Prop:=
 ((∀j,j<c.rates.length→Rch c j→Ftl c j)∧RF0 w0 R e w)∨((∃j,j<c.rates.length∧Rch c j∧¬Ftl c j)∧e= .returned (.tuple #[.agg #[.bool false, .slice none 0 0, .slice none 0 0], .int .i64 14])∧Below w0.heap.size w0 w)
set_option maxRecDepth 100000 in
set_option maxHeartbeats 6400000 in
theorem mean_any (va:Value) (c:RC) (R:Rat) (w:World) (ha:zdq w va c) (hv:zzp c) (hp:(∀j,j<c.rates.length→Rch c j→Ftl c j)→∀l,zvq c l→∃x,zzt c l (fun _=>1) x∧sg l.length (fun i=>(qs c.start).getD (l.getD i 0) 0*x i)=R):
 Calls Tryz.prog 45 #[va] w (RMean w c R):=by
 have HP:=zH hp
 clear hp
 have hlen:c.rates.length=c.start.length:=hv.2.2.2.1
 have hlost:c.lost.length=c.start.length:=hv.2.2.1
 have h128:c.start.length≤128:=hv.2.1
 obtain⟨rv,sv,lv,rfl,hr,hs,hlo⟩:=id ha
 obtain⟨ra,rn,rk,rfl,_⟩:=id hr.sl
 obtain⟨sa,sn,sk,rfl,_⟩:=id hs.sl
 obtain⟨la,ln,lk,rfl,_⟩:=id (zhc.sl hlo)
 have hbx:=zca w (.cells #[.slice ra rn rk, .slice sa sn sk, .slice la ln lk] 28)
 have hb2:=zca (w.alloc (.cells #[.slice ra rn rk, .slice sa sn sk, .slice la ln lk] 28)) (.cells #[.bool false, .slice none 0 0, .slice none 0 0] 38)
 have HC:=zH ((C3.new w 28 (.slice ra rn rk) (.slice sa sn sk) (.slice la ln lk)).belowS hb2)
 have HR:=zH (C3.newB (b:=w.heap.size+1) (w.alloc (.cells #[.slice ra rn rk, .slice sa sn sk, .slice la ln lk] 28)) 38 (.bool false) (.slice none 0 0) (.slice none 0 0) (by simp))
 have HBW:=zH (zaa hbx hb2)
 have HA:=zH (ha.below HBW.out)
 have HV:=zH hv
 have hrn:rn=c.rates.length:=hr.len
 have hsn:sn=c.rates.length:=hs.len.trans hlen.symm
 have hll:ln=c.rates.length:=by have h:ln=c.lost.length:=hlo.len;omega
 have hrn128:c.rates.length≤128:=by omega
 have HRT:=zH (hr.below HBW.out)
 have HST:=zH (hs.below HBW.out)
 have HLO:=zH (hlo.below HBW.out)
 have HLL:Hid (c.lost.length=c.rates.length):=zH (by omega)
 have HSL:Hid (c.start.length=c.rates.length):=zH hlen.symm
 have srt:=hr.sl
 have sst:=hs.sl
 have slo:=zhc.sl hlo
 obtain⟨n,hn⟩:∃n,c.rates.length=n:=⟨_,rfl⟩
 rw[hn]at hrn hsn hll hrn128 HLL HSL
 have HN:=zH hn
 subst hrn
 obtain rfl:sn=rn:=hsn
 obtain rfl:ln=sn:=hll
 clear hr hs hlo ha hv hbx hb2 hlen hlost h128 hn
 obtain⟨i0,hi,hz0,hz1,hz2⟩:=info_parts Tryz.infoF
 have hM:=zon (P:=Tryz.prog) 25 38 i0 Tryz.underlying25 hi hz0 hz1 (by rw[hz2];decide)
 clear hi hz0 hz1 hz2 HRT HST HLO HLL HSL
 go_enter Tryz.func45,Tryz.ntmps45
 go_upto_region 1 with fail
 generalize (w.alloc (.cells #[.slice ra ln rk, .slice sa ln sk, .slice la ln lk] 28)).alloc (.cells #[.bool false, .slice none 0 0, .slice none 0 0] 38)=W2 at *
 obtain⟨_,c0,c1,c2,_,_,_⟩:=HC.out
 go_upto_region 3 with(first
  |(go_at_call 68;(with_reducible refine(zar _ c _ HA.out).mono ?_);rintro e2 w2 ⟨⟨b2,rfl,hv2⟩,hb2⟩;obtain rfl:b2=true:=hv2.2 HV.out;clear hv2
    have HC2:=zH (HC.out.belowS hb2)
    have HR2:=zH (HR.out.belowS hb2)
    have HA2:=zH (HA.out.below hb2)
    have HBW2:=zH (zaa HBW.out hb2)
    clear hb2))
 clear c0 c1 c2 HC HR HA HBW
 obtain⟨_,c0,c1,c2,_,_,_⟩:=HC2.out
 have S0:=zH (And.intro c0 (And.intro c1 c2))
 clear c0 c1 c2
 go_region_held3 (fun w'=>w'.cell? ⟨w.heap.size,0,none⟩=some (.slice ra ln rk)∧w'.cell? ⟨w.heap.size,1,none⟩=some (.slice sa ln sk)∧w'.cell? ⟨w.heap.size,2,none⟩=some (.slice la ln lk)∧Below w2.heap.size w2 w') (first
  | with_reducible exact kp3a S0.out (zja _)
  | with_reducible exact kp3w (by assumption) (by assumption)) (first
  |(go_at_call 111;(with_reducible refine(zyr _ c _ (HA2.out.below (kp3c (by assumption))) HV.out).mono ?_);rintro e4 w4 ⟨v4,bs4,rfl,hv4,hl4,hm4,hb4⟩)
  |(go_at_call 112;(with_reducible refine(fatal_any _ c _ (HA2.out.below (kp3c (by assumption))) HV.out).mono ?_);rintro e5 w5 ⟨v5,bs5,rfl,hv5,hl5,hm5,hb5⟩))
 have hE:=kp3c (by assumption)
 have HV4:=zH (hv4.below hb5)
 have HV5:=zH hv5
 have HC5:=zH (HC2.out.belowS hE)
 have HR5:=zH (HR2.out.belowS hE)
 have HA5:=zH (HA2.out.below hE)
 have HBW5:=zH (zaa HBW2.out hE)
 have s4:=zhc.sl hv4
 have s5:=zhc.sl hv5
 rw[HN.out]at hl4 hl5 hm4 hm5
 have l4:slen v4=ln:=by rw[hv4.len,hl4]
 have l5:slen v5=ln:=by rw[hv5.len,hl5]
 have HLN4:=zH hl4
 have HLN5:=zH hl5
 have HM4:=zH hm4
 have HM5:=zH hm5
 obtain⟨va4,vn4,vk4,rfl,_⟩:=id s4
 obtain⟨va5,vn5,vk5,rfl,_⟩:=id s5
 obtain rfl:vn4=ln:=l4
 obtain rfl:vn5=vn4:=l5
 clear hv4 hv5 hE hl4 hl5 hm4 hm5 hb4 hb5 HC2 HR2 HA2 HBW2 S0
 go_wp2_with fail
 go_loopg [20] (vn5) (fun g u20 wr=>wr=w5∧∃ (k:Nat),k≤vn5∧g=vn5-k∧u20= .int .i64 k∧(∀j,j<k→bs4.getD j false=true→bs5.getD j false=true))
 case atStart=>exact⟨rfl,0,Nat.zero_le _,rfl,rfl,fun j h=>by omega⟩
 case round=>
  obtain⟨rfl,k,hkn,hg,rfl,hall⟩:=hrel
  have HG:=zH hg
  have HALL:=zH hall
  clear hg hall
  by_cases hkl:k<vn5
  ·have hk4:k<bs4.length:=by rw[HLN4.out];exact hkl
   have hk5:k<bs5.length:=by rw[HLN5.out];exact hkl
   have q4:=HV4.out.at' k hk4
   have q5:=HV5.out.at' k hk5
   have HX4:=zH (zrn hk4)
   have HX5:=zH (zrn hk5)
   have i1:(0:Int)≤(k:Int):=by omega
   have i2:(k:Int)<(vn5:Nat):=by omega
   obtain⟨x4,hx4⟩:∃x,bs4[k]'hk4=x:=⟨_,rfl⟩
   obtain⟨x5,hx5⟩:∃x,bs5[k]'hk5=x:=⟨_,rfl⟩
   rw[hx4]at q4 HX4
   rw[hx5]at q5 HX5
   clear hx4 hx5
   cases x4 with
   | false=>
     go_wp2_with fail
     go_roundg (vn5- (k+1))
     case measure=>(have:=HG.out;omega)
     case rel=>
      refine⟨rfl,k+1,by omega,rfl,by go_num,fun j hj h=> ?_⟩
      rcases Nat.lt_or_ge j k with h6 | h6
      ·exact HALL.out j h6 h
      ·obtain rfl:j=k:=by omega
       rw[HX4.out]at h
       cases h
   | true=>
     cases x5 with
     | true=>
       go_wp2_with fail
       go_roundg (vn5- (k+1))
       case measure=>(have:=HG.out;omega)
       case rel=>
        refine⟨rfl,k+1,by omega,rfl,by go_num,fun j hj h=> ?_⟩
        rcases Nat.lt_or_ge j k with h6 | h6
        ·exact HALL.out j h6 h
        ·obtain rfl:j=k:=by omega
         exact HX5.out
     | false=>
       obtain⟨_,r0,r1,r2,q0,q1,q2⟩:=HR5.out
       go_wp2_with fail
       refine zoa rfl rfl Tryz.aggF Tryz.sizeF (HR5.out.set _ _ _) rfl ?_
       refine Or.inr ⟨⟨k,by rw[HN.out];exact hkl,(HM4.out k hkl).1 HX4.out,fun h=> ?_⟩,rfl,zga HBW5.out (Nat.le_succ _) _ _ _⟩
       have h2:=(HM5.out k hkl).2 h
       rw[HX5.out]at h2
       cases h2
  ·obtain rfl:k=vn5:=by omega
   have hsure:∀j,j<c.rates.length→Rch c j→Ftl c j:=fun j hj h=>by
    rw[HN.out]at hj
    exact(HM5.out j hj).1 (HALL.out j hj ((HM4.out j hj).2 h))
   have HSURE:=zH hsure
   obtain⟨_,c0,c1,c2,_,_,_⟩:=HC5.out
   clear HM4 HM5 HALL hsure HV4 HV5 HLN4 HLN5
   go_upto_region 11 with(first
    |(go_at_call 108;(with_reducible refine(zzv _ c _ HA5.out HV.out).mono ?_);rintro e3 w3 ⟨v3,l,rfl,hv3,hal,hb3⟩
      have HB3:=zH hb3
      have HL3:=zH hv3
      obtain⟨x,hx⟩:=HP.out HSURE.out l hal
      have HX:=zH hx.1
      have HXR:=zH hx.2
      have hl24:=hx.1.le
      obtain⟨m,hm⟩:∃m,l.length=m:=⟨_,rfl⟩
      have HM:=zH hm
      rw[hm]at hl24
      have sv3:=zhc.sl hv3
      have lv3:slen v3=m:=by have h:=zhc.len hv3;rw[List.length_map,zbq,hm]at h;exact h
      obtain⟨va1,vn1,vk1,rfl,_⟩:=id (zhc.sl hv3)
      obtain rfl:vn1=m:=lv3
      have HC3:=zH (HC5.out.belowS hb3)
      have HR3:=zH (HR5.out.belowS hb3)
      have HA3:=zH (HA5.out.below hb3)
      have HBW3:=zH (zaa HBW5.out hb3)
      clear hv3 hal hb3 HP hx hm c0 c1 c2))
   clear HA5 HC5 HR5 HBW5
   go_wp2_with (refine hM w3 rfl _ _ rfl w3.heap.size _ vn1 rfl rfl rfl (by omega) (Nat.le_refl _) ?_
                intro vO w5 hO5 hb5 hvO
                have HO5:=zH hO5
                have HB5:=zH hb5
                have slO:=hO5.sl
                have lnO:=hO5.len
                clear hO5 hb5)
   clear hM
   go_loopg [43] (vn1) (fun g u43 wr=>∃ (i:Nat),i≤vn1∧g=vn1-i∧u43= .int .i64 i∧zqb wr 38 w3.heap.size vO vn1∧(∀t,t<i→zlg wr vO t 1)∧Below w3.heap.size w3 wr)
   case atStart=>exact⟨0,Nat.zero_le _,rfl,rfl,HO5.out,fun t h=>by omega,HB5.out⟩
   case round=>
    obtain⟨i,hin,hg,rfl,ho,he,hbr⟩:=hrel
    obtain⟨w6,hw6⟩:∃w6,w6=wr:=⟨_,rfl⟩
    subst hw6
    have HG:=zH hg
    have HE:=zH he
    have HO:=zH ho
    have HBR:=zH hbr
    clear he hg HO5 HB5
    by_cases hil:i<vn1
    ·have i1:(0:Int)≤(i:Int):=by omega
     have i2:(i:Int)<(vn1:Nat):=by omega
     clear ho hbr
     go_wp2_with (first
      |(go_at_call 109;(with_reducible refine(zqs _).mono ?_);rintro e31 w31 ⟨v31,rfl,hv31,hb31⟩
        obtain⟨t6,x31,y31,rfl,⟨a61,l61,k61,rfl,_⟩,⟨a62,l62,k62,rfl,_⟩⟩:=hv31.isF
        have ho3:=HO.out.below hb31
        obtain⟨c0,d0,_⟩:=ho3.cell (i*3) (by omega)
        obtain⟨c1,d1,_⟩:=ho3.cell (i*3+1) (by omega)
        obtain⟨c2,d2,_⟩:=ho3.cell (i*3+2) (by omega)
        have f0:=ho3.frozen (i*3)
        have f1:=ho3.frozen (i*3+1)
        have f2:=ho3.frozen (i*3+2)
        have n01:=ho3.inj (show i*3≠i*3+1 by omega)
        have n02:=ho3.inj (show i*3≠i*3+2 by omega)
        have n12:=ho3.inj (show i*3+1≠i*3+2 by omega)
        have HS3:=zH (ho3.set3 i (.bool t6) (.slice a61 l61 k61) (.slice a62 l62 k62) (fun z=>by simp) (fun z=>by simp) (fun z=>by simp))
        have HE3:=zH (fun t ht=>(HE.out t ht).below hb31)
        have HO3:=zH ho3
        have HV6:=zH hv31
        have HB3:=zH (zfa HBR.out hb31 HBR.out.size)
        clear ho3 hv31 hb31))
     go_roundg (vn1- (i+1))
     case measure=>(have:=HG.out;omega)
     case rel=>
      refine⟨i+1,by omega,rfl,by go_num,HS3.out.1,fun t ht=> ?_,HB3.out.trans HS3.out.2⟩
      rcases Nat.lt_or_ge t i with h6 | h6
      ·exact zlg.set3_other HO3.out hil (by omega) (HE3.out t h6) _ _ _ (fun z=>by simp) (fun z=>by simp)
      ·obtain rfl:t=i:=by omega
       exact zlg.set3 HO3.out hil HV6.out
    ·obtain rfl:i=vn1:=by omega
     have HVR:Hid (zbb w6 vO (zib l.length fun i=>1)):=zH (by
      rw[HM.out]
      exact HO.out.fracs (zea _ _) (fun j hj=>by rw[zea]at hj;rw[ztb];exact HE.out j hj))
     have HA6:=zH (HA3.out.below hbr)
     have HL6:=zH (HL3.out.below hbr)
     have hc6:=HC3.out.belowS hbr
     have HR6:=zH (HR3.out.belowS hbr)
     have HBW6:=zH (zaa HBW3.out hbr)
     obtain⟨_,e0,e1,e2,_,_,_⟩:=hc6
     clear ho HO HE HBR hbr HC3 HR3 HA3 HBW3 HL3 HG
     go_wp2_with (first
      |(go_at_call 110;(with_reducible refine(zru _ _ _ c l _ x _ HA6.out HV.out HL6.out HVR.out HX.out).mono ?_);rw[HXR.out];rintro e8 w8 ⟨v8,rfl,hv8,hb8⟩
        obtain⟨t8,x8,y8,rfl,⟨a81,l81,k81,rfl,_⟩,⟨a82,l82,k82,rfl,_⟩⟩:=hv8.isF
        have hr8:=HR6.out.belowS hb8
        have HR8:=zH hr8
        have HB8:=zH (zaa HBW6.out hb8)
        have HV8:=zH hv8
        obtain⟨_,r0,r1,r2,q0,q1,q2⟩:=hr8
        clear hv8 hb8))
     refine zoa rfl rfl Tryz.aggF Tryz.sizeF (HR8.out.set _ _ _) rfl ?_
     exact Or.inl ⟨HSURE.out,_,rfl,HV8.out.set3 HR8.out (fun z=>by simp) (fun z=>by simp) _ _ _,zga HB8.out (Nat.le_succ _) _ _ _⟩
end Go.Proofs.YtlpdkbmmbdfoiaaGreat
namespace Go.Proofs.YtlpdkbmmbdfoiaaGreat
def stS (c:RC) (X:Nat→Rat):Rat:=sg c.rates.length fun t=>(qs c.start).getD t 0*X t
abbrev HitC (c:RC) (H:Nat→Rat):Prop:=HitF c.rates.length (rq c) (ziq c) H
abbrev TimeC (c:RC) (T:Nat→Rat):Prop:=TimeF c.rates.length (rq c) (ziq c) (Sure c.rates.length (rq c) (ziq c)) T
end Go.Proofs.YtlpdkbmmbdfoiaaGreat
namespace Go.Proofs.YtlpdkbmmbdfoiaaGreat
set_option maxHeartbeats 800000
open Go.RowKit
structure znb (w:World) (b:Nat) (l:List Nat) (at':Nat):Prop where
 lt:b<w.heap.size
 ex:∃v,w.cell? ⟨b,0,none⟩=some v∧zhc w v (l.map fun x:Nat=>Value.int .u8 (x:Nat))
 c1:w.cell? ⟨b,1,none⟩=some (.int .i64 (at':Nat))
 f1:w.frozen? ⟨b,1,none⟩=false
 len:l.length≤400
 le:at'≤400
 byte:∀x∈l,x<256
def zyl (b:Nat) (w w':World):Prop:=(∃k,w'=w.drewN k)∨∃k k' a,w'=((w.drewN k).setCell ⟨b,1,none⟩ (.int .i64 a)).drewN k'
def RNext (w0:World) (b:Nat) (l:List Nat) (n:Nat) (e:Ending) (w:World):Prop:=∃x a:Nat,e= .returned (.int .i64 (x:Nat))∧x<n∧znb w b l a∧zyl b w0 w
theorem znb.drawn {w:World} {b:Nat} {l:List Nat} {a:Nat} (h:znb w b l a) (k:Nat):znb (w.drewN k) b l a:=by
 obtain⟨lt,⟨v,e1,e2⟩,c1,f1,h1,h2,h3⟩:=h
 have hb:=zka (B:=w.heap.size) w k
 exact⟨Nat.lt_of_lt_of_le lt hb.size,⟨v,zba hb e1,e2.below hb⟩,zba hb c1,by rw[hb.frozen lt];exact f1,h1,h2,h3⟩
theorem next_zero (b:Nat) (l:List Nat) (a n:Nat) (w:World) (h:znb w b l a) (hn:1≤n) (hn2:n≤65536) (hz:l.length≤a∨n<2):
 Calls Tryz.prog 107 #[.pointer (some ⟨b,0,none⟩), .int .i64 n] w (RNext w b l n):=by
 obtain⟨v,e1,e2⟩:=h.ex
 have c1:=h.c1
 have f1:=h.f1
 have sv:=zhc.sl e2
 have lv:slen v=l.length:=by have:=zhc.len e2;simpa using this
 have hll:=h.len
 have hle:=h.le
 by_cases h1:l.length≤a
 ·have hd:decide (((l.length:Nat):Int)≤(a:Nat))=true:=decide_eq_true (by omega)
  go_enter Tryz.func107,Tryz.ntmps107
  go_wp2
  go_quiet (fail)
  go_wp2
  go_ret
  exact⟨0,a,rfl,hn,h.drawn _,Or.inl ⟨_,rfl⟩⟩
 ·have hd:decide (((l.length:Nat):Int)≤(a:Nat))=false:=decide_eq_false (by omega)
  have h2:n<2:=hz.resolve_left h1
  have hd2:decide ((n:Int)<2)=true:=decide_eq_true (by omega)
  go_enter Tryz.func107,Tryz.ntmps107
  go_wp2
  go_quiet (fail)
  go_wp2
  go_ret
  exact⟨0,a,rfl,hn,h.drawn _,Or.inl ⟨_,rfl⟩⟩
theorem cell_tick {w:World} {b:Nat} {a0:Int} {p:Addr} {x:Value} (hc:w.cell? ⟨b,1,none⟩=some (.int .i64 a0)) (hp:w.cell? p=some x) (hx:∀z,x≠ .int .i64 z) (u:Value):(w.setCell ⟨b,1,none⟩ u).cell? p=some x:=by
 rw[World.cell?_setCell_other]
 ·exact hp
 ·intro e
  rw[←e,hc]at hp
  injection hp with hp
  exact hx _ hp.symm
theorem znb.tick {w:World} {b:Nat} {l:List Nat} {a:Nat} (h:znb w b l a) (a':Nat) (ha:a'≤400):znb (w.setCell ⟨b,1,none⟩ (.int .i64 (a':Nat))) b l a':=by
 obtain⟨lt,⟨v,e1,e2⟩,c1,f1,h1,h2,h3⟩:=h
 refine⟨by simpa [World.setCell]using lt,⟨v,?_,e2.sl,e2.len,fun j hj=>cell_tick c1 (e2.cell j hj) (fun z=>by simp) _⟩,?_,?_,h1,ha,h3⟩
 ·rw[World.cell?_setCell_other _ _ _ _ (by simp)];exact e1
 ·exact World.cell?_setCell_same _ _ _ c1
 ·go_simp
theorem next_more (b:Nat) (l:List Nat) (a n:Nat) (w:World) (h:znb w b l a) (hn2:n≤65536) (h1:a<l.length) (h2:2≤n):
 Calls Tryz.prog 107 #[.pointer (some ⟨b,0,none⟩), .int .i64 n] w (RNext w b l n):=by
 obtain⟨v,e1,e2⟩:=h.ex
 have c1:=h.c1
 have f1:=h.f1
 have sv:=zhc.sl e2
 have lv:slen v=l.length:=by have:=zhc.len e2;simpa using this
 have hll:=h.len
 have hd:decide (((l.length:Nat):Int)≤(a:Nat))=false:=decide_eq_false (by omega)
 have hd2:decide ((n:Int)<2)=false:=decide_eq_false (by omega)
 have HT:=zH h
 go_enter Tryz.func107,Tryz.ntmps107
 go_wp2
 go_quiet (fail)
 have hT1:=HT.out.drawn nq
 obtain⟨v2,e11,e12⟩:=hT1.ex
 have c2:=hT1.c1
 have f2:=hT1.f1
 clear hd hd2 c1 f1
 go_wp2
 have hT2:znb ((w.drewN nq).setCell ⟨b,1,none⟩ (.int .i64 ((a:Int)+1))) b l (a+1):=by
  have:=hT1.tick (a+1) (by omega)
  rwa[show(((a+1:Nat)):Int)=(a:Int)+1 from by omega]at this
 obtain⟨v3,e13,e14⟩:=hT2.ex
 have c3:=hT2.c1
 have s3:=zhc.sl e14
 have l3:slen v3=l.length:=by have:=zhc.len e14;simpa using this
 have hx:=e14.cell a (by simpa using h1)
 rw[List.getElem_map]at hx
 have hxb:=h.byte l[a] (List.getElem_mem h1)
 have HTK:Hid (∀k,zyl b w (((w.drewN nq).setCell ⟨b,1,none⟩ (.int .i64 ((a:Int)+1))).drewN k)):=zH (fun k=>Or.inr ⟨_,_,_,rfl⟩)
 generalize l[a]'h1=x at *
 generalize (w.drewN nq).setCell ⟨b,1,none⟩ (.int .i64 ((a:Int)+1))=W2 at *
 have i1:IntKind.i64.wrap ((((a+1:Nat)):Int)-1)=(a:Int):=by rw[IntWalk.i64_in _ (by omega)];omega
 have i2:(0:Int)≤(a:Int):=by omega
 have i3:(a:Int)<(l.length:Nat):=by omega
 have i4:Int.tmod (x:Int) (n:Int)=((x%n:Nat):Int):=by rw[Int.tmod_eq_emod_of_nonneg (by omega)];omega
 go_quiet (fail)
 go_wp2
 go_ret
 exact⟨x%n,a+1,by first | rfl | (congr 2),Nat.mod_lt _ (by omega),hT2.drawn _,HTK.out _⟩
theorem next_any (b:Nat) (l:List Nat) (a n:Nat) (w:World) (h:znb w b l a) (hn:1≤n) (hn2:n≤65536):
 Calls Tryz.prog 107 #[.pointer (some ⟨b,0,none⟩), .int .i64 n] w (RNext w b l n):=by
 rcases Nat.lt_or_ge a l.length with h1 | h1
 ·rcases Nat.lt_or_ge n 2 with h2 | h2
  ·exact next_zero b l a n w h hn hn2 (Or.inr h2)
  ·exact next_more b l a n w h hn2 h1 h2
 ·exact next_zero b l a n w h hn hn2 (Or.inl h1)
theorem zyl.cell {b:Nat} {w w':World} (h:zyl b w w') {a0:Int} (hc:w.cell? ⟨b,1,none⟩=some (.int .i64 a0)) {p:Addr} {x:Value} (hp:w.cell? p=some x) (hx:∀z,x≠ .int .i64 z):w'.cell? p=some x:=by
 rcases h with⟨k,rfl⟩ | ⟨k,k',a,rfl⟩
 ·exact zba (zka w k) hp
 ·refine zba (zka _ k') ?_
  exact cell_tick (zba (zka w k) hc) (zba (zka w k) hp) hx _
theorem zyl.size {b:Nat} {w w':World} (h:zyl b w w'):w.heap.size≤w'.heap.size:=by
 rcases h with⟨k,rfl⟩ | ⟨k,k',a,rfl⟩
 ·exact(zka (B:=w.heap.size) w k).size
 ·have h1:=(zka (B:=w.heap.size) w k).size
  have h2:=(zka (B:=w.heap.size) ((w.drewN k).setCell ⟨b,1,none⟩ (.int .i64 a)) k').size
  have h3:((w.drewN k).setCell ⟨b,1,none⟩ (.int .i64 a)).heap.size=(w.drewN k).heap.size:=by simp[World.setCell]
  omega
theorem zyl.below {b B:Nat} {w w':World} (h:zyl b w w') (hB:B≤b) (hs:B≤w.heap.size):Below B w w':=by
 rcases h with⟨k,rfl⟩ | ⟨k,k',a,rfl⟩
 ·exact zka w k
 ·exact((zka w k).setCell (p:=⟨b,1,none⟩) hB _).trans (zka _ k')
theorem zfc.tick {b:Nat} {w w':World} {l0:List Nat} {a:Nat} (ht:znb w b l0 a) (h:zyl b w w') {v:Value} {l:List Nat} (hv:zfc w v l):zfc w' v l:=
 ⟨hv.sl,hv.len,fun j hj=>h.cell ht.c1 (hv.cell j hj) (fun z=>by simp),hv.lm⟩
theorem zjb.tick {b:Nat} {w w':World} {l0:List Nat} {a:Nat} (ht:znb w b l0 a) (h:zyl b w w') {v:Value} {n:Nat} (hv:zjb w v n):zjb w' v n:=⟨hv.v.tick ht h,hv.2⟩
theorem zqa.tick {b:Nat} {w w':World} {l0:List Nat} {a:Nat} (ht:znb w b l0 a) (h:zyl b w w') {v:Value} {q:Rat} (hv:zqa w v q):zqa w' v q:=by
 obtain⟨x,y,rfl,h1,h2⟩:=hv;exact⟨x,y,rfl,h1.tick ht h,h2.tick ht h⟩
theorem Tryz.infoU8 :(Tryz.prog.info? 5).map (fun i=>(i.zero,i.size,i.bytes))=some (some (.int .u8 0),1,1):=by kernel_rfl
def bytes (l:List Nat):List Value:=l.map fun x:Nat=>Value.int .u8 (x:Nat)
theorem zhc.tk {w:World} {v:Value} {l:List Value} (h:zhc w v l) (n:Nat) (hn:n≤l.length):zhc w (tk v n) (l.take n):=by
 have e:(l.take n).length=n:=by rw[List.length_take];omega
 have h1:=h.sl.le
 have h2:=h.len
 refine⟨h.sl.tk (by omega),by rw[e];exact h.sl.slen_tk n,fun j hj=> ?_⟩
 rw[ptr_tk,List.getElem_take]
 exact h.cell j (by omega)
def RTape (w0:World) (l:List Nat) (e:Ending) (w:World):Prop:=∃b,e= .returned (.pointer (some ⟨b,0,none⟩))∧w0.heap.size≤b∧znb w b l 0∧Below w0.heap.size w0 w
theorem tape_new (w w1:World) (v:Value) (l:List Nat) (t e:TypeId) (hl:l.length≤400) (hb:∀x∈l,x<256) (h:zce w1 e w.heap.size v (bytes l)) (hbel:Below w.heap.size w w1):
 RTape w l (.returned (.pointer (some ⟨w1.heap.size,0,none⟩))) (w1.alloc (.cells #[v, .int .i64 0] t)):=by
 refine⟨_,rfl,hbel.size,⟨by simp,⟨v,by simp,?_⟩,by simp,by simp,hl,by omega,hb⟩,hbel.alloc hbel.size _⟩
 exact⟨h.sl,by rw[h.len];rfl,fun j hj=>(h.alloc _).cell j hj⟩
theorem append_u8 {P:Program} (t e:TypeId) (i:TypeInfo) (ht:P.underlying t=some (.slice e)) (hi:P.info? e=some i) (hz:i.zero=some (.int .u8 0))
 (hsize:i.size=1) (hby:i.bytes=1) (w:World) {ops:Array Oper} {rest:List Oper} {o:Oper} {a:Act} {Q:Exit→Act→World→Prop} (hgd:o.guard=none) (s x:Operand)
 (ho:o.op= .call { callee:= .builtin .append,args:=#[s,x],argTypes:=#[t,t] })
 (hs:a.eval s= .slice none 0 0) (xv:Value) (hxe:a.eval x=xv) (l:List Nat) (hx:zhc w xv (bytes l)) (hb:l.length≤400)
 (h:∀v' w',zce w' e w.heap.size v' (bytes l)→Below w.heap.size w w'→wpList P ops Q rest (a.put o.dst v') w'):wpList P ops Q (o::rest) a w:=by
 have hl:(bytes l).length=l.length:=by simp[bytes]
 refine zie w hgd s x t ho w.heap.size e i (.int .u8 0) 1 ht hi hz hsize hby rfl _ [] hs (zce.nil _ _ _) xv hxe hx.sl (bytes l) hx.len
  (fun j hj=>hx.cell j hj) (fun u hu=>by obtain⟨x,_,rfl⟩:=List.mem_map.1 hu;rfl)
  (by simp[maxLen,hl];omega) (by simp[hl];omega) (Nat.le_refl _) ?_
 intro v' w' h2 _ h4
 rw[List.nil_append]at h2
 exact h v' w' h2 h4
set_option maxHeartbeats 1600000 in
theorem new_any (v:Value) (l:List Nat) (w:World) (h:zhc w v (bytes l)) (hb:∀x∈l,x<256):
 Calls Tryz.prog 41 #[v] w (RTape w (l.take 400)):=by
 obtain⟨i0,hi,hz0,hz1,hz2⟩:=info_parts Tryz.infoU8
 have hA:=append_u8 (P:=Tryz.prog) 22 5 i0 Tryz.underlying22 hi hz0 hz1 hz2
 clear hi hz0 hz1 hz2
 have sv:=h.sl
 have lv:slen v=l.length:=by rw[h.len,bytes,List.length_map]
 have hle:=sv.le
 rw[lv]at hle
 by_cases hd:400<l.length
 ·have hd1:decide ((400:Int)<(l.length:Nat))=true:=decide_eq_true (by omega)
  have hcap:(400:Int)≤scap v:=by omega
  have ht2:zhc w (tk v 400) (bytes (l.take 400)):=by have:=h.tk 400 (by simp[bytes];omega);simpa [bytes,List.map_take]using this
  go_enter Tryz.func41,Tryz.ntmps41
  go_wp2_with (at_builtin;refine hA w rfl _ _ rfl rfl _ rfl (l.take 400) ht2 (by simp;omega) ?_;intro v' w1 hown hbel;obtain⟨an,nn,cn,rfl,_⟩:=hown.sl)
  go_ret
  exact tape_new w w1 _ _ _ _ (by simp;omega) (fun x hx=>hb x (List.mem_of_mem_take hx)) hown hbel
 ·have hd1:decide ((400:Int)<(l.length:Nat))=false:=decide_eq_false (by omega)
  rw[List.take_of_length_le (by omega)]
  go_enter Tryz.func41,Tryz.ntmps41
  go_wp2_with (at_builtin;refine hA w rfl _ _ rfl rfl _ rfl l h (by omega) ?_;intro v' w1 hown hbel;obtain⟨an,nn,cn,rfl,_⟩:=hown.sl)
  go_ret
  exact tape_new w w1 _ _ _ _ (by omega) hb hown hbel
theorem zhb.tick {B b a:Nat} {l:List Nat} {w w':World} (ht:znb w b l a) (hb:b<B) (h:zyl b w w'):zhb B w w':=by
 refine⟨h.size,fun g h1 h2=> ?_,fun p z hp=>h.cell ht.c1 hp (fun z=>by simp)⟩
 rcases h with⟨k,rfl⟩ | ⟨k,k',a',rfl⟩
 ·exact(zka (B:=w.heap.size) w k).block g h2
 ·have h3:=(zka (B:=w.heap.size) w k)
  rw[(zka (B:=((w.drewN k).setCell ⟨b,1,none⟩ (.int .i64 a')).heap.size) _ k').block g (by simp[World.setCell];have:=h3.size;omega)]
  rw[Below.heap_setCell _ _ _ _ (by simp;omega)]
  exact h3.block g h2
theorem znb.below {w w':World} {l:List Nat} {b a:Nat} (h:znb w b l a) (hb:Below w.heap.size w w'):znb w' b l a:=by
 obtain⟨lt,⟨v,e1,e2⟩,c1,f1,h1,h2,h3⟩:=h
 exact⟨Nat.lt_of_lt_of_le lt hb.size,⟨v,zba hb e1,e2.below hb⟩,zba hb c1,by rw[hb.frozen lt];exact f1,h1,h2,h3⟩
def zvf (w:World) (b:Nat) (l:List Nat) (B a:Nat):Prop:=znb w b l a∧∀v,w.cell? ⟨b,0,none⟩=some v→∀j,j<l.length→(ptr v j).block<B
theorem znb.b {w:World} {b a:Nat} {l:List Nat} (h:znb w b l a):zvf w b l w.heap.size a:=by
 refine⟨h,fun v hv j hj=> ?_⟩
 obtain⟨v',e1,e2⟩:=h.ex
 rw[e1]at hv
 injection hv with hv
 subst hv
 exact World.block_lt_of_cell? w _ (e2.cell j (by simpa using hj))
theorem zvf.mono {w:World} {b a B B':Nat} {l:List Nat} (h:zvf w b l B a) (hB:B≤B'):zvf w b l B' a:=⟨h.1,fun v hv j hj=>Nat.lt_of_lt_of_le (h.2 v hv j hj) hB⟩
theorem zvf.below {w w':World} {b a B:Nat} {l:List Nat} (h:zvf w b l B a) (hb:Below w.heap.size w w'):zvf w' b l B a:=by
 obtain⟨h1,h2⟩:=h
 refine⟨h1.below hb,fun v hv j hj=> ?_⟩
 rw[hb.cell h1.lt]at hv
 exact h2 v hv j hj
theorem zvf.low {w w':World} {b a B:Nat} {l:List Nat} (h:zvf w b l B a) (hb:Below B w w') (hB:b<B):zvf w' b l B a:=by
 obtain⟨⟨lt,⟨v,e1,e2⟩,c1,f1,h1,h2,h3⟩,h4⟩:=h
 have hl:=h4 v e1
 refine⟨⟨Nat.lt_of_lt_of_le lt hb.size,⟨v,by rw[hb.cell (by exact hB)];exact e1,e2.sl,e2.len,fun j hj=> ?_⟩,by rw[hb.cell (by exact hB)];exact c1,by rw[hb.frozen (by exact hB)];exact f1,h1,h2,h3⟩,fun u hu j hj=> ?_⟩
 ·rw[hb.cell (hl j (by simpa using hj))];exact e2.cell j hj
 ·rw[hb.cell (by exact hB)]at hu
  exact h4 u hu j hj
theorem zvf.tick {w w':World} {b a a' B:Nat} {l:List Nat} (h:zvf w b l B a) (ht:zyl b w w') (hta:znb w' b l a'):zvf w' b l B a':=by
 refine⟨hta,fun v hv j hj=> ?_⟩
 obtain⟨u,e1,e2⟩:=h.1.ex
 have e3:=ht.cell h.1.c1 e1 (fun z=>by obtain⟨a,n,c,rfl,_⟩:=zhc.sl e2;simp)
 rw[e3]at hv
 injection hv with hv
 subst hv
 exact h.2 _ e1 j hj
theorem zvf.set {w:World} {b a B:Nat} {l:List Nat} (h:zvf w b l B a) {p:Addr} {x:Value} (hp:p.block≠b) (hc:w.cell? p=some x) (hx:∀z,x≠ .int .u8 z) (u:Value):zvf (w.setCell p u) b l B a:=by
 obtain⟨⟨lt,⟨v,e1,e2⟩,c1,f1,h1,h2,h3⟩,h4⟩:=h
 have hne:∀k,p≠⟨b,k,none⟩:=fun k e=>hp (by rw[e])
 refine⟨⟨by simpa [World.setCell]using lt,⟨v,by rw[World.cell?_setCell_other _ _ _ _ (hne _)];exact e1,e2.sl,e2.len,fun j hj=> ?_⟩,by rw[World.cell?_setCell_other _ _ _ _ (hne _)];exact c1,by rw[World.frozen?_setCell];exact f1,h1,h2,h3⟩,fun u' hu j hj=> ?_⟩
 ·rw[World.cell?_setCell_other]
  ·exact e2.cell j hj
  ·intro e
   have h6:=e2.cell j hj
   rw[←e,hc]at h6
   injection h6 with h6
   rw[List.getElem_map]at h6
   exact hx _ h6
 ·rw[World.cell?_setCell_other _ _ _ _ (hne _)]at hu
  exact h4 u' hu j hj
theorem zyl.frozen {w w':World} {b:Nat} (h:zyl b w w') {p:Addr} (hp:p.block<w.heap.size):w'.frozen? p=w.frozen? p:=by
 rcases h with⟨k,rfl⟩ | ⟨k,k',a,rfl⟩
 ·exact(zka (B:=w.heap.size) w k).frozen hp
 ·have h1:=(zka (B:=w.heap.size) w k)
  rw[(zka (B:=((w.drewN k).setCell ⟨b,1,none⟩ (.int .i64 a)).heap.size) _ k').frozen (by simp[World.setCell];have:=h1.size;omega)]
  rw[World.frozen?_setCell]
  exact h1.frozen hp
theorem C3.tick {w w':World} {b a c:Nat} {l:List Nat} {v0 v1 v2:Value} (h:C3 w c v0 v1 v2) (hta:znb w b l a) (ht:zyl b w w') (n0:∀z,v0≠ .int .i64 z) (n1:∀z,v1≠ .int .i64 z) (n2:∀z,v2≠ .int .i64 z):C3 w' c v0 v1 v2:=
 ⟨Nat.lt_of_lt_of_le h.lt ht.size,ht.cell hta.c1 h.c0 n0,ht.cell hta.c1 h.c1 n1,ht.cell hta.c1 h.c2 n2,by rw[ht.frozen h.lt];exact h.f0,by rw[ht.frozen h.lt];exact h.f1,by rw[ht.frozen h.lt];exact h.f2⟩
theorem zgc.noInt {v:Value} (h:zgc v):∀z,v≠ .int .i64 z:=fun z e=>by obtain⟨a,n,c,rfl,_⟩:=h;cases e
theorem zgc.noLimb {v:Value} (h:zgc v):∀z,v≠ .int .u32 z:=fun z e=>by obtain⟨a,n,c,rfl,_⟩:=h;cases e
theorem zgc.noByte {v:Value} (h:zgc v):∀z,v≠ .int .u8 z:=fun z e=>by obtain⟨a,n,c,rfl,_⟩:=h;cases e
theorem zid {w w':World} {B:Nat} {u:Value} (hg:w.grownBy w' u.ownBlock) (hB:B≤w.heap.size) (hu:∀k,u.ownBlock=some k→B≤k∧k<w.heap.size):Below B w w':=zna hg hB (fun k hk=>(hu k hk).1)
structure ChW (w:World) (bt:Nat) (l:List Nat) (B b5:Nat) (vr vs vl:Value) (rs:List Value) (rates:List (List Rat)) (start:List Rat) (lost:List Bool):Prop where
 tape:∃a,zvf w bt l B a
 box:C3 w b5 vr vs vl
 st:zya w 38 B vs start
 lo:zlc w 4 B 1 vl (lost.map Value.bool).length (lost.map Value.bool)
 ra:zlc w 25 B 1 vr rs.length rs
 rl:rs.length=rates.length
 rows:∀ (j:Nat) (h:j<rs.length) (h':j<rates.length),zya w 38 B rs[j] rates[j]∧(rs[j].ownBlock=none∨rs[j].ownBlock≠vs.ownBlock)
 sz:B≤w.heap.size
 bt5:bt<B∧b5<B∧b5≠bt
section
variable {w w':World} {bt:Nat} {l:List Nat} {B b5:Nat} {vr vs vl:Value} {rs:List Value} {rates:List (List Rat)} {start:List Rat} {lost:List Bool}
theorem ChW.of (h:ChW w bt l B b5 vr vs vl rs rates start lost) (hm:zhb B w w') (ht:∃a,zvf w' bt l B a) (hb:C3 w' b5 vr vs vl):ChW w' bt l B b5 vr vs vl rs rates start lost:=
 ⟨ht,hb,h.st.moves hm (Nat.le_refl _),h.lo.moves hm (Nat.le_refl _),h.ra.moves hm (Nat.le_refl _),h.rl,fun j h1 h2=>⟨(h.rows j h1 h2).1.moves hm (Nat.le_refl _),(h.rows j h1 h2).2⟩,Nat.le_trans h.sz hm.size,h.bt5⟩
theorem ChW.below (h:ChW w bt l B b5 vr vs vl rs rates start lost) (hb:Below w.heap.size w w'):ChW w' bt l B b5 vr vs vl rs rates start lost:=by
 obtain⟨a,ht⟩:=h.tape
 exact h.of (zhb.below hb) ⟨a,ht.below hb⟩ (h.box.belowS hb)
theorem ChW.tick (h:ChW w bt l B b5 vr vs vl rs rates start lost) {a':Nat} (ht:zyl bt w w') (hta:znb w' bt l a'):ChW w' bt l B b5 vr vs vl rs rates start lost:=by
 obtain⟨a,h0⟩:=h.tape
 exact h.of (zhb.tick h0.1 h.bt5.1 ht) ⟨a',h0.tick ht hta⟩ (h.box.tick h0.1 ht h.ra.sl.noInt h.st.sl.noInt h.lo.sl.noInt)
theorem ChW.lostG (h:ChW w bt l B b5 vr vs vl rs rates start lost) {c:Bool} {v':Value} (hv:zlc w' 4 B 1 v' (lost.map Value.bool++ [Value.bool c]).length (lost.map Value.bool++ [Value.bool c])) (hg:w.grownBy w' vl.ownBlock) (hn:zlb w vl):
 ChW (w'.setCell ⟨b5,2,none⟩ v') bt l B b5 vr vs v' rs rates start (lost++ [c])∧Below B w w':=by
 obtain⟨⟨a,ht⟩,box,st,lo,ra,rl,rows,sz,b1,b2,b3⟩:=h
 have hb:=zid (B:=B) hg sz lo.block
 have box':=box.below hb b2
 have hm:zhb B w' (w'.setCell ⟨b5,2,none⟩ v'):=zhb.set b2 box'.c2 lo.sl.noLimb _
 obtain⟨xs,s1,s2⟩:=id st
 have st':zya w' 38 B vs start:=st.grown hg hn (s1.kinds lo (by decide))
 refine⟨⟨⟨a,(ht.low hb b1).set (by exact b3) box'.c2 lo.sl.noByte _⟩,box'.set2 _,st'.moves hm (Nat.le_refl _),?_,(ra.grown hg (ra.kinds lo (by decide))).moves hm (Nat.le_refl _),rl,fun j h1 h2=> ?_,Nat.le_trans sz (Nat.le_trans hb.size hm.size),b1,b2,b3⟩,hb⟩
 ·rw[List.map_append];exact hv.moves hm (Nat.le_refl _)
 ·obtain⟨k1,k2⟩:=rows j h1 h2
  obtain⟨ys,y1,y2⟩:=id k1
  exact⟨(k1.grown hg hn (y1.kinds lo (by decide))).moves hm (Nat.le_refl _),k2⟩
theorem ChW.startG (h:ChW w bt l B b5 vr vs vl rs rates start lost) {q:Rat} {v':Value} {k:Nat} (hv:zya w' 38 B v' (start++ [q])) (hg:w.grownBy w' vs.ownBlock) (hn:zlb w vs) (hvb:v'.ownBlock=vs.ownBlock∨v'.ownBlock=some k) (hk:w.heap.size≤k):
 ChW (w'.setCell ⟨b5,1,none⟩ v') bt l B b5 vr v' vl rs rates (start++ [q]) lost∧Below B w w':=by
 obtain⟨⟨a,ht⟩,box,st,lo,ra,rl,rows,sz,b1,b2,b3⟩:=h
 have hb:=zid (B:=B) hg sz st.block
 have box':=box.below hb b2
 have hm:zhb B w' (w'.setCell ⟨b5,1,none⟩ v'):=zhb.set b2 box'.c1 st.sl.noLimb _
 obtain⟨xs,s1,s2⟩:=id st
 refine⟨⟨⟨a,(ht.low hb b1).set (by exact b3) box'.c1 st.sl.noByte _⟩,box'.set1 _,hv.moves hm (Nat.le_refl _),(lo.grown hg (lo.kinds s1 (by decide))).moves hm (Nat.le_refl _),(ra.grown hg (ra.kinds s1 (by decide))).moves hm (Nat.le_refl _),rl,fun j h1 h2=> ?_,Nat.le_trans sz (Nat.le_trans hb.size hm.size),b1,b2,b3⟩,hb⟩
 obtain⟨k1,k2⟩:=rows j h1 h2
 refine⟨(k1.grown hg hn k2).moves hm (Nat.le_refl _),?_⟩
 rcases k2 with k2 | k2
 ·exact Or.inl k2
 ·cases ho:rs[j].ownBlock with
  | none=>exact Or.inl rfl
  | some g=>
    refine Or.inr ?_
    have:=k1.block g ho
    rcases hvb with e | e
    ·rw[e,←ho];exact k2
    ·rw[e];intro e2;injection e2 with e2;omega
theorem ChW.ratesG (h:ChW w bt l B b5 vr vs vl rs rates start lost) {q:List Rat} {r v':Value} (hr:zya w 38 B r q) (hrs:r.ownBlock=none∨r.ownBlock≠vs.ownBlock) (hv:zlc w' 25 B 1 v' (rs++ [r]).length (rs++ [r])) (hg:w.grownBy w' vr.ownBlock) (hn:zlb w vr):
 ChW (w'.setCell ⟨b5,0,none⟩ v') bt l B b5 v' vs vl (rs++ [r]) (rates++ [q]) start lost∧Below B w w':=by
 obtain⟨⟨a,ht⟩,box,st,lo,ra,rl,rows,sz,b1,b2,b3⟩:=h
 have hb:=zid (B:=B) hg sz ra.block
 have box':=box.below hb b2
 have hm:zhb B w' (w'.setCell ⟨b5,0,none⟩ v'):=zhb.set b2 box'.c0 ra.sl.noLimb _
 obtain⟨xs,s1,s2⟩:=id st
 obtain⟨zs,z1,z2⟩:=id hr
 refine⟨⟨⟨a,(ht.low hb b1).set (by exact b3) box'.c0 ra.sl.noByte _⟩,box'.set0 _,(st.grown hg hn (s1.kinds ra (by decide))).moves hm (Nat.le_refl _),(lo.grown hg (lo.kinds ra (by decide))).moves hm (Nat.le_refl _),hv.moves hm (Nat.le_refl _),by simp[rl],fun j h1 h2=> ?_,Nat.le_trans sz (Nat.le_trans hb.size hm.size),b1,b2,b3⟩,hb⟩
 rcases Nat.lt_or_ge j rs.length with hj | hj
 ·have hj2:j<rates.length:=by omega
  rw[List.getElem_append_left hj,List.getElem_append_left hj2]
  obtain⟨k1,k2⟩:=rows j hj hj2
  obtain⟨ys,y1,y2⟩:=id k1
  exact⟨(k1.grown hg hn (y1.kinds ra (by decide))).moves hm (Nat.le_refl _),k2⟩
 ·obtain rfl:j=rs.length:=by simp at h1;omega
  have e1:(rs++ [r])[rs.length]'h1=r:=by simp
  have e2:(rates++ [q])[rs.length]'h2=q:=by simp[rl]
  rw[e1,e2]
  exact⟨(hr.grown hg hn (z1.kinds ra (by decide))).moves hm (Nat.le_refl _),hrs⟩
end
theorem zqb.over {w:World} {e:TypeId} {B n:Nat} {v:Value} (h:zqb w e B v n) {p:Addr} (hp:p.block≠(base v).block) (u:Value):zqb (w.setCell p u) e B v n:=by
 obtain⟨g,cs,rfl,h1,h2⟩:=h
 refine⟨g,cs,rfl,⟨h1.1,?_⟩,h2⟩
 rcases h1.2 with⟨h',_⟩ | ⟨g',cap,cur,h',hb,hg,rest⟩
 ·cases h'
 ·refine .inr ⟨g',cap,cur,h',hb,?_,rest⟩
  injection h' with h4
  injection h4 with h4
  injection h4 with h4
  subst h4
  simp only[base]at hp
  rw[Below.heap_setCell _ _ _ _ (fun e=>hp e.symm)];exact hg
theorem zlg.over {w:World} {v:Value} {j:Nat} {q:Rat} (h:zlg w v j q) {p:Addr} {x:Value} (hp:p.block≠(base v).block) (hc:w.cell? p=some x) (hx:∀z,x≠ .int .u32 z) (u:Value):zlg (w.setCell p u) v j q:=by
 obtain⟨a,b,h1,h2,h3,h4,h5⟩:=h
 have hne:∀k,p≠ptr v k:=fun k e=>hp (by rw[e];exact zsa v k)
 exact⟨a,b,by rw[World.cell?_setCell_other _ _ _ _ (hne _)];exact h1,by rw[World.cell?_setCell_other _ _ _ _ (hne _)];exact h2,by rw[World.cell?_setCell_other _ _ _ _ (hne _)];exact h3,⟨h4.1.over hc hx u,h4.2⟩,⟨h5.1.over hc hx u,h5.2⟩⟩
theorem zbb.over3 {w:World} {e:TypeId} {B n:Nat} {v r:Value} {q:List Rat} (h:zqb w e B v n) (hq:zbb w r q) (hne:(base v).block≠(base r).block) {i:Nat} (hi:i<n) (x y z:Value) (hx:∀k,x≠ .int .u32 k) (hy:∀k,y≠ .int .u32 k):
 zbb (((w.setCell (ptr v (i*3)) x).setCell (ptr v (i*3+1)) y).setCell (ptr v (i*3+2)) z) r q:=by
 have h1:=h.set (i*3) x hx
 have h2:=h1.1.set (i*3+1) y hy
 obtain⟨c0,d0,e0⟩:=h.cell (i*3) (by omega)
 obtain⟨c1,d1,e1⟩:=h1.1.cell (i*3+1) (by omega)
 obtain⟨c2,d2,e2⟩:=h2.1.cell (i*3+2) (by omega)
 exact((hq.over (p:=ptr v (i*3)) (u:=x) (by rw[zsa];exact hne) d0 e0).over (p:=ptr v (i*3+1)) (u:=y) (by rw[zsa];exact hne) d1 e1).over (p:=ptr v (i*3+2)) (u:=z) (by rw[zsa];exact hne) d2 e2
theorem zce.other3 {w:World} {e:TypeId} {B:Nat} {v u:Value} {es:List Value} (h:zce w e B v es) (hne:(base u).block≠(base v).block) (i j k:Nat) (x y z:Value):
 zce (((w.setCell (ptr u i) x).setCell (ptr u j) y).setCell (ptr u k) z) e B v es:=
 ((h.other _ x (by rw[zsa];exact hne)).other _ y (by rw[zsa];exact hne)).other _ z (by rw[zsa];exact hne)
def zzz (c:RC) (bl:List Int) (tF tB:TypeId) (B3 B4 B5:Nat) (v3 v4:Value) (k:Nat) (es:List Value) (fs:List Bool) (wr:World):Prop:=
 zce wr tF B3 v3 es∧es.length=cnt bl∧zce wr tB B4 v4 (fs.map Value.bool)∧fs.length=cnt bl∧
 (∀b,b<cnt (bl.take k)→∃a n kk,es[b]? =some (.slice (some a) n kk)∧zbb wr (.slice (some a) n kk) ((ztw bl (zaq c (zvw bl b)) (cnt bl)).set b 0)∧B5≤a.block∧fs[b]? =some (c.lost.getD (zvw bl b) false))∧
 (∀b,cnt (bl.take k)≤b→b<cnt bl→es[b]? =some (.slice none 0 0))
theorem zzz.start {c:RC} {bl:List Int} {tF tB:TypeId} {B3 B4:Nat} (B5:Nat) {v3 v4:Value} {w:World} (h3:zce w tF B3 v3 (List.replicate (cnt bl) (.slice none 0 0))) (h4:zce w tB B4 v4 (List.replicate (cnt bl) (.bool false))):
 zzz c bl tF tB B3 B4 B5 v3 v4 0 (List.replicate (cnt bl) (.slice none 0 0)) (List.replicate (cnt bl) false) w:=by
 refine⟨h3,by simp,by rw[List.map_replicate];exact h4,by simp,fun b hb=> ?_,fun b _ hb=> ?_⟩
 ·simp[cnt_nil]at hb
 ·rw[List.getElem?_replicate,if_pos hb]
theorem zzz.skip {c:RC} {bl:List Int} {tF tB:TypeId} {B3 B4 B5:Nat} {v3 v4:Value} {k:Nat} {es:List Value} {fs:List Bool} {wr:World}
 (h:zzz c bl tF tB B3 B4 B5 v3 v4 k es fs wr) {b:Nat} (hk:bl[k]? =some (b:Int)) (hb:b<cnt (bl.take k)):zzz c bl tF tB B3 B4 B5 v3 v4 (k+1) es fs wr:=by
 obtain⟨h3,hel,h4,hfl,hseen,hnew⟩:=h
 obtain⟨hk1,hk2⟩:=List.getElem?_eq_some_iff.1 hk
 have hc:=zww bl k hk1
 rw[if_neg (by rw[hk2];omega)]at hc
 exact⟨h3,hel,h4,hfl,fun a ha=>hseen a (by omega),fun a ha=>hnew a (by omega)⟩
theorem zzz.fresh {c:RC} {bl:List Int} {tF tB tE:TypeId} {B3 B4 B5:Nat} {v3 v4:Value} {k:Nat} {es:List Value} {fs:List Bool} {wr w5 w6:World}
 (h:zzz c bl tF tB B3 B4 B5 v3 v4 k es fs wr) (hbel:Below wr.heap.size wr w5) (hok:okB bl) {b:Nat} (hk:bl[k]? =some (b:Int)) (hb:b=cnt (bl.take k)) (h34:(ptr v3 b).block≠(base v4).block)
 (hv3:(base v3).block<B5) (hv4:(base v4).block<B5) {g5 n:Nat} {row:List Rat} (how:zqb w5 tE wr.heap.size (.slice (some ⟨g5,0,none⟩) n n) n) (hBB:B5≤wr.heap.size) (hn:n=cnt bl)
 (hel:∀j,j<n→zlg w5 (.slice (some ⟨g5,0,none⟩) n n) j (bsum bl row j)) (hrq:zaq c k=row) (x:Bool) (hx:x=c.lost.getD k false)
 (W:World) (hW:W=(w5.setCell (ptr v3 b) (.slice (some ⟨g5,0,none⟩) n n)).setCell (ptr v4 b) (.bool x)) (h56:Below W.heap.size W w6) {x9 y9 z9:Value} (hz:zqa w6 (.agg #[x9,y9,z9]) 0):
 zzz c bl tF tB B3 B4 B5 v3 v4 (k+1) (es.set b (.slice (some ⟨g5,0,none⟩) n n)) (fs.set b x)
  (((w6.setCell (ptr (.slice (some ⟨g5,0,none⟩) n n) (b*3)) x9).setCell (ptr (.slice (some ⟨g5,0,none⟩) n n) (b*3+1)) y9).setCell (ptr (.slice (some ⟨g5,0,none⟩) n n) (b*3+2)) z9)∧
 (B3≤B4→Below B3 w5 (((w6.setCell (ptr (.slice (some ⟨g5,0,none⟩) n n) (b*3)) x9).setCell (ptr (.slice (some ⟨g5,0,none⟩) n n) (b*3+1)) y9).setCell (ptr (.slice (some ⟨g5,0,none⟩) n n) (b*3+2)) z9)):=by
 obtain⟨h3,hel3,h4,hfl,hseen,hnew⟩:=h
 obtain⟨hk1,hk2⟩:=List.getElem?_eq_some_iff.1 hk
 have hbc:=hok.lt hk
 have hbc2:b<cnt bl:=by omega
 have hbes:b<es.length:=by omega
 have hbfs:b<(fs.map Value.bool).length:=by rw[List.length_map];omega
 have hct:=zww bl k hk1
 rw[if_pos (by rw[hk2,hb])]at hct
 have hE:es[b]'hbes= .slice none 0 0:=by
  have:=hnew b (by omega) hbc2
  rw[List.getElem?_eq_getElem hbes]at this
  injection this
 have hg5:wr.heap.size≤g5∧g5<w5.heap.size:=how.block
 have k3:=h3.below hbel
 have k4:=h4.below hbel
 have hc3:=k3.cell b hbes
 rw[hE]at hc3
 have s3:=k3.set b hbes (.slice (some ⟨g5,0,none⟩) n n)
 have k4':=k4.other (ptr v3 b) (.slice (some ⟨g5,0,none⟩) n n) h34
 have hc4:=k4'.cell b hbfs
 have hc4':((w5.setCell (ptr v3 b) (.slice (some ⟨g5,0,none⟩) n n))).cell? (ptr v4 b)=some (.bool (fs[b]'(by omega))):=by rw[hc4];simp
 have s4:=k4'.set b hbfs (.bool x)
 have h43:(ptr v4 b).block≠(base v3).block:=by rw[zsa];rw[zsa]at h34;exact fun e=>h34 e.symm
 have k3':=s3.1.other (ptr v4 b) (.bool x) h43
 have how1:=(how.over (p:=ptr v3 b) (by rw[zsa];show _≠g5;omega) (.slice (some ⟨g5,0,none⟩) n n)).over (p:=ptr v4 b) (by rw[zsa];show _≠g5;omega) (.bool x)
 rw[←hW]at how1 k3' s4
 have how6:=how1.below h56
 have hover:∀ (r:Value) (q:List Rat),B5≤(base r).block→(base r).block<wr.heap.size→zbb wr r q→zbb (((w6.setCell (ptr (.slice (some ⟨g5,0,none⟩) n n) (b*3)) x9).setCell (ptr (.slice (some ⟨g5,0,none⟩) n n) (b*3+1)) y9).setCell (ptr (.slice (some ⟨g5,0,none⟩) n n) (b*3+2)) z9) r q:=fun r q hr hr2 hq=>by
  have q1:=(hq.below hbel).over (p:=ptr v3 b) (u:= .slice (some ⟨g5,0,none⟩) n n) (by rw[zsa];omega) hc3 (fun z=>by simp)
  have q2:=q1.over (p:=ptr v4 b) (u:= .bool x) (by rw[zsa];omega) hc4' (fun z=>by simp)
  rw[←hW]at q2
  obtain⟨a1,a2,ha,n1,n2⟩:=hz
  injection ha with ha
  injection ha with ha
  simp only[List.cons.injEq,and_true]at ha
  obtain⟨rfl,rfl,rfl⟩:=ha
  have ny:∀k,y9≠ .int .u32 k:=fun k=>by obtain⟨p1,p2,p3,e1,_⟩:=n1.v.sl;subst e1;simp
  exact zbb.over3 how6 (q2.below h56) (show g5≠_ by omega) (by omega) _ _ _ (fun k=>by simp) ny
 have hz2:=hz
 obtain⟨a1,a2,ha,n1,n2⟩:=hz2
 injection ha with ha
 injection ha with ha
 simp only[List.cons.injEq,and_true]at ha
 obtain⟨rfl,rfl,rfl⟩:=ha
 have ny:∀k,y9≠ .int .u32 k:=fun k=>by obtain⟨p1,p2,p3,e1,_⟩:=n1.v.sl;subst e1;simp
 have nz:∀k,z9≠ .int .u32 k:=fun k=>by obtain⟨p1,p2,p3,e1,_⟩:=n2.v.sl;subst e1;simp
 have s5:=how6.set3 b (.bool (decide ((0:Rat)<0))) y9 z9 (fun k=>by simp) ny nz
 have m3:=(k3'.below h56).other3 (u:= .slice (some ⟨g5,0,none⟩) n n) (show g5≠_ by omega) (b*3) (b*3+1) (b*3+2) (.bool (decide ((0:Rat)<0))) y9 z9
 have m4:=(s4.1.below h56).other3 (u:= .slice (some ⟨g5,0,none⟩) n n) (show g5≠_ by omega) (b*3) (b*3+1) (b*3+2) (.bool (decide ((0:Rat)<0))) y9 z9
 have hB3:B3≤(base v3).block:=(h3.block (by omega)).1
 refine⟨⟨m3,by rw[List.length_set];exact hel3,by rw[List.map_set];exact m4,by rw[List.length_set];exact hfl,fun a ha=> ?_,fun a ha ha2=> ?_⟩,fun h34'=> ?_⟩
 ·rw[hct]at ha
  by_cases h1:a=cnt (bl.take k)
  ·rw[h1,←hb,firstB_fresh hok hk hb]
   refine⟨⟨g5,0,none⟩,n,n,by rw[List.getElem?_set_self hbes],s5.1.fracs (by rw[List.length_set,zsw];exact hn.symm) (fun j hj=> ?_),by show B5≤g5;omega,by rw[List.getElem?_set_self (by omega),hx]⟩
   rw[List.length_set,zsw]at hj
   rw[List.getElem_set]
   by_cases hbj:b=j
   ·rw[if_pos hbj]
    subst hbj
    exact zlg.set3 how6 (by omega) hz
   ·rw[if_neg hbj,zuw _ _ _ _ hj,hrq]
    refine zlg.set3_other how6 (by omega) hbj (zlg.below ?_ h56) _ _ _ (fun k=>by simp) ny
    rw[hW]
    exact((hel j (by omega)).over (by rw[zsa];show _≠g5;omega) hc3 (fun z=>by simp) _).over (by rw[zsa];show _≠g5;omega) hc4' (fun z=>by simp) _
  ·obtain⟨p,m,kk,q1,q2,q3,q4⟩:=hseen a (by omega)
   have hlt:p.block<wr.heap.size:=by
    obtain⟨_,_,r1,_⟩:=q2.at' 0 (by rw[List.length_set,zsw];omega)
    have:=World.block_lt_of_cell? wr _ r1
    rwa[zsa]at this
   refine⟨p,m,kk,by rw[List.getElem?_set_ne (by omega)];exact q1,hover _ _ (by simpa [base]using q3) (by simpa [base]using hlt) q2,q3,by rw[List.getElem?_set_ne (by omega)];exact q4⟩
 ·rw[hct]at ha
  rw[List.getElem?_set_ne (by omega)]
  exact hnew a (by omega) ha2
 ·have hb1:=s3.2.trans (s4.2.mono h34')
  have hsz:B3≤W.heap.size:=by
   have h1:=(h3.block (by omega)).2
   have h2:=hbel.size
   have h3:=hb1.size
   omega
  exact(hb1.trans (h56.mono hsz)).trans (s5.2.mono (by have:=(h3.block (by omega)).2;omega))
theorem zzz.done {c:RC} {bl:List Int} {tF tB:TypeId} {B3 B4 B5:Nat} {v3 v4:Value} {es:List Value} {fs:List Bool} {wr:World} (h:zzz c bl tF tB B3 B4 B5 v3 v4 bl.length es fs wr):
 MatC wr v3 (quo c bl).rates∧zcm wr v4 (quo c bl).lost:=by
 obtain⟨h3,hel,h4,hfl,hseen,hnew⟩:=h
 rw[List.take_length]at hseen
 refine⟨⟨h3.sl,by rw[h3.len,hel];simp[quo],fun j hj=> ?_⟩,h4.sl,by rw[h4.len,List.length_map,hfl];simp[quo],fun j hj=> ?_⟩
 ·have hj2:j<cnt bl:=by simpa [quo]using hj
  obtain⟨p,m,kk,q1,q2,q3,q4⟩:=hseen j hj2
  have hje:j<es.length:=by omega
  rw[List.getElem?_eq_getElem hje]at q1
  injection q1 with q1
  refine⟨_,h3.cell j hje,?_⟩
  rw[q1]
  simpa [quo]using q2
 ·have hj2:j<cnt bl:=by simpa [quo]using hj
  obtain⟨p,m,kk,q1,q2,q3,q4⟩:=hseen j hj2
  have hje:j<fs.length:=by omega
  have hjm:j<(fs.map Value.bool).length:=by rw[List.length_map];exact hje
  rw[List.getElem?_eq_getElem hje]at q4
  injection q4 with q4
  rw[h4.cell j hjm]
  simp[quo,q4]
end Go.Proofs.YtlpdkbmmbdfoiaaGreat
