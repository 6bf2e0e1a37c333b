/-
  package phase: Mean, of a valid law and of the empty one.
-/
import Derived.Test.YtlpdkbmmbdfoiaaGEl2
import Derived.Test.YtlpdkbmmbdfoiaaGPh14
set_option linter.unusedVariables false
set_option linter.unusedSimpArgs false
namespace Go.Proofs.Ytlpdkbmmbdfoiaa
open Go.RowKit
theorem zqn :zgc (.slice none 0 0):=⟨none,0,0,rfl,Nat.le_refl _,by simp[maxLen],fun _=>rfl⟩
set_option maxRecDepth 100000 in
set_option maxHeartbeats 3200000 in
theorem zig (va:Value) (s:Bool) (a d:Nat) (w:World) (ha:zdc w va s a d):Calls Try.prog 35 #[va] w (RErl w 1 s a d):=by
 obtain⟨x0,y0,rfl,h1,h2⟩:=id ha
 obtain⟨a11,l11,k11,rfl,_⟩:=h1.slen.1
 obtain⟨a12,l12,k12,rfl,_⟩:=h2.slen.1
 have hb1:=zca w (.cells #[.bool s, .slice a11 l11 k11, .slice a12 l12 k12] 32)
 have hb2:=zca (w.alloc (.cells #[.bool s, .slice a11 l11 k11, .slice a12 l12 k12] 32)) (.cells #[.string { data:=#[] }, .slice none 0 0, .slice none 0 0, .slice none 0 0] 26)
 have HB:=zH (zaa hb1 hb2)
 have HC:=zH ((C3.new w 32 (.bool s) (.slice a11 l11 k11) (.slice a12 l12 k12)).belowS hb2)
 have HT:=zH (C4.new (w.alloc (.cells #[.bool s, .slice a11 l11 k11, .slice a12 l12 k12] 32)) 26 (.string { data:=#[] }) (.slice none 0 0) (.slice none 0 0) (.slice none 0 0))
 have HA:=zH ((ha.below hb1).below hb2)
 have htb:(w.alloc (.cells #[.bool s, .slice a11 l11 k11, .slice a12 l12 k12] 32)).heap.size=w.heap.size+1:=by show(w.heap.push _).size=_;rw[Array.size_push]
 rw[htb]at HT
 clear ha h1 h2 hb1 hb2 htb
 go_enter Try.func35,Try.ntmps35
 go_upto_region 1 with fail
 generalize (w.alloc (.cells #[.bool s, .slice a11 l11 k11, .slice a12 l12 k12] 32)).alloc (.cells #[.string { data:=#[] }, .slice none 0 0, .slice none 0 0, .slice none 0 0] 26)=W2 at *
 obtain⟨_,c0,c1,c2,_,_,_⟩:=HC.out
 go_wp2_with (go_at_call 72;(with_reducible refine(zop 1 _ s a d _ HA.out).mono ?_);rintro e3 w3 ⟨v,er,rfl,hb3,k1,k2,k3⟩
              have hv:∃x1 x2 x3 x4,v= .agg #[x1,x2,x3,x4]:=(by
               by_cases hr:zuh s a d
               ·obtain⟨_,h5⟩:=k3 ⟨by omega,by omega⟩ hr
                obtain⟨y1,y2,y3,e,_⟩:=h5.lawE
                exact⟨_,_,_,_,e⟩
               ·exact⟨_,_,_,_,(k2 ⟨by omega,by omega⟩ hr).2⟩)
              obtain⟨x1,x2,x3,x4,rfl⟩:=hv
              have hs:zgc x2∧zgc x3∧zgc x4∧x1= .string { data:=#[] }:=(by
               by_cases hr:zuh s a d
               ·obtain⟨_,h5⟩:=k3 ⟨by omega,by omega⟩ hr
                obtain⟨y1,y2,y3,e,e1,e2,e3⟩:=h5.lawE
                injection e with e
                injection e with e
                simp only[List.cons.injEq,and_true]at e
                obtain⟨rfl,rfl,rfl,rfl⟩:=e
                exact⟨e1.sl,e2.sl,e3.sl,rfl⟩
               ·have e:=(k2 ⟨by omega,by omega⟩ hr).2
                unfold zah at e
                injection e with e
                injection e with e
                simp only[List.cons.injEq,and_true]at e
                obtain⟨rfl,rfl,rfl,rfl⟩:=e
                exact⟨zqn,zqn,zqn,rfl⟩)
              obtain⟨⟨p1,p2,p3,rfl,_⟩,⟨q1,q2,q3,rfl,_⟩,⟨r1,r2,r3,rfl,_⟩,rfl⟩:=hs
              have HK2:=zH k2
              have HK3:=zH k3
              have HT3:=zH (HT.out.belowS hb3)
              have HB3:=zH (zqd (zaa HB.out hb3) (Nat.le_succ w.heap.size) (.string { data:=#[] }) (.slice p1 p2 p3) (.slice q1 q2 q3) (.slice r1 r2 r3))
              obtain⟨_,d0,d1,d2,d3,f0,f1,f2,f3⟩:=HT3.out
              clear hb3 k1 k2 k3 c0 c1 c2)
 refine zzd rfl rfl Try.aggL Try.sizeL (HT3.out.set _ _ _ _) rfl ?_
 refine⟨_,er,rfl,HB3.out,fun h=>absurd (by omega) h,HK2.out,fun h hr=> ?_⟩
 obtain⟨h0,h5⟩:=HK3.out h hr
 exact⟨h0,(h5.set4 HT3.out (fun z=>by simp) (fun z=>by simp) (fun z=>by simp) _ _ _ _).mono HB.out.size⟩
set_option maxHeartbeats 3200000
set_option maxRecDepth 100000 in
theorem zep (va:Value) (l:LQ) (w:World) (ha:zhm w va l) (hl:zxb l) (hp:MomP l 1 1):Calls Try.prog 7 #[va] w (RF0 w (zfo l 1)):=by
 obtain⟨nm,sv,rv,ev,rfl,hs,hr,he⟩:=id ha
 obtain⟨ra,rn,rk,rfl,_⟩:=id hr.sl
 obtain⟨sa,sn,sk,rfl,_⟩:=id hs.sl
 obtain⟨ea,en,ek,rfl,_⟩:=id he.sl
 have hba:=zca w (.cells #[nm, .slice sa sn sk, .slice ra rn rk, .slice ea en ek] 26)
 have hbb:=zca (w.alloc (.cells #[nm, .slice sa sn sk, .slice ra rn rk, .slice ea en ek] 26)) (.cells #[.bool false, .slice none 0 0, .slice none 0 0] 32)
 have HC:=zH ((C4.new w 26 nm (.slice sa sn sk) (.slice ra rn rk) (.slice ea en ek)).belowS hbb)
 have HT:=zH (C3.newB (b:=w.heap.size+1) (w.alloc (.cells #[nm, .slice sa sn sk, .slice ra rn rk, .slice ea en ek] 26)) 32 (.bool false) (.slice none 0 0) (.slice none 0 0) (by show(w.heap.push _).size=_;rw[Array.size_push]))
 have HBW:=zH (zaa hba hbb)
 have HA:=zH (ha.below HBW.out)
 have HM1:Hid (∀w0,zhm w0 (.agg #[nm, .slice sa sn sk, .slice ra rn rk, .slice ea en ek]) l→Calls Try.prog 21 #[.agg #[nm, .slice sa sn sk, .slice ra rn rk, .slice ea en ek], .int .i64 1] w0 (RF0 w0 (zfo l 1))):=zH (fun w0 h=>zpo _ l 1 w0 h hl (Nat.le_refl _) (by decide) hp)
 clear ha hl hp hs hr he hba hbb
 go_enter Try.func7,Try.ntmps7
 go_upto_region 1 with fail
 generalize (w.alloc (.cells #[nm, .slice sa sn sk, .slice ra rn rk, .slice ea en ek] 26)).alloc (.cells #[.bool false, .slice none 0 0, .slice none 0 0] 32)=W2 at *
 obtain⟨_,c0,c1,c2,c3,_⟩:=HC.out
 go_wp2_with (first
  |(go_at_call 21;(with_reducible refine(HM1.out _ HA.out).mono ?_);rintro e4 w4 ⟨v4,rfl,hv4,hb4⟩
    obtain⟨t9,x9,y9,rfl,⟨a91,l91,k91,rfl,_⟩,⟨a92,l92,k92,rfl,_⟩⟩:=hv4.isF
    have HT9:=zH (HT.out.belowS hb4)
    have HB9:=zH (zaa HBW.out hb4)
    have HV9:=zH hv4
    obtain⟨_,d0,d1,d2,f0,f1,f2⟩:=HT9.out
    clear hv4 hb4 c0 c1 c2 c3))
 refine zoa rfl rfl Try.aggF Try.sizeF (HT9.out.set _ _ _) rfl ?_
 exact⟨_,rfl,HV9.out.set3 HT9.out (fun z=>by simp) (fun z=>by simp) _ _ _,zga HB9.out (Nat.le_succ _) _ _ _⟩
set_option maxRecDepth 100000 in
/-- The zero value of a law has no mean. -/
theorem pmoment_zero (n:Nat) (w:World):Calls Try.prog 21 #[zah, .int .i64 (n:Nat)] w (fun e w'=>e= .returned (.tuple #[.agg #[.bool false, .slice none 0 0, .slice none 0 0], .int .i64 1])∧Below w.heap.size w w'):=by
 unfold zah
 have hba:=zca w (.cells #[.string { data:=#[] }, .slice none 0 0, .slice none 0 0, .slice none 0 0] 26)
 have hbb:=zca (w.alloc (.cells #[.string { data:=#[] }, .slice none 0 0, .slice none 0 0, .slice none 0 0] 26)) (.cells #[.bool false, .slice none 0 0, .slice none 0 0] 32)
 have HC:=zH ((C4.new w 26 (.string { data:=#[] }) (.slice none 0 0) (.slice none 0 0) (.slice none 0 0)).belowS hbb)
 have HT:=zH (C3.newB (b:=w.heap.size+1) (w.alloc (.cells #[.string { data:=#[] }, .slice none 0 0, .slice none 0 0, .slice none 0 0] 26)) 32 (.bool false) (.slice none 0 0) (.slice none 0 0) (by show(w.heap.push _).size=_;rw[Array.size_push]))
 have HBW:=zH (zaa hba hbb)
 clear hba hbb
 go_enter Try.func21,Try.ntmps21
 go_upto_region 1 with fail
 generalize (w.alloc (.cells #[.string { data:=#[] }, .slice none 0 0, .slice none 0 0, .slice none 0 0] 26)).alloc (.cells #[.bool false, .slice none 0 0, .slice none 0 0] 32)=W2 at *
 obtain⟨_,c0,c1,c2,c3,_⟩:=HC.out
 go_wp2_with (first
  |(go_at_call 22;(with_reducible refine(zym _ _).mono ?_);rintro e4 w4 ⟨rfl,hb4⟩
    have HT9:=zH (HT.out.belowS hb4)
    have HB9:=zH (zaa HBW.out hb4)
    obtain⟨_,d0,d1,d2,f0,f1,f2⟩:=HT9.out
    clear hb4 c0 c1 c2 c3))
 refine zoa rfl rfl Try.aggF Try.sizeF (HT9.out.set _ _ _) rfl ?_
 exact⟨rfl,zga HB9.out (Nat.le_succ _) _ _ _⟩
set_option maxRecDepth 100000 in
theorem pmean_zero (w:World):Calls Try.prog 7 #[zah] w (fun e w'=>e= .returned (.tuple #[.agg #[.bool false, .slice none 0 0, .slice none 0 0], .int .i64 1])∧Below w.heap.size w w'):=by
 unfold zah
 have hba:=zca w (.cells #[.string { data:=#[] }, .slice none 0 0, .slice none 0 0, .slice none 0 0] 26)
 have hbb:=zca (w.alloc (.cells #[.string { data:=#[] }, .slice none 0 0, .slice none 0 0, .slice none 0 0] 26)) (.cells #[.bool false, .slice none 0 0, .slice none 0 0] 32)
 have HC:=zH ((C4.new w 26 (.string { data:=#[] }) (.slice none 0 0) (.slice none 0 0) (.slice none 0 0)).belowS hbb)
 have HT:=zH (C3.newB (b:=w.heap.size+1) (w.alloc (.cells #[.string { data:=#[] }, .slice none 0 0, .slice none 0 0, .slice none 0 0] 26)) 32 (.bool false) (.slice none 0 0) (.slice none 0 0) (by show(w.heap.push _).size=_;rw[Array.size_push]))
 have HBW:=zH (zaa hba hbb)
 have HZ:Hid (∀w0,Calls Try.prog 21 #[.agg #[.string { data:=#[] }, .slice none 0 0, .slice none 0 0, .slice none 0 0], .int .i64 1] w0 (fun e w'=>e= .returned (.tuple #[.agg #[.bool false, .slice none 0 0, .slice none 0 0], .int .i64 1])∧Below w0.heap.size w0 w')):=zH (fun w0=>pmoment_zero 1 w0)
 clear hba hbb
 go_enter Try.func7,Try.ntmps7
 go_upto_region 1 with fail
 generalize (w.alloc (.cells #[.string { data:=#[] }, .slice none 0 0, .slice none 0 0, .slice none 0 0] 26)).alloc (.cells #[.bool false, .slice none 0 0, .slice none 0 0] 32)=W2 at *
 obtain⟨_,c0,c1,c2,c3,_⟩:=HC.out
 go_wp2_with (first
  |(go_at_call 21;(with_reducible refine(HZ.out _).mono ?_);rintro e4 w4 ⟨rfl,hb4⟩
    have HT9:=zH (HT.out.belowS hb4)
    have HB9:=zH (zaa HBW.out hb4)
    obtain⟨_,d0,d1,d2,f0,f1,f2⟩:=HT9.out
    clear hb4 c0 c1 c2 c3))
 refine zoa rfl rfl Try.aggF Try.sizeF (HT9.out.set _ _ _) rfl ?_
 exact⟨rfl,zga HB9.out (Nat.le_succ _) _ _ _⟩
end Go.Proofs.Ytlpdkbmmbdfoiaa
