/-
  Elimination row by row. No program is named here.
-/
import Derived.Test.YtlpdkbmmbdfoiaaGreatSPh11
import Derived.Test.YtlpdkbmmbdfoiaaGreatSPe2
import Derived.Test.YtlpdkbmmbdfoiaaGreatSRa2
import Derived.Test.YtlpdkbmmbdfoiaaGreatSFr6
import Derived.Test.YtlpdkbmmbdfoiaaGreatSSz3
import Derived.Test.YtlpdkbmmbdfoiaaGreatSEl1
set_option linter.unusedVariables false
set_option linter.unusedSimpArgs false
namespace Go.Proofs.YtlpdkbmmbdfoiaaGreat
open Go.RowKit
theorem zmg : zlc (.slice none 0 0) := ⟨none, 0, 0, rfl, Nat.le_refl _, by simp [maxLen], fun _ => rfl⟩
set_option maxRecDepth 100000 in
set_option maxHeartbeats 3200000 in
theorem zde (va : Value) (s : Bool) (a d : Nat) (w : World) (ha : zlb w va s a d) : Calls Tryz.prog 26 #[va] w (RErl w 1 s a d) := by
 obtain ⟨x0, y0, rfl, h1, h2⟩ := id ha
 obtain ⟨a11, l11, k11, rfl, _⟩ := h1.slen.1
 obtain ⟨a12, l12, k12, rfl, _⟩ := h2.slen.1
 have hb1 := zca w (.cells #[.bool s, .slice a11 l11 k11, .slice a12 l12 k12] 38)
 have hb2 := zca (w.alloc (.cells #[.bool s, .slice a11 l11 k11, .slice a12 l12 k12] 38)) (.cells #[.string { data := #[] }, .slice none 0 0, .slice none 0 0, .slice none 0 0] 52)
 have HB := zH (zaa hb1 hb2)
 have HC := zH ((C3.new w 38 (.bool s) (.slice a11 l11 k11) (.slice a12 l12 k12)).belowS hb2)
 have HT := zH (C4.new (w.alloc (.cells #[.bool s, .slice a11 l11 k11, .slice a12 l12 k12] 38)) 52 (.string { data := #[] }) (.slice none 0 0) (.slice none 0 0) (.slice none 0 0))
 have HA := zH ((ha.below hb1).below hb2)
 have htb : (w.alloc (.cells #[.bool s, .slice a11 l11 k11, .slice a12 l12 k12] 38)).heap.size = w.heap.size + 1 := by show (w.heap.push _).size = _; rw [Array.size_push]
 rw [htb] at HT
 clear ha h1 h2 hb1 hb2 htb
 go_enter Tryz.func26, Tryz.ntmps26
 go_upto_region 1 with fail
 generalize (w.alloc (.cells #[.bool s, .slice a11 l11 k11, .slice a12 l12 k12] 38)).alloc (.cells #[.string { data := #[] }, .slice none 0 0, .slice none 0 0, .slice none 0 0] 52) = W2 at *
 obtain ⟨_, c0, c1, c2, _, _, _⟩ := HC.out
 go_wp2_with (go_at_call 28; (with_reducible refine (zlm 1 _ s a d _ HA.out).mono ?_); rintro e3 w3 ⟨v, er, rfl, hb3, k1, k2, k3⟩
              have hv : ∃ x1 x2 x3 x4, v = .agg #[x1, x2, x3, x4] := (by
               by_cases hr : zkd s a d
               ·obtain ⟨_, h5⟩ := k3 ⟨by omega, by omega⟩ hr
                obtain ⟨y1, y2, y3, e, _⟩ := h5.lawE
                exact ⟨_, _, _, _, e⟩
               ·exact ⟨_, _, _, _, (k2 ⟨by omega, by omega⟩ hr).2⟩)
              obtain ⟨x1, x2, x3, x4, rfl⟩ := hv
              have hs : zlc x2 ∧ zlc x3 ∧ zlc x4 ∧ x1 = .string { data := #[] } := (by
               by_cases hr : zkd s a d
               ·obtain ⟨_, h5⟩ := k3 ⟨by omega, by omega⟩ hr
                obtain ⟨y1, y2, y3, e, e1, e2, e3⟩ := h5.lawE
                injection e with e
                injection e with e
                simp only [List.cons.injEq, and_true] at e
                obtain ⟨rfl, rfl, rfl, rfl⟩ := e
                exact ⟨e1.sl, e2.sl, e3.sl, rfl⟩
               ·have e := (k2 ⟨by omega, by omega⟩ hr).2
                unfold zdf at e
                injection e with e
                injection e with e
                simp only [List.cons.injEq, and_true] at e
                obtain ⟨rfl, rfl, rfl, rfl⟩ := e
                exact ⟨zmg, zmg, zmg, rfl⟩)
              obtain ⟨⟨p1, p2, p3, rfl, _⟩, ⟨q1, q2, q3, rfl, _⟩, ⟨r1, r2, r3, rfl, _⟩, rfl⟩ := hs
              have HK2 := zH k2
              have HK3 := zH k3
              have HT3 := zH (HT.out.belowS hb3)
              have HB3 := zH (zic (zaa HB.out hb3) (Nat.le_succ w.heap.size) (.string { data := #[] }) (.slice p1 p2 p3) (.slice q1 q2 q3) (.slice r1 r2 r3))
              obtain ⟨_, d0, d1, d2, d3, f0, f1, f2, f3⟩ := HT3.out
              clear hb3 k1 k2 k3 c0 c1 c2)
 refine zrb rfl rfl Tryz.aggL Tryz.sizeL (HT3.out.set _ _ _ _) rfl ?_
 refine ⟨_, er, rfl, HB3.out, fun h => absurd (by omega) h, HK2.out, fun h hr => ?_⟩
 obtain ⟨h0, h5⟩ := HK3.out h hr
 exact ⟨h0, (h5.set4 HT3.out (fun z => by simp) (fun z => by simp) (fun z => by simp) _ _ _ _).mono HB.out.size⟩
set_option maxRecDepth 100000 in
set_option maxHeartbeats 3200000 in
theorem zgj (va : Value) (s : Bool) (a d : Nat) (w : World) (ha : zlb w va s a d) : Calls Tryz.prog 27 #[va] w (RErl w 1 s a d) := by
 obtain ⟨x0, y0, rfl, h1, h2⟩ := id ha
 obtain ⟨a11, l11, k11, rfl, _⟩ := h1.slen.1
 obtain ⟨a12, l12, k12, rfl, _⟩ := h2.slen.1
 have hb1 := zca w (.cells #[.bool s, .slice a11 l11 k11, .slice a12 l12 k12] 38)
 have hb2 := zca (w.alloc (.cells #[.bool s, .slice a11 l11 k11, .slice a12 l12 k12] 38)) (.cells #[.string { data := #[] }, .slice none 0 0, .slice none 0 0, .slice none 0 0] 52)
 have HB := zH (zaa hb1 hb2)
 have HC := zH ((C3.new w 38 (.bool s) (.slice a11 l11 k11) (.slice a12 l12 k12)).belowS hb2)
 have HT := zH (C4.new (w.alloc (.cells #[.bool s, .slice a11 l11 k11, .slice a12 l12 k12] 38)) 52 (.string { data := #[] }) (.slice none 0 0) (.slice none 0 0) (.slice none 0 0))
 have HA := zH ((ha.below hb1).below hb2)
 have htb : (w.alloc (.cells #[.bool s, .slice a11 l11 k11, .slice a12 l12 k12] 38)).heap.size = w.heap.size + 1 := by show (w.heap.push _).size = _; rw [Array.size_push]
 rw [htb] at HT
 clear ha h1 h2 hb1 hb2 htb
 go_enter Tryz.func27, Tryz.ntmps27
 go_upto_region 1 with fail
 generalize (w.alloc (.cells #[.bool s, .slice a11 l11 k11, .slice a12 l12 k12] 38)).alloc (.cells #[.string { data := #[] }, .slice none 0 0, .slice none 0 0, .slice none 0 0] 52) = W2 at *
 obtain ⟨_, c0, c1, c2, _, _, _⟩ := HC.out
 go_wp2_with (go_at_call 29; (with_reducible refine (zck 1 _ s a d _ HA.out).mono ?_); rintro e3 w3 ⟨v, er, rfl, hb3, k1, k2, k3⟩
              have hv : ∃ x1 x2 x3 x4, v = .agg #[x1, x2, x3, x4] := (by
               by_cases hr : zkd s a d
               ·obtain ⟨_, h5⟩ := k3 ⟨by omega, by omega⟩ hr
                obtain ⟨y1, y2, y3, e, _⟩ := h5.lawE
                exact ⟨_, _, _, _, e⟩
               ·exact ⟨_, _, _, _, (k2 ⟨by omega, by omega⟩ hr).2⟩)
              obtain ⟨x1, x2, x3, x4, rfl⟩ := hv
              have hs : zlc x2 ∧ zlc x3 ∧ zlc x4 ∧ x1 = .string { data := #[] } := (by
               by_cases hr : zkd s a d
               ·obtain ⟨_, h5⟩ := k3 ⟨by omega, by omega⟩ hr
                obtain ⟨y1, y2, y3, e, e1, e2, e3⟩ := h5.lawE
                injection e with e
                injection e with e
                simp only [List.cons.injEq, and_true] at e
                obtain ⟨rfl, rfl, rfl, rfl⟩ := e
                exact ⟨e1.sl, e2.sl, e3.sl, rfl⟩
               ·have e := (k2 ⟨by omega, by omega⟩ hr).2
                unfold zdf at e
                injection e with e
                injection e with e
                simp only [List.cons.injEq, and_true] at e
                obtain ⟨rfl, rfl, rfl, rfl⟩ := e
                exact ⟨zmg, zmg, zmg, rfl⟩)
              obtain ⟨⟨p1, p2, p3, rfl, _⟩, ⟨q1, q2, q3, rfl, _⟩, ⟨r1, r2, r3, rfl, _⟩, rfl⟩ := hs
              have HK2 := zH k2
              have HK3 := zH k3
              have HT3 := zH (HT.out.belowS hb3)
              have HB3 := zH (zic (zaa HB.out hb3) (Nat.le_succ w.heap.size) (.string { data := #[] }) (.slice p1 p2 p3) (.slice q1 q2 q3) (.slice r1 r2 r3))
              obtain ⟨_, d0, d1, d2, d3, f0, f1, f2, f3⟩ := HT3.out
              clear hb3 k1 k2 k3 c0 c1 c2)
 refine zrb rfl rfl Tryz.aggL Tryz.sizeL (HT3.out.set _ _ _ _) rfl ?_
 refine ⟨_, er, rfl, HB3.out, fun h => absurd (by omega) h, HK2.out, fun h hr => ?_⟩
 obtain ⟨h0, h5⟩ := HK3.out h hr
 exact ⟨h0, (h5.set4 HT3.out (fun z => by simp) (fun z => by simp) (fun z => by simp) _ _ _ _).mono HB.out.size⟩
theorem zqm.zero (w : World) : zqm w zdf ⟨[], [], []⟩ := by
 have h : zza w (.slice none 0 0) [] := (zbb.nil w 38 0).fracs
 exact ⟨_, _, _, rfl, h, ⟨h.sl, rfl, fun j hj => absurd hj (Nat.not_lt_zero j)⟩, h⟩
theorem zqm.slices {w : World} {v : Value} {l : LQ} (h : zqm w v l) : ∃ sa sn sk ra rn rk ea en ek, v = .agg #[.string { data := #[] }, .slice sa sn sk, .slice ra rn rk, .slice ea en ek] ∧ zza w (.slice sa sn sk) l.start ∧ MatC w (.slice ra rn rk) l.rates ∧ zza w (.slice ea en ek) l.exit := by
 obtain ⟨sv, rv, ev, rfl, hs, hr, he⟩ := h
 obtain ⟨ra, rn, rk, rfl, _⟩ := id hr.sl
 obtain ⟨sa, sn, sk, rfl, _⟩ := id hs.sl
 obtain ⟨ea, en, ek, rfl, _⟩ := id he.sl
 exact ⟨sa, sn, sk, ra, rn, rk, ea, en, ek, rfl, hs, hr, he⟩
set_option maxRecDepth 100000 in
set_option maxHeartbeats 3200000 in
theorem same_law (va vb : Value) (l : LQ) (w : World) (ha : zqm w va l) (hb : zqm w vb l) : Calls Tryz.prog 30 #[va, vb] w (fun e w' => e = .returned (.bool true) ∧ Below w.heap.size w w') := by
 obtain ⟨sa, sn, sk, ra, rn, rk, ea, en, ek, rfl, hs, hr, he⟩ := ha.slices
 obtain ⟨sb, sm, sj, rb, rm, rj, eb, em, ej, rfl, hs2, hr2, he2⟩ := hb.slices
 have hba := zca w (.cells #[.string { data := #[] }, .slice sa sn sk, .slice ra rn rk, .slice ea en ek] 52)
 have hbb := zca (w.alloc (.cells #[.string { data := #[] }, .slice sa sn sk, .slice ra rn rk, .slice ea en ek] 52)) (.cells #[.string { data := #[] }, .slice sb sm sj, .slice rb rm rj, .slice eb em ej] 52)
 have hz1 : (w.alloc (.cells #[.string { data := #[] }, .slice sa sn sk, .slice ra rn rk, .slice ea en ek] 52)).heap.size = w.heap.size + 1 := by show (w.heap.push _).size = _; rw [Array.size_push]
 have HCA := zH ((C4.new w 52 (.string { data := #[] }) (.slice sa sn sk) (.slice ra rn rk) (.slice ea en ek)).belowS hbb)
 have hcb := C4.new (w.alloc (.cells #[.string { data := #[] }, .slice sa sn sk, .slice ra rn rk, .slice ea en ek] 52)) 52 (.string { data := #[] }) (.slice sb sm sj) (.slice rb rm rj) (.slice eb em ej)
 rw [hz1] at hcb
 have HCB := zH hcb
 have HB := zH (zaa hba hbb)
 have HS := zH (And.intro (hs.below HB.out) (hs2.below HB.out))
 have HR := zH (And.intro (hr.below HB.out) (hr2.below HB.out))
 have HE := zH (And.intro (he.below HB.out) (he2.below HB.out))
 clear ha hb hs hs2 hr hr2 he he2 hba hbb hz1 hcb
 go_enter Tryz.func30, Tryz.ntmps30
 go_upto_region 1 with fail
 generalize (w.alloc (.cells #[.string { data := #[] }, .slice sa sn sk, .slice ra rn rk, .slice ea en ek] 52)).alloc (.cells #[.string { data := #[] }, .slice sb sm sj, .slice rb rm rj, .slice eb em ej] 52) = W2 at *
 obtain ⟨-, c0, c1, c2, c3, -, -, -, -⟩ := HCA.out
 obtain ⟨-, d0, d1, d2, d3, -, -, -, -⟩ := HCB.out
 have tok1 : True := trivial
 go_wp2_with (first
  |(go_at_call 23; have _t := tok1; (with_reducible refine (zhi _ _ l.start l.start _ HS.out.1 HS.out.2).mono ?_); rintro e3 w3 ⟨⟨r3, rfl, h3⟩, hb3⟩; obtain rfl : r3 = true := h3.2 rfl
    have HB3 := zH hb3
    have c2 := zba hb3 c2
    have d2 := zba hb3 d2
    have c3 := zba hb3 c3
    have d3 := zba hb3 d3
    clear hb3 h3 tok1 _t)
  |(go_at_call 93; (with_reducible refine (same_mat _ _ l.rates l.rates _ (HR.out.1.below HB3.out) (HR.out.2.below HB3.out)).mono ?_); rintro e4 w4 ⟨⟨r4, rfl, h4⟩, hb4⟩; obtain rfl : r4 = true := h4.2 rfl
    have HB4 := zH (zaa HB3.out hb4)
    have c3 := zba hb4 c3
    have d3 := zba hb4 d3
    clear hb4 h4)
  |(go_at_call 23; (with_reducible refine (zhi _ _ l.exit l.exit _ (HE.out.1.below HB4.out) (HE.out.2.below HB4.out)).mono ?_); rintro e5 w5 ⟨⟨r5, rfl, h5⟩, hb5⟩; obtain rfl : r5 = true := h5.2 rfl
    have HB5 := zH (zaa HB4.out hb5)
    clear hb5 h5))
 go_ret
 exact ⟨rfl, zaa HB.out HB5.out⟩
def erE (n : Int) (s : Bool) (a d : Nat) : Int := if 1 ≤ n ∧ n ≤ 4 then if zkd s a d then 0 else 1 else 5
def erL (n : Int) (s : Bool) (a d : Nat) : LQ := if 1 ≤ n ∧ n ≤ 4 then if zkd s a d then erlQ n.toNat (fq s a d) else ⟨[], [], []⟩ else ⟨[], [], []⟩
def RErE (w0 : World) (n : Int) (s : Bool) (a d : Nat) (e : Ending) (w : World) : Prop :=
 ∃ v, e = .returned (.tuple #[v, .int .i64 (erE n s a d)]) ∧ zqm w v (erL n s a d) ∧ Below w0.heap.size w0 w
theorem RErl.det {w0 : World} {n : Int} {s : Bool} {a d : Nat} {e : Ending} {w : World} (h : RErl w0 n s a d e w) : RErE w0 n s a d e w := by
 obtain ⟨v, er, rfl, hb, h1, h2, h3⟩ := h
 unfold RErE erE erL
 by_cases hn : 1 ≤ n ∧ n ≤ 4
 ·rw [if_pos hn, if_pos hn]
  by_cases hr : zkd s a d
  ·rw [if_pos hr, if_pos hr]
   obtain ⟨rfl, h5⟩ := h3 hn hr
   exact ⟨v, rfl, h5.lawE, hb⟩
  ·rw [if_neg hr, if_neg hr]
   obtain ⟨rfl, rfl⟩ := h2 hn hr
   exact ⟨_, rfl, zqm.zero w, hb⟩
 ·rw [if_neg hn, if_neg hn]
  obtain ⟨rfl, rfl⟩ := h1 hn
  exact ⟨_, rfl, zqm.zero w, hb⟩
set_option maxHeartbeats 800000 in
theorem lnumber_zero (w : World) : Calls Tryz.prog 218 #[.int .i64 0] w (RF1 w 0) := by
 go_enter Tryz.func218, Tryz.ntmps218
 go_wp2_with (go_at_call 67; (with_reducible refine (make_01 _).mono ?_); rintro e w1 ⟨v, rfl, hv, hb1⟩
              obtain ⟨t9, x9, y9, rfl, ⟨a1, l91, k1, rfl, _⟩, ⟨a2, l92, k2, rfl, _⟩⟩ := hv.isF
              have hr := ((C3.new w 38 (.bool false) (.slice none 0 0) (.slice none 0 0)).belowS hb1).allocS (.cells #[.bool t9, .slice a1 l91 k1, .slice a2 l92 k2] 38)
              have hv2 := hv.below (zca w1 (.cells #[.bool t9, .slice a1 l91 k1, .slice a2 l92 k2] 38))
              have hb2 := zaa (zaa (zca w (.cells #[.bool false, .slice none 0 0, .slice none 0 0] 38)) hb1) (zca w1 (.cells #[.bool t9, .slice a1 l91 k1, .slice a2 l92 k2] 38))
              have HR := zH hr
              obtain ⟨_, d1, d2, d3, d4, d5, d6⟩ := hr)
 refine zab rfl rfl Tryz.aggF Tryz.sizeF (HR.out.set _ _ _) rfl ?_
 exact ⟨_, rfl, hv2.set3 HR.out (fun z => by simp) (fun z => by simp) _ _ _, zha hb2 (Nat.le_refl _) _ _ _⟩
set_option maxHeartbeats 800000 in
theorem lnumber_one (w : World) : Calls Tryz.prog 218 #[.int .i64 1] w (RF1 w 1) := by
 go_enter Tryz.func218, Tryz.ntmps218
 go_wp2_with (go_at_call 67; (with_reducible refine (make_11 _).mono ?_); rintro e w1 ⟨v, rfl, hv, hb1⟩
              obtain ⟨t9, x9, y9, rfl, ⟨a1, l91, k1, rfl, _⟩, ⟨a2, l92, k2, rfl, _⟩⟩ := hv.isF
              have hr := ((C3.new w 38 (.bool false) (.slice none 0 0) (.slice none 0 0)).belowS hb1).allocS (.cells #[.bool t9, .slice a1 l91 k1, .slice a2 l92 k2] 38)
              have hv2 := hv.below (zca w1 (.cells #[.bool t9, .slice a1 l91 k1, .slice a2 l92 k2] 38))
              have hb2 := zaa (zaa (zca w (.cells #[.bool false, .slice none 0 0, .slice none 0 0] 38)) hb1) (zca w1 (.cells #[.bool t9, .slice a1 l91 k1, .slice a2 l92 k2] 38))
              have HR := zH hr
              obtain ⟨_, d1, d2, d3, d4, d5, d6⟩ := hr)
 refine zab rfl rfl Tryz.aggF Tryz.sizeF (HR.out.set _ _ _) rfl ?_
 exact ⟨_, rfl, hv2.set3 HR.out (fun z => by simp) (fun z => by simp) _ _ _, zha hb2 (Nat.le_refl _) _ _ _⟩
set_option maxHeartbeats 400000 in
theorem lzero_any (v : Value) (s : Bool) (n d : Nat) (w : World) (h : zlb w v s n d) :
 Calls Tryz.prog 220 #[v] w fun e w' => e = .returned (.bool (decide (n = 0))) ∧ Below w.heap.size w w' := by
 obtain ⟨a, b, rfl, ha, hb⟩ := h
 go_enter Tryz.func220, Tryz.ntmps220
 go_wp2_with (go_at_call 156; refine (zwa _ n _ (ha.below (zca _ _))).mono ?_; rintro e w' ⟨rfl, rfl⟩)
 go_ret
 exact ⟨by rw [← beq_bits]; rfl, zca _ _⟩
theorem zuh (v : Value) (q : Rat) (w : World) (h : zya w v q) :
 Calls Tryz.prog 220 #[v] w fun e w' => e = .returned (.bool (decide (q = 0))) ∧ Below w.heap.size w w' := by
 refine (lzero_any v _ _ _ w h.raw).mono ?_
 rintro e w' ⟨rfl, hb⟩
 refine ⟨?_, hb⟩
 have : (q.num.natAbs = 0) ↔ q = 0 := ⟨fun h => Rat.num_eq_zero.1 (by omega), fun h => by rw [h]; rfl⟩
 by_cases hq : q = 0
 ·rw [decide_eq_true hq, decide_eq_true (this.2 hq)]
 ·rw [decide_eq_false hq, decide_eq_false (fun h => hq (this.1 h))]
set_option maxHeartbeats 400000 in
theorem zyg (p v : Value) (q : Rat) (w : World) (h : zya w v q) :
 Calls Tryz.prog 206 #[p, v, .int .i64 0] w (RF1 w q) := by
 obtain ⟨s, x, y, rfl, ⟨a1, l1, k1, rfl, _⟩, ⟨a2, l2, k2, rfl, _⟩⟩ := id h.isF
 obtain ⟨bx, bz, hbw⟩ := zte w 38 (.bool s) (.slice a1 l1 k1) (.slice a2 l2 k2) (.bool false) (.slice none 0 0) (.slice none 0 0) _ rfl
 have HF := zH (h.below hbw)
 have HZ := zH bz
 have HB := zH hbw
 obtain ⟨_, x0, x1, x2, f0, f1, f2⟩ := bx
 obtain ⟨_, z0, z1, z2, g0, g1, g2⟩ := bz
 clear h hbw
 go_enter Tryz.func206, Tryz.ntmps206
 go_upto_region 1 with fail
 generalize (w.alloc (.cells #[.bool s, .slice a1 l1 k1, .slice a2 l2 k2] 38)).alloc (.cells #[.bool false, .slice none 0 0, .slice none 0 0] 38) = W at *
 go_wp2_with fail
 refine zab rfl rfl Tryz.aggF Tryz.sizeF (HZ.out.set _ _ _) rfl ?_
 exact ⟨_, rfl, HF.out.set3 HZ.out (fun z => by simp) (fun z => by simp) _ _ _, zha HB.out (by omega) _ _ _⟩
end Go.Proofs.YtlpdkbmmbdfoiaaGreat
namespace Go.Proofs.YtlpdkbmmbdfoiaaGreat
def zji (A : Mx) (i r k e : Nat) (f : Rat) : Mx := fun a b => if a = i ∧ k ≤ b ∧ b < e then A i b - f * A r b else A a b
theorem redTo_start (A : Mx) (i r k : Nat) (f : Rat) : zji A i r k k f = A := by
 funext a b; unfold zji; rw [if_neg (by omega)]
theorem redTo_at {A : Mx} {i r k e : Nat} {f : Rat} : zji A i r k e f i e = A i e := by unfold zji; rw [if_neg (by omega)]
theorem redTo_row {A : Mx} {i r k e b : Nat} {f : Rat} (h : i ≠ r) : zji A i r k e f r b = A r b := by unfold zji; rw [if_neg (fun h2 => h h2.1.symm)]
def zrg (below : Bool) (A : Mx) (r k e : Nat) : Mx := fun a b => if a < e then zyi below A r k a b else A a b
theorem redP_zero (below : Bool) (A : Mx) (r k : Nat) : zrg below A r k 0 = A := by
 funext a b; unfold zrg; rw [if_neg (by omega)]
theorem zek {below : Bool} {A : Mx} {r k e : Nat} : zrg below A r k e e = A e := by
 funext b; unfold zrg; rw [if_neg (by omega)]
theorem zfg {below : Bool} {A : Mx} {r k a : Nat} (h : ¬ act below A r k a) : zyi below A r k a = A a := by
 funext b; unfold zyi; rw [if_neg (fun h2 => h h2.1)]
theorem zjj {below : Bool} {A : Mx} {r k e : Nat} : zrg below A r k e r = A r := by
 funext b; unfold zrg; split
 ·rw [zfg (fun h => h.1 rfl)]
 ·rfl
theorem zmh {below : Bool} {A : Mx} {r k e : Nat} (h : ¬ act below A r k e) : zrg below A r k (e + 1) = zrg below A r k e := by
 funext a b; unfold zrg
 by_cases h1 : a = e
 ·subst h1; rw [if_pos (by omega), if_neg (by omega), zfg h]
 ·by_cases h2 : a < e
  ·rw [if_pos (by omega), if_pos h2]
  ·rw [if_neg (by omega), if_neg h2]
theorem redP_red {below : Bool} {A : Mx} {r k e m : Nat} (h : act below A r k e) : ∀ a b, b < m → zji (zrg below A r k e) e r k m (A e k / A r k) a b = zrg below A r k (e + 1) a b := by
 intro a b hb
 unfold zji
 rw [zek, zjj]
 unfold zrg
 by_cases h1 : a = e
 ·subst h1
  unfold zyi
  by_cases h2 : k ≤ b
  ·rw [if_pos ⟨rfl, h2, hb⟩, if_pos (by omega), if_pos ⟨h, h2⟩]
  ·rw [if_neg (by omega), if_neg (by omega), if_pos (by omega), if_neg (by omega)]
 ·rw [if_neg (by omega)]
  by_cases h2 : a < e
  ·rw [if_pos h2, if_pos (show a < e + 1 by omega)]
  ·rw [if_neg h2, if_neg (show ¬ a < e + 1 by omega)]
theorem redP_all {below : Bool} {A : Mx} {r k n : Nat} : ∀ a b, a < n → zrg below A r k n a b = zyi below A r k a b := by
 intro a b h; unfold zrg; rw [if_pos h]
def slimE (below : Bool) (n m wd : Nat) (A : Mx) : Prop := ∀ k, k ≤ wd → (∀ a b, a < n → b < m → fits ((elim below n A k).A a b)) ∧ fits (elim below n A k).d ∧ (k < wd → fitE below n m k (elim below n A k))
end Go.Proofs.YtlpdkbmmbdfoiaaGreat
