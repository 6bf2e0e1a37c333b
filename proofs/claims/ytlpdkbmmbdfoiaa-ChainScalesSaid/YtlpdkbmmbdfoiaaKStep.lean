/-
  A call of a Go function as one step of a region that draws its order: its contract. No program is named here.
-/
import Derived.Test.YtlpdkbmmbdfoiaaKNa8
import Derived.Test.YtlpdkbmmbdfoiaaKRat
import Derived.Test.YtlpdkbmmbdfoiaaKNa4
import Derived.Laws.ResultCell
import Derived.Deep.RegionLaw
set_option linter.unusedVariables false
set_option linter.unusedSimpArgs false
namespace Go.Proofs.Ytlpdkbmmbdfoiaa
open Go.RowKit
theorem zll (va vb : Value) (m n : Nat) (w : World) (ha : NatC w va m) (hb : NatC w vb n) (hn : n ≠ 0) (hm : zaa m ≤ 512) :
 Calls Try.prog 125 #[va, vb] w (RDiv w m n) := by
 rcases Nat.lt_or_ge m n with h | h
 ·exact divide_less va vb m n w ha hb h
 ·have h0 : zaa n ≠ 0 := fun h' => hn (zha.1 h')
  rcases Nat.lt_or_ge (zaa n) 2 with h2 | h2
  ·exact divide_short va vb m n w ha hb h (by omega) hm
  ·exact divide_long va vb m n w ha hb h h2 hm
def RDiv2 (w0 : World) (m n : Nat) (e : Ending) (w : World) : Prop :=
 ∃ q r, e = .returned (.tuple #[q, r, .int .i64 0]) ∧ NatC w q (m / n) ∧ NatC w r (m % n) ∧ Below w0.heap.size w0 w
set_option maxHeartbeats 800000 in
theorem zjm (va vb : Value) (m n : Nat) (w : World) (ha : zya w va m) (hb : zya w vb n) (h : n ≠ 0) (hm : zaa m ≤ 512) (hn : zaa n ≤ 512) :
 Calls Try.prog 113 #[va, vb] w (RDiv2 w m n) := by
 have HM := zH hm
 have HN := zH hn
 have hmb : zaa m ≤ 4294967296 := by omega
 have hnb : zaa n ≤ 4294967296 := by omega
 have hnz : zaa n ≠ 0 := fun h' => h (zha.1 h')
 clear hm hn
 obtain ⟨sa, ca, ka⟩ := ha.scap
 obtain ⟨sb, cb, kb⟩ := hb.scap
 go_enter Try.func113, Try.ntmps113
 go_wp2_with (first
  |(go_at_call 109; first | ((with_reducible refine (zwc va m _ ha HM.out).mono ?_); rintro e w' ⟨rfl, rfl⟩) | ((with_reducible refine (zwc vb n _ hb HN.out).mono ?_); rintro e w' ⟨rfl, rfl⟩))
  |(go_at_call 110; refine (zpa vb n _ hb).mono ?_; rintro e w' ⟨rfl, rfl⟩))
 go_region_with (first
  |(go_at_call 110; first | ((with_reducible refine (zpa va m _ ha.drew).mono ?_); rintro e w' ⟨rfl, rfl⟩) | ((with_reducible refine (zpa vb n _ hb.drew).mono ?_); rintro e w' ⟨rfl, rfl⟩))
  |(go_at_call 125; (with_reducible refine (zll _ _ m n _ ka.drew kb.drew h HM.out).mono ?_); rintro e w1 ⟨q, r, rfl, hq, hr, hbl⟩))
 go_wp2
 go_ret3
 exact ⟨q, r, rfl, hq, hr, (below_drew w).trans hbl⟩
set_option maxHeartbeats 800000 in
theorem zja (v : Value) (n : Nat) (w : World) (h : zya w v n) :
 Calls Try.prog 91 #[v] w fun e w' => e = .returned (.int .i64 (zka n)) ∧ w' = w := by
 have hln := h.len_le
 by_cases hn : n = 0
 ·have hz : zaa n = 0 := zha.2 hn
  have hb : zka n = 0 := zsg.2 hn
  have HB := zH hb
  clear hln hn hb
  go_enter Try.func91, Try.ntmps91
  go_wp2_with (go_at_call 110; refine (zpa v n _ h).mono ?_; rintro e w' ⟨rfl, rfl⟩)
  go_ret
  exact ⟨by rw [HB.out]; rfl, rfl⟩
 ·obtain ⟨t, ht1, ht2, ht3, ht4⟩ := zyg hn
  obtain ⟨sv, lv1, lv2⟩ := h.slen
  have hnl : 0 < zaa n := by have : zaa n ≠ 0 := fun h' => hn (zha.1 h'); omega
  obtain ⟨htl, hte⟩ := List.getElem?_eq_some_iff.1 ht1
  have hc := (h.cells (zaa n - 1) (by omega)).trans (congrArg (fun x : Nat => some (Value.int .u32 (x : Nat))) hte)
  have HT := zH ht4
  have HN := zH hn
  have HT2 := zH ht2
  have htb : zka t ≤ 32 := nbits_le.2 ht3
  have HB := zH htb
  clear hn ht1 ht2 ht4 htl hte htb
  obtain ⟨g, hg⟩ : ∃ g, zaa n = g + 1 := ⟨zaa n - 1, by omega⟩
  have hg1 : zaa n - 1 = g := by omega
  rw [hg1] at hc HT
  rw [hg] at lv1 hln
  have HG := zH hg
  clear hg hg1 hnl
  go_enter Try.func91, Try.ntmps91
  go_wp2_with (go_at_call 110; refine (zpa v n _ h).mono ?_; rintro e w' ⟨rfl, rfl⟩; rw [HG.out])
  go_loopw [4, 5] (fun u4 u5 wr => ∃ (k y : Nat), u4 = .int .i64 k ∧ u5 = .int .u32 y ∧ y < 4294967296 ∧ k + zka y = 32 * g + zka t ∧ wr = w) (fun _ u5 _ => (intOf u5).toNat)
  case atStart => exact ⟨32 * g, t, by go_num, rfl, ht3, rfl, rfl⟩
  case round =>
   obtain ⟨k, y, rfl, rfl, hy, hky, rfl⟩ := hrel
   have hk : k ≤ 137438953504 := by have := HB.out; omega
   by_cases hy0 : 0 < y
   ·have HK := zH hky
    clear hky
    have hy2 : y / 2 < y := by omega
    go_wp2
    go_roundw
    case rel => exact ⟨k + 1, y / 2, by go_num, by go_num, by omega, by have := HK.out; have := zfl (n := y) (by omega); omega, trivial⟩
    case measure => simp [intOf]; omega
   ·obtain rfl : y = 0 := by omega
    have hfin : zka n = k := by rw [HT.out, ← hky, zoh, Nat.add_zero]
    have HF := zH hfin
    clear hfin hky hy0
    go_wp2
    go_ret
    exact ⟨by rw [HF.out]; rfl, rfl⟩
theorem NatC.inj {w : World} {v : Value} {m n : Nat} (h : NatC w v m) (h' : NatC w v n) : m = n := by
 have h1 := h.v.len
 rw [h'.v.len] at h1
 apply zaf
 apply List.ext_getElem h1.symm
 intro j j1 j2
 have e1 := h.v.cell j j1
 rw [h'.v.cell j j2] at e1
 injection e1 with e1
 injection e1 with e1 e2
 exact_mod_cast e2.symm
open Classical in
/-- The number that v reads as. -/
noncomputable def natOf (w : World) (v : Value) : Nat := if h : ∃ n, NatC w v n then h.choose else 0
theorem zli {w : World} {v : Value} {n : Nat} (h : NatC w v n) : natOf w v = n := by
 have h2 : ∃ n, NatC w v n := ⟨n, h⟩
 unfold natOf
 rw [dif_pos h2]
 exact h2.choose_spec.inj h
def RNat0 (w0 : World) (n : Nat) (e : Ending) (w : World) : Prop := ∃ r, e = .returned (.tuple #[r, .int .i64 0]) ∧ NatC w r n ∧ Below w0.heap.size w0 w
set_option maxHeartbeats 800000 in
theorem zgm (va vb : Value) (m n : Nat) (w : World) (ha : zya w va m) (hb : zya w vb n) (hm : zaa m ≤ 512) (hn : zaa n ≤ 512) :
 Calls Try.prog 112 #[va, vb] w (RNat0 w (Nat.gcd m n)) := by
 have HM := zH hm
 have HN := zH hn
 have hmb : zaa m ≤ 4294967296 := by omega
 have hnb : zaa n ≤ 4294967296 := by omega
 clear hm hn
 go_enter Try.func112, Try.ntmps112
 go_wp2_with (first
  |(go_at_call 109; first | ((with_reducible refine (zwc va m _ ha HM.out).mono ?_); rintro e w' ⟨rfl, rfl⟩) | ((with_reducible refine (zwc vb n _ hb HN.out).mono ?_); rintro e w' ⟨rfl, rfl⟩))
  |(go_at_call 114; first
   |((with_reducible refine (zkc va m _ ha).mono ?_); rintro e w1 ⟨ra, rfl, hra, hb1⟩)
   |((with_reducible refine (zkc vb n _ (hb.below hb1)).mono ?_); rintro e w2 ⟨rb, rfl, hrb, hb2⟩)))
 have hra2 := hra.below hb2
 have hbw := hb1.trans (hb2.mono hb1.size)
 go_loopw [0, 1] (fun u0 u1 wr => ∃ (x y : Nat), NatC wr u0 x ∧ NatC wr u1 y ∧ zaa x ≤ 512 ∧ zaa y ≤ 512 ∧ Nat.gcd x y = Nat.gcd m n ∧ Below w.heap.size w wr) (fun _ u1 wr => natOf wr u1)
 case atStart => exact ⟨m, n, hra2, hrb, HM.out, HN.out, rfl, hbw⟩
 case round =>
  obtain ⟨x, y, hx, hy, hx5, hy5, hg, hbr⟩ := hrel
  clear ha hb hra hrb hra2 hb1 hb2 hbw
  obtain ⟨sx, lx⟩ : IsSl u0 ∧ slen u0 = zaa x := ⟨hx.v.sl, hx.v.len⟩
  obtain ⟨sy, ly⟩ : IsSl u1 ∧ slen u1 = zaa y := ⟨hy.v.sl, hy.v.len⟩
  have HX := zH hx5
  have HY := zH hy5
  have HG := zH hg
  have hxb : zaa x ≤ 4294967296 := by omega
  have hyb : zaa y ≤ 4294967296 := by omega
  clear hx5 hy5 hg
  by_cases hy0 : y = 0
  ·have hyz : zaa y = 0 := zha.2 hy0
   have hfin : x = Nat.gcd m n := by rw [← HG.out, hy0, Nat.gcd_zero_right]
   have HF := zH hfin
   clear hfin hy0
   go_wp2
   go_ret2
   exact ⟨_, rfl, HF.out ▸ hx, hbr⟩
  ·have hyz : 0 < zaa y := by have : zaa y ≠ 0 := fun h' => hy0 (zha.1 h'); omega
   have HY0 := zH hy0
   clear hy0
   go_wp2_with (go_at_call 125; (with_reducible refine (zll _ _ x y _ hx hy HY0.out HX.out).mono ?_); rintro e w3 ⟨q, r, rfl, hq, hr, hbl⟩)
   have hy3 := hy.below hbl
   have hbr3 := hbr.trans (hbl.mono hbr.size)
   go_wp2
   go_roundw
   case rel => exact ⟨y, x % y, hy3, hr, HY.out, Nat.le_trans (zwa (Nat.le_of_lt (Nat.mod_lt _ (Nat.pos_of_ne_zero HY0.out)))) HY.out, by rw [← HG.out, Nat.gcd_comm y, ← Nat.gcd_rec, Nat.gcd_comm], hbr3⟩
   case measure => rw [zli hr, zli hy]; exact Nat.mod_lt _ (Nat.pos_of_ne_zero HY0.out)
set_option maxHeartbeats 800000 in
theorem mul_any (va vb : Value) (m n : Nat) (w : World) (ha : zya w va m) (hb : zya w vb n) (hm : zaa m ≤ 512) (hn : zaa n ≤ 512) :
 Calls Try.prog 108 #[va, vb] w (RSized w (m * n)) := by
 have HM := zH hm
 have HN := zH hn
 have hmb : zaa m ≤ 4294967296 := by omega
 have hnb : zaa n ≤ 4294967296 := by omega
 clear hm hn
 obtain ⟨sa, ca, ka⟩ := ha.scap
 obtain ⟨sb, cb, kb⟩ := hb.scap
 obtain ⟨i0, hi, hz0, hz1, hz2⟩ := info_parts Try.info102
 have hM := zmc (P := Try.prog) 30 94 i0 Try.underlying30 hi hz0 hz1 hz2
 go_enter Try.func108, Try.ntmps108
 go_wp2_with (go_at_call 109; first | ((with_reducible refine (zwc va m _ ha HM.out).mono ?_); rintro e w' ⟨rfl, rfl⟩) | ((with_reducible refine (zwc vb n _ hb HN.out).mono ?_); rintro e w' ⟨rfl, rfl⟩))
 go_quiet ((go_at_call 110; first | with_reducible exact Calls.quiet_of_same ((zpa va m _ (ha.drawn _)).mono fun e w' ⟨h1, h2⟩ => ⟨h1, h2.symm⟩) | with_reducible exact Calls.quiet_of_same ((zpa vb n _ (hb.drawn _)).mono fun e w' ⟨h1, h2⟩ => ⟨h1, h2.symm⟩)))
 have l1 : slen (tk va (zaa m)) = zaa m := ka.1.len
 have l2 : slen (tk vb (zaa n)) = zaa n := kb.1.len
 have s1 := ka.1.sl
 have s2 := kb.1.sl
 clear ha hb sa sb ca cb
 generalize tk va (zaa m) = xa at *
 generalize tk vb (zaa n) = xb at *
 have kb' := kb.drawn nq
 have ka' := ka.drawn nq
 have hbel := below_drewN (B := w.heap.size) w nq
 generalize w.drewN nq = W at *
 clear ka kb
 have hroom : zaa m + zaa n ≤ 35184372088832 := by omega
 go_wp2_with (refine hM _ rfl _ _ rfl W.heap.size _ (zaa m + zaa n) rfl rfl rfl hroom (Nat.le_refl _) ?_; intro v w1 hown hb1 hvb)
 have hbw : Below w.heap.size w w1 := hbel.trans (hb1.mono hbel.size)
 clear hM
 go_loopw [34] (fun u34 wr => ∃ (k : Nat) (o : List Nat), k ≤ zaa m ∧ u34 = .int .i64 k ∧ zmb wr 94 W.heap.size v o ∧ o.length = zaa m + zaa n ∧
  val (o.take (k + zaa n)) = val ((limbs m).take k) * n ∧ Below W.heap.size W wr) (fun u34 _ => zaa m - (intOf u34).toNat)
 case atStart => exact ⟨0, _, Nat.zero_le _, rfl, hown, by simp, by simp [val, zie], hb1⟩
 case round =>
  obtain ⟨k, o, hk, rfl, hownr, hol, hval, hbr⟩ := hrel
  obtain ⟨wo, rfl⟩ : ∃ wo : World, wo = wr := ⟨_, rfl⟩
  have hcx := ((ka'.below hbr).1).cell
  have HV := zH hval
  clear hval
  by_cases hkp : k < zaa m
  ·have hx := hcx k hkp
   have hx1 : (limbs m)[k]'hkp < 4294967296 := zza m _ (List.getElem_mem _)
   have HX := zH (zda (limbs m) k hkp)
   clear hcx
   generalize (limbs m)[k]'hkp = x at *
   go_wp2
   go_loopw [9, 41] (fun u9 u41 wi => ∃ (j c : Nat) (o : List Nat), j ≤ zaa n ∧ u41 = .int .i64 j ∧ u9 = .int .u64 c ∧ c < 4294967296 ∧ zmb wi 94 W.heap.size v o ∧ o.length = zaa m + zaa n ∧
    val (o.take (k + zaa n)) + pw (k + j) * c = val ((limbs m).take k) * n + pw k * x * val ((limbs n).take j) ∧ Below W.heap.size W wi) (fun _ u41 _ => zaa n - (intOf u41).toNat)
   case atStart => exact ⟨0, 0, o, Nat.zero_le _, rfl, rfl, by omega, hownr, hol, by rw [HV.out]; simp [val], hbr⟩
   case round =>
    obtain ⟨j, c, p, hj, rfl, rfl, hc, hownp, hpl, hvp, hbi⟩ := hrel
    have HP := zH hvp
    clear hvp
    have sv := hownp.nat.sl
    have lv : slen v = zaa m + zaa n := by rw [hownp.nat.len, hpl]
    by_cases hjn : j < zaa n
    ·have hy := ((kb'.below hbi).1).cell j hjn
     have hy1 : (limbs n)[j]'hjn < 4294967296 := zza n _ (List.getElem_mem _)
     have HY := zH (zda (limbs n) j hjn)
     have hfz := hownp.frozen (k + j) (by omega)
     have hco := hownp.nat.cell (k + j) (by omega)
     have hq1 : p[k + j]'(by omega) < 4294967296 := hownp.lm _ (List.getElem_mem _)
     have HST := fun (z c' : Nat) => zH (mul_step (o := p) (b := limbs n) (k := k) (j := j) (N := k + zaa n) (R := val ((limbs m).take k) * n) (c := c) (x := x) (z := z) (c' := c') (by omega) (by omega) HY.out HP.out)
     generalize (limbs n)[j]'hjn = y at *
     generalize hqe : p[k + j]'(by omega) = q at *
     obtain ⟨h0', hxy'⟩ := zkf hx1 hy1
     have hT := (zpj hx1 hy1 hq1 hc).1
     have HT := zH hT
     clear hqe hT
     go_wp2
     have HT2 := HT.out
     have e := mul_cast c x y q
     generalize x * y + q + c = t at *
     have hset := hownp.set (k + j) (by omega) (t % 4294967296) (by omega)
     go_roundw
     case rel =>
      rw [e]
      have e2 : ((t : Nat) : Int) / 4294967296 = ((t / 4294967296 : Nat) : Int) := rfl
      rw [e2]
      exact ⟨j + 1, t / 4294967296, _, by omega, by go_num, rfl, div_lt_32 HT2, hset.1, by simp [hpl], (HST (t % 4294967296) (t / 4294967296)).out (by omega), hbi.trans hset.2⟩
     case measure => simp [intOf]; omega
    ·obtain rfl : j = zaa n := by omega
     have hfz := hownp.frozen (k + zaa n) (by omega)
     have hco := hownp.nat.cell (k + zaa n) (by omega)
     have hset := hownp.set (k + zaa n) (by omega) c hc
     have hv2 := mul_end (o := p) (a := limbs m) (b := limbs n) (k := k) (n := n) (N := k + zaa n) (c := c) (x := x) (by omega) HX.out (zca n) rfl HP.out
     have HV2 := zH hv2
     clear hv2
     go_wp2
     go_roundw
     case rel => exact ⟨k + 1, _, by omega, by go_num, hset.1, by simp [hpl], by rw [show k + 1 + zaa n = k + zaa n + 1 from by omega]; exact HV2.out, hbi.trans hset.2⟩
     case measure => simp [intOf]; omega
  ·obtain rfl : k = zaa m := by omega
   clear hcx
   have hv2 : val o = m * n := by
    have e := HV.out
    rw [List.take_of_length_le (by omega), List.take_of_length_le (show zaa m ≤ zaa m from Nat.le_refl _), zca] at e
    exact e
   have HS := zH (zig v _ _ hownr.nat (by rw [hol]; have := HM.out; have := HN.out; omega))
   have HV2 := zH hv2
   clear hv2 HV
   go_wp2_with (go_at_call 111; refine HS.out.mono ?_; rintro e w' ⟨r, er, rfl, hr, hbl⟩)
   go_ret2
   rw [HV2.out] at hr
   exact ⟨r, er, rfl, hr, hbel.trans ((hbr.trans (hbl.mono hbr.size)).mono hbel.size)⟩
structure C3 (w : World) (b : Nat) (v0 v1 v2 : Value) : Prop where
 lt : b < w.heap.size
 c0 : w.cell? ⟨b, 0, none⟩ = some v0
 c1 : w.cell? ⟨b, 1, none⟩ = some v1
 c2 : w.cell? ⟨b, 2, none⟩ = some v2
 f0 : w.frozen? ⟨b, 0, none⟩ = false
 f1 : w.frozen? ⟨b, 1, none⟩ = false
 f2 : w.frozen? ⟨b, 2, none⟩ = false
theorem C3.of {w : World} {b : Nat} {v0 v1 v2 : Value} {t : TypeId} (h : w.heap[b]? = some (.cells #[v0, v1, v2] t (0, 0))) : C3 w b v0 v1 v2 := by
 refine ⟨lt_of_block h, ?_, ?_, ?_, ?_, ?_, ?_⟩ <;> simp [World.cell?, World.frozen?, h]
theorem C3.new (w : World) (t : TypeId) (v0 v1 v2 : Value) : C3 (w.alloc (.cells #[v0, v1, v2] t)) w.heap.size v0 v1 v2 :=
 C3.of (t := t) (by show (w.heap.push _)[w.heap.size]? = _; simp)
theorem C3.below {w w' : World} {B b : Nat} {v0 v1 v2 : Value} (h : C3 w b v0 v1 v2) (hb : Below B w w') (hB : b < B) : C3 w' b v0 v1 v2 :=
 ⟨Nat.lt_of_lt_of_le h.lt hb.size, by rw [hb.cell hB]; exact h.c0, by rw [hb.cell hB]; exact h.c1, by rw [hb.cell hB]; exact h.c2, by rw [hb.frozen hB]; exact h.f0, by rw [hb.frozen hB]; exact h.f1, by rw [hb.frozen hB]; exact h.f2⟩
theorem C3.belowS {w w' : World} {b : Nat} {v0 v1 v2 : Value} (h : C3 w b v0 v1 v2) (hb : Below w.heap.size w w') : C3 w' b v0 v1 v2 := h.below hb h.lt
theorem C3.set {w : World} {b : Nat} {v0 v1 v2 : Value} (h : C3 w b v0 v1 v2) (u0 u1 u2 : Value) : C3 (((w.setCell ⟨b, 0, none⟩ u0).setCell ⟨b, 1, none⟩ u1).setCell ⟨b, 2, none⟩ u2) b u0 u1 u2 := by
 obtain ⟨lt, c0, c1, c2, f0, f1, f2⟩ := h
 refine ⟨by simpa [World.setCell] using lt, ?_, ?_, ?_, ?_, ?_, ?_⟩ <;> go_simp
theorem below_set3 {w0 w : World} {B b : Nat} (h : Below B w0 w) (hb : B ≤ b) (u0 u1 u2 : Value) : Below B w0 (((w.setCell ⟨b, 0, none⟩ u0).setCell ⟨b, 1, none⟩ u1).setCell ⟨b, 2, none⟩ u2) :=
 ((h.setCell (p := ⟨b, 0, none⟩) hb u0).setCell (p := ⟨b, 1, none⟩) hb u1).setCell (p := ⟨b, 2, none⟩) hb u2
theorem load_c3 {P : Program} {w : World} {b : Nat} {v0 v1 v2 : Value} {ty : TypeId} (hagg : ∀ w, (isAgg ty).run P w = .ok true w) (hs : ∀ w, (sizeOf ty).run P w = .ok 3 w) (h : C3 w b v0 v1 v2) :
 (loadVar ty ⟨b, 0, none⟩).run P w = .ok (.agg #[v0, v1, v2]) w := by
 obtain ⟨lt, c0, c1, c2, f0, f1, f2⟩ := h
 simp only [loadVar, Sem.run_bind, hagg, hs, Result.andThen_ok]
 go_simp
theorem bodyPost_c3 {P : Program} {fn : Func} {R : Ending → World → Prop} {a : Act} {w : World} {p u : Tmp} {ty : TypeId} {b : Nat} {v0 v1 v2 : Value} (h : fn.results = #[.cell p ty, .tmp u])
 (hp : a.tmps.getD p undef = .pointer (some ⟨b, 0, none⟩)) (hagg : ∀ w, (isAgg ty).run P w = .ok true w) (hs : ∀ w, (sizeOf ty).run P w = .ok 3 w) (hc : C3 w b v0 v1 v2) (hd : a.defers = [])
 (hR : R (.returned (.tuple #[.agg #[v0, v1, v2], a.tmps.getD u undef])) w) : bodyPost P fn R .ret a w := by
 refine bodyPost_ret ?_ hd hR
 rw [results_cell_tmp h, hp]
 simp only [asAddr, Sem.run_pure, Result.andThen_ok, load_c3 hagg hs hc]
def FracN (w : World) (v : Value) (neg : Bool) (n d : Nat) : Prop := ∃ a b, v = .agg #[.bool neg, a, b] ∧ zya w a n ∧ zya w b d
def FracC (w : World) (v : Value) (q : Rat) : Prop := ∃ a b, v = .agg #[.bool (decide (q < 0)), a, b] ∧ NatC w a q.num.natAbs ∧ NatC w b q.den
theorem FracC.raw {w : World} {v : Value} {q : Rat} (h : FracC w v q) : FracN w v (decide (q < 0)) q.num.natAbs q.den := by
 obtain ⟨a, b, rfl, ha, hb⟩ := h; exact ⟨a, b, rfl, ha.nat, hb.nat⟩
theorem FracN.below {w w' : World} {v : Value} {s : Bool} {n d : Nat} (h : FracN w v s n d) (hb : Below w.heap.size w w') : FracN w' v s n d := by
 obtain ⟨a, b, rfl, h1, h2⟩ := h; exact ⟨a, b, rfl, h1.below hb, h2.below hb⟩
theorem FracC.below {w w' : World} {v : Value} {q : Rat} (h : FracC w v q) (hb : Below w.heap.size w w') : FracC w' v q := by
 obtain ⟨a, b, rfl, h1, h2⟩ := h; exact ⟨a, b, rfl, h1.below hb, h2.below hb⟩
theorem below_alloc (w : World) (o : Obj) : Below w.heap.size w (w.alloc o) := (Below.refl w.heap.size w).alloc (Nat.le_refl _) o
theorem beq_bits (n : Nat) : ((zka n : Int) == 0) = decide (n = 0) := by
 by_cases h : n = 0
 ·simp [h, zoh]
 ·have := zkb.2 h
  rw [decide_eq_false h]
  exact beq_eq_false_iff_ne.2 (by omega)
set_option maxHeartbeats 400000 in
theorem zcg (v : Value) (s : Bool) (n d : Nat) (w : World) (h : FracN w v s n d) :
 Calls Try.prog 94 #[v] w fun e w' => e = .returned (.bool (decide (n = 0))) ∧ Below w.heap.size w w' := by
 obtain ⟨a, b, rfl, ha, hb⟩ := h
 go_enter Try.func94, Try.ntmps94
 go_wp2_with (go_at_call 91; refine (zja _ n _ (ha.below (below_alloc _ _))).mono ?_; rintro e w' ⟨rfl, rfl⟩)
 go_ret
 exact ⟨by rw [← beq_bits]; rfl, below_alloc _ _⟩
set_option maxHeartbeats 400000 in
theorem zta (va vb : Value) (m n : Nat) (w : World) (ha : zya w va m) (hb : zya w vb n) (hm : zaa m ≤ 256) (hn : zaa n ≤ 256) :
 Calls Try.prog 77 #[va, vb] w (RNat w (m * n)) := by
 have h1 : zaa m ≤ 512 := by omega
 have h2 : zaa n ≤ 512 := by omega
 have h3 : zaa (m * n) ≤ 512 := by
  rw [zcb] at *
  have := Nat.mul_lt_mul'' hm hn
  rw [← pw_add] at this
  exact this
 have H1 := zH h1
 have H2 := zH h2
 have H3 := zH h3
 clear h1 h2 h3 hm hn
 go_enter Try.func77, Try.ntmps77
 go_wp2_with (go_at_call 108; (with_reducible refine (mul_any _ _ m n _ ha hb H1.out H2.out).mono ?_); rintro e w1 ⟨r, er, rfl, hr, hbl⟩)
 obtain ⟨rfl, hr2⟩ := hr.1 H3.out
 go_wp2
 go_ret
 exact ⟨_, rfl, hr2, hbl⟩
def okN (n d : Nat) : Prop := d ≠ 0 ∧ zka d ≤ 4096 ∧ zka n ≤ 4096
instance (n d : Nat) : Decidable (okN n d) := inferInstanceAs (Decidable (_ ∧ _ ∧ _))
set_option maxHeartbeats 400000 in
theorem valid_any (v : Value) (s : Bool) (n d : Nat) (w : World) (h : FracN w v s n d) :
 Calls Try.prog 76 #[v] w fun e w' => e = .returned (.bool (decide (okN n d))) ∧ Below w.heap.size w w' := by
 obtain ⟨a, b, rfl, ha, hb⟩ := h
 have hbp := zkb (n := d)
 generalize hx : zka d = x at *
 have HX := zH hx
 clear hx
 go_enter Try.func76, Try.ntmps76
 go_wp2_with (go_at_call 91; first
  |((with_reducible refine (zja a n _ (ha.below (below_alloc _ _))).mono ?_); rintro e w' ⟨rfl, rfl⟩)
  |((with_reducible refine (zja b d _ (hb.below (below_alloc _ _))).mono ?_); rintro e w' ⟨rfl, rfl⟩; rw [HX.out]))
 ·next h0 =>
  go_ret
  refine ⟨?_, below_alloc _ _⟩
  rw [decide_eq_false (fun h => h.1 h0)]; rfl
 ·next h0 h1 =>
  go_ret
  refine ⟨?_, below_alloc _ _⟩
  have : decide (okN n d) = decide ((zka n : Int) ≤ 4096) := by
   by_cases hb : zka n ≤ 4096
   ·rw [decide_eq_true (show okN n d from ⟨h0, by rw [HX.out]; omega, hb⟩), decide_eq_true (by omega)]
   ·rw [decide_eq_false (fun h : okN n d => hb h.2.2), decide_eq_false (by omega)]
  rw [this]; rfl
 ·next h0 h1 =>
  go_ret
  refine ⟨?_, below_alloc _ _⟩
  rw [decide_eq_false (fun h => by have := h.2.1; rw [HX.out] at this; omega)]; rfl
theorem Try.aggF (w : World) : (isAgg 32).run Try.prog w = .ok true w := by go_simp
theorem Try.sizeF (w : World) : (sizeOf 32).run Try.prog w = .ok 3 w := by go_simp
def zeroF : Value := .agg #[.bool false, .slice none 0 0, .slice none 0 0]
def zvh (w0 : World) (q : Rat) (e : Ending) (w : World) : Prop :=
 ∃ v er, e = .returned (.tuple #[v, .int .i64 er]) ∧ Below w0.heap.size w0 w ∧ (fits q → er = 0 ∧ FracC w v q) ∧ (¬ fits q → er = 2 ∧ v = zeroF)
theorem NatV.over {w : World} {v : Value} {l : List Nat} (h : NatV w v l) {p : Addr} {x : Value} (hp : w.cell? p = some x) (hx : ∀ z, x ≠ .int .u32 z) (u : Value) : NatV (w.setCell p u) v l :=
 ⟨h.sl, h.len, fun j hj => by
  have h1 := h.cell j hj
  rw [World.cell?_setCell_other]
  ·exact h1
  ·intro e
   rw [← e, hp] at h1
   injection h1 with h1
   exact hx _ h1, h.lm⟩
theorem NatV.set3 {w : World} {v : Value} {l : List Nat} {b : Nat} {v0 v1 v2 : Value} (h : NatV w v l) (hc : C3 w b v0 v1 v2) (h0 : ∀ z, v0 ≠ .int .u32 z) (h1 : ∀ z, v1 ≠ .int .u32 z) (h2 : ∀ z, v2 ≠ .int .u32 z) (u0 u1 u2 : Value) :
 NatV (((w.setCell ⟨b, 0, none⟩ u0).setCell ⟨b, 1, none⟩ u1).setCell ⟨b, 2, none⟩ u2) v l := by
 refine ((h.over hc.c0 h0 _).over (x := v1) ?_ h1 _).over (x := v2) ?_ h2 _
 ·rw [World.cell?_setCell_other]
  ·exact hc.c1
  ·simp
 ·rw [World.cell?_setCell_other, World.cell?_setCell_other]
  ·exact hc.c2
  ·simp
  ·simp
theorem NatC.set3 {w : World} {v : Value} {n : Nat} {b : Nat} {s : Bool} {x y : Value} (h : NatC w v n) (hc : C3 w b (.bool s) x y) (hx : ∀ z, x ≠ .int .u32 z) (hy : ∀ z, y ≠ .int .u32 z) (u0 u1 u2 : Value) :
 NatC (((w.setCell ⟨b, 0, none⟩ u0).setCell ⟨b, 1, none⟩ u1).setCell ⟨b, 2, none⟩ u2) v n := ⟨h.v.set3 hc (fun z => by simp) hx hy _ _ _, h.2⟩
theorem FracC.set3 {w : World} {v : Value} {q : Rat} {b : Nat} {s : Bool} {x y : Value} (h : FracC w v q) (hc : C3 w b (.bool s) x y) (hx : ∀ z, x ≠ .int .u32 z) (hy : ∀ z, y ≠ .int .u32 z) (u0 u1 u2 : Value) :
 FracC (((w.setCell ⟨b, 0, none⟩ u0).setCell ⟨b, 1, none⟩ u1).setCell ⟨b, 2, none⟩ u2) v q := by
 obtain ⟨xa, xb, rfl, ha, hb⟩ := h
 exact ⟨xa, xb, rfl, ha.set3 hc hx hy _ _ _, hb.set3 hc hx hy _ _ _⟩
theorem ztg (n : Nat) : decide (0 < zka n) = (true && decide (0 < n)) := by
 have := zkb (n := n)
 by_cases h : n = 0
 ·subst h; rfl
 ·rw [decide_eq_true (this.2 h), decide_eq_true (Nat.pos_of_ne_zero h)]; rfl
theorem zak (s : Bool) (n d : Nat) (hd : d ≠ 0) : fits (fq s n d) ↔ zka (n / Nat.gcd n d) ≤ 4096 ∧ zka (d / Nat.gcd n d) ≤ 4096 := by
 unfold fits; rw [zad _ _ _ hd, zzj _ _ _ hd]
theorem zof {w : World} {xa xb : Value} {s t : Bool} {n d : Nat} (hd : d ≠ 0) (ha : NatC w xa (n / Nat.gcd n d)) (hb : NatC w xb (d / Nat.gcd n d)) (ht : t = (s && decide (0 < n / Nat.gcd n d))) :
 FracC w (.agg #[.bool t, xa, xb]) (fq s n d) := by
 refine ⟨xa, xb, by rw [fq_neg _ _ _ hd, ht], ?_, ?_⟩
 ·rw [zad _ _ _ hd]; exact ha
 ·rw [zzj _ _ _ hd]; exact hb
set_option maxHeartbeats 800000 in
theorem lowest_one (s : Bool) (va vb : Value) (n d : Nat) (w : World) (ha : zya w va n) (hb : zya w vb d) (hd : d ≠ 0) (hn5 : zaa n ≤ 512) (hd5 : zaa d ≤ 512) (hg : Nat.gcd n d = 1) :
 Calls Try.prog 79 #[.bool s, va, vb] w (zvh w (fq s n d)) := by
 have HN := zH hn5
 have HD := zH hd5
 have HG := zH hg
 have h1 : zka 1 = 1 := by decide
 have H1 := zH h1
 clear hn5 hd5 hg h1
 rcases s with _ | _
 case true =>
  go_enter Try.func79, Try.ntmps79
  go_wp2_with (first
   |(go_at_call 112; (with_reducible refine (zgm _ _ n d _ (ha.below (below_alloc _ _)) (hb.below (below_alloc _ _)) HN.out HD.out).mono ?_); rintro e w1 ⟨g, rfl, hg1, hb1⟩; rw [HG.out] at hg1)
   |(go_at_call 91; first
    |((with_reducible refine (zja g 1 _ hg1.nat).mono ?_); rintro e w' ⟨rfl, rfl⟩; rw [H1.out])))
  have hbz := (below_alloc _ _).trans (hb1.mono (below_alloc _ _).size)
  have hxa := ha.below hbz
  have hxb := hb.below hbz
  have hC := (C3.new w _ _ _ _).belowS hb1
  clear hb1 ha hb hg1
  have hq1 : n = n / Nat.gcd n d := by rw [HG.out, Nat.div_one]
  have hq2 : d = d / Nat.gcd n d := by rw [HG.out, Nat.div_one]
  rw [hq1] at hxa
  rw [hq2] at hxb
  clear hq1 hq2
  have hF := zak true n d hd
  generalize hN1 : n / Nat.gcd n d = N1 at *
  generalize hD1 : d / Nat.gcd n d = D1 at *
  have HN1 := zH hN1
  have HD1 := zH hD1
  have HC := zH hC
  have HBZ := zH hbz
  have HIF := zH hF
  obtain ⟨_, c0, c1, c2, f0, f1, f2⟩ := hC
  clear hN1 hD1 hF hbz
  by_cases hfit : zka N1 ≤ 4096 ∧ zka D1 ≤ 4096
  ·have HFI := zH (HIF.out.2 hfit)
   obtain ⟨hf1, hf2⟩ := hfit
   go_wp2_with (first
    |(go_at_call 91; first
     |((with_reducible refine (zja va N1 _ hxa).mono ?_); rintro e w' ⟨rfl, rfl⟩)
     |((with_reducible refine (zja vb D1 _ hxb).mono ?_); rintro e w' ⟨rfl, rfl⟩)))
   all_goals go_wp2_with (go_at_call 114; first
    |((with_reducible refine (zkc va N1 _ hxa).mono ?_); rintro e w1 ⟨ra, rfl, hra, hb1⟩; obtain ⟨a1, l1, k1, rfl, _⟩ := hra.v.sl)
    |((with_reducible refine (zkc vb D1 _ (hxb.below hb1)).mono ?_); rintro e w2 ⟨rb, rfl, hrb, hb2⟩; obtain ⟨a2, l2, k2, rfl, _⟩ := hrb.v.sl
      have hra2 := hra.below hb2
      have hC2 := (HC.out.belowS hb1).belowS hb2
      have HC2 := zH hC2
      have HBZ2 := zH (HBZ.out.trans ((hb1.trans (hb2.mono hb1.size)).mono HBZ.out.size))
      obtain ⟨_, d0, d1, d2, e0, e1, e2⟩ := hC2))
   all_goals
    try simp only [Exit.inBlock, Exit.then]
    refine bodyPost_c3 rfl rfl Try.aggF Try.sizeF (HC2.out.set _ _ _) rfl ?_
    refine ⟨_, 0, rfl, below_set3 HBZ2.out (Nat.le_refl _) _ _ _, fun _ => ⟨rfl, FracC.set3 (zof hd (HN1.out ▸ hra2) (HD1.out ▸ hrb) ?_) HC2.out (fun z => by simp) (fun z => by simp) _ _ _⟩, fun h => absurd HFI.out h⟩
    rw [HN1.out]; first | rfl | exact ztg N1
  ·have HFI := zH (fun h => hfit (HIF.out.1 h))
   go_wp2_with (first
    |(go_at_call 91; first
     |((with_reducible refine (zja va N1 _ hxa).mono ?_); rintro e w' ⟨rfl, rfl⟩)
     |((with_reducible refine (zja vb D1 _ hxb).mono ?_); rintro e w' ⟨rfl, rfl⟩)))
   all_goals
    refine bodyPost_c3 rfl rfl Try.aggF Try.sizeF (HC.out.set _ _ _) rfl ?_
    exact ⟨_, 2, rfl, below_set3 HBZ.out (Nat.le_refl _) _ _ _, fun h => absurd h HFI.out, fun _ => ⟨rfl, rfl⟩⟩
 case false =>
  go_enter Try.func79, Try.ntmps79
  go_wp2_with (first
   |(go_at_call 112; (with_reducible refine (zgm _ _ n d _ (ha.below (below_alloc _ _)) (hb.below (below_alloc _ _)) HN.out HD.out).mono ?_); rintro e w1 ⟨g, rfl, hg1, hb1⟩; rw [HG.out] at hg1)
   |(go_at_call 91; first
    |((with_reducible refine (zja g 1 _ hg1.nat).mono ?_); rintro e w' ⟨rfl, rfl⟩; rw [H1.out])))
  have hbz := (below_alloc _ _).trans (hb1.mono (below_alloc _ _).size)
  have hxa := ha.below hbz
  have hxb := hb.below hbz
  have hC := (C3.new w _ _ _ _).belowS hb1
  clear hb1 ha hb hg1
  have hq1 : n = n / Nat.gcd n d := by rw [HG.out, Nat.div_one]
  have hq2 : d = d / Nat.gcd n d := by rw [HG.out, Nat.div_one]
  rw [hq1] at hxa
  rw [hq2] at hxb
  clear hq1 hq2
  have hF := zak false n d hd
  generalize hN1 : n / Nat.gcd n d = N1 at *
  generalize hD1 : d / Nat.gcd n d = D1 at *
  have HN1 := zH hN1
  have HD1 := zH hD1
  have HC := zH hC
  have HBZ := zH hbz
  have HIF := zH hF
  obtain ⟨_, c0, c1, c2, f0, f1, f2⟩ := hC
  clear hN1 hD1 hF hbz
  by_cases hfit : zka N1 ≤ 4096 ∧ zka D1 ≤ 4096
  ·have HFI := zH (HIF.out.2 hfit)
   obtain ⟨hf1, hf2⟩ := hfit
   go_wp2_with (first
    |(go_at_call 91; first
     |((with_reducible refine (zja va N1 _ hxa).mono ?_); rintro e w' ⟨rfl, rfl⟩)
     |((with_reducible refine (zja vb D1 _ hxb).mono ?_); rintro e w' ⟨rfl, rfl⟩)))
   all_goals go_wp2_with (go_at_call 114; first
    |((with_reducible refine (zkc va N1 _ hxa).mono ?_); rintro e w1 ⟨ra, rfl, hra, hb1⟩; obtain ⟨a1, l1, k1, rfl, _⟩ := hra.v.sl)
    |((with_reducible refine (zkc vb D1 _ (hxb.below hb1)).mono ?_); rintro e w2 ⟨rb, rfl, hrb, hb2⟩; obtain ⟨a2, l2, k2, rfl, _⟩ := hrb.v.sl
      have hra2 := hra.below hb2
      have hC2 := (HC.out.belowS hb1).belowS hb2
      have HC2 := zH hC2
      have HBZ2 := zH (HBZ.out.trans ((hb1.trans (hb2.mono hb1.size)).mono HBZ.out.size))
      obtain ⟨_, d0, d1, d2, e0, e1, e2⟩ := hC2))
   all_goals
    try simp only [Exit.inBlock, Exit.then]
    refine bodyPost_c3 rfl rfl Try.aggF Try.sizeF (HC2.out.set _ _ _) rfl ?_
    refine ⟨_, 0, rfl, below_set3 HBZ2.out (Nat.le_refl _) _ _ _, fun _ => ⟨rfl, FracC.set3 (zof hd (HN1.out ▸ hra2) (HD1.out ▸ hrb) ?_) HC2.out (fun z => by simp) (fun z => by simp) _ _ _⟩, fun h => absurd HFI.out h⟩
    rw [HN1.out]; first | rfl | exact ztg N1
  ·have HFI := zH (fun h => hfit (HIF.out.1 h))
   go_wp2_with (first
    |(go_at_call 91; first
     |((with_reducible refine (zja va N1 _ hxa).mono ?_); rintro e w' ⟨rfl, rfl⟩)
     |((with_reducible refine (zja vb D1 _ hxb).mono ?_); rintro e w' ⟨rfl, rfl⟩)))
   all_goals
    refine bodyPost_c3 rfl rfl Try.aggF Try.sizeF (HC.out.set _ _ _) rfl ?_
    exact ⟨_, 2, rfl, below_set3 HBZ.out (Nat.le_refl _) _ _ _, fun h => absurd h HFI.out, fun _ => ⟨rfl, rfl⟩⟩
set_option maxHeartbeats 1600000 in
theorem lowest_more (s : Bool) (va vb : Value) (n d : Nat) (w : World) (ha : zya w va n) (hb : zya w vb d) (hd : d ≠ 0) (hn5 : zaa n ≤ 512) (hd5 : zaa d ≤ 512) (hg : 1 < Nat.gcd n d) :
 Calls Try.prog 79 #[.bool s, va, vb] w (zvh w (fq s n d)) := by
 have HN := zH hn5
 have HD := zH hd5
 have hgb : 1 < zka (Nat.gcd n d) := zyc.2 hg
 have HG0 : Hid (Nat.gcd n d ≠ 0) := by have : Nat.gcd n d ≠ 0 := by omega
                                        exact zH this
 have HG5 : Hid (zaa (Nat.gcd n d) ≤ 512) := zH (Nat.le_trans (zwa (Nat.le_of_dvd (Nat.pos_of_ne_zero hd) (Nat.gcd_dvd_right n d))) hd5)
 clear hn5 hd5 hg
 rcases s with _ | _
 case true =>
  go_enter Try.func79, Try.ntmps79
  go_wp2_with (first
   |(go_at_call 112; (with_reducible refine (zgm _ _ n d _ (ha.below (below_alloc _ _)) (hb.below (below_alloc _ _)) HN.out HD.out).mono ?_); rintro e w1 ⟨g, rfl, hg1, hb1⟩
     have hC := (C3.new w _ _ _ _).belowS hb1
     have hbz := (below_alloc _ _).trans (hb1.mono (below_alloc _ _).size)
     have hxa := ha.below hbz
     have hxb := hb.below hbz)
   |(go_at_call 91; first
    |((with_reducible refine (zja g (Nat.gcd n d) _ hg1.nat).mono ?_); rintro e w' ⟨rfl, rfl⟩))
   |(go_at_call 113; first
    |((with_reducible refine (zjm va g n (Nat.gcd n d) _ hxa hg1.nat HG0.out HN.out HG5.out).mono ?_); rintro e w3 ⟨q1, r1, rfl, hq1, hr1, hbl1⟩
      have hg3 := hg1.below hbl1
      have hxb3 := hxb.below hbl1)
    |((with_reducible refine (zjm vb g d (Nat.gcd n d) _ hxb3 hg3.nat HG0.out HD.out HG5.out).mono ?_); rintro e w4 ⟨q2, r2, rfl, hq2, hr2, hbl2⟩
      have hq14 := hq1.nat.below hbl2
      have hq24 := hq2.nat
      have hC4 := (hC.belowS hbl1).belowS hbl2
      have hbz4 := hbz.trans ((hbl1.trans (hbl2.mono hbl1.size)).mono hbz.size))))
  clear hC hbz hxa hxb hb1 ha hb hg1 hg3 hxb3 hbl1 hbl2 hq1 hq2 hr1 hr2
  have hxa := hq14
  have hxb := hq24
  have hC := hC4
  have hbz := hbz4
  clear hq14 hq24 hC4 hbz4 hgb
  have hF := zak true n d hd
  generalize hN1 : n / Nat.gcd n d = N1 at *
  generalize hD1 : d / Nat.gcd n d = D1 at *
  have HN1 := zH hN1
  have HD1 := zH hD1
  have HC := zH hC
  have HBZ := zH hbz
  have HIF := zH hF
  obtain ⟨_, c0, c1, c2, f0, f1, f2⟩ := hC
  clear hN1 hD1 hF hbz
  by_cases hfit : zka N1 ≤ 4096 ∧ zka D1 ≤ 4096
  ·have HFI := zH (HIF.out.2 hfit)
   obtain ⟨hf1, hf2⟩ := hfit
   go_wp2_with (first
    |(go_at_call 91; first
     |((with_reducible refine (zja q1 N1 _ hxa).mono ?_); rintro e w' ⟨rfl, rfl⟩)
     |((with_reducible refine (zja q2 D1 _ hxb).mono ?_); rintro e w' ⟨rfl, rfl⟩)))
   all_goals go_wp2_with (go_at_call 114; first
    |((with_reducible refine (zkc q1 N1 _ hxa).mono ?_); rintro e w1 ⟨ra, rfl, hra, hb1⟩; obtain ⟨a1, l1, k1, rfl, _⟩ := hra.v.sl)
    |((with_reducible refine (zkc q2 D1 _ (hxb.below hb1)).mono ?_); rintro e w2 ⟨rb, rfl, hrb, hb2⟩; obtain ⟨a2, l2, k2, rfl, _⟩ := hrb.v.sl
      have hra2 := hra.below hb2
      have hC2 := (HC.out.belowS hb1).belowS hb2
      have HC2 := zH hC2
      have HBZ2 := zH (HBZ.out.trans ((hb1.trans (hb2.mono hb1.size)).mono HBZ.out.size))
      obtain ⟨_, d0, d1, d2, e0, e1, e2⟩ := hC2))
   all_goals
    try simp only [Exit.inBlock, Exit.then]
    refine bodyPost_c3 rfl rfl Try.aggF Try.sizeF (HC2.out.set _ _ _) rfl ?_
    refine ⟨_, 0, rfl, below_set3 HBZ2.out (Nat.le_refl _) _ _ _, fun _ => ⟨rfl, FracC.set3 (zof hd (HN1.out ▸ hra2) (HD1.out ▸ hrb) ?_) HC2.out (fun z => by simp) (fun z => by simp) _ _ _⟩, fun h => absurd HFI.out h⟩
    rw [HN1.out]; first | rfl | exact ztg N1
  ·have HFI := zH (fun h => hfit (HIF.out.1 h))
   go_wp2_with (first
    |(go_at_call 91; first
     |((with_reducible refine (zja q1 N1 _ hxa).mono ?_); rintro e w' ⟨rfl, rfl⟩)
     |((with_reducible refine (zja q2 D1 _ hxb).mono ?_); rintro e w' ⟨rfl, rfl⟩)))
   all_goals
    refine bodyPost_c3 rfl rfl Try.aggF Try.sizeF (HC.out.set _ _ _) rfl ?_
    exact ⟨_, 2, rfl, below_set3 HBZ.out (Nat.le_refl _) _ _ _, fun h => absurd h HFI.out, fun _ => ⟨rfl, rfl⟩⟩
 case false =>
  go_enter Try.func79, Try.ntmps79
  go_wp2_with (first
   |(go_at_call 112; (with_reducible refine (zgm _ _ n d _ (ha.below (below_alloc _ _)) (hb.below (below_alloc _ _)) HN.out HD.out).mono ?_); rintro e w1 ⟨g, rfl, hg1, hb1⟩
     have hC := (C3.new w _ _ _ _).belowS hb1
     have hbz := (below_alloc _ _).trans (hb1.mono (below_alloc _ _).size)
     have hxa := ha.below hbz
     have hxb := hb.below hbz)
   |(go_at_call 91; first
    |((with_reducible refine (zja g (Nat.gcd n d) _ hg1.nat).mono ?_); rintro e w' ⟨rfl, rfl⟩))
   |(go_at_call 113; first
    |((with_reducible refine (zjm va g n (Nat.gcd n d) _ hxa hg1.nat HG0.out HN.out HG5.out).mono ?_); rintro e w3 ⟨q1, r1, rfl, hq1, hr1, hbl1⟩
      have hg3 := hg1.below hbl1
      have hxb3 := hxb.below hbl1)
    |((with_reducible refine (zjm vb g d (Nat.gcd n d) _ hxb3 hg3.nat HG0.out HD.out HG5.out).mono ?_); rintro e w4 ⟨q2, r2, rfl, hq2, hr2, hbl2⟩
      have hq14 := hq1.nat.below hbl2
      have hq24 := hq2.nat
      have hC4 := (hC.belowS hbl1).belowS hbl2
      have hbz4 := hbz.trans ((hbl1.trans (hbl2.mono hbl1.size)).mono hbz.size))))
  clear hC hbz hxa hxb hb1 ha hb hg1 hg3 hxb3 hbl1 hbl2 hq1 hq2 hr1 hr2
  have hxa := hq14
  have hxb := hq24
  have hC := hC4
  have hbz := hbz4
  clear hq14 hq24 hC4 hbz4 hgb
  have hF := zak false n d hd
  generalize hN1 : n / Nat.gcd n d = N1 at *
  generalize hD1 : d / Nat.gcd n d = D1 at *
  have HN1 := zH hN1
  have HD1 := zH hD1
  have HC := zH hC
  have HBZ := zH hbz
  have HIF := zH hF
  obtain ⟨_, c0, c1, c2, f0, f1, f2⟩ := hC
  clear hN1 hD1 hF hbz
  by_cases hfit : zka N1 ≤ 4096 ∧ zka D1 ≤ 4096
  ·have HFI := zH (HIF.out.2 hfit)
   obtain ⟨hf1, hf2⟩ := hfit
   go_wp2_with (first
    |(go_at_call 91; first
     |((with_reducible refine (zja q1 N1 _ hxa).mono ?_); rintro e w' ⟨rfl, rfl⟩)
     |((with_reducible refine (zja q2 D1 _ hxb).mono ?_); rintro e w' ⟨rfl, rfl⟩)))
   all_goals go_wp2_with (go_at_call 114; first
    |((with_reducible refine (zkc q1 N1 _ hxa).mono ?_); rintro e w1 ⟨ra, rfl, hra, hb1⟩; obtain ⟨a1, l1, k1, rfl, _⟩ := hra.v.sl)
    |((with_reducible refine (zkc q2 D1 _ (hxb.below hb1)).mono ?_); rintro e w2 ⟨rb, rfl, hrb, hb2⟩; obtain ⟨a2, l2, k2, rfl, _⟩ := hrb.v.sl
      have hra2 := hra.below hb2
      have hC2 := (HC.out.belowS hb1).belowS hb2
      have HC2 := zH hC2
      have HBZ2 := zH (HBZ.out.trans ((hb1.trans (hb2.mono hb1.size)).mono HBZ.out.size))
      obtain ⟨_, d0, d1, d2, e0, e1, e2⟩ := hC2))
   all_goals
    try simp only [Exit.inBlock, Exit.then]
    refine bodyPost_c3 rfl rfl Try.aggF Try.sizeF (HC2.out.set _ _ _) rfl ?_
    refine ⟨_, 0, rfl, below_set3 HBZ2.out (Nat.le_refl _) _ _ _, fun _ => ⟨rfl, FracC.set3 (zof hd (HN1.out ▸ hra2) (HD1.out ▸ hrb) ?_) HC2.out (fun z => by simp) (fun z => by simp) _ _ _⟩, fun h => absurd HFI.out h⟩
    rw [HN1.out]; first | rfl | exact ztg N1
  ·have HFI := zH (fun h => hfit (HIF.out.1 h))
   go_wp2_with (first
    |(go_at_call 91; first
     |((with_reducible refine (zja q1 N1 _ hxa).mono ?_); rintro e w' ⟨rfl, rfl⟩)
     |((with_reducible refine (zja q2 D1 _ hxb).mono ?_); rintro e w' ⟨rfl, rfl⟩)))
   all_goals
    refine bodyPost_c3 rfl rfl Try.aggF Try.sizeF (HC.out.set _ _ _) rfl ?_
    exact ⟨_, 2, rfl, below_set3 HBZ.out (Nat.le_refl _) _ _ _, fun h => absurd h HFI.out, fun _ => ⟨rfl, rfl⟩⟩
theorem zeb (s : Bool) (va vb : Value) (n d : Nat) (w : World) (ha : zya w va n) (hb : zya w vb d) (hd : d ≠ 0) (hn5 : zaa n ≤ 512) (hd5 : zaa d ≤ 512) :
 Calls Try.prog 79 #[.bool s, va, vb] w (zvh w (fq s n d)) := by
 have h0 : Nat.gcd n d ≠ 0 := fun h => hd (Nat.gcd_eq_zero_iff.1 h).2
 rcases Nat.lt_or_ge 1 (Nat.gcd n d) with h | h
 ·exact lowest_more s va vb n d w ha hb hd hn5 hd5 h
 ·exact lowest_one s va vb n d w ha hb hd hn5 hd5 (by omega)
theorem step_call {P : Program} {ops : Array Oper} {o : Oper} {a : Act} {w : World} {K : Act → World → Prop} {Q : Exit → Act → World → Prop} {E : Prop} (hg : o.guard = none) (f : FuncId) (argv : Array Value)
 (hrun : (execOp a.eval o).run P w = .ok (.enter f argv) w) {R : Ending → World → Prop} (hc : Calls P f argv w R) (h : ∀ e w', R e w' → ∃ v, e = .returned v ∧ K (a.put o.dst v) w') :
 if Region.wanted o (yielded ops a.tmps) = true then Oper.wp P o a w K Q else E := by
 rw [if_pos (by simp [Region.wanted, hg])]
 unfold Oper.wp
 rw [hrun, Oper.upon_enter]
 refine hc.mono fun e w' hr => ?_
 obtain ⟨v, rfl, hk⟩ := h e w' hr
 exact hk
end Go.Proofs.Ytlpdkbmmbdfoiaa
