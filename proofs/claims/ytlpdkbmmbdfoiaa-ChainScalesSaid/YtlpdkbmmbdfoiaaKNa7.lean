/-
  package natural: subtract, restore: they write into a part of a row that the caller made.
-/
import Derived.Test.YtlpdkbmmbdfoiaaKNa4
import Derived.Test.YtlpdkbmmbdfoiaaKRat
set_option linter.unusedVariables false
set_option linter.unusedSimpArgs false
namespace Go.Proofs.Ytlpdkbmmbdfoiaa
open Go.RowKit
def RShort (w0 : World) (n d : Nat) (e : Ending) (w : World) : Prop :=
 ∃ q, e = .returned (.tuple #[q, .int .u32 (n % d : Nat)]) ∧ NatC w q (n / d) ∧ Below w0.heap.size w0 w
set_option maxHeartbeats 800000 in
theorem short_any (va : Value) (l : List Nat) (d : Nat) (w : World) (ha : NatV w va l) (hl : l.length ≤ 65536) (hd : 0 < d) (hd2 : d < 4294967296) :
 Calls Try.prog 126 #[va, .int .u32 d] w (RShort w (val l) d) := by
 have hlb : l.length ≤ 4294967296 := by omega
 have HL := zH hl
 clear hl
 obtain ⟨i0, hi, hz0, hz1, hz2⟩ := info_parts Try.info102
 have hM := zmc (P := Try.prog) 30 94 i0 Try.underlying30 hi hz0 hz1 hz2
 have sa := ha.sl
 have la := ha.len
 have hroom : l.length ≤ 35184372088832 := by omega
 go_enter Try.func126, Try.ntmps126
 go_wp2_with (refine hM _ rfl _ _ rfl w.heap.size _ l.length rfl rfl rfl hroom (Nat.le_refl _) ?_; intro v w1 hown hb1 hvb)
 clear hM
 go_loopw [7, 8] (fun u7 u8 wr => ∃ (k r : Nat) (q : List Nat), k ≤ l.length ∧ u8 = .int .i64 ((k : Int) - 1) ∧ u7 = .int .u64 r ∧ r < d ∧ zmb wr 94 w.heap.size v q ∧ q.length = l.length ∧
  val (l.drop k) = d * val (q.drop k) + r ∧ Below w.heap.size w wr) (fun _ u8 _ => (intOf u8 + 1).toNat)
 case atStart => exact ⟨l.length, 0, _, Nat.le_refl _, rfl, rfl, hd, hown, by simp, by rw [List.drop_of_length_le (Nat.le_refl _), List.drop_of_length_le (by simp)]; rfl, hb1⟩
 case round =>
  obtain ⟨k, r, q, hk, rfl, rfl, hr, hownr, hol, hval, hbr⟩ := hrel
  have hcx := (ha.below hbr).cell
  have sv := hownr.nat.sl
  have lv : slen v = l.length := by rw [hownr.nat.len, hol]
  have HV := zH hval
  clear hval
  by_cases hk0 : 0 < k
  ·obtain ⟨j, rfl⟩ : ∃ j, k = j + 1 := ⟨k - 1, by omega⟩
   have hj1 : j < l.length := by omega
   have hx := hcx j hj1
   have hx1 : l[j]'hj1 < 4294967296 := ha.lm _ (List.getElem_mem _)
   have hfz := hownr.frozen j (by omega)
   have hco := hownr.nat.cell j (by omega)
   have HS := zH (zwk (q := q) (l := l) (k := j) (d := d) (r := r) (by omega) (zhg l j hj1) hd HV.out hr)
   clear hcx
   generalize l[j]'hj1 = x at *
   obtain ⟨b1, b2, b3⟩ := zxi hd2 hr hx1
   have hor := or_lo r x (by omega) hx1
   generalize r * 4294967296 + x = t at *
   go_wp2
   have ew := div_limb t d b1
   have hset := hownr.set j (by omega) (t / d) b1
   go_roundw
   case rel =>
    rw [ew]
    exact ⟨j, t % d, _, by omega, rfl, rfl, b2, hset.1, by simp [hol], HS.out, hbr.trans hset.2⟩
   case measure => simp [intOf]
  ·obtain rfl : k = 0 := by omega
   have e := HV.out
   simp only [List.drop_zero] at e
   have hq : val q = val l / d := by rw [e, Nat.mul_add_div hd, Nat.div_eq_of_lt hr, Nat.add_zero]
   have hrr : r = val l % d := by rw [e, Nat.mul_add_mod, Nat.mod_eq_of_lt hr]
   have hcan := hownr.nat.can (by omega)
   have HLN := zH (zpa v (val q) wr (hownr.nat.natN (by omega)))
   have HC := zH hcan
   have HQ := zH hq
   have HR := zH hrr
   have hcap : zaa (val q) ≤ scap v := by have := sv.le; have := zbb hownr.lm; omega
   clear hcx hcan hq hrr HV e
   go_wp2_with (go_at_call 110; refine HLN.out.mono ?_; rintro e w' ⟨rfl, rfl⟩)
   go_ret2
   refine ⟨tk v (zaa (val q)), by rw [← HR.out]; rfl, ?_, hbr⟩
   rw [← HQ.out]
   exact HC.out
set_option maxHeartbeats 800000 in
theorem up_any (va : Value) (l : List Nat) (s : Nat) (w : World) (ha : NatV w va l) (hl : l.length ≤ 65536) (hs : s < 32) :
 Calls Try.prog 127 #[va, .int .u64 s] w fun e w' => ∃ r o, e = .returned r ∧ zmb w' 94 w.heap.size r o ∧ o.length = l.length + 1 ∧ val o = 2 ^ s * val l ∧ Below w.heap.size w w' := by
 have hlb : l.length ≤ 4294967296 := by omega
 have HL := zH hl
 clear hl
 obtain ⟨i0, hi, hz0, hz1, hz2⟩ := info_parts Try.info102
 have hM := zmc (P := Try.prog) 30 94 i0 Try.underlying30 hi hz0 hz1 hz2
 have sa := ha.sl
 have la := ha.len
 have hroom : l.length + 1 ≤ 35184372088832 := by omega
 go_enter Try.func127, Try.ntmps127
 go_wp2_with (refine hM _ rfl _ _ rfl w.heap.size _ (l.length + 1) rfl rfl rfl hroom (Nat.le_refl _) ?_; intro v w1 hown hb1 hvb)
 clear hM
 go_loopw [6, 15] (fun u6 u15 wr => ∃ (k c : Nat) (o : List Nat), k ≤ l.length ∧ u15 = .int .i64 k ∧ u6 = .int .u64 c ∧ c < 2 ^ s ∧ zmb wr 94 w.heap.size v o ∧ o.length = l.length + 1 ∧
  val (o.take k) + pw k * c = 2 ^ s * val (l.take k) ∧ Below w.heap.size w wr) (fun _ u15 _ => l.length - (intOf u15).toNat)
 case atStart => exact ⟨0, 0, _, Nat.zero_le _, rfl, rfl, Nat.pow_pos (by decide), hown, by simp, by simp [val], hb1⟩
 case round =>
  obtain ⟨k, c, o, hk, rfl, rfl, hc, hownr, hol, hval, hbr⟩ := hrel
  have hcx := (ha.below hbr).cell
  have sv := hownr.nat.sl
  have lv : slen v = l.length + 1 := by rw [hownr.nat.len, hol]
  have HV := zH hval
  clear hval
  by_cases hkp : k < l.length
  ·have hx := hcx k hkp
   have hx1 : l[k]'hkp < 4294967296 := ha.lm _ (List.getElem_mem _)
   have hfz := hownr.frozen k (by omega)
   have hco := hownr.nat.cell k (by omega)
   have HX := zH (zda l k hkp)
   clear hcx
   generalize l[k]'hkp = x at *
   have hor := or_up c x s hs hc hx1
   obtain ⟨b1, b2⟩ := up_bound c x s hs hc hx1
   have HT := fun t => zH (up_step (o := o) (l := l) (k := k) (c := c) (x := x) (P := 2 ^ s) (t := t) (by omega) HX.out HV.out)
   generalize hte : 2 ^ s * x + c = t at *
   have HTE := zH hte
   clear hte
   go_wp2
   have hset := hownr.set k (by omega) (t % 4294967296) (by omega)
   go_roundw
   case rel => exact ⟨k + 1, t / 4294967296, _, by omega, by go_num, rfl, b2, hset.1, by simp [hol], (HT t).out rfl, hbr.trans hset.2⟩
   case measure => simp [intOf]; omega
  ·obtain rfl : k = l.length := by omega
   have hP : 2 ^ s ≤ 2 ^ 31 := Nat.pow_le_pow_right (by decide) (by omega)
   have hc1 : c < 4294967296 := by omega
   have hfz := hownr.frozen l.length (by omega)
   have hco := hownr.nat.cell l.length (by omega)
   have hset := hownr.set l.length (by omega) c hc1
   have hv2 : val (o.set l.length c) = 2 ^ s * val l := by
    have e := zua o l.length c (by omega)
    rw [List.take_of_length_le (by simp; omega), HV.out, List.take_length] at e
    exact e
   have HV2 := zH hv2
   clear hv2 hcx hP HV
   go_wp2
   go_ret
   exact ⟨v, _, rfl, hset.1, by simp [hol], HV2.out, hbr.trans hset.2⟩
theorem zai (w : World) (row : Option Nat) : w.grownBy w row := ⟨rfl, rfl, rfl, Nat.le_refl _, fun _ _ _ => rfl⟩
theorem zvb {w w1 w2 : World} {row : Option Nat} (h : w.grownBy w1 row) (k : w1.grownBy w2 row) : w.grownBy w2 row :=
 ⟨k.os.trans h.os, k.tape.trans h.tape, k.output.trans h.output, Nat.le_trans h.size k.size, fun i hi hr => (k.block i (Nat.lt_of_lt_of_le hi h.size) hr).trans (h.block i hi hr)⟩
theorem ztb (w : World) (p : Addr) (u : Value) : w.grownBy (w.setCell p u) (some p.block) :=
 ⟨rfl, rfl, rfl, by simp [World.setCell], fun k _ hk => Below.heap_setCell _ _ _ _ (fun e => hk (by rw [e]))⟩
theorem zwb {w w' : World} {b B : Nat} (h : w.grownBy w' (some b)) (hB : B ≤ b) (hs : B ≤ w.heap.size) : Below B w w' :=
 ⟨h.os, h.tape, h.output, h.size, fun k hk => h.block k (by omega) (fun e => by injection e; omega)⟩
theorem NatV.grown {w w' : World} {v : Value} {l : List Nat} {b : Nat} (h : NatV w v l) (hg : w.grownBy w' (some b)) (hb : (base v).block ≠ b) : NatV w' v l :=
 ⟨h.sl, h.len, fun j hj => by
  have hc := h.cell j hj
  have hlt := World.block_lt_of_cell? w _ hc
  rw [World.cell?_of_block (hg.block _ hlt (fun e => hb (by injection e with e; rw [← e, zfa]))), hc], h.lm⟩
theorem and_mask (t : Nat) (ht : t < 18446744073709551616) : bits .and .u64 (t : Int) 4294967295 = ((t % 4294967296 : Nat) : Int) := by
 have h := u64_and_nat t 4294967295 ht (by decide)
 have e : t &&& 4294967295 = t % 4294967296 := by
  have := Nat.and_two_pow_sub_one_eq_mod t 32
  simpa using this
 rw [e] at h
 exact h
theorem sub_wrap2 (x y c : Nat) (hx : x < 4294967296) (hy : y < 4294967296) (hc : c ≤ 1) : ∃ z b : Nat, z < 4294967296 ∧ b ≤ 1 ∧
 IntKind.u64.wrap (IntKind.u64.wrap ((x : Int) - y) - c) % 4294967296 = z ∧ IntKind.u64.wrap (IntKind.u64.wrap ((x : Int) - y) - c) / 9223372036854775808 = b ∧ z + y + c = x + 4294967296 * b := by
 rw [zfb, zfb]
 by_cases h : c + y ≤ x
 ·exact ⟨x - c - y, 0, by omega, by omega, by omega, by omega, by omega⟩
 ·exact ⟨x + 4294967296 - c - y, 1, by omega, by omega, by omega, by omega, by omega⟩
theorem split_sum (c f x : Nat) (hc : c < 4294967296) (hf : f < 4294967296) (hx : x < 4294967296) : ∃ t c' lo : Nat, (c : Int) + (f : Int) * x = t ∧ bits .and .u64 (t : Int) 4294967295 = lo ∧ (t : Int) / 4294967296 = c' ∧
 c' < 4294967296 ∧ lo < 4294967296 ∧ 4294967296 * c' + lo = c + f * x ∧ t ≤ 18446744073709551615 := by
 have hb := (zpj hf hx (show 0 < 4294967296 by omega) hc).1
 have e := mul_cast c f x 0
 have ha := and_mask (f * x + 0 + c) hb
 refine ⟨f * x + 0 + c, (f * x + 0 + c) / 4294967296, (f * x + 0 + c) % 4294967296, by rw [← e]; simp, ha, by omega, by omega, by omega, by omega, by omega⟩
set_option maxHeartbeats 1600000 in
theorem zue (U V uv : Value) (A p C l : List Nat) (n f B : Nat) (w : World) (hU : IsSl U) (hUl : slen U = n + 1) (hUp : ∀ k, ptr U k = ptr uv (A.length + k))
 (hu : zmb w 94 B uv (A ++ p ++ C)) (hp : p.length = n + 1) (hv : NatV w V l) (hl : l.length = n) (hn : n ≤ 65536) (hf : f < 4294967296) (hne : (base V).block ≠ (base uv).block) :
 Calls Try.prog 128 #[U, V, .int .u64 f] w fun e w' => ∃ (b : Bool) (p' : List Nat), e = .returned (.bool b) ∧ zmb w' 94 B uv (A ++ p' ++ C) ∧ p'.length = n + 1 ∧
  val p' + f * val l = val p + (if b then 1 else 0) * pw (n + 1) ∧ w.grownBy w' (some (base uv).block) := by
 have hnb : n ≤ 4294967296 := by omega
 have HN := zH hn
 clear hn
 have sV := hv.sl
 have lV : slen V = n := by rw [hv.len, hl]
 have HUP := zH hUp
 clear hUp
 go_enter Try.func128, Try.ntmps128
 go_wp2_with fail
 go_loopw [7, 8, 15] (fun u7 u8 u15 wr => ∃ (k c bo : Nat) (q : List Nat), k ≤ n ∧ u15 = .int .i64 k ∧ u7 = .int .u64 c ∧ u8 = .int .u64 bo ∧ c < 4294967296 ∧ bo ≤ 1 ∧ zmb wr 94 B uv (A ++ q ++ C) ∧ q.length = n + 1 ∧
  val (q.take k) + f * val (l.take k) = val (p.take k) + pw k * (c + bo) ∧ q.drop k = p.drop k ∧ w.grownBy wr (some (base uv).block)) (fun _ _ u15 _ => n - (intOf u15).toNat)
 case atStart => exact ⟨0, 0, 0, p, Nat.zero_le _, rfl, rfl, rfl, by omega, by omega, hu, hp, by simp [val], rfl, zai _ _⟩
 case round =>
  obtain ⟨k, c, bo, q, hk, rfl, rfl, rfl, hc, hbo, hown, hql, hval, hdr, hgr⟩ := hrel
  have hV := hv.grown hgr hne
  have HV := zH hval
  have HD := zH hdr
  clear hval hdr
  have hpq : ∀ (h : k < n + 1), q[k]'(by omega) = p[k]'(by omega) := fun h => by
   have := congrArg (fun l => l[0]?) HD.out
   simp only [List.getElem?_drop, Nat.add_zero] at this
   rw [List.getElem?_eq_getElem (by omega), List.getElem?_eq_getElem (by omega)] at this
   simpa using this
  by_cases hkn : k < n
  ·have hx := hV.cell k (by omega)
   have hx1 : l[k]'(by omega) < 4294967296 := hv.lm _ (List.getElem_mem _)
   have hlen : A.length + k < (A ++ q ++ C).length := by simp; omega
   have hco := hown.nat.cell (A.length + k) hlen
   rw [← HUP.out k, (List.getElem_eq_iff hlen).2 (zud A q C k (by omega))] at hco
   have hfz := hown.frozen (A.length + k) hlen
   rw [← HUP.out k] at hfz
   have hu1 : q[k]'(by omega) < 4294967296 := by
    have := hown.lm _ (List.getElem_mem (h := hlen))
    rwa [(List.getElem_eq_iff hlen).2 (zud A q C k (by omega))] at this
   have hp1 := zda p k (by omega)
   rw [← hpq (by omega)] at hp1
   have hl1 := zda l k (by omega)
   clear hpq
   generalize l[k]'(by omega) = x at *
   generalize q[k]'(by omega) = u at *
   have HP := zH hp1
   have HL := zH hl1
   clear hp1 hl1
   obtain ⟨hb0, hb1⟩ := zkf hf hx1
   obtain ⟨t, c', lo, et, hand, hdiv, hc', hlo, hts, htm⟩ := split_sum c f x hc hf hx1
   obtain ⟨z, b', hz, hb', ez, eb, hzz⟩ := sub_wrap2 u lo bo hu1 hlo hbo
   have HTS := zH hts
   have EZ := zH ez
   have EB := zH eb
   have HZZ := zH hzz
   clear hts ez eb hzz
   go_wp2
   have hset := hown.set (A.length + k) hlen z hz
   rw [zaj A q C k z (by omega), ← HUP.out k] at hset
   have hgs := ztb wr (ptr U k) (.int .u32 z)
   rw [show (ptr U k).block = (base uv).block from by rw [HUP.out k, zfa]] at hgs
   go_roundw
   case rel =>
    rw [EZ.out, EB.out]
    refine ⟨k + 1, c', b', q.set k z, by omega, by go_num, rfl, rfl, hc', hb', hset.1, by simp [hql], zql (by omega) HP.out HL.out HTS.out HZZ.out HV.out, ?_, zvb hgr hgs⟩
    have := congrArg (List.drop 1) HD.out
    rw [List.drop_drop, List.drop_drop] at this
    rw [List.drop_set_of_lt (by omega)]
    exact this
   case measure => simp [intOf]; omega
  ·obtain rfl : k = n := by omega
   have hlen : A.length + k < (A ++ q ++ C).length := by simp; omega
   have hco := hown.nat.cell (A.length + k) hlen
   rw [← HUP.out k, (List.getElem_eq_iff hlen).2 (zud A q C k (by omega))] at hco
   have hfz := hown.frozen (A.length + k) hlen
   rw [← HUP.out k] at hfz
   have hu1 : q[k]'(by omega) < 4294967296 := by
    have := hown.lm _ (List.getElem_mem (h := hlen))
    rwa [(List.getElem_eq_iff hlen).2 (zud A q C k (by omega))] at this
   obtain ⟨z, b', hz, hb', ez, eb, hzz⟩ := sub_wrap2 (q[k]'(by omega)) c bo hu1 hc hbo
   have hfin := subtract_end (p := p) (q := q) (l := l) (n := k) (c := c) (bo := bo) (f := f) (z := z) (b := b') hql hp hl (by rw [← hpq (by omega)]; omega) HV.out
   clear hpq
   generalize q[k]'(by omega) = u at *
   have EZ := zH ez
   have EB := zH eb
   have HF := zH hfin
   have hset := hown.set (A.length + k) hlen z hz
   rw [zaj A q C k z (by omega), ← HUP.out k] at hset
   have hgs := ztb wr (ptr U k) (.int .u32 z)
   rw [show (ptr U k).block = (base uv).block from by rw [HUP.out k, zfa]] at hgs
   have HS := zH hset
   have HG := zH hgs
   clear hzz ez eb hfin hset hgs HV HD hV
   go_wp2
   go_ret
   rw [EZ.out]
   refine ⟨decide (b' = 1), q.set k z, ?_, HS.out.1, by simp [hql], ?_, zvb hgr HG.out⟩
   ·show Ending.returned (Value.bool _) = _
    rw [EB.out]
    congr 2
    rw [Bool.eq_iff_iff]; simp
    omega
   ·rw [HF.out]
    have : b' = 0 ∨ b' = 1 := by omega
    rcases this with rfl | rfl <;> simp
set_option maxHeartbeats 1600000 in
theorem ztf (U V uv : Value) (A p C l : List Nat) (n B : Nat) (w : World) (hU : IsSl U) (hUl : slen U = n + 1) (hUp : ∀ k, ptr U k = ptr uv (A.length + k))
 (hu : zmb w 94 B uv (A ++ p ++ C)) (hp : p.length = n + 1) (hv : NatV w V l) (hl : l.length = n) (hn : n ≤ 65536) (hne : (base V).block ≠ (base uv).block) :
 Calls Try.prog 129 #[U, V] w fun e w' => ∃ (b : Nat) (p' : List Nat), e = .returned (.tuple #[]) ∧ zmb w' 94 B uv (A ++ p' ++ C) ∧ p'.length = n + 1 ∧
  val p' + b * pw (n + 1) = val p + val l ∧ w.grownBy w' (some (base uv).block) := by
 have hnb : n ≤ 4294967296 := by omega
 have HN := zH hn
 clear hn
 have sV := hv.sl
 have lV : slen V = n := by rw [hv.len, hl]
 have HUP := zH hUp
 clear hUp
 go_enter Try.func129, Try.ntmps129
 go_wp2_with fail
 go_loopw [4, 9] (fun u4 u9 wr => ∃ (k c : Nat) (q : List Nat), k ≤ n ∧ u9 = .int .i64 k ∧ u4 = .int .u64 c ∧ c ≤ 1 ∧ zmb wr 94 B uv (A ++ q ++ C) ∧ q.length = n + 1 ∧
  val (q.take k) + pw k * c = val (p.take k) + val (l.take k) ∧ q.drop k = p.drop k ∧ w.grownBy wr (some (base uv).block)) (fun _ u9 _ => n - (intOf u9).toNat)
 case atStart => exact ⟨0, 0, p, Nat.zero_le _, rfl, rfl, by omega, hu, hp, by simp [val], rfl, zai _ _⟩
 case round =>
  obtain ⟨k, c, q, hk, rfl, rfl, hc, hown, hql, hval, hdr, hgr⟩ := hrel
  have hV := hv.grown hgr hne
  have HV := zH hval
  have HD := zH hdr
  clear hval hdr
  have hpq : ∀ (h : k < n + 1), q[k]'(by omega) = p[k]'(by omega) := fun h => by
   have := congrArg (fun l => l[0]?) HD.out
   simp only [List.getElem?_drop, Nat.add_zero] at this
   rw [List.getElem?_eq_getElem (by omega), List.getElem?_eq_getElem (by omega)] at this
   simpa using this
  have hlen : k < n + 1 → A.length + k < (A ++ q ++ C).length := fun h => by simp; omega
  by_cases hkn : k < n
  ·have hlen := hlen (by omega)
   have hx := hV.cell k (by omega)
   have hx1 : l[k]'(by omega) < 4294967296 := hv.lm _ (List.getElem_mem _)
   have hco := hown.nat.cell (A.length + k) hlen
   rw [← HUP.out k, (List.getElem_eq_iff hlen).2 (zud A q C k (by omega))] at hco
   have hfz := hown.frozen (A.length + k) hlen
   rw [← HUP.out k] at hfz
   have hu1 : q[k]'(by omega) < 4294967296 := by
    have := hown.lm _ (List.getElem_mem (h := hlen))
    rwa [(List.getElem_eq_iff hlen).2 (zud A q C k (by omega))] at this
   have hp1 := zda p k (by omega)
   rw [← hpq (by omega)] at hp1
   have hl1 := zda l k (by omega)
   clear hpq
   generalize l[k]'(by omega) = x at *
   generalize q[k]'(by omega) = u at *
   have HST := zH (zfh (o := q) (a := p) (b := l) (k := k) (c := c) (x := u) (y := x) (by omega) hp1 hl1 HV.out)
   clear hp1 hl1
   go_wp2
   have hset := hown.set (A.length + k) hlen ((c + u + x) % 4294967296) (by omega)
   rw [zaj A q C k _ (by omega), ← HUP.out k, show (((c + u + x) % 4294967296 : Nat) : Int) = ((c : Int) + (u + x)) % 4294967296 from by omega] at hset
   have hgs := ztb wr (ptr U k) (.int .u32 (((c : Int) + (u + x)) % 4294967296))
   rw [show (ptr U k).block = (base uv).block from by rw [HUP.out k, zfa]] at hgs
   go_roundw
   case rel =>
    refine ⟨k + 1, (c + u + x) / 4294967296, q.set k _, by omega, by go_num, congrArg (Value.int .u64) (by omega), by omega, hset.1, by simp [hql], HST.out, ?_, zvb hgr hgs⟩
    have := congrArg (List.drop 1) HD.out
    rw [List.drop_drop, List.drop_drop] at this
    rw [List.drop_set_of_lt (by omega)]
    exact this
   case measure => simp [intOf]; omega
  ·obtain rfl : k = n := by omega
   have hlen := hlen (by omega)
   have hco := hown.nat.cell (A.length + k) hlen
   rw [← HUP.out k, (List.getElem_eq_iff hlen).2 (zud A q C k (by omega))] at hco
   have hfz := hown.frozen (A.length + k) hlen
   rw [← HUP.out k] at hfz
   have hu1 : q[k]'(by omega) < 4294967296 := by
    have := hown.lm _ (List.getElem_mem (h := hlen))
    rwa [(List.getElem_eq_iff hlen).2 (zud A q C k (by omega))] at this
   have hfin : val (q.set k ((q[k]'(by omega) + c) % 4294967296)) + (q[k]'(by omega) + c) / 4294967296 * pw (k + 1) = val p + val l := by
    have e1 := zua q k ((q[k]'(by omega) + c) % 4294967296) (by omega)
    rw [List.take_of_length_le (by simp; omega)] at e1
    have e2 := zda p k (by omega)
    rw [List.take_of_length_le (by omega), ← hpq (by omega)] at e2
    have e3 := HV.out
    rw [List.take_of_length_le (by omega : l.length ≤ k)] at e3
    rw [e1, e2, zva]
    generalize q[k]'(by omega) = u at *
    have h : (u + c) % 4294967296 + 4294967296 * ((u + c) / 4294967296) = u + c := by omega
    generalize (u + c) % 4294967296 = zz at *
    generalize (u + c) / 4294967296 = dd at *
    grind
   clear hpq
   generalize q[k]'(by omega) = u at *
   have HF := zH hfin
   have hset := hown.set (A.length + k) hlen ((u + c) % 4294967296) (by omega)
   rw [zaj A q C k _ (by omega), ← HUP.out k, show (((u + c) % 4294967296 : Nat) : Int) = ((u : Int) + c) % 4294967296 from by omega] at hset
   have hgs := ztb wr (ptr U k) (.int .u32 (((u : Int) + c) % 4294967296))
   rw [show (ptr U k).block = (base uv).block from by rw [HUP.out k, zfa]] at hgs
   have HS := zH hset
   have HG := zH hgs
   clear hfin hset hgs HV HD hV
   go_wp2
   go_end0
   exact ⟨_, _, rfl, HS.out.1, by simp [hql], HF.out, zvb hgr HG.out⟩
end Go.Proofs.Ytlpdkbmmbdfoiaa
