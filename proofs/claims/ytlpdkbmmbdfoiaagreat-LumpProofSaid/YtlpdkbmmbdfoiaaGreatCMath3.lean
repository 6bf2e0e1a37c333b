/-
  Long division by limbs: what one round needs. No program is named here.
  Ahead of it: package natural: short, up, Bits. package natural: subtract, restore: they write into a part of a row that the caller made.
-/
import Derived.Test.YtlpdkbmmbdfoiaaGreatCMath2
namespace Go.Proofs.YtlpdkbmmbdfoiaaGreat
set_option linter.unusedVariables false
set_option linter.unusedSimpArgs false
open Go.RowKit

/-- The quotient and the rest of a division by a limb. -/
def RShort (w0 : World) (n d : Nat) (e : Ending) (w : World) : Prop :=
  ∃ q, e = .returned (.tuple #[q, .int .u32 (n % d : Nat)]) ∧ NatC w q (n / d) ∧ Below w0.heap.size w0 w
set_option maxHeartbeats 800000 in
theorem short_any (va : Value) (l : List Nat) (d : Nat) (w : World) (ha : NatV w va l) (hl : l.length ≤ 65536) (hd : 0 < d) (hd2 : d < 4294967296) :
    Calls Tryz.prog 223 #[va, .int .u32 d] w (RShort w (val l) d) := by
  have hlb : l.length ≤ 4294967296 := by omega
  have HL := Lib.hid hl
  clear hl
  obtain ⟨i0, hi, hz0, hz1, hz2⟩ := info_parts Tryz.info102
  have hM := make_nat (P := Tryz.prog) 36 142 i0 Tryz.underlying36 hi hz0 hz1 hz2
  have sa := ha.sl
  have la := ha.len
  have hroom : l.length ≤ 35184372088832 := by omega
  go_enter Tryz.func223, Tryz.ntmps223
  go_wp2_with (refine hM _ rfl _ _ rfl w.heap.size _ l.length rfl rfl rfl hroom (Nat.le_refl _) ?_; intro v w1 hown hb1 hvb)
  clear hM
  go_loopw [7, 8] (fun u7 u8 wr => ∃ (k r : Nat) (q : List Nat), k ≤ l.length ∧ u8 = .int .i64 ((k : Int) - 1) ∧ u7 = .int .u64 r ∧ r < d ∧ OwnN wr 142 w.heap.size v q ∧ q.length = l.length ∧
      val (l.drop k) = d * val (q.drop k) + r ∧ Below w.heap.size w wr) (fun _ u8 _ => (intOf u8 + 1).toNat)
  case atStart => exact ⟨l.length, 0, _, Nat.le_refl _, rfl, rfl, hd, hown, by simp, by rw [List.drop_of_length_le (Nat.le_refl _), List.drop_of_length_le (by simp)]; rfl, hb1⟩
  case round =>
    obtain ⟨k, r, q, hk, rfl, rfl, hr, hownr, hol, hval, hbr⟩ := hrel
    have hcx := (ha.below hbr).cell
    have sv := hownr.nat.sl
    have lv : slen v = l.length := by rw [hownr.nat.len, hol]
    have HV := Lib.hid hval
    clear hval
    by_cases hk0 : 0 < k
    · obtain ⟨j, rfl⟩ : ∃ j, k = j + 1 := ⟨k - 1, by omega⟩
      have hj1 : j < l.length := by omega
      have hx := hcx j hj1
      have hx1 : l[j]'hj1 < 4294967296 := ha.lm _ (List.getElem_mem _)
      have hfz := hownr.frozen j (by omega)
      have hco := hownr.nat.cell j (by omega)
      have HS := Lib.hid (short_step (q := q) (l := l) (k := j) (d := d) (r := r) (by omega) (val_drop_succ l j hj1) hd HV.out hr)
      clear hcx
      generalize l[j]'hj1 = x at *
      obtain ⟨b1, b2, b3⟩ := short_bound hd2 hr hx1
      have hor := or_lo r x (by omega) hx1
      generalize r * 4294967296 + x = t at *
      go_wp2
      have ew := div_limb t d b1
      have hset := hownr.set j (by omega) (t / d) b1
      go_roundw
      case rel =>
        rw [ew]
        exact ⟨j, t % d, _, by omega, rfl, rfl, b2, hset.1, by simp [hol], HS.out, hbr.trans hset.2⟩
      case measure => simp [intOf]
    · obtain rfl : k = 0 := by omega
      have e := HV.out
      simp only [List.drop_zero] at e
      have hq : val q = val l / d := by rw [e, Nat.mul_add_div hd, Nat.div_eq_of_lt hr, Nat.add_zero]
      have hrr : r = val l % d := by rw [e, Nat.mul_add_mod, Nat.mod_eq_of_lt hr]
      have hcan := hownr.nat.can (by omega)
      have HLN := Lib.hid (length_any v (val q) wr (hownr.nat.natN (by omega)))
      have HC := Lib.hid hcan
      have HQ := Lib.hid hq
      have HR := Lib.hid hrr
      have hcap : nlen (val q) ≤ scap v := by have := sv.le; have := nlen_val_le hownr.lm; omega
      clear hcx hcan hq hrr HV e
      go_wp2_with (go_at_call 198; refine HLN.out.mono ?_; rintro e w' ⟨rfl, rfl⟩)
      go_ret2
      refine ⟨tk v (nlen (val q)), by rw [← HR.out]; rfl, ?_, hbr⟩
      rw [← HQ.out]
      exact HC.out

set_option maxHeartbeats 800000 in
theorem up_any (va : Value) (l : List Nat) (s : Nat) (w : World) (ha : NatV w va l) (hl : l.length ≤ 65536) (hs : s < 32) :
    Calls Tryz.prog 224 #[va, .int .u64 s] w fun e w' => ∃ r o, e = .returned r ∧ OwnN w' 142 w.heap.size r o ∧ o.length = l.length + 1 ∧ val o = 2 ^ s * val l ∧ Below w.heap.size w w' := by
  have hlb : l.length ≤ 4294967296 := by omega
  have HL := Lib.hid hl
  clear hl
  obtain ⟨i0, hi, hz0, hz1, hz2⟩ := info_parts Tryz.info102
  have hM := make_nat (P := Tryz.prog) 36 142 i0 Tryz.underlying36 hi hz0 hz1 hz2
  have sa := ha.sl
  have la := ha.len
  have hroom : l.length + 1 ≤ 35184372088832 := by omega
  go_enter Tryz.func224, Tryz.ntmps224
  go_wp2_with (refine hM _ rfl _ _ rfl w.heap.size _ (l.length + 1) rfl rfl rfl hroom (Nat.le_refl _) ?_; intro v w1 hown hb1 hvb)
  clear hM
  go_loopw [6, 15] (fun u6 u15 wr => ∃ (k c : Nat) (o : List Nat), k ≤ l.length ∧ u15 = .int .i64 k ∧ u6 = .int .u64 c ∧ c < 2 ^ s ∧ OwnN wr 142 w.heap.size v o ∧ o.length = l.length + 1 ∧
      val (o.take k) + pw k * c = 2 ^ s * val (l.take k) ∧ Below w.heap.size w wr) (fun _ u15 _ => l.length - (intOf u15).toNat)
  case atStart => exact ⟨0, 0, _, Nat.zero_le _, rfl, rfl, Nat.pow_pos (by decide), hown, by simp, by simp [val], hb1⟩
  case round =>
    obtain ⟨k, c, o, hk, rfl, rfl, hc, hownr, hol, hval, hbr⟩ := hrel
    have hcx := (ha.below hbr).cell
    have sv := hownr.nat.sl
    have lv : slen v = l.length + 1 := by rw [hownr.nat.len, hol]
    have HV := Lib.hid hval
    clear hval
    by_cases hkp : k < l.length
    · have hx := hcx k hkp
      have hx1 : l[k]'hkp < 4294967296 := ha.lm _ (List.getElem_mem _)
      have hfz := hownr.frozen k (by omega)
      have hco := hownr.nat.cell k (by omega)
      have HX := Lib.hid (val_take_succ l k hkp)
      clear hcx
      generalize l[k]'hkp = x at *
      have hor := or_up c x s hs hc hx1
      obtain ⟨b1, b2⟩ := up_bound c x s hs hc hx1
      have HT := fun t => Lib.hid (up_step (o := o) (l := l) (k := k) (c := c) (x := x) (P := 2 ^ s) (t := t) (by omega) HX.out HV.out)
      generalize hte : 2 ^ s * x + c = t at *
      have HTE := Lib.hid hte
      clear hte
      go_wp2
      have hset := hownr.set k (by omega) (t % 4294967296) (by omega)
      go_roundw
      case rel => exact ⟨k + 1, t / 4294967296, _, by omega, by go_num, rfl, b2, hset.1, by simp [hol], (HT t).out rfl, hbr.trans hset.2⟩
      case measure => simp [intOf]; omega
    · obtain rfl : k = l.length := by omega
      have hP : 2 ^ s ≤ 2 ^ 31 := Nat.pow_le_pow_right (by decide) (by omega)
      have hc1 : c < 4294967296 := by omega
      have hfz := hownr.frozen l.length (by omega)
      have hco := hownr.nat.cell l.length (by omega)
      have hset := hownr.set l.length (by omega) c hc1
      have hv2 : val (o.set l.length c) = 2 ^ s * val l := by
        have e := val_set_take o l.length c (by omega)
        rw [List.take_of_length_le (by simp; omega), HV.out, List.take_length] at e
        exact e
      have HV2 := Lib.hid hv2
      clear hv2 hcx hP HV
      go_wp2
      go_ret
      exact ⟨v, _, rfl, hset.1, by simp [hol], HV2.out, hbr.trans hset.2⟩
end Go.Proofs.YtlpdkbmmbdfoiaaGreat
namespace Go.Proofs.YtlpdkbmmbdfoiaaGreat
set_option linter.unusedVariables false
set_option linter.unusedSimpArgs false
open Go.RowKit

theorem grownBy_refl (w : World) (row : Option Nat) : w.grownBy w row := ⟨rfl, rfl, rfl, Nat.le_refl _, fun _ _ _ => rfl⟩
theorem grownBy_trans {w w1 w2 : World} {row : Option Nat} (h : w.grownBy w1 row) (k : w1.grownBy w2 row) : w.grownBy w2 row :=
  ⟨k.os.trans h.os, k.tape.trans h.tape, k.output.trans h.output, Nat.le_trans h.size k.size, fun i hi hr => (k.block i (Nat.lt_of_lt_of_le hi h.size) hr).trans (h.block i hi hr)⟩
theorem grownBy_below {w w' : World} {row : Option Nat} (h : Below w.heap.size w w') : w.grownBy w' row := ⟨h.os, h.tape, h.output, h.size, fun k hk _ => h.block k hk⟩
theorem grownBy_setCell (w : World) (p : Addr) (u : Value) : w.grownBy (w.setCell p u) (some p.block) :=
  ⟨rfl, rfl, rfl, by simp [World.setCell], fun k _ hk => Below.heap_setCell _ _ _ _ (fun e => hk (by rw [e]))⟩
theorem grownBy_Below {w w' : World} {b B : Nat} (h : w.grownBy w' (some b)) (hB : B ≤ b) (hs : B ≤ w.heap.size) : Below B w w' :=
  ⟨h.os, h.tape, h.output, h.size, fun k hk => h.block k (by omega) (fun e => by injection e; omega)⟩
theorem NatV.grown {w w' : World} {v : Value} {l : List Nat} {b : Nat} (h : NatV w v l) (hg : w.grownBy w' (some b)) (hb : (base v).block ≠ b) : NatV w' v l :=
  ⟨h.sl, h.len, fun j hj => by
    have hc := h.cell j hj
    have hlt := World.block_lt_of_cell? w _ hc
    rw [World.cell?_of_block (hg.block _ hlt (fun e => hb (by injection e with e; rw [← e, ptr_block]))), hc], h.lm⟩

theorem and_mask (t : Nat) (ht : t < 18446744073709551616) : bits .and .u64 (t : Int) 4294967295 = ((t % 4294967296 : Nat) : Int) := by
  have h := u64_and_nat t 4294967295 ht (by decide)
  have e : t &&& 4294967295 = t % 4294967296 := by
    have := Nat.and_two_pow_sub_one_eq_mod t 32
    simpa using this
  rw [e] at h
  exact h

theorem sub_wrap2 (x y c : Nat) (hx : x < 4294967296) (hy : y < 4294967296) (hc : c ≤ 1) : ∃ z b : Nat, z < 4294967296 ∧ b ≤ 1 ∧
    IntKind.u64.wrap (IntKind.u64.wrap ((x : Int) - y) - c) % 4294967296 = z ∧ IntKind.u64.wrap (IntKind.u64.wrap ((x : Int) - y) - c) / 9223372036854775808 = b ∧ z + y + c = x + 4294967296 * b := by
  rw [wrap_u64, wrap_u64]
  by_cases h : c + y ≤ x
  · exact ⟨x - c - y, 0, by omega, by omega, by omega, by omega, by omega⟩
  · exact ⟨x + 4294967296 - c - y, 1, by omega, by omega, by omega, by omega, by omega⟩
/-- c + f x in two limbs. -/
theorem split_sum (c f x : Nat) (hc : c < 4294967296) (hf : f < 4294967296) (hx : x < 4294967296) : ∃ t c' lo : Nat, (c : Int) + (f : Int) * x = t ∧ bits .and .u64 (t : Int) 4294967295 = lo ∧ (t : Int) / 4294967296 = c' ∧
    c' < 4294967296 ∧ lo < 4294967296 ∧ 4294967296 * c' + lo = c + f * x ∧ t ≤ 18446744073709551615 := by
  have hb := (mul_bound hf hx (show 0 < 4294967296 by omega) hc).1
  have e := mul_cast c f x 0
  have ha := and_mask (f * x + 0 + c) hb
  refine ⟨f * x + 0 + c, (f * x + 0 + c) / 4294967296, (f * x + 0 + c) % 4294967296, by rw [← e]; simp, ha, by omega, by omega, by omega, by omega, by omega⟩

set_option maxHeartbeats 1600000 in
theorem subtract_any (U V uv : Value) (A p C l : List Nat) (n f B : Nat) (w : World) (hU : IsSl U) (hUl : slen U = n + 1) (hUp : ∀ k, ptr U k = ptr uv (A.length + k))
    (hu : OwnN w 142 B uv (A ++ p ++ C)) (hp : p.length = n + 1) (hv : NatV w V l) (hl : l.length = n) (hn : n ≤ 65536) (hf : f < 4294967296) (hne : (base V).block ≠ (base uv).block) :
    Calls Tryz.prog 225 #[U, V, .int .u64 f] w fun e w' => ∃ (b : Bool) (p' : List Nat), e = .returned (.bool b) ∧ OwnN w' 142 B uv (A ++ p' ++ C) ∧ p'.length = n + 1 ∧
      val p' + f * val l = val p + (if b then 1 else 0) * pw (n + 1) ∧ w.grownBy w' (some (base uv).block) := by
  have hnb : n ≤ 4294967296 := by omega
  have HN := Lib.hid hn
  clear hn
  have sV := hv.sl
  have lV : slen V = n := by rw [hv.len, hl]
  have HUP := Lib.hid hUp
  clear hUp
  go_enter Tryz.func225, Tryz.ntmps225
  go_wp2_with fail
  go_loopw [7, 8, 15] (fun u7 u8 u15 wr => ∃ (k c bo : Nat) (q : List Nat), k ≤ n ∧ u15 = .int .i64 k ∧ u7 = .int .u64 c ∧ u8 = .int .u64 bo ∧ c < 4294967296 ∧ bo ≤ 1 ∧ OwnN wr 142 B uv (A ++ q ++ C) ∧ q.length = n + 1 ∧
      val (q.take k) + f * val (l.take k) = val (p.take k) + pw k * (c + bo) ∧ q.drop k = p.drop k ∧ w.grownBy wr (some (base uv).block)) (fun _ _ u15 _ => n - (intOf u15).toNat)
  case atStart => exact ⟨0, 0, 0, p, Nat.zero_le _, rfl, rfl, rfl, by omega, by omega, hu, hp, by simp [val], rfl, grownBy_refl _ _⟩
  case round =>
    obtain ⟨k, c, bo, q, hk, rfl, rfl, rfl, hc, hbo, hown, hql, hval, hdr, hgr⟩ := hrel
    have hV := hv.grown hgr hne
    have HV := Lib.hid hval
    have HD := Lib.hid hdr
    clear hval hdr
    have hpq : ∀ (h : k < n + 1), q[k]'(by omega) = p[k]'(by omega) := fun h => by
      have := congrArg (fun l => l[0]?) HD.out
      simp only [List.getElem?_drop, Nat.add_zero] at this
      rw [List.getElem?_eq_getElem (by omega), List.getElem?_eq_getElem (by omega)] at this
      simpa using this
    by_cases hkn : k < n
    · have hx := hV.cell k (by omega)
      have hx1 : l[k]'(by omega) < 4294967296 := hv.lm _ (List.getElem_mem _)
      have hlen : A.length + k < (A ++ q ++ C).length := by simp; omega
      have hco := hown.nat.cell (A.length + k) hlen
      rw [← HUP.out k, (List.getElem_eq_iff hlen).2 (seg_get A q C k (by omega))] at hco
      have hfz := hown.frozen (A.length + k) hlen
      rw [← HUP.out k] at hfz
      have hu1 : q[k]'(by omega) < 4294967296 := by
        have := hown.lm _ (List.getElem_mem (h := hlen))
        rwa [(List.getElem_eq_iff hlen).2 (seg_get A q C k (by omega))] at this
      have hp1 := val_take_succ p k (by omega)
      rw [← hpq (by omega)] at hp1
      have hl1 := val_take_succ l k (by omega)
      clear hpq
      generalize l[k]'(by omega) = x at *
      generalize q[k]'(by omega) = u at *
      have HP := Lib.hid hp1
      have HL := Lib.hid hl1
      clear hp1 hl1
      obtain ⟨hb0, hb1⟩ := mul_boundI hf hx1
      obtain ⟨t, c', lo, et, hand, hdiv, hc', hlo, hts, htm⟩ := split_sum c f x hc hf hx1
      obtain ⟨z, b', hz, hb', ez, eb, hzz⟩ := sub_wrap2 u lo bo hu1 hlo hbo
      have HTS := Lib.hid hts
      have EZ := Lib.hid ez
      have EB := Lib.hid eb
      have HZZ := Lib.hid hzz
      clear hts ez eb hzz
      go_wp2
      have hset := hown.set (A.length + k) hlen z hz
      rw [seg_set A q C k z (by omega), ← HUP.out k] at hset
      have hgs := grownBy_setCell wr (ptr U k) (.int .u32 z)
      rw [show (ptr U k).block = (base uv).block from by rw [HUP.out k, ptr_block]] at hgs
      go_roundw
      case rel =>
        rw [EZ.out, EB.out]
        refine ⟨k + 1, c', b', q.set k z, by omega, by go_num, rfl, rfl, hc', hb', hset.1, by simp [hql], subtract_step (by omega) HP.out HL.out HTS.out HZZ.out HV.out, ?_, grownBy_trans hgr hgs⟩
        have := congrArg (List.drop 1) HD.out
        rw [List.drop_drop, List.drop_drop] at this
        rw [List.drop_set_of_lt (by omega)]
        exact this
      case measure => simp [intOf]; omega
    · obtain rfl : k = n := by omega
      have hlen : A.length + k < (A ++ q ++ C).length := by simp; omega
      have hco := hown.nat.cell (A.length + k) hlen
      rw [← HUP.out k, (List.getElem_eq_iff hlen).2 (seg_get A q C k (by omega))] at hco
      have hfz := hown.frozen (A.length + k) hlen
      rw [← HUP.out k] at hfz
      have hu1 : q[k]'(by omega) < 4294967296 := by
        have := hown.lm _ (List.getElem_mem (h := hlen))
        rwa [(List.getElem_eq_iff hlen).2 (seg_get A q C k (by omega))] at this
      obtain ⟨z, b', hz, hb', ez, eb, hzz⟩ := sub_wrap2 (q[k]'(by omega)) c bo hu1 hc hbo
      have hfin := subtract_end (p := p) (q := q) (l := l) (n := k) (c := c) (bo := bo) (f := f) (z := z) (b := b') hql hp hl (by rw [← hpq (by omega)]; omega) HV.out
      clear hpq
      generalize q[k]'(by omega) = u at *
      have EZ := Lib.hid ez
      have EB := Lib.hid eb
      have HF := Lib.hid hfin
      have hset := hown.set (A.length + k) hlen z hz
      rw [seg_set A q C k z (by omega), ← HUP.out k] at hset
      have hgs := grownBy_setCell wr (ptr U k) (.int .u32 z)
      rw [show (ptr U k).block = (base uv).block from by rw [HUP.out k, ptr_block]] at hgs
      have HS := Lib.hid hset
      have HG := Lib.hid hgs
      clear hzz ez eb hfin hset hgs HV HD hV
      go_wp2
      go_ret
      rw [EZ.out]
      refine ⟨decide (b' = 1), q.set k z, ?_, HS.out.1, by simp [hql], ?_, grownBy_trans hgr HG.out⟩
      · show Ending.returned (Value.bool _) = _
        rw [EB.out]
        congr 2
        rw [Bool.eq_iff_iff]; simp
        omega
      · rw [HF.out]
        have : b' = 0 ∨ b' = 1 := by omega
        rcases this with rfl | rfl <;> simp

set_option maxHeartbeats 1600000 in
theorem restore_any (U V uv : Value) (A p C l : List Nat) (n B : Nat) (w : World) (hU : IsSl U) (hUl : slen U = n + 1) (hUp : ∀ k, ptr U k = ptr uv (A.length + k))
    (hu : OwnN w 142 B uv (A ++ p ++ C)) (hp : p.length = n + 1) (hv : NatV w V l) (hl : l.length = n) (hn : n ≤ 65536) (hne : (base V).block ≠ (base uv).block) :
    Calls Tryz.prog 226 #[U, V] w fun e w' => ∃ (b : Nat) (p' : List Nat), e = .returned (.tuple #[]) ∧ OwnN w' 142 B uv (A ++ p' ++ C) ∧ p'.length = n + 1 ∧
      val p' + b * pw (n + 1) = val p + val l ∧ w.grownBy w' (some (base uv).block) := by
  have hnb : n ≤ 4294967296 := by omega
  have HN := Lib.hid hn
  clear hn
  have sV := hv.sl
  have lV : slen V = n := by rw [hv.len, hl]
  have HUP := Lib.hid hUp
  clear hUp
  go_enter Tryz.func226, Tryz.ntmps226
  go_wp2_with fail
  go_loopw [4, 9] (fun u4 u9 wr => ∃ (k c : Nat) (q : List Nat), k ≤ n ∧ u9 = .int .i64 k ∧ u4 = .int .u64 c ∧ c ≤ 1 ∧ OwnN wr 142 B uv (A ++ q ++ C) ∧ q.length = n + 1 ∧
      val (q.take k) + pw k * c = val (p.take k) + val (l.take k) ∧ q.drop k = p.drop k ∧ w.grownBy wr (some (base uv).block)) (fun _ u9 _ => n - (intOf u9).toNat)
  case atStart => exact ⟨0, 0, p, Nat.zero_le _, rfl, rfl, by omega, hu, hp, by simp [val], rfl, grownBy_refl _ _⟩
  case round =>
    obtain ⟨k, c, q, hk, rfl, rfl, hc, hown, hql, hval, hdr, hgr⟩ := hrel
    have hV := hv.grown hgr hne
    have HV := Lib.hid hval
    have HD := Lib.hid hdr
    clear hval hdr
    have hpq : ∀ (h : k < n + 1), q[k]'(by omega) = p[k]'(by omega) := fun h => by
      have := congrArg (fun l => l[0]?) HD.out
      simp only [List.getElem?_drop, Nat.add_zero] at this
      rw [List.getElem?_eq_getElem (by omega), List.getElem?_eq_getElem (by omega)] at this
      simpa using this
    have hlen : k < n + 1 → A.length + k < (A ++ q ++ C).length := fun h => by simp; omega
    by_cases hkn : k < n
    · have hlen := hlen (by omega)
      have hx := hV.cell k (by omega)
      have hx1 : l[k]'(by omega) < 4294967296 := hv.lm _ (List.getElem_mem _)
      have hco := hown.nat.cell (A.length + k) hlen
      rw [← HUP.out k, (List.getElem_eq_iff hlen).2 (seg_get A q C k (by omega))] at hco
      have hfz := hown.frozen (A.length + k) hlen
      rw [← HUP.out k] at hfz
      have hu1 : q[k]'(by omega) < 4294967296 := by
        have := hown.lm _ (List.getElem_mem (h := hlen))
        rwa [(List.getElem_eq_iff hlen).2 (seg_get A q C k (by omega))] at this
      have hp1 := val_take_succ p k (by omega)
      rw [← hpq (by omega)] at hp1
      have hl1 := val_take_succ l k (by omega)
      clear hpq
      generalize l[k]'(by omega) = x at *
      generalize q[k]'(by omega) = u at *
      have HST := Lib.hid (add_step (o := q) (a := p) (b := l) (k := k) (c := c) (x := u) (y := x) (by omega) hp1 hl1 HV.out)
      clear hp1 hl1
      go_wp2
      have hset := hown.set (A.length + k) hlen ((c + u + x) % 4294967296) (by omega)
      rw [seg_set A q C k _ (by omega), ← HUP.out k, show (((c + u + x) % 4294967296 : Nat) : Int) = ((c : Int) + (u + x)) % 4294967296 from by omega] at hset
      have hgs := grownBy_setCell wr (ptr U k) (.int .u32 (((c : Int) + (u + x)) % 4294967296))
      rw [show (ptr U k).block = (base uv).block from by rw [HUP.out k, ptr_block]] at hgs
      go_roundw
      case rel =>
        refine ⟨k + 1, (c + u + x) / 4294967296, q.set k _, by omega, by go_num, congrArg (Value.int .u64) (by omega), by omega, hset.1, by simp [hql], HST.out, ?_, grownBy_trans hgr hgs⟩
        have := congrArg (List.drop 1) HD.out
        rw [List.drop_drop, List.drop_drop] at this
        rw [List.drop_set_of_lt (by omega)]
        exact this
      case measure => simp [intOf]; omega
    · obtain rfl : k = n := by omega
      have hlen := hlen (by omega)
      have hco := hown.nat.cell (A.length + k) hlen
      rw [← HUP.out k, (List.getElem_eq_iff hlen).2 (seg_get A q C k (by omega))] at hco
      have hfz := hown.frozen (A.length + k) hlen
      rw [← HUP.out k] at hfz
      have hu1 : q[k]'(by omega) < 4294967296 := by
        have := hown.lm _ (List.getElem_mem (h := hlen))
        rwa [(List.getElem_eq_iff hlen).2 (seg_get A q C k (by omega))] at this
      have hfin : val (q.set k ((q[k]'(by omega) + c) % 4294967296)) + (q[k]'(by omega) + c) / 4294967296 * pw (k + 1) = val p + val l := by
        have e1 := val_set_take q k ((q[k]'(by omega) + c) % 4294967296) (by omega)
        rw [List.take_of_length_le (by simp; omega)] at e1
        have e2 := val_take_succ p k (by omega)
        rw [List.take_of_length_le (by omega), ← hpq (by omega)] at e2
        have e3 := HV.out
        rw [List.take_of_length_le (by omega : l.length ≤ k)] at e3
        rw [e1, e2, pw_succ]
        generalize q[k]'(by omega) = u at *
        have h : (u + c) % 4294967296 + 4294967296 * ((u + c) / 4294967296) = u + c := by omega
        generalize (u + c) % 4294967296 = zz at *
        generalize (u + c) / 4294967296 = dd at *
        grind
      clear hpq
      generalize q[k]'(by omega) = u at *
      have HF := Lib.hid hfin
      have hset := hown.set (A.length + k) hlen ((u + c) % 4294967296) (by omega)
      rw [seg_set A q C k _ (by omega), ← HUP.out k, show (((u + c) % 4294967296 : Nat) : Int) = ((u : Int) + c) % 4294967296 from by omega] at hset
      have hgs := grownBy_setCell wr (ptr U k) (.int .u32 (((u : Int) + c) % 4294967296))
      rw [show (ptr U k).block = (base uv).block from by rw [HUP.out k, ptr_block]] at hgs
      have HS := Lib.hid hset
      have HG := Lib.hid hgs
      clear hfin hset hgs HV HD hV
      go_wp2
      go_end0
      exact ⟨_, _, rfl, HS.out.1, by simp [hql], HF.out, grownBy_trans hgr HG.out⟩
end Go.Proofs.YtlpdkbmmbdfoiaaGreat
namespace Go.Proofs.YtlpdkbmmbdfoiaaGreat
set_option linter.unusedVariables false

/-- The leading limbs decide the digit: never too small, at most one too great. -/
theorem digit_upper {U V U' V' P ul vl g : Nat} (hV : V = V' * P + vl) (hU : U = U' * P + ul) (hul : ul < P) (hV0 : 0 < V) (h : U' < g * V') : U / V < g := by
  rcases Nat.lt_or_ge (U / V) g with h1 | h1
  · exact h1
  · exfalso
    have h2 : g * V ≤ U := Nat.le_trans (Nat.mul_le_mul_right V h1) (Nat.div_mul_le_self U V)
    have h3 : (U' + 1) * P ≤ g * V' * P := Nat.mul_le_mul_right P h
    have h4 : g * V = g * V' * P + g * vl := by rw [hV, Nat.mul_add, Nat.mul_assoc]
    rw [Nat.add_mul, Nat.one_mul] at h3
    omega
theorem digit_lower {U V U' V' P ul vl g : Nat} (hV : V = V' * P + vl) (hvl : vl < P) (hU : U = U' * P + ul) (hV0 : 0 < V) (h : g * V' ≤ U') (hg : g ≤ V' + 1) : g ≤ U / V + 1 := by
  cases g with
  | zero => exact Nat.zero_le _
  | succ g =>
    have h1 : g * V ≤ U := by
      have a1 : g * V = g * V' * P + g * vl := by rw [hV, Nat.mul_add, Nat.mul_assoc]
      have a2 : g * vl ≤ g * P := Nat.mul_le_mul_left g (by omega)
      have a3 : g * P ≤ V' * P := Nat.mul_le_mul_right P (by omega)
      have a4 : (g * V' + V') * P ≤ U' * P := Nat.mul_le_mul_right P (by rw [Nat.succ_mul] at h; exact h)
      rw [Nat.add_mul] at a4
      omega
    have := (Nat.le_div_iff_mul_le hV0).2 h1
    omega
theorem guess_test {top next r head u2 g : Nat} (h : g * top + r = head) : (r * 4294967296 + u2 < g * next) ↔ (head * 4294967296 + u2 < g * (top * 4294967296 + next)) := by
  subst h
  have : g * (top * 4294967296 + next) = g * top * 4294967296 + g * next := by rw [Nat.mul_add, Nat.mul_assoc]
  rw [this, Nat.add_mul]
  omega
theorem val_two (l : List Nat) (n : Nat) (h : n + 2 = l.length) : val l = (l[n + 1]'(by omega) * 4294967296 + l[n]'(by omega)) * pw n + val (l.take n) := by
  have h1 := val_take_succ l (n + 1) (by omega)
  have h2 := val_take_succ l n (by omega)
  rw [List.take_of_length_le (by omega)] at h1
  rw [h1, h2, pw_succ]
  generalize l[n + 1]'(by omega) = b
  generalize l[n]'(by omega) = c
  generalize pw n = P
  generalize val (l.take n) = V
  grind
theorem val_three (l : List Nat) (n : Nat) (h : n + 3 = l.length) : val l = ((l[n + 2]'(by omega) * 4294967296 + l[n + 1]'(by omega)) * 4294967296 + l[n]'(by omega)) * pw n + val (l.take n) := by
  have h1 := val_take_succ l (n + 2) (by omega)
  have h2 := val_take_succ l (n + 1) (by omega)
  have h3 := val_take_succ l n (by omega)
  rw [List.take_of_length_le (by omega)] at h1
  have e1 : pw (n + 1) = 4294967296 * pw n := pw_succ n
  have e2 : pw (n + 2) = 4294967296 * (4294967296 * pw n) := by rw [pw_succ (n + 1), pw_succ n]
  rw [h1, h2, h3, e1, e2]
  generalize l[n + 2]'(by omega) = a
  generalize l[n + 1]'(by omega) = b
  generalize l[n]'(by omega) = c
  generalize pw n = P
  generalize val (l.take n) = V
  grind
theorem val_take_lt {l : List Nat} (h : Lm l) (n : Nat) (hn : n ≤ l.length) : val (l.take n) < pw n := by
  have := val_lt (l := l.take n) (fun x hx => h x (List.mem_of_mem_take hx))
  rwa [List.length_take, Nat.min_eq_left hn] at this

/-- What is known of a round of the division: the part p of the dividend (n + 3 limbs), the divisor l (n + 2 limbs, its top at least 2^31). -/
structure Round (p l : List Nat) (n : Nat) : Prop where
  hp : n + 3 = p.length
  hl : n + 2 = l.length
  lp : Lm p
  ll : Lm l
  top : 2147483648 ≤ l[n + 1]'(by omega)
  lt : val p < val l * 4294967296
section
variable {p l : List Nat} {n : Nat} (R : Round p l n)
include R
theorem Round.vpos : 0 < val l := by
  have h := val_two l n R.hl
  have := R.top
  have h1 : 1 * pw n ≤ (l[n + 1]'(by have := R.hl; omega) * 4294967296 + l[n]'(by have := R.hl; omega)) * pw n := Nat.mul_le_mul_right _ (by omega)
  have := pw_pos n
  omega
theorem Round.first_le : p[n + 2]'(by have := R.hp; omega) ≤ l[n + 1]'(by have := R.hl; omega) := by
  have h1 := val_three p n R.hp
  have h2 := val_two l n R.hl
  have h3 := val_take_lt R.ll n (by have := R.hl; omega)
  have h4 := R.lt
  have e1 := R.ll _ (List.getElem_mem (h := show n < l.length by have := R.hl; omega))
  generalize p[n + 2]'(by have := R.hp; omega) = a at *
  generalize p[n + 1]'(by have := R.hp; omega) = b at *
  generalize p[n]'(by have := R.hp; omega) = c at *
  generalize l[n + 1]'(by have := R.hl; omega) = t at *
  generalize l[n]'(by have := R.hl; omega) = s at *
  have hP := pw_pos n
  generalize pw n = P at *
  rcases Nat.lt_or_ge t a with h | h
  · exfalso
    -- val l < (t + 1) * B * P, val p ≥ a B B P
    have i1 : (t * 4294967296 + s + 1) * P ≤ ((t + 1) * 4294967296) * P := Nat.mul_le_mul_right _ (by omega)
    have i2 : ((t + 1) * 4294967296 * 4294967296) * P ≤ ((a * 4294967296 + b) * 4294967296 + c) * P := Nat.mul_le_mul_right _ (by omega)
    rw [Nat.add_mul (t * 4294967296 + s), Nat.one_mul] at i1
    have i3 : ((t + 1) * 4294967296 * 4294967296) * P = ((t + 1) * 4294967296) * P * 4294967296 := by rw [Nat.mul_right_comm]
    omega
  · exact h
theorem Round.start : let head := p[n + 2]'(by have := R.hp; omega) * 4294967296 + p[n + 1]'(by have := R.hp; omega)
    val p / val l ≤ head / l[n + 1]'(by have := R.hl; omega) ∧ head / l[n + 1]'(by have := R.hl; omega) ≤ 4294967297 := by
  have h1 := val_three p n R.hp
  have h2 := val_two l n R.hl
  have h3 := val_take_lt R.lp n (by have := R.hp; omega)
  have hv := R.vpos
  have hf := R.first_le
  have ht := R.top
  have e1 := R.lp _ (List.getElem_mem (h := show n < p.length by have := R.hp; omega))
  have e2 := R.lp _ (List.getElem_mem (h := show n + 1 < p.length by have := R.hp; omega))
  intro head
  have hh : head = p[n + 2]'(by have := R.hp; omega) * 4294967296 + p[n + 1]'(by have := R.hp; omega) := rfl
  rw [← hh] at h1
  generalize p[n + 2]'(by have := R.hp; omega) = a at *
  generalize p[n + 1]'(by have := R.hp; omega) = b at *
  generalize p[n]'(by have := R.hp; omega) = c at *
  generalize l[n + 1]'(by have := R.hl; omega) = t at *
  generalize l[n]'(by have := R.hl; omega) = s at *
  have hd := Nat.div_add_mod head t
  have hm := Nat.mod_lt head (show 0 < t by omega)
  constructor
  · have : val p / val l < head / t + 1 := by
      refine digit_upper h2 h1 h3 hv ?_
      generalize head / t = g at *
      have e : (g + 1) * (t * 4294967296 + s) = t * g * 4294967296 + t * 4294967296 + (g + 1) * s := by grind
      rw [e]
      omega
    omega
  · have : head / t < 4294967298 := by
      rw [Nat.div_lt_iff_lt_mul (by omega)]
      omega
    omega
theorem Round.lt_B : val p / val l < 4294967296 := by
  rw [Nat.div_lt_iff_lt_mul R.vpos, Nat.mul_comm]; exact R.lt
/-- The guess is lowered. -/
theorem Round.lower {g r : Nat} (hg : val p / val l ≤ g) (hr : g * l[n + 1]'(by have := R.hl; omega) + r = p[n + 2]'(by have := R.hp; omega) * 4294967296 + p[n + 1]'(by have := R.hp; omega))
    (h : 4294967296 ≤ g ∨ r * 4294967296 + p[n]'(by have := R.hp; omega) < g * l[n]'(by have := R.hl; omega)) : val p / val l ≤ g - 1 ∧ 1 ≤ g ∧ (g - 1) * l[n + 1]'(by have := R.hl; omega) + (r + l[n + 1]'(by have := R.hl; omega)) = p[n + 2]'(by have := R.hp; omega) * 4294967296 + p[n + 1]'(by have := R.hp; omega) := by
  have hB := R.lt_B
  have h1 := val_three p n R.hp
  have h2 := val_two l n R.hl
  have h3 := val_take_lt R.lp n (by have := R.hp; omega)
  have hv := R.vpos
  have hlt : val p / val l < g := by
    rcases h with h | h
    · omega
    · exact digit_upper h2 h1 h3 hv ((guess_test hr).1 h)
  have hg1 : 1 ≤ g := Nat.succ_le_of_lt (Nat.lt_of_le_of_lt (Nat.zero_le _) hlt)
  refine ⟨Nat.le_sub_one_of_lt hlt, hg1, ?_⟩
  rw [← hr]
  obtain ⟨g, rfl⟩ : ∃ k, g = k + 1 := ⟨g - 1, by omega⟩
  rw [Nat.add_sub_cancel, Nat.add_mul, Nat.one_mul]
  omega
/-- The guess passes the test. -/
theorem Round.pass {g r : Nat} (hr : g * l[n + 1]'(by have := R.hl; omega) + r = p[n + 2]'(by have := R.hp; omega) * 4294967296 + p[n + 1]'(by have := R.hp; omega))
    (hg : g < 4294967296) (h : ¬ r * 4294967296 + p[n]'(by have := R.hp; omega) < g * l[n]'(by have := R.hl; omega)) : g ≤ val p / val l + 1 := by
  have h1 := val_three p n R.hp
  have h2 := val_two l n R.hl
  have h3 := val_take_lt R.ll n (by have := R.hl; omega)
  have ht := R.top
  have h4 := fun x => h ((guess_test hr).2 x)
  exact digit_lower h2 h3 h1 R.vpos (Nat.le_of_not_lt h4) (by omega)
/-- The rest has grown past a limb. -/
theorem Round.break {g r : Nat} (hr : g * l[n + 1]'(by have := R.hl; omega) + r = p[n + 2]'(by have := R.hp; omega) * 4294967296 + p[n + 1]'(by have := R.hp; omega))
    (h : 4294967296 ≤ r) : g < 4294967296 ∧ g ≤ val p / val l + 1 := by
  have hf := R.first_le
  have e2 := R.lp _ (List.getElem_mem (h := show n + 1 < p.length by have := R.hp; omega))
  have e3 := R.ll _ (List.getElem_mem (h := show n < l.length by have := R.hl; omega))
  have ht := R.top
  have hg : g < 4294967296 := by
    rcases Nat.lt_or_ge g 4294967296 with h' | h'
    · exact h'
    · exfalso
      have := Nat.mul_le_mul_right (l[n + 1]'(by have := R.hl; omega)) h'
      have := Nat.mul_le_mul_right 4294967296 hf
      omega
  refine ⟨hg, R.pass hr hg ?_⟩
  have : g * l[n]'(by have := R.hl; omega) ≤ 4294967295 * 4294967295 := Nat.mul_le_mul (by omega) (by omega)
  omega
/-- Behind the subtraction. -/
theorem Round.sub0 {g : Nat} {p1 : List Nat} (hq : val p / val l ≤ g) (hg : g ≤ val p / val l + 1) (h1 : val p1 + g * val l = val p) : g = val p / val l ∧ val p1 = val p % val l := by
  have hd := Nat.div_add_mod (val p) (val l)
  have hm := Nat.mod_lt (val p) R.vpos
  have hgq : g = val p / val l := by
    have : g * val l ≤ val p := by omega
    have := (Nat.le_div_iff_mul_le R.vpos).2 this
    omega
  refine ⟨hgq, ?_⟩
  rw [hgq] at h1
  rw [Nat.mul_comm] at hd
  omega
theorem Round.sub1 {g b : Nat} {p1 p2 : List Nat} (hq : val p / val l ≤ g) (hg : g ≤ val p / val l + 1) (l1 : Lm p1) (n1 : p1.length = n + 3) (l2 : Lm p2) (n2 : p2.length = n + 3)
    (h1 : val p1 + g * val l = val p + pw (n + 3)) (h2 : val p2 + b * pw (n + 3) = val p1 + val l) : g - 1 = val p / val l ∧ 1 ≤ g ∧ val p2 = val p % val l := by
  have hd := Nat.div_add_mod (val p) (val l)
  have hm := Nat.mod_lt (val p) R.vpos
  have b1 := val_lt l1
  have b2 := val_lt l2
  rw [n1] at b1
  rw [n2] at b2
  have hlt : val p < g * val l := by omega
  have hgq : val p / val l < g := by
    rw [Nat.div_lt_iff_lt_mul R.vpos]; exact hlt
  have hg1 : g = val p / val l + 1 := by omega
  refine ⟨by rw [hg1, Nat.add_sub_cancel], by rw [hg1]; exact Nat.succ_pos _, ?_⟩
  rw [hg1, Nat.add_mul, Nat.one_mul] at h1
  rw [Nat.mul_comm] at hd
  have hl : val l < pw (n + 3) := by
    have := val_lt R.ll
    rw [← R.hl] at this
    have := pw_le (show n + 2 ≤ n + 3 by omega)
    omega
  have : b = 1 := by
    rcases Nat.lt_or_ge b 1 with hb | hb
    · obtain rfl : b = 0 := by omega
      omega
    · rcases Nat.lt_or_ge b 2 with hb2 | hb2
      · omega
      · have := Nat.mul_le_mul_right (pw (n + 3)) hb2
        omega
  subst this
  omega
end
end Go.Proofs.YtlpdkbmmbdfoiaaGreat
