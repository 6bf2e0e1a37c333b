/-
  package chain: rated, slow.
  Ahead of it: The values of a row of a chain. No program is named here. package chain: out; packages drydockref21 and drydockref02: Out, Less. Numbers that differ, by their shape: a test on them is decided by the simplifier alone. package chain: leaving; package drydockref21: Leaving.
-/
import Derived.Test.YtlpdkbmmbdfoiaaGreatCCh3
import Derived.Test.YtlpdkbmmbdfoiaaGreatCRa2
import Derived.Test.YtlpdkbmmbdfoiaaGreatCRw4
import Derived.Test.YtlpdkbmmbdfoiaaGreatCRb6
import Derived.Test.YtlpdkbmmbdfoiaaGreatCStep
import Derived.Deep.RegionHeld3
namespace Go.Proofs.YtlpdkbmmbdfoiaaGreat
set_option linter.unusedVariables false
set_option linter.unusedSimpArgs false
open Go.RowKit

/-- The values of row i. -/
def rowsQ (c : RC) (i : Nat) : List Rat := qs (c.rates.getD i [])
theorem validP.row {c : RC} (h : validP c) {i : Nat} (hi : i < c.lost.length) : ∃ h2 : i < c.rates.length, (c.rates[i]).length = c.lost.length ∧ rowP c.rates[i] (c.rates[i]).length ∧ rowsQ c i = qs c.rates[i] := by
  obtain ⟨h1, h2, h3, h4, h5, h6, h7⟩ := h
  have hi2 : i < c.rates.length := by omega
  obtain ⟨r1, _⟩ := h6 i _ (List.getElem?_eq_getElem hi2)
  have hl : (c.rates[i]).length = c.start.length := r1.2.1
  refine ⟨hi2, by rw [hl, h3], by rw [hl]; exact r1, ?_⟩
  unfold rowsQ
  simp only [List.getD, List.getElem?_eq_getElem hi2, Option.getD_some]
end Go.Proofs.YtlpdkbmmbdfoiaaGreat
namespace Go.Proofs.YtlpdkbmmbdfoiaaGreat
set_option linter.unusedVariables false
set_option linter.unusedSimpArgs false
open Go.RowKit

set_option maxRecDepth 100000 in
set_option maxHeartbeats 3200000 in
theorem out_any (va : Value) (c : RC) (i : Nat) (w : World) (ha : ChainN w va c) (hi : i < c.rates.length) (hrow : rowP c.rates[i] (c.rates[i]).length) :
    Calls Tryz.prog 162 #[va, .int .i64 i] w (RF1 w (lsum (qs c.rates[i]))) := by
  obtain ⟨rv, sv, lv, rfl, hr, hs, hl⟩ := id ha
  obtain ⟨ra, rn, rk, rfl, _⟩ := id hr.sl
  obtain ⟨sa, sn, sk, rfl, _⟩ := id hs.sl
  obtain ⟨la, ln, lk, rfl, _⟩ := id (CellsV.sl hl)
  have hrn : rn = c.rates.length := hr.len
  subst hrn
  have sr := hr.sl
  obtain ⟨rw', hrw, hrf⟩ := hr.at' i hi
  obtain ⟨ea, en, ek, rfl, _⟩ := id hrf.sl
  have HOK : Hid (∀ x ∈ c.rates[i], x.ok) := Lib.hid hrow.ok
  have HFT : Hid (∀ k, k ≤ (c.rates[i]).length → fits (lsum (qs ((c.rates[i]).take k)))) := Lib.hid fun k _ => hrow.fits k
  generalize c.rates[i]'hi = row at *
  have hbx := below_alloc w (.cells #[.slice ra c.rates.length rk, .slice sa sn sk, .slice la ln lk] 28)
  have hb2 := below_alloc (w.alloc (.cells #[.slice ra c.rates.length rk, .slice sa sn sk, .slice la ln lk] 28)) (.cells #[.bool false, .slice none 0 0, .slice none 0 0] 38)
  have hC := (C3.new w 28 (.slice ra c.rates.length rk) (.slice sa sn sk) (.slice la ln lk)).belowS hb2
  have hR := C3.newB (b := w.heap.size + 1) (w.alloc (.cells #[.slice ra c.rates.length rk, .slice sa sn sk, .slice la ln lk] 28)) 38 (.bool false) (.slice none 0 0) (.slice none 0 0) (by simp)
  have hbw := below_then hbx hb2
  have hrw2 := cell_below hbw hrw
  have HF := Lib.hid (hrf.below hbw)
  have HR := Lib.hid hR
  have HBW := Lib.hid hbw
  have i1 : (0 : Int) ≤ (i : Int) := by omega
  have i2 : (i : Int) < (c.rates.length : Nat) := by omega
  clear hR hr hs hl hrf hrw ha hrow hbx hb2 hbw
  go_enter Tryz.func162, Tryz.ntmps162
  go_upto_region 1 with fail
  generalize (w.alloc (.cells #[.slice ra c.rates.length rk, .slice sa sn sk, .slice la ln lk] 28)).alloc (.cells #[.bool false, .slice none 0 0, .slice none 0 0] 38) = W2 at *
  obtain ⟨_, c0, c1, c2, _, _, _⟩ := hC
  go_wp2_with (go_at_call 137; (with_reducible refine (sum_frac _ row _ HF.out HOK.out HFT.out).mono ?_); rintro e3 w3 ⟨v3, rfl, hv3, hb3⟩
               obtain ⟨t3, x3, y3, rfl, ⟨a31, l31, k31, rfl, _⟩, ⟨a32, l32, k32, rfl, _⟩⟩ := hv3.isF
               have hba := below_alloc w3 (.cells #[.bool t3, .slice a31 l31 k31, .slice a32 l32 k32] 38)
               have HV3 := Lib.hid (hv3.below hba)
               have HB3 := Lib.hid (below_then HBW.out (below_then hb3 hba))
               have HR3 := Lib.hid (HR.out.belowS (below_then hb3 hba))
               obtain ⟨_, d0, d1, d2, f0, f1, f2⟩ := HR3.out
               obtain ⟨_, g0, g1, g2, _, _, _⟩ := C3.new w3 38 (.bool t3) (.slice a31 l31 k31) (.slice a32 l32 k32)
               clear hv3 hba hb3)
  refine bodyPost_c1 rfl rfl Tryz.aggF Tryz.sizeF (HR3.out.set _ _ _) rfl ?_
  exact ⟨_, rfl, HV3.out.set3 HR3.out (fun z => by simp) (fun z => by simp) _ _ _, below_set3 HB3.out (by omega) _ _ _⟩
set_option maxRecDepth 100000 in
set_option maxHeartbeats 3200000 in
theorem r21out_any (va : Value) (c : RC) (i : Nat) (w : World) (ha : ChainN w va c) (hi : i < c.rates.length) (hrow : rowP c.rates[i] (c.rates[i]).length) :
    Calls Tryz.prog 70 #[va, .int .i64 i] w (RF1 w (lsum (qs c.rates[i]))) := by
  obtain ⟨rv, sv, lv, rfl, hr, hs, hl⟩ := id ha
  obtain ⟨ra, rn, rk, rfl, _⟩ := id hr.sl
  obtain ⟨sa, sn, sk, rfl, _⟩ := id hs.sl
  obtain ⟨la, ln, lk, rfl, _⟩ := id (CellsV.sl hl)
  have hrn : rn = c.rates.length := hr.len
  subst hrn
  have sr := hr.sl
  obtain ⟨rw', hrw, hrf⟩ := hr.at' i hi
  obtain ⟨ea, en, ek, rfl, _⟩ := id hrf.sl
  have HOK : Hid (∀ x ∈ c.rates[i], x.ok) := Lib.hid hrow.ok
  have HFT : Hid (∀ k, k ≤ (c.rates[i]).length → fits (lsum (qs ((c.rates[i]).take k)))) := Lib.hid fun k _ => hrow.fits k
  generalize c.rates[i]'hi = row at *
  have hbx := below_alloc w (.cells #[.slice ra c.rates.length rk, .slice sa sn sk, .slice la ln lk] 28)
  have hb2 := below_alloc (w.alloc (.cells #[.slice ra c.rates.length rk, .slice sa sn sk, .slice la ln lk] 28)) (.cells #[.bool false, .slice none 0 0, .slice none 0 0] 38)
  have hC := (C3.new w 28 (.slice ra c.rates.length rk) (.slice sa sn sk) (.slice la ln lk)).belowS hb2
  have hR := C3.newB (b := w.heap.size + 1) (w.alloc (.cells #[.slice ra c.rates.length rk, .slice sa sn sk, .slice la ln lk] 28)) 38 (.bool false) (.slice none 0 0) (.slice none 0 0) (by simp)
  have hbw := below_then hbx hb2
  have hrw2 := cell_below hbw hrw
  have HF := Lib.hid (hrf.below hbw)
  have HR := Lib.hid hR
  have HBW := Lib.hid hbw
  have i1 : (0 : Int) ≤ (i : Int) := by omega
  have i2 : (i : Int) < (c.rates.length : Nat) := by omega
  clear hR hr hs hl hrf hrw ha hrow hbx hb2 hbw
  go_enter Tryz.func70, Tryz.ntmps70
  go_upto_region 1 with fail
  generalize (w.alloc (.cells #[.slice ra c.rates.length rk, .slice sa sn sk, .slice la ln lk] 28)).alloc (.cells #[.bool false, .slice none 0 0, .slice none 0 0] 38) = W2 at *
  obtain ⟨_, c0, c1, c2, _, _, _⟩ := hC
  go_wp2_with (go_at_call 148; (with_reducible refine (r2sum_fit _ row _ HF.out HOK.out HFT.out).mono ?_); rintro e3 w3 ⟨v3, rfl, hv3, hb3⟩
               obtain ⟨t3, x3, y3, rfl, ⟨a31, l31, k31, rfl, _⟩, ⟨a32, l32, k32, rfl, _⟩⟩ := hv3.isF
               have hba := below_alloc w3 (.cells #[.bool t3, .slice a31 l31 k31, .slice a32 l32 k32] 38)
               have HV3 := Lib.hid (hv3.below hba)
               have HB3 := Lib.hid (below_then HBW.out (below_then hb3 hba))
               have HR3 := Lib.hid (HR.out.belowS (below_then hb3 hba))
               obtain ⟨_, d0, d1, d2, f0, f1, f2⟩ := HR3.out
               obtain ⟨_, g0, g1, g2, _, _, _⟩ := C3.new w3 38 (.bool t3) (.slice a31 l31 k31) (.slice a32 l32 k32)
               clear hv3 hba hb3)
  refine bodyPost_c1 rfl rfl Tryz.aggF Tryz.sizeF (HR3.out.set _ _ _) rfl ?_
  exact ⟨_, rfl, HV3.out.set3 HR3.out (fun z => by simp) (fun z => by simp) _ _ _, below_set3 HB3.out (by omega) _ _ _⟩
theorem r2order_can (va vb : Value) (p q : Rat) (w : World) (ha : FracC w va p) (hb : FracC w vb q) (hp : fits p) (hq : fits q) :
    Calls Tryz.prog 100 #[va, vb] w fun en w' => en = .returned (.int .i64 (cmpR p q)) ∧ Below w.heap.size w w' := by
  have h := r2order_any va vb _ _ _ _ _ _ w ha.raw hb.raw (fits_okN hp) (fits_okN hq)
  rw [fq_self, fq_self] at h
  exact h
set_option maxHeartbeats 800000 in
theorem r2less_can (va vb : Value) (p q : Rat) (w : World) (ha : FracC w va p) (hb : FracC w vb q) (hp : fits p) (hq : fits q) :
    Calls Tryz.prog 50 #[va, vb] w fun en w' => en = .returned (.bool (decide (cmpR p q < 0))) ∧ Below w.heap.size w w' := by
  obtain ⟨t1, x1, y1, rfl, ⟨a11, l11, k11, rfl, _⟩, ⟨a12, l12, k12, rfl, _⟩⟩ := ha.isF
  obtain ⟨t2, x2, y2, rfl, ⟨a21, l21, k21, rfl, _⟩, ⟨a22, l22, k22, rfl, _⟩⟩ := hb.isF
  have b1 := below_alloc w (.cells #[.bool t1, .slice a11 l11 k11, .slice a12 l12 k12] 38)
  have b2 := below_alloc (w.alloc (.cells #[.bool t1, .slice a11 l11 k11, .slice a12 l12 k12] 38)) (.cells #[.bool t2, .slice a21 l21 k21, .slice a22 l22 k22] 38)
  have HB := Lib.hid (below_then b1 b2)
  have HX := Lib.hid (ha.below HB.out)
  have HY := Lib.hid (hb.below HB.out)
  have HP := Lib.hid hp
  have HQ := Lib.hid hq
  clear ha hb hp hq b1 b2
  go_enter Tryz.func50, Tryz.ntmps50
  go_wp2_with (go_at_call 100; (with_reducible refine (r2order_can _ _ p q _ HX.out HY.out HP.out HQ.out).mono ?_); rintro e3 w3 ⟨rfl, hb3⟩)
  go_ret
  exact ⟨rfl, below_then HB.out hb3⟩
end Go.Proofs.YtlpdkbmmbdfoiaaGreat
namespace Go.Proofs.YtlpdkbmmbdfoiaaGreat
open Go.RowKit

/-- A number other than y. -/
def oth (y : Int) (n : Nat) : Int := if n % 2 = 0 then y + ((n / 2 + 1 : Nat) : Int) else y - ((n / 2 + 1 : Nat) : Int)
theorem oth_ne (y : Int) (n : Nat) : oth y n ≠ y := by unfold oth; split <;> omega
theorem ex_oth {x y : Int} (h : x ≠ y) : ∃ n, x = oth y n := by
  rcases Int.lt_or_gt_of_ne h with h | h
  · refine ⟨2 * (y - x - 1).toNat + 1, ?_⟩
    unfold oth
    rw [if_neg (by omega)]
    omega
  · refine ⟨2 * (x - y - 1).toNat, ?_⟩
    unfold oth
    rw [if_pos (by omega)]
    omega
@[go_sem] theorem oth_beq (y : Int) (n : Nat) : (oth y n == y) = false := by simpa using oth_ne y n
@[go_sem] theorem beq_oth (y : Int) (n : Nat) : (y == oth y n) = false := by simpa using fun h => oth_ne y n h.symm
@[go_sem] theorem oth_bne (y : Int) (n : Nat) : (oth y n != y) = true := by simpa using oth_ne y n
@[go_sem] theorem bne_oth (y : Int) (n : Nat) : (y != oth y n) = true := by simpa using fun h => oth_ne y n h.symm
@[go_sem] theorem int_beq_self (y : Int) : (y == y) = true := by simp
@[go_sem] theorem int_bne_self (y : Int) : (y != y) = false := by simp
/-- Take number i first, the operation written out by the prover's simp. -/
theorem take_it {P : Program} {md : Region.Mode} {ops : Array Oper} {Q : Exit → Act → World → Prop} {S : World → Prop} (i : Nat) {fuel : Nat} {listed : Array Bool} {a : Act} {w : World}
    (hs : Region.noSelect ops = true) (hf : Region.free md ops listed i = true) (hr : (Region.ready md ops listed).contains i = true) (hS : S w) (hi : (ops[i]?).isSome = true)
    (h : ∀ oi, ops[i]? = some oi → ∃ v, (∀ c a w, Q (.panic c) (a.put oi.dst v) w → Q (.panic c) a w) ∧ YieldsIf P ops S oi v a ∧ wpAnyH P md ops Q S fuel (listed.setIfInBounds i true) (a.put oi.dst v) w) : wpAnyH P md ops Q S (fuel + 1) listed a w := by
  obtain ⟨oi, ho⟩ := Option.isSome_iff_exists.1 hi
  obtain ⟨v, h1, h2, h3⟩ := h oi ho
  exact wpAnyH_take ho hs hf hr h1 h2 hS h3
end Go.Proofs.YtlpdkbmmbdfoiaaGreat
namespace Go.Proofs.YtlpdkbmmbdfoiaaGreat
set_option linter.unusedVariables false
set_option linter.unusedSimpArgs false
open Go.RowKit

/-- The greatest rate out of the first k states. -/
def leaveTo (c : RC) : Nat → Rat
  | 0 => 0
  | k + 1 => if leaveTo c k < lsum (rowsQ c k) then lsum (rowsQ c k) else leaveTo c k
theorem C3.far {w : World} {b b' : Nat} {v0 v1 v2 : Value} (h : C3 w b v0 v1 v2) (hb : b' ≠ b) (x y z : Value) : C3 (((w.setCell ⟨b', 0, none⟩ x).setCell ⟨b', 1, none⟩ y).setCell ⟨b', 2, none⟩ z) b v0 v1 v2 :=
  ((h.other ⟨b', 0, none⟩ x hb).other ⟨b', 1, none⟩ y hb).other ⟨b', 2, none⟩ z hb
theorem cmpR_gt (p q : Rat) : 0 < cmpR p q ↔ q < p := by
  unfold cmpR
  by_cases h1 : p < q
  · rw [if_pos h1]
    exact ⟨fun h => absurd h (by decide), fun h => absurd h1 (Rat.not_lt.2 (Rat.le_of_lt h))⟩
  · rw [if_neg h1]
    by_cases h2 : q < p
    · rw [if_pos h2]; exact ⟨fun _ => h2, fun _ => by decide⟩
    · rw [if_neg h2]; exact ⟨fun h => absurd h (by decide), fun h => absurd h h2⟩
theorem cmpR_lt (p q : Rat) : cmpR p q < 0 ↔ p < q := by
  unfold cmpR
  by_cases h1 : p < q
  · rw [if_pos h1]; exact ⟨fun _ => h1, fun _ => by decide⟩
  · rw [if_neg h1]
    by_cases h2 : q < p
    · rw [if_pos h2]; exact ⟨fun h => absurd h (by decide), fun h => absurd h h1⟩
    · rw [if_neg h2]; exact ⟨fun h => absurd h (by decide), fun h => absurd h h1⟩
theorem leave_row {c : RC} (hv : validP c) {k : Nat} (hk : k < c.rates.length) : rowP c.rates[k] (c.rates[k]).length ∧ rowsQ c k = qs c.rates[k] := by
  obtain ⟨h2, h3, h4, h5⟩ := hv.row (i := k) (by have := hv.2.2.1; have := hv.2.2.2.1; omega)
  exact ⟨h4, h5⟩
theorem leave_fits {c : RC} (hv : validP c) : ∀ k, k ≤ c.rates.length → fits (leaveTo c k)
  | 0, _ => by unfold leaveTo; exact fits_zero
  | k + 1, hk => by
    unfold leaveTo
    split
    · obtain ⟨h4, h5⟩ := leave_row hv (show k < c.rates.length by omega)
      rw [h5]
      have h := h4.fits (c.rates[k]).length
      rwa [List.take_length] at h
    · exact leave_fits hv k (by omega)
set_option maxRecDepth 100000 in
set_option maxHeartbeats 6400000 in
theorem leaving_any (va : Value) (c : RC) (w : World) (ha : ChainN w va c) (hv : validP c) : Calls Tryz.prog 114 #[va] w (RF1 w (leaveTo c c.rates.length)) := by
  obtain ⟨rv, sv, lv, rfl, hr, hs, hl⟩ := id ha
  obtain ⟨ra, rn, rk, rfl, _⟩ := id hr.sl
  obtain ⟨sa, sn, sk, rfl, _⟩ := id hs.sl
  obtain ⟨la, ln, lk, rfl, _⟩ := id (CellsV.sl hl)
  have hrn : rn = c.rates.length := hr.len
  subst hrn
  have hsn : sn = c.start.length := hs.len
  have hlen : c.rates.length = c.start.length := hv.2.2.2.1
  rw [← hlen] at hsn
  subst hsn
  have HV := Lib.hid hv
  have hn : c.rates.length ≤ 128 := by have := hv.2.1; omega
  have hbx := below_alloc w (.cells #[.slice ra c.rates.length rk, .slice sa c.rates.length sk, .slice la ln lk] 28)
  have hb2 := below_alloc (w.alloc (.cells #[.slice ra c.rates.length rk, .slice sa c.rates.length sk, .slice la ln lk] 28)) (.cells #[.bool false, .slice none 0 0, .slice none 0 0] 38)
  have HC := Lib.hid ((C3.new w 28 (.slice ra c.rates.length rk) (.slice sa c.rates.length sk) (.slice la ln lk)).belowS hb2)
  have HR := Lib.hid (C3.newB (b := w.heap.size + 1) (w.alloc (.cells #[.slice ra c.rates.length rk, .slice sa c.rates.length sk, .slice la ln lk] 28)) 38 (.bool false) (.slice none 0 0) (.slice none 0 0) (by simp))
  have HBW := Lib.hid (below_then hbx hb2)
  have HA0 := Lib.hid ha
  clear hr hs hl ha hv hbx hb2 hlen
  go_enter Tryz.func114, Tryz.ntmps114
  go_upto_region 1 with fail
  generalize (w.alloc (.cells #[.slice ra c.rates.length rk, .slice sa c.rates.length sk, .slice la ln lk] 28)).alloc (.cells #[.bool false, .slice none 0 0, .slice none 0 0] 38) = W2 at *
  obtain ⟨n, hnl⟩ : ∃ n, c.rates.length = n := ⟨_, rfl⟩
  have HNL := Lib.hid hnl
  rw [hnl] at HC HA0 hn ⊢
  clear hnl
  go_wp2_with (go_at_call 109; (with_reducible refine (number_zero _).mono ?_); rintro e3 w3 ⟨v3, rfl, hv3, hb3⟩
               obtain ⟨t3, x3, y3, rfl, ⟨a31, l31, k31, rfl, _⟩, ⟨a32, l32, k32, rfl, _⟩⟩ := hv3.isF
               have hba := below_then hb3 (below_alloc w3 (.cells #[.bool t3, .slice a31 l31 k31, .slice a32 l32 k32] 38))
               have HV3 := Lib.hid (hv3.below (below_alloc w3 (.cells #[.bool t3, .slice a31 l31 k31, .slice a32 l32 k32] 38)))
               have HB3 := Lib.hid (below_then HBW.out hba)
               have HR3 := Lib.hid (HR.out.belowS hba)
               have HC3 := Lib.hid (HC.out.belowS hba)
               have HM3 := Lib.hid (C3.new w3 38 (.bool t3) (.slice a31 l31 k31) (.slice a32 l32 k32))
               have HSZ : Hid (w.heap.size + 1 < w3.heap.size) := Lib.hid (by have := HR.out.lt; have := hb3.size; omega)
               obtain ⟨_, c0, c1, c2, _, _, _⟩ := HC3.out
               clear hv3 hb3 hba HC HR HBW)
  obtain ⟨b3, hb3⟩ : ∃ b, w3.heap.size = b := ⟨_, rfl⟩
  rw [hb3] at HM3 HSZ
  rw [hb3]
  clear hb3 c0 c1 c2
  go_loopg [12] (n) (fun g u12 wr => ∃ (k : Nat) (t' : Bool) (a1 a2 : Option Addr) (l1 k1 l2 k2 : Nat), k ≤ n ∧ g = n - k ∧ u12 = .int .i64 k ∧ C3 wr b3 (.bool t') (.slice a1 l1 k1) (.slice a2 l2 k2) ∧ FracC wr (.agg #[.bool t', .slice a1 l1 k1, .slice a2 l2 k2]) (leaveTo c k) ∧ C3 wr w.heap.size (.slice ra n rk) (.slice sa n sk) (.slice la ln lk) ∧ C3 wr (w.heap.size + 1) (.bool false) (.slice none 0 0) (.slice none 0 0) ∧ Below w.heap.size w wr)
  case atStart => exact ⟨0, _, _, _, _, _, _, _, Nat.zero_le _, rfl, rfl, HM3.out, HV3.out, HC3.out, HR3.out, HB3.out⟩
  case round =>
    obtain ⟨k, t', a1, a2, l1, k1, l2, k2, hk, hg, rfl, hM, hV, hC, hR, hbr⟩ := hrel
    obtain ⟨w4, hw4⟩ : ∃ w4, w4 = wr := ⟨_, rfl⟩
    subst hw4
    have HG := Lib.hid hg
    have HM := Lib.hid hM
    have HV4 := Lib.hid hV
    have HC := Lib.hid hC
    have HR := Lib.hid hR
    have HA := Lib.hid (HA0.out.below hbr)
    have HBR := Lib.hid hbr
    clear hg hV hR hbr HM3 HV3 HC3 HR3 HB3
    by_cases hkn : k < n
    · have hk2 : k < c.rates.length := by rw [HNL.out]; exact hkn
      obtain ⟨hr1, hr2⟩ := leave_row HV.out hk2
      have HROW := Lib.hid hr1
      have HQ : Hid (qs (c.rates[k]'hk2) = rowsQ c k) := Lib.hid hr2.symm
      have HFX : Hid (fits (lsum (rowsQ c k))) := Lib.hid (by
        have h := hr1.fits (c.rates[k]'hk2).length
        rw [List.take_length] at h
        rw [hr2]; exact h)
      have HFM := Lib.hid (leave_fits HV.out k (by omega))
      have HSTEP : Hid (leaveTo c (k + 1) = if leaveTo c k < lsum (rowsQ c k) then lsum (rowsQ c k) else leaveTo c k) := Lib.hid rfl
      have HCMP : Hid (0 < cmpR (lsum (rowsQ c k)) (leaveTo c k) ↔ leaveTo c k < lsum (rowsQ c k)) := Lib.hid (cmpR_gt _ _)
      obtain ⟨X, hX⟩ : ∃ X, lsum (rowsQ c k) = X := ⟨_, rfl⟩
      obtain ⟨M, hM2⟩ : ∃ M, leaveTo c k = M := ⟨_, rfl⟩
      obtain ⟨z, hz⟩ : ∃ z, cmpR X M = z := ⟨_, rfl⟩
      have HXE := Lib.hid hX
      have HZ := Lib.hid hz
      rw [hX] at HFX HSTEP HCMP
      rw [hM2] at HFM HSTEP HCMP HV4
      rw [hz] at HCMP
      obtain ⟨_, c0, c1, c2, _, _, _⟩ := hC
      obtain ⟨_, m0, m1, m2, _, _, _⟩ := hM
      clear hr1 hr2 hX hM2 hz
      have i1 : (0 : Int) ≤ (k : Int) := by omega
      have i2 : (k : Int) < (n : Nat) := by omega
      by_cases hzp : 0 < z
      · go_wp2_with (first
          | (go_at_call 162; (with_reducible refine (out_any _ c k _ HA.out hk2 HROW.out).mono ?_); rw [HQ.out, HXE.out]; rintro e5 w5 ⟨v5, rfl, hv5, hb5⟩
             obtain ⟨t5, x5, y5, rfl, ⟨a51, l51, k51, rfl, _⟩, ⟨a52, l52, k52, rfl, _⟩⟩ := hv5.isF
             have hba := below_then hb5 (below_alloc w5 (.cells #[.bool t5, .slice a51 l51 k51, .slice a52 l52 k52] 38))
             have HX5 := Lib.hid (hv5.below (below_alloc w5 (.cells #[.bool t5, .slice a51 l51 k51, .slice a52 l52 k52] 38)))
             have HN5 := Lib.hid (C3.new w5 38 (.bool t5) (.slice a51 l51 k51) (.slice a52 l52 k52))
             have HM5 := Lib.hid (HM.out.belowS hba)
             have HV5 := Lib.hid (HV4.out.below hba)
             have HC5 := Lib.hid (HC.out.belowS hba)
             have HR5 := Lib.hid (HR.out.belowS hba)
             have HB5 := Lib.hid (below_then2 HBR.out hba HBR.out.size)
             obtain ⟨_, n0, n1, n2, _, _, _⟩ := HN5.out
             obtain ⟨_, m0, m1, m2, _, _, _⟩ := HM5.out
             clear hv5 hb5 hba HM HV4 HC HR HA c0 c1 c2)
          | (go_at_call 130; (with_reducible refine (cmp_can _ _ X M _ HX5.out HV5.out HFX.out HFM.out).mono ?_); rw [HZ.out]; rintro e6 w6 ⟨rfl, hb6⟩
             have HX6 := Lib.hid (HX5.out.below hb6)
             have HN6 := Lib.hid (HN5.out.belowS hb6)
             have HM6 := Lib.hid (HM5.out.belowS hb6)
             have HV6 := Lib.hid (HV5.out.below hb6)
             have HC6 := Lib.hid (HC5.out.belowS hb6)
             have HR6 := Lib.hid (HR5.out.belowS hb6)
             have HB6 := Lib.hid (below_then2 HB5.out hb6 HB5.out.size)
             clear HX5 HN5 HM5 HV5 HC5 HR5 HB5 hb6 n0 n1 n2 m0 m1 m2
             obtain ⟨_, n0, n1, n2, _, _, _⟩ := HN6.out
             obtain ⟨_, m0, m1, m2, f0, f1, f2⟩ := HM6.out))
        go_roundg (n - (k + 1))
        case measure => (have := HG.out; omega)
        case rel =>
          refine ⟨k + 1, t5, a51, a52, l51, k51, l52, k52, by omega, rfl, by go_num, HM6.out.set _ _ _, ?_, HC6.out.far (by have := HSZ.out; omega) _ _ _, HR6.out.far (by have := HSZ.out; omega) _ _ _, below_set3 HB6.out (by have := HSZ.out; omega) _ _ _⟩
          rw [HSTEP.out, if_pos (HCMP.out.1 hzp)]
          exact HX6.out.set3 HM6.out (fun z => by simp) (fun z => by simp) _ _ _
      · go_wp2_with (first
          | (go_at_call 162; (with_reducible refine (out_any _ c k _ HA.out hk2 HROW.out).mono ?_); rw [HQ.out, HXE.out]; rintro e5 w5 ⟨v5, rfl, hv5, hb5⟩
             obtain ⟨t5, x5, y5, rfl, ⟨a51, l51, k51, rfl, _⟩, ⟨a52, l52, k52, rfl, _⟩⟩ := hv5.isF
             have hba := below_then hb5 (below_alloc w5 (.cells #[.bool t5, .slice a51 l51 k51, .slice a52 l52 k52] 38))
             have HX5 := Lib.hid (hv5.below (below_alloc w5 (.cells #[.bool t5, .slice a51 l51 k51, .slice a52 l52 k52] 38)))
             have HN5 := Lib.hid (C3.new w5 38 (.bool t5) (.slice a51 l51 k51) (.slice a52 l52 k52))
             have HM5 := Lib.hid (HM.out.belowS hba)
             have HV5 := Lib.hid (HV4.out.below hba)
             have HC5 := Lib.hid (HC.out.belowS hba)
             have HR5 := Lib.hid (HR.out.belowS hba)
             have HB5 := Lib.hid (below_then2 HBR.out hba HBR.out.size)
             obtain ⟨_, n0, n1, n2, _, _, _⟩ := HN5.out
             obtain ⟨_, m0, m1, m2, _, _, _⟩ := HM5.out
             clear hv5 hb5 hba HM HV4 HC HR HA c0 c1 c2)
          | (go_at_call 130; (with_reducible refine (cmp_can _ _ X M _ HX5.out HV5.out HFX.out HFM.out).mono ?_); rw [HZ.out]; rintro e6 w6 ⟨rfl, hb6⟩
             have HX6 := Lib.hid (HX5.out.below hb6)
             have HN6 := Lib.hid (HN5.out.belowS hb6)
             have HM6 := Lib.hid (HM5.out.belowS hb6)
             have HV6 := Lib.hid (HV5.out.below hb6)
             have HC6 := Lib.hid (HC5.out.belowS hb6)
             have HR6 := Lib.hid (HR5.out.belowS hb6)
             have HB6 := Lib.hid (below_then2 HB5.out hb6 HB5.out.size)
             clear HX5 HN5 HM5 HV5 HC5 HR5 HB5 hb6 n0 n1 n2 m0 m1 m2
             obtain ⟨_, n0, n1, n2, _, _, _⟩ := HN6.out
             obtain ⟨_, m0, m1, m2, f0, f1, f2⟩ := HM6.out))
        go_roundg (n - (k + 1))
        case measure => (have := HG.out; omega)
        case rel =>
          refine ⟨k + 1, t', a1, a2, l1, k1, l2, k2, by omega, rfl, by go_num, HM6.out, ?_, HC6.out, HR6.out, HB6.out⟩
          rw [HSTEP.out, if_neg (fun h => absurd (HCMP.out.2 h) (by omega))]
          exact HV6.out
    · obtain rfl : k = n := by omega
      obtain ⟨_, m0, m1, m2, _, _, _⟩ := hM
      obtain ⟨_, f0, f1, f2, f3, f4, f5⟩ := HR.out
      clear hC
      go_wp2_with fail
      refine bodyPost_c1 rfl rfl Tryz.aggF Tryz.sizeF (HR.out.set _ _ _) rfl ?_
      refine ⟨_, rfl, ?_, below_set3 HBR.out (by omega) _ _ _⟩
      rw [HNL.out]
      exact HV4.out.set3 HR.out (fun z => by simp) (fun z => by simp) _ _ _
set_option maxRecDepth 100000 in
set_option maxHeartbeats 6400000 in
theorem r21leaving_any (va : Value) (c : RC) (w : World) (ha : ChainN w va c) (hv : validP c) : Calls Tryz.prog 17 #[va] w (RF0 w (leaveTo c c.rates.length)) := by
  obtain ⟨rv, sv, lv, rfl, hr, hs, hl⟩ := id ha
  obtain ⟨ra, rn, rk, rfl, _⟩ := id hr.sl
  obtain ⟨sa, sn, sk, rfl, _⟩ := id hs.sl
  obtain ⟨la, ln, lk, rfl, _⟩ := id (CellsV.sl hl)
  have hrn : rn = c.rates.length := hr.len
  subst hrn
  have hsn : sn = c.start.length := hs.len
  have hlen : c.rates.length = c.start.length := hv.2.2.2.1
  rw [← hlen] at hsn
  subst hsn
  have HV := Lib.hid hv
  have hn : c.rates.length ≤ 128 := by have := hv.2.1; omega
  have hbx := below_alloc w (.cells #[.slice ra c.rates.length rk, .slice sa c.rates.length sk, .slice la ln lk] 28)
  have hb2 := below_alloc (w.alloc (.cells #[.slice ra c.rates.length rk, .slice sa c.rates.length sk, .slice la ln lk] 28)) (.cells #[.bool false, .slice none 0 0, .slice none 0 0] 38)
  have HC := Lib.hid ((C3.new w 28 (.slice ra c.rates.length rk) (.slice sa c.rates.length sk) (.slice la ln lk)).belowS hb2)
  have HR := Lib.hid (C3.newB (b := w.heap.size + 1) (w.alloc (.cells #[.slice ra c.rates.length rk, .slice sa c.rates.length sk, .slice la ln lk] 28)) 38 (.bool false) (.slice none 0 0) (.slice none 0 0) (by simp))
  have HBW := Lib.hid (below_then hbx hb2)
  have HA0 := Lib.hid ha
  clear hr hs hl ha hv hbx hb2 hlen
  go_enter Tryz.func17, Tryz.ntmps17
  go_upto_region 1 with fail
  generalize (w.alloc (.cells #[.slice ra c.rates.length rk, .slice sa c.rates.length sk, .slice la ln lk] 28)).alloc (.cells #[.bool false, .slice none 0 0, .slice none 0 0] 38) = W2 at *
  obtain ⟨n, hnl⟩ : ∃ n, c.rates.length = n := ⟨_, rfl⟩
  have HNL := Lib.hid hnl
  rw [hnl] at HC HA0 hn ⊢
  clear hnl
  have HAW := Lib.hid (HA0.out.below HBW.out)
  obtain ⟨_, c0, c1, c2, _, _, _⟩ := HC.out
  go_wp2_with (first
               | (go_at_call 69; (with_reducible refine (rvalid_chain _ c _ HAW.out).mono ?_); rintro e1 w1 ⟨⟨bv, rfl, hbv⟩, hbv1⟩; obtain rfl : bv = true := hbv.2 HV.out; clear hbv
                  have HBV := Lib.hid hbv1
                  clear hbv1)
               | (go_at_call 20; (with_reducible refine (r2int_zero _).mono ?_); rintro e3 w3 ⟨v3, rfl, hv3, hb3⟩
                  obtain ⟨t3, x3, y3, rfl, ⟨a31, l31, k31, rfl, _⟩, ⟨a32, l32, k32, rfl, _⟩⟩ := hv3.isF
                  have hba := below_then (below_then HBV.out hb3) (below_alloc w3 (.cells #[.bool t3, .slice a31 l31 k31, .slice a32 l32 k32] 38))
                  have HV3 := Lib.hid (hv3.below (below_alloc w3 (.cells #[.bool t3, .slice a31 l31 k31, .slice a32 l32 k32] 38)))
                  have HB3 := Lib.hid (below_then HBW.out hba)
                  have HR3 := Lib.hid (HR.out.belowS hba)
                  have HC3 := Lib.hid (HC.out.belowS hba)
                  have HM3 := Lib.hid (C3.new w3 38 (.bool t3) (.slice a31 l31 k31) (.slice a32 l32 k32))
                  have HSZ : Hid (w.heap.size + 1 < w3.heap.size) := Lib.hid (by have := HR.out.lt; have := hb3.size; have := HBV.out.size; omega)
                  clear hv3 hb3 hba HC HR HBW c0 c1 c2))
  obtain ⟨b3, hb3⟩ : ∃ b, w3.heap.size = b := ⟨_, rfl⟩
  rw [hb3] at HM3 HSZ
  rw [hb3]
  clear hb3
  go_loopg [5] (n) (fun g u5 wr => ∃ (k : Nat) (t' : Bool) (a1 a2 : Option Addr) (l1 k1 l2 k2 : Nat), k ≤ n ∧ g = n - k ∧ u5 = .int .i64 k ∧ C3 wr b3 (.bool t') (.slice a1 l1 k1) (.slice a2 l2 k2) ∧ FracC wr (.agg #[.bool t', .slice a1 l1 k1, .slice a2 l2 k2]) (leaveTo c k) ∧ C3 wr w.heap.size (.slice ra n rk) (.slice sa n sk) (.slice la ln lk) ∧ C3 wr (w.heap.size + 1) (.bool false) (.slice none 0 0) (.slice none 0 0) ∧ Below w.heap.size w wr)
  case atStart => exact ⟨0, _, _, _, _, _, _, _, Nat.zero_le _, rfl, rfl, HM3.out, HV3.out, HC3.out, HR3.out, HB3.out⟩
  case round =>
    obtain ⟨k, t', a1, a2, l1, k1, l2, k2, hk, hg, rfl, hM, hV, hC, hR, hbr⟩ := hrel
    obtain ⟨w4, hw4⟩ : ∃ w4, w4 = wr := ⟨_, rfl⟩
    subst hw4
    have HG := Lib.hid hg
    have HM := Lib.hid hM
    have HV4 := Lib.hid hV
    have HC := Lib.hid hC
    have HR := Lib.hid hR
    have HA := Lib.hid (HA0.out.below hbr)
    have HBR := Lib.hid hbr
    clear hg hV hR hbr HM3 HV3 HC3 HR3 HB3
    by_cases hkn : k < n
    · have hk2 : k < c.rates.length := by rw [HNL.out]; exact hkn
      obtain ⟨hr1, hr2⟩ := leave_row HV.out hk2
      have HROW := Lib.hid hr1
      have HQ : Hid (qs (c.rates[k]'hk2) = rowsQ c k) := Lib.hid hr2.symm
      have HFX : Hid (fits (lsum (rowsQ c k))) := Lib.hid (by
        have h := hr1.fits (c.rates[k]'hk2).length
        rw [List.take_length] at h
        rw [hr2]; exact h)
      have HFM := Lib.hid (leave_fits HV.out k (by omega))
      have HSTEP : Hid (leaveTo c (k + 1) = if leaveTo c k < lsum (rowsQ c k) then lsum (rowsQ c k) else leaveTo c k) := Lib.hid rfl
      have HCMP : Hid (cmpR (leaveTo c k) (lsum (rowsQ c k)) < 0 ↔ leaveTo c k < lsum (rowsQ c k)) := Lib.hid (cmpR_lt _ _)
      obtain ⟨X, hX⟩ : ∃ X, lsum (rowsQ c k) = X := ⟨_, rfl⟩
      obtain ⟨M, hM2⟩ : ∃ M, leaveTo c k = M := ⟨_, rfl⟩
      obtain ⟨z, hz⟩ : ∃ z, cmpR M X = z := ⟨_, rfl⟩
      have HXE := Lib.hid hX
      have HZ := Lib.hid hz
      rw [hX] at HFX HSTEP HCMP
      rw [hM2] at HFM HSTEP HCMP HV4
      rw [hz] at HCMP
      obtain ⟨_, c0, c1, c2, _, _, _⟩ := hC
      obtain ⟨_, m0, m1, m2, _, _, _⟩ := hM
      clear hr1 hr2 hX hM2 hz
      have i1 : (0 : Int) ≤ (k : Int) := by omega
      have i2 : (k : Int) < (n : Nat) := by omega
      by_cases hzp : z < 0
      · go_wp2_with (first
          | (go_at_call 70; (with_reducible refine (r21out_any _ c k _ HA.out hk2 HROW.out).mono ?_); rw [HQ.out, HXE.out]; rintro e5 w5 ⟨v5, rfl, hv5, hb5⟩
             obtain ⟨t5, x5, y5, rfl, ⟨a51, l51, k51, rfl, _⟩, ⟨a52, l52, k52, rfl, _⟩⟩ := hv5.isF
             have hba := below_then hb5 (below_alloc w5 (.cells #[.bool t5, .slice a51 l51 k51, .slice a52 l52 k52] 38))
             have HX5 := Lib.hid (hv5.below (below_alloc w5 (.cells #[.bool t5, .slice a51 l51 k51, .slice a52 l52 k52] 38)))
             have HN5 := Lib.hid (C3.new w5 38 (.bool t5) (.slice a51 l51 k51) (.slice a52 l52 k52))
             have HM5 := Lib.hid (HM.out.belowS hba)
             have HV5 := Lib.hid (HV4.out.below hba)
             have HC5 := Lib.hid (HC.out.belowS hba)
             have HR5 := Lib.hid (HR.out.belowS hba)
             have HB5 := Lib.hid (below_then2 HBR.out hba HBR.out.size)
             obtain ⟨_, n0, n1, n2, _, _, _⟩ := HN5.out
             obtain ⟨_, m0, m1, m2, _, _, _⟩ := HM5.out
             clear hv5 hb5 hba HM HV4 HC HR HA c0 c1 c2)
          | (go_at_call 50; (with_reducible refine (r2less_can _ _ M X _ HV5.out HX5.out HFM.out HFX.out).mono ?_); rw [HZ.out]; rintro e6 w6 ⟨rfl, hb6⟩
             have HX6 := Lib.hid (HX5.out.below hb6)
             have HN6 := Lib.hid (HN5.out.belowS hb6)
             have HM6 := Lib.hid (HM5.out.belowS hb6)
             have HV6 := Lib.hid (HV5.out.below hb6)
             have HC6 := Lib.hid (HC5.out.belowS hb6)
             have HR6 := Lib.hid (HR5.out.belowS hb6)
             have HB6 := Lib.hid (below_then2 HB5.out hb6 HB5.out.size)
             clear HX5 HN5 HM5 HV5 HC5 HR5 HB5 hb6 n0 n1 n2 m0 m1 m2
             obtain ⟨_, n0, n1, n2, _, _, _⟩ := HN6.out
             obtain ⟨_, m0, m1, m2, f0, f1, f2⟩ := HM6.out))
        go_roundg (n - (k + 1))
        case measure => (have := HG.out; omega)
        case rel =>
          refine ⟨k + 1, t5, a51, a52, l51, k51, l52, k52, by omega, rfl, by go_num, HM6.out.set _ _ _, ?_, HC6.out.far (by have := HSZ.out; omega) _ _ _, HR6.out.far (by have := HSZ.out; omega) _ _ _, below_set3 HB6.out (by have := HSZ.out; omega) _ _ _⟩
          rw [HSTEP.out, if_pos (HCMP.out.1 hzp)]
          exact HX6.out.set3 HM6.out (fun z => by simp) (fun z => by simp) _ _ _
      · go_wp2_with (first
          | (go_at_call 70; (with_reducible refine (r21out_any _ c k _ HA.out hk2 HROW.out).mono ?_); rw [HQ.out, HXE.out]; rintro e5 w5 ⟨v5, rfl, hv5, hb5⟩
             obtain ⟨t5, x5, y5, rfl, ⟨a51, l51, k51, rfl, _⟩, ⟨a52, l52, k52, rfl, _⟩⟩ := hv5.isF
             have hba := below_then hb5 (below_alloc w5 (.cells #[.bool t5, .slice a51 l51 k51, .slice a52 l52 k52] 38))
             have HX5 := Lib.hid (hv5.below (below_alloc w5 (.cells #[.bool t5, .slice a51 l51 k51, .slice a52 l52 k52] 38)))
             have HN5 := Lib.hid (C3.new w5 38 (.bool t5) (.slice a51 l51 k51) (.slice a52 l52 k52))
             have HM5 := Lib.hid (HM.out.belowS hba)
             have HV5 := Lib.hid (HV4.out.below hba)
             have HC5 := Lib.hid (HC.out.belowS hba)
             have HR5 := Lib.hid (HR.out.belowS hba)
             have HB5 := Lib.hid (below_then2 HBR.out hba HBR.out.size)
             obtain ⟨_, n0, n1, n2, _, _, _⟩ := HN5.out
             obtain ⟨_, m0, m1, m2, _, _, _⟩ := HM5.out
             clear hv5 hb5 hba HM HV4 HC HR HA c0 c1 c2)
          | (go_at_call 50; (with_reducible refine (r2less_can _ _ M X _ HV5.out HX5.out HFM.out HFX.out).mono ?_); rw [HZ.out]; rintro e6 w6 ⟨rfl, hb6⟩
             have HX6 := Lib.hid (HX5.out.below hb6)
             have HN6 := Lib.hid (HN5.out.belowS hb6)
             have HM6 := Lib.hid (HM5.out.belowS hb6)
             have HV6 := Lib.hid (HV5.out.below hb6)
             have HC6 := Lib.hid (HC5.out.belowS hb6)
             have HR6 := Lib.hid (HR5.out.belowS hb6)
             have HB6 := Lib.hid (below_then2 HB5.out hb6 HB5.out.size)
             clear HX5 HN5 HM5 HV5 HC5 HR5 HB5 hb6 n0 n1 n2 m0 m1 m2
             obtain ⟨_, n0, n1, n2, _, _, _⟩ := HN6.out
             obtain ⟨_, m0, m1, m2, f0, f1, f2⟩ := HM6.out))
        go_roundg (n - (k + 1))
        case measure => (have := HG.out; omega)
        case rel =>
          refine ⟨k + 1, t', a1, a2, l1, k1, l2, k2, by omega, rfl, by go_num, HM6.out, ?_, HC6.out, HR6.out, HB6.out⟩
          rw [HSTEP.out, if_neg (fun h => absurd (HCMP.out.2 h) (by omega))]
          exact HV6.out
    · obtain rfl : k = n := by omega
      obtain ⟨_, m0, m1, m2, _, _, _⟩ := hM
      obtain ⟨_, f0, f1, f2, f3, f4, f5⟩ := HR.out
      obtain ⟨_, c0, c1, c2, _, _, _⟩ := hC
      go_wp2_with fail
      refine bodyPost_c3 rfl rfl Tryz.aggF Tryz.sizeF (HR.out.set _ _ _) rfl ?_
      refine ⟨_, rfl, ?_, below_set3 HBR.out (by omega) _ _ _⟩
      rw [HNL.out]
      exact HV4.out.set3 HR.out (fun z => by simp) (fun z => by simp) _ _ _
end Go.Proofs.YtlpdkbmmbdfoiaaGreat
namespace Go.Proofs.YtlpdkbmmbdfoiaaGreat
set_option linter.unusedVariables false
set_option linter.unusedSimpArgs false
open Go.RowKit

set_option maxRecDepth 100000 in
set_option maxHeartbeats 3200000 in
theorem rated_any (va vx : Value) (c : RC) (q : Rat) (w : World) (ha : ChainN w va c) (hv : validP c) (hx : FracC w vx q) (hf : fits q) (hq : 0 < q) :
    Calls Tryz.prog 81 #[va, vx] w (fun e w' => e = .returned (.bool true) ∧ Below w.heap.size w w') := by
  obtain ⟨rv, sv, lv, rfl, hr, hs, hl⟩ := id ha
  obtain ⟨ra, rn, rk, rfl, _⟩ := id hr.sl
  obtain ⟨sa, sn, sk, rfl, _⟩ := id hs.sl
  obtain ⟨la, ln, lk, rfl, _⟩ := id (CellsV.sl hl)
  obtain ⟨t1, x1, y1, rfl, ⟨a11, l11, k11, rfl, _⟩, ⟨a12, l12, k12, rfl, _⟩⟩ := hx.isF
  have hbx := below_alloc w (.cells #[.slice ra rn rk, .slice sa sn sk, .slice la ln lk] 28)
  have hb2 := below_alloc (w.alloc (.cells #[.slice ra rn rk, .slice sa sn sk, .slice la ln lk] 28)) (.cells #[.bool t1, .slice a11 l11 k11, .slice a12 l12 k12] 38)
  have HC := Lib.hid ((C3.new w 28 (.slice ra rn rk) (.slice sa sn sk) (.slice la ln lk)).belowS hb2)
  have HR := Lib.hid (C3.newB (b := w.heap.size + 1) (w.alloc (.cells #[.slice ra rn rk, .slice sa sn sk, .slice la ln lk] 28)) 38 (.bool t1) (.slice a11 l11 k11) (.slice a12 l12 k12) (by simp))
  have HBW := Lib.hid (below_then hbx hb2)
  have HA := Lib.hid (ha.below HBW.out)
  have HX := Lib.hid (hx.below HBW.out)
  have HV := Lib.hid hv
  have HF := Lib.hid hf
  clear hr hs hl ha hv hbx hb2 hx hf
  go_enter Tryz.func81, Tryz.ntmps81
  go_upto_region 1 with fail
  have HPOS : Hid ((!decide (q < 0) && !decide (q.num.natAbs = 0)) = true) := Lib.hid (by
    have h1 : ¬ q < 0 := fun h => absurd (Rat.le_of_lt h) (Rat.not_le.2 hq)
    have h2 : q.num.natAbs ≠ 0 := fun h => by
      have h3 : q = 0 := Rat.num_eq_zero.1 (Int.natAbs_eq_zero.1 h)
      rw [h3] at hq; exact absurd hq (by decide)
    rw [decide_eq_false h1, decide_eq_false h2]; rfl)
  generalize (w.alloc (.cells #[.slice ra rn rk, .slice sa sn sk, .slice la ln lk] 28)).alloc (.cells #[.bool t1, .slice a11 l11 k11, .slice a12 l12 k12] 38) = W2 at *
  obtain ⟨_, c0, c1, c2, _, _, _⟩ := HC.out
  go_wp2_with (first
    | (go_at_call 68; (with_reducible refine (valid_chain _ c _ HA.out).mono ?_); rintro e1 w1 ⟨⟨bv, rfl, hbv⟩, hb1⟩; obtain rfl : bv = true := hbv.2 HV.out; clear hbv
       have HX1 := Lib.hid (HX.out.below hb1)
       have HR1 := Lib.hid (HR.out.belowS hb1)
       have HB1 := Lib.hid (below_then HBW.out hb1)
       clear hb1
       obtain ⟨_, d0, d1, d2, _, _, _⟩ := HR1.out)
    | (go_at_call 79; (with_reducible refine (valid_ok _ _ _ _ _ HX1.out.raw (fits_okN HF.out)).mono ?_); rintro e2 w2 ⟨rfl, hb2⟩
       have HX2 := Lib.hid (HX1.out.below hb2)
       have HR2 := Lib.hid (HR1.out.belowS hb2)
       have HB2 := Lib.hid (below_then HB1.out hb2)
       clear hb2 d0 d1 d2
       obtain ⟨_, d0, d1, d2, _, _, _⟩ := HR2.out)
    | (go_at_call 145; (with_reducible refine (above_any _ _ _ _ _ HX2.out.raw).mono ?_); rw [HPOS.out]; rintro e3 w3 ⟨rfl, hb3⟩
       have HB3 := Lib.hid (below_then HB2.out hb3)))
  go_ret
  exact ⟨rfl, HB3.out⟩
set_option maxRecDepth 100000 in
set_option maxHeartbeats 3200000 in
theorem slow_any (va vx : Value) (c : RC) (q : Rat) (w : World) (ha : ChainN w va c) (hv : validP c) (hx : FracC w vx q) (hf : fits q) :
    Calls Tryz.prog 82 #[va, vx] w (fun e w' => e = .returned (.bool (decide (q < leaveTo c c.rates.length))) ∧ Below w.heap.size w w') := by
  obtain ⟨rv, sv, lv, rfl, hr, hs, hl⟩ := id ha
  obtain ⟨ra, rn, rk, rfl, _⟩ := id hr.sl
  obtain ⟨sa, sn, sk, rfl, _⟩ := id hs.sl
  obtain ⟨la, ln, lk, rfl, _⟩ := id (CellsV.sl hl)
  obtain ⟨t1, x1, y1, rfl, ⟨a11, l11, k11, rfl, _⟩, ⟨a12, l12, k12, rfl, _⟩⟩ := hx.isF
  have hbx := below_alloc w (.cells #[.slice ra rn rk, .slice sa sn sk, .slice la ln lk] 28)
  have hb2 := below_alloc (w.alloc (.cells #[.slice ra rn rk, .slice sa sn sk, .slice la ln lk] 28)) (.cells #[.bool t1, .slice a11 l11 k11, .slice a12 l12 k12] 38)
  have HC := Lib.hid ((C3.new w 28 (.slice ra rn rk) (.slice sa sn sk) (.slice la ln lk)).belowS hb2)
  have HR := Lib.hid (C3.newB (b := w.heap.size + 1) (w.alloc (.cells #[.slice ra rn rk, .slice sa sn sk, .slice la ln lk] 28)) 38 (.bool t1) (.slice a11 l11 k11) (.slice a12 l12 k12) (by simp))
  have HBW := Lib.hid (below_then hbx hb2)
  have HA := Lib.hid (ha.below HBW.out)
  have HX := Lib.hid (hx.below HBW.out)
  have HV := Lib.hid hv
  have HF := Lib.hid hf
  clear hr hs hl ha hv hbx hb2 hx hf
  have HFL := Lib.hid (leave_fits HV.out _ (Nat.le_refl _))
  have HLT : Hid (decide (cmpR q (leaveTo c c.rates.length) < 0) = decide (q < leaveTo c c.rates.length)) := Lib.hid (decide_eq_decide.2 (cmpR_lt _ _))
  go_enter Tryz.func82, Tryz.ntmps82
  go_upto_region 1 with fail
  generalize (w.alloc (.cells #[.slice ra rn rk, .slice sa sn sk, .slice la ln lk] 28)).alloc (.cells #[.bool t1, .slice a11 l11 k11, .slice a12 l12 k12] 38) = W2 at *
  obtain ⟨L, hL⟩ : ∃ L, leaveTo c c.rates.length = L := ⟨_, rfl⟩
  have HL := Lib.hid hL
  rw [hL] at HFL HLT
  clear hL
  have hbN := below_drew (B := W2.heap.size) W2
  have HAN := Lib.hid (HA.out.below hbN)
  have HXN := Lib.hid (HX.out.below hbN)
  obtain ⟨_, c0, c1, c2, _, _, _⟩ := HC.out.belowS hbN
  obtain ⟨_, d0, d1, d2, _, _, _⟩ := HR.out.belowS hbN
  go_region_held3 (fun w' => w'.cell? ⟨w.heap.size, 0, none⟩ = some (.slice ra rn rk) ∧ w'.cell? ⟨w.heap.size, 1, none⟩ = some (.slice sa sn sk) ∧ w'.cell? ⟨w.heap.size, 2, none⟩ = some (.slice la ln lk) ∧ w'.cell? ⟨w.heap.size + 1, 0, none⟩ = some (.bool t1) ∧ w'.cell? ⟨w.heap.size + 1, 1, none⟩ = some (.slice a11 l11 k11) ∧ w'.cell? ⟨w.heap.size + 1, 2, none⟩ = some (.slice a12 l12 k12)) (exact ⟨c0, c1, c2, d0, d1, d2⟩) (first
    | (go_at_call 114; (with_reducible refine (leaving_any _ c _ HAN.out HV.out).mono ?_); rw [HL.out]; rintro e3 w3 ⟨v3, rfl, hv3, hb3⟩
       obtain ⟨t3, x3, y3, rfl, ⟨a31, l31, k31, rfl, _⟩, ⟨a32, l32, k32, rfl, _⟩⟩ := hv3.isF
       have HV3 := Lib.hid hv3
       have HX3 := Lib.hid (HXN.out.below hb3)
       have HB3 := Lib.hid (below_then (below_then HBW.out hbN) hb3)
       have c0 := cell_below hb3 c0
       have c1 := cell_below hb3 c1
       have c2 := cell_below hb3 c2
       have d0 := cell_below hb3 d0
       have d1 := cell_below hb3 d1
       have d2 := cell_below hb3 d2)
    | (go_at_call 130; (with_reducible refine (cmp_can _ _ q L _ HX3.out HV3.out HF.out HFL.out).mono ?_); rintro e4 w4 ⟨rfl, hb4⟩
       have HB4 := Lib.hid (below_then HB3.out hb4)
       have c0 := cell_below hb4 c0
       have c1 := cell_below hb4 c1
       have c2 := cell_below hb4 c2
       have d0 := cell_below hb4 d0
       have d1 := cell_below hb4 d1
       have d2 := cell_below hb4 d2))
  go_wp2
  go_ret
  exact ⟨by rw [HL.out, ← HLT.out]; rfl, HB4.out⟩
end Go.Proofs.YtlpdkbmmbdfoiaaGreat
