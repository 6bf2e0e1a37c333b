/-
  package drydockref02: Opposite of a fraction in lowest terms.
-/
import Derived.Test.YtlpdkbmmbdfoiaaGreatFTl4
import Derived.Test.YtlpdkbmmbdfoiaaGreatFTa4
import Derived.Test.YtlpdkbmmbdfoiaaGreatFPh14
import Derived.Test.YtlpdkbmmbdfoiaaGreatGPh12
import Derived.Test.YtlpdkbmmbdfoiaaGreatFPh15
import Derived.Test.YtlpdkbmmbdfoiaaGreatFPp4
import Derived.Test.YtlpdkbmmbdfoiaaGreatFPp6
import Derived.Test.YtlpdkbmmbdfoiaaGreatFPk0
set_option linter.unusedVariables false
set_option linter.unusedSimpArgs false
namespace Go.Proofs.YtlpdkbmmbdfoiaaGreat
open Go.RowKit
theorem bodyPost_c44 {P : Program} {fn : Func} {R : Ending → World → Prop} {a : Act} {w : World} {p q : Tmp} {ty : TypeId} {b c : Nat} {v0 v1 v2 v3 u0 u1 u2 u3 : Value} (h : fn.results = #[.cell p ty, .cell q ty])
 (hp : a.tmps.getD p undef = .pointer (some ⟨b, 0, none⟩)) (hq : a.tmps.getD q undef = .pointer (some ⟨c, 0, none⟩)) (hagg : ∀ w, (isAgg ty).run P w = .ok true w) (hs : ∀ w, (sizeOf ty).run P w = .ok 4 w) (hc : C4 w b v0 v1 v2 v3) (hc2 : C4 w c u0 u1 u2 u3) (hd : a.defers = [])
 (hR : R (.returned (.tuple #[.agg #[v0, v1, v2, v3], .agg #[u0, u1, u2, u3]])) w) : bodyPost P fn R .ret a w := by
 refine bodyPost_ret ?_ hd hR
 have e : (results fn a.tmps).run P w = ((asAddr (a.tmps.getD p undef)).run P w).andThen fun x w1 => ((loadVar ty x).run P w1).andThen fun v w2 => ((asAddr (a.tmps.getD q undef)).run P w2).andThen fun y w3 => ((loadVar ty y).run P w3).andThen fun u w4 => .ok (.tuple #[v, u]) w4 := by
  simp only [results, h]
  simp [Sem.run_bind, Result.andThen]
 rw [e, hp, hq]
 simp only [asAddr, Sem.run_pure, Result.andThen_ok, zpn hagg hs hc, zpn hagg hs hc2]
def RPair (w0 : World) (e : Ending) (w : World) : Prop := ∃ va vb a b, e = .returned (.tuple #[va, vb]) ∧ zgm w va a ∧ zgm w vb b ∧ zch 2 a ∧ zch 2 b ∧ Below w0.heap.size w0 w
theorem zgm.slices2 {w : World} {v : Value} {l : LQ} (h : zgm w v l) : ∃ sa sn sk ra rn rk ea en ek, v = .agg #[.string { data := #[] }, .slice sa sn sk, .slice ra rn rk, .slice ea en ek] := by
 obtain ⟨sv, rv, ev, rfl, hs, hr, he⟩ := h
 obtain ⟨ra, rn, rk, rfl, _⟩ := id hr.sl
 obtain ⟨sa, sn, sk, rfl, _⟩ := id hs.sl
 obtain ⟨ea, en, ek, rfl, _⟩ := id he.sl
 exact ⟨sa, sn, sk, ra, rn, rk, ea, en, ek, rfl⟩
set_option maxRecDepth 100000 in
set_option maxHeartbeats 3200000 in
theorem tpair_any (v : Value) (l : List Nat) (w : World) (h : zhc w v (bytes l)) (hb : ∀ x ∈ l, x < 256) : Calls Tryz.prog 31 #[v] w (RPair w) := by
 have hba := zca w (.cells #[.string { data := #[] }, .slice none 0 0, .slice none 0 0, .slice none 0 0] 52)
 have hbb := zca (w.alloc (.cells #[.string { data := #[] }, .slice none 0 0, .slice none 0 0, .slice none 0 0] 52)) (.cells #[.string { data := #[] }, .slice none 0 0, .slice none 0 0, .slice none 0 0] 52)
 have hz1 : (w.alloc (.cells #[.string { data := #[] }, .slice none 0 0, .slice none 0 0, .slice none 0 0] 52)).heap.size = w.heap.size + 1 := by show (w.heap.push _).size = _; rw [Array.size_push]
 have HC1 := zH ((C4.new w 52 (.string { data := #[] }) (.slice none 0 0) (.slice none 0 0) (.slice none 0 0)).belowS hbb)
 have hc2 := C4.new (w.alloc (.cells #[.string { data := #[] }, .slice none 0 0, .slice none 0 0, .slice none 0 0] 52)) 52 (.string { data := #[] }) (.slice none 0 0) (.slice none 0 0) (.slice none 0 0)
 rw [hz1] at hc2
 have HC2 := zH hc2
 have HB := zH (zaa hba hbb)
 have HV := zH (h.below HB.out)
 have sv := zhc.sl h
 clear h hba hbb hz1 hc2
 go_enter Tryz.func31, Tryz.ntmps31
 go_upto_region 1 with fail
 generalize (w.alloc (.cells #[.string { data := #[] }, .slice none 0 0, .slice none 0 0, .slice none 0 0] 52)).alloc (.cells #[.string { data := #[] }, .slice none 0 0, .slice none 0 0, .slice none 0 0] 52) = W2 at *
 have tok1 : True := trivial
 have HL2 : Hid (∀ w0 bt a l, znb w0 bt l a → Calls Tryz.prog 54 #[.pointer (some ⟨bt, 0, none⟩), .int .i64 2] w0 (RTLaw w0 bt l 2)) := zH (fun w0 bt a l h => tlaw_any bt a l 2 w0 h (by decide) (by decide))
 go_wp2_with (first
  |(go_at_call 41; (with_reducible refine (new_any _ l _ HV.out hb).mono ?_); rintro e3 w3 ⟨bt, rfl, hbt, hT3, hb3⟩
    have HC13 := zH (HC1.out.belowS hb3)
    have HC23 := zH (HC2.out.belowS hb3)
    have HB3 := zH (zaa HB.out hb3)
    have HBT := zH hbt
    have HBTL := zH hT3.lt
    have HSZ := zH hb3.size
    clear hb3 hbt)
  |(go_at_call 54; have _t := tok1; (with_reducible refine (HL2.out _ bt _ _ hT3).mono ?_); rintro e4 w4 ⟨v4, a4, x4, rfl, hv4, ha4, hT4, hm4⟩
    obtain ⟨sa4, sn4, sk4, ra4, rn4, rk4, ea4, en4, ek4, rfl⟩ := hv4.lawE.slices2
    have HV4 := zH hv4
    have HM4 := zH hm4
    clear hv4 hm4 tok1 _t)
  |(go_at_call 54; (with_reducible refine (HL2.out _ bt _ _ hT4).mono ?_); rintro e5 w5 ⟨v5, a5, x5, rfl, hv5, ha5, hT5, hm5⟩
    obtain ⟨sa5, sn5, sk5, ra5, rn5, rk5, ea5, en5, ek5, rfl⟩ := hv5.lawE.slices2
    have HM5 := zH (HM4.out.trans hm5)
    have hbt3 : bt < w3.heap.size := HBTL.out
    have HV45 : Hid (LawN w5 (w.heap.size + 1 + 1) _ a4 ∧ LawN w5 (w.heap.size + 1 + 1) _ a5) := zH (And.intro ((HV4.out.moves (hm5.moves hbt3)).mono (by have h1 := HSZ.out; have h2 := HC2.out.lt; omega)) (hv5.mono (by have h1 := HSZ.out; have h2 := HC2.out.lt; have h3 := HM4.out.size; omega)))
    have HC15 := zH (HC13.out.tmv HM5.out (fun z => by simp) (fun z => by simp) (fun z => by simp) (fun z => by simp))
    have HC25 := zH (HC23.out.tmv HM5.out (fun z => by simp) (fun z => by simp) (fun z => by simp) (fun z => by simp))
    obtain ⟨-, c0, c1, c2, c3, f0, f1, f2, f3⟩ := HC15.out
    obtain ⟨-, d0, d1, d2, d3, g0, g1, g2, g3⟩ := HC25.out
    clear hv5 hm5))
 have hs1 := HC15.out.set (.string { data := #[] }) (.slice sa4 sn4 sk4) (.slice ra4 rn4 rk4) (.slice ea4 en4 ek4)
 have hne : ∀ k, (⟨w.heap.size, k, none⟩ : Addr).block ≠ w.heap.size + 1 := fun k => by show w.heap.size ≠ w.heap.size + 1; omega
 have hne2 : ∀ k, (⟨w.heap.size + 1, k, none⟩ : Addr).block ≠ w.heap.size := fun k => by show w.heap.size + 1 ≠ w.heap.size; omega
 have hd1 := (((HC25.out.other (hne 0) (.string { data := #[] })).other (hne 1) (.slice sa4 sn4 sk4)).other (hne 2) (.slice ra4 rn4 rk4)).other (hne 3) (.slice ea4 en4 ek4)
 have l4 := HV45.out.1.set4 HC15.out (by omega) (.string { data := #[] }) (.slice sa4 sn4 sk4) (.slice ra4 rn4 rk4) (.slice ea4 en4 ek4)
 have l5 := HV45.out.2.set4 HC15.out (by omega) (.string { data := #[] }) (.slice sa4 sn4 sk4) (.slice ra4 rn4 rk4) (.slice ea4 en4 ek4)
 have l4' := l4.set4 hd1 (by omega) (.string { data := #[] }) (.slice sa5 sn5 sk5) (.slice ra5 rn5 rk5) (.slice ea5 en5 ek5)
 have l5' := l5.set4 hd1 (by omega) (.string { data := #[] }) (.slice sa5 sn5 sk5) (.slice ra5 rn5 rk5) (.slice ea5 en5 ek5)
 have hs2 := (((hs1.other (hne2 0) (.string { data := #[] })).other (hne2 1) (.slice sa5 sn5 sk5)).other (hne2 2) (.slice ra5 rn5 rk5)).other (hne2 3) (.slice ea5 en5 ek5)
 have hd2 := hd1.set (.string { data := #[] }) (.slice sa5 sn5 sk5) (.slice ra5 rn5 rk5) (.slice ea5 en5 ek5)
 refine bodyPost_c44 rfl rfl rfl Tryz.aggL Tryz.sizeL hs2 hd2 rfl ?_
 have hbB : Below w.heap.size w w5 := HB3.out.trans (HM5.out.below w.heap.size (by have h1 := HBT.out; have h2 := HC2.out.lt; omega) (by have h1 := HSZ.out; have h2 := HC2.out.lt; omega))
 exact ⟨_, _, a4, a5, rfl, l4'.lawE, l5'.lawE, ha4, ha5, zqd (zqd hbB (Nat.le_refl _) _ _ _ _) (Nat.le_succ _) _ _ _ _⟩
set_option maxRecDepth 100000 in
set_option maxHeartbeats 3200000 in
theorem zep (va : Value) (l : LQ) (w : World) (ha : zhm w va l) (hl : zxb l) (hp : MomP l 1 1) : Calls Tryz.prog 36 #[va] w (RF0 w (zfo l 1)) := by
 obtain ⟨nm, sv, rv, ev, rfl, hs, hr, he⟩ := id ha
 obtain ⟨ra, rn, rk, rfl, _⟩ := id hr.sl
 obtain ⟨sa, sn, sk, rfl, _⟩ := id hs.sl
 obtain ⟨ea, en, ek, rfl, _⟩ := id he.sl
 have hba := zca w (.cells #[nm, .slice sa sn sk, .slice ra rn rk, .slice ea en ek] 52)
 have hbb := zca (w.alloc (.cells #[nm, .slice sa sn sk, .slice ra rn rk, .slice ea en ek] 52)) (.cells #[.bool false, .slice none 0 0, .slice none 0 0] 38)
 have HC := zH ((C4.new w 52 nm (.slice sa sn sk) (.slice ra rn rk) (.slice ea en ek)).belowS hbb)
 have HT := zH (C3.newB (b := w.heap.size + 1) (w.alloc (.cells #[nm, .slice sa sn sk, .slice ra rn rk, .slice ea en ek] 52)) 38 (.bool false) (.slice none 0 0) (.slice none 0 0) (by show (w.heap.push _).size = _; rw [Array.size_push]))
 have HBW := zH (zaa hba hbb)
 have HA := zH (ha.below HBW.out)
 have HM1 : Hid (∀ w0, zhm w0 (.agg #[nm, .slice sa sn sk, .slice ra rn rk, .slice ea en ek]) l → Calls Tryz.prog 37 #[.agg #[nm, .slice sa sn sk, .slice ra rn rk, .slice ea en ek], .int .i64 1] w0 (RF0 w0 (zfo l 1))) := zH (fun w0 h => zpo _ l 1 w0 h hl (Nat.le_refl _) (by decide) hp)
 clear ha hl hp hs hr he hba hbb
 go_enter Tryz.func36, Tryz.ntmps36
 go_upto_region 1 with fail
 generalize (w.alloc (.cells #[nm, .slice sa sn sk, .slice ra rn rk, .slice ea en ek] 52)).alloc (.cells #[.bool false, .slice none 0 0, .slice none 0 0] 38) = W2 at *
 obtain ⟨_, c0, c1, c2, c3, _⟩ := HC.out
 go_wp2_with (first
  |(go_at_call 37; (with_reducible refine (HM1.out _ HA.out).mono ?_); rintro e4 w4 ⟨v4, rfl, hv4, hb4⟩
    obtain ⟨t9, x9, y9, rfl, ⟨a91, l91, k91, rfl, _⟩, ⟨a92, l92, k92, rfl, _⟩⟩ := hv4.isF
    have HT9 := zH (HT.out.belowS hb4)
    have HB9 := zH (zaa HBW.out hb4)
    have HV9 := zH hv4
    obtain ⟨_, d0, d1, d2, f0, f1, f2⟩ := HT9.out
    clear hv4 hb4 c0 c1 c2 c3))
 refine zoa rfl rfl Tryz.aggF Tryz.sizeF (HT9.out.set _ _ _) rfl ?_
 exact ⟨_, rfl, HV9.out.set3 HT9.out (fun z => by simp) (fun z => by simp) _ _ _, zga HB9.out (Nat.le_succ _) _ _ _⟩
set_option maxRecDepth 100000 in
set_option maxHeartbeats 3200000 in
/-- The zero value of a law has no mean. -/
theorem pmoment_zero (n : Nat) (w : World) : Calls Tryz.prog 37 #[zah, .int .i64 (n : Nat)] w (fun e w' => e = .returned (.tuple #[.agg #[.bool false, .slice none 0 0, .slice none 0 0], .int .i64 1]) ∧ Below w.heap.size w w') := by
 unfold zah
 have hba := zca w (.cells #[.string { data := #[] }, .slice none 0 0, .slice none 0 0, .slice none 0 0] 52)
 have hbb := zca (w.alloc (.cells #[.string { data := #[] }, .slice none 0 0, .slice none 0 0, .slice none 0 0] 52)) (.cells #[.bool false, .slice none 0 0, .slice none 0 0] 38)
 have HC := zH ((C4.new w 52 (.string { data := #[] }) (.slice none 0 0) (.slice none 0 0) (.slice none 0 0)).belowS hbb)
 have HT := zH (C3.newB (b := w.heap.size + 1) (w.alloc (.cells #[.string { data := #[] }, .slice none 0 0, .slice none 0 0, .slice none 0 0] 52)) 38 (.bool false) (.slice none 0 0) (.slice none 0 0) (by show (w.heap.push _).size = _; rw [Array.size_push]))
 have HBW := zH (zaa hba hbb)
 clear hba hbb
 go_enter Tryz.func37, Tryz.ntmps37
 go_upto_region 1 with fail
 generalize (w.alloc (.cells #[.string { data := #[] }, .slice none 0 0, .slice none 0 0, .slice none 0 0] 52)).alloc (.cells #[.bool false, .slice none 0 0, .slice none 0 0] 38) = W2 at *
 obtain ⟨_, c0, c1, c2, c3, _⟩ := HC.out
 go_wp2_with (first
  |(go_at_call 58; (with_reducible refine (zym _ _).mono ?_); rintro e4 w4 ⟨rfl, hb4⟩
    have HT9 := zH (HT.out.belowS hb4)
    have HB9 := zH (zaa HBW.out hb4)
    obtain ⟨_, d0, d1, d2, f0, f1, f2⟩ := HT9.out
    clear hb4 c0 c1 c2 c3))
 refine zoa rfl rfl Tryz.aggF Tryz.sizeF (HT9.out.set _ _ _) rfl ?_
 exact ⟨rfl, zga HB9.out (Nat.le_succ _) _ _ _⟩
set_option maxRecDepth 100000 in
set_option maxHeartbeats 3200000 in
theorem pmean_zero (w : World) : Calls Tryz.prog 36 #[zah] w (fun e w' => e = .returned (.tuple #[.agg #[.bool false, .slice none 0 0, .slice none 0 0], .int .i64 1]) ∧ Below w.heap.size w w') := by
 unfold zah
 have hba := zca w (.cells #[.string { data := #[] }, .slice none 0 0, .slice none 0 0, .slice none 0 0] 52)
 have hbb := zca (w.alloc (.cells #[.string { data := #[] }, .slice none 0 0, .slice none 0 0, .slice none 0 0] 52)) (.cells #[.bool false, .slice none 0 0, .slice none 0 0] 38)
 have HC := zH ((C4.new w 52 (.string { data := #[] }) (.slice none 0 0) (.slice none 0 0) (.slice none 0 0)).belowS hbb)
 have HT := zH (C3.newB (b := w.heap.size + 1) (w.alloc (.cells #[.string { data := #[] }, .slice none 0 0, .slice none 0 0, .slice none 0 0] 52)) 38 (.bool false) (.slice none 0 0) (.slice none 0 0) (by show (w.heap.push _).size = _; rw [Array.size_push]))
 have HBW := zH (zaa hba hbb)
 have HZ : Hid (∀ w0, Calls Tryz.prog 37 #[.agg #[.string { data := #[] }, .slice none 0 0, .slice none 0 0, .slice none 0 0], .int .i64 1] w0 (fun e w' => e = .returned (.tuple #[.agg #[.bool false, .slice none 0 0, .slice none 0 0], .int .i64 1]) ∧ Below w0.heap.size w0 w')) := zH (fun w0 => pmoment_zero 1 w0)
 clear hba hbb
 go_enter Tryz.func36, Tryz.ntmps36
 go_upto_region 1 with fail
 generalize (w.alloc (.cells #[.string { data := #[] }, .slice none 0 0, .slice none 0 0, .slice none 0 0] 52)).alloc (.cells #[.bool false, .slice none 0 0, .slice none 0 0] 38) = W2 at *
 obtain ⟨_, c0, c1, c2, c3, _⟩ := HC.out
 go_wp2_with (first
  |(go_at_call 37; (with_reducible refine (HZ.out _).mono ?_); rintro e4 w4 ⟨rfl, hb4⟩
    have HT9 := zH (HT.out.belowS hb4)
    have HB9 := zH (zaa HBW.out hb4)
    obtain ⟨_, d0, d1, d2, f0, f1, f2⟩ := HT9.out
    clear hb4 c0 c1 c2 c3))
 refine zoa rfl rfl Tryz.aggF Tryz.sizeF (HT9.out.set _ _ _) rfl ?_
 exact ⟨rfl, zga HB9.out (Nat.le_succ _) _ _ _⟩
def law1 : LQ := zho 1 1
def zil : LQ := zho 1 2
theorem lim2 : zvg 2 := ⟨by decide +kernel, by decide +kernel, by decide +kernel⟩
theorem law1_p : zxb law1 := erl_law (by decide) (by decide) limQ_one (by decide +kernel)
theorem law2_p : zxb zil := erl_law (by decide) (by decide) lim2 (by decide +kernel)
theorem over12 : over 1 2 2 := ⟨2, by decide +kernel, by decide⟩
theorem law1_s : SmL 1 2 law1 := erl_sm (by decide) (zeg.mono (by decide))
theorem law2_s : SmL 1 2 zil := erl_sm (by decide) over12
theorem law2_m : MomP zil 1 1 := (zto law2_p law2_s (by decide) (by decide) (by decide) (by decide) (DS := 1) (by decide) (by decide) (fun i _ => zml (by decide) i)).1
theorem law12_n : bfN law1 zil = 1 := by decide
theorem law12_b : BefP law1 zil := bef_small law1_p law2_p law1_s law2_s (by decide) (by decide) (by decide) (by decide) (by rw [law12_n]; decide) (DS := 1) (by decide) (by decide) (fun r _ => by
 unfold bfS
 have h := over.mul (zml (q := 1) (n := 1) (by decide) (r / zil.start.length)) (zml (q := 2) (n := 1) (by decide) (r % zil.start.length))
 have e1 : stQ law1 (r / zil.start.length) = 0 ∨ stQ law1 (r / zil.start.length) = 1 := by
  have := erl_st (q := 1) (n := 1) (by decide) (r / zil.start.length)
  unfold law1
  rw [this]
  split
  ·exact Or.inr rfl
  ·exact Or.inl rfl
 have e2 : stQ zil (r % zil.start.length) = 0 ∨ stQ zil (r % zil.start.length) = 1 := by
  have := erl_st (q := 2) (n := 1) (by decide) (r % zil.start.length)
  rw [show stQ zil = stQ (zho 1 2) from rfl, this]
  split
  ·exact Or.inr rfl
  ·exact Or.inl rfl
 rcases e1 with e1 | e1 <;> rcases e2 with e2 | e2 <;> rw [e1, e2]
 ·rw [Rat.zero_mul]; exact over.zero _ _
 ·rw [Rat.zero_mul]; exact over.zero _ _
 ·rw [Rat.mul_zero]; exact over.zero _ _
 ·rw [Rat.mul_one]; exact zeg.mono (by decide))
theorem law2_q : zfo zil 1 = mkRat 1 2 := by decide +kernel
theorem law12_q : befQ law1 zil = mkRat 1 3 := by decide +kernel
theorem pexp_one (va : Value) (w : World) (ha : zqa w va 1) : Calls Tryz.prog 26 #[va] w (fun e w' => ∃ v, e = .returned (.tuple #[v, .int .i64 0]) ∧ zgm w' v law1 ∧ Below w.heap.size w w') := by
 refine (zig va _ _ _ w ha.raw).mono ?_
 rintro e w' ⟨v, er, rfl, hb, _, _, h⟩
 obtain ⟨rfl, h2⟩ := h (by decide) (by decide +kernel)
 have h3 := h2.lawE
 rw [zvb] at h3
 exact ⟨v, rfl, h3, hb⟩
theorem pexp_two (va : Value) (w : World) (ha : zqa w va 2) : Calls Tryz.prog 26 #[va] w (fun e w' => ∃ v, e = .returned (.tuple #[v, .int .i64 0]) ∧ zgm w' v zil ∧ Below w.heap.size w w') := by
 refine (zig va _ _ _ w ha.raw).mono ?_
 rintro e w' ⟨v, er, rfl, hb, _, _, h⟩
 obtain ⟨rfl, h2⟩ := h (by decide) (by decide +kernel)
 have h3 := h2.lawE
 rw [zvb] at h3
 exact ⟨v, rfl, h3, hb⟩
theorem pmean_two (va : Value) (w : World) (ha : zhm w va zil) : Calls Tryz.prog 36 #[va] w (RF0 w (mkRat 1 2)) := by
 rw [← law2_q]
 exact zep va zil w ha law2_p law2_m
theorem pbefore_12 (va vb : Value) (w : World) (ha : zhm w va law1) (hb : zhm w vb zil) : Calls Tryz.prog 32 #[va, vb] w (RF0 w (mkRat 1 3)) := by
 rw [← law12_q]
 exact zof va vb law1 zil w ha hb law1_p law2_p law12_b
theorem r2int_2a (w : World) : Calls Tryz.prog 20 #[.int .i64 2] w (RF1 w 2) := by
 have h := zdp 2 w (by decide)
 have e : fq false 2 1 = 2 := by decide +kernel
 rw [e] at h
 exact h
theorem zfp (a b : Nat) (y z : Int) (w : World) (hy : y = (a : Int)) (hz : z = (b : Int)) (ha : a < 4294967296) (hb : b < 4294967296) (hb0 : b ≠ 0) :
 Calls Tryz.prog 18 #[.int .i64 y, .int .i64 z] w (RF0 w (fq false a b)) := by subst hy; subst hz; exact zgf a b w ha hb hb0
theorem zmm (w : World) : Calls Tryz.prog 18 #[.int .i64 1, .int .i64 2] w (RF0 w (mkRat 1 2)) := zfp 1 2 1 2 w rfl rfl (by decide) (by decide) (by decide)
theorem r2make_13a (w : World) : Calls Tryz.prog 18 #[.int .i64 1, .int .i64 3] w (RF0 w (mkRat 1 3)) := zfp 1 3 1 3 w rfl rfl (by decide) (by decide) (by decide)
theorem zgm.parts2 {w : World} {v : Value} {q : Rat} (h : zgm w v (zho 1 q)) : ∃ sa sk ra rk ea ek, v = .agg #[.string { data := #[] }, .slice sa 1 sk, .slice ra 1 rk, .slice ea 1 ek] ∧ True := by
 obtain ⟨sv, rv, ev, rfl, hs, hr, he⟩ := h
 obtain ⟨ra, rn, rk, rfl, _⟩ := id hr.sl
 obtain ⟨sa, sn, sk, rfl, _⟩ := id hs.sl
 obtain ⟨ea, en, ek, rfl, _⟩ := id he.sl
 have hsn : sn = 1 := hs.len
 have hrn : rn = 1 := hr.len
 have hen : en = 1 := he.len
 subst hsn hrn hen
 exact ⟨sa, sk, ra, rk, ea, ek, rfl, trivial⟩
set_option maxRecDepth 100000 in
set_option maxHeartbeats 6400000 in
theorem awake20_any (w : World) : Calls Tryz.prog 25 #[] w (fun e w' => e = .returned (.bool true) ∧ Below w.heap.size w w') := by
 have HB := zH (Below.refl w.heap.size w)
 have HZM : Hid (∀ w0, Calls Tryz.prog 36 #[.agg #[.string { data := #[] }, .slice none 0 0, .slice none 0 0, .slice none 0 0]] w0 (fun e w' => e = .returned (.tuple #[.agg #[.bool false, .slice none 0 0, .slice none 0 0], .int .i64 1]) ∧ Below w0.heap.size w0 w')) := zH (fun w0 => pmean_zero w0)
 go_enter Tryz.func25, Tryz.ntmps25
 go_upto_region 2 with (first
  |(go_at_call 20; (with_reducible refine (r2int_one _).mono ?_); rintro e9 w9 ⟨v9, rfl, hv9, hb9⟩
    obtain ⟨t9, x9, y9, rfl, ⟨a91, l91, k91, rfl, _⟩, ⟨a92, l92, k92, rfl, _⟩⟩ := hv9.isF
    replace HB := zH (zaa HB.out hb9))
  |(go_at_call 26; (with_reducible refine (pexp_one _ _ hv9).mono ?_); rintro e1 w1 ⟨v1, rfl, hv1, hb1⟩
    clear hv9 hb9
    obtain ⟨sa1, sk1, ra1, rk1, ea1, ek1, rfl, _⟩ := hv1.parts2
    have hba := zca w1 (.cells #[.string { data := #[] }, .slice sa1 1 sk1, .slice ra1 1 rk1, .slice ea1 1 ek1] 52)
    have hbb := zaa hb1 hba
    have HC1 := zH (C4.new w1 52 (.string { data := #[] }) (.slice sa1 1 sk1) (.slice ra1 1 rk1) (.slice ea1 1 ek1))
    have HF1 := zH (hv1.below hba)
    replace HB := zH (zaa HB.out hbb)
    clear hv1 hb1 hba hbb))
 obtain ⟨b1, hb1⟩ : ∃ b, w1.heap.size = b := ⟨_, rfl⟩
 rw [hb1] at HC1 ⊢
 clear hb1
 generalize w1.alloc (.cells #[.string { data := #[] }, .slice sa1 1 sk1, .slice ra1 1 rk1, .slice ea1 1 ek1] 52) = W1 at *
 go_upto_region 3 with (first
  |(go_at_call 20; (with_reducible refine (r2int_2a _).mono ?_); rintro e9 w9 ⟨v9, rfl, hv9, hb9⟩
    obtain ⟨t9, x9, y9, rfl, ⟨a91, l91, k91, rfl, _⟩, ⟨a92, l92, k92, rfl, _⟩⟩ := hv9.isF
    replace HB := zH (zaa HB.out hb9); replace HC1 := zH (HC1.out.belowS hb9); replace HF1 := zH (HF1.out.below hb9))
  |(go_at_call 26; (with_reducible refine (pexp_two _ _ hv9).mono ?_); rintro e2 w2 ⟨v2, rfl, hv2, hb2⟩
    clear hv9 hb9
    obtain ⟨sa2, sk2, ra2, rk2, ea2, ek2, rfl, _⟩ := hv2.parts2
    have hba := zca w2 (.cells #[.string { data := #[] }, .slice sa2 1 sk2, .slice ra2 1 rk2, .slice ea2 1 ek2] 52)
    have hbb := zaa hb2 hba
    have HC2 := zH (C4.new w2 52 (.string { data := #[] }) (.slice sa2 1 sk2) (.slice ra2 1 rk2) (.slice ea2 1 ek2))
    have HF2 := zH (hv2.below hba)
    replace HB := zH (zaa HB.out hbb); replace HC1 := zH (HC1.out.belowS hbb); replace HF1 := zH (HF1.out.below hbb)
    clear hv2 hb2 hba hbb))
 obtain ⟨b2, hb2⟩ : ∃ b, w2.heap.size = b := ⟨_, rfl⟩
 rw [hb2] at HC2 ⊢
 clear hb2
 generalize w2.alloc (.cells #[.string { data := #[] }, .slice sa2 1 sk2, .slice ra2 1 rk2, .slice ea2 1 ek2] 52) = W2 at *
 obtain ⟨-, c0, c1, c2, c3, -, -, -, -⟩ := HC2.out
 go_upto_region 4 with (first
  |(go_at_call 36; (with_reducible refine (pmean_two _ _ HF2.out.lawC).mono ?_); rintro e3 w3 ⟨v3, rfl, hv3, hb3⟩
    clear c0 c1 c2 c3
    obtain ⟨t3, x3, y3, rfl, ⟨a31, l31, k31, rfl, _⟩, ⟨a32, l32, k32, rfl, _⟩⟩ := hv3.isF
    have hba := zca w3 (.cells #[.bool t3, .slice a31 l31 k31, .slice a32 l32 k32] 38)
    have hbb := zaa hb3 hba
    have HC3 := zH (C3.new w3 38 (.bool t3) (.slice a31 l31 k31) (.slice a32 l32 k32))
    have HF3 := zH (hv3.below hba)
    replace HB := zH (zaa HB.out hbb); replace HC1 := zH (HC1.out.belowS hbb); replace HF1 := zH (HF1.out.below hbb); replace HC2 := zH (HC2.out.belowS hbb); replace HF2 := zH (HF2.out.below hbb)
    clear hv3 hb3 hba hbb))
 obtain ⟨b3, hb3⟩ : ∃ b, w3.heap.size = b := ⟨_, rfl⟩
 rw [hb3] at HC3 ⊢
 clear hb3
 generalize w3.alloc (.cells #[.bool t3, .slice a31 l31 k31, .slice a32 l32 k32] 38) = W3 at *
 obtain ⟨-, c0, c1, c2, c3, -, -, -, -⟩ := HC1.out
 obtain ⟨-, d0, d1, d2, d3, -, -, -, -⟩ := HC2.out
 go_upto_region 5 with (first
  |(go_at_call 32; (with_reducible refine (pbefore_12 _ _ _ HF1.out.lawC HF2.out.lawC).mono ?_); rintro e4 w4 ⟨v4, rfl, hv4, hb4⟩
    clear c0 c1 c2 c3 d0 d1 d2 d3
    obtain ⟨t4, x4, y4, rfl, ⟨a41, l41, k41, rfl, _⟩, ⟨a42, l42, k42, rfl, _⟩⟩ := hv4.isF
    have hba := zca w4 (.cells #[.bool t4, .slice a41 l41 k41, .slice a42 l42 k42] 38)
    have hbb := zaa hb4 hba
    have HC4 := zH (C3.new w4 38 (.bool t4) (.slice a41 l41 k41) (.slice a42 l42 k42))
    have HF4 := zH (hv4.below hba)
    replace HB := zH (zaa HB.out hbb); replace HC3 := zH (HC3.out.belowS hbb); replace HF3 := zH (HF3.out.below hbb)
    clear hv4 hb4 hba hbb))
 obtain ⟨b4, hb4⟩ : ∃ b, w4.heap.size = b := ⟨_, rfl⟩
 rw [hb4] at HC4 ⊢
 clear hb4
 generalize w4.alloc (.cells #[.bool t4, .slice a41 l41 k41, .slice a42 l42 k42] 38) = W4 at *
 clear HC1 HF1 HC2 HF2
 go_upto_region 6 with (first
  |(go_at_call 36; (with_reducible refine (HZM.out _).mono ?_); rintro e6 w6 ⟨rfl, hb6⟩
    have hba := zca w6 (.cells #[.bool false, .slice none 0 0, .slice none 0 0] 38)
    have hbb := zaa hb6 hba
    replace HB := zH (zaa HB.out hbb); replace HC3 := zH (HC3.out.belowS hbb); replace HF3 := zH (HF3.out.below hbb); replace HC4 := zH (HC4.out.belowS hbb); replace HF4 := zH (HF4.out.below hbb)
    clear hb6 hba hbb))
 generalize w6.alloc (.cells #[.bool false, .slice none 0 0, .slice none 0 0] 38) = W6 at *
 go_upto_region 7 with (first
  |(go_at_call 18; (with_reducible refine (zmm _).mono ?_); rintro e5 w5 ⟨v5, rfl, hv5, hb5⟩
    obtain ⟨t5, x5, y5, rfl, ⟨a51, l51, k51, rfl, _⟩, ⟨a52, l52, k52, rfl, _⟩⟩ := hv5.isF
    have hba := zca w5 (.cells #[.bool t5, .slice a51 l51 k51, .slice a52 l52 k52] 38)
    have hbb := zaa hb5 hba
    have HC5 := zH (C3.new w5 38 (.bool t5) (.slice a51 l51 k51) (.slice a52 l52 k52))
    have HF5 := zH (hv5.below hba)
    replace HB := zH (zaa HB.out hbb); replace HC3 := zH (HC3.out.belowS hbb); replace HF3 := zH (HF3.out.below hbb); replace HC4 := zH (HC4.out.belowS hbb); replace HF4 := zH (HF4.out.below hbb)
    clear hv5 hb5 hba hbb))
 obtain ⟨b5, hb5⟩ : ∃ b, w5.heap.size = b := ⟨_, rfl⟩
 rw [hb5] at HC5 ⊢
 clear hb5
 generalize w5.alloc (.cells #[.bool t5, .slice a51 l51 k51, .slice a52 l52 k52] 38) = W5 at *
 go_upto_region 8 with (first
  |(go_at_call 18; (with_reducible refine (r2make_13a _).mono ?_); rintro e7 w7 ⟨v7, rfl, hv7, hb7⟩
    obtain ⟨t7, x7, y7, rfl, ⟨a71, l71, k71, rfl, _⟩, ⟨a72, l72, k72, rfl, _⟩⟩ := hv7.isF
    have hba := zca w7 (.cells #[.bool t7, .slice a71 l71 k71, .slice a72 l72 k72] 38)
    have hbb := zaa hb7 hba
    have HC7 := zH (C3.new w7 38 (.bool t7) (.slice a71 l71 k71) (.slice a72 l72 k72))
    have HF7 := zH (hv7.below hba)
    replace HB := zH (zaa HB.out hbb); replace HC3 := zH (HC3.out.belowS hbb); replace HF3 := zH (HF3.out.below hbb); replace HC4 := zH (HC4.out.belowS hbb); replace HF4 := zH (HF4.out.below hbb); replace HC5 := zH (HC5.out.belowS hbb); replace HF5 := zH (HF5.out.below hbb)
    clear hv7 hb7 hba hbb))
 obtain ⟨b7, hb7⟩ : ∃ b, w7.heap.size = b := ⟨_, rfl⟩
 rw [hb7] at HC7 ⊢
 clear hb7
 generalize w7.alloc (.cells #[.bool t7, .slice a71 l71 k71, .slice a72 l72 k72] 38) = W7 at *
 obtain ⟨-, c0, c1, c2, -, -, -⟩ := HC3.out
 obtain ⟨-, d0, d1, d2, -, -, -⟩ := HC5.out
 obtain ⟨-, p0, p1, p2, -, -, -⟩ := HC4.out
 obtain ⟨-, q0, q1, q2, -, -, -⟩ := HC7.out
 go_wp2_with (first
  |(go_at_call 61; (with_reducible refine (same_frac _ _ (mkRat 1 2) (mkRat 1 2) _ HF3.out HF5.out).mono ?_); rintro e10 w10 ⟨⟨z10, rfl, hz10⟩, hb10⟩; obtain rfl : z10 = true := hz10.2 rfl
    clear hz10 c0 c1 c2 d0 d1 d2 p0 p1 p2 q0 q1 q2
    replace HB := zH (zaa HB.out hb10); replace HC4 := zH (HC4.out.belowS hb10); replace HF4 := zH (HF4.out.below hb10); replace HC7 := zH (HC7.out.belowS hb10); replace HF7 := zH (HF7.out.below hb10)
    obtain ⟨-, p0, p1, p2, -, -, -⟩ := HC4.out
    obtain ⟨-, q0, q1, q2, -, -, -⟩ := HC7.out
    clear hb10)
  |(go_at_call 61; (with_reducible refine (same_frac _ _ (mkRat 1 3) (mkRat 1 3) _ HF4.out HF7.out).mono ?_); rintro e11 w11 ⟨⟨z11, rfl, hz11⟩, hb11⟩; obtain rfl : z11 = true := hz11.2 rfl
    clear hz11 p0 p1 p2 q0 q1 q2
    replace HB := zH (zaa HB.out hb11)
    clear hb11))
 go_ret
 exact ⟨rfl, HB.out⟩
theorem neg_lt {q : Rat} (h : q ≠ 0) : (!decide (q < 0)) = decide (-q < 0) := by
 by_cases h1 : q < 0
 ·rw [decide_eq_true h1, decide_eq_false (by grind)]; rfl
 ·rw [decide_eq_false h1, decide_eq_true (by grind)]; rfl
set_option maxHeartbeats 800000 in
theorem r2opp_can (v : Value) (q : Rat) (w : World) (h : zqa w v q) : Calls Tryz.prog 105 #[v] w (RF1 w (-q)) := by
 have H0 := zH h
 obtain ⟨a, b, rfl, ha, hb⟩ := id h
 obtain ⟨aa, al, ak, rfl, _⟩ := id ha.v.sl
 obtain ⟨ba, bl, bk, rfl, _⟩ := id hb.v.sl
 have hbx := zca w (.cells #[.bool (decide (q < 0)), .slice aa al ak, .slice ba bl bk] 38)
 have hb2 := zca (w.alloc (.cells #[.bool (decide (q < 0)), .slice aa al ak, .slice ba bl bk] 38)) (.cells #[.bool false, .slice none 0 0, .slice none 0 0] 38)
 have hC := (C3.new w 38 (.bool (decide (q < 0))) (.slice aa al ak) (.slice ba bl bk)).belowS hb2
 have hR := C3.newB (b := w.heap.size + 1) (w.alloc (.cells #[.bool (decide (q < 0)), .slice aa al ak, .slice ba bl bk] 38)) 38 (.bool false) (.slice none 0 0) (.slice none 0 0) (by simp)
 have HC := zH hC
 have HR := zH hR
 have HQ := zH ((h.below hbx).below hb2)
 have HA := zH (((ha.below hbx).below hb2).nat)
 have hbb := zaa hbx hb2
 have HLN : Hid (zda q.num.natAbs = 0 ↔ q = 0) := zH (by rw [zta]; constructor <;> intro h <;> simp_all)
 obtain ⟨_, c0, c1, c2, _, _, _⟩ := id hC
 clear hC hR h ha hb
 by_cases hz : q = 0
 ·have HZ := zH hz
  clear hz
  go_enter Tryz.func105, Tryz.ntmps105
  go_wp2_with (go_at_call 106; (with_reducible refine (zra _ q.num.natAbs _ HA.out).mono ?_); rintro e1 w1 ⟨r1, rfl, hr1, hb1⟩
               have s1 := hr1.v.sl
               have l1 : slen r1 = 0 := hr1.v.len.trans (HLN.out.2 HZ.out)
               obtain ⟨_, c0, c1, c2, _, _, _⟩ := HC.out.belowS hb1
               have HR1 := zH (HR.out.belowS hb1)
               obtain ⟨_, d0, d1, d2, d3, d4, d5⟩ := HR1.out)
  refine zab rfl rfl Tryz.aggF Tryz.sizeF (HR1.out.set _ _ _) rfl ?_
  refine ⟨_, rfl, ?_, zga (zaa hbb hb1) (Nat.le_succ _) _ _ _⟩
  have h9 : -q = q := by rw [HZ.out]; decide +kernel
  rw [h9]
  exact (HQ.out.below hb1).set3 HR1.out (fun z => by simp) (fun z => by simp) _ _ _
 ·have HZ := zH hz
  have hl : ∃ L, zda q.num.natAbs = L ∧ 0 < L := ⟨_, rfl, Nat.pos_of_ne_zero fun e => hz (HLN.out.1 e)⟩
  obtain ⟨L, hL, hL0⟩ := hl
  have HL := zH hL
  clear hz hL
  go_enter Tryz.func105, Tryz.ntmps105
  go_wp2_with (go_at_call 106; (with_reducible refine (zra _ q.num.natAbs _ HA.out).mono ?_); rintro e1 w1 ⟨r1, rfl, hr1, hb1⟩
               have s1 := hr1.v.sl
               have l1 : slen r1 = L := hr1.v.len.trans HL.out
               obtain ⟨_, c0, c1, c2, _, _, _⟩ := HC.out.belowS hb1
               have HR1 := zH (HR.out.belowS hb1)
               obtain ⟨_, d0, d1, d2, d3, d4, d5⟩ := HR1.out)
  refine zab rfl rfl Tryz.aggF Tryz.sizeF (HR1.out.set _ _ _) rfl ?_
  refine ⟨_, rfl, ?_, zga (zaa hbb hb1) (Nat.le_succ _) _ _ _⟩
  obtain ⟨_, _, e9, e10, e11⟩ := HQ.out.below hb1
  injection e9 with e9
  injection e9 with e9
  simp only [List.cons.injEq, and_true] at e9
  obtain ⟨_, rfl, rfl⟩ := e9
  have hN : zqa w1 (.agg #[.bool (!decide (q < 0)), .slice aa al ak, .slice ba bl bk]) (-q) := ⟨_, _, by rw [neg_lt HZ.out], by rw [Rat.neg_num, Int.natAbs_neg]; exact e10, by rw [Rat.neg_den]; exact e11⟩
  exact hN.set3 HR1.out (fun z => by simp) (fun z => by simp) _ _ _
theorem r2same_can (va vb : Value) (p q : Rat) (w : World) (ha : zqa w va p) (hb : zqa w vb q) (hp : fits p) (hq : fits q) : Calls Tryz.prog 33 #[va, vb] w fun en w' => en = .returned (.bool (decide (p = q))) ∧ Below w.heap.size w w' := by
 have h := r2same_any va vb _ _ _ _ _ _ w ha.raw hb.raw ⟨p.den_nz, hp.2, hp.1⟩ ⟨q.den_nz, hq.2, hq.1⟩
 rw [zvb, zvb] at h
 exact h
end Go.Proofs.YtlpdkbmmbdfoiaaGreat
