/-
  The laws of a tape are valid and small; one of two times ends first. No program is walked here.
-/
import Derived.Test.YtlpdkbmmbdfoiaaGreatFTl4
import Derived.Test.YtlpdkbmmbdfoiaaGreatFTa4
import Derived.Test.YtlpdkbmmbdfoiaaGreatFPp4
import Derived.Test.YtlpdkbmmbdfoiaaGreatFSm3
import Derived.Test.YtlpdkbmmbdfoiaaGreatFTl3
set_option linter.unusedVariables false
set_option linter.unusedSimpArgs false
namespace Go.Proofs.YtlpdkbmmbdfoiaaGreat
open Go.RowKit
theorem bodyPost_c44 {P : Program} {fn : Func} {R : Ending → World → Prop} {a : Act} {w : World} {p q : Tmp} {ty : TypeId} {b c : Nat} {v0 v1 v2 v3 u0 u1 u2 u3 : Value} (h : fn.results = #[.cell p ty, .cell q ty])
 (hp : a.tmps.getD p undef = .pointer (some ⟨b, 0, none⟩)) (hq : a.tmps.getD q undef = .pointer (some ⟨c, 0, none⟩)) (hagg : ∀ w, (isAgg ty).run P w = .ok true w) (hs : ∀ w, (sizeOf ty).run P w = .ok 4 w) (hc : C4 w b v0 v1 v2 v3) (hc2 : C4 w c u0 u1 u2 u3) (hd : a.defers = [])
 (hR : R (.returned (.tuple #[.agg #[v0, v1, v2, v3], .agg #[u0, u1, u2, u3]])) w) : bodyPost P fn R .ret a w := by
 refine bodyPost_ret ?_ hd hR
 have e : (results fn a.tmps).run P w = ((asAddr (a.tmps.getD p undef)).run P w).andThen fun x w1 => ((loadVar ty x).run P w1).andThen fun v w2 => ((asAddr (a.tmps.getD q undef)).run P w2).andThen fun y w3 => ((loadVar ty y).run P w3).andThen fun u w4 => .ok (.tuple #[v, u]) w4 := by
  simp only [results, h]
  simp [Sem.run_bind, Result.andThen]
 rw [e, hp, hq]
 simp only [asAddr, Sem.run_pure, Result.andThen_ok, zpn hagg hs hc, zpn hagg hs hc2]
def RPair (w0 : World) (e : Ending) (w : World) : Prop := ∃ va vb a b, e = .returned (.tuple #[va, vb]) ∧ zgm w va a ∧ zgm w vb b ∧ zch 2 a ∧ zch 2 b ∧ Below w0.heap.size w0 w
theorem zgm.slices2 {w : World} {v : Value} {l : LQ} (h : zgm w v l) : ∃ sa sn sk ra rn rk ea en ek, v = .agg #[.string { data := #[] }, .slice sa sn sk, .slice ra rn rk, .slice ea en ek] := by
 obtain ⟨sv, rv, ev, rfl, hs, hr, he⟩ := h
 obtain ⟨ra, rn, rk, rfl, _⟩ := id hr.sl
 obtain ⟨sa, sn, sk, rfl, _⟩ := id hs.sl
 obtain ⟨ea, en, ek, rfl, _⟩ := id he.sl
 exact ⟨sa, sn, sk, ra, rn, rk, ea, en, ek, rfl⟩
set_option maxRecDepth 100000 in
set_option maxHeartbeats 3200000 in
theorem tpair_any (v : Value) (l : List Nat) (w : World) (h : zhc w v (bytes l)) (hb : ∀ x ∈ l, x < 256) : Calls Tryz.prog 31 #[v] w (RPair w) := by
 have hba := zca w (.cells #[.string { data := #[] }, .slice none 0 0, .slice none 0 0, .slice none 0 0] 52)
 have hbb := zca (w.alloc (.cells #[.string { data := #[] }, .slice none 0 0, .slice none 0 0, .slice none 0 0] 52)) (.cells #[.string { data := #[] }, .slice none 0 0, .slice none 0 0, .slice none 0 0] 52)
 have hz1 : (w.alloc (.cells #[.string { data := #[] }, .slice none 0 0, .slice none 0 0, .slice none 0 0] 52)).heap.size = w.heap.size + 1 := by show (w.heap.push _).size = _; rw [Array.size_push]
 have HC1 := zH ((C4.new w 52 (.string { data := #[] }) (.slice none 0 0) (.slice none 0 0) (.slice none 0 0)).belowS hbb)
 have hc2 := C4.new (w.alloc (.cells #[.string { data := #[] }, .slice none 0 0, .slice none 0 0, .slice none 0 0] 52)) 52 (.string { data := #[] }) (.slice none 0 0) (.slice none 0 0) (.slice none 0 0)
 rw [hz1] at hc2
 have HC2 := zH hc2
 have HB := zH (zaa hba hbb)
 have HV := zH (h.below HB.out)
 have sv := zhc.sl h
 clear h hba hbb hz1 hc2
 go_enter Tryz.func31, Tryz.ntmps31
 go_upto_region 1 with fail
 generalize (w.alloc (.cells #[.string { data := #[] }, .slice none 0 0, .slice none 0 0, .slice none 0 0] 52)).alloc (.cells #[.string { data := #[] }, .slice none 0 0, .slice none 0 0, .slice none 0 0] 52) = W2 at *
 have tok1 : True := trivial
 have HL2 : Hid (∀ w0 bt a l, znb w0 bt l a → Calls Tryz.prog 54 #[.pointer (some ⟨bt, 0, none⟩), .int .i64 2] w0 (RTLaw w0 bt l 2)) := zH (fun w0 bt a l h => tlaw_any bt a l 2 w0 h (by decide) (by decide))
 go_wp2_with (first
  |(go_at_call 41; (with_reducible refine (new_any _ l _ HV.out hb).mono ?_); rintro e3 w3 ⟨bt, rfl, hbt, hT3, hb3⟩
    have HC13 := zH (HC1.out.belowS hb3)
    have HC23 := zH (HC2.out.belowS hb3)
    have HB3 := zH (zaa HB.out hb3)
    have HBT := zH hbt
    have HBTL := zH hT3.lt
    have HSZ := zH hb3.size
    clear hb3 hbt)
  |(go_at_call 54; have _t := tok1; (with_reducible refine (HL2.out _ bt _ _ hT3).mono ?_); rintro e4 w4 ⟨v4, a4, x4, rfl, hv4, ha4, hT4, hm4⟩
    obtain ⟨sa4, sn4, sk4, ra4, rn4, rk4, ea4, en4, ek4, rfl⟩ := hv4.lawE.slices2
    have HV4 := zH hv4
    have HM4 := zH hm4
    clear hv4 hm4 tok1 _t)
  |(go_at_call 54; (with_reducible refine (HL2.out _ bt _ _ hT4).mono ?_); rintro e5 w5 ⟨v5, a5, x5, rfl, hv5, ha5, hT5, hm5⟩
    obtain ⟨sa5, sn5, sk5, ra5, rn5, rk5, ea5, en5, ek5, rfl⟩ := hv5.lawE.slices2
    have HM5 := zH (HM4.out.trans hm5)
    have hbt3 : bt < w3.heap.size := HBTL.out
    have HV45 : Hid (LawN w5 (w.heap.size + 1 + 1) _ a4 ∧ LawN w5 (w.heap.size + 1 + 1) _ a5) := zH (And.intro ((HV4.out.moves (hm5.moves hbt3)).mono (by have h1 := HSZ.out; have h2 := HC2.out.lt; omega)) (hv5.mono (by have h1 := HSZ.out; have h2 := HC2.out.lt; have h3 := HM4.out.size; omega)))
    have HC15 := zH (HC13.out.tmv HM5.out (fun z => by simp) (fun z => by simp) (fun z => by simp) (fun z => by simp))
    have HC25 := zH (HC23.out.tmv HM5.out (fun z => by simp) (fun z => by simp) (fun z => by simp) (fun z => by simp))
    obtain ⟨-, c0, c1, c2, c3, f0, f1, f2, f3⟩ := HC15.out
    obtain ⟨-, d0, d1, d2, d3, g0, g1, g2, g3⟩ := HC25.out
    clear hv5 hm5))
 have hs1 := HC15.out.set (.string { data := #[] }) (.slice sa4 sn4 sk4) (.slice ra4 rn4 rk4) (.slice ea4 en4 ek4)
 have hne : ∀ k, (⟨w.heap.size, k, none⟩ : Addr).block ≠ w.heap.size + 1 := fun k => by show w.heap.size ≠ w.heap.size + 1; omega
 have hne2 : ∀ k, (⟨w.heap.size + 1, k, none⟩ : Addr).block ≠ w.heap.size := fun k => by show w.heap.size + 1 ≠ w.heap.size; omega
 have hd1 := (((HC25.out.other (hne 0) (.string { data := #[] })).other (hne 1) (.slice sa4 sn4 sk4)).other (hne 2) (.slice ra4 rn4 rk4)).other (hne 3) (.slice ea4 en4 ek4)
 have l4 := HV45.out.1.set4 HC15.out (by omega) (.string { data := #[] }) (.slice sa4 sn4 sk4) (.slice ra4 rn4 rk4) (.slice ea4 en4 ek4)
 have l5 := HV45.out.2.set4 HC15.out (by omega) (.string { data := #[] }) (.slice sa4 sn4 sk4) (.slice ra4 rn4 rk4) (.slice ea4 en4 ek4)
 have l4' := l4.set4 hd1 (by omega) (.string { data := #[] }) (.slice sa5 sn5 sk5) (.slice ra5 rn5 rk5) (.slice ea5 en5 ek5)
 have l5' := l5.set4 hd1 (by omega) (.string { data := #[] }) (.slice sa5 sn5 sk5) (.slice ra5 rn5 rk5) (.slice ea5 en5 ek5)
 have hs2 := (((hs1.other (hne2 0) (.string { data := #[] })).other (hne2 1) (.slice sa5 sn5 sk5)).other (hne2 2) (.slice ra5 rn5 rk5)).other (hne2 3) (.slice ea5 en5 ek5)
 have hd2 := hd1.set (.string { data := #[] }) (.slice sa5 sn5 sk5) (.slice ra5 rn5 rk5) (.slice ea5 en5 ek5)
 refine bodyPost_c44 rfl rfl rfl Tryz.aggL Tryz.sizeL hs2 hd2 rfl ?_
 have hbB : Below w.heap.size w w5 := HB3.out.trans (HM5.out.below w.heap.size (by have h1 := HBT.out; have h2 := HC2.out.lt; omega) (by have h1 := HSZ.out; have h2 := HC2.out.lt; omega))
 exact ⟨_, _, a4, a5, rfl, l4'.lawE, l5'.lawE, ha4, ha5, zqd (zqd hbB (Nat.le_refl _) _ _ _ _) (Nat.le_succ _) _ _ _ _⟩
end Go.Proofs.YtlpdkbmmbdfoiaaGreat
namespace Go.Proofs.YtlpdkbmmbdfoiaaGreat
theorem zcn (m n : Nat) (f : Nat → Rat) : sg (m * n) f = sg m fun i => sg n fun j => f (i * n + j) := by
 induction m with
 | zero => rw [Nat.zero_mul]; rfl
 | succ m ih =>
   rw [Nat.succ_mul, zbn, ih]
   rfl
section
variable (a b : LQ)
def bfr : Mx := fun r c => if c = r then 0 else if c % b.start.length = r % b.start.length then rtQ a (r / b.start.length) (c / b.start.length) else if c / b.start.length = r / b.start.length then rtQ b (r % b.start.length) (c % b.start.length) else 0
def bfo (r : Nat) : Rat := zxf a (r / b.start.length) + zxf b (r % b.start.length)
end
section
variable {a b : LQ}
theorem zjj (hb : zxb b) {r : Nat} (hr : r < bfN a b) : r / b.start.length < a.start.length ∧ r % b.start.length < b.start.length :=
 ⟨Nat.div_lt_of_lt_mul (by rw [Nat.mul_comm]; exact hr), Nat.mod_lt _ (by have := hb.n1; omega)⟩
theorem bfA_mm (ha : zxb a) (hb : zxb b) {r c : Nat} (hr : r < bfN a b) (hc : c < bfN a b) : bfA a b r c = mmA (bfr a b) (bfo a b) r c := by
 obtain ⟨c1, c2⟩ := zjj hb hc
 unfold bfA bf2 mmA bfr bfo
 rw [at_eq]
 by_cases h : c = r
 ·rw [if_pos h, if_pos h.symm]
 ·have h' : ¬ r = c := fun e => h e.symm
  simp only [if_neg h, if_neg h']
  by_cases h1 : c % b.start.length = r % b.start.length
  ·simp only [if_pos h1]; grind
  ·simp only [if_neg h1]
   by_cases h2 : c / b.start.length = r / b.start.length
   ·simp only [if_pos h2, if_pos (And.intro h2 c2)]; grind
   ·simp only [if_neg h2, if_neg (fun e : c / b.start.length = r / b.start.length ∧ c % b.start.length < b.start.length => h2 e.1)]; grind
theorem zyn (r : Nat) : bfr a b r r = 0 := by unfold bfr; rw [if_pos rfl]
theorem bfr_nn (ha : zxb a) (hb : zxb b) {r c : Nat} (hr : r < bfN a b) (hc : c < bfN a b) : 0 ≤ bfr a b r c := by
 obtain ⟨c1, c2⟩ := zjj hb hc
 obtain ⟨r1, r2⟩ := zjj hb hr
 unfold bfr
 split
 ·exact Rat.le_refl
 ·split
  ·exact (ha.rt_lim r1 c1).1
  ·split
   ·exact (hb.rt_lim r2 c2).1
   ·exact Rat.le_refl
theorem bfr_row (ha : zxb a) (hb : zxb b) {i j : Nat} (hi : i < a.start.length) (hj : j < b.start.length) (x : Nat → Rat) :
 sg (bfN a b) (fun c => bfr a b (i * b.start.length + j) c * x c) = sg a.start.length (fun k => rtQ a i k * x (k * b.start.length + j)) + sg b.start.length fun k => rtQ b j k * x (i * b.start.length + k) := by
 unfold bfN
 rw [zcn]
 have e : ∀ k, k < a.start.length → (sg b.start.length fun t => bfr a b (i * b.start.length + j) (k * b.start.length + t) * x (k * b.start.length + t)) =
  rtQ a i k * x (k * b.start.length + j) + if i = k then sg b.start.length (fun t => rtQ b j t * x (i * b.start.length + t)) else 0 := fun k hk => by
  have e1 : (sg b.start.length fun t => bfr a b (i * b.start.length + j) (k * b.start.length + t) * x (k * b.start.length + t)) =
   sg b.start.length fun t => (if j = t then rtQ a i k * x (k * b.start.length + t) else 0) + (if i = k then rtQ b j t * x (i * b.start.length + t) else 0) := zma fun t ht => by
   unfold bfr
   rw [zbe ht, zyf ht, zbe hj, zyf hj]
   by_cases h1 : i = k
   ·subst h1
    by_cases h2 : j = t
    ·subst h2
     rw [if_pos rfl, if_pos rfl, if_pos rfl, ha.rt_diag hi, hb.rt_diag hj]; grind
    ·have h3 : ¬ i * b.start.length + t = i * b.start.length + j := fun e => h2 (by omega)
     rw [if_neg h3, if_neg (fun e => h2 e.symm), if_pos rfl, if_neg h2, if_pos rfl]; grind
   ·have h3 : ¬ k * b.start.length + t = i * b.start.length + j := fun e => by
     have h4 := congrArg (· / b.start.length) e
     simp only [zbe ht, zbe hj] at h4
     exact h1 h4.symm
    by_cases h2 : j = t
    ·subst h2
     rw [if_neg h3, if_pos rfl, if_pos rfl, if_neg h1]; grind
    ·rw [if_neg h3, if_neg (fun e => h2 e.symm), if_neg (fun e => h1 e.symm), if_neg h2, if_neg h1]; grind
  rw [e1, zvd, zfd (f := fun t => rtQ a i k * x (k * b.start.length + t)) hj]
  by_cases h1 : i = k
  ·simp only [if_pos h1]
  ·simp only [if_neg h1]; rw [zsi]
 rw [zma e, zvd, zfd (f := fun _ => sg b.start.length (fun t => rtQ b j t * x (i * b.start.length + t))) hi]
theorem bfr_sum (ha : zxb a) (hb : zxb b) {r : Nat} (hr : r < bfN a b) : sg (bfN a b) (bfr a b r) = sg a.start.length (rtQ a (r / b.start.length)) + sg b.start.length (rtQ b (r % b.start.length)) := by
 obtain ⟨r1, r2⟩ := zjj hb hr
 have h := bfr_row ha hb r1 r2 (fun _ => 1)
 rw [at_eq] at h
 have e : ∀ (n : Nat) (f : Nat → Rat), sg n (fun c => f c * 1) = sg n f := fun n f => zma fun i _ => Rat.mul_one _
 rw [e, e, e] at h
 exact h
theorem bfr_le (ha : zxb a) (hb : zxb b) {r : Nat} (hr : r < bfN a b) : sg (bfN a b) (bfr a b r) ≤ bfo a b r := by
 obtain ⟨r1, r2⟩ := zjj hb hr
 rw [bfr_sum ha hb hr]
 unfold bfo
 have h1 := ha.le_out r1
 have h2 := hb.le_out r2
 grind
theorem bf_esc (ha : zxb a) (hb : zxb b) : ∀ k i, i < a.start.length → esc a.start.length (rtQ a) (zxf a) k i → ∀ j, j < b.start.length → esc (bfN a b) (bfr a b) (bfo a b) k (i * b.start.length + j)
 | 0, i, hi, h, j, hj => by
   have h1 : sg a.start.length (rtQ a i) < zxf a i := h
   show sg _ _ < _
   rw [bfr_sum ha hb (zao hi hj)]
   unfold bfo
   rw [zbe hj, zyf hj]
   have h2 := hb.le_out hj
   grind
 | k + 1, i, hi, h, j, hj => by
   rcases h with h | ⟨t, ht, hr, h⟩
   ·exact Or.inl (bf_esc ha hb k i hi h j hj)
   ·refine Or.inr ⟨t * b.start.length + j, zao ht hj, ?_, bf_esc ha hb k t ht h j hj⟩
    unfold bfr
    rw [zbe hj, zyf hj, zbe hj, zyf hj]
    have h3 : ¬ t * b.start.length + j = i * b.start.length + j := fun e => by
     have h4 := congrArg (· / b.start.length) e
     simp only [zbe hj] at h4
     subst h4
     rw [ha.rt_diag hi] at hr
     exact absurd hr (by decide +kernel)
    rw [if_neg h3, if_pos rfl]
    exact hr
theorem bf_escP (ha : zxb a) (hb : zxb b) : ∀ r, r < bfN a b → ∃ k, esc (bfN a b) (bfr a b) (bfo a b) k r := fun r hr => by
 obtain ⟨r1, r2⟩ := zjj hb hr
 obtain ⟨k, hk⟩ := ha.escP _ r1
 have h := bf_esc ha hb k _ r1 hk _ r2
 rw [at_eq] at h
 exact ⟨k, h⟩
theorem bf_reg (ha : zxb a) (hb : zxb b) : dt (bfN a b) (bfA a b) ≠ 0 := by
 rw [zcd fun i j hi hj => bfA_mm ha hb hi hj]
 exact mm_dt (fun i hi => zyn i) (fun i j hi hj => bfr_nn ha hb hi hj) (fun i hi => bfr_le ha hb hi) (bf_escP ha hb)
theorem bf_eq (ha : zxb a) (hb : zxb b) : ∀ r, r < bfN a b → sg (bfN a b) (fun c => bfA a b r c * zyg a b c) = bfR a b r :=
 sol_eq (zff (B := fun i _ => bfR a b i) (bf_reg ha hb))
theorem bfA_row (ha : zxb a) (hb : zxb b) {i j : Nat} (hi : i < a.start.length) (hj : j < b.start.length) (x : Nat → Rat) :
 sg (bfN a b) (fun c => bfA a b (i * b.start.length + j) c * x c) = (zxf a i + zxf b j) * x (i * b.start.length + j) - (sg a.start.length (fun k => rtQ a i k * x (k * b.start.length + j)) + sg b.start.length fun k => rtQ b j k * x (i * b.start.length + k)) := by
 have hr := zao (m := a.start.length) hi hj
 rw [← bfr_row ha hb hi hj x]
 have e : sg (bfN a b) (fun c => bfA a b (i * b.start.length + j) c * x c) = sg (bfN a b) (fun c => mmA (bfr a b) (bfo a b) (i * b.start.length + j) c * x c) := zma fun c hc => by rw [bfA_mm ha hb hr hc]
 rw [e, mmA_row (n := bfN a b) (fun i hi => zyn i) hr]
 unfold bfo
 rw [zbe hj, zyf hj]
theorem zwl (ha : zxb a) (hb : zxb b) {x y : Nat → Rat} (hy : ∀ r, r < bfN a b → 0 ≤ y r) (hx : ∀ r, r < bfN a b → sg (bfN a b) (fun c => bfA a b r c * x c) = y r) : ∀ r, r < bfN a b → 0 ≤ x r :=
 mm_nonneg (fun i hi => zyn i) (fun i j hi hj => bfr_nn ha hb hi hj) (fun i hi => bfr_le ha hb hi) (bf_escP ha hb) hy (fun r hr => by
  rw [← hx r hr]
  exact zma fun c hc => by rw [bfA_mm ha hb hr hc])
variable {D B : Nat}
theorem bf_sms (ha : zxb a) (hb : zxb b) (hsa : SmL D B a) (hsb : SmL D B b) (hD : D ≠ 0) (hD1 : D ≤ 6720) (hB : D ≤ 10 * B) (hB1 : 10 * B ≤ 1814400) (hN : bfN a b ≤ 4) : SmS (bfN a b) D (10 * B) (bfA a b) where
 n1 := Nat.mul_pos (by have := ha.n1; omega) (by have := hb.n1; omega)
 n4 := hN
 d0 := hD
 d1 := hD1
 b0 := hB
 b1 := hB1
 a := fun r c hr hc => by
  obtain ⟨c1, c2⟩ := zjj hb hc
  obtain ⟨r1, r2⟩ := zjj hb hr
  unfold bfA bf2
  split
  ·exact (over.add hD (hsa.out ha hD r1) (hsb.out hb hD r2)).mono (by omega)
  ·split
   ·exact (over.sub hD (over.zero D 0) (hsa.r _ _ r1 c1)).mono (by omega)
   ·split
    ·exact (over.sub hD (over.zero D 0) (hsb.r _ _ r2 c2)).mono (by omega)
    ·exact over.zero _ _
 reg := bf_reg ha hb
theorem bef_small (ha : zxb a) (hb : zxb b) (hsa : SmL D B a) (hsb : SmL D B b) (hD : D ≠ 0) (hD1 : D ≤ 6720) (hB : D ≤ 10 * B) (hB1 : 10 * B ≤ 1814400) (hN : bfN a b ≤ 4) {DS : Nat} (hDS : DS ≠ 0) (hDS2 : DS ≤ 2 ^ 13) (hst : ∀ r, r < bfN a b → over DS (2 ^ 13) (bfS a b r)) : BefP a b := by
 have hS := bf_sms ha hb hsa hsb hD hD1 hB hB1 hN
 have hr : ∀ r, r < bfN a b → over D B (bfR a b r) := fun r hr => hsa.e _ (zjj hb hr).1
 have hB2 : B < 2 ^ 21 := Nat.lt_of_le_of_lt (show B ≤ 1814400 by omega) (by decide)
 have hB0 : 1 ≤ B := by omega
 have hD2 : D < 2 ^ 13 := Nat.lt_of_le_of_lt hD1 (by decide)
 obtain ⟨E, e1, e2, e3⟩ := hS.sol hD hr (bf_eq ha hb)
 refine ⟨hS.sys hD (Nat.lt_trans hD2 (by decide +kernel)) hB0 (Nat.lt_trans hB2 (by decide +kernel)) hr (bf_eq ha hb), ?_⟩
 refine zik (by omega) (by omega) (by decide) hDS hDS2 hst (Nat.mul_ne_zero e1 hD) ?_ ?_ e3
 ·exact Nat.lt_of_lt_of_le (Nat.mul_lt_mul'' e2 hD2) (by decide +kernel)
 ·exact Nat.lt_of_lt_of_le (Nat.mul_lt_mul_of_pos_left hB2 (by decide +kernel)) (by decide +kernel)
end
theorem tf_nums : ∀ x, x < 6 → ∀ y, y < 8 → fq false (x + 1) (y + 1) = mkRat (((x + 1) * (840 / (y + 1)) : Nat) : Int) 840 ∧ (x + 1) * (840 / (y + 1)) ≤ 5040 ∧ 0 < fq false (x + 1) (y + 1) ∧ zua (fq false (x + 1) (y + 1)).num.natAbs ≤ 32 ∧ zua (fq false (x + 1) (y + 1)).den ≤ 32 := by decide +kernel
theorem tfQ.over {q : Rat} (h : tfQ q) : over 840 5040 q := by
 obtain ⟨x, y, hx, hy, rfl⟩ := h
 obtain ⟨h1, h2, _⟩ := tf_nums x hx y hy
 exact ⟨_, h1, by rw [Int.natAbs_natCast]; exact h2⟩
theorem tfQ.pos {q : Rat} (h : tfQ q) : 0 < q := by
 obtain ⟨x, y, hx, hy, rfl⟩ := h
 exact (tf_nums x hx y hy).2.2.1
theorem tfQ.lim {q : Rat} (h : tfQ q) : zvg q := by
 obtain ⟨x, y, hx, hy, rfl⟩ := h
 obtain ⟨_, _, h1, h2, h3⟩ := tf_nums x hx y hy
 exact ⟨Rat.le_of_lt h1, h2, h3⟩
theorem st_nums : ∀ k, k < 9 → 0 ≤ fq false k 8 ∧ zua (fq false k 8).num.natAbs ≤ 32 ∧ zua (fq false k 8).den ≤ 32 := by decide +kernel
theorem st_over {k : Nat} (h : k < 9) : over 8 8 (fq false k 8) := ⟨(k : Int), by unfold fq sgn; simp, by simp; omega⟩
theorem fq_add8 (a b : Nat) : fq false a 8 + fq false b 8 = fq false (a + b) 8 := by
 unfold fq sgn
 simp only [Bool.false_eq_true, if_false]
 rw [Rat.mkRat_add_mkRat _ _ (by decide) (by decide), Rat.mkRat_eq_iff (by decide) (by decide)]
 push_cast
 grind
theorem lsum_st : ∀ ks : List Nat, zgg (ks.map fun k => fq false k 8) = fq false ks.sum 8
 | [] => by decide +kernel
 | k :: ks => by rw [List.map_cons, lsum_cons, lsum_st ks, fq_add8, List.sum_cons, Nat.add_comm]
theorem mem_sum : ∀ {ks : List Nat} {k : Nat}, k ∈ ks → k ≤ ks.sum
 | a :: ks, k, h => by
   rw [List.sum_cons]
   rcases List.mem_cons.1 h with rfl | h
   ·omega
   ·have := mem_sum h; omega
section
variable {n left : Nat} {S E : List Rat} {R : List (List Rat)}
theorem LT.st_mem (h : LT n n 0 S E R) {q : Rat} (hq : q ∈ S) : ∃ k, k < 9 ∧ q = fq false k 8 := by
 obtain ⟨ks, rfl, e2⟩ := h.st
 obtain ⟨k, hk, rfl⟩ := List.mem_map.1 hq
 exact ⟨k, by have := mem_sum hk; omega, rfl⟩
theorem LT.ex_get (h : LT n n 0 S E R) {j : Nat} (hj : j < n) : (tfQ (E.getD j 0) ∨ (E.getD j 0 = 0 ∧ j + 1 < n)) := by
 have hj' : j < E.length := by rw [h.el]; exact hj
 rw [List.getD_eq_getElem?_getD, List.getElem?_eq_getElem hj']
 exact h.ex j hj'
theorem LT.rt_get (h : LT n n 0 S E R) {i j : Nat} (hi : i < n) (hj : j < n) : (j = i + 1 → tfQ ((R.getD i []).getD j 0)) ∧ (j = i → (R.getD i []).getD j 0 = 0) ∧ (tfQ ((R.getD i []).getD j 0) ∨ (R.getD i []).getD j 0 = 0) := by
 have hi' : i < R.length := by rw [h.rl]; exact hi
 have e1 : R.getD i [] = R[i] := by rw [List.getD_eq_getElem?_getD, List.getElem?_eq_getElem hi']; rfl
 obtain ⟨h1, h2⟩ := h.rt i hi'
 have hj' : j < R[i].length := by rw [h1]; exact hj
 have e2 : R[i].getD j 0 = R[i][j] := by rw [List.getD_eq_getElem?_getD, List.getElem?_eq_getElem hj']; rfl
 rw [e1, e2]
 exact h2 j hj'
end
section
variable {n : Nat} {l : LQ}
theorem LT.law (h : LT n n 0 l.start l.exit l.rates) (hn : 1 ≤ n) (hn4 : n ≤ 4) : zxb l where
 n1 := by rw [h.sl]; exact hn
 n4 := by rw [h.sl]; exact hn4
 el := by rw [h.sl, h.el]
 rl := by rw [h.sl, h.rl]
 st := fun q hq => by obtain ⟨k, hk, rfl⟩ := h.st_mem hq; exact st_nums k hk
 ex := fun q hq => by
  obtain ⟨j, hj, rfl⟩ := List.mem_iff_getElem.1 hq
  rcases h.ex j hj with h1 | h1
  ·exact h1.lim
  ·rw [h1.1]; exact zfi
 row := fun i hi => by
  obtain ⟨h1, h2⟩ := h.rt i hi
  refine ⟨by rw [h.sl]; exact h1, fun q hq => ?_, ?_⟩
  ·obtain ⟨j, hj, rfl⟩ := List.mem_iff_getElem.1 hq
   rcases (h2 j hj).2.2 with h3 | h3
   ·exact h3.lim
   ·rw [h3]; exact zfi
  ·have hi2 : i < l.rates[i].length := by rw [h1, ← h.rl]; exact hi
   rw [List.getD_eq_getElem?_getD, List.getElem?_eq_getElem hi2]
   exact (h2 i hi2).2.1 rfl
 sum := by
  obtain ⟨ks, e1, e2⟩ := h.st
  rw [e1, lsum_st, show ks.sum = 8 by omega]
  decide +kernel
 ends := ⟨fun i => n - 1 - i, fun i hi => by
  rw [h.sl] at hi ⊢
  refine ⟨show n - 1 - i ≤ n by omega, ?_⟩
  rcases h.ex_get hi with h1 | ⟨h1, h2⟩
  ·exact Or.inl h1.pos
  ·exact Or.inr ⟨i + 1, h2, ((h.rt_get hi h2).1 rfl).pos, show n - 1 - (i + 1) < n - 1 - i by omega⟩⟩
theorem LT.sm (h : LT n n 0 l.start l.exit l.rates) : SmL 840 5040 l where
 r := fun i j hi hj => by
  rw [h.sl] at hi hj
  rcases (h.rt_get hi hj).2.2 with h3 | h3
  ·exact h3.over
  ·unfold rtQ; rw [h3]; exact over.zero _ _
 e := fun i hi => by
  rw [h.sl] at hi
  rcases h.ex_get hi with h1 | ⟨h1, h2⟩
  ·exact h1.over
  ·unfold exQ; rw [h1]; exact over.zero _ _
theorem LT.start8 (h : LT n n 0 l.start l.exit l.rates) {i : Nat} (hi : i < l.start.length) : over 8 8 (stQ l i) := by
 obtain ⟨k, hk, e⟩ := h.st_mem (zii hi)
 unfold stQ
 rw [e]
 exact st_over hk
end
section
variable {a b : LQ}
theorem zch.law {m : Nat} (h : zch m a) (hm : m ≤ 4) : zxb a := by obtain ⟨n, h1, h2, h3⟩ := h; exact h3.law h1 (Nat.le_trans h2 hm)
theorem zch.len {m : Nat} (h : zch m a) : a.start.length ≤ m := by obtain ⟨n, h1, h2, h3⟩ := h; rw [h3.sl]; exact h2
theorem zch.sm {m : Nat} (h : zch m a) : SmL 840 5040 a := by obtain ⟨n, h1, h2, h3⟩ := h; exact h3.sm
theorem zch.start8 {m : Nat} (h : zch m a) {i : Nat} (hi : i < a.start.length) : over 8 8 (stQ a i) := by obtain ⟨n, h1, h2, h3⟩ := h; exact h3.start8 hi
theorem zxh (ha : zch 2 a) (hb : zch 2 b) : BefP a b := by
 have pa := ha.law (by decide)
 have pb := hb.law (by decide)
 have hN : bfN a b ≤ 4 := Nat.mul_le_mul ha.len hb.len
 refine bef_small pa pb ha.sm hb.sm (by decide) (by decide) (by decide) (by decide) hN (DS := 64) (by decide) (by decide) fun r hr => ?_
 obtain ⟨r1, r2⟩ := zjj pb hr
 exact (over.mul (ha.start8 r1) (hb.start8 r2)).mono (by decide)
theorem befQ_sg (a b : LQ) : befQ a b = sg (bfN a b) fun c => bfS a b c * zyg a b c := by
 unfold befQ zvn
 have e1 : fq false 1 1 = 1 := by decide +kernel
 rw [e1, Rat.mul_one, Rat.zero_add]
 refine zma fun t ht => ?_
 have g : ∀ f : Nat → Rat, (zib (bfN a b) f).getD t 0 = f t := fun f => by rw [List.getD_eq_getElem?_getD, List.getElem?_eq_getElem (by rw [zea]; exact ht), Option.getD_some, ztb]
 rw [g, g]
theorem bfR_nn (ha : zxb a) (hb : zxb b) : ∀ r, r < bfN a b → 0 ≤ bfR a b r := fun r hr => (ha.ex_lim (zjj hb hr).1).1
theorem befX_nn (ha : zxb a) (hb : zxb b) : ∀ r, r < bfN a b → 0 ≤ zyg a b r := zwl ha hb (bfR_nn ha hb) (bf_eq ha hb)
theorem bef_nn (ha : zxb a) (hb : zxb b) : 0 ≤ befQ a b := by
 rw [befQ_sg]
 refine sg_nonneg fun c hc => ?_
 obtain ⟨r1, r2⟩ := zjj hb hc
 exact Rat.mul_nonneg (Rat.mul_nonneg (ha.st_lim r1).1 (hb.st_lim r2).1) (befX_nn ha hb c hc)
theorem bef_one (ha : zxb a) (hb : zxb b) {i j : Nat} (hi : i < a.start.length) (hj : j < b.start.length) : zyg a b (i * b.start.length + j) + zyg b a (j * a.start.length + i) = 1 := by
 let y : Nat → Rat := fun c => zyg b a ((c % b.start.length) * a.start.length + c / b.start.length)
 have hy : ∀ i j, j < b.start.length → y (i * b.start.length + j) = zyg b a (j * a.start.length + i) := fun i j hj => by
  show zyg b a _ = _
  rw [zyf hj, zbe hj]
 have key : ∀ r, r < bfN a b → sg (bfN a b) (fun c => bfA a b r c * ((zyg a b c + y c) - 1)) = 0 := fun r hr => by
  obtain ⟨r1, r2⟩ := zjj hb hr
  have e0 : sg (bfN a b) (fun c => bfA a b r c * ((zyg a b c + y c) - 1)) = sg (bfN a b) (fun c => bfA a b r c * zyg a b c) + (sg (bfN a b) (fun c => bfA a b r c * y c) + sg (bfN a b) (fun c => bfA a b r c * (-1))) := by
   rw [← zvd, ← zvd]
   exact zma fun c _ => by grind
  rw [e0, bf_eq ha hb r hr]
  have h1 := bfA_row ha hb r1 r2 y
  have h2 := bfA_row ha hb r1 r2 (fun _ => (-1 : Rat))
  have h3 := bfA_row hb ha r2 r1 (zyg b a)
  have h4 := bf_eq hb ha _ (zao r2 r1)
  rw [h4] at h3
  rw [at_eq] at h1 h2
  have hy2 := hy (r / b.start.length) (r % b.start.length) r2
  rw [at_eq] at hy2
  rw [hy2] at h1
  have s1 : (sg a.start.length fun k => rtQ a (r / b.start.length) k * y (k * b.start.length + r % b.start.length)) = sg a.start.length fun k => rtQ a (r / b.start.length) k * zyg b a (r % b.start.length * a.start.length + k) := zma fun k _ => by rw [hy k _ r2]
  have s2 : (sg b.start.length fun k => rtQ b (r % b.start.length) k * y (r / b.start.length * b.start.length + k)) = sg b.start.length fun k => rtQ b (r % b.start.length) k * zyg b a (k * a.start.length + r / b.start.length) := zma fun k hk => by rw [hy _ k hk]
  rw [s1, s2] at h1
  have mm : ∀ (n : Nat) (f : Nat → Rat), sg n (fun k => f k * -1) = sg n f * -1 := fun n f => znc n (-1) f
  rw [mm a.start.length, mm b.start.length] at h2
  have h5 := ha.out_sg r1
  have h6 := hb.out_sg r2
  have h7 : bfR b a (r % b.start.length * a.start.length + r / b.start.length) = exQ b (r % b.start.length) := by unfold bfR; rw [zbe r1]
  have h8 : bfR a b r = exQ a (r / b.start.length) := rfl
  rw [h1, h2, h8]
  rw [h7] at h3
  generalize sg a.start.length (rtQ a (r / b.start.length)) = A at *
  generalize sg b.start.length (rtQ b (r % b.start.length)) = B at *
  generalize (sg a.start.length fun k => rtQ a (r / b.start.length) k * zyg b a (r % b.start.length * a.start.length + k)) = C at *
  generalize (sg b.start.length fun k => rtQ b (r % b.start.length) k * zyg b a (k * a.start.length + r / b.start.length)) = D at *
  generalize exQ a (r / b.start.length) = E at *
  generalize exQ b (r % b.start.length) = F at *
  generalize zyg b a (r % b.start.length * a.start.length + r / b.start.length) = G at *
  rw [h5, h6] at h3 ⊢
  clear h1 h2 h4 h5 h6 h7 h8 e0 s1 s2
  grind
 have up := zwl ha hb (x := fun c => (zyg a b c + y c) - 1) (y := fun _ => 0) (fun _ _ => Rat.le_refl) key
 have dn := zwl ha hb (x := fun c => -((zyg a b c + y c) - 1)) (y := fun _ => 0) (fun _ _ => Rat.le_refl) (fun r hr => by
  have e : sg (bfN a b) (fun c => bfA a b r c * -((zyg a b c + y c) - 1)) = (-1) * sg (bfN a b) (fun c => bfA a b r c * ((zyg a b c + y c) - 1)) := by
   rw [← zcb]
   exact zma fun c _ => by grind
  rw [e, key r hr, Rat.mul_zero])
 have h1 := up _ (zao hi hj)
 have h2 := dn _ (zao hi hj)
 rw [hy i j hj] at h1 h2
 grind
theorem bef_add (ha : zxb a) (hb : zxb b) : befQ a b + befQ b a = 1 := by
 have e1 : befQ a b = sg a.start.length fun i => sg b.start.length fun j => stQ a i * stQ b j * zyg a b (i * b.start.length + j) := by
  rw [befQ_sg]
  unfold bfN
  rw [zcn]
  refine zma fun i hi => zma fun j hj => ?_
  unfold bfS
  rw [zbe hj, zyf hj]
 have e2 : befQ b a = sg a.start.length fun i => sg b.start.length fun j => stQ a i * stQ b j * zyg b a (j * a.start.length + i) := by
  rw [befQ_sg]
  unfold bfN
  rw [zcn, zdn]
  refine zma fun i hi => zma fun j hj => ?_
  unfold bfS
  rw [zbe hi, zyf hi, Rat.mul_comm (stQ b j)]
 rw [e1, e2, ← zvd]
 have e3 : sg a.start.length (fun i => (sg b.start.length fun j => stQ a i * stQ b j * zyg a b (i * b.start.length + j)) + sg b.start.length fun j => stQ a i * stQ b j * zyg b a (j * a.start.length + i)) = sg a.start.length fun i => stQ a i * 1 := zma fun i hi => by
  rw [← zvd, ← hb.st_sum, ← zcb]
  refine zma fun j hj => ?_
  have := bef_one ha hb hi hj
  rw [← Rat.mul_add, this, Rat.mul_one]
 rw [e3, znc, Rat.mul_one]
 exact ha.st_sum
theorem bef_half (ha : zxb a) : befQ a a = fq false 1 2 := by
 have h := bef_add ha ha
 have e : fq false 1 2 + fq false 1 2 = 1 := by decide +kernel
 grind
theorem bef_fits (h : BefP a b) : fits (befQ a b) := by
 have h1 := h.sca.fr
 rw [zea] at h1
 exact h1
end
end Go.Proofs.YtlpdkbmmbdfoiaaGreat
