/-
  The sanity chain: the plain facts. No program is named here.
-/
import Derived.Test.YtlpdkbmmbdfoiaaKHs2
import Derived.Test.YtlpdkbmmbdfoiaaKGw8
import Derived.Test.YtlpdkbmmbdfoiaaKOr2
import Derived.Test.YtlpdkbmmbdfoiaaKRb5
import Derived.Test.YtlpdkbmmbdfoiaaKRa1
import Derived.Test.YtlpdkbmmbdfoiaaKOuw
import Derived.Test.YtlpdkbmmbdfoiaaKOri
import Derived.Test.YtlpdkbmmbdfoiaaKQu
import Derived.Test.YtlpdkbmmbdfoiaaKDt3
import Derived.Test.YtlpdkbmmbdfoiaaKOwF
import Derived.Test.YtlpdkbmmbdfoiaaKMath12
import Derived.Lib.SliceRun
set_option linter.unusedVariables false
set_option linter.unusedSimpArgs false
namespace Go.Proofs.Ytlpdkbmmbdfoiaa
open Go.RowKit
def AllS (c : RC) : Prop := ∀ j, j < c.rates.length → Rch c j → Ftl c j
theorem rch_from {c : RC} {t : Nat} (h : Rch c t) : ∃ s, s < c.rates.length ∧ 0 < (qs c.start).getD s 0 ∧ RC1 c.rates.length (rq c) (fun j => j = s) t := by
 induction h with
 | base hi hS => exact ⟨_, hi, hS, Clo.base hi rfl⟩
 | step hc hj hL ih =>
   obtain ⟨s, h1, h2, h3⟩ := ih
   exact ⟨s, h1, h2, Clo.step h3 hj hL⟩
theorem rch_to {c : RC} {s t : Nat} (hs : 0 < (qs c.start).getD s 0) (h : RC1 c.rates.length (rq c) (fun j => j = s) t) : Rch c t := by
 induction h with
 | base hi hS => subst hS; exact Clo.base hi hs
 | step hc hj hL ih => exact Clo.step ih hj hL
theorem alls_iff (c : RC) : AllS c ↔ ∀ s, s < c.rates.length → 0 < (qs c.start).getD s 0 → znl c.rates.length (rq c) (zxa c) s := by
 constructor
 ·intro h s hs h0 t ht
  exact h t (Clo.lt ht) (rch_to h0 ht)
 ·intro h t ht hr
  obtain ⟨s, h1, h2, h3⟩ := rch_from hr
  exact h s h1 h2 t h3
theorem zyj (c : CQ) (i j : Nat) (hj : j < c.start.length) : (qs (frm c i).raw.start).getD j 0 = if j = i then 1 else 0 := by
 have e : qs (frm c i).raw.start = unitL c.start.length i := zwf _
 rw [e, unitL_get hj]
theorem frm_sum {c : CQ} (hl : c.rates.length = c.start.length) {i : Nat} (hi : i < c.start.length) (X : Nat → Rat) : stS (frm c i).raw X = X i := by
 unfold stS
 have hn : (frm c i).raw.rates.length = c.start.length := by simp [frm, CQ.raw, hl]
 rw [hn, zea (g := fun j => if i = j then X j else 0) fun j hj => by
  rw [zyj c i j hj]
  by_cases e : j = i
  ·rw [if_pos e, if_pos e.symm, Rat.one_mul]
  ·rw [if_neg e, if_neg (fun h => e h.symm), Rat.zero_mul]]
 exact zqc hi X
theorem frm_alls {c : CQ} (hl : c.rates.length = c.start.length) {i : Nat} (hi : i < c.start.length) : AllS (frm c i).raw ↔ znl c.raw.rates.length (rq c.raw) (zxa c.raw) i := by
 have hn : (frm c i).raw.rates.length = c.start.length := by simp [frm, CQ.raw, hl]
 rw [alls_iff]
 constructor
 ·intro h
  refine h i (by omega) ?_
  rw [zyj c i i hi, if_pos rfl]
  decide
 ·intro h s hs h0
  have e : s = i := by
   refine Classical.byContradiction fun e => ?_
   rw [zyj c i s (by omega), if_neg e] at h0
   exact absurd h0 (by decide)
  rw [e]
  exact h
def RMeanF (w0 : World) (P : Prop) (R : Rat) (e : Ending) (w : World) : Prop :=
 (P ∧ RF0 w0 R e w) ∨ (¬ P ∧ e = .returned (.tuple #[.agg #[.bool false, .slice none 0 0, .slice none 0 0], .int .i64 14]) ∧ Below w0.heap.size w0 w)
theorem RMean.f {w0 : World} {c : RC} {R : Rat} {e : Ending} {w : World} (h : RMean w0 c R e w) : RMeanF w0 (AllS c) R e w := by
 rcases h with h | ⟨⟨j, h1, h2, h3⟩, h4⟩
 ·exact Or.inl h
 ·exact Or.inr ⟨fun h => h3 (h j h1 h2), h4⟩
theorem RMeanF.to {w0 : World} {P Q : Prop} {R S : Rat} {e : Ending} {w : World} (h : RMeanF w0 P R e w) (hp : P ↔ Q) (hr : R = S) : RMeanF w0 Q S e w := by
 subst hr
 rcases h with ⟨h1, h2⟩ | ⟨h1, h2⟩
 ·exact Or.inl ⟨hp.1 h1, h2⟩
 ·exact Or.inr ⟨fun h => h1 (hp.2 h), h2⟩
structure TC (c : CQ) (H T : Nat → Rat) : Prop where
 tape : tapeP c
 hit : HitS c.raw H
 time : TimeS c.raw T
abbrev SureQ (c : CQ) (i : Nat) : Prop := znl c.raw.rates.length (rq c.raw) (zxa c.raw) i
theorem tape_tc {c : CQ} (h : tapeP c) : ∃ H T, TC c H T := by
 obtain ⟨H, hH⟩ := hit_s h.valid h.sm
 obtain ⟨T, hT⟩ := time_s h.valid h.sm
 exact ⟨H, T, h, hH, hT⟩
section
variable {c : CQ} {H T : Nat → Rat}
theorem TC.len (h : TC c H T) : c.raw.rates.length = c.start.length := by
 have := h.tape.rl
 simp [CQ.raw]; exact this
theorem TC.hit_c (h : TC c H T) {va : Value} {w : World} (ha : ChainN w va c.raw) : Calls Try.prog 16 #[va] w (RF0 w (stS c.raw H)) := Go.Proofs.Ytlpdkbmmbdfoiaa.hit_c ha h.tape.valid h.tape.sm h.hit.hit
theorem TC.mean_c (h : TC c H T) {va : Value} {w : World} (ha : ChainN w va c.raw) : Calls Try.prog 17 #[va] w (RMeanF w (AllS c.raw) (stS c.raw T)) :=
 (Go.Proofs.Ytlpdkbmmbdfoiaa.mean_c ha h.tape.valid h.tape.sm h.time.time).mono fun _ _ k => k.f
theorem TC.hit_f (h : TC c H T) {i : Nat} (hi : i < c.start.length) {va : Value} {w : World} (ha : ChainN w va (frm c i).raw) : Calls Try.prog 16 #[va] w (RF0 w (H i)) := by
 have hf := h.tape.frm hi
 have k := Go.Proofs.Ytlpdkbmmbdfoiaa.hit_c (H := H) ha hf.valid hf.sm h.hit.hit
 rwa [frm_sum h.tape.rl hi] at k
theorem TC.mean_f (h : TC c H T) {i : Nat} (hi : i < c.start.length) {va : Value} {w : World} (ha : ChainN w va (frm c i).raw) : Calls Try.prog 17 #[va] w (RMeanF w (SureQ c i) (T i)) := by
 have hf := h.tape.frm hi
 have k := (Go.Proofs.Ytlpdkbmmbdfoiaa.mean_c (T := T) ha hf.valid hf.sm h.time.time).mono fun _ _ k => k.f.to (frm_alls h.tape.rl hi) (frm_sum h.tape.rl hi T)
 exact k
theorem TC.st (h : TC c H T) {j : Nat} (hj : j < c.start.length) : over 720 28800 (c.start.getD j 0) := by
 rw [List.getD_eq_getElem?_getD, List.getElem?_eq_getElem hj]
 exact (h.tape.st _ (List.getElem_mem _)).over
theorem TC.st_nn (h : TC c H T) {j : Nat} (hj : j < c.start.length) : 0 ≤ c.start.getD j 0 := by
 rw [List.getD_eq_getElem?_getD, List.getElem?_eq_getElem hj]
 exact Rat.not_lt.1 (h.tape.st _ (List.getElem_mem _)).nonneg
theorem TC.rt (h : TC c H T) {i j : Nat} (hi : i < c.start.length) (hj : j < c.start.length) : over 720 28800 ((c.rates.getD i []).getD j 0) := (h.tape.rate hi hj).over
theorem TC.fsH (h : TC c H T) {f : Nat → Rat} {x : Rat} (hx : over 720 28800 x) (hf : ∀ t, t < c.start.length → over 720 28800 (f t)) {k : Nat} (hk : k ≤ c.start.length) : fits (x + sg k fun t => f t * H t) := by
 obtain ⟨E, h1, h2, h3⟩ := h.hit.ov
 have h5 := h.tape.n5
 have hn := h.len
 exact sum_fits h1 h2 (by omega) (fun t ht => hf t (by omega)) (fun t ht => h3 t (by omega)) hx
theorem TC.fsT (h : TC c H T) {f : Nat → Rat} {x : Rat} (hx : over 720 28800 x) (hf : ∀ t, t < c.start.length → over 720 28800 (f t)) {k : Nat} (hk : k ≤ c.start.length) : fits (x + sg k fun t => f t * T t) := by
 obtain ⟨E, h1, h2, h3⟩ := h.time.ov
 have h5 := h.tape.n5
 have hn := h.len
 exact sum_fits h1 h2 (by omega) (fun t ht => hf t (by omega)) (fun t ht => h3 t (by omega)) hx
theorem TC.fpH (h : TC c H T) {x : Rat} (hx : over 720 230400 x) {t : Nat} (ht : t < c.start.length) : fits (x * H t) := by
 obtain ⟨E, h1, h2, h3⟩ := h.hit.ov
 have hn := h.len
 exact prod_fits h1 h2 (Nat.le_refl _) hx (h3 t (by omega))
theorem TC.fpT (h : TC c H T) {x : Rat} (hx : over 720 230400 x) {t : Nat} (ht : t < c.start.length) : fits (x * T t) := by
 obtain ⟨E, h1, h2, h3⟩ := h.time.ov
 have hn := h.len
 exact prod_fits h1 h2 (Nat.le_refl _) hx (h3 t (by omega))
theorem TC.fH (h : TC c H T) {t : Nat} (ht : t < c.start.length) : fits (H t) := by
 have k := h.fpH (x := 1) ((over.one (D := 720) (by decide)).mono (by decide)) ht
 rwa [Rat.one_mul] at k
theorem TC.fT (h : TC c H T) {t : Nat} (ht : t < c.start.length) : fits (T t) := by
 have k := h.fpT (x := 1) ((over.one (D := 720) (by decide)).mono (by decide)) ht
 rwa [Rat.one_mul] at k
theorem TC.sH (h : TC c H T) : stS c.raw H = sg c.start.length fun t => c.start.getD t 0 * H t := by
 have e : qs c.raw.start = c.start := zwf _
 unfold stS
 rw [e, h.len]
theorem TC.sT (h : TC c H T) : stS c.raw T = sg c.start.length fun t => c.start.getD t 0 * T t := by
 have e : qs c.raw.start = c.start := zwf _
 unfold stS
 rw [e, h.len]
theorem TC.alls (h : TC c H T) : AllS c.raw ↔ ∀ s, s < c.start.length → 0 < c.start.getD s 0 → SureQ c s := by
 have e : qs c.raw.start = c.start := zwf _
 constructor
 ·intro k s hs h0
  exact (alls_iff _).1 k s (by rw [h.len]; exact hs) (by rw [e]; exact h0)
 ·intro k
  exact (alls_iff _).2 fun s hs h0 => k s (by rw [← h.len]; exact hs) (by rw [← e]; exact h0)
theorem TC.lost_h (h : TC c H T) {i : Nat} (hi : i < c.start.length) (hl : c.lost.getD i false = true) : H i = 1 ∧ T i = 0 ∧ SureQ c i := by
 have hn := h.len
 have hl2 : zxa c.raw i := hl
 refine ⟨h.hit.hit.one i (by omega) hl2, h.time.time.zero i (by omega) hl2, fun t ht => ?_⟩
 have key : t = i := by
  have hv := h.tape.valid
  clear hl
  induction ht with
  | base hi hS => exact hS
  | step hc hj hL ih =>
    subst ih
    rw [(zfm hv).ab _ _ (Clo.lt hc) hj hl2] at hL
    exact absurd hL (by decide)
 subst key
 exact Clo.base (Clo.lt ht) hl2
theorem TC.eq_h (h : TC c H T) {i : Nat} (hi : i < c.start.length) (hl : c.lost.getD i false = false) : (sg c.start.length fun j => (c.rates.getD i []).getD j 0) * H i = sg c.start.length fun j => (c.rates.getD i []).getD j 0 * H j := by
 have hn := h.len
 have k := h.hit.hit.eq i (by omega) (fun e => by unfold zxa at e; rw [show c.raw.lost = c.lost from rfl, hl] at e; cases e)
 rw [hn] at k
 rw [zea (f := rq c.raw i) (g := fun j => (c.rates.getD i []).getD j 0) fun j _ => zlg c i j, zea (f := fun t => rq c.raw i t * H t) (g := fun j => (c.rates.getD i []).getD j 0 * H j) fun j _ => by rw [zlg]] at k
 exact k
theorem TC.eq_t (h : TC c H T) {i : Nat} (hi : i < c.start.length) (hl : c.lost.getD i false = false) (hu : SureQ c i) : (sg c.start.length fun j => (c.rates.getD i []).getD j 0) * T i = 1 + sg c.start.length fun j => (c.rates.getD i []).getD j 0 * T j := by
 have hn := h.len
 have k := h.time.time.eq i (by omega) (fun e => by unfold zxa at e; rw [show c.raw.lost = c.lost from rfl, hl] at e; cases e) hu
 rw [hn] at k
 rw [zea (f := rq c.raw i) (g := fun j => (c.rates.getD i []).getD j 0) fun j _ => zlg c i j, zea (f := fun t => rq c.raw i t * T t) (g := fun j => (c.rates.getD i []).getD j 0 * T j) fun j _ => by rw [zlg]] at k
 exact k
end
theorem FracsC.cellsAt {w : World} {v : Value} {l : List Rat} (h : FracsC w v l) {k : Nat} (hk : k < l.length) :
 ∃ t a1 l1 k1 a2 l2 k2, w.cell? (ptr v (k * 3)) = some (.bool t) ∧ w.cell? (ptr v (k * 3 + 1)) = some (.slice a1 l1 k1) ∧ w.cell? (ptr v (k * 3 + 2)) = some (.slice a2 l2 k2) ∧ FracC w (.agg #[.bool t, .slice a1 l1 k1, .slice a2 l2 k2]) (l.getD k 0) := by
 obtain ⟨za, zb, p1, p2, p3, p4, p5⟩ := h.at' k hk
 obtain ⟨za1, za2, za3, rfl, _⟩ := p4.v.sl
 obtain ⟨zb1, zb2, zb3, rfl, _⟩ := p5.v.sl
 refine ⟨_, _, _, _, _, _, _, p1, p2, p3, ?_⟩
 rw [List.getD_eq_getElem?_getD, List.getElem?_eq_getElem hk]
 exact ⟨_, _, rfl, p4, p5⟩
theorem r2same_can (va vb : Value) (p q : Rat) (w : World) (ha : FracC w va p) (hb : FracC w vb q) (hp : fits p) (hq : fits q) : Calls Try.prog 11 #[va, vb] w fun en w' => en = .returned (.bool (decide (p = q))) ∧ Below w.heap.size w w' := by
 have h := r2same_any va vb _ _ _ _ _ _ w ha.raw hb.raw ⟨p.den_nz, hp.2, hp.1⟩ ⟨q.den_nz, hq.2, hq.1⟩
 rw [fq_self, fq_self] at h
 exact h
def RMeanX (w0 : World) (P : Prop) (R : Rat) (e : Ending) (w : World) : Prop :=
 ∃ t a1 l1 k1 a2 l2 k2 z, e = .returned (.tuple #[.agg #[.bool t, .slice a1 l1 k1, .slice a2 l2 k2], .int .i64 z]) ∧ (P ∧ z = 0 ∧ FracC w (.agg #[.bool t, .slice a1 l1 k1, .slice a2 l2 k2]) R ∨ ¬ P ∧ z = 14) ∧ Below w0.heap.size w0 w
theorem RMeanF.x {w0 : World} {P : Prop} {R : Rat} {e : Ending} {w : World} (h : RMeanF w0 P R e w) : RMeanX w0 P R e w := by
 rcases h with ⟨h1, v, rfl, hv, hb⟩ | ⟨h1, rfl, hb⟩
 ·obtain ⟨t, x, y, rfl, ⟨a1, l1, k1, rfl, _⟩, ⟨a2, l2, k2, rfl, _⟩⟩ := hv.isF
  exact ⟨_, _, _, _, _, _, _, _, rfl, Or.inl ⟨h1, rfl, hv⟩, hb⟩
 ·exact ⟨_, _, _, _, _, _, _, _, rfl, Or.inr ⟨h1, rfl⟩, hb⟩
theorem TC.mean_cx {c : CQ} {H T : Nat → Rat} (h : TC c H T) {va : Value} {w : World} (ha : ChainC w va c) : Calls Try.prog 17 #[va] w (RMeanX w (AllS c.raw) (stS c.raw T)) := (h.mean_c ha.raw).mono fun _ _ k => k.x
theorem TC.mean_fx {c : CQ} {H T : Nat → Rat} (h : TC c H T) {i : Nat} (hi : i < c.start.length) {va : Value} {w : World} (ha : ChainC w va (frm c i)) : Calls Try.prog 17 #[va] w (RMeanX w (SureQ c i) (T i)) := (h.mean_f hi ha.raw).mono fun _ _ k => k.x
theorem TC.ovR {c : CQ} {H T : Nat → Rat} (h : TC c H T) {i : Nat} (hi : i < c.start.length) {k : Nat} (hk : k ≤ c.start.length) : over 720 230400 (0 + sg k fun j => (c.rates.getD i []).getD j 0) := by
 rw [Rat.zero_add]
 have h5 := h.tape.n5
 exact (over.sg (B := 28800) (by decide) fun j hj => h.rt hi (by omega)).mono (by omega)
theorem TC.fsR {c : CQ} {H T : Nat → Rat} (h : TC c H T) {i : Nat} (hi : i < c.start.length) {k : Nat} (hk : k ≤ c.start.length) : fits (0 + sg k fun j => (c.rates.getD i []).getD j 0) := over_f (h.ovR hi hk) (by decide +kernel)
theorem TC.rt_nn {c : CQ} {H T : Nat → Rat} (h : TC c H T) {i j : Nat} (hi : i < c.start.length) (hj : j < c.start.length) : 0 ≤ (c.rates.getD i []).getD j 0 := Rat.not_lt.1 (h.tape.rate hi hj).nonneg
theorem same_t (va vb : Value) {p q : Rat} {w : World} (ha : FracC w va p) (hb : FracC w vb q) (hp : fits p) (h : p = q) : Calls Try.prog 11 #[va, vb] w fun en w' => en = .returned (.bool true) ∧ Below w.heap.size w w' := by
 subst h
 refine (r2same_can va vb p p w ha hb hp hp).mono ?_
 rintro e w' ⟨rfl, hb⟩
 exact ⟨by rw [decide_eq_true rfl], hb⟩
abbrev sclK (a b : Nat) : Rat := fq false (1 + a) (1 + b)
theorem sclK_pos {a b : Nat} : 0 < sclK a b := by
 have h1 : ¬ fq false (1 + a) (1 + b) < 0 := of_decide_eq_false (fq_neg false (1 + a) (1 + b) (by omega))
 have h2 : fq false (1 + a) (1 + b) ≠ 0 := fq_ne _ (by omega) (by omega)
 show 0 < fq false (1 + a) (1 + b)
 grind
theorem sclK_fin : ∀ a : Fin 7, ∀ b : Fin 5, (fq false (1 + a.val) (1 + b.val))⁻¹ = fq false (1 + b.val) (1 + a.val) := by decide +kernel
theorem sclK_inv {a b : Nat} (ha : a < 7) (hb : b < 5) : (sclK a b)⁻¹ = sclK b a := sclK_fin ⟨a, ha⟩ ⟨b, hb⟩
theorem sclK_fits {a b : Nat} (ha : a < 7) (hb : b < 7) : fits (sclK a b) := fits_ok false (n := 1 + a) (d := 1 + b) ⟨by omega, Nat.le_trans (nbits_le.2 (show 1 + b < 2 ^ 3 by omega)) (by decide), Nat.le_trans (nbits_le.2 (show 1 + a < 2 ^ 3 by omega)) (by decide)⟩
section
variable {c : CQ} {H T : Nat → Rat} {a b : Nat}
theorem TC.ovT (h : TC c H T) : ∃ E, E ≠ 0 ∧ E < 2 ^ 220 ∧ over (720 * E) (5 * (28800 * 2 ^ 240)) (stS c.raw T) := by
 obtain ⟨E, h1, h2, h3⟩ := h.time.ov
 have hn := h.len
 have h5 := h.tape.n5
 refine ⟨E, h1, h2, ?_⟩
 rw [h.sT]
 exact (over.sg (Nat.mul_ne_zero (by decide) h1) fun t ht => over.mul (h.st ht) (h3 t (by omega))).mono (Nat.mul_le_mul_right _ h5)
theorem TC.fM (h : TC c H T) : fits (stS c.raw T) := by
 have k := h.fsT (x := 0) (f := fun t => c.start.getD t 0) (over.zero _ _) (fun t ht => h.st ht) (Nat.le_refl _)
 rw [Rat.zero_add] at k
 rw [h.sT]
 exact k
theorem TC.fHs (h : TC c H T) : fits (stS c.raw H) := by
 have k := h.fsH (x := 0) (f := fun t => c.start.getD t 0) (over.zero _ _) (fun t ht => h.st ht) (Nat.le_refl _)
 rw [Rat.zero_add] at k
 rw [h.sH]
 exact k
theorem pow_s1 : 5 * (28800 * 2 ^ 240) * 5 < 2 ^ 280 := by decide +kernel
theorem pow_s2 : 720 * 2 ^ 220 * 7 < 2 ^ 240 := by decide +kernel
theorem TC.fMk (h : TC c H T) (ha : a < 7) (hb : b < 5) : fits (stS c.raw T * (sclK a b)⁻¹) := by
 obtain ⟨E, h1, h2, h3⟩ := h.ovT
 rw [sclK_inv ha hb]
 have hk : over (1 + a) (1 + b) (sclK b a) := ⟨((1 + b : Nat) : Int), rfl, by omega⟩
 have hD : 720 * E ≠ 0 := Nat.mul_ne_zero (by decide) h1
 refine (over.mul h3 hk).fits (Nat.mul_ne_zero hD (by omega)) ?_ ?_
 ·exact Nat.lt_trans (Nat.lt_of_le_of_lt (Nat.mul_le_mul_left _ (show 1 + b ≤ 5 by omega)) pow_s1) (pow_c (a := 280) (by decide))
 ·exact Nat.lt_trans (Nat.lt_of_le_of_lt (Nat.mul_le_mul (Nat.mul_le_mul_left _ (Nat.le_of_lt h2)) (show 1 + a ≤ 7 by omega)) pow_s2) (pow_c (a := 240) (by decide))
theorem scl_back {k M : Rat} (hk : 0 < k) : k * (M * k⁻¹) = M := by
 have h1 : k * k⁻¹ = 1 := Rat.mul_inv_cancel _ (fun e => by rw [e] at hk; exact absurd hk (by decide))
 grind
theorem alls_scl {k : Rat} (hk : 0 < k) : AllS (scl c k).raw ↔ AllS c.raw := by
 have hl := scl_len c k
 rw [alls_iff, alls_iff]
 constructor
 ·intro h s hs h0
  exact (sure_scl hk s).1 (by have := h s (by omega) h0; rw [hl] at this; exact this)
 ·intro h s hs h0
  have := (sure_scl hk s).2 (h s (by omega) h0)
  rw [hl]
  exact this
theorem TC.hit_d (h : TC c H T) (ha : a < 7) (hb : b < 5) {va : Value} {w : World} (hv : ChainC w va (scl c (sclK a b))) : Calls Try.prog 16 #[va] w (RF0 w (stS c.raw H)) := by
 have hs := h.tape.scl ha hb
 have k := Go.Proofs.Ytlpdkbmmbdfoiaa.hit_c (H := H) hv.raw hs.valid hs.sm (hit_scl sclK_pos h.hit.hit)
 have e : stS (scl c (sclK a b)).raw H = stS c.raw H := by
  unfold stS
  rw [scl_len]
  rfl
 rwa [e] at k
theorem TC.mean_d (h : TC c H T) (ha : a < 7) (hb : b < 5) {va : Value} {w : World} (hv : ChainC w va (scl c (sclK a b))) : Calls Try.prog 17 #[va] w (RMeanX w (AllS c.raw) (stS c.raw T * (sclK a b)⁻¹)) := by
 have hs := h.tape.scl ha hb
 exact (Go.Proofs.Ytlpdkbmmbdfoiaa.mean_c (T := fun s => T s * (sclK a b)⁻¹) hv.raw hs.valid hs.sm (time_scl sclK_pos h.time.time)).mono fun _ _ k => (k.f.to (alls_scl sclK_pos) (stS_scl T)).x
end
def sclM (c : CQ) (k : Rat) : Mx := fun i j => k * (c.rates.getD i []).getD j 0
theorem sclM_row {c : CQ} (ht : tapeP c) (k : Rat) : (scl c k).rates.length = c.start.length ∧ ∀ j (hj : j < (scl c k).rates.length), rowL c.start.length (sclM c k j) = (scl c k).rates[j] := by
 have hl : (scl c k).rates.length = c.start.length := by unfold scl; simp [ht.rl]
 refine ⟨hl, fun j hj => ?_⟩
 have hj2 : j < c.rates.length := by rw [ht.rl]; omega
 have hrl : c.rates[j].length = c.start.length := (ht.rows j _ (List.getElem?_eq_getElem hj2)).1
 have e : (scl c k).rates[j] = (c.rates[j]).map fun q => k * q := List.getElem_map _
 rw [e]
 refine List.ext_getElem (by rw [rowL_length, List.length_map]; exact hrl.symm) fun t h1 h2 => ?_
 rw [rowL_get, List.getElem_map]
 have ht2 : t < c.rates[j].length := by rw [rowL_length] at h1; omega
 unfold sclM
 rw [List.getD_eq_getElem?_getD (l := c.rates), List.getElem?_eq_getElem hj2, Option.getD_some, List.getD_eq_getElem?_getD, List.getElem?_eq_getElem ht2, Option.getD_some]
theorem sclM_fits {c : CQ} (ht : tapeP c) {a b i j : Nat} (ha : a < 7) (hb : b < 5) (hi : i < c.start.length) (hj : j < c.start.length) : fits ((c.rates.getD i []).getD j 0) ∧ fits (sclM c (sclK a b) i j) :=
 ⟨over_f (ht.rate hi hj).over (by decide +kernel), over_f (smallQ_scl (ht.rate hi hj) ha hb) (by decide +kernel)⟩
structure MkR (w : World) (B : Nat) (v : Value) (rs : List Value) (c : Nat) (A : Mx) : Prop where
 ra : OwnR w 23 B 1 v rs.length rs
 rows : ∀ (j : Nat) (h : j < rs.length), FrRow w 32 B rs[j] (rowL c (A j))
 sz : B ≤ w.heap.size
section
variable {w w' : World} {B c : Nat} {v v' r : Value} {rs : List Value} {A : Mx}
theorem MkR.below (h : MkR w B v rs c A) (hb : Below w.heap.size w w') : MkR w' B v rs c A :=
 ⟨h.ra.moves (Moves.below (B := B) hb) (Nat.le_refl _), fun j hj => (h.rows j hj).moves (Moves.below (B := B) hb) (Nat.le_refl _), Nat.le_trans h.sz hb.size⟩
theorem MkR.push (h : MkR w B v rs c A) (hr : FrRow w 32 B r (rowL c (A rs.length))) (hv : OwnR w' 23 B 1 v' (rs ++ [r]).length (rs ++ [r])) (hg : w.grownBy w' v.ownBlock) (hn : NoLimb w v) :
 MkR w' B v' (rs ++ [r]) c A ∧ Below B w w' := by
 obtain ⟨ra, rows, sz⟩ := h
 have hb : Below B w w' := below_of_grown hg sz (fun k hk => (ra.block k hk).1)
 refine ⟨⟨hv, fun j h1 => ?_, Nat.le_trans sz hb.size⟩, hb⟩
 rcases Nat.lt_or_ge j rs.length with hj | hj
 ·rw [List.getElem_append_left hj]
  obtain ⟨ys, y1, y2⟩ := id (rows j hj)
  exact (rows j hj).grown hg hn (y1.kinds ra (by decide))
 ·obtain rfl : j = rs.length := by simp at h1; omega
  have e1 : (rs ++ [r])[rs.length]'h1 = r := by simp
  obtain ⟨zs, z1, z2⟩ := id hr
  rw [e1]
  exact hr.grown hg hn (z1.kinds ra (by decide))
theorem MkR.mat (h : MkR w B v rs c A) : MatF w v rs.length c A :=
 ⟨h.ra.sl, h.ra.len, fun i hi => ⟨rs[i], h.ra.cell i hi, (h.rows i hi).fracs⟩⟩
end
theorem MkR.matC {w : World} {B c : Nat} {v : Value} {rs : List Value} {A : Mx} (h : MkR w B v rs c A) {m : List (List Rat)} (hl : rs.length = m.length) (hr : ∀ j (hj : j < m.length), rowL c (A j) = m[j]) : MatC w v m :=
 ⟨h.ra.sl, by rw [h.ra.len]; exact hl, fun j hj => ⟨rs[j]'(by omega), h.ra.cell j (by omega), by rw [← hr j hj]; exact (h.rows j (by omega)).fracs⟩⟩
def itV (c : RC) (ρ : Rat) : Nat → List Rat
 | 0 => qs c.start
 | k + 1 => zrl c ρ (itV c ρ k)
theorem zce {c : RC} (hv : zla c) (ρ : Rat) : ∀ k, (itV c ρ k).length = c.rates.length
 | 0 => by rw [itV, zrb, hv.2.2.2.1]
 | k + 1 => stepV_length _ _ _
def wtA (c : RC) (ρ : Rat) (k : Nat) : Nat := wtF c.rates.length c.rates.length (ztc c ρ) + wts (itV c ρ k)
theorem stepV_fits {c : RC} {ρ : Rat} {v : List Rat} (hl : v.length = c.rates.length) (hw : wtF c.rates.length c.rates.length (ztc c ρ) + wts v ≤ 3800) : ∀ x ∈ zrl c ρ v, fits x := fun x hx => by
 unfold zrl rowL at hx
 obtain ⟨j, hj, rfl⟩ := List.mem_map.1 hx
 exact step_sum hl hw (Nat.le_refl _) (List.mem_range.1 hj)
theorem itV_fits {c : RC} (hv : zla c) {ρ : Rat} : ∀ k, (∀ i, i < k → wtA c ρ i ≤ 3800) → ∀ x ∈ itV c ρ k, fits x
 | 0, _ => fun x hx => by
   obtain ⟨y, hy, rfl⟩ := List.mem_map.1 hx
   exact RF.fits (hv.2.2.2.2.1.ok y hy)
 | k + 1, h => stepV_fits (zce hv ρ k) (h k (Nat.lt_succ_self k))
theorem zsk {c : RC} {ρ : Rat} (h1 : ∀ i j, i < c.rates.length → j < c.rates.length → fits ((zoa c i).getD j 0 / ρ)) (h2 : ∀ i, i < c.rates.length → fits (zsb (zoa c i) / ρ) ∧ fits (1 - zsb (zoa c i) / ρ)) : fitM c.rates.length c.rates.length (ztc c ρ) := fun i j hi hj => by
 unfold ztc; split
 ·exact (h2 i hi).2
 ·exact h1 i j hi hj
theorem cstep_can (va vv : Value) (c : RC) (ρ : Rat) (v : List Rat) (w : World) (ha : MatF w va c.rates.length c.rates.length (ztc c ρ)) (hv : FracsC w vv v) (hl : v.length = c.rates.length) (hn : c.rates.length ≤ 128) (hf : ∀ x ∈ v, fits x) (hm : fitM c.rates.length c.rates.length (ztc c ρ))
 (hw : wtF c.rates.length c.rates.length (ztc c ρ) + wts v ≤ 3800) :
 Calls Try.prog 90 #[va, vv] w fun e w' => ∃ v', e = .returned (.tuple #[v', .int .i64 0]) ∧ FracsC w' v' (zrl c ρ v) ∧ Below w.heap.size w w' := by
 have hq : qs (v.map RF.of) = v := zqg v
 have h := cstep_any va vv c.rates.length (ztc c ρ) (v.map RF.of) w ha hv.raw (by rw [List.length_map]; exact hl) hn (fun x hx => by obtain ⟨y, hy, rfl⟩ := List.mem_map.1 hx; exact RF.of_ok (hf y hy)) hm (by rw [hq]; exact hw)
 rw [hq] at h
 exact h
set_option maxRecDepth 100000 in
set_option maxHeartbeats 6400000 in
theorem after_ok (va vx : Value) (c : RC) (t1 : Bool) (nr dr : Nat) (q : Rat) (m : Nat) (w : World) (ha : ChainN w va c) (hv : zla c) (hx : FracN w vx t1 nr dr) (hp : posR t1 nr dr) (hfq : fq t1 nr dr = q) (hm : m ≤ 64) (hle : leaveTo c c.rates.length ≤ q)
 (h1 : ∀ i j, i < c.rates.length → j < c.rates.length → fits ((zoa c i).getD j 0 / q)) (h2 : ∀ i, i < c.rates.length → fits (zsb (zoa c i) / q) ∧ fits (1 - zsb (zoa c i) / q)) (hw : ∀ i, i < m → wtA c q i ≤ 3800) :
 Calls Try.prog 48 #[va, vx, .int .i64 (m : Nat)] w (fun e w' => ∃ v, e = .returned (.tuple #[v, .int .i64 0]) ∧ FracsC w' v (itV c q m) ∧ Below w.heap.size w w') := by
 have HFM := zH (zsk h1 h2)
 have HW := zH hw
 have HSTEP : Hid (∀ (i : Nat) w0 va vv, i < m → MatF w0 va c.rates.length c.rates.length (ztc c q) → FracsC w0 vv (itV c q i) → Calls Try.prog 90 #[va, vv] w0 fun e w' => ∃ v', e = .returned (.tuple #[v', .int .i64 0]) ∧ FracsC w' v' (itV c q (i + 1)) ∧ Below w0.heap.size w0 w') :=
  zH (fun i w0 va vv hi k1 k2 => cstep_can va vv c q (itV c q i) w0 k1 k2 (zce hv q i) (by have := hv.2.1; have := hv.2.2.2.1; omega) (itV_fits hv i (fun j hj => hw j (by omega))) (zsk h1 h2) (hw i hi))
 clear hw
 obtain ⟨i0, hi, hz0, hz1, hz2⟩ := info_parts Try.infoF
 have hM := zph (P := Try.prog) 23 32 i0 Try.underlying23 hi hz0 hz1 (by rw [hz2]; decide)
 clear hi hz0 hz1 hz2
 have hlen : c.rates.length = c.start.length := hv.2.2.2.1
 have h128 : c.start.length ≤ 128 := hv.2.1
 obtain ⟨rv, sv, lv, rfl, hr, hs, hl⟩ := id ha
 obtain ⟨ra, rn, rk, rfl, _⟩ := id hr.sl
 obtain ⟨sa, sn, sk, rfl, _⟩ := id hs.sl
 obtain ⟨la, ln, lk, rfl, _⟩ := id (CellsV.sl hl)
 obtain ⟨x1, y1, rfl, hx4, hx5⟩ := id hx
 obtain ⟨a11, l11, k11, rfl, _⟩ := hx4.slen.1
 obtain ⟨a12, l12, k12, rfl, _⟩ := hx5.slen.1
 have hbx := below_alloc w (.cells #[.slice ra rn rk, .slice sa sn sk, .slice la ln lk] 45)
 have hb2 := below_alloc (w.alloc (.cells #[.slice ra rn rk, .slice sa sn sk, .slice la ln lk] 45)) (.cells #[.bool t1, .slice a11 l11 k11, .slice a12 l12 k12] 32)
 have HC := zH ((C3.new w 45 (.slice ra rn rk) (.slice sa sn sk) (.slice la ln lk)).belowS hb2)
 have HR := zH (C3.newB (b := w.heap.size + 1) (w.alloc (.cells #[.slice ra rn rk, .slice sa sn sk, .slice la ln lk] 45)) 32 (.bool t1) (.slice a11 l11 k11) (.slice a12 l12 k12) (by simp))
 have HBW := zH (below_then hbx hb2)
 have hsn : sn = c.start.length := hs.len
 have ssn := hs.sl
 have HS := zH (hs.below HBW.out)
 have HA := zH (ha.below HBW.out)
 have HX := zH (hx.below HBW.out)
 have HV := zH hv
 have HF := zH hp.1
 have HFQ := zH hfq
 have HPOS : Hid ((!t1 && !decide (nr = 0)) = true) := zH (by rw [hp.2.1, decide_eq_false hp.2.2]; rfl)
 have HQ0 : Hid (q ≠ 0) := zH (fun h => by have := hp.q; rw [hfq, h] at this; exact absurd this (by decide))
 have HSLOW : Hid (decide (q < leaveTo c c.rates.length) = false) := zH (decide_eq_false (Rat.not_lt.2 hle))
 have HM : Hid (∀ w0 va vx, ChainN w0 va c → FracN w0 vx t1 nr dr → Calls Try.prog 89 #[va, vx] w0 (fun e w' => ∃ v, e = .returned (.tuple #[v, .int .i64 0]) ∧ MatF w' v c.rates.length c.rates.length (ztc c q) ∧ Below w0.heap.size w0 w')) :=
  zH (fun w0 va vx k1 k2 => matrix_any va vx c t1 nr dr q w0 k1 HV.out k2 HF.out HFQ.out HQ0.out h1 h2)
 have HN : Hid (sn = c.rates.length) := zH (by omega)
 have hn128 : sn ≤ 128 := by omega
 have hm0 : (0 : Int) ≤ (m : Int) := by omega
 have hm64 : (m : Int) ≤ 64 := by omega
 clear hr hs hl ha hv hbx hb2 hx hx4 hx5 hp hfq hle h1 h2 hlen h128 hsn
 go_enter Try.func48, Try.ntmps48
 go_upto_region 1 with fail
 generalize (w.alloc (.cells #[.slice ra rn rk, .slice sa sn sk, .slice la ln lk] 45)).alloc (.cells #[.bool t1, .slice a11 l11 k11, .slice a12 l12 k12] 32) = W2 at *
 obtain ⟨_, c0, c1, c2, _, _, _⟩ := HC.out
 obtain ⟨_, d0, d1, d2, _, _, _⟩ := HR.out
 go_wp2_with (first
  |(go_at_call 86; (with_reducible refine (rated_raw _ _ c t1 nr dr _ HA.out HV.out HX.out HF.out).mono ?_); rw [HPOS.out]; rintro e1 w1 ⟨rfl, hb1⟩
    have HA1 := zH (HA.out.below hb1)
    have HX1 := zH (HX.out.below hb1)
    have HS1 := zH (HS.out.below hb1)
    have HC1 := zH (HC.out.belowS hb1)
    have HR1 := zH (HR.out.belowS hb1)
    have HB1 := zH (below_then HBW.out hb1)
    clear hb1
    obtain ⟨_, c0, c1, c2, _, _, _⟩ := HC1.out
    obtain ⟨_, d0, d1, d2, _, _, _⟩ := HR1.out)
  |(go_at_call 87; (with_reducible refine (slow_raw _ _ c t1 nr dr q _ HA1.out HV.out HX1.out HF.out HFQ.out).mono ?_); rw [HSLOW.out]; rintro e3 w3 ⟨rfl, hb3⟩
    have HA3 := zH (HA1.out.below hb3)
    have HX3 := zH (HX1.out.below hb3)
    have HS3 := zH (HS1.out.below hb3)
    have HC3 := zH (HC1.out.belowS hb3)
    have HR3 := zH (HR1.out.belowS hb3)
    have HB3 := zH (below_then HB1.out hb3)
    clear hb3 c0 c1 c2 d0 d1 d2
    obtain ⟨_, c0, c1, c2, _, _, _⟩ := HC3.out
    obtain ⟨_, d0, d1, d2, _, _, _⟩ := HR3.out)
  |(refine hM w3 rfl _ _ rfl w3.heap.size _ sn rfl rfl rfl (by omega) (Nat.le_refl _) ?_; intro vL w6 hO6 hb6 hv6
    have HO6 := zH hO6
    have HB6 := zH hb6
    have slL := hO6.sl
    have lnL := hO6.len
    have c0 := cell_below hb6 c0
    have c1 := cell_below hb6 c1
    have c2 := cell_below hb6 c2
    clear hO6 hb6))
 clear hM
 go_loopg [37] (sn) (fun g u37 wr => ∃ (k : Nat), k ≤ sn ∧ g = sn - k ∧ u37 = .int .i64 k ∧ OwnFr wr 32 w3.heap.size vL sn ∧ (∀ j, j < k → ElemC wr vL j ((qs c.start).getD j 0)) ∧ Below w3.heap.size w3 wr)
 case atStart => exact ⟨0, Nat.zero_le _, rfl, rfl, HO6.out, fun j h => by omega, HB6.out⟩
 case round =>
  obtain ⟨k, hkn, hg, rfl, ho, he, hbr⟩ := hrel
  obtain ⟨w2, hw2⟩ : ∃ w2, w2 = wr := ⟨_, rfl⟩
  subst hw2
  have HG := zH hg
  have HE := zH he
  have HO := zH ho
  have HBR := zH hbr
  clear hg he HO6 HB6 c0 c1 c2 d0 d1 d2
  by_cases hkl : k < sn
  ·have hk2 : k < c.start.length := by have := HN.out; have := HV.out.2.2.2.1; omega
   obtain ⟨ea, eb, g1, g2, g3, g4, g5⟩ := (HS3.out.below hbr).at' k hk2
   have HXO : Hid ((c.start[k]'hk2).ok) := zH (HV.out.2.2.2.2.1.ok _ (List.getElem_mem hk2))
   have HXQ : Hid ((qs c.start).getD k 0 = (c.start[k]'hk2).q) := zH (by
    have h2 : k < (qs c.start).length := by rw [zrb]; exact hk2
    rw [List.getD_eq_getElem?_getD, List.getElem?_eq_getElem h2, Option.getD_some, qs_get _ _ hk2])
   obtain ⟨x, hxe⟩ : ∃ x, c.start[k]'hk2 = x := ⟨_, rfl⟩
   rw [hxe] at g1 g4 g5 HXO HXQ
   obtain ⟨ea1, ea2, ea3, rfl, _⟩ := g4.slen.1
   obtain ⟨eb1, eb2, eb3, rfl, _⟩ := g5.slen.1
   have hb8 := below_alloc w2 (.cells #[.bool x.neg, .slice ea1 ea2 ea3, .slice eb1 eb2 eb3] 32)
   have HXN : Hid (FracN (w2.alloc (.cells #[.bool x.neg, .slice ea1 ea2 ea3, .slice eb1 eb2 eb3] 32)) (.agg #[.bool x.neg, .slice ea1 ea2 ea3, .slice eb1 eb2 eb3]) x.neg x.n x.d) := zH (FracN.below ⟨_, _, rfl, g4, g5⟩ hb8)
   have j1 : (0 : Int) ≤ (k : Int) := by omega
   have j2 : (k : Int) < (sn : Nat) := by omega
   clear g4 g5 hxe ho hbr
   go_wp2_with (go_at_call 88; (with_reducible refine (zqb _ x _ HXN.out HXO.out).mono ?_); rintro e21 w21 ⟨v21, rfl, hv21, hb21⟩
                obtain ⟨t21, x21, y21, rfl, ⟨a61, l61, k61, rfl, _⟩, ⟨a62, l62, k62, rfl, _⟩⟩ := hv21.isF
                have hbb := below_then hb8 hb21
                have ho3 := HO.out.below hbb
                obtain ⟨c0, d0, _⟩ := ho3.cell (k * 3) (by omega)
                obtain ⟨c1, d1, _⟩ := ho3.cell (k * 3 + 1) (by omega)
                obtain ⟨c2, d2, _⟩ := ho3.cell (k * 3 + 2) (by omega)
                have f0 := ho3.frozen (k * 3)
                have f1 := ho3.frozen (k * 3 + 1)
                have f2 := ho3.frozen (k * 3 + 2)
                have n01 := ho3.inj (show k * 3 ≠ k * 3 + 1 by omega)
                have n02 := ho3.inj (show k * 3 ≠ k * 3 + 2 by omega)
                have n12 := ho3.inj (show k * 3 + 1 ≠ k * 3 + 2 by omega)
                have HS4 := zH (ho3.set3 k (.bool t21) (.slice a61 l61 k61) (.slice a62 l62 k62) (fun z => by simp) (fun z => by simp) (fun z => by simp))
                have HE4 := zH (fun j hj => (HE.out j hj).below hbb)
                have HO4 := zH ho3
                have HV4 := zH hv21
                have HB4 := zH (below_then2 HBR.out hbb HBR.out.size)
                clear ho3 hv21 hbb hb21)
   go_roundg (sn - (k + 1))
   case measure => (have := HG.out; omega)
   case rel =>
    refine ⟨k + 1, by omega, rfl, by go_num, HS4.out.1, fun j hj => ?_, HB4.out.trans HS4.out.2⟩
    rcases Nat.lt_or_ge j k with h6 | h6
    ·exact ElemC.set3_other HO4.out hkl (by omega) (HE4.out j h6) _ _ _ (fun z => by simp) (fun z => by simp)
    ·obtain rfl : j = k := by omega
     rw [HXQ.out]
     exact ElemC.set3 HO4.out hkl HV4.out
  ·obtain rfl : k = sn := by omega
   have HV0 : Hid (FracsC w2 vL (itV c q 0)) := zH (HO.out.fracs (by rw [zce HV.out]; exact HN.out.symm) (fun j hj => by
    have h2 : j < (qs c.start).length := hj
    have h3 := HE.out j (by rw [zce HV.out] at hj; rw [HN.out]; exact hj)
    rw [List.getD_eq_getElem?_getD, List.getElem?_eq_getElem h2] at h3
    exact h3))
   have HA4 := zH (HA3.out.below hbr)
   have HX4 := zH (HX3.out.below hbr)
   have HB4 := zH (below_then HB3.out hbr)
   obtain ⟨_, c0, c1, c2, _, _, _⟩ := HC3.out.belowS hbr
   obtain ⟨_, d0, d1, d2, _, _, _⟩ := HR3.out.belowS hbr
   clear ho hbr HO HE HBR HG
   by_cases hm1 : m = 0
   ·subst hm1
    have hm2 : (((0 : Nat) : Int) == 0) = true := rfl
    go_wp2_with fail
    go_ret2
    exact ⟨_, rfl, HV0.out, HB4.out⟩
   ·have hm2 : (((m : Nat) : Int) == 0) = false := by simp; omega
    go_wp2_with (go_at_call 89; (with_reducible refine (HM.out _ _ _ HA4.out HX4.out).mono ?_); rintro e4 w4 ⟨v4, rfl, hm4, hb4⟩
                 have HM4 := zH hm4
                 have HV4 := zH (HV0.out.below hb4)
                 have HB5 := zH (below_then HB4.out hb4)
                 clear hm4 hb4)
    go_loopg [2, 8, 12] (m) (fun g u2 u8 u12 wr => ∃ (i : Nat), i ≤ m ∧ g = m - i ∧ u2 = .int .i64 ((m : Int) - (i : Int)) ∧ u12 = .int .i64 0 ∧ FracsC wr u8 (itV c q i) ∧ Below w4.heap.size w4 wr)
    case atStart => exact ⟨0, Nat.zero_le _, rfl, by simp, rfl, HV4.out, Below.refl _ _⟩
    case round =>
     obtain ⟨i, hin, hg, rfl, rfl, hvi, hbi⟩ := hrel
     obtain ⟨w5, hw5⟩ : ∃ w5, w5 = wr := ⟨_, rfl⟩
     subst hw5
     have HG := zH hg
     have HVI := zH hvi
     have HBI := zH hbi
     have HMI := zH (HM4.out.below hbi)
     clear hg hvi hbi
     by_cases hil : i < m
     ·have hpos : (0 : Int) < (m : Int) - (i : Int) := by omega
      go_wp2_with (go_at_call 90; (with_reducible refine (HSTEP.out i _ _ _ hil HMI.out HVI.out).mono ?_); rintro e6 w6 ⟨v6, rfl, hv6', hb6⟩
                   have HV6 := zH hv6'
                   have HB6 := zH (below_then HBI.out hb6)
                   clear hv6' hb6)
      go_roundg (m - (i + 1))
      case measure => (have := HG.out; omega)
      case rel => exact ⟨i + 1, by omega, rfl, by go_num, rfl, HV6.out, HB6.out⟩
     ·obtain rfl : i = m := by omega
      have hpos : ¬ (0 : Int) < (i : Int) - (i : Int) := by omega
      go_wp2_with fail
      go_ret2
      exact ⟨_, rfl, HVI.out, below_then HB5.out HBI.out⟩
theorem zjf : ∀ z, Value.slice none 0 0 ≠ .int .i64 z := fun z => by simp
def Fr (w : World) (bt : Nat) (wx : World) : Prop := C3 wx w.heap.size (.slice none 0 0) (.slice none 0 0) (.slice none 0 0) ∧ (∀ B, B ≤ bt → B ≤ w.heap.size → Below B w wx)
theorem Fr.below {w wx wy : World} {bt : Nat} (h : Fr w bt wx) (hb : Below wx.heap.size wx wy) : Fr w bt wy :=
 ⟨h.1.belowS hb, fun B h1 h2 => (h.2 B h1 h2).trans (hb.mono (by have := h.1.lt; omega))⟩
theorem Fr.tick {w wx wy : World} {bt a : Nat} {l : List Nat} (h : Fr w bt wx) (ht : TapeAt wx bt l a) (hk : Ticks bt wx wy) : Fr w bt wy :=
 ⟨h.1.tick ht hk zjf zjf zjf, fun B h1 h2 => (h.2 B h1 h2).trans (hk.below h1 (by have := h.1.lt; omega))⟩
theorem Fr.low {w wx wy : World} {bt B : Nat} (h : Fr w bt wx) (hb : Below B wx wy) (hB : w.heap.size < B) : Fr w bt wy :=
 ⟨h.1.below hb hB, fun B' h1 h2 => (h.2 B' h1 h2).trans (hb.mono (by omega))⟩
theorem Fr.set {w wx : World} {bt : Nat} (h : Fr w bt wx) (p : Addr) (hp : w.heap.size < p.block) (u : Value) : Fr w bt (wx.setCell p u) :=
 ⟨h.1.other p u (by omega), fun B' h1 h2 => (h.2 B' h1 h2).setCell (by omega) u⟩
theorem OwnR.over {w : World} {e : TypeId} {B size n : Nat} {v : Value} {xs : List Value} (h : OwnR w e B size v n xs) {p : Addr} (hp : v.ownBlock = none ∨ v.ownBlock ≠ some p.block) (u : Value) : OwnR (w.setCell p u) e B size v n xs := by
 have key : ∀ g, v.ownBlock = some g → (w.setCell p u).heap[g]? = w.heap[g]? := fun g hg => Below.heap_setCell _ _ _ _ (by
  intro e; rcases hp with h1 | h1
  ·rw [hg] at h1; cases h1
  ·exact h1 (by rw [hg, e]))
 refine ⟨⟨h.own.1, ?_⟩, fun g hg cur e' fz hc => ?_⟩
 ·rcases h.own.2 with h' | ⟨g, cap, cur, rfl, hb, hg, rest⟩
  ·exact .inl h'
  ·exact .inr ⟨g, cap, cur, rfl, hb, by rw [key g rfl]; exact hg, rest⟩
 ·rw [key g hg] at hc
  exact h.nl g hg cur e' fz hc
theorem FrRow.over {w : World} {e : TypeId} {B : Nat} {v : Value} {q : List Rat} (h : FrRow w e B v q) {p : Addr} {x : Value} (hp : v.ownBlock = none ∨ v.ownBlock ≠ some p.block) (hc : w.cell? p = some x) (hx : ∀ z, x ≠ .int .u32 z) (u : Value) : FrRow (w.setCell p u) e B v q := by
 obtain ⟨xs, h1, h2⟩ := h
 refine ⟨xs, h1.over hp u, fun j hj => ?_⟩
 obtain ⟨a, b, e1, e2, e3, e4, e5⟩ := h2 j hj
 exact ⟨a, b, e1, e2, e3, ⟨e4.1.over hc hx u, e4.2⟩, ⟨e5.1.over hc hx u, e5.2⟩⟩
theorem Moves.high {B : Nat} {w0 w : World} (h : Moves B w0 w) {p : Addr} {x : Value} (hp : w0.heap.size ≤ p.block) (hc : w.cell? p = some x) (hx : ∀ z, x ≠ .int .u32 z) (u : Value) : Moves B w0 (w.setCell p u) := by
 refine ⟨by simpa [World.setCell] using h.size, fun g h1 h2 => ?_, fun q z hq => ?_⟩
 ·rw [Below.heap_setCell _ _ _ _ (by omega)]; exact h.row g h1 h2
 ·rw [World.cell?_setCell_other]
  ·exact h.limb q z hq
  ·intro e
   have := h.limb q z hq
   rw [← e, hc] at this
   injection this with this
   exact hx _ this
theorem Moves.grow {B : Nat} {w0 w w' : World} {v : Value} (h : Moves B w0 w) (hg : w.grownBy w' v.ownBlock) (hn : NoLimb w v) (hv : ∀ k, v.ownBlock = some k → w0.heap.size ≤ k) : Moves B w0 w' := by
 have hs : w.heap.size ≤ w'.heap.size := hg.size
 refine ⟨Nat.le_trans h.size hs, fun g h1 h2 => ?_, fun q z hq => ?_⟩
 ·rw [hg.block g (Nat.lt_of_lt_of_le h2 h.size) (fun e => by have := hv g e.symm; omega)]
  exact h.row g h1 h2
 ·have hc := h.limb q z hq
  refine hg.cell hc (fun e => ?_)
  have h2 := hn q.block e.symm
  unfold World.cell? at hc
  split at hc
  ·rename_i cur e' fz hh
   split at hc
   ·cases hc
   ·exact h2 cur e' fz hh _ (by have := Array.mem_of_getElem? hc; simpa using this) _ rfl
  ·cases hc
structure InS (w0 : World) (bt : Nat) (l : List Nat) (B b5 : Nat) (vr vs vl : Value) (wA : World) (rv : Value) (row : List Rat) (w : World) : Prop where
 fr : FrRow w 32 wA.heap.size rv row
 mv : Moves B wA w
 tp : ∃ a, TapeB w bt l B a
 bx : C3 w b5 vr vs vl
 fm : Fr w0 bt w
 nums : bt < B ∧ b5 < B ∧ w0.heap.size < B ∧ B ≤ wA.heap.size ∧ IsSl vr ∧ IsSl vs ∧ IsSl vl
section
variable {w0 wA w w' : World} {bt B b5 : Nat} {l : List Nat} {vr vs vl rv : Value} {row : List Rat}
theorem InS.below (h : InS w0 bt l B b5 vr vs vl wA rv row w) (hb : Below w.heap.size w w') : InS w0 bt l B b5 vr vs vl wA rv row w' := by
 obtain ⟨fr, mv, ⟨a, tp⟩, bx, fm, nums⟩ := h
 exact ⟨fr.moves (Moves.below hb) (Nat.le_refl _), mv.trans (Moves.below hb), ⟨a, tp.below hb⟩, bx.belowS hb, fm.below hb, nums⟩
theorem InS.tick (h : InS w0 bt l B b5 vr vs vl wA rv row w) {a' : Nat} (ht : Ticks bt w w') (hta : TapeAt w' bt l a') : InS w0 bt l B b5 vr vs vl wA rv row w' := by
 obtain ⟨fr, mv, ⟨a, tp⟩, bx, fm, n1, n2, n3, n4, n5, n6, n7⟩ := h
 have hm : Moves B w w' := Moves.tick tp.1 n1 ht
 exact ⟨fr.moves hm n4, mv.trans hm, ⟨a', tp.tick ht hta⟩, bx.tick tp.1 ht n5.noInt n6.noInt n7.noInt, fm.tick tp.1 ht, n1, n2, n3, n4, n5, n6, n7⟩
theorem InS.set (h : InS w0 bt l B b5 vr vs vl wA rv row w) {p : Addr} {x : Value} (hp : wA.heap.size ≤ p.block) (hr : rv.ownBlock = none ∨ rv.ownBlock ≠ some p.block) (hc : w.cell? p = some x) (hx : ∀ z, x ≠ .int .u32 z) (hx8 : ∀ z, x ≠ .int .u8 z) (u : Value) :
 InS w0 bt l B b5 vr vs vl wA rv row (w.setCell p u) := by
 obtain ⟨fr, mv, ⟨a, tp⟩, bx, fm, n1, n2, n3, n4, n5, n6, n7⟩ := h
 exact ⟨fr.over hr hc hx u, mv.high hp hc hx u, ⟨a, tp.set (by omega) hc hx8 u⟩, bx.other p u (by omega), fm.set p (by omega) u, n1, n2, n3, n4, n5, n6, n7⟩
theorem InS.grow (h : InS w0 bt l B b5 vr vs vl wA rv row w) {rv' : Value} {row' : List Rat} (hv : FrRow w' 32 wA.heap.size rv' row') (hg : w.grownBy w' rv.ownBlock) (hn : NoLimb w rv) : InS w0 bt l B b5 vr vs vl wA rv' row' w' := by
 obtain ⟨fr, mv, ⟨a, tp⟩, bx, fm, n1, n2, n3, n4, n5, n6, n7⟩ := h
 have hb : Below wA.heap.size w w' := below_grow hg mv.size fr.block
 have hb2 := hb.mono n4
 exact ⟨hv, mv.grow hg hn (fun k hk => (fr.block k hk).1), ⟨a, tp.low hb2 n1⟩, bx.below hb2 n2, fm.low hb2 n3, n1, n2, n3, n4, n5, n6, n7⟩
theorem InS.set3 (h : InS w0 bt l B b5 vr vs vl wA rv row w) {b : Nat} {t0 : Bool} {x0 y0 : Value} (hC : C3 w b (.bool t0) x0 y0) (sx : IsSl x0) (sy : IsSl y0) (hb : wA.heap.size ≤ b) (hr : rv.ownBlock = none ∨ rv.ownBlock ≠ some b) (u0 u1 u2 : Value) :
 InS w0 bt l B b5 vr vs vl wA rv row (((w.setCell ⟨b, 0, none⟩ u0).setCell ⟨b, 1, none⟩ u1).setCell ⟨b, 2, none⟩ u2) := by
 obtain ⟨_, c0, c1, c2, _, _, _⟩ := hC
 have h1 := h.set (p := ⟨b, 0, none⟩) hb hr c0 (fun z => by simp) (fun z => by simp) u0
 have h2 := h1.set (p := ⟨b, 1, none⟩) hb hr (by rw [World.cell?_setCell_other _ _ _ _ (by simp)]; exact c1) sx.noLimb sx.noByte u1
 exact h2.set (p := ⟨b, 2, none⟩) hb hr (by rw [World.cell?_setCell_other _ _ _ _ (by simp), World.cell?_setCell_other _ _ _ _ (by simp)]; exact c2) sy.noLimb sy.noByte u2
theorem InS.start {rs : List Value} {rates : List (List Rat)} {start : List Rat} {lost : List Bool} (c : ChW wA bt l B b5 vr vs vl rs rates start lost) (hF : Fr w0 bt wA) (hw : w0.heap.size < B) : InS w0 bt l B b5 vr vs vl wA (.slice none 0 0) [] wA :=
 ⟨FrRow.nil _ _ _, Moves.refl _ _, c.tape, c.box, hF, c.bt5.1, c.bt5.2.1, hw, c.sz, c.ra.sl, c.st.sl, c.lo.sl⟩
theorem InS.chw {rs : List Value} {rates : List (List Rat)} {start : List Rat} {lost : List Bool} (h : InS w0 bt l B b5 vr vs vl wA rv row w) (c : ChW wA bt l B b5 vr vs vl rs rates start lost) : ChW w bt l B b5 vr vs vl rs rates start lost ∧ FrRow w 32 B rv row ∧ (rv.ownBlock = none ∨ rv.ownBlock ≠ vs.ownBlock) := by
 refine ⟨c.of h.mv h.tp h.bx, h.fr.mono c.sz, ?_⟩
 cases ho : rv.ownBlock with
 | none => exact Or.inl rfl
 | some g =>
   refine Or.inr (fun e => ?_)
   have h1 := h.fr.block g ho
   have h2 := c.st.block g e.symm
   omega
theorem ChW.chainC {rs : List Value} {rates : List (List Rat)} {start : List Rat} {lost : List Bool} (h : ChW w bt l B b5 vr vs vl rs rates start lost) : ChainC w (.agg #[vr, vs, vl]) ⟨rates, start, lost⟩ := by
 refine ⟨vr, vs, vl, rfl, ⟨h.ra.sl, by rw [h.ra.len]; exact h.rl, fun j hj => ?_⟩, h.st.fracs, ⟨h.lo.sl, h.lo.len, fun j hj => h.lo.cell j hj⟩⟩
 have hj2 : j < rs.length := by rw [h.rl]; exact hj
 exact ⟨rs[j], h.ra.cell j hj2, (h.rows j hj2 hj).1.fracs⟩
theorem ChW.set3 {rs : List Value} {rates : List (List Rat)} {start : List Rat} {lost : List Bool} (h : ChW w bt l B b5 vr vs vl rs rates start lost) {b : Nat} (hC : C3 w b (.slice none 0 0) (.slice none 0 0) (.slice none 0 0)) (hb : b < B) (hbt : b ≠ bt) (hb5 : b ≠ b5) (u0 u1 u2 : Value) :
 ChW (((w.setCell ⟨b, 0, none⟩ u0).setCell ⟨b, 1, none⟩ u1).setCell ⟨b, 2, none⟩ u2) bt l B b5 vr vs vl rs rates start lost := by
 obtain ⟨_, c0, c1, c2, _, _, _⟩ := hC
 have c1' : (w.setCell ⟨b, 0, none⟩ u0).cell? ⟨b, 1, none⟩ = some (.slice none 0 0) := by rw [World.cell?_setCell_other _ _ _ _ (by simp)]; exact c1
 have c2' : ((w.setCell ⟨b, 0, none⟩ u0).setCell ⟨b, 1, none⟩ u1).cell? ⟨b, 2, none⟩ = some (.slice none 0 0) := by rw [World.cell?_setCell_other _ _ _ _ (by simp), World.cell?_setCell_other _ _ _ _ (by simp)]; exact c2
 have one : ∀ (w : World) (k : Nat) (u : Value), ChW w bt l B b5 vr vs vl rs rates start lost → w.cell? ⟨b, k, none⟩ = some (.slice none 0 0) → ChW (w.setCell ⟨b, k, none⟩ u) bt l B b5 vr vs vl rs rates start lost := fun w k u h hc => by
  obtain ⟨a, ht⟩ := h.tape
  exact h.of (Moves.set hb hc (fun z => by simp) u) ⟨a, ht.set hbt hc (fun z => by simp) u⟩ (h.box.other _ u hb5)
 exact one _ 2 u2 (one _ 1 u1 (one _ 0 u0 h c0) c1') c2'
end
end Go.Proofs.Ytlpdkbmmbdfoiaa
namespace Go.Proofs.Ytlpdkbmmbdfoiaa
theorem zero_bad : ¬ zla ⟨[], [], []⟩ := fun h => by have := h.1; simp at this
end Go.Proofs.Ytlpdkbmmbdfoiaa
