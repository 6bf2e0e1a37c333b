/-
  LinearRank: for every input the law returns true, and the input reads as it did. No condition.
  Ahead of it: The rank of a matrix as elimination finds it: it is that of the transpose, and a combination of the rows adds nothing to it. No program is named here. package drydockref02: Int of any integer, Add in lowest terms. LinearRank: sizes of the combination of rows. No program is named here. append of the rows of a matrix to an empty slice; two rows of an own matrix change places. No code is walked here. Lifting a law: what came in reads as it did in every later world that only adds to the first; small integers that came in. No law is named here. LinearRank: the law function returns true.
-/
import Derived.Test.YtbhkibilnmoljaaQMu1
import Derived.Test.YtbhkibilnmoljaaQRb5
import Derived.Test.YtbhkibilnmoljaaQBx
import Derived.Test.YtbhkibilnmoljaaQRwM
import Derived.Test.YtbhkibilnmoljaaRows
import Derived.WalkKit
import Derived.ProofKit
import Derived.OpenShut
import Derived.ChangeSlices
namespace Go.Proofs.Ytbhkibilnmoljaa
set_option linter.unusedVariables false

/-- A is a product of inner size s. -/
def fac (n m s : Nat) (A : Mx) : Prop := ∃ C R : Mx, ∀ i j, i < n → j < m → A i j = mulM s C R i j
/-- Rows and columns of A combine to the unit matrix of size r. -/
def unitIn (n m r : Nat) (A : Mx) : Prop := ∃ X Y : Mx, ∀ a b, a < r → b < r → mulM n X (mulM m A Y) a b = oneM a b
theorem mul_congr {m : Nat} {A B C D : Mx} {i k i' k' : Nat} (h1 : ∀ j, j < m → A i j = C i' j) (h2 : ∀ j, j < m → B j k = D j k') : mulM m A B i k = mulM m C D i' k' :=
  sg_congr fun j hj => by rw [h1 j hj, h2 j hj]
theorem sg_cut {s r : Nat} {f : Nat → Rat} (h : s ≤ r) (h0 : ∀ l, s ≤ l → l < r → f l = 0) : sg r f = sg s f := by
  obtain ⟨c, rfl⟩ : ∃ c, r = s + c := ⟨r - s, by omega⟩
  rw [sg_split, sg_congr (n := c) (g := fun _ => 0) (fun j hj => h0 _ (by omega) (by omega)), sg_zero]
  grind
theorem dt_one (r : Nat) : dt r oneM ≠ 0 := by
  rw [dt_diag (fun i j _ _ hij => by unfold oneM; rw [if_neg hij])]
  exact pr_ne fun i _ => by unfold oneM; rw [if_pos rfl]; decide +kernel
theorem unit_le {n m s r : Nat} {A : Mx} (hf : fac n m s A) (hu : unitIn n m r A) : r ≤ s := by
  obtain ⟨C, R, hC⟩ := hf
  obtain ⟨X, Y, hX⟩ := hu
  rcases Nat.lt_or_ge s r with h | h
  · exfalso
    have e : dt r (mulM r (fun a l => if l < s then mulM n X C a l else 0) (fun l b => if l < s then mulM m R Y l b else 0)) = dt r oneM := dt_congr fun a b ha hb => by
      rw [← hX a b ha hb]
      have e1 : mulM n X (mulM m A Y) a b = mulM s (mulM n X C) (mulM m R Y) a b := by
        rw [mul_assoc]
        refine mul_congr (fun _ _ => rfl) fun i hi => ?_
        rw [← mul_assoc]
        exact mul_congr (fun j hj => hC i j hi hj) fun _ _ => rfl
      rw [e1]
      unfold mulM
      rw [sg_cut (Nat.le_of_lt h) (fun l h1 h2 => by dsimp only; rw [if_neg (by omega), Rat.zero_mul])]
      exact sg_congr fun l hl => by dsimp only; rw [if_pos hl, if_pos hl]
    rw [dt_mul, dt_zero_row (A := fun l b => if l < s then mulM m R Y l b else 0) (r := r - 1) (by omega) (fun j hj => if_neg (by omega)), Rat.mul_zero] at e
    exact dt_one r e.symm
  · exact h
def trM (A : Mx) : Mx := fun i j => A j i
theorem fac_tr {n m s : Nat} {A : Mx} (h : fac n m s A) : fac m n s (trM A) := by
  obtain ⟨C, R, e⟩ := h
  refine ⟨trM R, trM C, fun i j hi hj => ?_⟩
  show A j i = _
  rw [e j i hj hi]
  exact sg_congr fun l _ => Rat.mul_comm _ _
theorem unit_tr {n m r : Nat} {A : Mx} (h : unitIn n m r A) : unitIn m n r (trM A) := by
  obtain ⟨X, Y, e⟩ := h
  refine ⟨trM Y, trM X, fun a b ha hb => ?_⟩
  have e1 : oneM a b = oneM b a := by
    unfold oneM
    by_cases h : a = b
    · rw [if_pos h, if_pos h.symm]
    · rw [if_neg h, if_neg (fun e => h e.symm)]
  rw [e1, ← e b a hb ha, ← mul_assoc]
  unfold mulM trM
  refine sg_congr fun j _ => ?_
  rw [Rat.mul_comm]
  refine congrArg (X b j * ·) (sg_congr fun i _ => Rat.mul_comm _ _)
/-- Row operations keep the inner sizes. -/
theorem facC (n m t : Nat) (A : Mx) : RowC n fun X _ => fac n m t X → fac n m t A where
  congr := fun X Y s h hX hY => hX (by
    obtain ⟨C, R, e⟩ := hY
    exact ⟨C, R, fun i j hi hj => by rw [h i hi]; exact e i j hi hj⟩)
  swap := fun X s a b ha hb hab hX hY => hX (by
    obtain ⟨C, R, e⟩ := hY
    refine ⟨swp C a b, R, fun i j hi hj => ?_⟩
    have key : ∀ i', i' < n → swp X a b i' = X i → swp C a b i = C i' → X i j = mulM t (swp C a b) R i j := fun i' hi' h1 h2 => by
      rw [← h1, e i' j hi' hj]
      exact (congrFun (mul_row h2) j).symm
    by_cases h1 : i = a
    · subst h1
      exact key b hb (by unfold swp; rw [if_neg (fun e => hab e.symm), if_pos rfl]) (by unfold swp; rw [if_pos rfl])
    · by_cases h2 : i = b
      · subst h2
        exact key a ha (by unfold swp; rw [if_pos rfl]) (by unfold swp; rw [if_neg h1, if_pos rfl])
      · exact key i hi (by unfold swp; rw [if_neg h1, if_neg h2]) (by unfold swp; rw [if_neg h1, if_neg h2]))
  add := fun X s i r c hi hr hir hX hY => hX (by
    obtain ⟨C, R, e⟩ := hY
    refine ⟨rset C i fun l => C i l - c * C r l, R, fun k j hk hj => ?_⟩
    have er := e r j hr hj
    rw [rset_ne (fun e => hir e.symm)] at er
    by_cases h1 : k = i
    · subst h1
      have ek := e k j hk hj
      rw [rset_at] at ek
      have e2 : mulM t (rset C k fun l => C k l - c * C r l) R k j = mulM t C R k j + (-c) * mulM t C R r j := by
        unfold mulM
        rw [rset_at, ← sg_mul_left, ← sg_add]
        exact sg_congr fun l _ => by grind
      rw [e2, ← ek, ← er]
      grind
    · have ek := e k j hk hj
      rw [rset_ne h1] at ek
      rw [ek]
      exact (congrFun (mul_row (rset_ne h1)) j).symm)
/-- Row operations are combinations of rows. -/
theorem combC (n m : Nat) (A : Mx) : RowC n fun X _ => ∃ E : Mx, ∀ i j, i < n → j < m → X i j = mulM n E A i j where
  congr := fun X Y s h hX => by
    obtain ⟨E, e⟩ := hX
    exact ⟨E, fun i j hi hj => by rw [← h i hi]; exact e i j hi hj⟩
  swap := fun X s a b ha hb hab hX => by
    obtain ⟨E, e⟩ := hX
    refine ⟨swp E a b, fun i j hi hj => ?_⟩
    have key : ∀ i', i' < n → swp X a b i = X i' → swp E a b i = E i' → swp X a b i j = mulM n (swp E a b) A i j := fun i' hi' h1 h2 => by
      rw [h1, e i' j hi' hj]
      exact (congrFun (mul_row h2) j).symm
    by_cases h1 : i = a
    · subst h1
      exact key b hb (by unfold swp; rw [if_pos rfl]) (by unfold swp; rw [if_pos rfl])
    · by_cases h2 : i = b
      · subst h2
        exact key a ha (by unfold swp; rw [if_neg h1, if_pos rfl]) (by unfold swp; rw [if_neg h1, if_pos rfl])
      · exact key i hi (by unfold swp; rw [if_neg h1, if_neg h2]) (by unfold swp; rw [if_neg h1, if_neg h2])
  add := fun X s i r c hi hr hir hX => by
    obtain ⟨E, e⟩ := hX
    refine ⟨rset E i fun l => E i l + c * E r l, fun k j hk hj => ?_⟩
    by_cases h1 : k = i
    · subst h1
      rw [rset_at, e k j hk hj, e r j hr hj]
      unfold mulM
      rw [rset_at, ← sg_mul_left, ← sg_add]
      exact sg_congr fun l _ => by grind
    · rw [rset_ne h1, e k j hk hj]
      exact (congrFun (mul_row (rset_ne h1)) j).symm
/-- The pivots' columns are unit columns but for a factor. -/
theorem elim_pivs (n : Nat) (A : Mx) : ∀ k, ∃ p : Nat → Nat, ∀ l, l < (elim false n A k).r → p l < k ∧ (elim false n A k).A l (p l) ≠ 0 ∧ ∀ i, i < n → i ≠ l → (elim false n A k).A i (p l) = 0
  | 0 => ⟨fun _ => 0, fun l hl => absurd hl (by simp [elim])⟩
  | k + 1 => by
    obtain ⟨p, hp⟩ := elim_pivs n A k
    have hrn := (elim_r false n A k).1
    have hge := pvt_ge n k (elim false n A k)
    rw [elim, estep]
    by_cases hlt : pvt n k (elim false n A k) < n
    · have hpn := pvt_ne hrn hlt
      rw [if_pos hlt]
      dsimp only
      generalize pvt n k (elim false n A k) = a at *
      generalize (elim false n A k).r = r at *
      generalize (elim false n A k).A = S at *
      refine ⟨fun l => if l < r then p l else k, fun l hl => ?_⟩
      by_cases hlr : l < r
      · obtain ⟨h1, h2, h3⟩ := hp l hlr
        simp only [if_pos hlr]
        have hun : ∀ i, redu false (swp S r a) r k i (p l) = swp S r a i (p l) := fun i => by
          unfold redu; rw [if_neg (fun h => by omega)]
        refine ⟨by omega, ?_, fun i hi hil => ?_⟩
        · rw [hun]; unfold swp; rw [if_neg (by omega), if_neg (by omega)]; exact h2
        · rw [hun]; unfold swp; split
          · exact h3 a hlt (by omega)
          · split
            · exact h3 r (by omega) (by omega)
            · exact h3 i hi hil
      · obtain rfl : l = r := by omega
        simp only [if_neg hlr]
        have hkk : swp S l a l k ≠ 0 := by rw [swp_at]; exact hpn
        refine ⟨by omega, ?_, fun i hi hil => ?_⟩
        · rw [redu_row (fun h => h.1 rfl)]; exact hkk
        · unfold redu
          by_cases hz : swp S l a i k = 0
          · rw [if_neg (fun h => h.1.2.2 hz)]; exact hz
          · rw [if_pos ⟨⟨hil, (fun z => by cases z.1), hz⟩, Nat.le_refl _⟩, Rat.div_mul_cancel hkk]; grind
    · rw [if_neg hlt]
      exact ⟨p, fun l hl => by obtain ⟨h1, h2, h3⟩ := hp l hl; exact ⟨by omega, h2, h3⟩⟩
theorem rank_agree (n m : Nat) (A : Mx) : (elim true n A m).r = (elim false n A m).r := (elim_agree (A := A) (M := A) (n := n) (m := m) true false (fun _ _ _ _ => rfl) m (Nat.le_refl _)).1
theorem rank_fac (n m : Nat) (A : Mx) : fac n m (elim false n A m).r A := by
  refine elim_kept (facC n m (elim false n A m).r A) false (A := A) (fun h => h) m ⟨oneM, (elim false n A m).A, fun i j hi hj => ?_⟩
  unfold mulM oneM
  by_cases h : i < (elim false n A m).r
  · have e : sg (elim false n A m).r (fun l => (if i = l then (1 : Rat) else 0) * (elim false n A m).A l j) = sg (elim false n A m).r (fun l => if i = l then (elim false n A m).A l j else 0) := sg_congr fun l _ => by
      by_cases h1 : i = l
      · rw [if_pos h1, if_pos h1, Rat.one_mul]
      · rw [if_neg h1, if_neg h1, Rat.zero_mul]
    rw [e, sg_one h]
  · rw [elim_left false n A m i j (by omega) hi hj]
    exact (sg_zero _).symm.trans (sg_congr fun l hl => by rw [if_neg (by omega), Rat.zero_mul])
theorem rank_unit (n m : Nat) (A : Mx) : unitIn n m (elim false n A m).r A := by
  obtain ⟨E, hE⟩ := elim_kept (combC n m A) false (A := A) ⟨oneM, fun i j hi hj => by
    unfold mulM oneM
    have e : sg n (fun l => (if i = l then (1 : Rat) else 0) * A l j) = sg n (fun l => if i = l then A l j else 0) := sg_congr fun l _ => by
      by_cases h1 : i = l
      · rw [if_pos h1, if_pos h1, Rat.one_mul]
      · rw [if_neg h1, if_neg h1, Rat.zero_mul]
    rw [e, sg_one hi]⟩ m
  obtain ⟨p, hp⟩ := elim_pivs n A m
  have hrn := (elim_r false n A m).1
  generalize (elim false n A m).r = r at *
  generalize (elim false n A m).A = T at *
  refine ⟨E, fun j b => if p b = j then 1 / T b (p b) else 0, fun a b ha hb => ?_⟩
  rw [← mul_assoc]
  obtain ⟨h1, h2, h3⟩ := hp b hb
  have e1 : mulM m (mulM n E A) (fun j b => if p b = j then 1 / T b (p b) else 0) a b = sg m (fun j => if p b = j then T a j * (1 / T b (p b)) else 0) := sg_congr fun j hj => by
    rw [← hE a j (by omega) hj]
    dsimp only
    by_cases h4 : p b = j
    · rw [if_pos h4, if_pos h4]
    · rw [if_neg h4, if_neg h4, Rat.mul_zero]
  rw [e1, sg_one h1 (fun j => T a j * (1 / T b (p b)))]
  unfold oneM
  by_cases h5 : a = b
  · subst h5
    rw [if_pos rfl, Rat.mul_comm, Rat.div_mul_cancel h2]
  · rw [if_neg h5, h3 a (by omega) h5, Rat.zero_mul]
theorem rank_uniq {n m s : Nat} {A : Mx} (hf : fac n m s A) (hu : unitIn n m s A) : (elim true n A m).r = s := by
  rw [rank_agree]
  have h1 := unit_le (rank_fac n m A) hu
  have h2 := unit_le hf (rank_unit n m A)
  omega
theorem rank_tr (n m : Nat) (A : Mx) : (elim true m (trM A) n).r = (elim true n A m).r := by
  rw [rank_agree n m]
  exact rank_uniq (fac_tr (rank_fac n m A)) (unit_tr (rank_unit n m A))
/-- A combination of the rows below them. -/
theorem rank_more {n m : Nat} {A B : Mx} {c : Nat → Rat} (h : ∀ i j, i < n → j < m → B i j = A i j) (hn : ∀ j, j < m → B n j = sg n fun i => c i * A i j) : (elim true (n + 1) B m).r = (elim true n A m).r := by
  rw [rank_agree n m]
  refine rank_uniq ?_ ?_
  · obtain ⟨C, R, e⟩ := rank_fac n m A
    refine ⟨fun i l => if i < n then C i l else mulM n (fun _ i => c i) C 0 l, R, fun i j hi hj => ?_⟩
    by_cases h1 : i < n
    · rw [h i j h1 hj, e i j h1 hj]
      exact mul_congr (fun l _ => (if_pos h1).symm) fun _ _ => rfl
    · obtain rfl : i = n := by omega
      rw [hn j hj]
      have e2 : (sg i fun k => c k * A k j) = mulM i (fun _ k => c k) (mulM (elim false i A m).r C R) 0 j := sg_congr fun k hk => by rw [e k j hk hj]
      rw [e2, ← mul_assoc]
      exact mul_congr (fun l _ => (if_neg h1).symm) fun _ _ => rfl
  · obtain ⟨X, Y, e⟩ := rank_unit n m A
    refine ⟨fun a i => if i < n then X a i else 0, Y, fun a b ha hb => ?_⟩
    rw [← e a b ha hb]
    show sg (n + 1) _ = _
    rw [sg]
    dsimp only
    rw [if_neg (Nat.lt_irrefl n), Rat.zero_mul]
    have e3 : sg n (fun i => (if i < n then X a i else 0) * mulM m B Y i b) = mulM n X (mulM m A Y) a b := sg_congr fun i hi => by
      rw [if_pos hi]
      exact congrArg (X a i * ·) (mul_congr (fun j hj => h i j hi hj) fun _ _ => rfl)
    rw [e3]; grind
theorem rank_det (n : Nat) (A : Mx) : (elim true n A n).r = n ↔ dt n A ≠ 0 := by
  rw [rank_agree]
  have h := elim_dt (M := A) (n := n)
  have hr := (elim_r false n A n).1
  constructor
  · exact fun e => (h.1 e).2
  · intro e
    rcases Nat.lt_or_ge (elim false n A n).r n with h1 | h1
    · exact absurd (h.2 h1) e
    · omega
end Go.Proofs.Ytbhkibilnmoljaa
namespace Go.Proofs.Ytbhkibilnmoljaa
set_option linter.unusedVariables false
set_option linter.unusedSimpArgs false
open Go.RowKit

/-- A fraction that is an integer. -/
def intQ (x : Int) : Rat := fq (decide (x < 0)) x.natAbs 1
theorem r2make_i1 (x : Int) (w : World) (h1 : -9223372036854775808 ≤ x) (h2 : x < 9223372036854775808) : Calls Try.prog 32 #[.int .i64 x, .int .i64 1] w (RF0 w (intQ x)) :=
  (r2make_any x 1 w h1 h2 (by decide) (by decide) (by decide)).mono fun _ _ h => h.eq (by
    unfold intQ
    rw [decide_eq_false (show ¬ ((1 : Int) < 0) by decide)]
    cases decide (x < 0) <;> rfl)
set_option maxHeartbeats 800000 in
theorem r2int_i (x : Int) (w : World) (h1 : -9223372036854775808 ≤ x) (h2 : x < 9223372036854775808) : Calls Try.prog 12 #[.int .i64 x] w (RF1 w (intQ x)) := by
  have HN := Lib.hid (And.intro h1 h2)
  clear h1 h2
  go_enter Try.func12, Try.ntmps12
  go_wp2_with (go_at_call 32; (with_reducible refine (r2make_i1 x _ HN.out.1 HN.out.2).mono ?_); rintro e w1 ⟨v, rfl, hv, hb1⟩
               obtain ⟨t9, x9, y9, rfl, ⟨a1, l91, k1, rfl, _⟩, ⟨a2, l92, k2, rfl, _⟩⟩ := hv.isF
               have hr := ((C3.new w 30 (.bool false) (.slice none 0 0) (.slice none 0 0)).belowS hb1).allocS (.cells #[.bool t9, .slice a1 l91 k1, .slice a2 l92 k2] 30)
               have hv2 := hv.below (below_alloc w1 (.cells #[.bool t9, .slice a1 l91 k1, .slice a2 l92 k2] 30))
               have hb2 := below_then (below_then (below_alloc w (.cells #[.bool false, .slice none 0 0, .slice none 0 0] 30)) hb1) (below_alloc w1 (.cells #[.bool t9, .slice a1 l91 k1, .slice a2 l92 k2] 30))
               have HR := Lib.hid hr
               obtain ⟨_, d1, d2, d3, d4, d5, d6⟩ := hr)
  refine bodyPost_c1 rfl rfl Try.aggF Try.sizeF (HR.out.set _ _ _) rfl ?_
  exact ⟨_, rfl, hv2.set3 HR.out (fun z => by simp) (fun z => by simp) _ _ _, below_set3 hb2 (Nat.le_refl _) _ _ _⟩
theorem wrap_i64 {x : Int} (h1 : -128 ≤ x) (h2 : x ≤ 127) : IntKind.i64.wrap x = x := by
  unfold IntKind.wrap
  simp [IntKind.signed, IntKind.bits]
  omega
theorem r2int_w (x : Int) (w : World) (h1 : -128 ≤ x) (h2 : x ≤ 127) : Calls Try.prog 12 #[.int .i64 (IntKind.i64.wrap x)] w (RF1 w (intQ x)) := by
  rw [wrap_i64 h1 h2]; exact r2int_i x w (by omega) (by omega)
theorem r2add_can (va vb : Value) (p q : Rat) (w : World) (ha : FracC w va p) (hb : FracC w vb q) (hp : fits p) (hq : fits q) (hf : fits (p + q)) : Calls Try.prog 14 #[va, vb] w (RF0 w (p + q)) :=
  (r2add_any va vb _ _ _ _ _ _ w ha.raw hb.raw ⟨p.den_nz, hp.2, hp.1⟩ ⟨q.den_nz, hq.2, hq.1⟩).mono fun _ _ h => h.ok (by rw [fq_self, fq_self]) hf
end Go.Proofs.Ytbhkibilnmoljaa
namespace Go.Proofs.Ytbhkibilnmoljaa
set_option linter.unusedVariables false

theorem int_over {x : Int} (h1 : -128 ≤ x) (h2 : x ≤ 127) : over 1 128 (intQ x) := by
  refine ⟨sgn (decide (x < 0)) x.natAbs, rfl, ?_⟩
  rw [sgn_natAbs]; omega
theorem int_fits {x : Int} (h1 : -128 ≤ x) (h2 : x ≤ 127) : fits (intQ x) := fits_over2 (a := 8) (b := 1) (by decide) (int_over h1 h2) (by decide) (by decide) (by decide) (by decide)
/-- The factor of row i. -/
def coef (c : List Int) (i : Nat) : Rat := if h : i < c.length then intQ c[i] else 0
/-- What the law of the rank computes of the combination. -/
structure CombOk (n m : Nat) (A : Mx) (c : List Int) : Prop where
  p : ∀ i j, i < n → j < m → fits (coef c i * A i j)
  s : ∀ k j, k ≤ n → j < m → fits (sg k fun i => coef c i * A i j)
theorem coef_over {c : List Int} (hc : ∀ x ∈ c, -128 ≤ x ∧ x ≤ 127) (i : Nat) : over 1 128 (coef c i) := by
  unfold coef; split
  · next h => exact int_over (hc _ (List.getElem_mem h)).1 (hc _ (List.getElem_mem h)).2
  · exact over.zero _ _
theorem comb_over {n m : Nat} {A : Mx} {c : List Int} (hn : n ≤ 5) (hc : ∀ x ∈ c, -128 ≤ x ∧ x ≤ 127) (hA : ∀ i j, i < n → j < m → smallQ (A i j)) {k j : Nat} (hk : k ≤ n) (hj : j < m) : over 840 (5 * (128 * 12600)) (sg k fun i => coef c i * A i j) := by
  have h := over.sg (n := k) (f := fun i => coef c i * A i j) (D := 1 * 840) (B := 128 * 12600) (by decide) fun i hi => over.mul (coef_over hc i) (hA i j (by omega) hj)
  rw [Nat.one_mul] at h
  exact h.mono (Nat.mul_le_mul_right _ (by omega))
theorem comb_ok {n m : Nat} {A : Mx} {c : List Int} (hn : n ≤ 5) (hc : ∀ x ∈ c, -128 ≤ x ∧ x ≤ 127) (hA : ∀ i j, i < n → j < m → smallQ (A i j)) : CombOk n m A c := by
  refine ⟨fun i j hi hj => ?_, fun k j hk hj => fits_over2 (a := 23) (b := 10) (by decide) (comb_over hn hc hA hk hj) (by decide) (by decide) (by decide) (by decide)⟩
  have h := over.mul (coef_over hc i) (hA i j hi hj)
  exact fits_over2 (a := 21) (b := 10) (by decide) h (by decide) (by decide) (by decide) (by decide)
/-- The matrix with the combination below it. -/
def moreM (n : Nat) (A : Mx) (c : List Int) : Mx := fun i j => if i < n then A i j else sg n fun l => coef c l * A l j
theorem slim_more : slim4 (grow 5 (5 * (128 * 12600), 840, 1, 1)) := by decide +kernel
theorem slim_more_le {k : Nat} (hk : k ≤ 5) : slim4 (grow k (5 * (128 * 12600), 840, 1, 1)) := by
  obtain ⟨a1, a2, a3, a4⟩ := grow_le (x := (5 * (128 * 12600), 840, 1, 1)) ⟨by decide, by decide, by decide, by decide⟩ 5 hk
  obtain ⟨c1, c2, c3, c4⟩ := slim_more
  exact ⟨Nat.lt_of_le_of_lt a1 c1, Nat.lt_of_le_of_lt a2 c2, Nat.lt_of_le_of_lt a3 c3, Nat.lt_of_le_of_lt a4 c4⟩
structure MoreOk (n m : Nat) (A : Mx) (c : List Int) : Prop where
  f : fitM (n + 1) m (moreM n A c)
  w : wtF (n + 1) m (moreM n A c) ≤ 1900
  x : slimE true (n + 1) m m (moreM n A c)
  r : (elim true (n + 1) (moreM n A c) m).r = (elim true n A m).r
theorem more_ok {n m : Nat} {A : Mx} {c : List Int} (hn : n ≤ 5) (hm : m ≤ 5) (hc : ∀ x ∈ c, -128 ≤ x ∧ x ≤ 127) (hA : ∀ i j, i < n → j < m → smallQ (A i j)) : MoreOk n m A c := by
  have ho : ∀ i j, i < n + 1 → j < m → over 840 (5 * (128 * 12600)) (moreM n A c i j) := fun i j hi hj => by
    unfold moreM; split
    · exact (hA i j (by assumption) hj).mono (by decide)
    · exact comb_over hn hc hA (Nat.le_refl _) hj
  refine ⟨fun i j hi hj => fits_over2 (a := 23) (b := 10) (by decide) (ho i j hi hj) (by decide) (by decide) (by decide) (by decide), ?_, slimE_of (Nat.le_refl _) (by decide) (by decide) ho (slim_more_le hm), ?_⟩
  · have h1 := wtF_le (n := n + 1) (m := m) (A := moreM n A c) (K := 23 + 10) fun i j hi hj => over.wt (by decide) (ho i j hi hj) (by decide) (by decide)
    have h2 : (n + 1) * (m * (23 + 10)) ≤ 6 * (5 * (23 + 10)) := Nat.mul_le_mul (by omega) (Nat.mul_le_mul_right _ hm)
    omega
  · refine rank_more (c := coef c) (fun i j hi hj => ?_) fun j hj => ?_
    · unfold moreM; rw [if_pos hi]
    · unfold moreM; rw [if_neg (Nat.lt_irrefl n)]
/-- The transpose. -/
structure TrOk (n m : Nat) (A : Mx) : Prop where
  f : fitM m n (trM A)
  w : wtF m n (trM A) ≤ 1900
  x : slimE true m n n (trM A)
  r : (elim true m (trM A) n).r = (elim true n A m).r
theorem tr_ok {n m : Nat} {A : Mx} (hn : n ≤ 5) (hm : m ≤ 5) (hA : ∀ i j, i < n → j < m → smallQ (A i j)) (hw : ∀ i j, i < n → j < m → wt (A i j) ≤ 8) : TrOk n m A := by
  refine ⟨fun i j hi hj => small_fits (hA j i hj hi), ?_, slimE_small (Nat.le_refl _) hn fun i j hi hj => hA j i hj hi, rank_tr n m A⟩
  have h1 := wtF_le (n := m) (m := n) (A := trM A) (K := 8) fun i j hi hj => hw j i hj hi
  have h2 : m * (n * 8) ≤ 5 * (5 * 8) := Nat.mul_le_mul hm (Nat.mul_le_mul_right _ hn)
  omega
end Go.Proofs.Ytbhkibilnmoljaa
namespace Go.Proofs.Ytbhkibilnmoljaa
set_option linter.unusedVariables false
set_option linter.unusedSimpArgs false
open Go.RowKit

/-- append(s, x...), both rows of one-cell values that are no limbs. -/
theorem append_rows {P : Program} (t e : TypeId) (i : TypeInfo) (ht : P.underlying t = some (.slice e)) (hi : P.info? e = some i) (hz : i.zero = some (.slice none 0 0)) (hsize : i.size = 1) (hby : i.bytes = 24)
    (w : World) {ops : Array Oper} {rest : List Oper} {o : Oper} {a : Act} {Q : Exit → Act → World → Prop} (hgd : o.guard = none) (s x : Operand)
    (ho : o.op = .call { callee := .builtin .append, args := #[s, x], argTypes := #[t, t] }) (B : Nat)
    (v : Value) (xs : List Value) (hs : a.eval s = v) (hown : OwnR w e B 1 v xs.length xs) (ad : Addr) (m c : Nat) (hxe : a.eval x = .slice (some ad) m c) (news : List Value) (hl : news.length = m)
    (hnews : ∀ j u, news[j]? = some u → w.cell? (ad.add j) = some u) (h1 : ∀ u ∈ news, u.oneCell' = true) (hnn : ∀ c ∈ news, ∀ z, c ≠ .int .u32 z) (hn : xs.length + m ≤ 1000) (hbase : B ≤ w.heap.size)
    (h : ∀ v' w', OwnR w' e B 1 v' (xs ++ news).length (xs ++ news) → w.grownBy w' v.ownBlock → NoLimb w v → (v'.ownBlock = v.ownBlock ∨ v'.ownBlock = some w.heap.size) → IsSl v' → wpList P ops Q rest (a.put o.dst v') w') :
    wpList P ops Q (o :: rest) a w := by
  refine wpList_plain hgd fun K hK => ?_
  obtain ⟨v', w', hr, k1, k2, k3, k4⟩ := run_append_R (P := P) w B t o.type e i _ 1 24 ht hi hz hsize hby rfl (by decide) v xs.length xs hown.own ad m c news (by omega)
    hnews h1 (by simp [maxLen]; omega) (by omega) hbase hown.nl hnn (fun c hc z => by
      have hc2 : c ∈ [Value.slice none 0 0] := hc
      simp at hc2; subst hc2; simp)
  unfold Oper.wp execOp
  simp only [ho, resolve, invoke, builtin, Sem.run_bind, Sem.run_pure, Result.andThen_ok, List.map_toArray, List.map_cons, List.map_nil, hs, hxe, hr]
  have hR : OwnR w' e B 1 v' (xs.length + m) (xs ++ news) := ⟨k1, k4⟩
  exact hK _ _ (h v' w' (by rw [List.length_append, hl]; exact hR) k2 hown.nl k3 hR.sl)
theorem OwnR.empty {w : World} {e : TypeId} {B b : Nat} (hb : w.heap.size = b) (hB : B ≤ b) : OwnR (w.alloc (.cells #[] e)) e B 1 (.slice (some ⟨b, 0, none⟩) 0 0) 0 [] := by
  subst hb
  refine ⟨⟨rfl, .inr ⟨_, 0, #[], rfl, hB, heap_alloc_new w _, Nat.le_refl _, Nat.zero_le _, rfl, rfl⟩⟩, ?_⟩
  intro g hg cur e' fz hc c hcc z
  simp only [Value.ownBlock, Option.some.injEq] at hg
  subst hg
  rw [heap_alloc_new w _] at hc
  injection hc with hc
  injection hc with hc _
  subst hc
  simp at hcc
section
variable {w w' : World} {B n m : Nat} {v : Value} {rs : List Value} {A : Mx}
theorem MatF.rows (h : MatF w v n m A) : ∃ news : List Value, news.length = n ∧ (∀ j u, news[j]? = some u → w.cell? (ptr v j) = some u) ∧ (∀ u ∈ news, u.oneCell' = true) ∧ (∀ u ∈ news, ∀ z, u ≠ .int .u32 z) ∧ ∀ j (hj : j < news.length), FracsC w news[j] (rowL m (A j)) := by
  have hget : ∀ j, j < n → ∃ r, w.cell? (ptr v j) = some r ∧ FracsC w r (rowL m (A j)) := fun j hj => h.row j hj
  have key : ∀ j (hj : j < ((List.range n).map fun j => (w.cell? (ptr v j)).getD undef).length), ∃ r, ((List.range n).map fun j => (w.cell? (ptr v j)).getD undef)[j] = r ∧ w.cell? (ptr v j) = some r ∧ FracsC w r (rowL m (A j)) := fun j hj => by
    have hj2 : j < n := by simpa using hj
    obtain ⟨r, h1, h2⟩ := hget j hj2
    exact ⟨r, by simp [h1], h1, h2⟩
  have one : ∀ u ∈ (List.range n).map fun j => (w.cell? (ptr v j)).getD undef, ∃ q, FracsC w u q := fun u hu => by
    obtain ⟨j, hj, e⟩ := List.getElem_of_mem hu
    obtain ⟨r, h1, h2, h3⟩ := key j hj
    exact ⟨_, by rw [← e, h1]; exact h3⟩
  refine ⟨(List.range n).map fun j => (w.cell? (ptr v j)).getD undef, by simp, fun j u hu => ?_, fun u hu => ?_, fun u hu z => ?_, fun j hj => ?_⟩
  · obtain ⟨hj, e⟩ := List.getElem?_eq_some_iff.1 hu
    obtain ⟨r, h1, h2, h3⟩ := key j hj
    rw [h2, ← e, h1]
  · obtain ⟨q, hq⟩ := one u hu
    obtain ⟨a1, a2, a3, rfl, _⟩ := hq.sl
    rfl
  · obtain ⟨q, hq⟩ := one u hu
    obtain ⟨a1, a2, a3, rfl, _⟩ := hq.sl
    simp
  · obtain ⟨r, h1, h2, h3⟩ := key j hj
    rw [h1]; exact h3
theorem FracsC.low {q : List Rat} (h : FracsC w v q) (hq : 0 < q.length) : (base v).block < w.heap.size := by
  obtain ⟨_, _, h1, _⟩ := h.at' 0 hq
  have := World.block_lt_of_cell? w _ h1
  rwa [ptr_block] at this
/-- Rows of an older world, under a new slice. -/
theorem RowsM.copy {w0 : World} (ho : OwnR w 26 w0.heap.size 1 v rs.length rs) (hn : rs.length = n) (hb : Below w0.heap.size w0 w) (hm : 1 ≤ m) (hr : ∀ j (hj : j < rs.length), FracsC w0 rs[j] (rowL m (A j))) : RowsM w w0.heap.size v rs n n (fun i => rowL m (A i)) := by
  subst hn
  refine ⟨ho, fun i h1 h2 => ⟨(hr i h1).below hb, ?_⟩⟩
  have h3 := (hr i h1).low (by rw [rowL_length]; omega)
  obtain ⟨g, _, e2, e3, e4, _⟩ := ho.blk (by omega)
  omega
/-- Two rows change places. -/
theorem RowsM.swap (h : RowsM w B v rs n n (fun i => rowL m (A i))) {i j : Nat} (hi : i < rs.length) (hj : j < rs.length) (hij : i ≠ j) :
    RowsM ((w.setCell (ptr v i) rs[j]).setCell (ptr v j) rs[i]) B v ((rs.set i rs[j]).set j rs[i]) n n (fun k => rowL m (swp A i j k)) ∧ Below B w ((w.setCell (ptr v i) rs[j]).setCell (ptr v j) rs[i]) := by
  have hrl := h.rl
  have hvb := h.vblock (by omega)
  have hp : ∀ k, (ptr v k).block = (base v).block := fun k => ptr_block _ _
  have hnl : ∀ k (hk : k < rs.length) z, rs[k] ≠ .int .u32 z := fun k hk z => h.own.cell_ne k hk z
  obtain ⟨s1, g1⟩ := h.own.set1 i hi rs[j] (hnl j hj)
  have hj2 : j < (rs.set i rs[j]).length := by rw [List.length_set]; exact hj
  obtain ⟨s2, g2⟩ := s1.set1 j hj2 rs[i] (hnl i hi)
  have hcj := s1.cell j hj2
  have hcn : ∀ z, (rs.set i rs[j])[j]'hj2 ≠ .int .u32 z := fun z => s1.cell_ne j hj2 z
  have mv : ∀ k (hk : k < rs.length), FracsC ((w.setCell (ptr v i) rs[j]).setCell (ptr v j) rs[i]) rs[k] (rowL m (A k)) ∧ (base rs[k]).block ≠ (base v).block := fun k hk => by
    obtain ⟨r1, r2⟩ := h.row k hk (by omega)
    exact ⟨(r1.setc (by rw [hp]; exact r2) (h.own.cell i hi) (hnl i hi) _).setc (by rw [hp]; exact r2) hcj hcn _, r2⟩
  refine ⟨⟨s2, fun k hk _ => ?_⟩, ((Below.refl B w).setCell (by rw [hp]; exact hvb.1) _).setCell (by rw [hp]; exact hvb.1) _⟩
  have hk2 : k < rs.length := by simpa using hk
  by_cases h1 : k = j
  · subst h1
    rw [List.getElem_set_self]
    have e : swp A i k k = A i := by unfold swp; rw [if_neg (fun e => hij e.symm), if_pos rfl]
    rw [e]; exact mv i hi
  · rw [List.getElem_set_ne (fun e => h1 e.symm)]
    by_cases h2 : k = i
    · subst h2
      rw [List.getElem_set_self]
      have e : swp A k j k = A j := by unfold swp; rw [if_pos rfl]
      rw [e]; exact mv j hj
    · rw [List.getElem_set_ne (fun e => h2 e.symm)]
      have e : swp A i j k = A k := by unfold swp; rw [if_neg h2, if_neg h1]
      rw [e]; exact mv k hk2
theorem RowsM.one {q : Nat → List Rat} (h : RowsM w B v rs n n q) {i : Nat} (hi : i < rs.length) : RowsM (w.setCell (ptr v i) rs[i]) B v rs n n q ∧ Below B w (w.setCell (ptr v i) rs[i]) := by
  have hrl := h.rl
  have hvb := h.vblock (by omega)
  have hp : ∀ k, (ptr v k).block = (base v).block := fun k => ptr_block _ _
  have hnl : ∀ z, rs[i] ≠ .int .u32 z := fun z => h.own.cell_ne i hi z
  obtain ⟨s1, g1⟩ := h.own.set1 i hi rs[i] hnl
  rw [List.set_getElem_self] at s1
  exact ⟨⟨s1, fun k h1 h2 => by
    obtain ⟨r1, r2⟩ := h.row k h1 h2
    exact ⟨r1.setc (by rw [hp]; exact r2) (h.own.cell i hi) hnl _, r2⟩⟩, (Below.refl B w).setCell (by rw [hp]; exact hvb.1) _⟩
end
end Go.Proofs.Ytbhkibilnmoljaa
namespace Go.Proofs.Ytbhkibilnmoljaa
open Go.ChangeShapes Go.WideShapes Go.ChangeAt Go.RowKit
set_option linter.unusedVariables false
set_option linter.unusedSimpArgs false

theorem Try.cellsI8 : Try.prog.cellsOf 37 = 1 := by kernel_rfl
section
variable {H : Type} {enc : TypeId × Value → H} {P : Program}
theorem trodAll_stays (hl : laidOutB P = true) {W W' : World} (hb : Below W.heap.size W W') : ∀ {ts : List TypeId} {vs : List Value} {ds : List (DataW H)} {ps : List MemPlace}, (ts.all fun t => P.readableRec t && decide (t < P.types.size)) = true →
    DataW.TrodAll enc P W 0 (fun _ => true) true ts vs ds ps → (∀ x ∈ ps, x.block < W.heap.size) → DataW.TrodAll enc P W' 0 (fun b => decide (b < W.heap.size)) true ts vs ds ps
  | [], vs, ds, ps, _, h, _ => by
    obtain ⟨rfl, rfl, rfl⟩ := trodAll_nil h
    exact trodAll_mk0
  | t :: ts, vs, ds, ps, hr, h, hlt => by
    obtain ⟨v, vs', d, ds', p, q, rfl, rfl, rfl, h1, h2⟩ := trodAll_cons h
    simp only [List.all_cons, Bool.and_eq_true, decide_eq_true_eq] at hr
    obtain ⟨⟨r1, r2⟩, r3⟩ := hr
    exact trodAll_cons_mk (Below.trod hl r1 r2 h1 hb fun x hx => hlt x (List.mem_append_left _ hx)) (trodAll_stays hl hb (ts := ts) r3 h2 fun x hx => hlt x (List.mem_append_right _ hx))
/-- A slice of small integers that came in. -/
theorem i8_in {W : World} {a : Addr} {len cap : Nat} {zs : List Int} (hl : len ≤ cap) (hm : cap ≤ maxLen) (hz : zs.length = cap) (hcell : ∀ i, i < zs.length → W.cell? (a.add i) = some (.int .i8 (zs.getD i 0))) (hwz : ∀ n ∈ zs, (Lit.int .i8 n).wf = true) :
    I8V W (.slice (some a) len cap) (zs.take len) := by
  have hb : ∀ n ∈ zs, -128 ≤ n ∧ n ≤ 127 := fun n hn => by
    have := hwz n hn
    simp [Lit.wf, IntKind.min, IntKind.max, IntKind.signed, IntKind.bits] at this
    omega
  refine ⟨⟨⟨a, len, cap, rfl, hl, hm, fun e => by cases e⟩, by simp [slen]; omega, fun j hj => ?_⟩, fun x hx => hb x (List.mem_of_mem_take hx)⟩
  have hj2 : j < len := by simp at hj; omega
  have hj3 : j < zs.length := by omega
  have h1 := hcell j hj3
  have e1 : zs.getD j 0 = zs[j] := by simp [List.getD, List.getElem?_eq_getElem hj3]
  rw [e1] at h1
  simp only [ptr, base, List.getElem_map, List.getElem_take]
  exact h1
end
section
variable {H : Type} {enc : TypeId × Value → H}
set_option maxRecDepth 100000 in
theorem u8_came {W : World} {base : Nat} {v : Value} {d : DataW H} {p : List MemPlace} (hv : Value.okWide Try.prog W .any base 5 v) (h : DataW.Trod enc Try.prog W 0 (fun _ => true) true 5 v d p) : ∃ x : Nat, v = .int .u8 x ∧ x < 256 := by
  obtain ⟨n, rfl, rfl, rfl, hwn⟩ := open_int Try.underlying5 hv h
  have hn : 0 ≤ n ∧ n < 256 := by
    simp [Lit.wf, IntKind.min, IntKind.max, IntKind.signed, IntKind.bits] at hwn
    omega
  exact ⟨n.toNat, by congr 1; omega, by omega⟩
set_option maxRecDepth 100000 in
theorem i8_came {W : World} {base : Nat} {v : Value} {d : DataW H} {p : List MemPlace} (hv : Value.okWide Try.prog W .any base 22 v) (h : DataW.Trod enc Try.prog W 0 (fun _ => true) true 22 v d p) : ∃ l, I8V W v l := by
  obtain ⟨a, len, cap, rfl⟩ := okWide_slice Try.underlying22 hv
  obtain ⟨fuel, hf⟩ := h
  rcases open_ints Try.underlying22 Try.underlying37 Try.cellsI8 hf with ⟨hcs, hx⟩ | ⟨a, len', cap', zs, hcs, _, hl, hm, hz, hx, hcell, hwz⟩
  · simp [Value.cells] at hcs
    obtain ⟨rfl, rfl, rfl⟩ := hcs
    exact ⟨[], ⟨IsSl.nil, rfl, fun j h => by simp at h⟩, fun x h => by simp at h⟩
  · simp [Value.cells] at hcs
    obtain ⟨rfl, rfl, rfl⟩ := hcs
    simp only [if_true] at hz
    exact ⟨_, i8_in hl hm hz hcell hwz⟩
end
end Go.Proofs.Ytbhkibilnmoljaa
namespace Go.Proofs.Ytbhkibilnmoljaa
set_option linter.unusedVariables false
set_option linter.unusedSimpArgs false
open Go.RowKit

set_option maxRecDepth 100000 in
set_option maxHeartbeats 6400000 in
theorem rank_law (x1 x2 : Nat) (va vb : Value) (l cl : List Int) (w : World) (hx1 : x1 < 256) (hx2 : x2 < 256) (hl : I8V w va l) (hc : I8V w vb cl) :
    Calls Try.prog 3 #[.int .u8 x1, .int .u8 x2, va, vb] w (fun e w' => e = .returned (.bool true) ∧ Below w.heap.size w w') := by
  obtain ⟨i3, hi3, hz3, hs3, hy3⟩ := info_parts Try.infoF
  have hAP := append1_fr (P := Try.prog) 26 30 i3 Try.underlying26 hi3 hz3 hs3 hy3
  obtain ⟨i4, hi4, hz4, hs4, hy4⟩ := info_parts Try.infoRow
  have hAR := append1_one (P := Try.prog) 24 26 i4 _ 24 Try.underlying24 hi4 hz4 hs4 hy4 (by decide) rfl (fun z => by simp)
  have hAA := append_rows (P := Try.prog) 24 26 i4 Try.underlying24 hi4 hz4 hs4 hy4
  clear hi3 hz3 hs3 hy3 hi4 hz4 hs4 hy4
  obtain ⟨n, hn⟩ : ∃ k, 1 + x1 % 5 = k := ⟨_, rfl⟩
  obtain ⟨m, hm⟩ : ∃ k, 1 + x2 % 5 = k := ⟨_, rfl⟩
  have n1 : 1 ≤ n := by omega
  have n5 : n ≤ 5 := by omega
  have m1 : 1 ≤ m := by omega
  have m5 : m ≤ 5 := by omega
  have n24 : n ≤ 24 := by omega
  have m24 : m ≤ 24 := by omega
  have HN := Lib.hid hn
  have HM := Lib.hid hm
  have HL := Lib.hid hl
  have HC := Lib.hid hc
  have sl := hl.1.sl
  have sc := hc.1.sl
  have lc : slen vb = cl.length := by have := hc.1.len; simpa using this
  have hlc := sc.le
  rw [lc] at hlc
  have hlcb : cl.length ≤ 9223372036854775807 := by omega
  obtain ⟨A, hAe⟩ : ∃ A, smallM m l = A := ⟨_, rfl⟩
  have sA : ∀ i j, i < n → j < m → smallQ (A i j) := fun i j _ _ => hAe ▸ (smallM_small m l i j).1
  have tA : ∀ i j, i < n → j < m → wt (A i j) ≤ 8 := fun i j _ _ => hAe ▸ (smallM_small m l i j).2
  have FA : Hid (fitM n m A) := Lib.hid (hAe ▸ smallM_fit n m l)
  have wA : wtF n m A ≤ 200 := hAe ▸ smallM_wt l n5 m5
  have HWA : Hid (wtF n m A ≤ 1900) := Lib.hid (by omega)
  have XA : Hid (slimE true n m m A) := Lib.hid (slimE_small (Nat.le_refl _) m5 sA)
  have TR := Lib.hid (tr_ok n5 m5 sA tA)
  have CO := Lib.hid (comb_ok (c := cl) n5 hc.2 sA)
  have MO := Lib.hid (more_ok (c := cl) n5 m5 hc.2 sA)
  have SA := Lib.hid sA
  have EA := Lib.hid hAe
  clear hn hm hl hc hAe sA tA wA hlc
  go_enter Try.func3, Try.ntmps3
  go_wp2_with (first
    | (go_at_call 9; first
       | ((with_reducible refine (order_any x1 _ hx1).mono ?_); rw [HN.out]; rintro e0 w0 ⟨rfl, rfl⟩)
       | ((with_reducible refine (order_any x2 _ hx2).mono ?_); rw [HM.out]; rintro e0 w0 ⟨rfl, rfl⟩))
    | (go_at_call 10; (with_reducible refine (matrix_any _ l n m _ HL.out n1 n5 m1 m5).mono ?_); rw [EA.out]; rintro e1 w1 ⟨v1, rfl, hm1, hb1⟩
       have sl1 := hm1.sl
       have ln1 := hm1.len
       have HM1 := Lib.hid hm1
       have HB1 := Lib.hid hb1
       clear hm1 hb1))
  go_loopg [12, 13] (m) (fun g u12 u13 wr => ∃ (j : Nat) (rs : List Value), j ≤ m ∧ g = m - j ∧ u13 = .int .i64 j ∧ rs.length = j ∧ MkM wr w1.heap.size u12 rs n (trM A) ∧ Below w1.heap.size w1 wr)
  case atStart => exact ⟨0, [], Nat.zero_le _, rfl, rfl, rfl, ⟨OwnR.nil _ _ _ _, fun j h => by simp at h, Nat.le_refl _⟩, Below.refl _ _⟩
  case round =>
    obtain ⟨j, rs, hjm, hg, rfl, hrs, hmk, hbr⟩ := hrel
    obtain ⟨w2, hw2⟩ : ∃ w2, w2 = wr := ⟨_, rfl⟩
    subst hw2
    have HG := Lib.hid hg
    have HRS := Lib.hid hrs
    have HMK := Lib.hid hmk
    have HB2 := Lib.hid hbr
    have svr := hmk.ra.sl
    clear hg hrs hmk
    by_cases hjr : j < m
    · have j1 : (0 : Int) ≤ (j : Int) := by omega
      have j2 : (j : Int) < (m : Nat) := by omega
      go_wp2_with fail
      go_loopg [14, 15] (n) (fun g u14 u15 wi => ∃ (k : Nat), k ≤ n ∧ g = n - k ∧ u15 = .int .i64 k ∧ FrRow wi 30 w2.heap.size u14 (rowL k (trM A j)) ∧ Below w2.heap.size w2 wi)
      case atStart => exact ⟨0, Nat.zero_le _, rfl, rfl, FrRow.nil _ _ _, Below.refl _ _⟩
      case round =>
        obtain ⟨k, hk, hgk, rfl, hfr, hbi⟩ := hrel
        obtain ⟨wb, hwb⟩ : ∃ wb, wb = wr := ⟨_, rfl⟩
        subst hwb
        have HGK := Lib.hid hgk
        have HFR := Lib.hid hfr
        have HBI := Lib.hid hbi
        have srow := hfr.sl
        by_cases hkn : k < n
        · obtain ⟨r, hcr, hfr2⟩ := (HM1.out.below (HB2.out.trans (hbi.mono HB2.out.size))).row k hkn
          have slr := hfr2.sl
          have lnr : slen r = m := by rw [hfr2.len, rowL_length]
          obtain ⟨ea, eb, g1, g2, g3, g4, g5⟩ := hfr2.at' j (by rw [rowL_length]; exact hjr)
          rw [rowL_get] at g1 g4 g5
          obtain ⟨ea1, ea2, ea3, rfl, _⟩ := g4.v.sl
          obtain ⟨eb1, eb2, eb3, rfl, _⟩ := g5.v.sl
          have hF : FracC wb (.agg #[.bool (decide (A k j < 0)), .slice ea1 ea2 ea3, .slice eb1 eb2 eb3]) (trM A j k) := ⟨_, _, rfl, g4, g5⟩
          have hrl : (rowL k (trM A j)).length ≤ 1000 := by rw [rowL_length]; omega
          have hsz5 := HBI.out.size
          have k1 : (0 : Int) ≤ (k : Int) := by omega
          have k2 : (k : Int) < (n : Nat) := by omega
          clear hgk g4 g5 hfr2
          go_wp2_with (first
            | (at_builtin; refine hAP wb rfl _ _ rfl w2.heap.size _ u14 (rowL k (trM A j)) rfl hfr _ _ _ (trM A j k) hF rfl hrl hsz5 ?_; intro v4' w50 ho50 hg50 hn50 hq50 sv50
               have hg5 : Below w2.heap.size wb w50 := below_of_grown hg50 hsz5 (fun k hk => (hfr.block k hk).1)
               have HO50 := Lib.hid ho50))
          go_roundg (n - (k + 1))
          case measure => (have := HGK.out; omega)
          case rel => exact ⟨k + 1, by omega, rfl, by go_num, by rw [← rowL_snoc]; exact HO50.out, HBI.out.trans hg5⟩
        · obtain rfl : k = n := by omega
          obtain ⟨a11, l11, k11, rfl, _⟩ := id srow
          have hm5 := HMK.out.below hbi
          have hra := hm5.ra
          have hsz5 := hm5.sz
          have hlen : rs.length ≤ 1000 := by rw [HRS.out]; omega
          have HM5 := Lib.hid hm5
          have HR5 : Hid (FrRow wb 30 w1.heap.size (.slice a11 l11 k11) (rowL k (trM A rs.length))) := Lib.hid (by rw [HRS.out]; exact HFR.out.mono HB2.out.size)
          clear hm5 hgk hfr
          go_wp2_with (first
            | (at_builtin; refine hAR _ rfl _ _ rfl w1.heap.size _ u12 rs rfl hra (.slice a11 l11 k11) rfl (fun z => by simp) rfl hlen hsz5 ?_; intro v5' w21 ho21 hg21 hn21 hq21 sv21
               have hG := HM5.out.push HR5.out ho21 hg21 hn21
               have HG5 := Lib.hid hG
               clear hG))
          go_roundg (m - (j + 1))
          case measure => (have := HG.out; omega)
          case rel => exact ⟨j + 1, _, by omega, rfl, by go_num, by rw [List.length_append, HRS.out]; rfl, HG5.out.1, (below_then2 HB2.out hbi HB2.out.size).trans HG5.out.2⟩
    · obtain rfl : m = j := by omega
      have HT2 : Hid (MatF w2 u12 m n (trM A)) := Lib.hid (by have h := HMK.out.mat; rw [HRS.out] at h; exact h)
      have HA2 := Lib.hid (HM1.out.below HB2.out)
      have HC2 := Lib.hid (HC.out.below (below_then HB1.out HB2.out))
      have HBB := Lib.hid (below_then HB1.out HB2.out)
      clear hbr
      obtain ⟨R, hR⟩ : ∃ R, (elim true n A m).r = R := ⟨_, rfl⟩
      have hRn : R ≤ n := by rw [← hR]; exact (elim_r true n A m).1
      have hRm : R ≤ m := by rw [← hR]; exact (elim_r true n A m).2
      have HR := Lib.hid hR
      have svT := HT2.out.sl
      clear hR
      go_upto_region 17 with (go_at_call 11; first
        | ((with_reducible refine (rank_lin v1 n m A _ HA2.out n1 n24 m1 m24 FA.out HWA.out XA.out).mono ?_); rw [HR.out]; rintro e3 w3 ⟨rfl, hb3⟩)
        | ((with_reducible refine (rank_lin u12 m n (trM A) _ (HT2.out.below hb3) m1 m24 n1 n24 TR.out.f TR.out.w TR.out.x).mono ?_); rw [TR.out.r, HR.out]; rintro e4 w4 ⟨rfl, hb4⟩))
      generalize hMN : (if m < n then (m : Int) else (n : Int)) = MN at *
      clear hMN
      have HA4 := Lib.hid (HA2.out.below (below_then hb3 hb4))
      have HC4 := Lib.hid (HC2.out.below (below_then hb3 hb4))
      have HB4 := Lib.hid (below_then HBB.out (below_then hb3 hb4))
      clear hb3 hb4
      go_wp2_with fail
      go_loopg [20, 21] (m) (fun g u20 u21 wr => ∃ (j : Nat), j ≤ m ∧ g = m - j ∧ u21 = .int .i64 j ∧ FrRow wr 30 w4.heap.size u20 (rowL j (fun j => sg n fun q => coef cl q * A q j)) ∧ Below w4.heap.size w4 wr)
      case atStart => exact ⟨0, Nat.zero_le _, rfl, rfl, FrRow.nil _ _ _, Below.refl _ _⟩
      case round =>
        obtain ⟨j, hjm2, hg, rfl, hfr, hbr⟩ := hrel
        obtain ⟨wb, hwb⟩ : ∃ wb, wb = wr := ⟨_, rfl⟩
        subst hwb
        have HG := Lib.hid hg
        have HFR := Lib.hid hfr
        have HBR := Lib.hid hbr
        have srow := hfr.sl
        clear hg
        by_cases hjm : j < m
        · have j1 : (0 : Int) ≤ (j : Int) := by omega
          have j2 : (j : Int) < (m : Nat) := by omega
          clear hfr hbr
          go_wp2_with (go_at_call 12; (with_reducible refine (r2int_zero _).mono ?_); rintro e13 w13 ⟨v13, rfl, hv13, hb13⟩
                       obtain ⟨t13, x13, y13, rfl, ⟨a131, l131, k131, rfl, q131⟩, ⟨a132, l132, k132, rfl, q132⟩⟩ := hv13.isF
                       have hb14 := below_then hb13 (below_alloc w13 (.cells #[.bool t13, .slice a131 l131 k131, .slice a132 l132 k132] 30))
                       have hv14 := hv13.below (below_alloc w13 (.cells #[.bool t13, .slice a131 l131 k131, .slice a132 l132 k132] 30))
                       have h1314 := hb13.size
                       have HC1 := Lib.hid (C3.new w13 30 (.bool t13) (.slice a131 l131 k131) (.slice a132 l132 k132)))
          go_loopg [23] (n) (fun g u23 wi => ∃ (i : Nat) (t' : Bool) (x' y' : Value), i ≤ n ∧ g = n - i ∧ u23 = .int .i64 i ∧ C3 wi w13.heap.size (.bool t') x' y' ∧ FracC wi (.agg #[.bool t', x', y']) (sg i fun q => coef cl q * A q j) ∧ Below wb.heap.size wb wi)
          case atStart => exact ⟨0, _, _, _, Nat.zero_le _, rfl, rfl, HC1.out, hv14, hb14⟩
          case round =>
            obtain ⟨i, t', x', y', hin, hgi, rfl, hc3, hvi, hbi⟩ := hrel
            obtain ⟨wi, hwi⟩ : ∃ wi, wi = wr := ⟨_, rfl⟩
            subst hwi
            obtain ⟨_, _, _, hF6, ⟨a01, l01, k01, rfl, _⟩, ⟨a02, l02, k02, rfl, _⟩⟩ := id hvi.isF
            injection hF6 with hF6
            injection hF6 with hF6
            simp only [List.cons.injEq, and_true, Value.bool.injEq] at hF6
            obtain ⟨rfl, rfl, rfl⟩ := hF6
            have HGI := Lib.hid hgi
            have HC3 := Lib.hid hc3
            have HVI := Lib.hid hvi
            have HBI := Lib.hid hbi
            have HBA := Lib.hid (HBR.out.trans (hbi.mono HBR.out.size))
            clear hgi hc3 hvi hbi HC1 hv14 hb14
            have i1 : (0 : Int) ≤ (i : Int) := by omega
            by_cases hir : i < n
            · have i2 : (i : Int) < (n : Nat) := by omega
              by_cases hic : i < cl.length
              · have i3 : (i : Int) < (cl.length : Nat) := by omega
                obtain ⟨x, hx⟩ : ∃ x, cl[i] = x := ⟨_, rfl⟩
                have hxm : x ∈ cl := hx ▸ List.getElem_mem hic
                obtain ⟨b1, b2⟩ := HC4.out.2 x hxm
                have hcl : wi.cell? (ptr vb i) = some (.int .i8 x) := by
                  have h := (HC4.out.1.below HBA.out).cell i (by rw [List.length_map]; exact hic)
                  rw [List.getElem_map, hx] at h
                  exact h
                have HCF : Hid (coef cl i = intQ x) := Lib.hid (by unfold coef; rw [dif_pos hic, hx])
                obtain ⟨r, hcr, hfr2⟩ := (HA4.out.below HBA.out).row i hir
                have slr := hfr2.sl
                have lnr : slen r = m := by rw [hfr2.len, rowL_length]
                obtain ⟨ra1, ra2, ra3, rfl, _⟩ := id slr
                obtain ⟨ea, eb, g1, g2, g3, g4, g5⟩ := hfr2.at' j (by rw [rowL_length]; exact hjm)
                rw [rowL_get] at g1 g4 g5
                obtain ⟨ea1, ea2, ea3, rfl, _⟩ := g4.v.sl
                obtain ⟨eb1, eb2, eb3, rfl, _⟩ := g5.v.sl
                have HF : Hid (FracC wi (.agg #[.bool (decide (A i j < 0)), .slice ea1 ea2 ea3, .slice eb1 eb2 eb3]) (A i j)) := Lib.hid ⟨_, _, rfl, g4, g5⟩
                have S0 := Lib.hid (And.intro hcl (And.intro hcr (And.intro g1 (And.intro g2 g3))))
                have HF1 := Lib.hid (int_fits b1 b2)
                have HF2 := Lib.hid (FA.out i j hir hjm)
                have HF3 : Hid (fits (intQ x * A i j)) := Lib.hid (by rw [← HCF.out]; exact CO.out.p i j hir hjm)
                have b3 : -9223372036854775808 ≤ x := by omega
                have b4 : x < 9223372036854775808 := by omega
                clear g4 g5 hfr2 hx hxm
                go_wp2_with fail
                go_cut [24, 25] (fun u24 u25 wy => ∃ (b8 : Nat) (t' : Bool) (x' y' : Value), u24 = .pointer (some ⟨b8, 0, none⟩) ∧ u25 = .int .i64 0 ∧ wi.heap.size ≤ b8 ∧ C3 wy b8 (.bool t') x' y' ∧ FracC wy (.agg #[.bool t', x', y']) (coef cl i * A i j) ∧ Below wi.heap.size wi wy)
                case first =>
                  go_region_held3 (fun w' => w'.cell? (ptr vb i) = some (.int .i8 x) ∧ w'.cell? (ptr v1 i) = some (.slice ra1 ra2 ra3) ∧ w'.cell? (ptr (.slice ra1 ra2 ra3) (j * 3)) = some (.bool (decide (A i j < 0))) ∧ w'.cell? (ptr (.slice ra1 ra2 ra3) (j * 3 + 1)) = some (.slice ea1 ea2 ea3) ∧ w'.cell? (ptr (.slice ra1 ra2 ra3) (j * 3 + 2)) = some (.slice eb1 eb2 eb3) ∧ Below wi.heap.size wi w') (first
                    | with_reducible exact kp5a S0.out (below_drew _)
                    | with_reducible exact kp5w (by assumption) (below_alloc _ _)
                    | with_reducible exact kp5w (by assumption) (by assumption)
                    | with_reducible exact kp5a S0.out (below_then hB31 (below_alloc _ _))
                    | with_reducible exact kp5s S0.out hB31 (Nat.le_refl _) _ _ _
                    | with_reducible exact kp5s S0.out hB31 hB30.size _ _ _) (first
                    | (go_at_call 12; (first | with_reducible refine (r2int_i x _ b3 b4).mono ?_ | with_reducible refine (r2int_w x _ b1 b2).mono ?_); rintro e30 w30 ⟨v30, rfl, hv30, hb30⟩
                       obtain ⟨t30, x30, y30, rfl, ⟨a301, l301, k301, rfl, _⟩, ⟨a302, l302, k302, rfl, _⟩⟩ := hv30.isF
                       have hB30 := below_then (kp5c (by assumption)) hb30
                       have hc4 := (fun (p : Addr) hp => hb30.cell (p := p) hp)
                       have hf4 := (fun (p : Addr) hp => hb30.frozen (p := p) hp)
                       have zp := hb30.size
                       (try simp only [sizeA, sizeD] at zp)
                       (try have z0 : wi.heap.size < w30.heap.size := (by omega)))
                    | (go_at_call 13; (with_reducible refine (r2mul_can _ _ (intQ x) (A i j) _ (hv30.below (by first | exact Below.refl _ _ | exact below_alloc _ _)) (HF.out.below (kp5c (by assumption))) HF1.out HF2.out HF3.out).mono ?_); rintro e31 w31 ⟨v31, rfl, hv31, hb31⟩
                       obtain ⟨t31, x31, y31, rfl, ⟨a311, l311, k311, rfl, _⟩, ⟨a312, l312, k312, rfl, _⟩⟩ := hv31.isF
                       have hB31 := below_then (kp5c (by assumption)) hb31
                       have hc5 := (fun (p : Addr) hp => hb31.cell (p := p) hp)
                       have hf5 := (fun (p : Addr) hp => hb31.frozen (p := p) hp)
                       have zq := hb31.size
                       (try simp only [sizeA, sizeD] at zq)
                       (try have z1 : w30.heap.size < w31.heap.size := (by omega))))
                  all_goals
                    have hE := kp5c (by assumption)
                    go_wp2_with fail
                    go_meet
                    case rel =>
                      first
                        | exact ⟨_, _, _, _, rfl, rfl, hB31.size, C3.new w31 _ _ _ _, by rw [HCF.out]; exact hv31.below (below_alloc _ _), hE⟩
                        | exact ⟨_, _, _, _, rfl, rfl, hB30.size, ((C3.newB (b := w30.heap.size) w30 30 (.bool false) (.slice none 0 0) (.slice none 0 0) rfl).belowS hb31).set _ _ _, by rw [HCF.out]; exact hv31.set3 ((C3.newB (b := w30.heap.size) w30 30 (.bool false) (.slice none 0 0) (.slice none 0 0) rfl).belowS hb31) (fun z => by simp) (fun z => by simp) _ _ _, hE⟩
                        | exact ⟨_, _, _, _, rfl, rfl, Nat.le_refl _, (((C3.newB (b := wi.heap.size) wi.drew 30 (.bool false) (.slice none 0 0) (.slice none 0 0) rfl).belowS hb30).belowS hb31).set _ _ _, by rw [HCF.out]; exact hv31.set3 (((C3.newB (b := wi.heap.size) wi.drew 30 (.bool false) (.slice none 0 0) (.slice none 0 0) rfl).belowS hb30).belowS hb31) (fun z => by simp) (fun z => by simp) _ _ _, hE⟩
                case rest =>
                  obtain ⟨b8, t6, x6, y6, rfl, rfl, hb8, hC6, hv6, hb6⟩ := hcut
                  obtain ⟨wq, hwq⟩ : ∃ wq, wq = wc := ⟨_, rfl⟩
                  subst hwq
                  have HC3q := Lib.hid (HC3.out.belowS hb6)
                  have HVq := Lib.hid (HVI.out.below hb6)
                  have HV6 := Lib.hid hv6
                  have HBq := Lib.hid (below_then HBI.out hb6)
                  have G1 := Lib.hid (CO.out.s i j (Nat.le_of_lt hir) hjm)
                  have G2 := Lib.hid (CO.out.p i j hir hjm)
                  have G3 : Hid (fits ((sg i fun q => coef cl q * A q j) + coef cl i * A i j)) := Lib.hid (CO.out.s (i + 1) j hir hjm)
                  obtain ⟨_, p0, p1, p2, _, _, _⟩ := HC3q.out
                  obtain ⟨_, q0, q1, q2, _, _, _⟩ := hC6
                  clear hv6 hb6 hcl hcr g1 g2 g3
                  go_wp2_with (go_at_call 14; (with_reducible refine (r2add_can _ _ _ _ _ HVq.out HV6.out G1.out G2.out G3.out).mono ?_); rintro e33 w33 ⟨v33, rfl, hv33, hb33⟩
                               obtain ⟨t33, x33, y33, rfl, ⟨a331, l331, k331, rfl, _⟩, ⟨a332, l332, k332, rfl, _⟩⟩ := hv33.isF
                               have HC33 := Lib.hid (HC3q.out.belowS hb33)
                               have HV33 := Lib.hid hv33
                               have HB33 := Lib.hid (below_then HBq.out hb33)
                               obtain ⟨_, c0, c1, c2, f0, f1, f2⟩ := HC33.out
                               clear hv33 hb33)
                  go_roundg (n - (i + 1))
                  case measure => (have := HGI.out; omega)
                  case rel => exact ⟨i + 1, _, _, _, hir, rfl, by go_num, HC33.out.set _ _ _, HV33.out.set3 HC33.out (fun z => by simp) (fun z => by simp) _ _ _, below_set3 HB33.out h1314 _ _ _⟩
              · have i3 : (cl.length : Int) ≤ (i : Int) := by omega
                have HEQ : Hid ((sg i fun q => coef cl q * A q j) = sg n fun q => coef cl q * A q j) := Lib.hid (sg_cut hin (fun q h1 h2 => by unfold coef; rw [dif_neg (by omega), Rat.zero_mul])).symm
                obtain ⟨_, c0, c1, c2, f0, f1, f2⟩ := HC3.out
                have hvF : FracC wi (.agg #[.bool t', .slice a01 l01 k01, .slice a02 l02 k02]) (sg n fun q => coef cl q * A q j) := by rw [← HEQ.out]; exact HVI.out
                have hfr5 := HFR.out.moves (Moves.below (B := w4.heap.size) HBI.out) (Nat.le_refl _)
                have hsz5 := HBA.out.size
                have hrl : (rowL j (fun j => sg n fun q => coef cl q * A q j)).length ≤ 1000 := by rw [rowL_length]; omega
                go_wp2_with (first
                  | (at_builtin; refine hAP wi rfl _ _ rfl w4.heap.size _ u20 (rowL j (fun j => sg n fun q => coef cl q * A q j)) rfl hfr5 _ _ _ (sg n fun q => coef cl q * A q j) hvF rfl hrl hsz5 ?_; intro v4' w50 ho50 hg50 hn50 hq50 sv50
                     have hg5 : Below w4.heap.size wi w50 := below_of_grown hg50 hsz5 (fun k hk => (hfr5.block k hk).1)
                     have HO50 := Lib.hid ho50))
                go_roundg (m - (j + 1))
                case measure => (have := HG.out; omega)
                case rel => exact ⟨j + 1, by omega, rfl, by go_num, by rw [← rowL_snoc]; exact HO50.out, HBA.out.trans hg5⟩
            · have i2 : ¬ ((i : Int) < (n : Nat)) := by omega
              have HEQ : Hid ((sg i fun q => coef cl q * A q j) = sg n fun q => coef cl q * A q j) := Lib.hid (by rw [show i = n by omega])
              obtain ⟨_, c0, c1, c2, f0, f1, f2⟩ := HC3.out
              have hvF : FracC wi (.agg #[.bool t', .slice a01 l01 k01, .slice a02 l02 k02]) (sg n fun q => coef cl q * A q j) := by rw [← HEQ.out]; exact HVI.out
              have hfr5 := HFR.out.moves (Moves.below (B := w4.heap.size) HBI.out) (Nat.le_refl _)
              have hsz5 := HBA.out.size
              have hrl : (rowL j (fun j => sg n fun q => coef cl q * A q j)).length ≤ 1000 := by rw [rowL_length]; omega
              go_wp2_with (first
                | (at_builtin; refine hAP wi rfl _ _ rfl w4.heap.size _ u20 (rowL j (fun j => sg n fun q => coef cl q * A q j)) rfl hfr5 _ _ _ (sg n fun q => coef cl q * A q j) hvF rfl hrl hsz5 ?_; intro v4' w50 ho50 hg50 hn50 hq50 sv50
                   have hg5 : Below w4.heap.size wi w50 := below_of_grown hg50 hsz5 (fun k hk => (hfr5.block k hk).1)
                   have HO50 := Lib.hid ho50))
              go_roundg (m - (j + 1))
              case measure => (have := HG.out; omega)
              case rel => exact ⟨j + 1, by omega, rfl, by go_num, by rw [← rowL_snoc]; exact HO50.out, HBA.out.trans hg5⟩
        · obtain rfl : m = j := by omega
          have HF5 := Lib.hid hfr.fracs
          have HA5 := Lib.hid (HA4.out.below hbr)
          have HB5 := Lib.hid (below_then HB4.out hbr)
          obtain ⟨f1, f2, f3, rfl, _⟩ := id srow
          obtain ⟨a1, a2, a3, rfl, ha3⟩ := id sl1
          obtain ⟨ad, rfl⟩ : ∃ ad, a1 = some ad := by
            cases a1 with
            | none => exfalso; have h1 := ln1; have h2 := ha3.2.2 rfl; have h3 : a2 = n := h1; omega
            | some ad => exact ⟨ad, rfl⟩
          obtain rfl : a2 = n := ln1
          obtain ⟨news, e1, e2, e3, e4, e5⟩ := HA5.out.rows
          have hbX := below_alloc wb (.cells #[] 26)
          have hnews : ∀ q u, news[q]? = some u → (wb.alloc (.cells #[] 26)).cell? (ad.add q) = some u := fun q u hu => by
            have h := cell_below hbX (e2 q u hu)
            simpa only [ptr, base] using h
          have hle : ([] : List Value).length + a2 ≤ 1000 := by simp; omega
          have hle2 : news.length ≤ 1000 := by omega
          have E5 := Lib.hid e5
          have E1 := Lib.hid e1
          have m6 : a2 + 1 ≤ 24 := by omega
          have m61 : 1 ≤ a2 + 1 := by omega
          have HRR : Hid ((elim true (a2 + 1) (moreM a2 A cl) m).r = R) := Lib.hid (MO.out.r.trans HR.out)
          have hsg : a2 = m ∨ a2 ≠ m := Classical.em _
          clear hfr hbr e2 e5
          go_upto_region 31 with (first
            | (at_builtin; refine hAA (wb.alloc (.cells #[] 26)) rfl _ _ rfl wb.heap.size (.slice (some ⟨wb.heap.size, 0, none⟩) 0 0) [] rfl (OwnR.empty rfl (Nat.le_refl _)) ad a2 a3 rfl news e1 hnews e3 e4 hle (by simp) ?_; intro v10 w10 ho10 hg10 hn10 hq10 sl10
               have hb10 : Below wb.heap.size (wb.alloc (.cells #[] 26)) w10 := below_of_grown hg10 (by simp) (fun q hq => by simp only [Value.ownBlock, Option.some.injEq] at hq; omega)
               have hB10 := hbX.trans hb10
               rw [List.nil_append] at ho10
               have hsz10 : wb.heap.size ≤ w10.heap.size := hB10.size)
            | (at_builtin; refine hAR w10 rfl _ _ rfl wb.heap.size _ v10 news rfl ho10 (.slice f1 f2 f3) rfl (fun z => by simp) rfl hle2 hsz10 ?_; intro v11 w11 ho11 hg11 hn11 hq11 sl11
               have hb11 : Below wb.heap.size w10 w11 := below_of_grown hg11 hsz10 (fun q hq => (ho10.block q hq).1)
               have hB11 := hB10.trans hb11
               have HF11 := Lib.hid (HF5.out.below hB11)
               have HA11 := Lib.hid (HA5.out.below hB11)
               have HB11 := Lib.hid (below_then HB5.out hB11)
               have HM11 : Hid (MatF w11 v11 (a2 + 1) m (moreM a2 A cl)) := Lib.hid (by
                 have hlen : (news ++ [Value.slice f1 f2 f3]).length = a2 + 1 := by rw [List.length_append, E1.out]; rfl
                 refine ⟨ho11.sl, ho11.len.trans hlen, fun q hq => ?_⟩
                 have hq2 : q < (news ++ [Value.slice f1 f2 f3]).length := by omega
                 refine ⟨_, ho11.cell q hq2, ?_⟩
                 rcases Nat.lt_or_ge q news.length with h | h
                 · rw [List.getElem_append_left h]
                   have h9 := (E5.out q h).below hB11
                   have h8 : rowL m (moreM a2 A cl q) = rowL m (A q) := rowL_congr fun c hc => by unfold moreM; rw [if_pos (by omega)]
                   rw [h8]; exact h9
                 · obtain rfl : q = news.length := by omega
                   have h7 : (news ++ [Value.slice f1 f2 f3])[news.length]'hq2 = .slice f1 f2 f3 := by simp
                   rw [h7]
                   have h8 : rowL m (moreM a2 A cl news.length) = rowL m (fun j => sg a2 fun q => coef cl q * A q j) := rowL_congr fun c hc => by unfold moreM; rw [if_neg (by omega)]
                   rw [h8]; exact HF11.out)
               clear hg10 hn10 hq10 hg11 hn11 hq11 hb11 hb10 hB11)
            | (go_at_call 11; (with_reducible refine (rank_lin _ (a2 + 1) m (moreM a2 A cl) _ HM11.out m61 m6 m1 m24 MO.out.f MO.out.w MO.out.x).mono ?_); rw [HRR.out]; rintro e12 w12 ⟨rfl, hb12⟩
               have HA12 := Lib.hid (HA11.out.below hb12)
               have HB12 := Lib.hid (below_then HB11.out hb12)
               clear hb12))
          have s11 := sl1
          rcases hsg with heq | hne
          · obtain rfl : a2 = m := heq
            have hw9 : ((a2 : Int) != (a2 : Int)) = false := by simp
            have HRD : Hid (R = a2 ↔ dt a2 A ≠ 0) := Lib.hid (by rw [← HR.out]; exact rank_det a2 A)
            have fD := Lib.hid (dt_fits n5 SA.out)
            by_cases hd : dt a2 A = 0
            · have DA : Hid (detE a2 A = 0) := Lib.hid (by rw [detE_dt]; exact hd)
              have hne : R ≠ a2 := fun e => HRD.out.1 e hd
              have hw8 : ((R : Int) == (a2 : Int)) = false := by simp; omega
              clear hd
              go_wp2_with (first
                | (go_at_call 16; (with_reducible refine (det_lin _ a2 A _ HA12.out n1 n24 FA.out HWA.out XA.out).mono ?_); rw [DA.out]; rintro e14 w14 ⟨v14, rfl, hv14, hb14⟩
                   obtain ⟨t14, x14', y14, rfl, ⟨a141, l141, k141, rfl, _⟩, ⟨a142, l142, k142, rfl, _⟩⟩ := hv14.isF
                   have ba14 := below_alloc w14 (.cells #[.bool t14, .slice a141 l141 k141, .slice a142 l142 k142] 30)
                   have bb14 := below_then hb14 ba14
                   have HV14 := Lib.hid (hv14.below ba14)
                   have HB14 := Lib.hid (below_then HB12.out bb14)
                   clear hv14 hb14 ba14 bb14)
                | (go_at_call 17; (with_reducible refine (sign_zero HV14.out).mono ?_); rintro e15 w15 ⟨rfl, hb15⟩
                   have HB15 := Lib.hid (below_then HB14.out hb15)
                   clear hb15)
                | (go_at_call 15; (with_reducible refine (awake_any _).mono ?_); rintro e16 w16 ⟨rfl, hb16⟩))
              go_ret
              exact ⟨rfl, below_then HB15.out hb16⟩
            · have DA : Hid (detE a2 A = dt a2 A) := Lib.hid (detE_dt a2 A)
              have HNE := Lib.hid hd
              have hne : R = a2 := HRD.out.2 hd
              have hw8 : ((R : Int) == (a2 : Int)) = true := by simp; omega
              clear hd
              go_wp2_with (first
                | (go_at_call 16; (with_reducible refine (det_lin _ a2 A _ HA12.out n1 n24 FA.out HWA.out XA.out).mono ?_); rw [DA.out]; rintro e14 w14 ⟨v14, rfl, hv14, hb14⟩
                   obtain ⟨t14, x14', y14, rfl, ⟨a141, l141, k141, rfl, _⟩, ⟨a142, l142, k142, rfl, _⟩⟩ := hv14.isF
                   have ba14 := below_alloc w14 (.cells #[.bool t14, .slice a141 l141 k141, .slice a142 l142 k142] 30)
                   have bb14 := below_then hb14 ba14
                   have HV14 := Lib.hid (hv14.below ba14)
                   have HB14 := Lib.hid (below_then HB12.out bb14)
                   clear hv14 hb14 ba14 bb14)
                | (go_at_call 17; (with_reducible refine (sign_ne HV14.out fD.out HNE.out).mono ?_); rintro e15 w15 ⟨z15, rfl, hz15, hb15⟩
                   have hz16 : (z15 != 0) = true := (by simpa using hz15)
                   have HB15 := Lib.hid (below_then HB14.out hb15)
                   clear hb15)
                | (go_at_call 15; (with_reducible refine (awake_any _).mono ?_); rintro e16 w16 ⟨rfl, hb16⟩))
              go_ret
              exact ⟨rfl, below_then HB15.out hb16⟩
          · have hw9 : ((a2 : Int) != (m : Int)) = true := by simp; omega
            go_wp2_with (go_at_call 15; (with_reducible refine (awake_any _).mono ?_); rintro e16 w16 ⟨rfl, hb16⟩)
            go_ret
            exact ⟨rfl, below_then HB12.out hb16⟩
end Go.Proofs.Ytbhkibilnmoljaa
namespace Go.Proofs.Ytbhkibilnmoljaa
open Go.ChangeShapes Go.WideShapes Go.ChangeAt Go.RowKit
set_option linter.unusedVariables false
set_option linter.unusedSimpArgs false

set_option maxRecDepth 100000 in
theorem linearRank_lifted (os : Os) (started : os.Started) (H : Type) (enc : TypeId × Value → H) :
    ReturnsInHanded {} Try.checked os 3 .any (Rows.linearRankSpec.pre6 enc Try.prog Try.f3 Rows.linearRankRow.domain false) (Rows.linearRankSpec.post enc Try.prog Try.f3 false true false false) := by
  refine returnsInHanded_of_change (C := Try.checked) Try.ownK started (by kernel_rfl) Try.func3
    (ChangeSpec.witness6 (enc := enc) (C := Try.checked) false ⟨#[], #[.int .u8 0, .int .u8 0, .slice none 0 0, .slice none 0 0], []⟩ 8 (by kernel_rfl) (by kernel_rfl) (by kernel_rfl) (by kernel_rfl)) ?_
  intro W base args ds gs before hval0 hW hcnd _
  have hval : ∀ (j : Nat) t v, Try.f3.params[j]? = some t → args[j]? = some v → Value.okWide Try.prog W .any base t v := hval0
  have hW' := hW
  obtain ⟨p, q, hA0, hV, rfl, hfz, hnd⟩ := hW
  have hA : DataW.TrodAll enc Try.prog W 0 (fun _ => true) true Try.f3.params.toList args.toList ds p := hA0
  rw [Try.params3] at hA hval
  obtain ⟨rfl, rfl⟩ := trodVars_none hV
  simp only [List.append_nil] at hW'
  have hback := fun (W' : World) (hb : Below W.heap.size W W') => trodAll_stays (enc := enc) Try.laidOut hb (by kernel_rfl) hA hW'.lt
  obtain ⟨v0, vs0, d0, ds0, p0, q0, e0, rfl, _, h0, hA⟩ := trodAll_cons hA
  obtain ⟨v1, vs1, d1, ds1, p1, q1, rfl, rfl, _, h1, hA⟩ := trodAll_cons hA
  obtain ⟨v2, vs2, d2, ds2, p2, q2, rfl, rfl, _, h2, hA⟩ := trodAll_cons hA
  obtain ⟨v3, vs3, d3, ds3, p3, q3, rfl, rfl, _, h3, hA⟩ := trodAll_cons hA
  obtain ⟨rfl, rfl, _⟩ := trodAll_nil hA
  obtain rfl : args = #[v0, v1, v2, v3] := by cases args; simp_all
  obtain ⟨x0, rfl, g0⟩ := u8_came (hval 0 5 v0 rfl rfl) h0
  obtain ⟨x1, rfl, g1⟩ := u8_came (hval 1 5 v1 rfl rfl) h1
  obtain ⟨l2, g2⟩ := i8_came (hval 2 22 v2 rfl rfl) h2
  obtain ⟨l3, g3⟩ := i8_came (hval 3 22 v3 rfl rfl) h3
  refine (rank_law x0 x1 _ _ l2 l3 W g0 g1 g2 g3).mono fun e W' ⟨he, hnx⟩ => ?_
  subst he
  refine ⟨_, rfl, _, _, _, [], p, [], hW', ?_, hback _ hnx, ?_, hnx.frame _, fun h => by cases h⟩
  · exact trodAll_mk1 (shut_bool Try.underlying4 _)
  · rfl
theorem linearRank_holds : Rows.LinearRankSaid :=
  OpenClaim.holds_of_wide 3 Try.f3 rfl rfl rfl rfl rfl rfl rfl ⟨rfl, rfl, rfl, rfl, rfl⟩ rfl rfl rfl rfl rfl (by kernel_rfl) Try.func3 (by kernel_rfl)
    (of_decide_eq_true (by kernel_rfl)) (by unfold Func.isWrapper; first | (rw [if_pos (by decide +kernel)]; kernel_rfl) | (rw [if_neg (by decide +kernel)]; exact ⟨rfl, rfl⟩))
    (fun os started H enc _ => linearRank_lifted os started H enc)
#print axioms linearRank_holds
end Go.Proofs.Ytbhkibilnmoljaa
