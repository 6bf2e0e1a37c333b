/-
  Elimination's numbers by minors, for a right side whose numbers have other sizes than the matrix. No program is named here.
-/
import Derived.Test.YtlpdkbmmbdfoiaaGreatSDt2
import Derived.Test.YtlpdkbmmbdfoiaaGreatSEl2
set_option linter.unusedVariables false
namespace Go.Proofs.YtlpdkbmmbdfoiaaGreat
theorem elim_full {b : Bool} {n : Nat} {M : Mx} (h : (elim b n M n).r = n) : ∀ j, j ≤ n → (elim b n M (n - j)).r = n - j
 | 0, _ => by rw [Nat.sub_zero]; exact h
 | j + 1, hj => by
   have ih := elim_full h j (by omega)
   have h1 := (zme b n M (n - (j + 1))).2
   rw [show n - j = (n - (j + 1)) + 1 by omega, elim, zof] at ih
   split at ih
   ·have : (elim b n M (n - (j + 1))).r + 1 = n - (j + 1) + 1 := ih
    omega
   ·have : (elim b n M (n - (j + 1))).r = n - (j + 1) + 1 := ih
    omega
theorem zfl {b : Bool} {n : Nat} {M : Mx} (h : (elim b n M n).r = n) {k : Nat} (hk : k ≤ n) : (elim b n M k).r = k := by
 have := elim_full h (n - k) (by omega)
 rwa [show n - (n - k) = k by omega] at this
theorem zxc {n : Nat} {M : Mx} (h : (elim false n M n).r = n) : ∀ k, k ≤ n →
 (∀ i j, i < n → j < k → i ≠ j → (elim false n M k).A i j = 0) ∧ (∀ j, j < k → (elim false n M k).A j j ≠ 0) ∧ (elim false n M k).d = sgs false n M k * pr k fun i => (elim false n M k).A i i
 | 0, _ => ⟨fun i j _ hj => by omega, fun j hj => by omega, by simp [elim, sgs, pr]⟩
 | k + 1, hk => by
   obtain ⟨h1, h2, h3⟩ := zxc h k (by omega)
   have hrk := zfl h (k := k) (by omega)
   have hrk1 := zfl h hk
   have hl := zvd false n M k
   rw [elim, zof] at hrk1
   rw [elim, zof, sgs]
   have hlt : pvt n k (elim false n M k) < n := by
    by_cases h5 : pvt n k (elim false n M k) < n
    ·exact h5
    ·rw [if_neg h5, hrk] at hrk1; omega
   rw [if_pos hlt, if_pos hlt]
   dsimp only
   have hge := zlk n k (elim false n M k)
   have hpn := pvt_ne (zme false n M k).1 hlt
   generalize pvt n k (elim false n M k) = a at *
   rw [hrk] at hge hl ⊢
   obtain ⟨S, hS⟩ : ∃ S, (elim false n M k).A = S := ⟨_, rfl⟩
   rw [hS] at h1 h2 h3 hl hpn ⊢
   have hkk : swp S k a k k ≠ 0 := by rw [zrj]; exact hpn
   have hsl : ∀ i j, i < n → j < k → i ≠ j → swp S k a i j = 0 := fun i j hi hj hij => by
    unfold swp; split
    ·exact hl a j hge hlt hj
    ·split
     ·exact hl k j (Nat.le_refl _) (by omega) hj
     ·exact h1 i j hi hj hij
   have hsd : ∀ j, j < k → swp S k a j j = S j j := fun j hj => by
    unfold swp; rw [if_neg (by omega), if_neg (by omega)]
   have hdg : ∀ j, j < k → zyi false (swp S k a) k k j j = S j j := fun j hj => by
    unfold zyi; rw [if_neg (fun h => by omega), hsd j hj]
   have hdk : zyi false (swp S k a) k k k k = swp S k a k k := by rw [zfg (fun h => h.1 rfl)]
   refine ⟨fun i j hi hj hij => ?_, fun j hj => ?_, ?_⟩
   ·unfold zyi
    by_cases hjk : j < k
    ·rw [if_neg (fun h => by omega)]; exact hsl i j hi hjk hij
    ·obtain rfl : j = k := by omega
     by_cases hz : swp S j a i j = 0
     ·rw [if_neg (fun h => h.1.2.2 hz)]; exact hz
     ·rw [if_pos ⟨⟨hij, (fun z => by cases z.1), hz⟩, Nat.le_refl _⟩, Rat.div_mul_cancel hkk]; grind
   ·by_cases hjk : j < k
    ·rw [hdg j hjk]; exact h2 j hjk
    ·obtain rfl : j = k := by omega
     rw [hdk]; exact hkk
   ·rw [pr, hdk]
    have e : (pr k fun i => zyi false (swp S k a) k k i i) = pr k fun i => S i i := pr_congr fun i hi => hdg i hi
    rw [e, h3]
    split
    ·exact Rat.mul_assoc _ _ _
    ·grind
theorem detC (n : Nat) (A : Mx) : RowC n fun B s => dt n A = s * dt n B where
 congr := fun X Y s h hX => by rw [hX, zad (fun a b ha _ => by rw [h a ha])]
 swap := fun X s a b ha hb hab hX => by rw [hX, dt_swp ha hb hab]; grind
 add := fun X s i r c hi hr hir hX => by rw [hX, dt_add hi hr hir]
theorem sgs_sq (b : Bool) (n : Nat) (M : Mx) : ∀ k, sgs b n M k * sgs b n M k = 1
 | 0 => by simp [sgs]
 | k + 1 => by
   have := sgs_sq b n M k
   rw [sgs]
   split
   ·split
    ·exact this
    ·grind
   ·exact this
theorem zee {n : Nat} {A : Mx} {r : Nat} (hr : r < n) (h : ∀ j, j < n → A r j = 0) : dt n A = 0 := by
 rw [← dt_zero (A := A) hr]
 refine zad fun a b ha hb => ?_
 unfold zmc; split
 ·next e => subst e; exact h b hb
 ·rfl
theorem pr_ne {n : Nat} {f : Nat → Rat} (h : ∀ i, i < n → f i ≠ 0) : pr n f ≠ 0 := by
 induction n with
 | zero => exact (by decide +kernel : (1 : Rat) ≠ 0)
 | succ n ih => rw [pr]; exact fun e => by rcases Rat.mul_eq_zero.1 e with e | e; exact ih (fun i hi => h i (by omega)) e; exact h n (by omega) e
theorem elim_dt {n : Nat} {M : Mx} : ((elim false n M n).r = n → dt n M = (elim false n M n).d ∧ dt n M ≠ 0) ∧ ((elim false n M n).r < n → dt n M = 0) := by
 have hk := zyc (detC n M) false (A := M) (by rw [Rat.one_mul]) n
 refine ⟨fun h => ?_, fun h => ?_⟩
 ·obtain ⟨h1, h2, h3⟩ := zxc h n (Nat.le_refl _)
  rw [zhl (fun i j hi hj hij => h1 i j hi hj hij)] at hk
  refine ⟨by rw [hk, h3], ?_⟩
  rw [hk]
  intro e
  rcases Rat.mul_eq_zero.1 e with e | e
  ·have := sgs_sq false n M n; rw [e] at this; simp at this
  ·exact pr_ne h2 e
 ·have hz := zee (n := n) (A := (elim false n M n).A) (r := n - 1) (by omega) (fun j hj => zvd false n M n (n - 1) j (by omega) (by omega) hj)
  rw [hk, hz]; grind
def zpa (m : Nat) (A B : Mx) : Mx := fun i j => if j < m then A i j else B i (j - m)
theorem zwd {m : Nat} {A B : Mx} {i j : Nat} (h : j < m) : zpa m A B i j = A i j := by unfold zpa; rw [if_pos h]
theorem zzd {m : Nat} {A B : Mx} {i j : Nat} : zpa m A B i (m + j) = B i j := by unfold zpa; rw [if_neg (by omega), show m + j - m = j by omega]
theorem dt_beside {n : Nat} (A B : Mx) : dt n (zpa n A B) = dt n A := zad fun a b _ hb => zwd hb
theorem zye {n : Nat} {A B : Mx} (h : dt n A ≠ 0) : (elim false n (zpa n A B) n).r = n := by
 have h1 := (elim_dt (M := zpa n A B) (n := n)).2
 rw [dt_beside] at h1
 rcases Nat.lt_or_ge (elim false n (zpa n A B) n).r n with h2 | h2
 ·exact absurd (h1 h2) h
 ·have := (zme false n (zpa n A B) n).1; omega
theorem rank_less {n : Nat} {A B : Mx} (h : dt n A = 0) : (elim false n (zpa n A B) n).r < n := by
 have h1 := (elim_dt (M := zpa n A B) (n := n)).1
 rw [dt_beside] at h1
 have := (zme false n (zpa n A B) n).1
 rcases Nat.lt_or_ge (elim false n (zpa n A B) n).r n with h2 | h2
 ·exact h2
 ·exact absurd h (h1 (by omega)).2
theorem zvm (n c : Nat) (f : Nat → Rat) : sg (n + c) f = sg n f + sg c fun j => f (n + j) := by
 induction c with
 | zero => rw [Nat.add_zero]; simp [sg]; grind
 | succ c ih => rw [← Nat.add_assoc, sg, ih, sg]; grind
theorem kerC (n m : Nat) (M : Mx) (y : Nat → Rat) : RowC n fun X _ => (∀ i, i < n → sg m (fun j => X i j * y j) = 0) → ∀ i, i < n → sg m (fun j => M i j * y j) = 0 where
 congr := fun X Y s h hX hY => hX fun i hi => by rw [h i hi]; exact hY i hi
 swap := fun X s a b ha hb hab hX hY => hX fun i hi => by
  by_cases h1 : i = a
  ·subst h1
   have := hY b hb
   unfold swp at this
   rw [if_neg (fun e => hab e.symm), if_pos rfl] at this
   exact this
  ·by_cases h2 : i = b
   ·subst h2
    have := hY a ha
    unfold swp at this
    rw [if_pos rfl] at this
    exact this
   ·have := hY i hi
    unfold swp at this
    rw [if_neg h1, if_neg h2] at this
    exact this
 add := fun X s i r c hi hr hir hX hY => hX fun k hk => by
  have hrr := hY r hr
  rw [zsc (fun e => hir e.symm)] at hrr
  by_cases h1 : k = i
  ·subst h1
   have h2 := hY k hk
   rw [zdd] at h2
   have e : sg m (fun j => (X k j + c * X r j) * y j) = sg m (fun j => X k j * y j) + c * sg m (fun j => X r j * y j) := by
    rw [← zeb, ← zue]
    exact zma fun j _ => by grind
   rw [e, hrr] at h2
   grind
  ·have h2 := hY k hk
   rw [zsc h1] at h2
   exact h2
theorem zel {n c : Nat} {A B : Mx} (h : (elim false n (zpa n A B) n).r = n) {q : Nat} (hq : q < c) : ∀ i, i < n →
 sg n (fun j => A i j * ((elim false n (zpa n A B) n).A j (n + q) / (elim false n (zpa n A B) n).A j j)) = B i q := by
 obtain ⟨h1, h2, _⟩ := zxc h n (Nat.le_refl _)
 obtain ⟨T, hT⟩ : ∃ T, (elim false n (zpa n A B) n).A = T := ⟨_, rfl⟩
 let y : Nat → Rat := fun j => if j < n then T j (n + q) / T j j else if j = n + q then -1 else 0
 have hk := zyc (kerC n (n + c) (zpa n A B) y) false (A := zpa n A B) (fun h => h) n
 rw [hT] at hk h1 h2 ⊢
 have hy : ∀ Z : Mx, ∀ i, sg (n + c) (fun j => Z i j * y j) = sg n (fun j => Z i j * (T j (n + q) / T j j)) - Z i (n + q) := fun Z i => by
  rw [zvm]
  have e1 : sg n (fun j => Z i j * y j) = sg n (fun j => Z i j * (T j (n + q) / T j j)) := zma fun j hj => by
   show Z i j * (if j < n then _ else _) = _; rw [if_pos hj]
  have e2 : sg c (fun j => Z i (n + j) * y (n + j)) = sg c (fun j => if q = j then Z i (n + j) * (-1) else 0) := zma fun j hj => by
   show Z i (n + j) * (if n + j < n then _ else if n + j = n + q then -1 else 0) = _
   rw [if_neg (by omega)]
   by_cases h5 : q = j
   ·subst h5; rw [if_pos rfl, if_pos rfl]
   ·rw [if_neg (by omega), if_neg h5]; grind
  rw [e1, e2, zed hq]
  grind
 have hz := hk fun i hi => by
  rw [hy]
  have e : sg n (fun j => T i j * (T j (n + q) / T j j)) = sg n (fun j => if i = j then T j (n + q) else 0) := zma fun j hj => by
   by_cases h5 : i = j
   ·subst h5; rw [if_pos rfl, Rat.mul_comm, Rat.div_mul_cancel (h2 i hi)]
   ·rw [if_neg h5, h1 i j hi hj h5]; grind
  rw [e, zed hi]; grind
 intro i hi
 have := hz i hi
 rw [hy, zzd] at this
 have e : sg n (fun j => zpa n A B i j * (T j (n + q) / T j j)) = sg n (fun j => A i j * (T j (n + q) / T j j)) := zma fun j hj => by rw [zwd hj]
 rw [e] at this
 grind
def zcf : Mx := fun i j => if i = j then 1 else 0
theorem invC (n : Nat) (A : Mx) : RowC n fun X _ => ∀ i j, i < n → j < n → sg n (fun l => X i (n + l) * A l j) = X i j where
 congr := fun X Y s h hX i j hi hj => by rw [← h i hi]; exact hX i j hi hj
 swap := fun X s a b ha hb hab hX i j hi hj => by
  unfold swp
  split
  ·exact hX b j hb hj
  ·split
   ·exact hX a j ha hj
   ·exact hX i j hi hj
 add := fun X s i r c hi hr hir hX k j hk hj => by
  by_cases h1 : k = i
  ·subst h1
   rw [zdd]
   have e : sg n (fun l => (X k (n + l) + c * X r (n + l)) * A l j) = sg n (fun l => X k (n + l) * A l j) + c * sg n (fun l => X r (n + l) * A l j) := by
    rw [← zeb, ← zue]
    exact zma fun l _ => by grind
   rw [e, hX k j hk hj, hX r j hr hj]
  ·rw [zsc h1]; exact hX k j hk hj
def zaj (n : Nat) (A : Mx) : Mx := fun i j => (elim false n (zpa n A zcf) n).A i (n + j) / (elim false n (zpa n A zcf) n).A i i
theorem inv_left {n : Nat} {A : Mx} (h : dt n A ≠ 0) {i j : Nat} (hi : i < n) (hj : j < n) : sg n (fun l => zaj n A i l * A l j) = zcf i j := by
 have hr := zye (B := zcf) h
 obtain ⟨h1, h2, _⟩ := zxc hr n (Nat.le_refl _)
 have hk := zyc (invC n A) false (A := zpa n A zcf) (fun i j hi hj => by
  rw [zwd hj]
  have e : sg n (fun l => zpa n A zcf i (n + l) * A l j) = sg n (fun l => if i = l then A l j else 0) := zma fun l hl => by
   rw [zzd]; unfold zcf
   by_cases h5 : i = l
   ·rw [if_pos h5, if_pos h5]; grind
   ·rw [if_neg h5, if_neg h5]; grind
  rw [e, zed hi]) n i j hi hj
 unfold zaj
 obtain ⟨T, hT⟩ : ∃ T, (elim false n (zpa n A zcf) n).A = T := ⟨_, rfl⟩
 rw [hT] at h1 h2 hk ⊢
 have e : sg n (fun l => T i (n + l) / T i i * A l j) = (1 / T i i) * sg n (fun l => T i (n + l) * A l j) := by
  rw [← zeb]
  exact zma fun l _ => by rw [Rat.div_def, Rat.div_def]; grind
 rw [e, hk]
 unfold zcf
 by_cases h5 : i = j
 ·subst h5; rw [if_pos rfl, Rat.div_mul_cancel (h2 i hi)]
 ·rw [if_neg h5, h1 i j hi hj h5]; grind
theorem inv_right {n : Nat} {A : Mx} (h : dt n A ≠ 0) {i j : Nat} (hi : i < n) (hj : j < n) : sg n (fun l => A i l * zaj n A l j) = zcf i j :=
 zel (zye (B := zcf) h) hj i hi
theorem zei {n : Nat} {A : Mx} (h : dt n A ≠ 0) {x b : Nat → Rat} (hx : ∀ i, i < n → sg n (fun j => A i j * x j) = b i) {i : Nat} (hi : i < n) : x i = sg n (fun l => zaj n A i l * b l) := by
 have e1 : sg n (fun l => zaj n A i l * b l) = sg n (fun l => sg n (fun j => zaj n A i l * (A l j * x j))) := zma fun l hl => by rw [← hx l hl, zeb]
 rw [e1, sg_comm]
 have e2 : sg n (fun j => sg n (fun l => zaj n A i l * (A l j * x j))) = sg n (fun j => if i = j then x j else 0) := zma fun j hj => by
  have e3 : sg n (fun l => zaj n A i l * (A l j * x j)) = sg n (fun l => zaj n A i l * A l j) * x j := by
   rw [← zsd]; exact zma fun l _ => by grind
  rw [e3, inv_left h hi hj]; unfold zcf
  by_cases h5 : i = j
  ·rw [if_pos h5, if_pos h5]; grind
  ·rw [if_neg h5, if_neg h5]; grind
 rw [e2, zed hi]
theorem inv_cramer {n : Nat} {A : Mx} (h : dt n A ≠ 0) {i j : Nat} (hi : i < n) (hj : j < n) : zaj n A i j = dt n (zmc A j (zcf i)) / dt n A := by
 have e : dt n (zmc A j (zcf i)) = dt n (zmc A j fun b => sg n fun l => zaj n A i l * A l b) := zad fun a b ha hb => by
  unfold zmc; split
  ·exact (inv_left h hi hb).symm
  ·rfl
 have e2 : sg n (fun l => zaj n A i l * dt n (zmc A j (A l))) = sg n (fun l => if j = l then zaj n A i l * dt n A else 0) := zma fun l hl => by
  by_cases h5 : j = l
  ·subst h5; rw [if_pos rfl, zuf]
  ·rw [if_neg h5, zqi hj hl h5 (by rw [zdd, zsc (fun e => h5 e.symm)])]; grind
 rw [e, dt_sum A hj, e2, zed hj, Rat.mul_div_cancel h]
def zqd (m : Nat) (A B : Mx) : Mx := fun i k => sg m fun j => A i j * B j k
theorem mul_assoc (m o : Nat) (A B C : Mx) (i k : Nat) : zqd o (zqd m A B) C i k = zqd m A (zqd o B C) i k := by
 unfold zqd
 have e1 : sg o (fun j => sg m (fun l => A i l * B l j) * C j k) = sg o (fun j => sg m (fun l => A i l * (B l j * C j k))) := zma fun j _ => by
  rw [← zsd]
  exact zma fun l _ => by grind
 rw [e1, sg_comm]
 exact zma fun l _ => zeb _ _ _
theorem dt_rows {n : Nat} (c : Nat → Rat) (B : Mx) : ∀ k, k ≤ n → dt n (fun i b => if i < k then c i * B i b else B i b) = pr k c * dt n B
 | 0, _ => by
   have e : (fun (i : Nat) (b : Nat) => if i < 0 then c i * B i b else B i b) = B := by
    funext i b; rw [if_neg (by omega)]
   rw [e, pr, Rat.one_mul]
 | k + 1, hk => by
   have ih := dt_rows (n := n) c B k (by omega)
   have e : (fun (i : Nat) (b : Nat) => if i < k + 1 then c i * B i b else B i b) = zmc (fun i b => if i < k then c i * B i b else B i b) k (fun b => c k * B k b) := by
    funext i b; unfold zmc
    by_cases h1 : i = k
    ·subst h1; rw [if_pos (by omega), if_pos rfl]
    ·rw [if_neg h1]
     by_cases h2 : i < k
     ·rw [if_pos (by omega)]; show _ = if i < k then _ else _
      rw [if_pos h2]
     ·rw [if_neg (by omega)]; show _ = if i < k then _ else _
      rw [if_neg h2]
   have e2 : zmc (fun i b => if i < k then c i * B i b else B i b) k (B k) = fun i b => if i < k then c i * B i b else B i b := by
    funext i b; unfold zmc
    by_cases h1 : i = k
    ·subst h1; rw [if_pos rfl, if_neg (by omega)]
    ·rw [if_neg h1]
   rw [e, dt_scale _ (show k < n by omega), e2, ih, pr]
   grind
theorem zjf {m : Nat} {X B : Mx} {Y : Mx} {i i' : Nat} (h : X i = Y i') : zqd m X B i = zqd m Y B i' := by
 funext k; unfold zqd; rw [h]
theorem mulC (n : Nat) (A B : Mx) : RowC n fun X s => dt n (zqd n A B) = s * dt n (zqd n X B) where
 congr := fun X Y s h hX => by
  rw [hX, zad (fun a b ha _ => by rw [zjf (B := B) (h a ha)])]
 swap := fun X s a b ha hb hab hX => by
  have e : zqd n (swp X a b) B = swp (zqd n X B) a b := by
   funext i; unfold swp
   by_cases h1 : i = a
   ·subst h1; rw [if_pos rfl]; exact zjf (by rw [if_pos rfl])
   ·rw [if_neg h1]
    by_cases h2 : i = b
    ·subst h2; rw [if_pos rfl]; exact zjf (by rw [if_neg h1, if_pos rfl])
    ·rw [if_neg h2]; exact zjf (by rw [if_neg h1, if_neg h2])
  rw [hX, e, dt_swp ha hb hab]; grind
 add := fun X s i r c hi hr hir hX => by
  have e : zqd n (zmc X i fun b => X i b + c * X r b) B = zmc (zqd n X B) i fun b => zqd n X B i b + c * zqd n X B r b := by
   funext k b
   by_cases h1 : k = i
   ·subst h1
    rw [zdd]
    unfold zqd
    rw [zdd, ← zeb, ← zue]
    exact zma fun j _ => by grind
   ·rw [zsc h1]
    exact congrFun (zjf (zsc h1)) b
  rw [hX, e, dt_add hi hr hir]
theorem dt_mul (n : Nat) (A B : Mx) : dt n (zqd n A B) = dt n A * dt n B := by
 have h1 := zyc (mulC n A B) false (A := A) (by rw [Rat.one_mul]) n
 have h2 := zyc (detC n A) false (A := A) (by rw [Rat.one_mul]) n
 rw [h1, h2]
 by_cases hr : (elim false n A n).r = n
 ·obtain ⟨h3, h4, h5⟩ := zxc hr n (Nat.le_refl _)
  rw [zhl (fun i j hi hj hij => h3 i j hi hj hij)]
  have e : dt n (zqd n (elim false n A n).A B) = dt n (fun i b => if i < n then (elim false n A n).A i i * B i b else B i b) := zad fun i b hi hb => by
   rw [if_pos hi]
   unfold zqd
   have e2 : sg n (fun j => (elim false n A n).A i j * B j b) = sg n (fun j => if i = j then (elim false n A n).A i j * B j b else 0) := zma fun j hj => by
    by_cases h6 : i = j
    ·rw [if_pos h6]
    ·rw [if_neg h6, h3 i j hi hj h6]; grind
   rw [e2, zed hi]
  rw [e, dt_rows (fun i => (elim false n A n).A i i) B n (Nat.le_refl _)]
  grind
 ·have hr2 : (elim false n A n).r < n := by have := (zme false n A n).1; omega
  have hz0 : ∀ j, j < n → (elim false n A n).A (n - 1) j = 0 := fun j hj => zvd false n A n (n - 1) j (by omega) (by omega) hj
  rw [zee (A := (elim false n A n).A) (r := n - 1) (by omega) hz0]
  rw [zee (A := zqd n (elim false n A n).A B) (r := n - 1) (by omega) (fun j hj => by
   unfold zqd
   exact (zma fun l hl => by rw [hz0 l hl]; grind).trans (zgi n))]
  grind
theorem dtB_pos {B : Nat} (hB : 0 < B) : ∀ n, 0 < dtB n B
 | 0 => Nat.one_pos
 | n + 1 => Nat.mul_pos (Nat.succ_pos n) (Nat.mul_pos hB (dtB_pos hB n))
theorem zkn {B k n : Nat} (hB : 0 < B) (h : k ≤ n) : dtB k B ≤ dtB n B := by
 induction n with
 | zero => obtain rfl : k = 0 := by omega
           exact Nat.le_refl _
 | succ n ih =>
   by_cases hk : k = n + 1
   ·subst hk; exact Nat.le_refl _
   ·refine Nat.le_trans (ih (by omega)) ?_
    rw [dtB]
    have h1 : dtB n B ≤ B * dtB n B := Nat.le_mul_of_pos_left _ hB
    exact Nat.le_trans h1 (Nat.le_mul_of_pos_left _ (Nat.succ_pos n))
theorem over.div2 {F G N K : Nat} {p q : Rat} (hF : F ≠ 0) (hG : G ≠ 0) (hp : over F N p) (hq : over G K q) (h0 : q ≠ 0) : ∃ H, H ≠ 0 ∧ H ≤ F * K ∧ over H (N * G) (p / q) := by
 obtain ⟨z, rfl, hz⟩ := hq
 have hz0 : z ≠ 0 := over.zero' (B := K) hG h0
 have h1 := over.quo hG (over.one hG) hz0
 have h2 := over.mul hp h1
 refine ⟨F * z.natAbs, Nat.mul_ne_zero hF (by omega), Nat.mul_le_mul_left _ hz, ?_⟩
 have e : p / mkRat z G = p * (1 / mkRat z G) := by rw [Rat.div_def, Rat.div_def, Rat.one_mul]
 rw [e]; exact h2
theorem over.sub2 {F G N K : Nat} {p q : Rat} (hF : F ≠ 0) (hG : G ≠ 0) (hp : over F N p) (hq : over G K q) : over (F * G) (N * G + K * F) (p - q) := by
 have h1 := over.scale hG hp
 have h2 := over.scale hF hq
 rw [Nat.mul_comm G F] at h2
 exact over.sub (Nat.mul_ne_zero hF hG) h1 h2
theorem inv_gen {n D B : Nat} {A : Mx} (hD : D ≠ 0) (hDB : D ≤ B) (hA : ∀ i j, i < n → j < n → over D B (A i j)) (h : dt n A ≠ 0) : ∃ E, E ≠ 0 ∧ E ≤ dtB n B ∧ ∀ i j, i < n → j < n → over E (dtB n B) (zaj n A i j) := by
 obtain ⟨z, hz, hzb⟩ := dt_over (n := n) (D := D) (m := B) hD hA
 have hDn : D ^ n ≠ 0 := Nat.ne_of_gt (Nat.pow_pos (Nat.pos_of_ne_zero hD))
 have hz0 : z ≠ 0 := over.zero' (B := 0) hDn (hz ▸ h)
 refine ⟨z.natAbs, by omega, hzb, fun i j hi hj => ?_⟩
 rw [inv_cramer h hi hj, hz]
 refine over.quo hDn (dt_over hD fun a b ha hb => ?_) hz0
 unfold zmc; split
 ·unfold zcf; split
  ·exact (over.one hD).mono hDB
  ·exact over.zero _ _
 ·exact hA a b ha hb
theorem sol_gen {n D B : Nat} {A : Mx} (hD : D ≠ 0) (hDB : D ≤ B) (hA : ∀ i j, i < n → j < n → over D B (A i j)) (h : dt n A ≠ 0) {F K : Nat} (hF : F ≠ 0) {x b : Nat → Rat} (hb : ∀ i, i < n → over F K (b i)) (hx : ∀ i, i < n → sg n (fun j => A i j * x j) = b i) :
 ∃ E, E ≠ 0 ∧ E ≤ dtB n B ∧ ∀ i, i < n → over (E * F) (n * (dtB n B * K)) (x i) := by
 obtain ⟨E, hE, hEb, hI⟩ := inv_gen hD hDB hA h
 refine ⟨E, hE, hEb, fun i hi => ?_⟩
 rw [zei h hx hi]
 exact over.sg (Nat.mul_ne_zero hE hF) fun l hl => over.mul (hI i l hi hl) (hb l hl)
theorem zoj {k : Nat} {P : Mx} (h : dt k P ≠ 0) {c y : Nat → Rat} (hy : ∀ j, j < k → y j = sg k fun l => c l * P l j) {l : Nat} (hl : l < k) : c l = sg k fun j => y j * zaj k P j l := by
 have e1 : sg k (fun j => y j * zaj k P j l) = sg k (fun j => sg k (fun t => c t * (P t j * zaj k P j l))) := zma fun j hj => by
  rw [hy j hj, ← zsd]
  exact zma fun t _ => Rat.mul_assoc _ _ _
 rw [e1, sg_comm]
 have e2 : sg k (fun t => sg k (fun j => c t * (P t j * zaj k P j l))) = sg k (fun t => if l = t then c t else 0) := zma fun t ht => by
  rw [zeb, inv_right h ht hl]
  unfold zcf
  by_cases h5 : t = l
  ·subst h5; rw [if_pos rfl, if_pos rfl, Rat.mul_one]
  ·rw [if_neg h5, if_neg (fun e => h5 e.symm), Rat.mul_zero]
 rw [e2, zed hl]
def bW (n D B β : Nat) : Nat := B * (β * D) + n * (n * (B * β) * B)
def bN (n D B β : Nat) : Nat := bW n D B β + n * (bW n D B β * β * B)
def bD (D β : Nat) : Nat := D * β * D * (β * D)
def zpl (n m k D β W : Nat) (M X : Mx) : Prop :=
 (∃ σ : Nat → Nat, (∀ i, i < n → σ i < n) ∧ (∀ i, k ≤ i → i < n → ∃ c : Nat → Rat, ∀ j, j < m → X i j = M (σ i) j - sg k fun l => c l * M (σ l) j) ∧ ∀ i, i < k → ∃ c : Nat → Rat, ∀ j, j < m → X i j = sg k fun l => c l * M (σ l) j) ∧
  ∀ i, i < k → ∃ G, G ≠ 0 ∧ G ≤ D * β * D ∧ over G W (X i i)
theorem zpl.start (n m D β W : Nat) (M : Mx) : zpl n m 0 D β W M M :=
 ⟨⟨id, fun i h => h, fun i _ _ => ⟨fun _ => 0, fun j _ => by simp [sg]; grind⟩, fun i h => by omega⟩, fun i h => by omega⟩
section
variable {n m k D B β : Nat} {M X : Mx}
theorem zpl.sizes (hD : D ≠ 0) (hDB : D ≤ B) (hk : k ≤ n) (hnm : n ≤ m) (hβ : dtB k B ≤ β) (hM : overT n m D B M) (h : zpl n m k D β (bW n D B β) M X)
 (h0 : ∀ i j, i < n → j < k → i ≠ j → X i j = 0) (hp : ∀ j, j < k → X j j ≠ 0) :
 (∀ i j, k ≤ i → i < n → j < m → ∃ G, G ≠ 0 ∧ G ≤ D * β * D ∧ over G (bW n D B β) (X i j)) ∧ ∀ i j, i < k → j < m → ∃ G, G ≠ 0 ∧ G ≤ bD D β ∧ over G (n * (bW n D B β * β * B)) (X i j) := by
 obtain ⟨⟨σ, hσ, h1, h2⟩, h3⟩ := h
 obtain ⟨P, hP⟩ : ∃ P : Mx, P = fun i l => M (σ i) l := ⟨_, rfl⟩
 have hPM : ∀ i l, P i l = M (σ i) l := fun i l => by rw [hP]
 obtain ⟨C, hC⟩ := Classical.axiomOfChoice (r := fun (i : Nat) (c : Nat → Rat) => i < k → ∀ j, j < m → X i j = sg k fun l => c l * M (σ l) j) (fun i => by
  by_cases hi : i < k
  ·obtain ⟨c, hc⟩ := h2 i hi; exact ⟨c, fun _ => hc⟩
  ·exact ⟨fun _ => 0, fun h => absurd h hi⟩)
 have hdP : dt k P ≠ 0 := by
  have e1 : dt k (zqd k C P) = dt k X := zad fun a b ha hb => by
   rw [hC a ha b (by omega)]
   unfold zqd
   exact zma fun l _ => by rw [hPM]
  rw [dt_mul] at e1
  intro hz
  rw [hz, Rat.mul_zero] at e1
  rw [zhl (fun i j hi hj hij => h0 i j (by omega) hj hij)] at e1
  exact pr_ne hp e1.symm
 obtain ⟨E, hE, hEb, hI⟩ := inv_gen hD hDB (fun i j hi hj => by rw [hPM]; exact hM _ _ (hσ i (by omega)) (by omega)) hdP
 have hEβ : E ≤ β := Nat.le_trans hEb hβ
 have hI' : ∀ i j, i < k → j < k → over E β (zaj k P i j) := fun i j hi hj => (hI i j hi hj).mono hβ
 have hDED : D * E * D ≠ 0 := Nat.mul_ne_zero (Nat.mul_ne_zero hD hE) hD
 refine ⟨fun i j hki hi hj => ?_, fun i j hi hj => ?_⟩
 ·obtain ⟨c, hc⟩ := h1 i hki hi
  have hy : ∀ j, j < k → M (σ i) j = sg k fun l => c l * P l j := fun j hj => by
   have := hc j (by omega)
   rw [h0 i j hi hj (by omega)] at this
   have e : (sg k fun l => c l * P l j) = sg k fun l => c l * M (σ l) j := zma fun l _ => by rw [hPM]
   rw [e]; grind
  have hcl : ∀ l, l < k → over (D * E) (k * (B * β)) (c l) := fun l hl => by
   rw [zoj hdP hy hl]
   exact over.sg (Nat.mul_ne_zero hD hE) fun j hj => over.mul (hM _ _ (hσ i hi) (by omega)) (hI' j l hj hl)
  refine ⟨D * E * D, hDED, Nat.mul_le_mul_right _ (Nat.mul_le_mul_left _ hEβ), ?_⟩
  rw [hc j hj]
  have hs : over (D * E * D) (k * (k * (B * β) * B)) (sg k fun l => c l * M (σ l) j) := over.sg hDED fun l hl => over.mul (hcl l hl) (hM _ _ (hσ l (by omega)) hj)
  have hm : over (D * E * D) (B * (E * D)) (M (σ i) j) := by
   have := over.scale (m := E * D) (Nat.mul_ne_zero hE hD) (hM _ _ (hσ i hi) hj)
   rwa [← Nat.mul_assoc] at this
  refine (over.sub hDED hm hs).mono ?_
  unfold bW
  refine Nat.add_le_add (Nat.mul_le_mul_left _ (Nat.mul_le_mul_right _ hEβ)) (Nat.mul_le_mul hk (Nat.mul_le_mul_right _ (Nat.mul_le_mul_right _ hk)))
 ·obtain ⟨G, hG, hGb, hd⟩ := h3 i hi
  have hy : ∀ j, j < k → X i j = sg k fun l => C i l * P l j := fun j hj => by
   rw [hC i hi j (by omega)]
   exact zma fun l _ => by rw [hPM]
  have hcl : ∀ l, l < k → over (G * E) (bW n D B β * β) (C i l) := fun l hl => by
   rw [zoj hdP hy hl]
   have e : (sg k fun j => X i j * zaj k P j l) = sg k fun j => if i = j then X i i * zaj k P i l else 0 := zma fun j hj => by
    by_cases h5 : i = j
    ·subst h5; rw [if_pos rfl]
    ·rw [if_neg h5, h0 i j (by omega) hj h5, Rat.zero_mul]
   rw [e, zed (f := fun _ => X i i * zaj k P i l) hi]
   exact over.mul hd (hI' i l hi hl)
  have hGE : G * E * D ≠ 0 := Nat.mul_ne_zero (Nat.mul_ne_zero hG hE) hD
  refine ⟨G * E * D, hGE, ?_, ?_⟩
  ·unfold bD
   rw [Nat.mul_assoc]
   exact Nat.mul_le_mul hGb (Nat.mul_le_mul_right _ hEβ)
  ·rw [hC i hi j hj]
   refine (over.sg hGE fun l hl => over.mul (hcl l hl) (hM _ _ (hσ l (by omega)) hj)).mono ?_
   exact Nat.mul_le_mul_right _ hk
theorem zpl.step (hk : k < n) (hnm : n ≤ m) {W a : Nat} (ha : k ≤ a) (han : a < n) (h : zpl n m k D β W M X) (hz : ∀ i j, k ≤ i → i < n → j < k → X i j = 0)
 (hpiv : ∃ G, G ≠ 0 ∧ G ≤ D * β * D ∧ over G W (X a k)) : zpl n m (k + 1) D β W M (zyi false (swp X k a) k k) := by
 obtain ⟨⟨σ, hσ, h1, h2⟩, h3⟩ := h
 obtain ⟨τ, hτ⟩ : ∃ τ : Nat → Nat, τ = fun i => if i = k then σ a else if i = a then σ k else σ i := ⟨_, rfl⟩
 have t0 : ∀ l, l < k → τ l = σ l := fun l hl => by rw [hτ]; simp only; rw [if_neg (by omega), if_neg (by omega)]
 have tk : τ k = σ a := by rw [hτ]; dsimp only; rw [if_pos rfl]
 have tn : ∀ i, i < n → τ i < n := fun i hi => by
  rw [hτ]; simp only; split
  ·exact hσ a han
  ·split
   ·exact hσ k hk
   ·exact hσ i hi
 have zr : ∀ i, k ≤ i → i < n → ∃ c : Nat → Rat, ∀ j, j < m → swp X k a i j = M (τ i) j - sg k fun l => c l * M (τ l) j := fun i hki hi => by
  have cg : ∀ (c : Nat → Rat) (j : Nat), (sg k fun l => c l * M (σ l) j) = sg k fun l => c l * M (τ l) j := fun c j => zma fun l hl => by rw [t0 l hl]
  by_cases e1 : i = k
  ·obtain ⟨c, hc⟩ := h1 a ha han
   refine ⟨c, fun j hj => ?_⟩
   subst e1
   rw [tk, ← cg, ← hc j hj]
   unfold swp; rw [if_pos rfl]
  ·by_cases e2 : i = a
   ·obtain ⟨c, hc⟩ := h1 k (Nat.le_refl _) hk
    refine ⟨c, fun j hj => ?_⟩
    have e3 : τ i = σ k := by rw [hτ]; simp only; rw [if_neg e1, if_pos e2]
    rw [e3, ← cg, ← hc j hj]
    unfold swp; rw [if_neg e1, if_pos e2]
   ·obtain ⟨c, hc⟩ := h1 i hki hi
    refine ⟨c, fun j hj => ?_⟩
    have e3 : τ i = σ i := by rw [hτ]; simp only; rw [if_neg e1, if_neg e2]
    rw [e3, ← cg, ← hc j hj]
    unfold swp; rw [if_neg e1, if_neg e2]
 have zl : ∀ i, i < k → swp X k a i = X i := fun i hi => by unfold swp; rw [if_neg (by omega), if_neg (by omega)]
 have zz : ∀ j, j < k → swp X k a k j = 0 := fun j hj => by
  unfold swp; rw [if_pos rfl]; exact hz a j ha han hj
 obtain ⟨ck, hck⟩ := zr k (Nat.le_refl _) hk
 generalize hZ : swp X k a = Z at *
 have yr : ∀ i, ∃ f : Rat, ∀ j, zyi false Z k k i j = Z i j - f * Z k j := fun i => by
  by_cases hact : act false Z k k i
  ·refine ⟨Z i k / Z k k, fun j => ?_⟩
   unfold zyi
   by_cases hj : k ≤ j
   ·rw [if_pos ⟨hact, hj⟩]
   ·rw [if_neg (fun h => hj h.2), zz j (by omega), Rat.mul_zero]; grind
  ·exact ⟨0, fun j => by rw [zfg hact]; grind⟩
 have yk : ∀ j, zyi false Z k k k j = Z k j := fun j => by rw [zfg (fun h => h.1 rfl)]
 refine ⟨⟨τ, tn, fun i hki hi => ?_, fun i hik => ?_⟩, fun i hik => ?_⟩
 ·obtain ⟨c, hc⟩ := zr i (by omega) hi
  obtain ⟨f, hf⟩ := yr i
  refine ⟨fun l => if l < k then c l - f * ck l else f, fun j hj => ?_⟩
  have e1 : (sg k fun l => (if l < k then c l - f * ck l else f) * M (τ l) j) = sg k (fun l => c l * M (τ l) j) + (-f) * sg k fun l => ck l * M (τ l) j := by
   rw [← zeb, ← zue]
   exact zma fun l hl => by rw [if_pos hl]; grind
  rw [hf j, hc j hj, hck j hj, sg, e1]
  dsimp only
  rw [if_neg (Nat.lt_irrefl k)]
  grind
 ·by_cases e1 : i = k
  ·subst e1
   refine ⟨fun l => if l < i then -ck l else 1, fun j hj => ?_⟩
   have e2 : (sg i fun l => (if l < i then -ck l else 1) * M (τ l) j) = (-1) * sg i fun l => ck l * M (τ l) j := by
    rw [← zeb]
    exact zma fun l hl => by rw [if_pos hl]; grind
   rw [yk, hck j hj, sg, e2]
   dsimp only
   rw [if_neg (Nat.lt_irrefl i)]
   grind
  ·obtain ⟨c, hc⟩ := h2 i (by omega)
   obtain ⟨f, hf⟩ := yr i
   refine ⟨fun l => if l < k then c l + f * ck l else -f, fun j hj => ?_⟩
   have e2 : (sg k fun l => (if l < k then c l + f * ck l else -f) * M (τ l) j) = sg k (fun l => c l * M (τ l) j) + f * sg k fun l => ck l * M (τ l) j := by
    rw [← zeb, ← zue]
    exact zma fun l hl => by rw [if_pos hl]; grind
   have e3 : (sg k fun l => c l * M (σ l) j) = sg k fun l => c l * M (τ l) j := zma fun l hl => by rw [t0 l hl]
   rw [hf j, zl i (by omega), hc j hj, hck j hj, sg, e2, e3]
   dsimp only
   rw [if_neg (Nat.lt_irrefl k)]
   grind
 ·by_cases e1 : i = k
  ·subst e1
   rw [yk]
   have e2 : Z i i = X a i := by rw [← hZ]; unfold swp; rw [if_pos rfl]
   rw [e2]; exact hpiv
  ·have e2 : zyi false Z k k i i = X i i := by
    unfold zyi
    rw [if_neg (fun h => by omega), zl i (by omega)]
   rw [e2]; exact h3 i (by omega)
theorem zgl (hD : D ≠ 0) (hDB : D ≤ B) (hnm : n ≤ m) (hβ : dtB n B ≤ β) (hM : overT n m D B M) (h : (elim false n M n).r = n) : ∀ k, k ≤ n → zpl n m k D β (bW n D B β) M (elim false n M k).A
 | 0, _ => zpl.start n m D β _ M
 | k + 1, hk => by
   have ih := zgl hD hDB hnm hβ hM h k (by omega)
   obtain ⟨u1, u2, _⟩ := zxc h k (by omega)
   have hrk := zfl h (k := k) (by omega)
   have hrk1 := zfl h hk
   have hl := zvd false n M k
   rw [elim, zof] at hrk1
   rw [elim, zof]
   have hlt : pvt n k (elim false n M k) < n := by
    by_cases h5 : pvt n k (elim false n M k) < n
    ·exact h5
    ·rw [if_neg h5, hrk] at hrk1; omega
   rw [if_pos hlt]
   have hge := zlk n k (elim false n M k)
   have hB : 0 < B := by omega
   have hs := ih.sizes hD hDB (by omega) hnm (Nat.le_trans (zkn hB (by omega)) hβ) hM u1 u2
   dsimp only
   rw [hrk] at hge hl ⊢
   exact ih.step hk hnm hge hlt (fun i j h1 h2 h3 => hl i j h1 h2 h3) (hs.1 _ _ hge hlt (by omega))
theorem sgs_pm (n : Nat) (M : Mx) (k : Nat) : sgs false n M k = 1 ∨ sgs false n M k = -1 := by
 have h := sgs_sq false n M k
 by_cases h1 : sgs false n M k = 1
 ·exact Or.inl h1
 ·right
  have h2 : sgs false n M k - 1 ≠ 0 := fun e => h1 (by grind)
  have h3 : (sgs false n M k - 1) * (sgs false n M k + 1) = 0 := by grind
  rcases Rat.mul_eq_zero.1 h3 with h4 | h4
  ·exact absurd h4 h2
  ·grind
theorem over_pr {G0 W : Nat} {f : Nat → Rat} : ∀ k, (∀ i, i < k → ∃ G, G ≠ 0 ∧ G ≤ G0 ∧ over G W (f i)) → ∃ G, G ≠ 0 ∧ G ≤ G0 ^ k ∧ over G (W ^ k) (pr k f)
 | 0, _ => ⟨1, by decide, Nat.le_refl _, ⟨1, by show (1 : Rat) = mkRat 1 1; decide +kernel, Nat.le_refl _⟩⟩
 | k + 1, h => by
   obtain ⟨G, h1, h2, h3⟩ := over_pr k fun i hi => h i (by omega)
   obtain ⟨H, g1, g2, g3⟩ := h k (Nat.lt_succ_self k)
   rw [pr, Nat.pow_succ, Nat.pow_succ]
   exact ⟨G * H, Nat.mul_ne_zero h1 g1, Nat.mul_le_mul h2 g2, over.mul h3 g3⟩
end
section
variable {n m k D B β F K : Nat} {M X : Mx}
theorem zpl.sizesR {D' β' W' : Nat} (hD : D ≠ 0) (hDB : D ≤ B) (hF : F ≠ 0) (hk : k ≤ n) (hnm : n ≤ m) (hβ : dtB k B ≤ β) (hM : overT n n D B M) (hR : ∀ i j, i < n → n ≤ j → j < m → over (D * F) (B * K) (M i j)) (h : zpl n m k D' β' W' M X)
 (h3 : ∀ i, i < k → ∃ G, G ≠ 0 ∧ G ≤ D * β * D ∧ over G (bW n D B β) (X i i))
 (h0 : ∀ i j, i < n → j < k → i ≠ j → X i j = 0) (hp : ∀ j, j < k → X j j ≠ 0) :
 (∀ i j, k ≤ i → i < n → n ≤ j → j < m → ∃ G, G ≠ 0 ∧ G ≤ D * β * D * F ∧ over G (bW n D B β * K) (X i j)) ∧ ∀ i j, i < k → n ≤ j → j < m → ∃ G, G ≠ 0 ∧ G ≤ bD D β * F ∧ over G (n * (bW n D B β * β * B) * K) (X i j) := by
 obtain ⟨⟨σ, hσ, h1, h2⟩, _⟩ := h
 obtain ⟨P, hP⟩ : ∃ P : Mx, P = fun i l => M (σ i) l := ⟨_, rfl⟩
 have hPM : ∀ i l, P i l = M (σ i) l := fun i l => by rw [hP]
 obtain ⟨C, hC⟩ := Classical.axiomOfChoice (r := fun (i : Nat) (c : Nat → Rat) => i < k → ∀ j, j < m → X i j = sg k fun l => c l * M (σ l) j) (fun i => by
  by_cases hi : i < k
  ·obtain ⟨c, hc⟩ := h2 i hi; exact ⟨c, fun _ => hc⟩
  ·exact ⟨fun _ => 0, fun h => absurd h hi⟩)
 have hdP : dt k P ≠ 0 := by
  have e1 : dt k (zqd k C P) = dt k X := zad fun a b ha hb => by
   rw [hC a ha b (by omega)]
   unfold zqd
   exact zma fun l _ => by rw [hPM]
  rw [dt_mul] at e1
  intro hz
  rw [hz, Rat.mul_zero] at e1
  rw [zhl (fun i j hi hj hij => h0 i j (by omega) hj hij)] at e1
  exact pr_ne hp e1.symm
 obtain ⟨E, hE, hEb, hI⟩ := inv_gen hD hDB (fun i j hi hj => by rw [hPM]; exact hM _ _ (hσ i (by omega)) (by omega)) hdP
 have hEβ : E ≤ β := Nat.le_trans hEb hβ
 have hI' : ∀ i j, i < k → j < k → over E β (zaj k P i j) := fun i j hi hj => (hI i j hi hj).mono hβ
 have hDED : D * E * D * F ≠ 0 := Nat.mul_ne_zero (Nat.mul_ne_zero (Nat.mul_ne_zero hD hE) hD) hF
 have q1 : D * E * (D * F) = D * E * D * F := (Nat.mul_assoc _ _ _).symm
 have q2 : D * F * (E * D) = D * E * D * F := by ac_rfl
 refine ⟨fun i j hki hi hjn hj => ?_, fun i j hi hjn hj => ?_⟩
 ·obtain ⟨c, hc⟩ := h1 i hki hi
  have hy : ∀ j, j < k → M (σ i) j = sg k fun l => c l * P l j := fun j hj => by
   have := hc j (by omega)
   rw [h0 i j hi hj (by omega)] at this
   have e : (sg k fun l => c l * P l j) = sg k fun l => c l * M (σ l) j := zma fun l _ => by rw [hPM]
   rw [e]; grind
  have hcl : ∀ l, l < k → over (D * E) (k * (B * β)) (c l) := fun l hl => by
   rw [zoj hdP hy hl]
   exact over.sg (Nat.mul_ne_zero hD hE) fun j hj => over.mul (hM _ _ (hσ i hi) (by omega)) (hI' j l hj hl)
  refine ⟨D * E * D * F, hDED, Nat.mul_le_mul_right _ (Nat.mul_le_mul_right _ (Nat.mul_le_mul_left _ hEβ)), ?_⟩
  rw [hc j hj]
  have hs : over (D * E * D * F) (k * (k * (B * β) * (B * K))) (sg k fun l => c l * M (σ l) j) := over.sg hDED fun l hl => by
   have := over.mul (hcl l hl) (hR _ _ (hσ l (by omega)) hjn hj)
   rwa [q1] at this
  have hm : over (D * E * D * F) (B * K * (E * D)) (M (σ i) j) := by
   have := over.scale (m := E * D) (Nat.mul_ne_zero hE hD) (hR _ _ (hσ i hi) hjn hj)
   rwa [q2] at this
  refine (over.sub hDED hm hs).mono ?_
  unfold bW
  rw [Nat.add_mul]
  have e1 : B * K * (E * D) = B * (E * D) * K := by ac_rfl
  have e2 : k * (k * (B * β) * (B * K)) = k * (k * (B * β) * B) * K := by ac_rfl
  rw [e1, e2]
  exact Nat.add_le_add (Nat.mul_le_mul_right _ (Nat.mul_le_mul_left _ (Nat.mul_le_mul_right _ hEβ))) (Nat.mul_le_mul_right _ (Nat.mul_le_mul hk (Nat.mul_le_mul_right _ (Nat.mul_le_mul_right _ hk))))
 ·obtain ⟨G, hG, hGb, hd⟩ := h3 i hi
  have hy : ∀ j, j < k → X i j = sg k fun l => C i l * P l j := fun j hj => by
   rw [hC i hi j (by omega)]
   exact zma fun l _ => by rw [hPM]
  have hcl : ∀ l, l < k → over (G * E) (bW n D B β * β) (C i l) := fun l hl => by
   rw [zoj hdP hy hl]
   have e : (sg k fun j => X i j * zaj k P j l) = sg k fun j => if i = j then X i i * zaj k P i l else 0 := zma fun j hj => by
    by_cases h5 : i = j
    ·subst h5; rw [if_pos rfl]
    ·rw [if_neg h5, h0 i j (by omega) hj h5, Rat.zero_mul]
   rw [e, zed (f := fun _ => X i i * zaj k P i l) hi]
   exact over.mul hd (hI' i l hi hl)
  have hGE : G * E * (D * F) ≠ 0 := Nat.mul_ne_zero (Nat.mul_ne_zero hG hE) (Nat.mul_ne_zero hD hF)
  refine ⟨G * E * (D * F), hGE, ?_, ?_⟩
  ·have e1 : G * E * (D * F) = G * (E * D) * F := by ac_rfl
   rw [e1]
   unfold bD
   exact Nat.mul_le_mul_right _ (Nat.mul_le_mul hGb (Nat.mul_le_mul_right _ hEβ))
  ·rw [hC i hi j hj]
   refine (over.sg hGE fun l hl => over.mul (hcl l hl) (hR _ _ (hσ l (by omega)) hjn hj)).mono ?_
   have e1 : k * (bW n D B β * β * (B * K)) = k * (bW n D B β * β * B) * K := by ac_rfl
   rw [e1]
   exact Nat.mul_le_mul_right _ (Nat.mul_le_mul_right _ hk)
structure slimR (n D B β F K : Nat) : Prop where
 b : dtB n B ≤ β
 d0 : D ≠ 0
 db : D ≤ B
 f0 : 1 ≤ F
 k0 : 1 ≤ K
 den : bD D β * F * (bD D β * bN n D B β * (bD D β * F)) < 2 ^ 4096
 num : bN n D B β * K * (bD D β * bN n D B β * (bD D β * F)) + bN n D B β * bD D β * (bN n D B β * K) * (bD D β * F) < 2 ^ 4096
 pw1 : (D * β * D) ^ n < 2 ^ 4096
 pw2 : (bW n D B β) ^ n < 2 ^ 4096
theorem slimE_right (hx : slimR n D B β F K) (hn : 0 < n) (hnm : n ≤ m) (hM : overT n n D B M) (hR : ∀ i j, i < n → n ≤ j → j < m → over (D * F) (B * K) (M i j)) (h : (elim false n M n).r = n) : slimE false n m n M := by
 have hD := hx.d0
 have hDB := hx.db
 have hF : F ≠ 0 := by have := hx.f0; omega
 have hB : 0 < B := by omega
 have hβ0 : 0 < β := Nat.lt_of_lt_of_le (dtB_pos hB n) hx.b
 have hD1 : 0 < D := by omega
 have hBD : D * β * D ≤ bD D β := Nat.le_mul_of_pos_right _ (Nat.mul_pos hβ0 hD1)
 have hBD1 : 0 < bD D β := Nat.lt_of_lt_of_le (Nat.mul_pos (Nat.mul_pos hD1 hβ0) hD1) hBD
 have hW1 : 0 < bW n D B β := by unfold bW; exact Nat.lt_of_lt_of_le (Nat.mul_pos hB (Nat.mul_pos hβ0 hD1)) (Nat.le_add_right _ _)
 have hWN : bW n D B β ≤ bN n D B β := Nat.le_add_right _ _
 have hN1 : 0 < bN n D B β := Nat.lt_of_lt_of_le hW1 hWN
 have hden := hx.den
 have hnum := hx.num
 have hDF : bD D β ≤ bD D β * F := Nat.le_mul_of_pos_right _ hx.f0
 have hNK : bN n D B β ≤ bN n D B β * K := Nat.le_mul_of_pos_right _ hx.k0
 have hMA : overT n m (D * F) (B * F * K) M := fun i j hi hj => by
  rcases Nat.lt_or_ge j n with h1 | h1
  ·have h2 := over.scale (m := F) hF (hM i j hi h1)
   exact h2.mono (Nat.le_mul_of_pos_right _ hx.k0)
  ·exact (hR i j hi h1 hj).mono (Nat.mul_le_mul_right _ (Nat.le_mul_of_pos_right _ hx.f0))
 have hall := zgl (β := dtB n (B * F * K)) (Nat.mul_ne_zero hD hF) (Nat.le_trans (Nat.mul_le_mul_right _ hDB) (Nat.le_mul_of_pos_right _ hx.k0)) hnm (Nat.le_refl _) hMA h
 have hpiv := zgl hD hDB (Nat.le_refl n) hx.b hM h
 have elA : ∀ k, k ≤ n → (∀ i j, i < n → j < n → ∃ G, G ≠ 0 ∧ G ≤ bD D β ∧ over G (bN n D B β) ((elim false n M k).A i j)) := fun k hk i j hi hj => by
  have hc := hpiv k hk
  obtain ⟨u1, u2, _⟩ := zxc h k hk
  obtain ⟨s1, s2⟩ := hc.sizes hD hDB hk (Nat.le_refl n) (Nat.le_trans (zkn hB hk) hx.b) hM u1 u2
  rcases Nat.lt_or_ge i k with h1 | h1
  ·obtain ⟨G, g1, g2, g3⟩ := s2 i j h1 hj
   exact ⟨G, g1, g2, g3.mono (Nat.le_add_left _ _)⟩
  ·obtain ⟨G, g1, g2, g3⟩ := s1 i j h1 hi hj
   exact ⟨G, g1, Nat.le_trans g2 hBD, g3.mono hWN⟩
 have el : ∀ k, k ≤ n → (∀ i j, i < n → j < m → ∃ G, G ≠ 0 ∧ G ≤ bD D β * F ∧ over G (bN n D B β * K) ((elim false n M k).A i j)) := fun k hk i j hi hj => by
  rcases Nat.lt_or_ge j n with h1 | h1
  ·obtain ⟨G, g1, g2, g3⟩ := elA k hk i j hi h1
   exact ⟨G, g1, Nat.le_trans g2 hDF, g3.mono hNK⟩
  ·obtain ⟨u1, u2, _⟩ := zxc h k hk
   obtain ⟨s1, s2⟩ := (hall k hk).sizesR hD hDB hF hk hnm (Nat.le_trans (zkn hB hk) hx.b) hM hR (hpiv k hk).2 u1 u2
   rcases Nat.lt_or_ge i k with h2 | h2
   ·obtain ⟨G, g1, g2, g3⟩ := s2 i j h2 h1 hj
    exact ⟨G, g1, g2, g3.mono (Nat.mul_le_mul_right _ (Nat.le_add_left _ _))⟩
   ·obtain ⟨G, g1, g2, g3⟩ := s1 i j h2 hi h1 hj
    exact ⟨G, g1, Nat.le_trans g2 (Nat.mul_le_mul_right _ hBD), g3.mono (Nat.mul_le_mul_right _ hWN)⟩
 obtain ⟨D2, hD2⟩ : ∃ x, bD D β * F = x := ⟨_, rfl⟩
 obtain ⟨N2, hN2⟩ : ∃ x, bN n D B β * K = x := ⟨_, rfl⟩
 rw [hD2] at hden hnum hDF el
 rw [hN2] at hnum hNK el
 have hD2p : 0 < D2 := by omega
 have hN2p : 0 < N2 := by omega
 have hP1 : D2 ≤ bD D β * bN n D B β * D2 := Nat.le_mul_of_pos_left _ (Nat.mul_pos hBD1 hN1)
 have hP2 : D2 ≤ D2 * (bD D β * bN n D B β * D2) := Nat.le_mul_of_pos_right _ (by omega)
 have hP3 : N2 ≤ N2 * (bD D β * bN n D B β * D2) := Nat.le_mul_of_pos_right _ (by omega)
 have dd : ∀ k, k ≤ n → ∃ G, G ≠ 0 ∧ G < 2 ^ 4096 ∧ ∃ K, K < 2 ^ 4096 ∧ over G K (elim false n M k).d := fun k hk => by
  have hc := hpiv k hk
  obtain ⟨u1, u2, u3⟩ := zxc h k hk
  obtain ⟨G, g1, g2, g3⟩ := over_pr k hc.2
  have q1 : (D * β * D) ^ k ≤ (D * β * D) ^ n := Nat.pow_le_pow_right (Nat.mul_pos (Nat.mul_pos hD1 hβ0) hD1) hk
  have q2 : (bW n D B β) ^ k ≤ (bW n D B β) ^ n := Nat.pow_le_pow_right hW1 hk
  refine ⟨G, g1, Nat.lt_of_le_of_lt (Nat.le_trans g2 q1) hx.pw1, _, Nat.lt_of_le_of_lt q2 hx.pw2, ?_⟩
  rw [u3]
  rcases sgs_pm n M k with e | e
  ·rw [e, Rat.one_mul]; exact g3
  ·rw [e, show (-1 : Rat) * pr k (fun i => (elim false n M k).A i i) = -pr k (fun i => (elim false n M k).A i i) by grind]; exact over.neg g3
 intro k hk
 refine ⟨fun a b ha hb => ?_, ?_, fun hkn => ?_⟩
 ·obtain ⟨G, g1, g2, g3⟩ := el k hk a b ha hb
  exact g3.fits g1 (by omega) (by omega)
 ·obtain ⟨G, g1, g2, K, g3, g4⟩ := dd k hk
  exact g4.fits g1 g3 g2
 ·intro hlt
  have hrk := zfl h (k := k) hk
  have hge := zlk n k (elim false n M k)
  have hpn := pvt_ne (zme false n M k).1 hlt
  refine ⟨?_, ?_, fun i hi hact => ?_⟩
  ·obtain ⟨G, g1, g2, K, g3, g4⟩ := dd k hk
   exact (over.neg g4).fits g1 g3 g2
  ·obtain ⟨G, g1, g2, K, g3, g4⟩ := dd (k + 1) hkn
   rw [elim, zof, if_pos hlt] at g4
   exact g4.fits g1 g3 g2
  ·rw [hrk] at hge hact ⊢
   have hzA : ∀ a b, a < n → b < n → ∃ G, G ≠ 0 ∧ G ≤ bD D β ∧ over G (bN n D B β) (swp (elim false n M k).A k (pvt n k (elim false n M k)) a b) := fun a b ha hb => by
    unfold swp; split
    ·exact elA k hk _ b hlt hb
    ·split
     ·exact elA k hk _ b hkn hb
     ·exact elA k hk _ b ha hb
   have hz : ∀ a b, a < n → b < m → ∃ G, G ≠ 0 ∧ G ≤ D2 ∧ over G N2 (swp (elim false n M k).A k (pvt n k (elim false n M k)) a b) := fun a b ha hb => by
    unfold swp; split
    ·exact el k hk _ b hlt hb
    ·split
     ·exact el k hk _ b hkn hb
     ·exact el k hk _ b ha hb
   have hkk : swp (elim false n M k).A k (pvt n k (elim false n M k)) k k ≠ 0 := by rw [zrj]; exact hpn
   generalize swp (elim false n M k).A k (pvt n k (elim false n M k)) = Z at *
   obtain ⟨G1, a1, a2, a3⟩ := hzA i k hi hkn
   obtain ⟨G2, b1, b2, b3⟩ := hzA k k hkn hkn
   obtain ⟨H, c1, c2, c3⟩ := over.div2 a1 b1 a3 b3 hkk
   have hH : H ≤ bD D β * bN n D B β := Nat.le_trans c2 (Nat.mul_le_mul_right _ a2)
   have hHn : bN n D B β * G2 ≤ bN n D B β * bD D β := Nat.mul_le_mul_left _ b2
   have r1 : bD D β * bN n D B β ≤ bD D β * bN n D B β * D2 := Nat.le_mul_of_pos_right _ hD2p
   have r2 : bD D β * bN n D B β * D2 ≤ D2 * (bD D β * bN n D B β * D2) := Nat.le_mul_of_pos_left _ hD2p
   have r3 : bN n D B β * bD D β ≤ bN n D B β * bD D β * N2 := Nat.le_mul_of_pos_right _ hN2p
   have r4 : bN n D B β * bD D β * N2 ≤ bN n D B β * bD D β * N2 * D2 := Nat.le_mul_of_pos_right _ hD2p
   refine ⟨c3.fits c1 (by omega) (by omega), fun j hj hkj => ?_⟩
   obtain ⟨G3, d1, d2, d3⟩ := hz k j hkn hj
   obtain ⟨G4, e1, e2, e3⟩ := hz i j hi hj
   have m1 := over.mul c3 d3
   have hm1 : H * G3 ≠ 0 := Nat.mul_ne_zero c1 d1
   have hm2 : H * G3 ≤ bD D β * bN n D B β * D2 := Nat.mul_le_mul hH d2
   have hm3 : bN n D B β * G2 * N2 ≤ bN n D B β * bD D β * N2 := Nat.mul_le_mul_right _ hHn
   refine ⟨m1.fits hm1 (by omega) (by omega), ?_⟩
   have m2 := over.sub2 e1 hm1 e3 m1
   have hm4 : G4 * (H * G3) ≤ D2 * (bD D β * bN n D B β * D2) := Nat.mul_le_mul e2 hm2
   have hm5 : N2 * (H * G3) ≤ N2 * (bD D β * bN n D B β * D2) := Nat.mul_le_mul_left _ hm2
   have hm6 : bN n D B β * G2 * N2 * G4 ≤ bN n D B β * bD D β * N2 * D2 := Nat.mul_le_mul hm3 e2
   exact m2.fits (Nat.mul_ne_zero e1 hm1) (by omega) (by omega)
end
end Go.Proofs.YtlpdkbmmbdfoiaaGreat
