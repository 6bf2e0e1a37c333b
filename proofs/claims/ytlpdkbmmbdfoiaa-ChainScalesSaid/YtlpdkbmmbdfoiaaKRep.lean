/-
  How the values of this program read in memory: slices as abstract values, natural numbers as lists of limbs. No program is named here.
-/
import Derived.Test.YtlpdkbmmbdfoiaaKDt3
import Derived.Test.YtlpdkbmmbdfoiaaKRat
import Derived.WalkKit
import Derived.WalkSpells
import Derived.WalkLawsBesides
import Derived.Deep.QuietTactic
import Derived.BigQuiet
import Derived.Lib.Hide
set_option linter.unusedVariables false
set_option linter.unusedSimpArgs false
namespace Go.Proofs.Ytlpdkbmmbdfoiaa
def zga (m : Nat) (A B : Mx) : Mx := fun i j => if j < m then A i j else B i (j - m)
theorem ztd {m : Nat} {A B : Mx} {i j : Nat} (h : j < m) : zga m A B i j = A i j := by unfold zga; rw [if_pos h]
theorem zgd {m : Nat} {A B : Mx} {i j : Nat} : zga m A B i (m + j) = B i j := by unfold zga; rw [if_neg (by omega), show m + j - m = j by omega]
theorem dt_beside {n : Nat} (A B : Mx) : dt n (zga n A B) = dt n A := zoc fun a b _ hb => ztd hb
theorem zye {n : Nat} {A B : Mx} (h : dt n A ≠ 0) : (elim false n (zga n A B) n).r = n := by
 have h1 := (elim_dt (M := zga n A B) (n := n)).2
 rw [dt_beside] at h1
 rcases Nat.lt_or_ge (elim false n (zga n A B) n).r n with h2 | h2
 ·exact absurd (h1 h2) h
 ·have := (zsd false n (zga n A B) n).1; omega
theorem rank_less {n : Nat} {A B : Mx} (h : dt n A = 0) : (elim false n (zga n A B) n).r < n := by
 have h1 := (elim_dt (M := zga n A B) (n := n)).1
 rw [dt_beside] at h1
 have := (zsd false n (zga n A B) n).1
 rcases Nat.lt_or_ge (elim false n (zga n A B) n).r n with h2 | h2
 ·exact h2
 ·exact absurd h (h1 (by omega)).2
theorem sg_split (n c : Nat) (f : Nat → Rat) : sg (n + c) f = sg n f + sg c fun j => f (n + j) := by
 induction c with
 | zero => rw [Nat.add_zero]; simp [sg]; grind
 | succ c ih => rw [← Nat.add_assoc, sg, ih, sg]; grind
theorem kerC (n m : Nat) (M : Mx) (y : Nat → Rat) : RowC n fun X _ => (∀ i, i < n → sg m (fun j => X i j * y j) = 0) → ∀ i, i < n → sg m (fun j => M i j * y j) = 0 where
 congr := fun X Y s h hX hY => hX fun i hi => by rw [h i hi]; exact hY i hi
 swap := fun X s a b ha hb hab hX hY => hX fun i hi => by
  by_cases h1 : i = a
  ·subst h1
   have := hY b hb
   unfold swp at this
   rw [if_neg (fun e => hab e.symm), if_pos rfl] at this
   exact this
  ·by_cases h2 : i = b
   ·subst h2
    have := hY a ha
    unfold swp at this
    rw [if_pos rfl] at this
    exact this
   ·have := hY i hi
    unfold swp at this
    rw [if_neg h1, if_neg h2] at this
    exact this
 add := fun X s i r c hi hr hir hX hY => hX fun k hk => by
  have hrr := hY r hr
  rw [zxb (fun e => hir e.symm)] at hrr
  by_cases h1 : k = i
  ·subst h1
   have h2 := hY k hk
   rw [zcc] at h2
   have e : sg m (fun j => (X k j + c * X r j) * y j) = sg m (fun j => X k j * y j) + c * sg m (fun j => X r j * y j) := by
    rw [← zqa, ← zre]
    exact zea fun j _ => by grind
   rw [e, hrr] at h2
   grind
  ·have h2 := hY k hk
   rw [zxb h1] at h2
   exact h2
theorem zbk {n c : Nat} {A B : Mx} (h : (elim false n (zga n A B) n).r = n) {q : Nat} (hq : q < c) : ∀ i, i < n →
 sg n (fun j => A i j * ((elim false n (zga n A B) n).A j (n + q) / (elim false n (zga n A B) n).A j j)) = B i q := by
 obtain ⟨h1, h2, _⟩ := znc h n (Nat.le_refl _)
 obtain ⟨T, hT⟩ : ∃ T, (elim false n (zga n A B) n).A = T := ⟨_, rfl⟩
 let y : Nat → Rat := fun j => if j < n then T j (n + q) / T j j else if j = n + q then -1 else 0
 have hk := zac (kerC n (n + c) (zga n A B) y) false (A := zga n A B) (fun h => h) n
 rw [hT] at hk h1 h2 ⊢
 have hy : ∀ Z : Mx, ∀ i, sg (n + c) (fun j => Z i j * y j) = sg n (fun j => Z i j * (T j (n + q) / T j j)) - Z i (n + q) := fun Z i => by
  rw [sg_split]
  have e1 : sg n (fun j => Z i j * y j) = sg n (fun j => Z i j * (T j (n + q) / T j j)) := zea fun j hj => by
   show Z i j * (if j < n then _ else _) = _; rw [if_pos hj]
  have e2 : sg c (fun j => Z i (n + j) * y (n + j)) = sg c (fun j => if q = j then Z i (n + j) * (-1) else 0) := zea fun j hj => by
   show Z i (n + j) * (if n + j < n then _ else if n + j = n + q then -1 else 0) = _
   rw [if_neg (by omega)]
   by_cases h5 : q = j
   ·subst h5; rw [if_pos rfl, if_pos rfl]
   ·rw [if_neg (by omega), if_neg h5]; grind
  rw [e1, e2, zqc hq]
  grind
 have hz := hk fun i hi => by
  rw [hy]
  have e : sg n (fun j => T i j * (T j (n + q) / T j j)) = sg n (fun j => if i = j then T j (n + q) else 0) := zea fun j hj => by
   by_cases h5 : i = j
   ·subst h5; rw [if_pos rfl, Rat.mul_comm, Rat.div_mul_cancel (h2 i hi)]
   ·rw [if_neg h5, h1 i j hi hj h5]; grind
  rw [e, zqc hi]; grind
 intro i hi
 have := hz i hi
 rw [hy, zgd] at this
 have e : sg n (fun j => zga n A B i j * (T j (n + q) / T j j)) = sg n (fun j => A i j * (T j (n + q) / T j j)) := zea fun j hj => by rw [ztd hj]
 rw [e] at this
 grind
def zde : Mx := fun i j => if i = j then 1 else 0
theorem invC (n : Nat) (A : Mx) : RowC n fun X _ => ∀ i j, i < n → j < n → sg n (fun l => X i (n + l) * A l j) = X i j where
 congr := fun X Y s h hX i j hi hj => by rw [← h i hi]; exact hX i j hi hj
 swap := fun X s a b ha hb hab hX i j hi hj => by
  unfold swp
  split
  ·exact hX b j hb hj
  ·split
   ·exact hX a j ha hj
   ·exact hX i j hi hj
 add := fun X s i r c hi hr hir hX k j hk hj => by
  by_cases h1 : k = i
  ·subst h1
   rw [zcc]
   have e : sg n (fun l => (X k (n + l) + c * X r (n + l)) * A l j) = sg n (fun l => X k (n + l) * A l j) + c * sg n (fun l => X r (n + l) * A l j) := by
    rw [← zqa, ← zre]
    exact zea fun l _ => by grind
   rw [e, hX k j hk hj, hX r j hr hj]
  ·rw [zxb h1]; exact hX k j hk hj
def zmk (n : Nat) (A : Mx) : Mx := fun i j => (elim false n (zga n A zde) n).A i (n + j) / (elim false n (zga n A zde) n).A i i
theorem inv_left {n : Nat} {A : Mx} (h : dt n A ≠ 0) {i j : Nat} (hi : i < n) (hj : j < n) : sg n (fun l => zmk n A i l * A l j) = zde i j := by
 have hr := zye (B := zde) h
 obtain ⟨h1, h2, _⟩ := znc hr n (Nat.le_refl _)
 have hk := zac (invC n A) false (A := zga n A zde) (fun i j hi hj => by
  rw [ztd hj]
  have e : sg n (fun l => zga n A zde i (n + l) * A l j) = sg n (fun l => if i = l then A l j else 0) := zea fun l hl => by
   rw [zgd]; unfold zde
   by_cases h5 : i = l
   ·rw [if_pos h5, if_pos h5]; grind
   ·rw [if_neg h5, if_neg h5]; grind
  rw [e, zqc hi]) n i j hi hj
 unfold zmk
 obtain ⟨T, hT⟩ : ∃ T, (elim false n (zga n A zde) n).A = T := ⟨_, rfl⟩
 rw [hT] at h1 h2 hk ⊢
 have e : sg n (fun l => T i (n + l) / T i i * A l j) = (1 / T i i) * sg n (fun l => T i (n + l) * A l j) := by
  rw [← zqa]
  exact zea fun l _ => by rw [Rat.div_def, Rat.div_def]; grind
 rw [e, hk]
 unfold zde
 by_cases h5 : i = j
 ·subst h5; rw [if_pos rfl, Rat.div_mul_cancel (h2 i hi)]
 ·rw [if_neg h5, h1 i j hi hj h5]; grind
theorem inv_right {n : Nat} {A : Mx} (h : dt n A ≠ 0) {i j : Nat} (hi : i < n) (hj : j < n) : sg n (fun l => A i l * zmk n A l j) = zde i j :=
 zbk (zye (B := zde) h) hj i hi
theorem zhh {n : Nat} {A : Mx} (h : dt n A ≠ 0) {x b : Nat → Rat} (hx : ∀ i, i < n → sg n (fun j => A i j * x j) = b i) {i : Nat} (hi : i < n) : x i = sg n (fun l => zmk n A i l * b l) := by
 have e1 : sg n (fun l => zmk n A i l * b l) = sg n (fun l => sg n (fun j => zmk n A i l * (A l j * x j))) := zea fun l hl => by rw [← hx l hl, zqa]
 rw [e1, sg_comm]
 have e2 : sg n (fun j => sg n (fun l => zmk n A i l * (A l j * x j))) = sg n (fun j => if i = j then x j else 0) := zea fun j hj => by
  have e3 : sg n (fun l => zmk n A i l * (A l j * x j)) = sg n (fun l => zmk n A i l * A l j) * x j := by
   rw [← zdc]; exact zea fun l _ => by grind
  rw [e3, inv_left h hi hj]; unfold zde
  by_cases h5 : i = j
  ·rw [if_pos h5, if_pos h5]; grind
  ·rw [if_neg h5, if_neg h5]; grind
 rw [e2, zqc hi]
theorem inv_cramer {n : Nat} {A : Mx} (h : dt n A ≠ 0) {i j : Nat} (hi : i < n) (hj : j < n) : zmk n A i j = dt n (zpb A j (zde i)) / dt n A := by
 have e : dt n (zpb A j (zde i)) = dt n (zpb A j fun b => sg n fun l => zmk n A i l * A l b) := zoc fun a b ha hb => by
  unfold zpb; split
  ·exact (inv_left h hi hb).symm
  ·rfl
 have e2 : sg n (fun l => zmk n A i l * dt n (zpb A j (A l))) = sg n (fun l => if j = l then zmk n A i l * dt n A else 0) := zea fun l hl => by
  by_cases h5 : j = l
  ·subst h5; rw [if_pos rfl, zxe]
  ·rw [if_neg h5, zrh hj hl h5 (by rw [zcc, zxb (fun e => h5 e.symm)])]; grind
 rw [e, dt_sum A hj, e2, zqc hj, Rat.mul_div_cancel h]
def zdd (m : Nat) (A B : Mx) : Mx := fun i k => sg m fun j => A i j * B j k
theorem mul_assoc (m o : Nat) (A B C : Mx) (i k : Nat) : zdd o (zdd m A B) C i k = zdd m A (zdd o B C) i k := by
 unfold zdd
 have e1 : sg o (fun j => sg m (fun l => A i l * B l j) * C j k) = sg o (fun j => sg m (fun l => A i l * (B l j * C j k))) := zea fun j _ => by
  rw [← zdc]
  exact zea fun l _ => by grind
 rw [e1, sg_comm]
 exact zea fun l _ => zqa _ _ _
theorem dt_rows {n : Nat} (c : Nat → Rat) (B : Mx) : ∀ k, k ≤ n → dt n (fun i b => if i < k then c i * B i b else B i b) = pr k c * dt n B
 | 0, _ => by
   have e : (fun (i : Nat) (b : Nat) => if i < 0 then c i * B i b else B i b) = B := by
    funext i b; rw [if_neg (by omega)]
   rw [e, pr, Rat.one_mul]
 | k + 1, hk => by
   have ih := dt_rows (n := n) c B k (by omega)
   have e : (fun (i : Nat) (b : Nat) => if i < k + 1 then c i * B i b else B i b) = zpb (fun i b => if i < k then c i * B i b else B i b) k (fun b => c k * B k b) := by
    funext i b; unfold zpb
    by_cases h1 : i = k
    ·subst h1; rw [if_pos (by omega), if_pos rfl]
    ·rw [if_neg h1]
     by_cases h2 : i < k
     ·rw [if_pos (by omega)]; show _ = if i < k then _ else _
      rw [if_pos h2]
     ·rw [if_neg (by omega)]; show _ = if i < k then _ else _
      rw [if_neg h2]
   have e2 : zpb (fun i b => if i < k then c i * B i b else B i b) k (B k) = fun i b => if i < k then c i * B i b else B i b := by
    funext i b; unfold zpb
    by_cases h1 : i = k
    ·subst h1; rw [if_pos rfl, if_neg (by omega)]
    ·rw [if_neg h1]
   rw [e, dt_scale _ (show k < n by omega), e2, ih, pr]
   grind
theorem zle {m : Nat} {X B : Mx} {Y : Mx} {i i' : Nat} (h : X i = Y i') : zdd m X B i = zdd m Y B i' := by
 funext k; unfold zdd; rw [h]
theorem mulC (n : Nat) (A B : Mx) : RowC n fun X s => dt n (zdd n A B) = s * dt n (zdd n X B) where
 congr := fun X Y s h hX => by
  rw [hX, zoc (fun a b ha _ => by rw [zle (B := B) (h a ha)])]
 swap := fun X s a b ha hb hab hX => by
  have e : zdd n (swp X a b) B = swp (zdd n X B) a b := by
   funext i; unfold swp
   by_cases h1 : i = a
   ·subst h1; rw [if_pos rfl]; exact zle (by rw [if_pos rfl])
   ·rw [if_neg h1]
    by_cases h2 : i = b
    ·subst h2; rw [if_pos rfl]; exact zle (by rw [if_neg h1, if_pos rfl])
    ·rw [if_neg h2]; exact zle (by rw [if_neg h1, if_neg h2])
  rw [hX, e, dt_swp ha hb hab]; grind
 add := fun X s i r c hi hr hir hX => by
  have e : zdd n (zpb X i fun b => X i b + c * X r b) B = zpb (zdd n X B) i fun b => zdd n X B i b + c * zdd n X B r b := by
   funext k b
   by_cases h1 : k = i
   ·subst h1
    rw [zcc]
    unfold zdd
    rw [zcc, ← zqa, ← zre]
    exact zea fun j _ => by grind
   ·rw [zxb h1]
    exact congrFun (zle (zxb h1)) b
  rw [hX, e, dt_add hi hr hir]
theorem dt_mul (n : Nat) (A B : Mx) : dt n (zdd n A B) = dt n A * dt n B := by
 have h1 := zac (mulC n A B) false (A := A) (by rw [Rat.one_mul]) n
 have h2 := zac (detC n A) false (A := A) (by rw [Rat.one_mul]) n
 rw [h1, h2]
 by_cases hr : (elim false n A n).r = n
 ·obtain ⟨h3, h4, h5⟩ := znc hr n (Nat.le_refl _)
  rw [zim (fun i j hi hj hij => h3 i j hi hj hij)]
  have e : dt n (zdd n (elim false n A n).A B) = dt n (fun i b => if i < n then (elim false n A n).A i i * B i b else B i b) := zoc fun i b hi hb => by
   rw [if_pos hi]
   unfold zdd
   have e2 : sg n (fun j => (elim false n A n).A i j * B j b) = sg n (fun j => if i = j then (elim false n A n).A i j * B j b else 0) := zea fun j hj => by
    by_cases h6 : i = j
    ·rw [if_pos h6]
    ·rw [if_neg h6, h3 i j hi hj h6]; grind
   rw [e2, zqc hi]
  rw [e, dt_rows (fun i => (elim false n A n).A i i) B n (Nat.le_refl _)]
  grind
 ·have hr2 : (elim false n A n).r < n := by have := (zsd false n A n).1; omega
  have hz0 : ∀ j, j < n → (elim false n A n).A (n - 1) j = 0 := fun j hj => zbd false n A n (n - 1) j (by omega) (by omega) hj
  rw [zmd (A := (elim false n A n).A) (r := n - 1) (by omega) hz0]
  rw [zmd (A := zdd n (elim false n A n).A B) (r := n - 1) (by omega) (fun j hj => by
   unfold zdd
   exact (zea fun l hl => by rw [hz0 l hl]; grind).trans (zyi n))]
  grind
def fac (n m s : Nat) (A : Mx) : Prop := ∃ C R : Mx, ∀ i j, i < n → j < m → A i j = zdd s C R i j
def unitIn (n m r : Nat) (A : Mx) : Prop := ∃ X Y : Mx, ∀ a b, a < r → b < r → zdd n X (zdd m A Y) a b = zde a b
theorem mul_congr {m : Nat} {A B C D : Mx} {i k i' k' : Nat} (h1 : ∀ j, j < m → A i j = C i' j) (h2 : ∀ j, j < m → B j k = D j k') : zdd m A B i k = zdd m C D i' k' :=
 zea fun j hj => by rw [h1 j hj, h2 j hj]
theorem sg_cut {s r : Nat} {f : Nat → Rat} (h : s ≤ r) (h0 : ∀ l, s ≤ l → l < r → f l = 0) : sg r f = sg s f := by
 obtain ⟨c, rfl⟩ : ∃ c, r = s + c := ⟨r - s, by omega⟩
 rw [sg_split, zea (n := c) (g := fun _ => 0) (fun j hj => h0 _ (by omega) (by omega)), zyi]
 grind
theorem dt_one (r : Nat) : dt r zde ≠ 0 := by
 rw [zim (fun i j _ _ hij => by unfold zde; rw [if_neg hij])]
 exact pr_ne fun i _ => by unfold zde; rw [if_pos rfl]; decide +kernel
theorem unit_le {n m s r : Nat} {A : Mx} (hf : fac n m s A) (hu : unitIn n m r A) : r ≤ s := by
 obtain ⟨C, R, hC⟩ := hf
 obtain ⟨X, Y, hX⟩ := hu
 rcases Nat.lt_or_ge s r with h | h
 ·exfalso
  have e : dt r (zdd r (fun a l => if l < s then zdd n X C a l else 0) (fun l b => if l < s then zdd m R Y l b else 0)) = dt r zde := zoc fun a b ha hb => by
   rw [← hX a b ha hb]
   have e1 : zdd n X (zdd m A Y) a b = zdd s (zdd n X C) (zdd m R Y) a b := by
    rw [mul_assoc]
    refine mul_congr (fun _ _ => rfl) fun i hi => ?_
    rw [← mul_assoc]
    exact mul_congr (fun j hj => hC i j hi hj) fun _ _ => rfl
   rw [e1]
   unfold zdd
   rw [sg_cut (Nat.le_of_lt h) (fun l h1 h2 => by dsimp only; rw [if_neg (by omega), Rat.zero_mul])]
   exact zea fun l hl => by dsimp only; rw [if_pos hl, if_pos hl]
  rw [dt_mul, zmd (A := fun l b => if l < s then zdd m R Y l b else 0) (r := r - 1) (by omega) (fun j hj => if_neg (by omega)), Rat.mul_zero] at e
  exact dt_one r e.symm
 ·exact h
def trM (A : Mx) : Mx := fun i j => A j i
theorem fac_tr {n m s : Nat} {A : Mx} (h : fac n m s A) : fac m n s (trM A) := by
 obtain ⟨C, R, e⟩ := h
 refine ⟨trM R, trM C, fun i j hi hj => ?_⟩
 show A j i = _
 rw [e j i hj hi]
 exact zea fun l _ => Rat.mul_comm _ _
theorem unit_tr {n m r : Nat} {A : Mx} (h : unitIn n m r A) : unitIn m n r (trM A) := by
 obtain ⟨X, Y, e⟩ := h
 refine ⟨trM Y, trM X, fun a b ha hb => ?_⟩
 have e1 : zde a b = zde b a := by
  unfold zde
  by_cases h : a = b
  ·rw [if_pos h, if_pos h.symm]
  ·rw [if_neg h, if_neg (fun e => h e.symm)]
 rw [e1, ← e b a hb ha, ← mul_assoc]
 unfold zdd trM
 refine zea fun j _ => ?_
 rw [Rat.mul_comm]
 refine congrArg (X b j * ·) (zea fun i _ => Rat.mul_comm _ _)
theorem facC (n m t : Nat) (A : Mx) : RowC n fun X _ => fac n m t X → fac n m t A where
 congr := fun X Y s h hX hY => hX (by
  obtain ⟨C, R, e⟩ := hY
  exact ⟨C, R, fun i j hi hj => by rw [h i hi]; exact e i j hi hj⟩)
 swap := fun X s a b ha hb hab hX hY => hX (by
  obtain ⟨C, R, e⟩ := hY
  refine ⟨swp C a b, R, fun i j hi hj => ?_⟩
  have key : ∀ i', i' < n → swp X a b i' = X i → swp C a b i = C i' → X i j = zdd t (swp C a b) R i j := fun i' hi' h1 h2 => by
   rw [← h1, e i' j hi' hj]
   exact (congrFun (zle h2) j).symm
  by_cases h1 : i = a
  ·subst h1
   exact key b hb (by unfold swp; rw [if_neg (fun e => hab e.symm), if_pos rfl]) (by unfold swp; rw [if_pos rfl])
  ·by_cases h2 : i = b
   ·subst h2
    exact key a ha (by unfold swp; rw [if_pos rfl]) (by unfold swp; rw [if_neg h1, if_pos rfl])
   ·exact key i hi (by unfold swp; rw [if_neg h1, if_neg h2]) (by unfold swp; rw [if_neg h1, if_neg h2]))
 add := fun X s i r c hi hr hir hX hY => hX (by
  obtain ⟨C, R, e⟩ := hY
  refine ⟨zpb C i fun l => C i l - c * C r l, R, fun k j hk hj => ?_⟩
  have er := e r j hr hj
  rw [zxb (fun e => hir e.symm)] at er
  by_cases h1 : k = i
  ·subst h1
   have ek := e k j hk hj
   rw [zcc] at ek
   have e2 : zdd t (zpb C k fun l => C k l - c * C r l) R k j = zdd t C R k j + (-c) * zdd t C R r j := by
    unfold zdd
    rw [zcc, ← zqa, ← zre]
    exact zea fun l _ => by grind
   rw [e2, ← ek, ← er]
   grind
  ·have ek := e k j hk hj
   rw [zxb h1] at ek
   rw [ek]
   exact (congrFun (zle (zxb h1)) j).symm)
theorem combC (n m : Nat) (A : Mx) : RowC n fun X _ => ∃ E : Mx, ∀ i j, i < n → j < m → X i j = zdd n E A i j where
 congr := fun X Y s h hX => by
  obtain ⟨E, e⟩ := hX
  exact ⟨E, fun i j hi hj => by rw [← h i hi]; exact e i j hi hj⟩
 swap := fun X s a b ha hb hab hX => by
  obtain ⟨E, e⟩ := hX
  refine ⟨swp E a b, fun i j hi hj => ?_⟩
  have key : ∀ i', i' < n → swp X a b i = X i' → swp E a b i = E i' → swp X a b i j = zdd n (swp E a b) A i j := fun i' hi' h1 h2 => by
   rw [h1, e i' j hi' hj]
   exact (congrFun (zle h2) j).symm
  by_cases h1 : i = a
  ·subst h1
   exact key b hb (by unfold swp; rw [if_pos rfl]) (by unfold swp; rw [if_pos rfl])
  ·by_cases h2 : i = b
   ·subst h2
    exact key a ha (by unfold swp; rw [if_neg h1, if_pos rfl]) (by unfold swp; rw [if_neg h1, if_pos rfl])
   ·exact key i hi (by unfold swp; rw [if_neg h1, if_neg h2]) (by unfold swp; rw [if_neg h1, if_neg h2])
 add := fun X s i r c hi hr hir hX => by
  obtain ⟨E, e⟩ := hX
  refine ⟨zpb E i fun l => E i l + c * E r l, fun k j hk hj => ?_⟩
  by_cases h1 : k = i
  ·subst h1
   rw [zcc, e k j hk hj, e r j hr hj]
   unfold zdd
   rw [zcc, ← zqa, ← zre]
   exact zea fun l _ => by grind
  ·rw [zxb h1, e k j hk hj]
   exact (congrFun (zle (zxb h1)) j).symm
theorem elim_pivs (n : Nat) (A : Mx) : ∀ k, ∃ p : Nat → Nat, ∀ l, l < (elim false n A k).r → p l < k ∧ (elim false n A k).A l (p l) ≠ 0 ∧ ∀ i, i < n → i ≠ l → (elim false n A k).A i (p l) = 0
 | 0 => ⟨fun _ => 0, fun l hl => absurd hl (by simp [elim])⟩
 | k + 1 => by
   obtain ⟨p, hp⟩ := elim_pivs n A k
   have hrn := (zsd false n A k).1
   have hge := zkj n k (elim false n A k)
   rw [elim, zse]
   by_cases hlt : pvt n k (elim false n A k) < n
   ·have hpn := pvt_ne hrn hlt
    rw [if_pos hlt]
    dsimp only
    generalize pvt n k (elim false n A k) = a at *
    generalize (elim false n A k).r = r at *
    generalize (elim false n A k).A = S at *
    refine ⟨fun l => if l < r then p l else k, fun l hl => ?_⟩
    by_cases hlr : l < r
    ·obtain ⟨h1, h2, h3⟩ := hp l hlr
     simp only [if_pos hlr]
     have hun : ∀ i, zyh false (swp S r a) r k i (p l) = swp S r a i (p l) := fun i => by
      unfold zyh; rw [if_neg (fun h => by omega)]
     refine ⟨by omega, ?_, fun i hi hil => ?_⟩
     ·rw [hun]; unfold swp; rw [if_neg (by omega), if_neg (by omega)]; exact h2
     ·rw [hun]; unfold swp; split
      ·exact h3 a hlt (by omega)
      ·split
       ·exact h3 r (by omega) (by omega)
       ·exact h3 i hi hil
    ·obtain rfl : l = r := by omega
     simp only [if_neg hlr]
     have hkk : swp S l a l k ≠ 0 := by rw [zti]; exact hpn
     refine ⟨by omega, ?_, fun i hi hil => ?_⟩
     ·rw [zhf (fun h => h.1 rfl)]; exact hkk
     ·unfold zyh
      by_cases hz : swp S l a i k = 0
      ·rw [if_neg (fun h => h.1.2.2 hz)]; exact hz
      ·rw [if_pos ⟨⟨hil, (fun z => by cases z.1), hz⟩, Nat.le_refl _⟩, Rat.div_mul_cancel hkk]; grind
   ·rw [if_neg hlt]
    exact ⟨p, fun l hl => by obtain ⟨h1, h2, h3⟩ := hp l hl; exact ⟨by omega, h2, h3⟩⟩
theorem zlh (n m : Nat) (A : Mx) : (elim true n A m).r = (elim false n A m).r := (zil (A := A) (M := A) (n := n) (m := m) true false (fun _ _ _ _ => rfl) m (Nat.le_refl _)).1
theorem rank_fac (n m : Nat) (A : Mx) : fac n m (elim false n A m).r A := by
 refine zac (facC n m (elim false n A m).r A) false (A := A) (fun h => h) m ⟨zde, (elim false n A m).A, fun i j hi hj => ?_⟩
 unfold zdd zde
 by_cases h : i < (elim false n A m).r
 ·have e : sg (elim false n A m).r (fun l => (if i = l then (1 : Rat) else 0) * (elim false n A m).A l j) = sg (elim false n A m).r (fun l => if i = l then (elim false n A m).A l j else 0) := zea fun l _ => by
   by_cases h1 : i = l
   ·rw [if_pos h1, if_pos h1, Rat.one_mul]
   ·rw [if_neg h1, if_neg h1, Rat.zero_mul]
  rw [e, zqc h]
 ·rw [zbd false n A m i j (by omega) hi hj]
  exact (zyi _).symm.trans (zea fun l hl => by rw [if_neg (by omega), Rat.zero_mul])
theorem rank_unit (n m : Nat) (A : Mx) : unitIn n m (elim false n A m).r A := by
 obtain ⟨E, hE⟩ := zac (combC n m A) false (A := A) ⟨zde, fun i j hi hj => by
  unfold zdd zde
  have e : sg n (fun l => (if i = l then (1 : Rat) else 0) * A l j) = sg n (fun l => if i = l then A l j else 0) := zea fun l _ => by
   by_cases h1 : i = l
   ·rw [if_pos h1, if_pos h1, Rat.one_mul]
   ·rw [if_neg h1, if_neg h1, Rat.zero_mul]
  rw [e, zqc hi]⟩ m
 obtain ⟨p, hp⟩ := elim_pivs n A m
 have hrn := (zsd false n A m).1
 generalize (elim false n A m).r = r at *
 generalize (elim false n A m).A = T at *
 refine ⟨E, fun j b => if p b = j then 1 / T b (p b) else 0, fun a b ha hb => ?_⟩
 rw [← mul_assoc]
 obtain ⟨h1, h2, h3⟩ := hp b hb
 have e1 : zdd m (zdd n E A) (fun j b => if p b = j then 1 / T b (p b) else 0) a b = sg m (fun j => if p b = j then T a j * (1 / T b (p b)) else 0) := zea fun j hj => by
  rw [← hE a j (by omega) hj]
  dsimp only
  by_cases h4 : p b = j
  ·rw [if_pos h4, if_pos h4]
  ·rw [if_neg h4, if_neg h4, Rat.mul_zero]
 rw [e1, zqc h1 (fun j => T a j * (1 / T b (p b)))]
 unfold zde
 by_cases h5 : a = b
 ·subst h5
  rw [if_pos rfl, Rat.mul_comm, Rat.div_mul_cancel h2]
 ·rw [if_neg h5, h3 a (by omega) h5, Rat.zero_mul]
theorem rank_uniq {n m s : Nat} {A : Mx} (hf : fac n m s A) (hu : unitIn n m s A) : (elim true n A m).r = s := by
 rw [zlh]
 have h1 := unit_le (rank_fac n m A) hu
 have h2 := unit_le hf (rank_unit n m A)
 omega
theorem rank_tr (n m : Nat) (A : Mx) : (elim true m (trM A) n).r = (elim true n A m).r := by
 rw [zlh n m]
 exact rank_uniq (fac_tr (rank_fac n m A)) (unit_tr (rank_unit n m A))
theorem rank_det (n : Nat) (A : Mx) : (elim true n A n).r = n ↔ dt n A ≠ 0 := by
 rw [zlh]
 have h := elim_dt (M := A) (n := n)
 have hr := (zsd false n A n).1
 constructor
 ·exact fun e => (h.1 e).2
 ·intro e
  rcases Nat.lt_or_ge (elim false n A n).r n with h1 | h1
  ·exact absurd (h.2 h1) e
  ·omega
theorem rightC (n : Nat) (C : Rat) : RowC n fun B s => C = s * dt n (fun i j => B i (n + j)) where
 congr := fun X Y s h hX => by rw [hX, zoc (fun a b ha _ => by rw [h a ha])]
 swap := fun X s a b ha hb hab hX => by
  have e : (fun i j => swp X a b i (n + j)) = swp (fun i j => X i (n + j)) a b := by
   funext i j; unfold swp; split
   ·rfl
   ·split <;> rfl
  rw [hX, e, dt_swp ha hb hab]; grind
 add := fun X s i r c hi hr hir hX => by
  have e : (fun a j => zpb X i (fun b => X i b + c * X r b) a (n + j)) = zpb (fun i j => X i (n + j)) i (fun b => X i (n + b) + c * X r (n + b)) := by
   funext a j; unfold zpb; split <;> rfl
  rw [hX, e]
  rw [dt_add (A := fun i j => X i (n + j)) hi hr hir c]
theorem ker_of_dt {n : Nat} {A : Mx} (h : dt n A = 0) : ∃ c : Nat → Rat, (∃ l, l < n ∧ c l ≠ 0) ∧ ∀ i, i < n → sg n (fun l => A i l * c l) = 0 := by
 have hT : dt n (trM A) = 0 := by
  by_cases h1 : dt n (trM A) = 0
  ·exact h1
  ·have h2 := (rank_det n (trM A)).2 h1
   rw [rank_tr] at h2
   exact absurd h ((rank_det n A).1 h2)
 have hr := rank_less (B := zde) hT
 have hl := zbd false n (zga n (trM A) zde) n
 have hk := zac (invC n (trM A)) false (A := zga n (trM A) zde) (fun i j hi hj => by
  rw [ztd hj]
  have e : sg n (fun l => zga n (trM A) zde i (n + l) * trM A l j) = sg n (fun l => if i = l then trM A l j else 0) := zea fun l hl => by
   rw [zgd]; unfold zde
   by_cases h5 : i = l
   ·rw [if_pos h5, if_pos h5]; grind
   ·rw [if_neg h5, if_neg h5]; grind
  rw [e, zqc hi]) n
 have hd := zac (rightC n (dt n zde)) false (A := zga n (trM A) zde) (by
  have e : dt n (fun i j => zga n (trM A) zde i (n + j)) = dt n zde := zoc fun a b _ _ => zgd
  rw [e, Rat.one_mul]) n
 generalize (elim false n (zga n (trM A) zde) n).A = X at *
 generalize (elim false n (zga n (trM A) zde) n).r = r at *
 refine ⟨fun l => X (n - 1) (n + l), ?_, fun i hi => ?_⟩
 ·apply Classical.byContradiction
  intro hno
  have hz : ∀ j, j < n → (fun i j => X i (n + j)) (n - 1) j = 0 := fun j hj => by
   by_cases h5 : X (n - 1) (n + j) = 0
   ·exact h5
   ·exact absurd ⟨j, hj, h5⟩ hno
  rw [zmd (A := fun i j => X i (n + j)) (show n - 1 < n by omega) hz, Rat.mul_zero] at hd
  exact dt_one n hd
 ·have h1 := hk (n - 1) i (by omega) hi
  rw [hl (n - 1) i (by omega) (by omega) hi] at h1
  rw [← h1]
  exact zea fun l _ => by unfold trM; exact Rat.mul_comm _ _
theorem sg_le {n : Nat} {f g : Nat → Rat} (h : ∀ i, i < n → f i ≤ g i) : sg n f ≤ sg n g := by
 induction n with
 | zero => exact Rat.le_refl
 | succ n ih => rw [sg, sg]; have := ih fun i hi => h i (by omega); have := h n (by omega); grind
theorem sg_lt {n : Nat} {f g : Nat → Rat} (h : ∀ i, i < n → f i ≤ g i) {k : Nat} (hk : k < n) (hlt : f k < g k) : sg n f < sg n g := by
 induction n with
 | zero => omega
 | succ n ih =>
   rw [sg, sg]
   have h1 := sg_le (n := n) fun i hi => h i (by omega)
   have h2 := h n (by omega)
   by_cases e : k = n
   ·subst e; grind
   ·have := ih (fun i hi => h i (by omega)) (by omega); grind
theorem max_at {x : Nat → Rat} : ∀ {n : Nat}, 0 < n → ∃ i, i < n ∧ ∀ j, j < n → x j ≤ x i
 | 1, _ => ⟨0, by omega, fun j hj => by obtain rfl : j = 0 := by omega
                                        exact Rat.le_refl⟩
 | n + 2, _ => by
   obtain ⟨i, h1, h2⟩ := max_at (x := x) (n := n + 1) (by omega)
   by_cases h : x (n + 1) ≤ x i
   ·refine ⟨i, by omega, fun j hj => ?_⟩
    by_cases e : j = n + 1
    ·subst e; exact h
    ·exact h2 j (by omega)
   ·refine ⟨n + 1, by omega, fun j hj => ?_⟩
    by_cases e : j = n + 1
    ·subst e; exact Rat.le_refl
    ·have := h2 j (by omega); grind
def esc (n : Nat) (r : Mx) (o : Nat → Rat) : Nat → Nat → Prop
 | 0, i => sg n (r i) < o i
 | k + 1, i => esc n r o k i ∨ ∃ j, j < n ∧ 0 < r i j ∧ esc n r o k j
section
variable {n : Nat} {r : Mx} {o : Nat → Rat}
theorem mm_max (hr : ∀ i j, i < n → j < n → 0 ≤ r i j) (ho : ∀ i, i < n → sg n (r i) ≤ o i) (he : ∀ i, i < n → ∃ k, esc n r o k i) {x : Nat → Rat} (hx : ∀ i, i < n → o i * x i ≤ sg n fun j => r i j * x j) : ∀ i, i < n → x i ≤ 0 := by
 intro i0 hi0
 obtain ⟨im, h1, h2⟩ := max_at (x := x) (n := n) (by omega)
 by_cases hm : x im ≤ 0
 ·have := h2 i0 hi0; grind
 ·exfalso
  have hpos : 0 < x im := Rat.not_le.1 hm
  obtain ⟨m, hmx⟩ : ∃ m, x im = m := ⟨_, rfl⟩
  rw [hmx] at h2 hpos
  have key : ∀ i, i < n → x i = m → (sg n fun j => r i j * x j) ≤ sg n (r i) * m ∧ o i * m ≤ sg n fun j => r i j * x j := fun i hi hxi => by
   refine ⟨?_, by have := hx i hi; rwa [hxi] at this⟩
   rw [← zdc]
   exact sg_le fun j hj => Rat.mul_le_mul_of_nonneg_left (h2 j hj) (hr i j hi hj)
  have no : ∀ k i, i < n → x i = m → ¬ esc n r o k i := by
   intro k
   induction k with
   | zero =>
     intro i hi hxi h
     obtain ⟨k1, k2⟩ := key i hi hxi
     have h3 : sg n (r i) * m < o i * m := Rat.mul_lt_mul_of_pos_right h hpos
     grind
   | succ k ih =>
     intro i hi hxi h
     rcases h with h | ⟨j, hj, hrj, h⟩
     ·exact ih i hi hxi h
     ·obtain ⟨k1, k2⟩ := key i hi hxi
      refine ih j hj ?_ h
      have h4 := h2 j hj
      by_cases h5 : x j = m
      ·exact h5
      ·exfalso
       have h6 : x j < m := by grind
       have h7 : (sg n fun j => r i j * x j) < sg n (r i) * m := by
        rw [← zdc]
        exact sg_lt (fun j hj => Rat.mul_le_mul_of_nonneg_left (h2 j hj) (hr i j hi hj)) hj (Rat.mul_lt_mul_of_pos_left h6 hrj)
       have h8 : sg n (r i) * m ≤ o i * m := Rat.mul_le_mul_of_nonneg_right (ho i hi) (Rat.le_of_lt hpos)
       grind
  obtain ⟨k, hk⟩ := he im h1
  exact no k im h1 hmx hk
def mmA (r : Mx) (o : Nat → Rat) : Mx := fun i j => if i = j then o i else -r i j
theorem mmA_row (hd : ∀ i, i < n → r i i = 0) {i : Nat} (hi : i < n) (x : Nat → Rat) : sg n (fun j => mmA r o i j * x j) = o i * x i - sg n fun j => r i j * x j := by
 have e : sg n (fun j => mmA r o i j * x j) = sg n (fun j => (if i = j then o i * x i else 0) + (-1) * (r i j * x j)) := zea fun j hj => by
  unfold mmA
  by_cases h : i = j
  ·subst h; rw [if_pos rfl, if_pos rfl, hd i hi]; grind
  ·rw [if_neg h, if_neg h]; grind
 rw [e, zre, zqa, zqc (f := fun _ => o i * x i) hi]
 grind
theorem mm_dt (hd : ∀ i, i < n → r i i = 0) (hr : ∀ i j, i < n → j < n → 0 ≤ r i j) (ho : ∀ i, i < n → sg n (r i) ≤ o i) (he : ∀ i, i < n → ∃ k, esc n r o k i) : dt n (mmA r o) ≠ 0 := by
 intro h
 obtain ⟨c, ⟨l, hl, hc⟩, hz⟩ := ker_of_dt h
 have e : ∀ i, i < n → o i * c i = sg n fun j => r i j * c j := fun i hi => by
  have := hz i hi
  rw [mmA_row hd hi] at this
  grind
 have h1 := mm_max hr ho he (x := c) (fun i hi => by rw [e i hi]; exact Rat.le_refl) l hl
 have h2 := mm_max hr ho he (x := fun j => (-1) * c j) (fun i hi => by
  have e2 : sg n (fun j => r i j * ((-1) * c j)) = (-1) * sg n (fun j => r i j * c j) := by
   rw [← zqa]; exact zea fun j _ => by grind
  rw [e2, ← e i hi]
  have : o i * ((-1) * c i) = (-1) * (o i * c i) := by grind
  rw [this]; exact Rat.le_refl) l hl
 have h3 : c l = 0 := by grind
 exact hc h3
end
theorem sg_zero' {n : Nat} {f : Nat → Rat} (h : ∀ i, i < n → f i = 0) : sg n f = 0 := by
 induction n with
 | zero => rfl
 | succ n ih => show sg n f + f n = 0; rw [ih (fun i hi => h i (by omega)), h n (by omega), Rat.add_zero]
theorem zvi : ∀ {l : List Nat} {n : Nat}, l.Pairwise (· < ·) → (∀ x, x ∈ l → x < n + 1) → n ∈ l → ∃ l', l = l' ++ [n] ∧ (∀ x, x ∈ l' → x < n)
 | [], n, _, _, h => by simp at h
 | x :: l, n, hp, hb, h => by
   rw [List.pairwise_cons] at hp
   by_cases hn : n ∈ l
   ·obtain ⟨l', e, hl⟩ := zvi hp.2 (fun y hy => hb y (by simp [hy])) hn
    refine ⟨x :: l', by rw [e]; rfl, fun y hy => ?_⟩
    rcases List.mem_cons.1 hy with rfl | hy
    ·exact hp.1 n hn
    ·exact hl y hy
   ·rcases List.mem_cons.1 h with rfl | h
    ·cases l with
     | nil => exact ⟨[], rfl, fun y hy => by simp at hy⟩
     | cons y l =>
       have h1 := hp.1 y (by simp)
       have h2 := hb y (by simp)
       omega
    ·exact absurd h hn
theorem getD_app_lt {l : List Nat} {x i : Nat} (h : i < l.length) : (l ++ [x]).getD i 0 = l.getD i 0 := by
 rw [List.getD_eq_getElem?_getD, List.getD_eq_getElem?_getD, List.getElem?_append_left h]
theorem getD_app_eq {l : List Nat} {x : Nat} : (l ++ [x]).getD l.length 0 = x := by
 rw [List.getD_eq_getElem?_getD, List.getElem?_append_right (Nat.le_refl _)]; simp
theorem zzi : ∀ {n : Nat} {l : List Nat} {f : Nat → Rat}, l.Pairwise (· < ·) → (∀ x, x ∈ l → x < n) → (∀ t, t < n → t ∉ l → f t = 0) → sg n f = sg l.length fun i => f (l.getD i 0)
 | 0, l, f, _, hb, _ => by
   cases l with
   | nil => rfl
   | cons x l => have := hb x (by simp); omega
 | n + 1, l, f, hp, hb, h0 => by
   by_cases hn : n ∈ l
   ·obtain ⟨l', rfl, hl⟩ := zvi hp hb hn
    have hp' := (List.pairwise_append.1 hp).1
    have ih := zzi (f := f) hp' hl (fun t ht htl => h0 t (by omega) (by simp; exact ⟨htl, by omega⟩))
    show sg n f + f n = _
    rw [List.length_append]
    show _ = sg l'.length _ + f ((l' ++ [n]).getD l'.length 0)
    rw [getD_app_eq, ih]
    congr 1
    exact zea fun i hi => by rw [getD_app_lt hi]
   ·have hb' : ∀ x, x ∈ l → x < n := fun x hx => by
     have := hb x hx
     have : x ≠ n := fun e => hn (e ▸ hx)
     omega
    have ih := zzi (f := f) hp hb' (fun t ht htl => h0 t (by omega) htl)
    show sg n f + f n = _
    rw [h0 n (by omega) hn, Rat.add_zero, ih]
end Go.Proofs.Ytlpdkbmmbdfoiaa
namespace Go.Proofs.Ytlpdkbmmbdfoiaa
theorem zH {p : Prop} (h : p) : Go.RowKit.Hid p := h
open Go.RowKit
def base : Value → Addr
 | .slice (some a) _ _ => a
 | _ => ⟨0, 0, none⟩
def ptr (v : Value) (k : Nat) : Addr := (base v).add k
theorem add_add (a : Addr) (j k : Nat) : (a.add j).add k = a.add (j + k) := by
 unfold Addr.add
 by_cases hj : j = 0 <;> by_cases hk : k = 0 <;> simp [hj, hk]
 omega
theorem ptr_add (v : Value) (j k : Nat) : (ptr v j).add k = ptr v (j + k) := add_add _ _ _
theorem zfa (v : Value) (k : Nat) : (ptr v k).block = (base v).block := by
 unfold ptr Addr.add; split <;> rfl
def slen : Value → Nat
 | .slice _ n _ => n
 | _ => 0
def scap : Value → Nat
 | .slice _ _ c => c
 | _ => 0
def IsSl (v : Value) : Prop :=
 ∃ a n cap, v = .slice a n cap ∧ n ≤ cap ∧ cap ≤ maxLen ∧ (a = none → cap = 0)
theorem IsSl.nil : IsSl (.slice none 0 0) := ⟨none, 0, 0, rfl, Nat.le_refl _, by simp [maxLen], fun _ => rfl⟩
theorem IsSl.le {v : Value} (h : IsSl v) : slen v ≤ scap v ∧ scap v ≤ 9223372036854775807 := by
 obtain ⟨a, n, cap, rfl, h1, h2, _⟩ := h; simp [maxLen] at h2; simp [slen, scap]; omega
def tk (v : Value) (n : Nat) : Value := match v with
 | .slice a _ cap => .slice a n cap
 | v => v
def tk3 (v : Value) (n : Nat) : Value := match v with
 | .slice a _ _ => .slice a n n
 | v => v
def cut (size : Nat) (v : Value) (lo hi : Nat) : Value := match v with
 | .slice a _ cap => .slice (if cap = lo then a else a.map (·.add (lo * size))) (hi - lo) (cap - lo)
 | v => v
theorem IsSl.tk {v : Value} {m : Nat} (h : IsSl v) (hm : m ≤ scap v) : IsSl (tk v m) := by
 obtain ⟨a, n, cap, rfl, h1, h2, h3⟩ := h; exact ⟨a, m, cap, rfl, hm, h2, h3⟩
theorem IsSl.tk3 {v : Value} {m : Nat} (h : IsSl v) (hm : m ≤ scap v) : IsSl (tk3 v m) := by
 obtain ⟨a, n, cap, rfl, h1, h2, h3⟩ := h; simp only [scap] at hm; exact ⟨a, m, m, rfl, Nat.le_refl _, by omega, fun e => by have := h3 e; omega⟩
theorem IsSl.cut {v : Value} {size lo hi : Nat} (h : IsSl v) (hl : lo ≤ hi) (hh : hi ≤ scap v) : IsSl (cut size v lo hi) := by
 obtain ⟨a, n, cap, rfl, h1, h2, h3⟩ := h
 simp only [scap] at hh
 refine ⟨_, _, cap - lo, rfl, by omega, by omega, fun e => ?_⟩
 split at e
 ·omega
 ·have : a = none := by cases a <;> simp_all
  have := h3 this; omega
theorem IsSl.slen_tk {v : Value} (h : IsSl v) (m : Nat) : slen (Go.Proofs.Ytlpdkbmmbdfoiaa.tk v m) = m := by obtain ⟨a, n, cap, rfl, _⟩ := h; rfl
theorem IsSl.slen_tk3 {v : Value} (h : IsSl v) (m : Nat) : slen (Go.Proofs.Ytlpdkbmmbdfoiaa.tk3 v m) = m := by obtain ⟨a, n, cap, rfl, _⟩ := h; rfl
theorem IsSl.slen_cut {v : Value} (h : IsSl v) (size lo hi : Nat) : slen (Go.Proofs.Ytlpdkbmmbdfoiaa.cut size v lo hi) = hi - lo := by obtain ⟨a, n, cap, rfl, _⟩ := h; rfl
@[simp] theorem base_tk (v : Value) (m : Nat) : base (tk v m) = base v := by cases v <;> first | rfl | (rename_i a n c; cases a <;> rfl)
@[simp] theorem base_tk3 (v : Value) (m : Nat) : base (tk3 v m) = base v := by cases v <;> first | rfl | (rename_i a n c; cases a <;> rfl)
@[simp, go_sem] theorem ptr_tk (v : Value) (m k : Nat) : ptr (tk v m) k = ptr v k := by simp [ptr]
@[simp, go_sem] theorem ptr_tk3 (v : Value) (m k : Nat) : ptr (tk3 v m) k = ptr v k := by simp [ptr]
theorem zlj {v : Value} {size lo hi k : Nat} (h : IsSl v) (hh : lo < scap v) : ptr (cut size v lo hi) k = ptr v (lo * size + k) := by
 obtain ⟨a, n, cap, rfl, h1, h2, h3⟩ := h
 simp only [scap] at hh
 cases a with
 | none => have := h3 rfl; omega
 | some a =>
   simp only [cut, ptr]
   rw [if_neg (by omega)]
   simp only [base, Option.map_some, add_add]
section
variable {P : Program} (w : World)
@[go_sem ↓] theorem run_len_sl {t ty : TypeId} {v : Value} (h : IsSl v) (ht : P.underlying t = some (.slice (P.elem t))) :
 (Builtin.len_ #[t] ty #[v]).run P w = .ok (.int .i64 (slen v)) w := by
  obtain ⟨a, n, cap, rfl, _⟩ := h
  simp [Builtin.len_, run_underlying ht, goInt, slen]
@[go_sem ↓] theorem run_index_sl {t : TypeId} {v : Value} {i : Int} (h : IsSl v) (ht : P.underlying t = some (.slice (P.elem t))) :
 (Instr.indexAt t v (.int .i64 i)).run P w =
  if 0 ≤ i ∧ i < slen v then ((sizeOf (P.elem t)).run P w).andThen fun s w => .ok (.pointer (some (ptr v (i.toNat * s)))) w
  else (boundsPanic .i64 i (slen v) .index).run P w := by
  obtain ⟨a, n, cap, rfl, hn, _, h3⟩ := h
  cases a with
  | none =>
    have := h3 rfl
    obtain rfl : n = 0 := by omega
    rw [if_neg (by simp only [slen]; omega)]
    simp [Instr.indexAt, run_underlying ht, asIntOf, slen]
  | some a =>
    by_cases hc : 0 ≤ i ∧ i < ((slen (.slice (some a) n cap) : Nat) : Int)
    ·have hc' : 0 ≤ i ∧ i < (n : Int) := hc
     rw [if_pos hc]; simp [Instr.indexAt, run_underlying ht, asIntOf, hc', ptr, base]
    ·have hc' : ¬ (0 ≤ i ∧ i < (n : Int)) := hc
     rw [if_neg hc]; simp [Instr.indexAt, run_underlying ht, asIntOf, hc', slen]
@[go_sem ↓] theorem run_slice_tk {t : TypeId} {v : Value} {m : Int} (h : IsSl v) (ht : P.underlying t = some (.slice (P.elem t))) (h0 : 0 ≤ m) (h1 : m ≤ scap v) :
 (Instr.slice t v none (some (.int .i64 m)) none).run P w = ((sizeOf (P.elem t)).run P w).andThen fun _ w => .ok (tk v m.toNat) w := by
  obtain ⟨a, n, cap, rfl, hn, _, h3⟩ := h
  simp only [scap] at h1
  simp [Instr.slice, run_underlying ht, Instr.sliceBounds, Instr.sliceBound, asIntOf, h0, h1, tk]
  cases a <;> simp [Addr.add]
@[go_sem ↓] theorem run_slice_tk3 {t : TypeId} {v : Value} {m : Int} (h : IsSl v) (ht : P.underlying t = some (.slice (P.elem t))) (h0 : 0 ≤ m) (h1 : m ≤ scap v) :
 (Instr.slice t v none (some (.int .i64 m)) (some (.int .i64 m))).run P w = ((sizeOf (P.elem t)).run P w).andThen fun _ w => .ok (tk3 v m.toNat) w := by
  obtain ⟨a, n, cap, rfl, hn, _, h3⟩ := h
  simp only [scap] at h1
  have e : (m.toNat : Int) = m := Int.toNat_of_nonneg h0
  simp [Instr.slice, run_underlying ht, Instr.sliceBounds, Instr.sliceBound, asIntOf, h0, h1, e, tk3]
  cases a <;> simp [Addr.add]
def sliceElse (P : Program) (w : World) (t : TypeId) (v : Value) (lo hi : Value) : Result Value := (Instr.slice t v (some lo) (some hi) none).run P w
@[go_sem ↓] theorem run_slice_cut {t : TypeId} {v : Value} {lo hi : Int} (h : IsSl v) (ht : P.underlying t = some (.slice (P.elem t))) :
 (Instr.slice t v (some (.int .i64 lo)) (some (.int .i64 hi)) none).run P w =
  if 0 ≤ lo ∧ lo ≤ hi ∧ hi ≤ scap v then ((sizeOf (P.elem t)).run P w).andThen fun s w => .ok (cut s v lo.toNat hi.toNat) w else sliceElse P w t v (.int .i64 lo) (.int .i64 hi) := by
  obtain ⟨a, n, cap, rfl, hn, _, h3⟩ := h
  by_cases hc : 0 ≤ lo ∧ lo ≤ hi ∧ hi ≤ (scap (.slice a n cap) : Int)
  ·have hc' := hc
   obtain ⟨h0, h1, h2⟩ := hc'
   simp only [scap] at h2
   rw [if_pos hc]
   have e : (hi.toNat : Int) = hi := Int.toNat_of_nonneg (by omega)
   have h00 : 0 ≤ hi := by omega
   simp [Instr.slice, run_underlying ht, Instr.sliceBounds, Instr.sliceBound, asIntOf, h0, h1, h00, h2, e, cut]
  ·rw [if_neg hc]; rfl
@[go_sem ↓] theorem run_sliceAt_any {t : TypeId} {v : Value} {lo hi mx : Option Value} (h : P.underlying t = some (.slice (P.elem t))) :
 (Instr.sliceAt t v lo hi mx).run P w = (Instr.slice t v lo hi mx).run P w := by
  simp [Instr.sliceAt, run_underlying h]
end
theorem below_drewN {B : Nat} (w : World) (k : Nat) : Below B w (w.drewN k) := ⟨rfl, rfl, rfl, Nat.le_refl _, fun _ _ => rfl⟩
structure NatV (w : World) (v : Value) (l : List Nat) : Prop where
 sl : IsSl v
 len : slen v = l.length
 cell : ∀ (j : Nat) (h : j < l.length), w.cell? (ptr v j) = some (.int .u32 (l[j] : Nat))
 lm : Lm l
theorem NatV.nil (w : World) : NatV w (.slice none 0 0) [] := ⟨IsSl.nil, rfl, fun j h => by simp at h, fun x h => by simp at h⟩
theorem NatV.below {w w' : World} {v : Value} {l : List Nat} (h : NatV w v l) (hb : Below w.heap.size w w') : NatV w' v l :=
 ⟨h.sl, h.len, fun j hj => by
  have hc := h.cell j hj
  have hlt := World.block_lt_of_cell? w _ hc
  rw [hb.cell hlt]; exact hc, h.lm⟩
theorem NatV.tk {w : World} {v : Value} {l : List Nat} (h : NatV w v l) (n : Nat) (hn : n ≤ l.length) : NatV w (tk v n) (l.take n) := by
 have e : (l.take n).length = n := by simp; omega
 have := h.sl.le
 have := h.len
 refine ⟨h.sl.tk (by omega), by rw [e]; exact h.sl.slen_tk n, fun j hj => ?_, fun x hx => h.lm x (List.mem_of_mem_take hx)⟩
 have := h.cell j (by omega)
 simp [this]
theorem NatV.tk3 {w : World} {v : Value} {l : List Nat} (h : NatV w v l) (n : Nat) (hn : n ≤ l.length) : NatV w (tk3 v n) (l.take n) := by
 have e : (l.take n).length = n := by simp; omega
 have := h.sl.le
 have := h.len
 refine ⟨h.sl.tk3 (by omega), by rw [e]; exact h.sl.slen_tk3 n, fun j hj => ?_, fun x hx => h.lm x (List.mem_of_mem_take hx)⟩
 have := h.cell j (by omega)
 simp [this]
theorem NatV.cut {w : World} {v : Value} {l : List Nat} (h : NatV w v l) (lo hi : Nat) (hl : lo ≤ hi) (hh : hi ≤ l.length) : NatV w (cut 1 v lo hi) ((l.drop lo).take (hi - lo)) := by
 have e : ((l.drop lo).take (hi - lo)).length = hi - lo := by simp; omega
 have := h.sl.le
 have := h.len
 refine ⟨h.sl.cut hl (by omega), by rw [e]; exact h.sl.slen_cut 1 lo hi, fun j hj => ?_, fun x hx => h.lm x (List.mem_of_mem_drop (List.mem_of_mem_take hx))⟩
 rw [zlj h.sl (by omega), Nat.mul_one, h.cell (lo + j) (by omega)]
 simp
theorem NatV.lt {w : World} {v : Value} {l : List Nat} (h : NatV w v l) (j : Nat) (hj : j < l.length) : l[j] < 4294967296 := h.lm _ (List.getElem_mem hj)
end Go.Proofs.Ytlpdkbmmbdfoiaa
