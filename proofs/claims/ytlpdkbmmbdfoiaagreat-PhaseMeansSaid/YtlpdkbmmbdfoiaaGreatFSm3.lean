/-
  Elimination of a system with a determinant other than 0: its numbers are quotients of minors, and so of a moderate size. No program is named here.
-/
import Derived.Test.YtlpdkbmmbdfoiaaGreatFDt1
import Derived.Test.YtlpdkbmmbdfoiaaGreatFEl2
set_option linter.unusedVariables false
namespace Go.Proofs.YtlpdkbmmbdfoiaaGreat
theorem fp_congr {y z : Nat → Bool} (f r : Nat) (h : ∀ i, r ≤ i → i < r + f → y i = z i) : fp y f r = fp z f r := by
 induction f generalizing r with
 | zero => rfl
 | succ f ih => rw [fp, fp, h r (Nat.le_refl _) (by omega), ih (r + 1) (fun i h1 h2 => h i (by omega) (by omega))]
theorem ztm {n m : Nat} {A M : Mx} (b c : Bool) (h : ∀ i j, i < n → j < m → A i j = M i j) : ∀ k, k ≤ m →
 (elim b n A k).r = (elim c n M k).r ∧ (elim b n A k).d = (elim c n M k).d ∧ ∀ i j, (elim b n A k).r ≤ i → i < n → j < m → (elim b n A k).A i j = (elim c n M k).A i j
 | 0, _ => ⟨rfl, rfl, fun i j _ hi hj => h i j hi hj⟩
 | k + 1, hk => by
   obtain ⟨h1, h2, h3⟩ := ztm b c h k (by omega)
   have hr := (zue b n A k).1
   rw [elim, elim]
   obtain ⟨⟨X, r, d⟩, hX⟩ : ∃ S, elim b n A k = S := ⟨_, rfl⟩
   obtain ⟨⟨Y, s, e⟩, hY⟩ : ∃ S, elim c n M k = S := ⟨_, rfl⟩
   rw [hX, hY] at h1 h2 h3
   rw [hX] at hr
   rw [hX, hY]
   dsimp only at h1 h2 h3 hr
   subst h1 h2
   have hp : pvt n k ⟨X, r, d⟩ = pvt n k ⟨Y, r, d⟩ := fp_congr _ _ fun i hi1 hi2 => by
    have hi2 : i < r + (n - r) := hi2
    have hi1 : r ≤ i := hi1
    show decide (X i k ≠ 0) = decide (Y i k ≠ 0)
    rw [h3 i k hi1 (by omega) (by omega)]
   unfold zzf
   rw [hp]
   have hge : r ≤ pvt n k ⟨Y, r, d⟩ := zvk n k ⟨Y, r, d⟩
   by_cases hlt : pvt n k ⟨Y, r, d⟩ < n
   ·rw [if_pos hlt, if_pos hlt]
    dsimp only
    generalize pvt n k ⟨Y, r, d⟩ = a at *
    have hsw : ∀ i j, r ≤ i → i < n → j < m → swp X r a i j = swp Y r a i j := fun i j hi hin hj => by
     unfold swp
     split
     ·exact h3 a j hge hlt hj
     ·split
      ·exact h3 r j (Nat.le_refl _) (by omega) hj
      ·exact h3 i j hi hin hj
    refine ⟨rfl, ?_, fun i j hi hin hj => ?_⟩
    ·rw [hsw r k (Nat.le_refl _) (by omega) (by omega)]
    ·have hi' : r < i := hi
     unfold znj
     rw [hsw i j (by omega) hin hj, hsw i k (by omega) hin (by omega), hsw r k (Nat.le_refl _) (by omega) (by omega), hsw r j (Nat.le_refl _) (by omega) hj]
     have he : act b (swp X r a) r k i ↔ act c (swp Y r a) r k i := by
      unfold act
      rw [hsw i k (by omega) hin (by omega)]
      exact ⟨fun ⟨p, q, s⟩ => ⟨p, fun z => by omega, s⟩, fun ⟨p, q, s⟩ => ⟨p, fun z => by omega, s⟩⟩
     by_cases hact : act c (swp Y r a) r k i ∧ k ≤ j
     ·rw [if_pos hact, if_pos ⟨he.2 hact.1, hact.2⟩]
     ·rw [if_neg hact, if_neg (fun hh => hact ⟨he.1 hh.1, hh.2⟩)]
   ·rw [if_neg hlt, if_neg hlt]
    exact ⟨rfl, rfl, h3⟩
theorem hA_self {A : Mx} {a r : Nat} (h : a = r) : swp A r a = A := by
 subst h; funext i; unfold swp; split
 ·next h => rw [h]
 ·rfl
structure RowC (n : Nat) (P : Mx → Rat → Prop) : Prop where
 congr : ∀ A B s, (∀ i, i < n → A i = B i) → P A s → P B s
 swap : ∀ A s a b, a < n → b < n → a ≠ b → P A s → P (swp A a b) (-s)
 add : ∀ A s i r c, i < n → r < n → i ≠ r → P A s → P (zoc A i fun b => A i b + c * A r b) s
def sgs (b : Bool) (n : Nat) (A : Mx) : Nat → Rat
 | 0 => 1
 | k + 1 => if pvt n k (elim b n A k) < n then (if pvt n k (elim b n A k) = (elim b n A k).r then sgs b n A k else -sgs b n A k) else sgs b n A k
theorem zyd (b : Bool) (n : Nat) (A : Mx) : ∀ k i j, (elim b n A k).r ≤ i → i < n → j < k → (elim b n A k).A i j = 0
 | 0, i, j, _, _, hj => by omega
 | k + 1, i, j, hi, hin, hj => by
   have ih := zyd b n A k
   rw [elim, zzf] at hi ⊢
   by_cases hlt : pvt n k (elim b n A k) < n
   ·rw [if_pos hlt] at hi ⊢
    dsimp only at hi ⊢
    have hge := zvk n k (elim b n A k)
    have hpn := pvt_ne (zue b n A k).1 hlt
    generalize pvt n k (elim b n A k) = a at *
    have hs : ∀ i j, (elim b n A k).r ≤ i → i < n → j < k → swp (elim b n A k).A (elim b n A k).r a i j = 0 := fun i j h1 h2 h3 => by
     unfold swp; split
     ·exact ih a j hge hlt h3
     ·split
      ·exact ih _ j (Nat.le_refl _) (by omega) h3
      ·exact ih i j h1 h2 h3
    unfold znj
    by_cases hjk : j < k
    ·rw [if_neg (by omega)]; exact hs i j (by omega) hin hjk
    ·obtain rfl : j = k := by omega
     by_cases hz : swp (elim b n A j).A (elim b n A j).r a i j = 0
     ·rw [if_neg (fun h => h.1.2.2 hz)]; exact hz
     ·have hact : act b (swp (elim b n A j).A (elim b n A j).r a) (elim b n A j).r j i := ⟨by omega, fun z => by omega, hz⟩
      rw [if_pos ⟨hact, Nat.le_refl _⟩]
      by_cases hp : swp (elim b n A j).A (elim b n A j).r a (elim b n A j).r j = 0
      ·exfalso
       rw [zek] at hp
       exact hpn hp
      ·rw [Rat.div_mul_cancel hp]; grind
   ·rw [if_neg hlt] at hi ⊢
    rcases Nat.lt_or_ge j k with h | h
    ·exact ih i j hi hin h
    ·obtain rfl : j = k := by omega
     have hall := fp_before (fun i => decide ((elim b n A j).A i j ≠ 0)) (n - (elim b n A j).r) (elim b n A j).r i hi (by unfold pvt at hlt; omega)
     simpa using hall
theorem redP_succ {b : Bool} {A : Mx} {r k e : Nat} (h0 : ∀ j, j < k → A r j = 0) (he : e ≠ r) :
 ∃ c, zzg b A r k (e + 1) = zoc (zzg b A r k e) e (fun j => zzg b A r k e e j + c * zzg b A r k e r j) := by
 by_cases hact : act b A r k e
 ·refine ⟨-(A e k / A r k), ?_⟩
  rw [zpk, zuj]
  funext a j
  unfold zzg zoc
  by_cases h1 : a = e
  ·subst h1
   rw [if_pos (by omega), if_pos rfl]
   unfold znj
   by_cases h2 : k ≤ j
   ·rw [if_pos ⟨hact, h2⟩]; grind
   ·rw [if_neg (fun h => h2 h.2), h0 j (by omega)]; grind
  ·rw [if_neg h1]
   show _ = if a < e then znj b A r k a j else A a j
   by_cases h2 : a < e
   ·rw [if_pos h2, if_pos (show a < e + 1 by omega)]
   ·rw [if_neg h2, if_neg (show ¬ a < e + 1 by omega)]
 ·refine ⟨0, ?_⟩
  rw [zsh hact]
  have e1 : (fun j => zzg b A r k e e j + 0 * zzg b A r k e r j) = zzg b A r k e e := by funext j; grind
  rw [e1, zdg]
theorem redu_kept {n : Nat} {P : Mx → Rat → Prop} (hP : RowC n P) {b : Bool} {A : Mx} {r k : Nat} {s : Rat} (hr : r < n) (h0 : ∀ j, j < k → A r j = 0) (h : P A s) : P (znj b A r k) s := by
 have key : ∀ e, e ≤ n → P (zzg b A r k e) s := by
  intro e
  induction e with
  | zero => intro _; rw [redP_zero]; exact h
  | succ e ih =>
    intro he
    by_cases her : e = r
    ·rw [zsh (fun ha => ha.1 her)]; exact ih (by omega)
    ·obtain ⟨c, hc⟩ := redP_succ (b := b) h0 her
     rw [hc]
     exact hP.add _ s e r c (by omega) hr her (ih (by omega))
 refine hP.congr _ _ s (fun i hi => ?_) (key n (Nat.le_refl _))
 funext j
 exact redP_all i j hi
theorem zbd {n : Nat} {P : Mx → Rat → Prop} (hP : RowC n P) (b : Bool) {A : Mx} (h : P A 1) : ∀ k, P (elim b n A k).A (sgs b n A k)
 | 0 => h
 | k + 1 => by
   have ih := zbd hP b h k
   have hl := zyd b n A k
   have hrn := (zue b n A k).1
   rw [elim, zzf, sgs]
   by_cases hlt : pvt n k (elim b n A k) < n
   ·rw [if_pos hlt, if_pos hlt]
    dsimp only
    have hge := zvk n k (elim b n A k)
    generalize pvt n k (elim b n A k) = a at *
    have hr : (elim b n A k).r < n := by omega
    have hsw : P (swp (elim b n A k).A (elim b n A k).r a) (if a = (elim b n A k).r then sgs b n A k else -sgs b n A k) := by
     by_cases ha : a = (elim b n A k).r
     ·rw [if_pos ha, hA_self ha]; exact ih
     ·rw [if_neg ha]; exact hP.swap _ _ _ _ hr hlt (fun e => ha e.symm) ih
    refine redu_kept hP hr (fun j hj => ?_) hsw
    rw [zek]
    exact hl a j hge hlt hj
   ·rw [if_neg hlt, if_neg hlt]; exact ih
theorem elim_full {b : Bool} {n : Nat} {M : Mx} (h : (elim b n M n).r = n) : ∀ j, j ≤ n → (elim b n M (n - j)).r = n - j
 | 0, _ => by rw [Nat.sub_zero]; exact h
 | j + 1, hj => by
   have ih := elim_full h j (by omega)
   have h1 := (zue b n M (n - (j + 1))).2
   rw [show n - j = (n - (j + 1)) + 1 by omega, elim, zzf] at ih
   split at ih
   ·have : (elim b n M (n - (j + 1))).r + 1 = n - (j + 1) + 1 := ih
    omega
   ·have : (elim b n M (n - (j + 1))).r = n - (j + 1) + 1 := ih
    omega
theorem zol {b : Bool} {n : Nat} {M : Mx} (h : (elim b n M n).r = n) {k : Nat} (hk : k ≤ n) : (elim b n M k).r = k := by
 have := elim_full h (n - k) (by omega)
 rwa [show n - (n - k) = k by omega] at this
theorem zad {n : Nat} {M : Mx} (h : (elim false n M n).r = n) : ∀ k, k ≤ n →
 (∀ i j, i < n → j < k → i ≠ j → (elim false n M k).A i j = 0) ∧ (∀ j, j < k → (elim false n M k).A j j ≠ 0) ∧ (elim false n M k).d = sgs false n M k * pr k fun i => (elim false n M k).A i i
 | 0, _ => ⟨fun i j _ hj => by omega, fun j hj => by omega, by simp [elim, sgs, pr]⟩
 | k + 1, hk => by
   obtain ⟨h1, h2, h3⟩ := zad h k (by omega)
   have hrk := zol h (k := k) (by omega)
   have hrk1 := zol h hk
   have hl := zyd false n M k
   rw [elim, zzf] at hrk1
   rw [elim, zzf, sgs]
   have hlt : pvt n k (elim false n M k) < n := by
    by_cases h5 : pvt n k (elim false n M k) < n
    ·exact h5
    ·rw [if_neg h5, hrk] at hrk1; omega
   rw [if_pos hlt, if_pos hlt]
   dsimp only
   have hge := zvk n k (elim false n M k)
   have hpn := pvt_ne (zue false n M k).1 hlt
   generalize pvt n k (elim false n M k) = a at *
   rw [hrk] at hge hl ⊢
   obtain ⟨S, hS⟩ : ∃ S, (elim false n M k).A = S := ⟨_, rfl⟩
   rw [hS] at h1 h2 h3 hl hpn ⊢
   have hkk : swp S k a k k ≠ 0 := by rw [zek]; exact hpn
   have hsl : ∀ i j, i < n → j < k → i ≠ j → swp S k a i j = 0 := fun i j hi hj hij => by
    unfold swp; split
    ·exact hl a j hge hlt hj
    ·split
     ·exact hl k j (Nat.le_refl _) (by omega) hj
     ·exact h1 i j hi hj hij
   have hsd : ∀ j, j < k → swp S k a j j = S j j := fun j hj => by
    unfold swp; rw [if_neg (by omega), if_neg (by omega)]
   have hdg : ∀ j, j < k → znj false (swp S k a) k k j j = S j j := fun j hj => by
    unfold znj; rw [if_neg (fun h => by omega), hsd j hj]
   have hdk : znj false (swp S k a) k k k k = swp S k a k k := by rw [zpg (fun h => h.1 rfl)]
   refine ⟨fun i j hi hj hij => ?_, fun j hj => ?_, ?_⟩
   ·unfold znj
    by_cases hjk : j < k
    ·rw [if_neg (fun h => by omega)]; exact hsl i j hi hjk hij
    ·obtain rfl : j = k := by omega
     by_cases hz : swp S j a i j = 0
     ·rw [if_neg (fun h => h.1.2.2 hz)]; exact hz
     ·rw [if_pos ⟨⟨hij, (fun z => by cases z.1), hz⟩, Nat.le_refl _⟩, Rat.div_mul_cancel hkk]; grind
   ·by_cases hjk : j < k
    ·rw [hdg j hjk]; exact h2 j hjk
    ·obtain rfl : j = k := by omega
     rw [hdk]; exact hkk
   ·rw [pr, hdk]
    have e : (pr k fun i => znj false (swp S k a) k k i i) = pr k fun i => S i i := pr_congr fun i hi => hdg i hi
    rw [e, h3]
    split
    ·exact Rat.mul_assoc _ _ _
    ·grind
theorem detC (n : Nat) (A : Mx) : RowC n fun B s => dt n A = s * dt n B where
 congr := fun X Y s h hX => by rw [hX, zcd (fun a b ha _ => by rw [h a ha])]
 swap := fun X s a b ha hb hab hX => by rw [hX, dt_swp ha hb hab]; grind
 add := fun X s i r c hi hr hir hX => by rw [hX, dt_add hi hr hir]
theorem sgs_sq (b : Bool) (n : Nat) (M : Mx) : ∀ k, sgs b n M k * sgs b n M k = 1
 | 0 => by simp [sgs]
 | k + 1 => by
   have := sgs_sq b n M k
   rw [sgs]
   split
   ·split
    ·exact this
    ·grind
   ·exact this
theorem zme {n : Nat} {A : Mx} {r : Nat} (hr : r < n) (h : ∀ j, j < n → A r j = 0) : dt n A = 0 := by
 rw [← dt_zero (A := A) hr]
 refine zcd fun a b ha hb => ?_
 unfold zoc; split
 ·next e => subst e; exact h b hb
 ·rfl
theorem pr_ne {n : Nat} {f : Nat → Rat} (h : ∀ i, i < n → f i ≠ 0) : pr n f ≠ 0 := by
 induction n with
 | zero => exact (by decide +kernel : (1 : Rat) ≠ 0)
 | succ n ih => rw [pr]; exact fun e => by rcases Rat.mul_eq_zero.1 e with e | e; exact ih (fun i hi => h i (by omega)) e; exact h n (by omega) e
theorem elim_dt {n : Nat} {M : Mx} : ((elim false n M n).r = n → dt n M = (elim false n M n).d ∧ dt n M ≠ 0) ∧ ((elim false n M n).r < n → dt n M = 0) := by
 have hk := zbd (detC n M) false (A := M) (by rw [Rat.one_mul]) n
 refine ⟨fun h => ?_, fun h => ?_⟩
 ·obtain ⟨h1, h2, h3⟩ := zad h n (Nat.le_refl _)
  rw [zql (fun i j hi hj hij => h1 i j hi hj hij)] at hk
  refine ⟨by rw [hk, h3], ?_⟩
  rw [hk]
  intro e
  rcases Rat.mul_eq_zero.1 e with e | e
  ·have := sgs_sq false n M n; rw [e] at this; simp at this
  ·exact pr_ne h2 e
 ·have hz := zme (n := n) (A := (elim false n M n).A) (r := n - 1) (by omega) (fun j hj => zyd false n M n (n - 1) j (by omega) (by omega) hj)
  rw [hk, hz]; grind
def zpa (m : Nat) (A B : Mx) : Mx := fun i j => if j < m then A i j else B i (j - m)
theorem zae {m : Nat} {A B : Mx} {i j : Nat} (h : j < m) : zpa m A B i j = A i j := by unfold zpa; rw [if_pos h]
theorem zfe {m : Nat} {A B : Mx} {i j : Nat} : zpa m A B i (m + j) = B i j := by unfold zpa; rw [if_neg (by omega), show m + j - m = j by omega]
theorem dt_beside {n : Nat} (A B : Mx) : dt n (zpa n A B) = dt n A := zcd fun a b _ hb => zae hb
theorem zff {n : Nat} {A B : Mx} (h : dt n A ≠ 0) : (elim false n (zpa n A B) n).r = n := by
 have h1 := (elim_dt (M := zpa n A B) (n := n)).2
 rw [dt_beside] at h1
 rcases Nat.lt_or_ge (elim false n (zpa n A B) n).r n with h2 | h2
 ·exact absurd (h1 h2) h
 ·have := (zue false n (zpa n A B) n).1; omega
theorem rank_less {n : Nat} {A B : Mx} (h : dt n A = 0) : (elim false n (zpa n A B) n).r < n := by
 have h1 := (elim_dt (M := zpa n A B) (n := n)).1
 rw [dt_beside] at h1
 have := (zue false n (zpa n A B) n).1
 rcases Nat.lt_or_ge (elim false n (zpa n A B) n).r n with h2 | h2
 ·exact h2
 ·exact absurd h (h1 (by omega)).2
theorem zbn (n c : Nat) (f : Nat → Rat) : sg (n + c) f = sg n f + sg c fun j => f (n + j) := by
 induction c with
 | zero => rw [Nat.add_zero]; simp [sg]; grind
 | succ c ih => rw [← Nat.add_assoc, sg, ih, sg]; grind
theorem kerC (n m : Nat) (M : Mx) (y : Nat → Rat) : RowC n fun X _ => (∀ i, i < n → sg m (fun j => X i j * y j) = 0) → ∀ i, i < n → sg m (fun j => M i j * y j) = 0 where
 congr := fun X Y s h hX hY => hX fun i hi => by rw [h i hi]; exact hY i hi
 swap := fun X s a b ha hb hab hX hY => hX fun i hi => by
  by_cases h1 : i = a
  ·subst h1
   have := hY b hb
   unfold swp at this
   rw [if_neg (fun e => hab e.symm), if_pos rfl] at this
   exact this
  ·by_cases h2 : i = b
   ·subst h2
    have := hY a ha
    unfold swp at this
    rw [if_pos rfl] at this
    exact this
   ·have := hY i hi
    unfold swp at this
    rw [if_neg h1, if_neg h2] at this
    exact this
 add := fun X s i r c hi hr hir hX hY => hX fun k hk => by
  have hrr := hY r hr
  rw [zvc (fun e => hir e.symm)] at hrr
  by_cases h1 : k = i
  ·subst h1
   have h2 := hY k hk
   rw [zed] at h2
   have e : sg m (fun j => (X k j + c * X r j) * y j) = sg m (fun j => X k j * y j) + c * sg m (fun j => X r j * y j) := by
    rw [← zcb, ← zvd]
    exact zma fun j _ => by grind
   rw [e, hrr] at h2
   grind
  ·have h2 := hY k hk
   rw [zvc h1] at h2
   exact h2
theorem znl {n c : Nat} {A B : Mx} (h : (elim false n (zpa n A B) n).r = n) {q : Nat} (hq : q < c) : ∀ i, i < n →
 sg n (fun j => A i j * ((elim false n (zpa n A B) n).A j (n + q) / (elim false n (zpa n A B) n).A j j)) = B i q := by
 obtain ⟨h1, h2, _⟩ := zad h n (Nat.le_refl _)
 obtain ⟨T, hT⟩ : ∃ T, (elim false n (zpa n A B) n).A = T := ⟨_, rfl⟩
 let y : Nat → Rat := fun j => if j < n then T j (n + q) / T j j else if j = n + q then -1 else 0
 have hk := zbd (kerC n (n + c) (zpa n A B) y) false (A := zpa n A B) (fun h => h) n
 rw [hT] at hk h1 h2 ⊢
 have hy : ∀ Z : Mx, ∀ i, sg (n + c) (fun j => Z i j * y j) = sg n (fun j => Z i j * (T j (n + q) / T j j)) - Z i (n + q) := fun Z i => by
  rw [zbn]
  have e1 : sg n (fun j => Z i j * y j) = sg n (fun j => Z i j * (T j (n + q) / T j j)) := zma fun j hj => by
   show Z i j * (if j < n then _ else _) = _; rw [if_pos hj]
  have e2 : sg c (fun j => Z i (n + j) * y (n + j)) = sg c (fun j => if q = j then Z i (n + j) * (-1) else 0) := zma fun j hj => by
   show Z i (n + j) * (if n + j < n then _ else if n + j = n + q then -1 else 0) = _
   rw [if_neg (by omega)]
   by_cases h5 : q = j
   ·subst h5; rw [if_pos rfl, if_pos rfl]
   ·rw [if_neg (by omega), if_neg h5]; grind
  rw [e1, e2, zfd hq]
  grind
 have hz := hk fun i hi => by
  rw [hy]
  have e : sg n (fun j => T i j * (T j (n + q) / T j j)) = sg n (fun j => if i = j then T j (n + q) else 0) := zma fun j hj => by
   by_cases h5 : i = j
   ·subst h5; rw [if_pos rfl, Rat.mul_comm, Rat.div_mul_cancel (h2 i hi)]
   ·rw [if_neg h5, h1 i j hi hj h5]; grind
  rw [e, zfd hi]; grind
 intro i hi
 have := hz i hi
 rw [hy, zfe] at this
 have e : sg n (fun j => zpa n A B i j * (T j (n + q) / T j j)) = sg n (fun j => A i j * (T j (n + q) / T j j)) := zma fun j hj => by rw [zae hj]
 rw [e] at this
 grind
def zkf : Mx := fun i j => if i = j then 1 else 0
theorem invC (n : Nat) (A : Mx) : RowC n fun X _ => ∀ i j, i < n → j < n → sg n (fun l => X i (n + l) * A l j) = X i j where
 congr := fun X Y s h hX i j hi hj => by rw [← h i hi]; exact hX i j hi hj
 swap := fun X s a b ha hb hab hX i j hi hj => by
  unfold swp
  split
  ·exact hX b j hb hj
  ·split
   ·exact hX a j ha hj
   ·exact hX i j hi hj
 add := fun X s i r c hi hr hir hX k j hk hj => by
  by_cases h1 : k = i
  ·subst h1
   rw [zed]
   have e : sg n (fun l => (X k (n + l) + c * X r (n + l)) * A l j) = sg n (fun l => X k (n + l) * A l j) + c * sg n (fun l => X r (n + l) * A l j) := by
    rw [← zcb, ← zvd]
    exact zma fun l _ => by grind
   rw [e, hX k j hk hj, hX r j hr hj]
  ·rw [zvc h1]; exact hX k j hk hj
def zoj (n : Nat) (A : Mx) : Mx := fun i j => (elim false n (zpa n A zkf) n).A i (n + j) / (elim false n (zpa n A zkf) n).A i i
theorem inv_left {n : Nat} {A : Mx} (h : dt n A ≠ 0) {i j : Nat} (hi : i < n) (hj : j < n) : sg n (fun l => zoj n A i l * A l j) = zkf i j := by
 have hr := zff (B := zkf) h
 obtain ⟨h1, h2, _⟩ := zad hr n (Nat.le_refl _)
 have hk := zbd (invC n A) false (A := zpa n A zkf) (fun i j hi hj => by
  rw [zae hj]
  have e : sg n (fun l => zpa n A zkf i (n + l) * A l j) = sg n (fun l => if i = l then A l j else 0) := zma fun l hl => by
   rw [zfe]; unfold zkf
   by_cases h5 : i = l
   ·rw [if_pos h5, if_pos h5]; grind
   ·rw [if_neg h5, if_neg h5]; grind
  rw [e, zfd hi]) n i j hi hj
 unfold zoj
 obtain ⟨T, hT⟩ : ∃ T, (elim false n (zpa n A zkf) n).A = T := ⟨_, rfl⟩
 rw [hT] at h1 h2 hk ⊢
 have e : sg n (fun l => T i (n + l) / T i i * A l j) = (1 / T i i) * sg n (fun l => T i (n + l) * A l j) := by
  rw [← zcb]
  exact zma fun l _ => by rw [Rat.div_def, Rat.div_def]; grind
 rw [e, hk]
 unfold zkf
 by_cases h5 : i = j
 ·subst h5; rw [if_pos rfl, Rat.div_mul_cancel (h2 i hi)]
 ·rw [if_neg h5, h1 i j hi hj h5]; grind
theorem inv_right {n : Nat} {A : Mx} (h : dt n A ≠ 0) {i j : Nat} (hi : i < n) (hj : j < n) : sg n (fun l => A i l * zoj n A l j) = zkf i j :=
 znl (zff (B := zkf) h) hj i hi
theorem zqi {n : Nat} {A : Mx} (h : dt n A ≠ 0) {x b : Nat → Rat} (hx : ∀ i, i < n → sg n (fun j => A i j * x j) = b i) {i : Nat} (hi : i < n) : x i = sg n (fun l => zoj n A i l * b l) := by
 have e1 : sg n (fun l => zoj n A i l * b l) = sg n (fun l => sg n (fun j => zoj n A i l * (A l j * x j))) := zma fun l hl => by rw [← hx l hl, zcb]
 rw [e1, zdn]
 have e2 : sg n (fun j => sg n (fun l => zoj n A i l * (A l j * x j))) = sg n (fun j => if i = j then x j else 0) := zma fun j hj => by
  have e3 : sg n (fun l => zoj n A i l * (A l j * x j)) = sg n (fun l => zoj n A i l * A l j) * x j := by
   rw [← znc]; exact zma fun l _ => by grind
  rw [e3, inv_left h hi hj]; unfold zkf
  by_cases h5 : i = j
  ·rw [if_pos h5, if_pos h5]; grind
  ·rw [if_neg h5, if_neg h5]; grind
 rw [e2, zfd hi]
theorem inv_cramer {n : Nat} {A : Mx} (h : dt n A ≠ 0) {i j : Nat} (hi : i < n) (hj : j < n) : zoj n A i j = dt n (zoc A j (zkf i)) / dt n A := by
 have e : dt n (zoc A j (zkf i)) = dt n (zoc A j fun b => sg n fun l => zoj n A i l * A l b) := zcd fun a b ha hb => by
  unfold zoc; split
  ·exact (inv_left h hi hb).symm
  ·rfl
 have e2 : sg n (fun l => zoj n A i l * dt n (zoc A j (A l))) = sg n (fun l => if j = l then zoj n A i l * dt n A else 0) := zma fun l hl => by
  by_cases h5 : j = l
  ·subst h5; rw [if_pos rfl, zdg]
  ·rw [if_neg h5, zej hj hl h5 (by rw [zed, zvc (fun e => h5 e.symm)])]; grind
 rw [e, dt_sum A hj, e2, zfd hj, Rat.mul_div_cancel h]
def ztd (m : Nat) (A B : Mx) : Mx := fun i k => sg m fun j => A i j * B j k
theorem mul_assoc (m o : Nat) (A B C : Mx) (i k : Nat) : ztd o (ztd m A B) C i k = ztd m A (ztd o B C) i k := by
 unfold ztd
 have e1 : sg o (fun j => sg m (fun l => A i l * B l j) * C j k) = sg o (fun j => sg m (fun l => A i l * (B l j * C j k))) := zma fun j _ => by
  rw [← znc]
  exact zma fun l _ => by grind
 rw [e1, zdn]
 exact zma fun l _ => zcb _ _ _
theorem dt_rows {n : Nat} (c : Nat → Rat) (B : Mx) : ∀ k, k ≤ n → dt n (fun i b => if i < k then c i * B i b else B i b) = pr k c * dt n B
 | 0, _ => by
   have e : (fun (i : Nat) (b : Nat) => if i < 0 then c i * B i b else B i b) = B := by
    funext i b; rw [if_neg (by omega)]
   rw [e, pr, Rat.one_mul]
 | k + 1, hk => by
   have ih := dt_rows (n := n) c B k (by omega)
   have e : (fun (i : Nat) (b : Nat) => if i < k + 1 then c i * B i b else B i b) = zoc (fun i b => if i < k then c i * B i b else B i b) k (fun b => c k * B k b) := by
    funext i b; unfold zoc
    by_cases h1 : i = k
    ·subst h1; rw [if_pos (by omega), if_pos rfl]
    ·rw [if_neg h1]
     by_cases h2 : i < k
     ·rw [if_pos (by omega)]; show _ = if i < k then _ else _
      rw [if_pos h2]
     ·rw [if_neg (by omega)]; show _ = if i < k then _ else _
      rw [if_neg h2]
   have e2 : zoc (fun i b => if i < k then c i * B i b else B i b) k (B k) = fun i b => if i < k then c i * B i b else B i b := by
    funext i b; unfold zoc
    by_cases h1 : i = k
    ·subst h1; rw [if_pos rfl, if_neg (by omega)]
    ·rw [if_neg h1]
   rw [e, dt_scale _ (show k < n by omega), e2, ih, pr]
   grind
theorem zrf {m : Nat} {X B : Mx} {Y : Mx} {i i' : Nat} (h : X i = Y i') : ztd m X B i = ztd m Y B i' := by
 funext k; unfold ztd; rw [h]
theorem mulC (n : Nat) (A B : Mx) : RowC n fun X s => dt n (ztd n A B) = s * dt n (ztd n X B) where
 congr := fun X Y s h hX => by
  rw [hX, zcd (fun a b ha _ => by rw [zrf (B := B) (h a ha)])]
 swap := fun X s a b ha hb hab hX => by
  have e : ztd n (swp X a b) B = swp (ztd n X B) a b := by
   funext i; unfold swp
   by_cases h1 : i = a
   ·subst h1; rw [if_pos rfl]; exact zrf (by rw [if_pos rfl])
   ·rw [if_neg h1]
    by_cases h2 : i = b
    ·subst h2; rw [if_pos rfl]; exact zrf (by rw [if_neg h1, if_pos rfl])
    ·rw [if_neg h2]; exact zrf (by rw [if_neg h1, if_neg h2])
  rw [hX, e, dt_swp ha hb hab]; grind
 add := fun X s i r c hi hr hir hX => by
  have e : ztd n (zoc X i fun b => X i b + c * X r b) B = zoc (ztd n X B) i fun b => ztd n X B i b + c * ztd n X B r b := by
   funext k b
   by_cases h1 : k = i
   ·subst h1
    rw [zed]
    unfold ztd
    rw [zed, ← zcb, ← zvd]
    exact zma fun j _ => by grind
   ·rw [zvc h1]
    exact congrFun (zrf (zvc h1)) b
  rw [hX, e, dt_add hi hr hir]
theorem dt_mul (n : Nat) (A B : Mx) : dt n (ztd n A B) = dt n A * dt n B := by
 have h1 := zbd (mulC n A B) false (A := A) (by rw [Rat.one_mul]) n
 have h2 := zbd (detC n A) false (A := A) (by rw [Rat.one_mul]) n
 rw [h1, h2]
 by_cases hr : (elim false n A n).r = n
 ·obtain ⟨h3, h4, h5⟩ := zad hr n (Nat.le_refl _)
  rw [zql (fun i j hi hj hij => h3 i j hi hj hij)]
  have e : dt n (ztd n (elim false n A n).A B) = dt n (fun i b => if i < n then (elim false n A n).A i i * B i b else B i b) := zcd fun i b hi hb => by
   rw [if_pos hi]
   unfold ztd
   have e2 : sg n (fun j => (elim false n A n).A i j * B j b) = sg n (fun j => if i = j then (elim false n A n).A i j * B j b else 0) := zma fun j hj => by
    by_cases h6 : i = j
    ·rw [if_pos h6]
    ·rw [if_neg h6, h3 i j hi hj h6]; grind
   rw [e2, zfd hi]
  rw [e, dt_rows (fun i => (elim false n A n).A i i) B n (Nat.le_refl _)]
  grind
 ·have hr2 : (elim false n A n).r < n := by have := (zue false n A n).1; omega
  have hz0 : ∀ j, j < n → (elim false n A n).A (n - 1) j = 0 := fun j hj => zyd false n A n (n - 1) j (by omega) (by omega) hj
  rw [zme (A := (elim false n A n).A) (r := n - 1) (by omega) hz0]
  rw [zme (A := ztd n (elim false n A n).A B) (r := n - 1) (by omega) (fun j hj => by
   unfold ztd
   exact (zma fun l hl => by rw [hz0 l hl]; grind).trans (zsi n))]
  grind
theorem dtB_pos {B : Nat} (hB : 0 < B) : ∀ n, 0 < dtB n B
 | 0 => Nat.one_pos
 | n + 1 => Nat.mul_pos (Nat.succ_pos n) (Nat.mul_pos hB (dtB_pos hB n))
theorem zun {B k n : Nat} (hB : 0 < B) (h : k ≤ n) : dtB k B ≤ dtB n B := by
 induction n with
 | zero => obtain rfl : k = 0 := by omega
           exact Nat.le_refl _
 | succ n ih =>
   by_cases hk : k = n + 1
   ·subst hk; exact Nat.le_refl _
   ·refine Nat.le_trans (ih (by omega)) ?_
    rw [dtB]
    have h1 : dtB n B ≤ B * dtB n B := Nat.le_mul_of_pos_left _ hB
    exact Nat.le_trans h1 (Nat.le_mul_of_pos_left _ (Nat.succ_pos n))
theorem over.div2 {F G N K : Nat} {p q : Rat} (hF : F ≠ 0) (hG : G ≠ 0) (hp : over F N p) (hq : over G K q) (h0 : q ≠ 0) : ∃ H, H ≠ 0 ∧ H ≤ F * K ∧ over H (N * G) (p / q) := by
 obtain ⟨z, rfl, hz⟩ := hq
 have hz0 : z ≠ 0 := over.zero' (B := K) hG h0
 have h1 := over.quo hG (over.one hG) hz0
 have h2 := over.mul hp h1
 refine ⟨F * z.natAbs, Nat.mul_ne_zero hF (by omega), Nat.mul_le_mul_left _ hz, ?_⟩
 have e : p / mkRat z G = p * (1 / mkRat z G) := by rw [Rat.div_def, Rat.div_def, Rat.one_mul]
 rw [e]; exact h2
theorem over.sub2 {F G N K : Nat} {p q : Rat} (hF : F ≠ 0) (hG : G ≠ 0) (hp : over F N p) (hq : over G K q) : over (F * G) (N * G + K * F) (p - q) := by
 have h1 := over.scale hG hp
 have h2 := over.scale hF hq
 rw [Nat.mul_comm G F] at h2
 exact over.sub (Nat.mul_ne_zero hF hG) h1 h2
theorem inv_gen {n D B : Nat} {A : Mx} (hD : D ≠ 0) (hDB : D ≤ B) (hA : ∀ i j, i < n → j < n → over D B (A i j)) (h : dt n A ≠ 0) : ∃ E, E ≠ 0 ∧ E ≤ dtB n B ∧ ∀ i j, i < n → j < n → over E (dtB n B) (zoj n A i j) := by
 obtain ⟨z, hz, hzb⟩ := dt_over (n := n) (D := D) (m := B) hD hA
 have hDn : D ^ n ≠ 0 := Nat.ne_of_gt (Nat.pow_pos (Nat.pos_of_ne_zero hD))
 have hz0 : z ≠ 0 := over.zero' (B := 0) hDn (hz ▸ h)
 refine ⟨z.natAbs, by omega, hzb, fun i j hi hj => ?_⟩
 rw [inv_cramer h hi hj, hz]
 refine over.quo hDn (dt_over hD fun a b ha hb => ?_) hz0
 unfold zoc; split
 ·unfold zkf; split
  ·exact (over.one hD).mono hDB
  ·exact over.zero _ _
 ·exact hA a b ha hb
theorem sol_gen {n D B : Nat} {A : Mx} (hD : D ≠ 0) (hDB : D ≤ B) (hA : ∀ i j, i < n → j < n → over D B (A i j)) (h : dt n A ≠ 0) {F K : Nat} (hF : F ≠ 0) {x b : Nat → Rat} (hb : ∀ i, i < n → over F K (b i)) (hx : ∀ i, i < n → sg n (fun j => A i j * x j) = b i) :
 ∃ E, E ≠ 0 ∧ E ≤ dtB n B ∧ ∀ i, i < n → over (E * F) (n * (dtB n B * K)) (x i) := by
 obtain ⟨E, hE, hEb, hI⟩ := inv_gen hD hDB hA h
 refine ⟨E, hE, hEb, fun i hi => ?_⟩
 rw [zqi h hx hi]
 exact over.sg (Nat.mul_ne_zero hE hF) fun l hl => over.mul (hI i l hi hl) (hb l hl)
theorem zbk {k : Nat} {P : Mx} (h : dt k P ≠ 0) {c y : Nat → Rat} (hy : ∀ j, j < k → y j = sg k fun l => c l * P l j) {l : Nat} (hl : l < k) : c l = sg k fun j => y j * zoj k P j l := by
 have e1 : sg k (fun j => y j * zoj k P j l) = sg k (fun j => sg k (fun t => c t * (P t j * zoj k P j l))) := zma fun j hj => by
  rw [hy j hj, ← znc]
  exact zma fun t _ => Rat.mul_assoc _ _ _
 rw [e1, zdn]
 have e2 : sg k (fun t => sg k (fun j => c t * (P t j * zoj k P j l))) = sg k (fun t => if l = t then c t else 0) := zma fun t ht => by
  rw [zcb, inv_right h ht hl]
  unfold zkf
  by_cases h5 : t = l
  ·subst h5; rw [if_pos rfl, if_pos rfl, Rat.mul_one]
  ·rw [if_neg h5, if_neg (fun e => h5 e.symm), Rat.mul_zero]
 rw [e2, zfd hl]
def bW (n D B β : Nat) : Nat := B * (β * D) + n * (n * (B * β) * B)
def bN (n D B β : Nat) : Nat := bW n D B β + n * (bW n D B β * β * B)
def bD (D β : Nat) : Nat := D * β * D * (β * D)
def zbm (n m k D β W : Nat) (M X : Mx) : Prop :=
 (∃ σ : Nat → Nat, (∀ i, i < n → σ i < n) ∧ (∀ i, k ≤ i → i < n → ∃ c : Nat → Rat, ∀ j, j < m → X i j = M (σ i) j - sg k fun l => c l * M (σ l) j) ∧ ∀ i, i < k → ∃ c : Nat → Rat, ∀ j, j < m → X i j = sg k fun l => c l * M (σ l) j) ∧
  ∀ i, i < k → ∃ G, G ≠ 0 ∧ G ≤ D * β * D ∧ over G W (X i i)
theorem zbm.start (n m D β W : Nat) (M : Mx) : zbm n m 0 D β W M M :=
 ⟨⟨id, fun i h => h, fun i _ _ => ⟨fun _ => 0, fun j _ => by simp [sg]; grind⟩, fun i h => by omega⟩, fun i h => by omega⟩
section
variable {n m k D B β : Nat} {M X : Mx}
theorem zbm.sizes (hD : D ≠ 0) (hDB : D ≤ B) (hk : k ≤ n) (hnm : n ≤ m) (hβ : dtB k B ≤ β) (hM : overT n m D B M) (h : zbm n m k D β (bW n D B β) M X)
 (h0 : ∀ i j, i < n → j < k → i ≠ j → X i j = 0) (hp : ∀ j, j < k → X j j ≠ 0) :
 (∀ i j, k ≤ i → i < n → j < m → ∃ G, G ≠ 0 ∧ G ≤ D * β * D ∧ over G (bW n D B β) (X i j)) ∧ ∀ i j, i < k → j < m → ∃ G, G ≠ 0 ∧ G ≤ bD D β ∧ over G (n * (bW n D B β * β * B)) (X i j) := by
 obtain ⟨⟨σ, hσ, h1, h2⟩, h3⟩ := h
 obtain ⟨P, hP⟩ : ∃ P : Mx, P = fun i l => M (σ i) l := ⟨_, rfl⟩
 have hPM : ∀ i l, P i l = M (σ i) l := fun i l => by rw [hP]
 obtain ⟨C, hC⟩ := Classical.axiomOfChoice (r := fun (i : Nat) (c : Nat → Rat) => i < k → ∀ j, j < m → X i j = sg k fun l => c l * M (σ l) j) (fun i => by
  by_cases hi : i < k
  ·obtain ⟨c, hc⟩ := h2 i hi; exact ⟨c, fun _ => hc⟩
  ·exact ⟨fun _ => 0, fun h => absurd h hi⟩)
 have hdP : dt k P ≠ 0 := by
  have e1 : dt k (ztd k C P) = dt k X := zcd fun a b ha hb => by
   rw [hC a ha b (by omega)]
   unfold ztd
   exact zma fun l _ => by rw [hPM]
  rw [dt_mul] at e1
  intro hz
  rw [hz, Rat.mul_zero] at e1
  rw [zql (fun i j hi hj hij => h0 i j (by omega) hj hij)] at e1
  exact pr_ne hp e1.symm
 obtain ⟨E, hE, hEb, hI⟩ := inv_gen hD hDB (fun i j hi hj => by rw [hPM]; exact hM _ _ (hσ i (by omega)) (by omega)) hdP
 have hEβ : E ≤ β := Nat.le_trans hEb hβ
 have hI' : ∀ i j, i < k → j < k → over E β (zoj k P i j) := fun i j hi hj => (hI i j hi hj).mono hβ
 have hDED : D * E * D ≠ 0 := Nat.mul_ne_zero (Nat.mul_ne_zero hD hE) hD
 refine ⟨fun i j hki hi hj => ?_, fun i j hi hj => ?_⟩
 ·obtain ⟨c, hc⟩ := h1 i hki hi
  have hy : ∀ j, j < k → M (σ i) j = sg k fun l => c l * P l j := fun j hj => by
   have := hc j (by omega)
   rw [h0 i j hi hj (by omega)] at this
   have e : (sg k fun l => c l * P l j) = sg k fun l => c l * M (σ l) j := zma fun l _ => by rw [hPM]
   rw [e]; grind
  have hcl : ∀ l, l < k → over (D * E) (k * (B * β)) (c l) := fun l hl => by
   rw [zbk hdP hy hl]
   exact over.sg (Nat.mul_ne_zero hD hE) fun j hj => over.mul (hM _ _ (hσ i hi) (by omega)) (hI' j l hj hl)
  refine ⟨D * E * D, hDED, Nat.mul_le_mul_right _ (Nat.mul_le_mul_left _ hEβ), ?_⟩
  rw [hc j hj]
  have hs : over (D * E * D) (k * (k * (B * β) * B)) (sg k fun l => c l * M (σ l) j) := over.sg hDED fun l hl => over.mul (hcl l hl) (hM _ _ (hσ l (by omega)) hj)
  have hm : over (D * E * D) (B * (E * D)) (M (σ i) j) := by
   have := over.scale (m := E * D) (Nat.mul_ne_zero hE hD) (hM _ _ (hσ i hi) hj)
   rwa [← Nat.mul_assoc] at this
  refine (over.sub hDED hm hs).mono ?_
  unfold bW
  refine Nat.add_le_add (Nat.mul_le_mul_left _ (Nat.mul_le_mul_right _ hEβ)) (Nat.mul_le_mul hk (Nat.mul_le_mul_right _ (Nat.mul_le_mul_right _ hk)))
 ·obtain ⟨G, hG, hGb, hd⟩ := h3 i hi
  have hy : ∀ j, j < k → X i j = sg k fun l => C i l * P l j := fun j hj => by
   rw [hC i hi j (by omega)]
   exact zma fun l _ => by rw [hPM]
  have hcl : ∀ l, l < k → over (G * E) (bW n D B β * β) (C i l) := fun l hl => by
   rw [zbk hdP hy hl]
   have e : (sg k fun j => X i j * zoj k P j l) = sg k fun j => if i = j then X i i * zoj k P i l else 0 := zma fun j hj => by
    by_cases h5 : i = j
    ·subst h5; rw [if_pos rfl]
    ·rw [if_neg h5, h0 i j (by omega) hj h5, Rat.zero_mul]
   rw [e, zfd (f := fun _ => X i i * zoj k P i l) hi]
   exact over.mul hd (hI' i l hi hl)
  have hGE : G * E * D ≠ 0 := Nat.mul_ne_zero (Nat.mul_ne_zero hG hE) hD
  refine ⟨G * E * D, hGE, ?_, ?_⟩
  ·unfold bD
   rw [Nat.mul_assoc]
   exact Nat.mul_le_mul hGb (Nat.mul_le_mul_right _ hEβ)
  ·rw [hC i hi j hj]
   refine (over.sg hGE fun l hl => over.mul (hcl l hl) (hM _ _ (hσ l (by omega)) hj)).mono ?_
   exact Nat.mul_le_mul_right _ hk
theorem zbm.step (hk : k < n) (hnm : n ≤ m) {W a : Nat} (ha : k ≤ a) (han : a < n) (h : zbm n m k D β W M X) (hz : ∀ i j, k ≤ i → i < n → j < k → X i j = 0)
 (hpiv : ∃ G, G ≠ 0 ∧ G ≤ D * β * D ∧ over G W (X a k)) : zbm n m (k + 1) D β W M (znj false (swp X k a) k k) := by
 obtain ⟨⟨σ, hσ, h1, h2⟩, h3⟩ := h
 obtain ⟨τ, hτ⟩ : ∃ τ : Nat → Nat, τ = fun i => if i = k then σ a else if i = a then σ k else σ i := ⟨_, rfl⟩
 have t0 : ∀ l, l < k → τ l = σ l := fun l hl => by rw [hτ]; simp only; rw [if_neg (by omega), if_neg (by omega)]
 have tk : τ k = σ a := by rw [hτ]; dsimp only; rw [if_pos rfl]
 have tn : ∀ i, i < n → τ i < n := fun i hi => by
  rw [hτ]; simp only; split
  ·exact hσ a han
  ·split
   ·exact hσ k hk
   ·exact hσ i hi
 have zr : ∀ i, k ≤ i → i < n → ∃ c : Nat → Rat, ∀ j, j < m → swp X k a i j = M (τ i) j - sg k fun l => c l * M (τ l) j := fun i hki hi => by
  have cg : ∀ (c : Nat → Rat) (j : Nat), (sg k fun l => c l * M (σ l) j) = sg k fun l => c l * M (τ l) j := fun c j => zma fun l hl => by rw [t0 l hl]
  by_cases e1 : i = k
  ·obtain ⟨c, hc⟩ := h1 a ha han
   refine ⟨c, fun j hj => ?_⟩
   subst e1
   rw [tk, ← cg, ← hc j hj]
   unfold swp; rw [if_pos rfl]
  ·by_cases e2 : i = a
   ·obtain ⟨c, hc⟩ := h1 k (Nat.le_refl _) hk
    refine ⟨c, fun j hj => ?_⟩
    have e3 : τ i = σ k := by rw [hτ]; simp only; rw [if_neg e1, if_pos e2]
    rw [e3, ← cg, ← hc j hj]
    unfold swp; rw [if_neg e1, if_pos e2]
   ·obtain ⟨c, hc⟩ := h1 i hki hi
    refine ⟨c, fun j hj => ?_⟩
    have e3 : τ i = σ i := by rw [hτ]; simp only; rw [if_neg e1, if_neg e2]
    rw [e3, ← cg, ← hc j hj]
    unfold swp; rw [if_neg e1, if_neg e2]
 have zl : ∀ i, i < k → swp X k a i = X i := fun i hi => by unfold swp; rw [if_neg (by omega), if_neg (by omega)]
 have zz : ∀ j, j < k → swp X k a k j = 0 := fun j hj => by
  unfold swp; rw [if_pos rfl]; exact hz a j ha han hj
 obtain ⟨ck, hck⟩ := zr k (Nat.le_refl _) hk
 generalize hZ : swp X k a = Z at *
 have yr : ∀ i, ∃ f : Rat, ∀ j, znj false Z k k i j = Z i j - f * Z k j := fun i => by
  by_cases hact : act false Z k k i
  ·refine ⟨Z i k / Z k k, fun j => ?_⟩
   unfold znj
   by_cases hj : k ≤ j
   ·rw [if_pos ⟨hact, hj⟩]
   ·rw [if_neg (fun h => hj h.2), zz j (by omega), Rat.mul_zero]; grind
  ·exact ⟨0, fun j => by rw [zpg hact]; grind⟩
 have yk : ∀ j, znj false Z k k k j = Z k j := fun j => by rw [zpg (fun h => h.1 rfl)]
 refine ⟨⟨τ, tn, fun i hki hi => ?_, fun i hik => ?_⟩, fun i hik => ?_⟩
 ·obtain ⟨c, hc⟩ := zr i (by omega) hi
  obtain ⟨f, hf⟩ := yr i
  refine ⟨fun l => if l < k then c l - f * ck l else f, fun j hj => ?_⟩
  have e1 : (sg k fun l => (if l < k then c l - f * ck l else f) * M (τ l) j) = sg k (fun l => c l * M (τ l) j) + (-f) * sg k fun l => ck l * M (τ l) j := by
   rw [← zcb, ← zvd]
   exact zma fun l hl => by rw [if_pos hl]; grind
  rw [hf j, hc j hj, hck j hj, sg, e1]
  dsimp only
  rw [if_neg (Nat.lt_irrefl k)]
  grind
 ·by_cases e1 : i = k
  ·subst e1
   refine ⟨fun l => if l < i then -ck l else 1, fun j hj => ?_⟩
   have e2 : (sg i fun l => (if l < i then -ck l else 1) * M (τ l) j) = (-1) * sg i fun l => ck l * M (τ l) j := by
    rw [← zcb]
    exact zma fun l hl => by rw [if_pos hl]; grind
   rw [yk, hck j hj, sg, e2]
   dsimp only
   rw [if_neg (Nat.lt_irrefl i)]
   grind
  ·obtain ⟨c, hc⟩ := h2 i (by omega)
   obtain ⟨f, hf⟩ := yr i
   refine ⟨fun l => if l < k then c l + f * ck l else -f, fun j hj => ?_⟩
   have e2 : (sg k fun l => (if l < k then c l + f * ck l else -f) * M (τ l) j) = sg k (fun l => c l * M (τ l) j) + f * sg k fun l => ck l * M (τ l) j := by
    rw [← zcb, ← zvd]
    exact zma fun l hl => by rw [if_pos hl]; grind
   have e3 : (sg k fun l => c l * M (σ l) j) = sg k fun l => c l * M (τ l) j := zma fun l hl => by rw [t0 l hl]
   rw [hf j, zl i (by omega), hc j hj, hck j hj, sg, e2, e3]
   dsimp only
   rw [if_neg (Nat.lt_irrefl k)]
   grind
 ·by_cases e1 : i = k
  ·subst e1
   rw [yk]
   have e2 : Z i i = X a i := by rw [← hZ]; unfold swp; rw [if_pos rfl]
   rw [e2]; exact hpiv
  ·have e2 : znj false Z k k i i = X i i := by
    unfold znj
    rw [if_neg (fun h => by omega), zl i (by omega)]
   rw [e2]; exact h3 i (by omega)
theorem zpl (hD : D ≠ 0) (hDB : D ≤ B) (hnm : n ≤ m) (hβ : dtB n B ≤ β) (hM : overT n m D B M) (h : (elim false n M n).r = n) : ∀ k, k ≤ n → zbm n m k D β (bW n D B β) M (elim false n M k).A
 | 0, _ => zbm.start n m D β _ M
 | k + 1, hk => by
   have ih := zpl hD hDB hnm hβ hM h k (by omega)
   obtain ⟨u1, u2, _⟩ := zad h k (by omega)
   have hrk := zol h (k := k) (by omega)
   have hrk1 := zol h hk
   have hl := zyd false n M k
   rw [elim, zzf] at hrk1
   rw [elim, zzf]
   have hlt : pvt n k (elim false n M k) < n := by
    by_cases h5 : pvt n k (elim false n M k) < n
    ·exact h5
    ·rw [if_neg h5, hrk] at hrk1; omega
   rw [if_pos hlt]
   have hge := zvk n k (elim false n M k)
   have hB : 0 < B := by omega
   have hs := ih.sizes hD hDB (by omega) hnm (Nat.le_trans (zun hB (by omega)) hβ) hM u1 u2
   dsimp only
   rw [hrk] at hge hl ⊢
   exact ih.step hk hnm hge hlt (fun i j h1 h2 h3 => hl i j h1 h2 h3) (hs.1 _ _ hge hlt (by omega))
theorem sgs_pm (n : Nat) (M : Mx) (k : Nat) : sgs false n M k = 1 ∨ sgs false n M k = -1 := by
 have h := sgs_sq false n M k
 by_cases h1 : sgs false n M k = 1
 ·exact Or.inl h1
 ·right
  have h2 : sgs false n M k - 1 ≠ 0 := fun e => h1 (by grind)
  have h3 : (sgs false n M k - 1) * (sgs false n M k + 1) = 0 := by grind
  rcases Rat.mul_eq_zero.1 h3 with h4 | h4
  ·exact absurd h4 h2
  ·grind
theorem over_pr {G0 W : Nat} {f : Nat → Rat} : ∀ k, (∀ i, i < k → ∃ G, G ≠ 0 ∧ G ≤ G0 ∧ over G W (f i)) → ∃ G, G ≠ 0 ∧ G ≤ G0 ^ k ∧ over G (W ^ k) (pr k f)
 | 0, _ => ⟨1, by decide, Nat.le_refl _, ⟨1, by show (1 : Rat) = mkRat 1 1; decide +kernel, Nat.le_refl _⟩⟩
 | k + 1, h => by
   obtain ⟨G, h1, h2, h3⟩ := over_pr k fun i hi => h i (by omega)
   obtain ⟨H, g1, g2, g3⟩ := h k (Nat.lt_succ_self k)
   rw [pr, Nat.pow_succ, Nat.pow_succ]
   exact ⟨G * H, Nat.mul_ne_zero h1 g1, Nat.mul_le_mul h2 g2, over.mul h3 g3⟩
end
end Go.Proofs.YtlpdkbmmbdfoiaaGreat
