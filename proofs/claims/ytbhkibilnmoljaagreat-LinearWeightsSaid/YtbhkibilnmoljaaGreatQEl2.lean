/-
  Elimination row by row. No program is named here.
-/
import Derived.Test.YtbhkibilnmoljaaGreatQEl1
namespace Go.Proofs.YtbhkibilnmoljaaGreat
set_option linter.unusedVariables false

/-- Row i less f times row r, in the columns from k to below e. -/
def redTo (A : Mx) (i r k e : Nat) (f : Rat) : Mx := fun a b => if a = i ∧ k ≤ b ∧ b < e then A i b - f * A r b else A a b
theorem redTo_start (A : Mx) (i r k : Nat) (f : Rat) : redTo A i r k k f = A := by
  funext a b; unfold redTo; rw [if_neg (by omega)]
theorem redTo_at {A : Mx} {i r k e : Nat} {f : Rat} : redTo A i r k e f i e = A i e := by unfold redTo; rw [if_neg (by omega)]
theorem redTo_row {A : Mx} {i r k e b : Nat} {f : Rat} (h : i ≠ r) : redTo A i r k e f r b = A r b := by unfold redTo; rw [if_neg (fun h2 => h h2.1.symm)]
/-- The rows above e are reduced. -/
def redP (below : Bool) (A : Mx) (r k e : Nat) : Mx := fun a b => if a < e then redu below A r k a b else A a b
theorem redP_zero (below : Bool) (A : Mx) (r k : Nat) : redP below A r k 0 = A := by
  funext a b; unfold redP; rw [if_neg (by omega)]
theorem redP_at {below : Bool} {A : Mx} {r k e : Nat} : redP below A r k e e = A e := by
  funext b; unfold redP; rw [if_neg (by omega)]
theorem redu_row {below : Bool} {A : Mx} {r k a : Nat} (h : ¬ act below A r k a) : redu below A r k a = A a := by
  funext b; unfold redu; rw [if_neg (fun h2 => h h2.1)]
theorem redP_row {below : Bool} {A : Mx} {r k e : Nat} : redP below A r k e r = A r := by
  funext b; unfold redP; split
  · rw [redu_row (fun h => h.1 rfl)]
  · rfl
theorem redP_skip {below : Bool} {A : Mx} {r k e : Nat} (h : ¬ act below A r k e) : redP below A r k (e + 1) = redP below A r k e := by
  funext a b; unfold redP
  by_cases h1 : a = e
  · subst h1; rw [if_pos (by omega), if_neg (by omega), redu_row h]
  · by_cases h2 : a < e
    · rw [if_pos (by omega), if_pos h2]
    · rw [if_neg (by omega), if_neg h2]
theorem redP_red {below : Bool} {A : Mx} {r k e m : Nat} (h : act below A r k e) : ∀ a b, b < m → redTo (redP below A r k e) e r k m (A e k / A r k) a b = redP below A r k (e + 1) a b := by
  intro a b hb
  unfold redTo
  rw [redP_at, redP_row]
  unfold redP
  by_cases h1 : a = e
  · subst h1
    unfold redu
    by_cases h2 : k ≤ b
    · rw [if_pos ⟨rfl, h2, hb⟩, if_pos (by omega), if_pos ⟨h, h2⟩]
    · rw [if_neg (by omega), if_neg (by omega), if_pos (by omega), if_neg (by omega)]
  · rw [if_neg (by omega)]
    by_cases h2 : a < e
    · rw [if_pos h2, if_pos (show a < e + 1 by omega)]
    · rw [if_neg h2, if_neg (show ¬ a < e + 1 by omega)]
theorem redP_all {below : Bool} {A : Mx} {r k n : Nat} : ∀ a b, a < n → redP below A r k n a b = redu below A r k a b := by
  intro a b h; unfold redP; rw [if_pos h]
/-- What elimination meets is not large. -/
def slimE (below : Bool) (n m wd : Nat) (A : Mx) : Prop := ∀ k, k ≤ wd → (∀ a b, a < n → b < m → fits ((elim below n A k).A a b)) ∧ fits (elim below n A k).d ∧ (k < wd → fitE below n m k (elim below n A k))
theorem slimE_of {below : Bool} {n m wd : Nat} {A : Mx} {b d : Nat} (hw : wd ≤ m) (hb : 0 < b) (hd : d ≠ 0) (hA : overT n m d b A) (hx : slim4 (grow wd (b, d, 1, 1))) : slimE below n m wd A := by
  intro k hk
  obtain ⟨⟨⟨D, h1, h2, h3⟩, ⟨F, h4, h5, h6⟩⟩, h7⟩ := elim_fits (below := below) hw hb hd hA hx k hk
  obtain ⟨a1, a2, a3, a4⟩ := grow_le (x := (b, d, 1, 1)) ⟨hb, Nat.pos_of_ne_zero hd, Nat.one_pos, Nat.one_pos⟩ wd hk
  obtain ⟨c1, c2, c3, c4⟩ := hx
  exact ⟨fun i j hi hj => over.fits h1 (h3 i j hi hj) (by omega) (by omega), over.fits h4 h6 (by omega) (by omega), h7⟩
end Go.Proofs.YtbhkibilnmoljaaGreat
