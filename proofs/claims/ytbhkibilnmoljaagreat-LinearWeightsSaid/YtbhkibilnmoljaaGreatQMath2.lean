/-
  More plain facts on limbs: short division, shifts. No program is named here.
-/
import Derived.Test.YtbhkibilnmoljaaGreatQMath
namespace Go.Proofs.YtbhkibilnmoljaaGreat
set_option linter.unusedVariables false

theorem val_drop_succ (l : List Nat) (k : Nat) (h : k < l.length) : val (l.drop k) = l[k] + 4294967296 * val (l.drop (k + 1)) := by
  rw [List.drop_eq_getElem_cons h]; rfl
theorem drop_set_of_lt {α : Type} (l : List α) (k : Nat) (z : α) (h : k < l.length) : (l.set k z).drop k = z :: l.drop (k + 1) := by
  rw [List.drop_eq_getElem_cons (by simpa using h), List.drop_set_of_lt (by omega)]
  simp
/-- One round of a short division, from the top: the quotient's upper limbs, the rest. -/
theorem short_step {q l : List Nat} {k d r x : Nat} (hk : k < q.length) (hl : val (l.drop k) = x + 4294967296 * val (l.drop (k + 1))) (hd : 0 < d)
    (hv : val (l.drop (k + 1)) = d * val (q.drop (k + 1)) + r) (hr : r < d) :
    val (l.drop k) = d * val ((q.set k ((r * 4294967296 + x) / d)).drop k) + (r * 4294967296 + x) % d := by
  rw [drop_set_of_lt q k _ hk, hl, hv]
  simp only [val]
  have h := Nat.div_add_mod (r * 4294967296 + x) d
  generalize (r * 4294967296 + x) / d = a at *
  generalize (r * 4294967296 + x) % d = b at *
  grind
theorem short_bound {d r x : Nat} (hd : d < 4294967296) (hr : r < d) (hx : x < 4294967296) : (r * 4294967296 + x) / d < 4294967296 ∧ (r * 4294967296 + x) % d < d ∧ r * 4294967296 + x < 18446744073709551616 := by
  refine ⟨?_, Nat.mod_lt _ (by omega), by omega⟩
  rw [Nat.div_lt_iff_lt_mul (by omega)]
  have : r * 4294967296 + 4294967296 ≤ d * 4294967296 := by omega
  omega
/-- One round of a shift by fewer than 32 bits. -/
theorem up_step {o l : List Nat} {k c x P t : Nat} (hk : k < o.length) (hl : val (l.take (k + 1)) = val (l.take k) + pw k * x) (hv : val (o.take k) + pw k * c = P * val (l.take k)) (ht : t = P * x + c) :
    val ((o.set k (t % 4294967296)).take (k + 1)) + pw (k + 1) * (t / 4294967296) = P * val (l.take (k + 1)) := by
  rw [val_set_take o k _ hk, hl, pw_succ]
  have h : t % 4294967296 + 4294967296 * (t / 4294967296) = t := by omega
  generalize t % 4294967296 = z at *
  generalize t / 4294967296 = d at *
  grind
/-- One round of 'subtract': t is c + f x, z the new limb. -/
theorem subtract_step {p q l : List Nat} {k c bo f x u z c' bo' lo : Nat} (hk : k < q.length) (hp : val (p.take (k + 1)) = val (p.take k) + pw k * u) (hl : val (l.take (k + 1)) = val (l.take k) + pw k * x)
    (ht : 4294967296 * c' + lo = c + f * x) (hz : z + lo + bo = u + 4294967296 * bo')
    (hv : val (q.take k) + f * val (l.take k) = val (p.take k) + pw k * (c + bo)) :
    val ((q.set k z).take (k + 1)) + f * val (l.take (k + 1)) = val (p.take (k + 1)) + pw (k + 1) * (c' + bo') := by
  rw [val_set_take q k _ hk, hp, hl, pw_succ]
  generalize pw k = P at *
  generalize val (q.take k) = Q at *
  generalize val (p.take k) = R at *
  generalize val (l.take k) = L at *
  have h1 : P * (4294967296 * c' + lo) = P * (c + f * x) := by rw [ht]
  have h2 : P * (z + lo + bo) = P * (u + 4294967296 * bo') := by rw [hz]
  grind
theorem subtract_end {p q l : List Nat} {n c bo f z b : Nat} (hq : q.length = n + 1) (hp : p.length = n + 1) (hl : l.length = n) (hpn : p[n]'(by omega) + 4294967296 * b = z + c + bo)
    (hv : val (q.take n) + f * val (l.take n) = val (p.take n) + pw n * (c + bo)) : val (q.set n z) + f * val l = val p + b * pw (n + 1) := by
  have e1 := val_set_take q n z (by omega)
  rw [List.take_of_length_le (by simp; omega)] at e1
  have e2 := val_take_succ p n (by omega)
  rw [List.take_of_length_le (by omega)] at e2
  rw [List.take_of_length_le (by omega : l.length ≤ n)] at hv
  rw [e1, e2, pw_succ]
  generalize p[n]'(by omega) = u at *
  generalize pw n = P at *
  have h2 : P * (u + 4294967296 * b) = P * (z + c + bo) := by rw [hpn]
  grind
theorem seg_set {α : Type} (A p C : List α) (k : Nat) (z : α) (h : k < p.length) : (A ++ p ++ C).set (A.length + k) z = A ++ p.set k z ++ C := by
  rw [List.append_assoc, List.set_append_right _ _ (by omega), Nat.add_sub_cancel_left, List.set_append_left _ _ h, List.append_assoc]
theorem seg_get {α : Type} (A p C : List α) (k : Nat) (h : k < p.length) : (A ++ p ++ C)[A.length + k]? = some p[k] := by
  rw [List.append_assoc, List.getElem?_append_right (by omega), Nat.add_sub_cancel_left, List.getElem?_append_left h, List.getElem?_eq_getElem h]
end Go.Proofs.YtbhkibilnmoljaaGreat
