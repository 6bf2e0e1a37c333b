/-
  Long division by limbs: what one round needs. No program is named here.
-/
import Derived.Test.YtoldfpkafcefnaaQMath2
namespace Go.Proofs.Ytoldfpkafcefnaa
set_option linter.unusedVariables false

/-- The leading limbs decide the digit: never too small, at most one too great. -/
theorem digit_upper {U V U' V' P ul vl g : Nat} (hV : V = V' * P + vl) (hU : U = U' * P + ul) (hul : ul < P) (hV0 : 0 < V) (h : U' < g * V') : U / V < g := by
  rcases Nat.lt_or_ge (U / V) g with h1 | h1
  · exact h1
  · exfalso
    have h2 : g * V ≤ U := Nat.le_trans (Nat.mul_le_mul_right V h1) (Nat.div_mul_le_self U V)
    have h3 : (U' + 1) * P ≤ g * V' * P := Nat.mul_le_mul_right P h
    have h4 : g * V = g * V' * P + g * vl := by rw [hV, Nat.mul_add, Nat.mul_assoc]
    rw [Nat.add_mul, Nat.one_mul] at h3
    omega
theorem digit_lower {U V U' V' P ul vl g : Nat} (hV : V = V' * P + vl) (hvl : vl < P) (hU : U = U' * P + ul) (hV0 : 0 < V) (h : g * V' ≤ U') (hg : g ≤ V' + 1) : g ≤ U / V + 1 := by
  cases g with
  | zero => exact Nat.zero_le _
  | succ g =>
    have h1 : g * V ≤ U := by
      have a1 : g * V = g * V' * P + g * vl := by rw [hV, Nat.mul_add, Nat.mul_assoc]
      have a2 : g * vl ≤ g * P := Nat.mul_le_mul_left g (by omega)
      have a3 : g * P ≤ V' * P := Nat.mul_le_mul_right P (by omega)
      have a4 : (g * V' + V') * P ≤ U' * P := Nat.mul_le_mul_right P (by rw [Nat.succ_mul] at h; exact h)
      rw [Nat.add_mul] at a4
      omega
    have := (Nat.le_div_iff_mul_le hV0).2 h1
    omega
theorem guess_test {top next r head u2 g : Nat} (h : g * top + r = head) : (r * 4294967296 + u2 < g * next) ↔ (head * 4294967296 + u2 < g * (top * 4294967296 + next)) := by
  subst h
  have : g * (top * 4294967296 + next) = g * top * 4294967296 + g * next := by rw [Nat.mul_add, Nat.mul_assoc]
  rw [this, Nat.add_mul]
  omega
theorem val_two (l : List Nat) (n : Nat) (h : n + 2 = l.length) : val l = (l[n + 1]'(by omega) * 4294967296 + l[n]'(by omega)) * pw n + val (l.take n) := by
  have h1 := val_take_succ l (n + 1) (by omega)
  have h2 := val_take_succ l n (by omega)
  rw [List.take_of_length_le (by omega)] at h1
  rw [h1, h2, pw_succ]
  generalize l[n + 1]'(by omega) = b
  generalize l[n]'(by omega) = c
  generalize pw n = P
  generalize val (l.take n) = V
  grind
theorem val_three (l : List Nat) (n : Nat) (h : n + 3 = l.length) : val l = ((l[n + 2]'(by omega) * 4294967296 + l[n + 1]'(by omega)) * 4294967296 + l[n]'(by omega)) * pw n + val (l.take n) := by
  have h1 := val_take_succ l (n + 2) (by omega)
  have h2 := val_take_succ l (n + 1) (by omega)
  have h3 := val_take_succ l n (by omega)
  rw [List.take_of_length_le (by omega)] at h1
  have e1 : pw (n + 1) = 4294967296 * pw n := pw_succ n
  have e2 : pw (n + 2) = 4294967296 * (4294967296 * pw n) := by rw [pw_succ (n + 1), pw_succ n]
  rw [h1, h2, h3, e1, e2]
  generalize l[n + 2]'(by omega) = a
  generalize l[n + 1]'(by omega) = b
  generalize l[n]'(by omega) = c
  generalize pw n = P
  generalize val (l.take n) = V
  grind
theorem val_take_lt {l : List Nat} (h : Lm l) (n : Nat) (hn : n ≤ l.length) : val (l.take n) < pw n := by
  have := val_lt (l := l.take n) (fun x hx => h x (List.mem_of_mem_take hx))
  rwa [List.length_take, Nat.min_eq_left hn] at this

/-- What is known of a round of the division: the part p of the dividend (n + 3 limbs), the divisor l (n + 2 limbs, its top at least 2^31). -/
structure Round (p l : List Nat) (n : Nat) : Prop where
  hp : n + 3 = p.length
  hl : n + 2 = l.length
  lp : Lm p
  ll : Lm l
  top : 2147483648 ≤ l[n + 1]'(by omega)
  lt : val p < val l * 4294967296
section
variable {p l : List Nat} {n : Nat} (R : Round p l n)
include R
theorem Round.vpos : 0 < val l := by
  have h := val_two l n R.hl
  have := R.top
  have h1 : 1 * pw n ≤ (l[n + 1]'(by have := R.hl; omega) * 4294967296 + l[n]'(by have := R.hl; omega)) * pw n := Nat.mul_le_mul_right _ (by omega)
  have := pw_pos n
  omega
theorem Round.first_le : p[n + 2]'(by have := R.hp; omega) ≤ l[n + 1]'(by have := R.hl; omega) := by
  have h1 := val_three p n R.hp
  have h2 := val_two l n R.hl
  have h3 := val_take_lt R.ll n (by have := R.hl; omega)
  have h4 := R.lt
  have e1 := R.ll _ (List.getElem_mem (h := show n < l.length by have := R.hl; omega))
  generalize p[n + 2]'(by have := R.hp; omega) = a at *
  generalize p[n + 1]'(by have := R.hp; omega) = b at *
  generalize p[n]'(by have := R.hp; omega) = c at *
  generalize l[n + 1]'(by have := R.hl; omega) = t at *
  generalize l[n]'(by have := R.hl; omega) = s at *
  have hP := pw_pos n
  generalize pw n = P at *
  rcases Nat.lt_or_ge t a with h | h
  · exfalso
    -- val l < (t + 1) * B * P, val p ≥ a B B P
    have i1 : (t * 4294967296 + s + 1) * P ≤ ((t + 1) * 4294967296) * P := Nat.mul_le_mul_right _ (by omega)
    have i2 : ((t + 1) * 4294967296 * 4294967296) * P ≤ ((a * 4294967296 + b) * 4294967296 + c) * P := Nat.mul_le_mul_right _ (by omega)
    rw [Nat.add_mul (t * 4294967296 + s), Nat.one_mul] at i1
    have i3 : ((t + 1) * 4294967296 * 4294967296) * P = ((t + 1) * 4294967296) * P * 4294967296 := by rw [Nat.mul_right_comm]
    omega
  · exact h
theorem Round.start : let head := p[n + 2]'(by have := R.hp; omega) * 4294967296 + p[n + 1]'(by have := R.hp; omega)
    val p / val l ≤ head / l[n + 1]'(by have := R.hl; omega) ∧ head / l[n + 1]'(by have := R.hl; omega) ≤ 4294967297 := by
  have h1 := val_three p n R.hp
  have h2 := val_two l n R.hl
  have h3 := val_take_lt R.lp n (by have := R.hp; omega)
  have hv := R.vpos
  have hf := R.first_le
  have ht := R.top
  have e1 := R.lp _ (List.getElem_mem (h := show n < p.length by have := R.hp; omega))
  have e2 := R.lp _ (List.getElem_mem (h := show n + 1 < p.length by have := R.hp; omega))
  intro head
  have hh : head = p[n + 2]'(by have := R.hp; omega) * 4294967296 + p[n + 1]'(by have := R.hp; omega) := rfl
  rw [← hh] at h1
  generalize p[n + 2]'(by have := R.hp; omega) = a at *
  generalize p[n + 1]'(by have := R.hp; omega) = b at *
  generalize p[n]'(by have := R.hp; omega) = c at *
  generalize l[n + 1]'(by have := R.hl; omega) = t at *
  generalize l[n]'(by have := R.hl; omega) = s at *
  have hd := Nat.div_add_mod head t
  have hm := Nat.mod_lt head (show 0 < t by omega)
  constructor
  · have : val p / val l < head / t + 1 := by
      refine digit_upper h2 h1 h3 hv ?_
      generalize head / t = g at *
      have e : (g + 1) * (t * 4294967296 + s) = t * g * 4294967296 + t * 4294967296 + (g + 1) * s := by grind
      rw [e]
      omega
    omega
  · have : head / t < 4294967298 := by
      rw [Nat.div_lt_iff_lt_mul (by omega)]
      omega
    omega
theorem Round.lt_B : val p / val l < 4294967296 := by
  rw [Nat.div_lt_iff_lt_mul R.vpos, Nat.mul_comm]; exact R.lt
/-- The guess is lowered. -/
theorem Round.lower {g r : Nat} (hg : val p / val l ≤ g) (hr : g * l[n + 1]'(by have := R.hl; omega) + r = p[n + 2]'(by have := R.hp; omega) * 4294967296 + p[n + 1]'(by have := R.hp; omega))
    (h : 4294967296 ≤ g ∨ r * 4294967296 + p[n]'(by have := R.hp; omega) < g * l[n]'(by have := R.hl; omega)) : val p / val l ≤ g - 1 ∧ 1 ≤ g ∧ (g - 1) * l[n + 1]'(by have := R.hl; omega) + (r + l[n + 1]'(by have := R.hl; omega)) = p[n + 2]'(by have := R.hp; omega) * 4294967296 + p[n + 1]'(by have := R.hp; omega) := by
  have hB := R.lt_B
  have h1 := val_three p n R.hp
  have h2 := val_two l n R.hl
  have h3 := val_take_lt R.lp n (by have := R.hp; omega)
  have hv := R.vpos
  have hlt : val p / val l < g := by
    rcases h with h | h
    · omega
    · exact digit_upper h2 h1 h3 hv ((guess_test hr).1 h)
  have hg1 : 1 ≤ g := Nat.succ_le_of_lt (Nat.lt_of_le_of_lt (Nat.zero_le _) hlt)
  refine ⟨Nat.le_sub_one_of_lt hlt, hg1, ?_⟩
  rw [← hr]
  obtain ⟨g, rfl⟩ : ∃ k, g = k + 1 := ⟨g - 1, by omega⟩
  rw [Nat.add_sub_cancel, Nat.add_mul, Nat.one_mul]
  omega
/-- The guess passes the test. -/
theorem Round.pass {g r : Nat} (hr : g * l[n + 1]'(by have := R.hl; omega) + r = p[n + 2]'(by have := R.hp; omega) * 4294967296 + p[n + 1]'(by have := R.hp; omega))
    (hg : g < 4294967296) (h : ¬ r * 4294967296 + p[n]'(by have := R.hp; omega) < g * l[n]'(by have := R.hl; omega)) : g ≤ val p / val l + 1 := by
  have h1 := val_three p n R.hp
  have h2 := val_two l n R.hl
  have h3 := val_take_lt R.ll n (by have := R.hl; omega)
  have ht := R.top
  have h4 := fun x => h ((guess_test hr).2 x)
  exact digit_lower h2 h3 h1 R.vpos (Nat.le_of_not_lt h4) (by omega)
/-- The rest has grown past a limb. -/
theorem Round.break {g r : Nat} (hr : g * l[n + 1]'(by have := R.hl; omega) + r = p[n + 2]'(by have := R.hp; omega) * 4294967296 + p[n + 1]'(by have := R.hp; omega))
    (h : 4294967296 ≤ r) : g < 4294967296 ∧ g ≤ val p / val l + 1 := by
  have hf := R.first_le
  have e2 := R.lp _ (List.getElem_mem (h := show n + 1 < p.length by have := R.hp; omega))
  have e3 := R.ll _ (List.getElem_mem (h := show n < l.length by have := R.hl; omega))
  have ht := R.top
  have hg : g < 4294967296 := by
    rcases Nat.lt_or_ge g 4294967296 with h' | h'
    · exact h'
    · exfalso
      have := Nat.mul_le_mul_right (l[n + 1]'(by have := R.hl; omega)) h'
      have := Nat.mul_le_mul_right 4294967296 hf
      omega
  refine ⟨hg, R.pass hr hg ?_⟩
  have : g * l[n]'(by have := R.hl; omega) ≤ 4294967295 * 4294967295 := Nat.mul_le_mul (by omega) (by omega)
  omega
/-- Behind the subtraction. -/
theorem Round.sub0 {g : Nat} {p1 : List Nat} (hq : val p / val l ≤ g) (hg : g ≤ val p / val l + 1) (h1 : val p1 + g * val l = val p) : g = val p / val l ∧ val p1 = val p % val l := by
  have hd := Nat.div_add_mod (val p) (val l)
  have hm := Nat.mod_lt (val p) R.vpos
  have hgq : g = val p / val l := by
    have : g * val l ≤ val p := by omega
    have := (Nat.le_div_iff_mul_le R.vpos).2 this
    omega
  refine ⟨hgq, ?_⟩
  rw [hgq] at h1
  rw [Nat.mul_comm] at hd
  omega
theorem Round.sub1 {g b : Nat} {p1 p2 : List Nat} (hq : val p / val l ≤ g) (hg : g ≤ val p / val l + 1) (l1 : Lm p1) (n1 : p1.length = n + 3) (l2 : Lm p2) (n2 : p2.length = n + 3)
    (h1 : val p1 + g * val l = val p + pw (n + 3)) (h2 : val p2 + b * pw (n + 3) = val p1 + val l) : g - 1 = val p / val l ∧ 1 ≤ g ∧ val p2 = val p % val l := by
  have hd := Nat.div_add_mod (val p) (val l)
  have hm := Nat.mod_lt (val p) R.vpos
  have b1 := val_lt l1
  have b2 := val_lt l2
  rw [n1] at b1
  rw [n2] at b2
  have hlt : val p < g * val l := by omega
  have hgq : val p / val l < g := by
    rw [Nat.div_lt_iff_lt_mul R.vpos]; exact hlt
  have hg1 : g = val p / val l + 1 := by omega
  refine ⟨by rw [hg1, Nat.add_sub_cancel], by rw [hg1]; exact Nat.succ_pos _, ?_⟩
  rw [hg1, Nat.add_mul, Nat.one_mul] at h1
  rw [Nat.mul_comm] at hd
  have hl : val l < pw (n + 3) := by
    have := val_lt R.ll
    rw [← R.hl] at this
    have := pw_le (show n + 2 ≤ n + 3 by omega)
    omega
  have : b = 1 := by
    rcases Nat.lt_or_ge b 1 with hb | hb
    · obtain rfl : b = 0 := by omega
      omega
    · rcases Nat.lt_or_ge b 2 with hb2 | hb2
      · omega
      · have := Nat.mul_le_mul_right (pw (n + 3)) hb2
        omega
  subst this
  omega
end
end Go.Proofs.Ytoldfpkafcefnaa
