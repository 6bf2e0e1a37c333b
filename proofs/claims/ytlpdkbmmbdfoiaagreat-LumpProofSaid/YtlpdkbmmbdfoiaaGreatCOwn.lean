/-
  Slices that a call itself made: rows of one-cell elements, written and appended to. No program is named here.
  Ahead of it: Plain facts on lists of limbs and the numbers that they denote. No program is named here. How the values of this program read in memory: slices as abstract values, natural numbers as lists of limbs. No program is named here.
-/
import Derived.WalkKit
import Derived.WalkSpells
import Derived.WalkLawsBesides
import Derived.Deep.QuietTactic
import Derived.BigQuiet
import Derived.Lib.Hide
import Derived.Laws.AppendOwnNone
namespace Go.Proofs.YtlpdkbmmbdfoiaaGreat
set_option linter.unusedVariables false
set_option linter.unusedSimpArgs false

/-- The number of a list of limbs, the least one first. -/
def val : List Nat → Nat
  | [] => 0
  | x :: l => x + 4294967296 * val l
/-- Limbs. -/
def Lm (l : List Nat) : Prop := ∀ x ∈ l, x < 4294967296
/-- The length without the zero limbs at the end. -/
def clen : List Nat → Nat
  | [] => 0
  | x :: l => if clen l = 0 then (if x = 0 then 0 else 1) else clen l + 1
theorem clen_le (l : List Nat) : clen l ≤ l.length := by
  induction l with
  | nil => simp [clen]
  | cons x l ih => simp only [clen, List.length_cons]; split <;> (try split) <;> omega
theorem clen_snoc (l : List Nat) (x : Nat) : clen (l ++ [x]) = if x = 0 then clen l else l.length + 1 := by
  induction l with
  | nil => simp [clen]
  | cons y l ih =>
    simp only [List.cons_append, clen, ih, List.length_cons]
    by_cases hx : x = 0
    · simp [hx]
    · simp [hx]
theorem take_snoc {α : Type} (l : List α) (k : Nat) (h : k < l.length) : l.take (k + 1) = l.take k ++ [l[k]] := by
  rw [List.take_succ_eq_append_getElem h]
theorem clen_take_zero (l : List Nat) (k : Nat) (h : k < l.length) (h0 : l[k] = 0) : clen (l.take (k + 1)) = clen (l.take k) := by
  rw [take_snoc l k h, clen_snoc, if_pos h0]
theorem clen_take_pos (l : List Nat) (k : Nat) (h : k < l.length) (h0 : l[k] ≠ 0) : clen (l.take (k + 1)) = k + 1 := by
  rw [take_snoc l k h, clen_snoc, if_neg h0, List.length_take]; omega

/-- 2^(32 k). -/
def pw (k : Nat) : Nat := 4294967296 ^ k
theorem pw_zero : pw 0 = 1 := rfl
theorem pw_succ (k : Nat) : pw (k + 1) = 4294967296 * pw k := by unfold pw; rw [Nat.pow_succ, Nat.mul_comm]
theorem pw_pos (k : Nat) : 0 < pw k := Nat.pow_pos (by decide)
theorem pw_add (j k : Nat) : pw (j + k) = pw j * pw k := by unfold pw; rw [Nat.pow_add]
theorem pw_le {j k : Nat} (h : j ≤ k) : pw j ≤ pw k := Nat.pow_le_pow_right (by decide) h
theorem val_append (a b : List Nat) : val (a ++ b) = val a + pw a.length * val b := by
  induction a with
  | nil => simp [val, pw_zero]
  | cons x a ih =>
    simp only [List.cons_append, val, ih, List.length_cons, pw_succ]
    rw [Nat.mul_add, Nat.mul_assoc]; omega
theorem val_lt {l : List Nat} (h : Lm l) : val l < pw l.length := by
  induction l with
  | nil => simp [val, pw_zero]
  | cons x l ih =>
    have h1 := ih (fun y hy => h y (by simp [hy]))
    have h2 := h x (by simp)
    simp only [val, List.length_cons, pw_succ]
    omega
theorem val_take_succ (l : List Nat) (k : Nat) (h : k < l.length) : val (l.take (k + 1)) = val (l.take k) + pw k * l[k] := by
  rw [take_snoc l k h, val_append, List.length_take, Nat.min_eq_left (by omega)]; simp [val]
theorem val_take_of_le (l : List Nat) (k : Nat) (h : l.length ≤ k) : val (l.take k) = val l := by rw [List.take_of_length_le h]
theorem val_clen (l : List Nat) : val (l.take (clen l)) = val l := by
  induction l with
  | nil => simp [val]
  | cons x l ih =>
    simp only [clen]
    by_cases h : clen l = 0
    · rw [if_pos h]
      rw [h] at ih
      simp only [List.take_zero, val] at ih
      by_cases hx : x = 0
      · simp [hx, val, ← ih]
      · simp [hx, val, ← ih]
    · rw [if_neg h]
      simp only [List.take_succ_cons, val, ih]
theorem val_replicate (n : Nat) : val (List.replicate n 0) = 0 := by
  induction n with
  | zero => rfl
  | succ n ih => simp [List.replicate_succ, val, ih]
theorem val_zero_clen {l : List Nat} : val l = 0 ↔ clen l = 0 := by
  induction l with
  | nil => simp [val, clen]
  | cons x l ih =>
    simp only [val, clen]
    by_cases h : clen l = 0
    · rw [if_pos h]; have := ih.2 h; by_cases hx : x = 0 <;> simp [hx, this]
    · rw [if_neg h]; have : val l ≠ 0 := fun e => h (ih.1 e); omega

/-- The canonical limbs of a number. -/
def limbs (n : Nat) : List Nat := if h : n = 0 then [] else n % 4294967296 :: limbs (n / 4294967296)
termination_by n
decreasing_by exact Nat.div_lt_self (by omega) (by decide)
theorem limbs_zero : limbs 0 = [] := by rw [limbs]; simp
theorem limbs_pos {n : Nat} (h : n ≠ 0) : limbs n = n % 4294967296 :: limbs (n / 4294967296) := by rw [limbs]; simp [h]
theorem limbs_spec (n : Nat) : val (limbs n) = n ∧ Lm (limbs n) ∧ clen (limbs n) = (limbs n).length := by
  induction n using Nat.strongRecOn with
  | _ n ih =>
    by_cases h : n = 0
    · subst h; rw [limbs_zero]; exact ⟨rfl, fun x h => by simp at h, rfl⟩
    · rw [limbs_pos h]
      obtain ⟨h1, h2, h3⟩ := ih (n / 4294967296) (Nat.div_lt_self (by omega) (by decide))
      refine ⟨by simp only [val, h1]; omega, fun x hx => ?_, ?_⟩
      · rcases List.mem_cons.1 hx with rfl | hx
        · omega
        · exact h2 x hx
      · simp only [clen, List.length_cons]
        by_cases h0 : clen (limbs (n / 4294967296)) = 0
        · have hv := val_zero_clen.2 h0
          rw [h1] at hv
          rw [if_pos h0, if_neg (by omega)]; omega
        · rw [if_neg h0]; omega
theorem val_limbs (n : Nat) : val (limbs n) = n := (limbs_spec n).1
theorem lm_limbs (n : Nat) : Lm (limbs n) := (limbs_spec n).2.1
theorem clen_limbs (n : Nat) : clen (limbs n) = (limbs n).length := (limbs_spec n).2.2
theorem limbs_val {l : List Nat} (h : Lm l) : limbs (val l) = l.take (clen l) := by
  induction l with
  | nil => simp [val, clen, limbs_zero]
  | cons x l ih =>
    have h1 := ih (fun y hy => h y (by simp [hy]))
    have h2 := h x (by simp)
    by_cases h0 : clen l = 0
    · have hv := val_zero_clen.2 h0
      simp only [val, clen, if_pos h0, hv]
      by_cases hx : x = 0
      · simp [hx, limbs_zero]
      · rw [if_neg hx, limbs_pos (by omega), show (x + 4294967296 * 0) / 4294967296 = 0 from by omega, limbs_zero, show (x + 4294967296 * 0) % 4294967296 = x from by omega]; simp
    · have hv : val l ≠ 0 := fun e => h0 (val_zero_clen.1 e)
      simp only [val, clen, if_neg h0]
      rw [limbs_pos (by omega), show (x + 4294967296 * val l) % 4294967296 = x from by omega, show (x + 4294967296 * val l) / 4294967296 = val l from by omega, h1]
      simp
/-- The number of limbs of a number. -/
def nlen (n : Nat) : Nat := (limbs n).length
theorem nlen_zero : nlen 0 = 0 := by simp [nlen, limbs_zero]
theorem nlen_pos {n : Nat} (h : n ≠ 0) : nlen n = nlen (n / 4294967296) + 1 := by simp [nlen, limbs_pos h]
theorem nlen_eq_zero {n : Nat} : nlen n = 0 ↔ n = 0 := by
  constructor
  · intro h; by_cases h0 : n = 0
    · exact h0
    · rw [nlen_pos h0] at h; omega
  · rintro rfl; exact nlen_zero
theorem clen_eq {l : List Nat} (h : Lm l) : clen l = nlen (val l) := by
  unfold nlen; rw [limbs_val h, List.length_take]; have := clen_le l; omega
theorem lt_pw_nlen (n : Nat) : n < pw (nlen n) := by
  have := val_lt (lm_limbs n); rw [val_limbs] at this; exact this
theorem nlen_le {n k : Nat} : nlen n ≤ k ↔ n < pw k := by
  constructor
  · intro h; exact Nat.lt_of_lt_of_le (lt_pw_nlen n) (pw_le h)
  · induction k generalizing n with
    | zero => intro h; simp [pw_zero] at h; subst h; simp [nlen_zero]
    | succ k ih =>
      intro h
      by_cases h0 : n = 0
      · subst h0; simp [nlen_zero]
      · rw [nlen_pos h0]
        have := @ih (n / 4294967296) (by rw [pw_succ] at h; omega)
        omega
theorem nlen_mono {m n : Nat} (h : m ≤ n) : nlen m ≤ nlen n := nlen_le.2 (Nat.lt_of_le_of_lt h (lt_pw_nlen n))
theorem pw_le_of_nlen {n k : Nat} (h : k < nlen n) : pw k ≤ n := Nat.le_of_not_lt fun h' => by have := nlen_le.2 h'; omega
theorem val_inj_can {a b : List Nat} (ha : Lm a) (hb : Lm b) (ca : clen a = a.length) (cb : clen b = b.length) (h : val a = val b) : a = b := by
  have h1 := limbs_val ha
  have h2 := limbs_val hb
  rw [ca, List.take_length] at h1
  rw [cb, List.take_length] at h2
  rw [← h1, ← h2, h]
theorem limbs_inj {m n : Nat} (h : limbs m = limbs n) : m = n := by rw [← val_limbs m, ← val_limbs n, h]

theorem take_set_succ {α : Type} (o : List α) (k : Nat) (z : α) (h : k < o.length) : (o.set k z).take (k + 1) = o.take k ++ [z] := by
  rw [take_snoc _ k (by simpa using h), List.take_set_of_le (Nat.le_refl _)]
  simp
theorem val_set_take (o : List Nat) (k z : Nat) (h : k < o.length) : val ((o.set k z).take (k + 1)) = val (o.take k) + pw k * z := by
  rw [take_set_succ o k z h, val_append, List.length_take, Nat.min_eq_left (by omega)]; simp [val]
/-- One round of an addition. -/
theorem add_step {o a b : List Nat} {k c x y : Nat} (hk : k < o.length) (ha : val (a.take (k + 1)) = val (a.take k) + pw k * x) (hb : val (b.take (k + 1)) = val (b.take k) + pw k * y)
    (hv : val (o.take k) + pw k * c = val (a.take k) + val (b.take k)) :
    val ((o.set k ((c + x + y) % 4294967296)).take (k + 1)) + pw (k + 1) * ((c + x + y) / 4294967296) = val (a.take (k + 1)) + val (b.take (k + 1)) := by
  rw [val_set_take o k _ hk, ha, hb, pw_succ]
  have h : (c + x + y) % 4294967296 + 4294967296 * ((c + x + y) / 4294967296) = c + x + y := by omega
  generalize (c + x + y) % 4294967296 = z at *
  generalize (c + x + y) / 4294967296 = d at *
  grind
theorem take_succ_of_le {α : Type} (l : List α) (k : Nat) (h : l.length ≤ k) : l.take (k + 1) = l.take k := by
  rw [List.take_of_length_le h, List.take_of_length_le (by omega)]

/-- -1, 0 or 1. -/
def cmpN (m n : Nat) : Int := if m < n then -1 else if n < m then 1 else 0
theorem cmpN_lt {m n : Nat} (h : m < n) : cmpN m n = -1 := by simp [cmpN, h]
theorem cmpN_gt {m n : Nat} (h : n < m) : cmpN m n = 1 := by unfold cmpN; rw [if_neg (by omega), if_pos h]
theorem cmpN_eq {m n : Nat} (h : m = n) : cmpN m n = 0 := by subst h; unfold cmpN; rw [if_neg (by omega), if_neg (by omega)]
theorem lt_of_nlen {m n : Nat} (h : nlen m < nlen n) : m < n := Nat.lt_of_not_le fun h' => by have := nlen_mono h'; omega
theorem val_split (l : List Nat) (k : Nat) (h : k < l.length) : val l = val (l.take k) + pw k * l[k] + pw (k + 1) * val (l.drop (k + 1)) := by
  have e : val l = val (l.take (k + 1) ++ l.drop (k + 1)) := by rw [List.take_append_drop]
  rw [e, val_append, List.length_take, Nat.min_eq_left (by omega), val_take_succ l k h]
theorem val_lt_of_top {a b : List Nat} (ha : Lm a) (k : Nat) (h1 : k < a.length) (h2 : k < b.length) (hd : a.drop (k + 1) = b.drop (k + 1)) (h : a[k] < b[k]) : val a < val b := by
  rw [val_split a k h1, val_split b k h2, hd]
  have h3 : val (a.take k) < pw k := by
    have := val_lt (l := a.take k) (fun x hx => ha x (List.mem_of_mem_take hx))
    rwa [List.length_take, Nat.min_eq_left (by omega)] at this
  have h4 : pw k * (a[k] + 1) ≤ pw k * b[k] := Nat.mul_le_mul_left _ h
  rw [Nat.mul_add, Nat.mul_one] at h4
  omega
theorem drop_eq_of {a b : List Nat} (k : Nat) (h1 : k < a.length) (h2 : k < b.length) (hd : a.drop (k + 1) = b.drop (k + 1)) (h : a[k] = b[k]) : a.drop k = b.drop k := by
  rw [List.drop_eq_getElem_cons h1, List.drop_eq_getElem_cons h2, hd, h]
/-- One round of a subtraction: x - bo - y is z - 2^32 bo'. -/
theorem sub_step {o a b : List Nat} {k bo x y z bo' : Nat} (hk : k < o.length) (ha : val (a.take (k + 1)) = val (a.take k) + pw k * x) (hb : val (b.take (k + 1)) = val (b.take k) + pw k * y)
    (hz : z + bo + y = x + 4294967296 * bo') (hv : val (o.take k) + val (b.take k) = val (a.take k) + pw k * bo) :
    val ((o.set k z).take (k + 1)) + val (b.take (k + 1)) = val (a.take (k + 1)) + pw (k + 1) * bo' := by
  rw [val_set_take o k _ hk, ha, hb, pw_succ]
  grind

theorem val_set (l : List Nat) (i z : Nat) (h : i < l.length) : val (l.set i z) + pw i * l[i] = val l + pw i * z := by
  induction l generalizing i with
  | nil => simp at h
  | cons x l ih =>
    cases i with
    | zero => simp [val, pw_zero]; omega
    | succ i =>
      have := ih i (by simpa using h)
      simp only [List.set_cons_succ, val, pw_succ, List.getElem_cons_succ]
      grind
/-- One round of the inner loop of a multiplication. -/
theorem mul_step {o b : List Nat} {k j N R c x y z c' : Nat} (hN : k + j < N) (hl : N ≤ o.length) (hb : val (b.take (j + 1)) = val (b.take j) + pw j * y)
    (hv : val (o.take N) + pw (k + j) * c = R + pw k * x * val (b.take j)) (hz : z + 4294967296 * c' = x * y + o[k + j] + c) :
    val ((o.set (k + j) z).take N) + pw (k + (j + 1)) * c' = R + pw k * x * val (b.take (j + 1)) := by
  have h1 := val_set (o.take N) (k + j) z (by simp; omega)
  rw [List.getElem_take] at h1
  rw [List.take_set, hb, ← Nat.add_assoc, pw_succ]
  have e := pw_add k j
  generalize val ((o.take N).set (k + j) z) = V' at *
  generalize val (o.take N) = V at *
  generalize o[k + j] = q at *
  generalize pw (k + j) = p at *
  subst e
  grind
theorem mul_end {o a b : List Nat} {k n N c x R : Nat} (hN : N < o.length) (ha : val (a.take (k + 1)) = val (a.take k) + pw k * x) (hn : val b = n) (hR : R = val (a.take k) * n)
    (hv : val (o.take N) + pw N * c = R + pw k * x * val (b.take b.length)) : val ((o.set N c).take (N + 1)) = val (a.take (k + 1)) * n := by
  rw [val_set_take o N c hN, hv, List.take_length, ha, hR, hn]
  grind
theorem mul_bound {x y q c : Nat} (hx : x < 4294967296) (hy : y < 4294967296) (hq : q < 4294967296) (hc : c < 4294967296) : x * y + q + c < 18446744073709551616 ∧ x * y ≤ 18446744065119617025 := by
  have h1 : x * y ≤ 4294967295 * 4294967295 := Nat.mul_le_mul (by omega) (by omega)
  omega
theorem mul_boundI {x y : Nat} (hx : x < 4294967296) (hy : y < 4294967296) : (0 : Int) ≤ (x : Int) * y ∧ (x : Int) * y ≤ 18446744065119617025 := by
  have h1 : x * y ≤ 4294967295 * 4294967295 := Nat.mul_le_mul (by omega) (by omega)
  have h2 : ((x * y : Nat) : Int) ≤ 18446744065119617025 := by omega
  rw [Int.natCast_mul] at h2
  exact ⟨Int.mul_nonneg (by omega) (by omega), h2⟩
theorem div_lt_32 {t : Nat} (h : t < 18446744073709551616) : t / 4294967296 < 4294967296 := by omega
theorem mul_cast (c x y q : Nat) : (c : Int) + ((x : Int) * y + q) = ((x * y + q + c : Nat) : Int) := by
  rw [Int.natCast_add, Int.natCast_add, Int.natCast_mul]; omega
end Go.Proofs.YtlpdkbmmbdfoiaaGreat
namespace Go.Proofs.YtlpdkbmmbdfoiaaGreat
set_option linter.unusedVariables false
set_option linter.unusedSimpArgs false
open Go.RowKit

/-- The address at which a slice begins. -/
def base : Value → Addr
  | .slice (some a) _ _ => a
  | _ => ⟨0, 0, none⟩
/-- The address of a slice's cell k. -/
def ptr (v : Value) (k : Nat) : Addr := (base v).add k
theorem add_add (a : Addr) (j k : Nat) : (a.add j).add k = a.add (j + k) := by
  unfold Addr.add
  by_cases hj : j = 0 <;> by_cases hk : k = 0 <;> simp [hj, hk]
  omega
theorem ptr_add (v : Value) (j k : Nat) : (ptr v j).add k = ptr v (j + k) := add_add _ _ _
theorem ptr_block (v : Value) (k : Nat) : (ptr v k).block = (base v).block := by
  unfold ptr Addr.add; split <;> rfl

/-- A slice's length, a slice's capacity. -/
def slen : Value → Nat
  | .slice _ n _ => n
  | _ => 0
def scap : Value → Nat
  | .slice _ _ c => c
  | _ => 0
/-- v is a slice (nil, or at an address). -/
def IsSl (v : Value) : Prop :=
  ∃ a n cap, v = .slice a n cap ∧ n ≤ cap ∧ cap ≤ maxLen ∧ (a = none → cap = 0)
theorem IsSl.nil : IsSl (.slice none 0 0) := ⟨none, 0, 0, rfl, Nat.le_refl _, by simp [maxLen], fun _ => rfl⟩
theorem IsSl.le {v : Value} (h : IsSl v) : slen v ≤ scap v ∧ scap v ≤ 9223372036854775807 := by
  obtain ⟨a, n, cap, rfl, h1, h2, _⟩ := h; simp [maxLen] at h2; simp [slen, scap]; omega

/-- 'v[:n]'. -/
def tk (v : Value) (n : Nat) : Value := match v with
  | .slice a _ cap => .slice a n cap
  | v => v
/-- 'v[:n:n]'. -/
def tk3 (v : Value) (n : Nat) : Value := match v with
  | .slice a _ _ => .slice a n n
  | v => v
/-- 'v[lo:hi]' over elements of 'size' cells. -/
def cut (size : Nat) (v : Value) (lo hi : Nat) : Value := match v with
  | .slice a _ cap => .slice (if cap = lo then a else a.map (·.add (lo * size))) (hi - lo) (cap - lo)
  | v => v
theorem IsSl.tk {v : Value} {m : Nat} (h : IsSl v) (hm : m ≤ scap v) : IsSl (tk v m) := by
  obtain ⟨a, n, cap, rfl, h1, h2, h3⟩ := h; exact ⟨a, m, cap, rfl, hm, h2, h3⟩
theorem IsSl.tk3 {v : Value} {m : Nat} (h : IsSl v) (hm : m ≤ scap v) : IsSl (tk3 v m) := by
  obtain ⟨a, n, cap, rfl, h1, h2, h3⟩ := h; simp only [scap] at hm; exact ⟨a, m, m, rfl, Nat.le_refl _, by omega, fun e => by have := h3 e; omega⟩
theorem IsSl.cut {v : Value} {size lo hi : Nat} (h : IsSl v) (hl : lo ≤ hi) (hh : hi ≤ scap v) : IsSl (cut size v lo hi) := by
  obtain ⟨a, n, cap, rfl, h1, h2, h3⟩ := h
  simp only [scap] at hh
  refine ⟨_, _, cap - lo, rfl, by omega, by omega, fun e => ?_⟩
  split at e
  · omega
  · have : a = none := by cases a <;> simp_all
    have := h3 this; omega
theorem IsSl.slen_tk {v : Value} (h : IsSl v) (m : Nat) : slen (Go.Proofs.YtlpdkbmmbdfoiaaGreat.tk v m) = m := by obtain ⟨a, n, cap, rfl, _⟩ := h; rfl
theorem IsSl.slen_tk3 {v : Value} (h : IsSl v) (m : Nat) : slen (Go.Proofs.YtlpdkbmmbdfoiaaGreat.tk3 v m) = m := by obtain ⟨a, n, cap, rfl, _⟩ := h; rfl
theorem IsSl.scap_tk {v : Value} (h : IsSl v) (m : Nat) : scap (Go.Proofs.YtlpdkbmmbdfoiaaGreat.tk v m) = scap v := by obtain ⟨a, n, cap, rfl, _⟩ := h; rfl
theorem IsSl.scap_tk3 {v : Value} (h : IsSl v) (m : Nat) : scap (Go.Proofs.YtlpdkbmmbdfoiaaGreat.tk3 v m) = m := by obtain ⟨a, n, cap, rfl, _⟩ := h; rfl
theorem IsSl.slen_cut {v : Value} (h : IsSl v) (size lo hi : Nat) : slen (Go.Proofs.YtlpdkbmmbdfoiaaGreat.cut size v lo hi) = hi - lo := by obtain ⟨a, n, cap, rfl, _⟩ := h; rfl
@[simp] theorem base_tk (v : Value) (m : Nat) : base (tk v m) = base v := by cases v <;> first | rfl | (rename_i a n c; cases a <;> rfl)
@[simp] theorem base_tk3 (v : Value) (m : Nat) : base (tk3 v m) = base v := by cases v <;> first | rfl | (rename_i a n c; cases a <;> rfl)
@[simp, go_sem] theorem ptr_tk (v : Value) (m k : Nat) : ptr (tk v m) k = ptr v k := by simp [ptr]
@[simp, go_sem] theorem ptr_tk3 (v : Value) (m k : Nat) : ptr (tk3 v m) k = ptr v k := by simp [ptr]
theorem ptr_cut {v : Value} {size lo hi k : Nat} (h : IsSl v) (hh : lo < scap v) : ptr (cut size v lo hi) k = ptr v (lo * size + k) := by
  obtain ⟨a, n, cap, rfl, h1, h2, h3⟩ := h
  simp only [scap] at hh
  cases a with
  | none => have := h3 rfl; omega
  | some a =>
    simp only [cut, ptr]
    rw [if_neg (by omega)]
    simp only [base, Option.map_some, add_add]

section
variable {P : Program} (w : World)
@[go_sem ↓] theorem run_len_sl {t ty : TypeId} {v : Value} (h : IsSl v) (ht : P.underlying t = some (.slice (P.elem t))) :
    (Builtin.len_ #[t] ty #[v]).run P w = .ok (.int .i64 (slen v)) w := by
  obtain ⟨a, n, cap, rfl, _⟩ := h
  simp [Builtin.len_, run_underlying ht, goInt, slen]
@[go_sem ↓] theorem run_index_sl {t : TypeId} {v : Value} {i : Int} (h : IsSl v) (ht : P.underlying t = some (.slice (P.elem t))) :
    (Instr.indexAt t v (.int .i64 i)).run P w =
      if 0 ≤ i ∧ i < slen v then ((sizeOf (P.elem t)).run P w).andThen fun s w => .ok (.pointer (some (ptr v (i.toNat * s)))) w
      else (boundsPanic .i64 i (slen v) .index).run P w := by
  obtain ⟨a, n, cap, rfl, hn, _, h3⟩ := h
  cases a with
  | none =>
    have := h3 rfl
    obtain rfl : n = 0 := by omega
    rw [if_neg (by simp only [slen]; omega)]
    simp [Instr.indexAt, run_underlying ht, asIntOf, slen]
  | some a =>
    by_cases hc : 0 ≤ i ∧ i < ((slen (.slice (some a) n cap) : Nat) : Int)
    · have hc' : 0 ≤ i ∧ i < (n : Int) := hc
      rw [if_pos hc]; simp [Instr.indexAt, run_underlying ht, asIntOf, hc', ptr, base]
    · have hc' : ¬ (0 ≤ i ∧ i < (n : Int)) := hc
      rw [if_neg hc]; simp [Instr.indexAt, run_underlying ht, asIntOf, hc', slen]
@[go_sem ↓] theorem run_slice_tk {t : TypeId} {v : Value} {m : Int} (h : IsSl v) (ht : P.underlying t = some (.slice (P.elem t))) (h0 : 0 ≤ m) (h1 : m ≤ scap v) :
    (Instr.slice t v none (some (.int .i64 m)) none).run P w = ((sizeOf (P.elem t)).run P w).andThen fun _ w => .ok (tk v m.toNat) w := by
  obtain ⟨a, n, cap, rfl, hn, _, h3⟩ := h
  simp only [scap] at h1
  simp [Instr.slice, run_underlying ht, Instr.sliceBounds, Instr.sliceBound, asIntOf, h0, h1, tk]
  cases a <;> simp [Addr.add]
@[go_sem ↓] theorem run_slice_tk3 {t : TypeId} {v : Value} {m : Int} (h : IsSl v) (ht : P.underlying t = some (.slice (P.elem t))) (h0 : 0 ≤ m) (h1 : m ≤ scap v) :
    (Instr.slice t v none (some (.int .i64 m)) (some (.int .i64 m))).run P w = ((sizeOf (P.elem t)).run P w).andThen fun _ w => .ok (tk3 v m.toNat) w := by
  obtain ⟨a, n, cap, rfl, hn, _, h3⟩ := h
  simp only [scap] at h1
  have e : (m.toNat : Int) = m := Int.toNat_of_nonneg h0
  simp [Instr.slice, run_underlying ht, Instr.sliceBounds, Instr.sliceBound, asIntOf, h0, h1, e, tk3]
  cases a <;> simp [Addr.add]
/-- What is not run: a slice out of its bounds. -/
def sliceElse (P : Program) (w : World) (t : TypeId) (v : Value) (lo hi : Value) : Result Value := (Instr.slice t v (some lo) (some hi) none).run P w
@[go_sem ↓] theorem run_slice_cut {t : TypeId} {v : Value} {lo hi : Int} (h : IsSl v) (ht : P.underlying t = some (.slice (P.elem t))) :
    (Instr.slice t v (some (.int .i64 lo)) (some (.int .i64 hi)) none).run P w =
      if 0 ≤ lo ∧ lo ≤ hi ∧ hi ≤ scap v then ((sizeOf (P.elem t)).run P w).andThen fun s w => .ok (cut s v lo.toNat hi.toNat) w else sliceElse P w t v (.int .i64 lo) (.int .i64 hi) := by
  obtain ⟨a, n, cap, rfl, hn, _, h3⟩ := h
  by_cases hc : 0 ≤ lo ∧ lo ≤ hi ∧ hi ≤ (scap (.slice a n cap) : Int)
  · have hc' := hc
    obtain ⟨h0, h1, h2⟩ := hc'
    simp only [scap] at h2
    rw [if_pos hc]
    have e : (hi.toNat : Int) = hi := Int.toNat_of_nonneg (by omega)
    have h00 : 0 ≤ hi := by omega
    simp [Instr.slice, run_underlying ht, Instr.sliceBounds, Instr.sliceBound, asIntOf, h0, h1, h00, h2, e, cut]
  · rw [if_neg hc]; rfl
@[go_sem ↓] theorem run_sliceAt_any {t : TypeId} {v : Value} {lo hi mx : Option Value} (h : P.underlying t = some (.slice (P.elem t))) :
    (Instr.sliceAt t v lo hi mx).run P w = (Instr.slice t v lo hi mx).run P w := by
  simp [Instr.sliceAt, run_underlying h]
end

theorem below_drewN {B : Nat} (w : World) (k : Nat) : Below B w (w.drewN k) := ⟨rfl, rfl, rfl, Nat.le_refl _, fun _ _ => rfl⟩
/-- v reads as the list of limbs l. -/
structure NatV (w : World) (v : Value) (l : List Nat) : Prop where
  sl : IsSl v
  len : slen v = l.length
  cell : ∀ (j : Nat) (h : j < l.length), w.cell? (ptr v j) = some (.int .u32 (l[j] : Nat))
  lm : Lm l
theorem NatV.nil (w : World) : NatV w (.slice none 0 0) [] := ⟨IsSl.nil, rfl, fun j h => by simp at h, fun x h => by simp at h⟩
theorem NatV.below {w w' : World} {v : Value} {l : List Nat} (h : NatV w v l) (hb : Below w.heap.size w w') : NatV w' v l :=
  ⟨h.sl, h.len, fun j hj => by
    have hc := h.cell j hj
    have hlt := World.block_lt_of_cell? w _ hc
    rw [hb.cell hlt]; exact hc, h.lm⟩
theorem NatV.tk {w : World} {v : Value} {l : List Nat} (h : NatV w v l) (n : Nat) (hn : n ≤ l.length) : NatV w (tk v n) (l.take n) := by
  have e : (l.take n).length = n := by simp; omega
  have := h.sl.le
  have := h.len
  refine ⟨h.sl.tk (by omega), by rw [e]; exact h.sl.slen_tk n, fun j hj => ?_, fun x hx => h.lm x (List.mem_of_mem_take hx)⟩
  have := h.cell j (by omega)
  simp [this]
theorem NatV.tk3 {w : World} {v : Value} {l : List Nat} (h : NatV w v l) (n : Nat) (hn : n ≤ l.length) : NatV w (tk3 v n) (l.take n) := by
  have e : (l.take n).length = n := by simp; omega
  have := h.sl.le
  have := h.len
  refine ⟨h.sl.tk3 (by omega), by rw [e]; exact h.sl.slen_tk3 n, fun j hj => ?_, fun x hx => h.lm x (List.mem_of_mem_take hx)⟩
  have := h.cell j (by omega)
  simp [this]
theorem NatV.cut {w : World} {v : Value} {l : List Nat} (h : NatV w v l) (lo hi : Nat) (hl : lo ≤ hi) (hh : hi ≤ l.length) : NatV w (cut 1 v lo hi) ((l.drop lo).take (hi - lo)) := by
  have e : ((l.drop lo).take (hi - lo)).length = hi - lo := by simp; omega
  have := h.sl.le
  have := h.len
  refine ⟨h.sl.cut hl (by omega), by rw [e]; exact h.sl.slen_cut 1 lo hi, fun j hj => ?_, fun x hx => h.lm x (List.mem_of_mem_drop (List.mem_of_mem_take hx))⟩
  rw [ptr_cut h.sl (by omega), Nat.mul_one, h.cell (lo + j) (by omega)]
  simp
theorem NatV.lt {w : World} {v : Value} {l : List Nat} (h : NatV w v l) (j : Nat) (hj : j < l.length) : l[j] < 4294967296 := h.lm _ (List.getElem_mem hj)
end Go.Proofs.YtlpdkbmmbdfoiaaGreat
namespace Go.Proofs.YtlpdkbmmbdfoiaaGreat
set_option linter.unusedVariables false
set_option linter.unusedSimpArgs false
open Go.RowKit

/-- v is a slice that the call made (nil, or at the head of a row in a block from B on), its elements are es, one cell each. -/
def OwnE (w : World) (e : TypeId) (B : Nat) (v : Value) (es : List Value) : Prop := w.ownsRow B e 1 v es.length es
section
variable {w : World} {e : TypeId} {B : Nat} {v : Value} {es : List Value}
theorem OwnE.nil (w : World) (e : TypeId) (B : Nat) : OwnE w e B (.slice none 0 0) [] := World.ownsRow_nil w B e 1
theorem OwnE.sl (h : OwnE w e B v es) : IsSl v := by
  rcases h.2 with ⟨rfl, h0⟩ | ⟨g, cap, cur, rfl, hb, hg, hn, hm, hs, ht⟩
  · exact IsSl.nil
  · exact ⟨_, _, _, rfl, hn, hm, fun e => by cases e⟩
theorem OwnE.len (h : OwnE w e B v es) : slen v = es.length := by
  rcases h.2 with ⟨rfl, h0⟩ | ⟨g, cap, cur, rfl, hb, hg, hn, hm, hs, ht⟩
  · rw [h0]; rfl
  · rfl
theorem OwnE.cell (h : OwnE w e B v es) (j : Nat) (hj : j < es.length) : w.cell? (ptr v j) = some es[j] := by
  rcases h.2 with ⟨rfl, h0⟩ | ⟨g, cap, cur, rfl, hb, hg, hn, hm, hs, ht⟩
  · omega
  · have := World.ownsRow.cellAt h j (by omega)
    simp only [ptr, base, Addr.add_lit, Nat.zero_add]
    rw [this, List.getElem?_eq_getElem hj]
theorem OwnE.frozen (h : OwnE w e B v es) (j : Nat) (hj : j < es.length) : w.frozen? (ptr v j) = false := by
  rcases h.2 with ⟨rfl, h0⟩ | ⟨g, cap, cur, rfl, hb, hg, hn, hm, hs, ht⟩
  · omega
  · have := World.ownsRow.frozenAt h j
    simpa only [ptr, base, Addr.add_lit, Nat.zero_add] using this
theorem OwnE.block (h : OwnE w e B v es) (hj : 0 < es.length) : B ≤ (base v).block ∧ (base v).block < w.heap.size := by
  rcases h.2 with ⟨rfl, h0⟩ | ⟨g, cap, cur, rfl, hb, hg, hn, hm, hs, ht⟩
  · omega
  · exact ⟨hb, (Array.getElem?_eq_some_iff.1 hg).1⟩
theorem below_of_grown {w w' : World} {row : Option Nat} {B : Nat} (hg : w.grownBy w' row) (hB : B ≤ w.heap.size) (hr : ∀ k, row = some k → B ≤ k) : Below B w w' :=
  (Below.refl B w).grown hg hB hr
theorem grown_of_below {w w' : World} (h : Below w.heap.size w w') : w.grownBy w' none :=
  ⟨h.os, h.tape, h.output, h.size, fun k hk _ => h.block k hk⟩
theorem OwnE.below {w' : World} (h : OwnE w e B v es) (hb : Below w.heap.size w w') : OwnE w' e B v es :=
  World.ownsRow.kept h (grown_of_below hb) (by cases hv : v.ownBlock <;> simp)
theorem OwnE.alloc (h : OwnE w e B v es) (o : Obj) : OwnE (w.alloc o) e B v es := World.ownsRow.alloc h o
theorem OwnE.set (h : OwnE w e B v es) (j : Nat) (hj : j < es.length) (u : Value) : OwnE (w.setCell (ptr v j) u) e B v (es.set j u) ∧ Below B w (w.setCell (ptr v j) u) := by
  have hbl := h.block (by omega)
  rcases h.2 with ⟨rfl, h0⟩ | ⟨g, cap, cur, rfl, hb, hg, hn, hm, hs, ht⟩
  · omega
  · have hs := World.ownsRow.stored h j u
    simp only [ptr, base, Addr.add_lit, Nat.zero_add]
    refine ⟨?_, below_of_grown hs.2 (by simp only [base] at hbl; omega) (fun k hk => by simp at hk; omega)⟩
    have := hs.1
    unfold OwnE
    rw [List.length_set]
    exact this
/-- Another row is written: its block is another. -/
theorem OwnE.other (h : OwnE w e B v es) (p : Addr) (u : Value) (hp : p.block ≠ (base v).block) : OwnE (w.setCell p u) e B v es := by
  refine ⟨h.1, ?_⟩
  rcases h.2 with ⟨rfl, h0⟩ | ⟨g, cap, cur, rfl, hb, hg, hn, hm, hs, ht⟩
  · exact .inl ⟨rfl, h0⟩
  · refine .inr ⟨g, cap, cur, rfl, hb, ?_, hn, hm, hs, ht⟩
    simp only [base] at hp
    rw [Below.heap_setCell _ _ _ _ (fun e => hp e.symm)]; exact hg
theorem OwnE.mono {B' : Nat} (h : OwnE w e B v es) (hB : B' ≤ B) : OwnE w e B' v es := by
  refine ⟨h.1, ?_⟩
  rcases h.2 with ⟨rfl, h0⟩ | ⟨g, cap, cur, rfl, hb, rest⟩
  · exact .inl ⟨rfl, h0⟩
  · exact .inr ⟨g, cap, cur, rfl, by omega, rest⟩
end

/-- make([]T, n), T of one cell. -/
theorem wpList_make_E {P : Program} (w : World) {ops : Array Oper} {rest : List Oper} {o : Oper} {a : Act} {Q : Exit → Act → World → Prop}
    (hg : o.guard = none) (l c : Operand) (t : TypeId) (hop : o.op = Op.makeSlice t l c)
    (B : Nat) (e : TypeId) (i : TypeInfo) (z : Value) (h1 : P.underlying t = some (.slice e)) (h2 : P.info? e = some i) (h3 : i.zero = some z) (h4 : i.size = 1) (hz1 : z.cells = #[z])
    (n : Nat) (hl : a.eval l = .int .i64 n) (hc : a.eval c = .int .i64 n) (b2 : i.bytes * n ≤ 281474976710656) (b3 : n ≤ maxLen) (b4 : B ≤ w.heap.size)
    (hK : ∀ v w', OwnE w' e B v (List.replicate n z) → Below w.heap.size w w' → w.heap.size ≤ (base v).block → wpList P ops Q rest (a.put o.dst v) w') :
    wpList P ops Q (o :: rest) a w := by
  refine wpList_make_full w hg l c t hop B e i z 1 h1 h2 h3 h4 .i64 .i64 n n n hl hc rfl rfl b2 b3 b4 ?_
  intro w' hown hgr
  refine hK _ w' ?_ (below_of_grown hgr (Nat.le_refl _) (fun k hk => by cases hk)) (by simp [base])
  have : (madeCells z.cells (n * 1)).toList = List.replicate n z := by rw [hz1, Nat.mul_one, toList_madeCells_one]
  rw [this] at hown
  unfold OwnE
  rw [List.length_replicate]
  exact hown

/-- append(s, x...), s the call's own, x any slice that reads as news. -/
theorem run_append_E {P : Program} (w : World) (B : Nat) (t ty e : TypeId) (i : TypeInfo) (z : Value) (bytes : Nat) (ht : P.underlying t = some (.slice e)) (hi : P.info? e = some i) (hz : i.zero = some z)
    (hsize : i.size = 1) (hby : i.bytes = bytes) (hzs : z.cells.size = 1)
    (v : Value) (es : List Value) (hown : OwnE w e B v es) (x : Value) (hx : IsSl x) (news : List Value) (hlen : slen x = news.length)
    (hnews : ∀ j (hj : j < news.length), w.cell? (ptr x j) = some news[j]) (h1 : ∀ u ∈ news, u.oneCell' = true)
    (h63 : es.length + news.length ≤ maxLen) (hbytes : (es.length + news.length) * bytes ≤ 140737488355328) (hbase : B ≤ w.heap.size) :
    ∃ v' w', (Builtin.append_ #[t, t] ty #[v, x]).run P w = .ok v' w' ∧ OwnE w' e B v' (es ++ news) ∧ w.grownBy w' v.ownBlock := by
  obtain ⟨a, n, cap, rfl, hnc, hcm, hnil⟩ := hx
  simp only [slen] at hlen
  subst hlen
  cases a with
  | none =>
    have := hnil rfl
    obtain rfl : cap = 0 := this
    have hn : news = [] := List.eq_nil_of_length_eq_zero (by omega)
    subst hn
    refine ⟨v, w, run_append_owned_none w B t ty e i 1 ht hi v es.length es hown, ?_, ⟨rfl, rfl, rfl, Nat.le_refl _, fun _ _ _ => rfl⟩⟩
    rw [List.append_nil]; exact hown
  | some a =>
    obtain ⟨v', w', h2, h3, h4, _⟩ := run_append_own (P := P) w B t ty e i z 1 bytes ht hi hz hsize hby hzs (by omega) v es.length es hown a news.length cap news (by omega)
      (fun j u hu => by
        have hj : j < news.length := (List.getElem?_eq_some_iff.1 hu).1
        have := hnews j hj
        simp only [ptr, base] at this
        rw [this]; rw [List.getElem?_eq_getElem hj] at hu; exact hu) h1 h63 hbytes hbase
    refine ⟨v', w', h2, ?_, h4⟩
    unfold OwnE
    rw [List.length_append]
    exact h3
theorem OwnE.ownBlock {w : World} {e : TypeId} {B : Nat} {v : Value} {es : List Value} (h : OwnE w e B v es) : ∀ k, v.ownBlock = some k → B ≤ k := fun k hk => (World.ownsRow.lt h k hk).1
theorem wpList_append_E {P : Program} (w : World) {ops : Array Oper} {rest : List Oper} {o : Oper} {a : Act} {Q : Exit → Act → World → Prop} (hgd : o.guard = none) (s x : Operand) (t : TypeId)
    (ho : o.op = .call { callee := .builtin .append, args := #[s, x], argTypes := #[t, t] })
    (B : Nat) (e : TypeId) (i : TypeInfo) (z : Value) (bytes : Nat) (ht : P.underlying t = some (.slice e)) (hi : P.info? e = some i) (hz : i.zero = some z)
    (hsize : i.size = 1) (hby : i.bytes = bytes) (hzs : z.cells.size = 1)
    (v : Value) (es : List Value) (hs : a.eval s = v) (hown : OwnE w e B v es) (xv : Value) (hxe : a.eval x = xv) (hx : IsSl xv) (news : List Value) (hlen : slen xv = news.length)
    (hnews : ∀ j (hj : j < news.length), w.cell? (ptr xv j) = some news[j]) (h1 : ∀ u ∈ news, u.oneCell' = true)
    (h63 : es.length + news.length ≤ maxLen) (hbytes : (es.length + news.length) * bytes ≤ 140737488355328) (hbase : B ≤ w.heap.size)
    (h : ∀ v' w', OwnE w' e B v' (es ++ news) → w.grownBy w' v.ownBlock → Below B w w' → wpList P ops Q rest (a.put o.dst v') w') : wpList P ops Q (o :: rest) a w := by
  refine wpList_plain hgd fun K hK => ?_
  obtain ⟨v', w', hr, h2, h3⟩ := run_append_E (P := P) w B t o.type e i z bytes ht hi hz hsize hby hzs v es hown xv hx news hlen hnews h1 h63 hbytes hbase
  unfold Oper.wp execOp
  simp only [ho, resolve, invoke, builtin, Sem.run_bind, Sem.run_pure, Result.andThen_ok, List.map_toArray, List.map_cons, List.map_nil, hs, hxe, hr]
  exact hK _ _ (h v' w' h2 h3 (below_of_grown h3 hbase hown.ownBlock))
/-- append(s, u), one element: it lies in a block of its own, just made. -/
theorem wpList_append1_E {P : Program} (w0 : World) {ops : Array Oper} {rest : List Oper} {o : Oper} {a : Act} {Q : Exit → Act → World → Prop} (hgd : o.guard = none) (s x : Operand) (t : TypeId)
    (ho : o.op = .call { callee := .builtin .append, args := #[s, x], argTypes := #[t, t] })
    (B : Nat) (e e' : TypeId) (i : TypeInfo) (z : Value) (bytes : Nat) (ht : P.underlying t = some (.slice e)) (hi : P.info? e = some i) (hz : i.zero = some z)
    (hsize : i.size = 1) (hby : i.bytes = bytes) (hzs : z.cells.size = 1)
    (v : Value) (es : List Value) (hs : a.eval s = v) (hown : OwnE w0 e B v es) (u : Value) (hxe : a.eval x = .slice (some ⟨w0.heap.size, 0, none⟩) 1 1) (h1 : u.oneCell' = true)
    (h63 : es.length + 1 ≤ maxLen) (hbytes : (es.length + 1) * bytes ≤ 140737488355328) (hbase : B ≤ w0.heap.size)
    (h : ∀ v' w', OwnE w' e B v' (es ++ [u]) → Below B w0 w' → wpList P ops Q rest (a.put o.dst v') w') : wpList P ops Q (o :: rest) a (w0.alloc (.cells #[u] e')) := by
  refine wpList_append_E (w0.alloc (.cells #[u] e')) hgd s x t ho B e i z bytes ht hi hz hsize hby hzs v es hs (hown.alloc _) _ hxe ⟨_, 1, 1, rfl, Nat.le_refl _, by simp [maxLen], fun e => by cases e⟩ [u] rfl
    (fun j hj => ?_) (fun u' hu' => by simp at hu'; subst hu'; exact h1) h63 hbytes (by simp; omega) (fun v' w' h2 _ h3 => h v' w' h2 (((Below.refl B w0).alloc hbase _).trans h3))
  have hj0 : j = 0 := by simp at hj; omega
  subst hj0
  simp [ptr, base, Addr.add]

/-- A number of 32 bits as a cell. -/
def u32V (x : Nat) : Value := .int .u32 (x : Nat)
/-- v is the call's own list of limbs. -/
structure OwnN (w : World) (e : TypeId) (B : Nat) (v : Value) (o : List Nat) : Prop where
  own : OwnE w e B v (o.map u32V)
  lm : Lm o
section
variable {w : World} {e : TypeId} {B : Nat} {v : Value} {o : List Nat}
theorem OwnN.nil (w : World) (e : TypeId) (B : Nat) : OwnN w e B (.slice none 0 0) [] := ⟨OwnE.nil w e B, fun x h => by simp at h⟩
theorem OwnN.nat (h : OwnN w e B v o) : NatV w v o :=
  ⟨h.own.sl, by rw [h.own.len, List.length_map], fun j hj => by rw [h.own.cell j (by simpa using hj)]; simp [u32V], h.lm⟩
theorem OwnN.below {w' : World} (h : OwnN w e B v o) (hb : Below w.heap.size w w') : OwnN w' e B v o := ⟨h.own.below hb, h.lm⟩
theorem OwnN.frozen (h : OwnN w e B v o) (j : Nat) (hj : j < o.length) : w.frozen? (ptr v j) = false := h.own.frozen j (by simpa using hj)
theorem OwnN.block (h : OwnN w e B v o) (hj : 0 < o.length) : B ≤ (base v).block ∧ (base v).block < w.heap.size := h.own.block (by simpa using hj)
theorem Lm.set {o : List Nat} (h : Lm o) (j x : Nat) (hx : x < 4294967296) : Lm (o.set j x) := fun y hy => by
  rcases List.mem_or_eq_of_mem_set hy with h' | h'
  · exact h y h'
  · omega
theorem Lm.append {o p : List Nat} (h : Lm o) (h' : Lm p) : Lm (o ++ p) := fun y hy => (List.mem_append.1 hy).elim (h y) (h' y)
theorem Lm.one {x : Nat} (h : x < 4294967296) : Lm [x] := fun y hy => by simp at hy; omega
theorem Lm.take {o : List Nat} (h : Lm o) (k : Nat) : Lm (o.take k) := fun y hy => h y (List.mem_of_mem_take hy)
theorem Lm.drop {o : List Nat} (h : Lm o) (k : Nat) : Lm (o.drop k) := fun y hy => h y (List.mem_of_mem_drop hy)
theorem Lm.replicate (n : Nat) : Lm (List.replicate n 0) := fun y hy => by have := List.eq_of_mem_replicate hy; omega
theorem OwnN.set (h : OwnN w e B v o) (j : Nat) (hj : j < o.length) (x : Nat) (hx : x < 4294967296) :
    OwnN (w.setCell (ptr v j) (.int .u32 (x : Nat))) e B v (o.set j x) ∧ Below B w (w.setCell (ptr v j) (.int .u32 (x : Nat))) := by
  have := h.own.set j (by simpa using hj) (u32V x)
  refine ⟨⟨?_, h.lm.set j x hx⟩, this.2⟩
  rw [List.map_set]; exact this.1
end
/-- append(s, x...), s the call's own list of limbs, x a list of limbs. -/
theorem append_nat {P : Program} (t e : TypeId) (i : TypeInfo) (ht : P.underlying t = some (.slice e)) (hi : P.info? e = some i) (hz : i.zero = some (.int .u32 0))
    (hsize : i.size = 1) (hby : i.bytes = 4) (w : World) {ops : Array Oper} {rest : List Oper} {o : Oper} {a : Act} {Q : Exit → Act → World → Prop} (hgd : o.guard = none) (s x : Operand)
    (ho : o.op = .call { callee := .builtin .append, args := #[s, x], argTypes := #[t, t] }) (B : Nat)
    (v : Value) (es : List Nat) (hs : a.eval s = v) (hown : OwnN w e B v es) (xv : Value) (hxe : a.eval x = xv) (l : List Nat) (hx : NatV w xv l) (hb : es.length + l.length ≤ 35184372088832) (hbase : B ≤ w.heap.size)
    (h : ∀ v' w', OwnN w' e B v' (es ++ l) → w.grownBy w' v.ownBlock → Below B w w' → wpList P ops Q rest (a.put o.dst v') w') : wpList P ops Q (o :: rest) a w := by
  refine wpList_append_E w hgd s x t ho B e i (.int .u32 0) 4 ht hi hz hsize hby rfl v (es.map u32V) hs hown.own xv hxe hx.sl (l.map u32V) (by rw [hx.len, List.length_map])
    (fun j hj => by rw [hx.cell j (by simpa using hj)]; simp [u32V]) (fun u hu => by obtain ⟨x, _, rfl⟩ := List.mem_map.1 hu; rfl)
    (by simp [maxLen]; omega) (by simp; omega) hbase ?_
  intro v' w' h2 h3 h4
  exact h v' w' ⟨by rw [List.map_append]; exact h2, hown.lm.append hx.lm⟩ h3 h4
/-- append(s, u), s the call's own list of limbs. -/
theorem append1_nat {P : Program} (t e : TypeId) (i : TypeInfo) (ht : P.underlying t = some (.slice e)) (hi : P.info? e = some i) (hz : i.zero = some (.int .u32 0))
    (hsize : i.size = 1) (hby : i.bytes = 4) (w0 : World) {ops : Array Oper} {rest : List Oper} {o : Oper} {a : Act} {Q : Exit → Act → World → Prop} (hgd : o.guard = none) (s x : Operand)
    (ho : o.op = .call { callee := .builtin .append, args := #[s, x], argTypes := #[t, t] }) (B : Nat) (e' : TypeId)
    (v : Value) (es : List Nat) (hs : a.eval s = v) (hown : OwnN w0 e B v es) (u : Int) (y : Nat) (hu : u = y) (hy : y < 4294967296) (hxe : a.eval x = .slice (some ⟨w0.heap.size, 0, none⟩) 1 1) (hb : es.length + 1 ≤ 35184372088832) (hbase : B ≤ w0.heap.size)
    (h : ∀ v' w', OwnN w' e B v' (es ++ [y]) → Below B w0 w' → wpList P ops Q rest (a.put o.dst v') w') : wpList P ops Q (o :: rest) a (w0.alloc (.cells #[.int .u32 u] e')) := by
  subst hu
  refine wpList_append1_E w0 hgd s x t ho B e e' i (.int .u32 0) 4 ht hi hz hsize hby rfl v (es.map u32V) hs hown.own (u32V y) hxe rfl (by simp [maxLen]; omega) (by simp; omega) hbase ?_
  intro v' w' h2 h4
  exact h v' w' ⟨by rw [List.map_append]; exact h2, hown.lm.append (Lm.one hy)⟩ h4
/-- make(api.Nat, n). -/
theorem make_nat {P : Program} (t e : TypeId) (i : TypeInfo) (h1 : P.underlying t = some (.slice e)) (h2 : P.info? e = some i) (h3 : i.zero = some (.int .u32 0)) (h4 : i.size = 1) (h5 : i.bytes = 4)
    (w : World) {ops : Array Oper} {rest : List Oper} {o : Oper} {a : Act} {Q : Exit → Act → World → Prop} (hg : o.guard = none) (l c : Operand) (hop : o.op = Op.makeSlice t l c)
    (B : Nat) (u : Int) (n : Nat) (hu : u = n) (hl : a.eval l = .int .i64 u) (hc : a.eval c = .int .i64 u) (b2 : n ≤ 35184372088832) (b4 : B ≤ w.heap.size)
    (hK : ∀ v w', OwnN w' e B v (List.replicate n 0) → Below w.heap.size w w' → w.heap.size ≤ (base v).block → wpList P ops Q rest (a.put o.dst v) w') :
    wpList P ops Q (o :: rest) a w := by
  subst hu
  refine wpList_make_E w hg l c t hop B e i (.int .u32 0) h1 h2 h3 h4 rfl n hl hc (by rw [h5]; omega) (by simp [maxLen]; omega) b4 ?_
  intro v w' a1 a2 a3
  exact hK v w' ⟨by rw [List.map_replicate]; exact a1, Lm.replicate n⟩ a2 a3
end Go.Proofs.YtlpdkbmmbdfoiaaGreat
