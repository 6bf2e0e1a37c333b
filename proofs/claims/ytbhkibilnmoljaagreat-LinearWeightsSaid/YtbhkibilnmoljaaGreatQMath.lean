/-
  Plain facts on lists of limbs and the numbers that they denote. No program is named here.
-/
namespace Go.Proofs.YtbhkibilnmoljaaGreat
set_option linter.unusedVariables false
set_option linter.unusedSimpArgs false

/-- The number of a list of limbs, the least one first. -/
def val : List Nat → Nat
  | [] => 0
  | x :: l => x + 4294967296 * val l
/-- Limbs. -/
def Lm (l : List Nat) : Prop := ∀ x ∈ l, x < 4294967296
/-- The length without the zero limbs at the end. -/
def clen : List Nat → Nat
  | [] => 0
  | x :: l => if clen l = 0 then (if x = 0 then 0 else 1) else clen l + 1
theorem clen_le (l : List Nat) : clen l ≤ l.length := by
  induction l with
  | nil => simp [clen]
  | cons x l ih => simp only [clen, List.length_cons]; split <;> (try split) <;> omega
theorem clen_snoc (l : List Nat) (x : Nat) : clen (l ++ [x]) = if x = 0 then clen l else l.length + 1 := by
  induction l with
  | nil => simp [clen]
  | cons y l ih =>
    simp only [List.cons_append, clen, ih, List.length_cons]
    by_cases hx : x = 0
    · simp [hx]
    · simp [hx]
theorem take_snoc {α : Type} (l : List α) (k : Nat) (h : k < l.length) : l.take (k + 1) = l.take k ++ [l[k]] := by
  rw [List.take_succ_eq_append_getElem h]
theorem clen_take_zero (l : List Nat) (k : Nat) (h : k < l.length) (h0 : l[k] = 0) : clen (l.take (k + 1)) = clen (l.take k) := by
  rw [take_snoc l k h, clen_snoc, if_pos h0]
theorem clen_take_pos (l : List Nat) (k : Nat) (h : k < l.length) (h0 : l[k] ≠ 0) : clen (l.take (k + 1)) = k + 1 := by
  rw [take_snoc l k h, clen_snoc, if_neg h0, List.length_take]; omega

/-- 2^(32 k). -/
def pw (k : Nat) : Nat := 4294967296 ^ k
theorem pw_zero : pw 0 = 1 := rfl
theorem pw_succ (k : Nat) : pw (k + 1) = 4294967296 * pw k := by unfold pw; rw [Nat.pow_succ, Nat.mul_comm]
theorem pw_pos (k : Nat) : 0 < pw k := Nat.pow_pos (by decide)
theorem pw_add (j k : Nat) : pw (j + k) = pw j * pw k := by unfold pw; rw [Nat.pow_add]
theorem pw_le {j k : Nat} (h : j ≤ k) : pw j ≤ pw k := Nat.pow_le_pow_right (by decide) h
theorem val_append (a b : List Nat) : val (a ++ b) = val a + pw a.length * val b := by
  induction a with
  | nil => simp [val, pw_zero]
  | cons x a ih =>
    simp only [List.cons_append, val, ih, List.length_cons, pw_succ]
    rw [Nat.mul_add, Nat.mul_assoc]; omega
theorem val_lt {l : List Nat} (h : Lm l) : val l < pw l.length := by
  induction l with
  | nil => simp [val, pw_zero]
  | cons x l ih =>
    have h1 := ih (fun y hy => h y (by simp [hy]))
    have h2 := h x (by simp)
    simp only [val, List.length_cons, pw_succ]
    omega
theorem val_take_succ (l : List Nat) (k : Nat) (h : k < l.length) : val (l.take (k + 1)) = val (l.take k) + pw k * l[k] := by
  rw [take_snoc l k h, val_append, List.length_take, Nat.min_eq_left (by omega)]; simp [val]
theorem val_take_of_le (l : List Nat) (k : Nat) (h : l.length ≤ k) : val (l.take k) = val l := by rw [List.take_of_length_le h]
theorem val_clen (l : List Nat) : val (l.take (clen l)) = val l := by
  induction l with
  | nil => simp [val]
  | cons x l ih =>
    simp only [clen]
    by_cases h : clen l = 0
    · rw [if_pos h]
      rw [h] at ih
      simp only [List.take_zero, val] at ih
      by_cases hx : x = 0
      · simp [hx, val, ← ih]
      · simp [hx, val, ← ih]
    · rw [if_neg h]
      simp only [List.take_succ_cons, val, ih]
theorem val_replicate (n : Nat) : val (List.replicate n 0) = 0 := by
  induction n with
  | zero => rfl
  | succ n ih => simp [List.replicate_succ, val, ih]
theorem val_zero_clen {l : List Nat} : val l = 0 ↔ clen l = 0 := by
  induction l with
  | nil => simp [val, clen]
  | cons x l ih =>
    simp only [val, clen]
    by_cases h : clen l = 0
    · rw [if_pos h]; have := ih.2 h; by_cases hx : x = 0 <;> simp [hx, this]
    · rw [if_neg h]; have : val l ≠ 0 := fun e => h (ih.1 e); omega

/-- The canonical limbs of a number. -/
def limbs (n : Nat) : List Nat := if h : n = 0 then [] else n % 4294967296 :: limbs (n / 4294967296)
termination_by n
decreasing_by exact Nat.div_lt_self (by omega) (by decide)
theorem limbs_zero : limbs 0 = [] := by rw [limbs]; simp
theorem limbs_pos {n : Nat} (h : n ≠ 0) : limbs n = n % 4294967296 :: limbs (n / 4294967296) := by rw [limbs]; simp [h]
theorem limbs_spec (n : Nat) : val (limbs n) = n ∧ Lm (limbs n) ∧ clen (limbs n) = (limbs n).length := by
  induction n using Nat.strongRecOn with
  | _ n ih =>
    by_cases h : n = 0
    · subst h; rw [limbs_zero]; exact ⟨rfl, fun x h => by simp at h, rfl⟩
    · rw [limbs_pos h]
      obtain ⟨h1, h2, h3⟩ := ih (n / 4294967296) (Nat.div_lt_self (by omega) (by decide))
      refine ⟨by simp only [val, h1]; omega, fun x hx => ?_, ?_⟩
      · rcases List.mem_cons.1 hx with rfl | hx
        · omega
        · exact h2 x hx
      · simp only [clen, List.length_cons]
        by_cases h0 : clen (limbs (n / 4294967296)) = 0
        · have hv := val_zero_clen.2 h0
          rw [h1] at hv
          rw [if_pos h0, if_neg (by omega)]; omega
        · rw [if_neg h0]; omega
theorem val_limbs (n : Nat) : val (limbs n) = n := (limbs_spec n).1
theorem lm_limbs (n : Nat) : Lm (limbs n) := (limbs_spec n).2.1
theorem clen_limbs (n : Nat) : clen (limbs n) = (limbs n).length := (limbs_spec n).2.2
theorem limbs_val {l : List Nat} (h : Lm l) : limbs (val l) = l.take (clen l) := by
  induction l with
  | nil => simp [val, clen, limbs_zero]
  | cons x l ih =>
    have h1 := ih (fun y hy => h y (by simp [hy]))
    have h2 := h x (by simp)
    by_cases h0 : clen l = 0
    · have hv := val_zero_clen.2 h0
      simp only [val, clen, if_pos h0, hv]
      by_cases hx : x = 0
      · simp [hx, limbs_zero]
      · rw [if_neg hx, limbs_pos (by omega), show (x + 4294967296 * 0) / 4294967296 = 0 from by omega, limbs_zero, show (x + 4294967296 * 0) % 4294967296 = x from by omega]; simp
    · have hv : val l ≠ 0 := fun e => h0 (val_zero_clen.1 e)
      simp only [val, clen, if_neg h0]
      rw [limbs_pos (by omega), show (x + 4294967296 * val l) % 4294967296 = x from by omega, show (x + 4294967296 * val l) / 4294967296 = val l from by omega, h1]
      simp
/-- The number of limbs of a number. -/
def nlen (n : Nat) : Nat := (limbs n).length
theorem nlen_zero : nlen 0 = 0 := by simp [nlen, limbs_zero]
theorem nlen_pos {n : Nat} (h : n ≠ 0) : nlen n = nlen (n / 4294967296) + 1 := by simp [nlen, limbs_pos h]
theorem nlen_eq_zero {n : Nat} : nlen n = 0 ↔ n = 0 := by
  constructor
  · intro h; by_cases h0 : n = 0
    · exact h0
    · rw [nlen_pos h0] at h; omega
  · rintro rfl; exact nlen_zero
theorem clen_eq {l : List Nat} (h : Lm l) : clen l = nlen (val l) := by
  unfold nlen; rw [limbs_val h, List.length_take]; have := clen_le l; omega
theorem lt_pw_nlen (n : Nat) : n < pw (nlen n) := by
  have := val_lt (lm_limbs n); rw [val_limbs] at this; exact this
theorem nlen_le {n k : Nat} : nlen n ≤ k ↔ n < pw k := by
  constructor
  · intro h; exact Nat.lt_of_lt_of_le (lt_pw_nlen n) (pw_le h)
  · induction k generalizing n with
    | zero => intro h; simp [pw_zero] at h; subst h; simp [nlen_zero]
    | succ k ih =>
      intro h
      by_cases h0 : n = 0
      · subst h0; simp [nlen_zero]
      · rw [nlen_pos h0]
        have := @ih (n / 4294967296) (by rw [pw_succ] at h; omega)
        omega
theorem nlen_mono {m n : Nat} (h : m ≤ n) : nlen m ≤ nlen n := nlen_le.2 (Nat.lt_of_le_of_lt h (lt_pw_nlen n))
theorem pw_le_of_nlen {n k : Nat} (h : k < nlen n) : pw k ≤ n := Nat.le_of_not_lt fun h' => by have := nlen_le.2 h'; omega
theorem val_inj_can {a b : List Nat} (ha : Lm a) (hb : Lm b) (ca : clen a = a.length) (cb : clen b = b.length) (h : val a = val b) : a = b := by
  have h1 := limbs_val ha
  have h2 := limbs_val hb
  rw [ca, List.take_length] at h1
  rw [cb, List.take_length] at h2
  rw [← h1, ← h2, h]
theorem limbs_inj {m n : Nat} (h : limbs m = limbs n) : m = n := by rw [← val_limbs m, ← val_limbs n, h]

theorem take_set_succ {α : Type} (o : List α) (k : Nat) (z : α) (h : k < o.length) : (o.set k z).take (k + 1) = o.take k ++ [z] := by
  rw [take_snoc _ k (by simpa using h), List.take_set_of_le (Nat.le_refl _)]
  simp
theorem val_set_take (o : List Nat) (k z : Nat) (h : k < o.length) : val ((o.set k z).take (k + 1)) = val (o.take k) + pw k * z := by
  rw [take_set_succ o k z h, val_append, List.length_take, Nat.min_eq_left (by omega)]; simp [val]
/-- One round of an addition. -/
theorem add_step {o a b : List Nat} {k c x y : Nat} (hk : k < o.length) (ha : val (a.take (k + 1)) = val (a.take k) + pw k * x) (hb : val (b.take (k + 1)) = val (b.take k) + pw k * y)
    (hv : val (o.take k) + pw k * c = val (a.take k) + val (b.take k)) :
    val ((o.set k ((c + x + y) % 4294967296)).take (k + 1)) + pw (k + 1) * ((c + x + y) / 4294967296) = val (a.take (k + 1)) + val (b.take (k + 1)) := by
  rw [val_set_take o k _ hk, ha, hb, pw_succ]
  have h : (c + x + y) % 4294967296 + 4294967296 * ((c + x + y) / 4294967296) = c + x + y := by omega
  generalize (c + x + y) % 4294967296 = z at *
  generalize (c + x + y) / 4294967296 = d at *
  grind
theorem take_succ_of_le {α : Type} (l : List α) (k : Nat) (h : l.length ≤ k) : l.take (k + 1) = l.take k := by
  rw [List.take_of_length_le h, List.take_of_length_le (by omega)]

/-- -1, 0 or 1. -/
def cmpN (m n : Nat) : Int := if m < n then -1 else if n < m then 1 else 0
theorem cmpN_lt {m n : Nat} (h : m < n) : cmpN m n = -1 := by simp [cmpN, h]
theorem cmpN_gt {m n : Nat} (h : n < m) : cmpN m n = 1 := by unfold cmpN; rw [if_neg (by omega), if_pos h]
theorem cmpN_eq {m n : Nat} (h : m = n) : cmpN m n = 0 := by subst h; unfold cmpN; rw [if_neg (by omega), if_neg (by omega)]
theorem lt_of_nlen {m n : Nat} (h : nlen m < nlen n) : m < n := Nat.lt_of_not_le fun h' => by have := nlen_mono h'; omega
theorem val_split (l : List Nat) (k : Nat) (h : k < l.length) : val l = val (l.take k) + pw k * l[k] + pw (k + 1) * val (l.drop (k + 1)) := by
  have e : val l = val (l.take (k + 1) ++ l.drop (k + 1)) := by rw [List.take_append_drop]
  rw [e, val_append, List.length_take, Nat.min_eq_left (by omega), val_take_succ l k h]
theorem val_lt_of_top {a b : List Nat} (ha : Lm a) (k : Nat) (h1 : k < a.length) (h2 : k < b.length) (hd : a.drop (k + 1) = b.drop (k + 1)) (h : a[k] < b[k]) : val a < val b := by
  rw [val_split a k h1, val_split b k h2, hd]
  have h3 : val (a.take k) < pw k := by
    have := val_lt (l := a.take k) (fun x hx => ha x (List.mem_of_mem_take hx))
    rwa [List.length_take, Nat.min_eq_left (by omega)] at this
  have h4 : pw k * (a[k] + 1) ≤ pw k * b[k] := Nat.mul_le_mul_left _ h
  rw [Nat.mul_add, Nat.mul_one] at h4
  omega
theorem drop_eq_of {a b : List Nat} (k : Nat) (h1 : k < a.length) (h2 : k < b.length) (hd : a.drop (k + 1) = b.drop (k + 1)) (h : a[k] = b[k]) : a.drop k = b.drop k := by
  rw [List.drop_eq_getElem_cons h1, List.drop_eq_getElem_cons h2, hd, h]
/-- One round of a subtraction: x - bo - y is z - 2^32 bo'. -/
theorem sub_step {o a b : List Nat} {k bo x y z bo' : Nat} (hk : k < o.length) (ha : val (a.take (k + 1)) = val (a.take k) + pw k * x) (hb : val (b.take (k + 1)) = val (b.take k) + pw k * y)
    (hz : z + bo + y = x + 4294967296 * bo') (hv : val (o.take k) + val (b.take k) = val (a.take k) + pw k * bo) :
    val ((o.set k z).take (k + 1)) + val (b.take (k + 1)) = val (a.take (k + 1)) + pw (k + 1) * bo' := by
  rw [val_set_take o k _ hk, ha, hb, pw_succ]
  grind

theorem val_set (l : List Nat) (i z : Nat) (h : i < l.length) : val (l.set i z) + pw i * l[i] = val l + pw i * z := by
  induction l generalizing i with
  | nil => simp at h
  | cons x l ih =>
    cases i with
    | zero => simp [val, pw_zero]; omega
    | succ i =>
      have := ih i (by simpa using h)
      simp only [List.set_cons_succ, val, pw_succ, List.getElem_cons_succ]
      grind
/-- One round of the inner loop of a multiplication. -/
theorem mul_step {o b : List Nat} {k j N R c x y z c' : Nat} (hN : k + j < N) (hl : N ≤ o.length) (hb : val (b.take (j + 1)) = val (b.take j) + pw j * y)
    (hv : val (o.take N) + pw (k + j) * c = R + pw k * x * val (b.take j)) (hz : z + 4294967296 * c' = x * y + o[k + j] + c) :
    val ((o.set (k + j) z).take N) + pw (k + (j + 1)) * c' = R + pw k * x * val (b.take (j + 1)) := by
  have h1 := val_set (o.take N) (k + j) z (by simp; omega)
  rw [List.getElem_take] at h1
  rw [List.take_set, hb, ← Nat.add_assoc, pw_succ]
  have e := pw_add k j
  generalize val ((o.take N).set (k + j) z) = V' at *
  generalize val (o.take N) = V at *
  generalize o[k + j] = q at *
  generalize pw (k + j) = p at *
  subst e
  grind
theorem mul_end {o a b : List Nat} {k n N c x R : Nat} (hN : N < o.length) (ha : val (a.take (k + 1)) = val (a.take k) + pw k * x) (hn : val b = n) (hR : R = val (a.take k) * n)
    (hv : val (o.take N) + pw N * c = R + pw k * x * val (b.take b.length)) : val ((o.set N c).take (N + 1)) = val (a.take (k + 1)) * n := by
  rw [val_set_take o N c hN, hv, List.take_length, ha, hR, hn]
  grind
theorem mul_bound {x y q c : Nat} (hx : x < 4294967296) (hy : y < 4294967296) (hq : q < 4294967296) (hc : c < 4294967296) : x * y + q + c < 18446744073709551616 ∧ x * y ≤ 18446744065119617025 := by
  have h1 : x * y ≤ 4294967295 * 4294967295 := Nat.mul_le_mul (by omega) (by omega)
  omega
theorem mul_boundI {x y : Nat} (hx : x < 4294967296) (hy : y < 4294967296) : (0 : Int) ≤ (x : Int) * y ∧ (x : Int) * y ≤ 18446744065119617025 := by
  have h1 : x * y ≤ 4294967295 * 4294967295 := Nat.mul_le_mul (by omega) (by omega)
  have h2 : ((x * y : Nat) : Int) ≤ 18446744065119617025 := by omega
  rw [Int.natCast_mul] at h2
  exact ⟨Int.mul_nonneg (by omega) (by omega), h2⟩
theorem div_lt_32 {t : Nat} (h : t < 18446744073709551616) : t / 4294967296 < 4294967296 := by omega
theorem mul_cast (c x y q : Nat) : (c : Int) + ((x : Int) * y + q) = ((x * y + q + c : Nat) : Int) := by
  rw [Int.natCast_add, Int.natCast_add, Int.natCast_mul]; omega
end Go.Proofs.YtbhkibilnmoljaaGreat
