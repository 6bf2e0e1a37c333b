/-
  Long division by limbs: the normalization, the rounds put together, the rest. No program is named here.
-/
import Derived.Test.YtlpdkbmmbdfoiaaGreatCMath3
namespace Go.Proofs.YtlpdkbmmbdfoiaaGreat
set_option linter.unusedVariables false

theorem last_pos {n : Nat} (h : n ≠ 0) : ∀ (hl : nlen n - 1 < (limbs n).length), 0 < (limbs n)[nlen n - 1] := by
  intro hl
  have h0 : nlen n ≠ 0 := fun e => h (nlen_eq_zero.1 e)
  have h1 := val_take_succ (limbs n) (nlen n - 1) hl
  have e : nlen n - 1 + 1 = nlen n := by omega
  rw [e, List.take_of_length_le (show nlen n ≤ nlen n from Nat.le_refl _), val_limbs] at h1
  rcases Nat.eq_zero_or_pos ((limbs n)[nlen n - 1]) with h2 | h2
  · exfalso
    rw [h2, Nat.mul_zero, Nat.add_zero] at h1
    have h3 := val_take_lt (lm_limbs n) (nlen n - 1) (by omega)
    rw [← h1] at h3
    have := nlen_le.2 h3
    omega
  · exact h2
theorem pw_le_self {n : Nat} (h : n ≠ 0) : pw (nlen n - 1) ≤ n := by
  have h0 : nlen n ≠ 0 := fun e => h (nlen_eq_zero.1 e)
  exact pw_le_of_nlen (by omega)
/-- The divisor times 2^s has its highest bit. -/
theorem norm_top {n s x : Nat} {lu : List Nat} (hn : n ≠ 0) (hx : (limbs n)[nlen n - 1]? = some x) (h1 : 2147483648 ≤ x * 2 ^ s) (h2 : x * 2 ^ s < 4294967296) (hs : s < 32)
    (hl : lu.length = nlen n + 1) (hlm : Lm lu) (hv : val lu = 2 ^ s * n) :
    val (lu.take (nlen n)) = 2 ^ s * n ∧ 2147483648 ≤ lu[nlen n - 1]'(by omega) := by
  have h0 : nlen n ≠ 0 := fun e => hn (nlen_eq_zero.1 e)
  obtain ⟨hlt, rfl⟩ := List.getElem?_eq_some_iff.1 hx
  have e1 := val_take_succ (limbs n) (nlen n - 1) hlt
  have e0 : nlen n - 1 + 1 = nlen n := by omega
  rw [e0, List.take_of_length_le (show nlen n ≤ nlen n from Nat.le_refl _), val_limbs] at e1
  have e2 := val_take_lt (lm_limbs n) (nlen n - 1) (by omega)
  have e3 := val_take_succ lu (nlen n) (by omega)
  rw [List.take_of_length_le (by omega), hv] at e3
  have e4 := val_take_succ lu (nlen n - 1) (by omega)
  rw [e0] at e4
  have e5 := val_take_lt hlm (nlen n - 1) (by omega)
  have e6 : pw (nlen n) = 4294967296 * pw (nlen n - 1) := by rw [← pw_succ, e0]
  have hP := pw_pos (nlen n - 1)
  have h5 : ((limbs n)[nlen n - 1] + 1) * 2 ^ s ≤ 4294967296 := by
    have hpow : (4294967296 : Nat) = 2 ^ (32 - s) * 2 ^ s := by rw [← Nat.pow_add, Nat.sub_add_cancel (by omega)]
    rw [hpow] at h2 ⊢
    have := Nat.lt_of_mul_lt_mul_right h2
    exact Nat.mul_le_mul_right _ this
  generalize (limbs n)[nlen n - 1] = x at *
  generalize lu[nlen n] = t at *
  generalize lu[nlen n - 1]'(by omega) = y at *
  generalize val (lu.take (nlen n)) = A at *
  generalize val (lu.take (nlen n - 1)) = C at *
  generalize val ((limbs n).take (nlen n - 1)) = D at *
  rw [e6] at e3
  generalize pw (nlen n - 1) = P at *
  generalize 2 ^ s = S at *
  have hlt2 : S * n < 4294967296 * P := by
    have a1 : S * n < S * (P * (x + 1)) := by
      have : n < P * (x + 1) := by rw [Nat.mul_add, Nat.mul_one]; omega
      have hS : 0 < S := by
        rcases Nat.eq_zero_or_pos S with h | h
        · subst h; omega
        · exact h
      exact Nat.mul_lt_mul_of_pos_left this hS
    have a2 : S * (P * (x + 1)) = (x + 1) * S * P := by grind
    have a3 : (x + 1) * S * P ≤ 4294967296 * P := Nat.mul_le_mul_right P h5
    omega
  have ht : t = 0 := by
    rcases Nat.eq_zero_or_pos t with h | h
    · exact h
    · exfalso
      have : 4294967296 * P * 1 ≤ 4294967296 * P * t := Nat.mul_le_mul_left _ h
      omega
  subst ht
  rw [Nat.mul_zero, Nat.add_zero] at e3
  refine ⟨e3.symm, ?_⟩
  have b1 : 2147483648 * P ≤ S * n := by
    have c1 : 2147483648 * P ≤ x * S * P := Nat.mul_le_mul_right P h1
    have c2 : S * n = S * D + x * S * P := by rw [e1]; grind
    omega
  rcases Nat.lt_or_ge y 2147483648 with hy | hy
  · exfalso
    have : P * (y + 1) ≤ P * 2147483648 := Nat.mul_le_mul_left P hy
    rw [Nat.mul_add, Nat.mul_one] at this
    omega
  · exact hy
/-- The dividend is below the divisor times what the digits can give. -/
theorem div_begin {m n s : Nat} (hn : n ≠ 0) (h : n ≤ m) : 2 ^ s * m < 2 ^ s * n * pw (nlen m + 1 - nlen n) := by
  have h0 : nlen n ≠ 0 := fun e => hn (nlen_eq_zero.1 e)
  have h1 := pw_le_self hn
  have h2 := lt_pw_nlen m
  have h3 := nlen_mono h
  have h4 : pw (nlen m) = pw (nlen n - 1) * pw (nlen m + 1 - nlen n) := by rw [← pw_add]; congr 1; omega
  rw [Nat.mul_assoc]
  refine Nat.mul_lt_mul_of_pos_left ?_ (Nat.pow_pos (by decide))
  rw [h4] at h2
  exact Nat.lt_of_lt_of_le h2 (Nat.mul_le_mul_right _ h1)
/-- What a round of the division is over: the lower limbs, the part, the upper limbs (all zero). -/
theorem round_parts {o : List Nat} {j n V : Nat} (hl : j + n ≤ o.length) (hlm : Lm o) (hV : V < pw n) (ho : val o < V * (4294967296 * pw j)) (hj : j + (n + 1) ≤ o.length) :
    o = o.take j ++ (o.drop j).take (n + 1) ++ o.drop (j + (n + 1)) ∧ val o = val (o.take j) + pw j * val ((o.drop j).take (n + 1)) ∧ val ((o.drop j).take (n + 1)) < V * 4294967296 ∧ val (o.drop (j + (n + 1))) = 0 := by
  have e1 : o = o.take j ++ (o.drop j).take (n + 1) ++ o.drop (j + (n + 1)) := by
    rw [List.append_assoc, ← List.drop_drop, List.take_append_drop, List.take_append_drop]
  have e2 : val o = val (o.take j) + pw j * (val ((o.drop j).take (n + 1)) + pw (n + 1) * val (o.drop (j + (n + 1)))) := by
    have := congrArg val e1
    rw [List.append_assoc, val_append, val_append, List.length_take, List.length_take, List.length_drop, Nat.min_eq_left (by omega), Nat.min_eq_left (by omega)] at this
    exact this
  have hz : val (o.drop (j + (n + 1))) = 0 := by
    rcases Nat.eq_zero_or_pos (val (o.drop (j + (n + 1)))) with h | h
    · exact h
    · exfalso
      have a1 : pw (n + 1) * 1 ≤ pw (n + 1) * val (o.drop (j + (n + 1))) := Nat.mul_le_mul_left _ h
      have a2 : pw j * pw (n + 1) ≤ pw j * (val ((o.drop j).take (n + 1)) + pw (n + 1) * val (o.drop (j + (n + 1)))) := Nat.mul_le_mul_left _ (by omega)
      have a3 : V * (4294967296 * pw j) ≤ pw n * (4294967296 * pw j) := Nat.mul_le_mul_right _ (by omega)
      have a4 : pw j * pw (n + 1) = pw n * (4294967296 * pw j) := by rw [pw_succ]; grind
      omega
  rw [hz, Nat.mul_zero, Nat.add_zero] at e2
  refine ⟨e1, e2, ?_, hz⟩
  have b1 : pw j * val ((o.drop j).take (n + 1)) < pw j * (V * 4294967296) := by
    have : V * (4294967296 * pw j) = pw j * (V * 4294967296) := by grind
    omega
  exact Nat.lt_of_mul_lt_mul_left b1
/-- A round of the division, put together. -/
theorem round_total {M O O' A U V Q j q : Nat} (hM : M = V * (4294967296 * pw j) * Q + O) (hO : O = A + pw j * U) (hA : A < pw j) (hV : 0 < V) (hq : q = U / V) (hO' : O' = A + pw j * (U % V)) :
    M = V * pw j * (q + 4294967296 * Q) + O' ∧ O' < V * pw j := by
  have hd := Nat.div_add_mod U V
  have hm := Nat.mod_lt U hV
  rw [← hq] at hd
  generalize U % V = r at *
  constructor
  · subst hO' hO hM
    rw [← hd]
    grind
  · have h1 : pw j * (r + 1) ≤ pw j * V := Nat.mul_le_mul_left _ hm
    rw [Nat.mul_add, Nat.mul_one] at h1
    rw [Nat.mul_comm V]
    omega
/-- One limb of the rest, shifted down: P is 2^s. -/
theorem rest_limb {a b P : Nat} (k : Nat) (hP : P * k = 4294967296) (ha : a < 4294967296) : P * (((b * 4294967296 + a) / P) % 4294967296) + a % P = a + 4294967296 * (b % P) := by
  have hP0 : 0 < P := by
    rcases Nat.eq_zero_or_pos P with h | h
    · subst h; omega
    · exact h
  have h1 : (b * 4294967296 + a) / P = b * k + a / P := by
    have : b * 4294967296 + a = P * (b * k) + a := by rw [← hP]; grind
    rw [this, Nat.mul_add_div hP0]
  have h2 : b * k + a / P = P * k * (b / P) + (k * (b % P) + a / P) := by
    have := Nat.div_add_mod b P
    have e : b * k = (P * (b / P) + b % P) * k := by rw [this]
    rw [e]; grind
  have h3 : k * (b % P) + a / P < 4294967296 := by
    have hm := Nat.mod_lt b hP0
    have h4 : a / P < k := by rw [Nat.div_lt_iff_lt_mul hP0, Nat.mul_comm, hP]; exact ha
    have h5 : k * (b % P + 1) ≤ k * P := Nat.mul_le_mul_left _ hm
    rw [Nat.mul_add, Nat.mul_one, Nat.mul_comm k P, hP] at h5
    omega
  rw [h1, h2, hP, Nat.mul_add_mod, Nat.mod_eq_of_lt h3, Nat.mul_add]
  have h6 := Nat.div_add_mod a P
  have h7 : P * (k * (b % P)) = 4294967296 * (b % P) := by rw [← hP]; grind
  omega
/-- One round of the shift of the rest. -/
theorem rest_step {r o : List Nat} {k i P a b z : Nat} (hP : P * k = 4294967296) (hi : i < r.length) (ho : val (o.take (i + 1)) = val (o.take i) + pw i * a) (ha : a < 4294967296) (hz : z = ((b * 4294967296 + a) / P) % 4294967296) (c : Nat)
    (hv : P * val (r.take i) + c = val (o.take i) + pw i * (a % P)) :
    P * val ((r.set i z).take (i + 1)) + c = val (o.take (i + 1)) + pw (i + 1) * (b % P) := by
  have h := rest_limb (b := b) k hP ha
  rw [← hz] at h
  rw [val_set_take r i z hi, ho, pw_succ]
  have h2 : pw i * (P * z + a % P) = pw i * (a + 4294967296 * (b % P)) := by rw [h]
  generalize a % P = x at *
  generalize b % P = y at *
  grind
theorem div_finish {ou A p p' C qd lv : List Nat} {Q : Nat} (HM1 : val ou = val lv * pw (A.length + 1) * val (qd.drop (A.length + 1)) + val (A ++ p ++ C)) (hA : Lm A)
    (hov : val (A ++ p ++ C) = val A + pw A.length * val p) (hC : val C = 0) (hV : 0 < val lv) (hQ : val p / val lv = Q) (hp' : val p' = val p % val lv) (hqd : A.length < qd.length) :
    val ou = val lv * pw A.length * val ((qd.set A.length Q).drop A.length) + val (A ++ p' ++ C) ∧ val (A ++ p' ++ C) < val lv * pw A.length := by
  have e1 : val (A ++ p' ++ C) = val A + pw A.length * (val p % val lv) := by
    rw [List.append_assoc, val_append, val_append, hC, Nat.mul_zero, Nat.add_zero, hp']
  have e2 : val ((qd.set A.length Q).drop A.length) = Q + 4294967296 * val (qd.drop (A.length + 1)) := by
    rw [drop_set_of_lt qd _ _ hqd]; rfl
  rw [pw_succ] at HM1
  have := round_total HM1 hov (val_lt hA) hV hQ.symm e1
  rw [e2]
  exact this
theorem val_take_le (l : List Nat) (k : Nat) : val (l.take k) ≤ val l := by
  rcases Nat.lt_or_ge k l.length with h | h
  · have e : val l = val (l.take k ++ l.drop k) := by rw [List.take_append_drop]
    rw [e, val_append]; omega
  · rw [List.take_of_length_le h]; exact Nat.le_refl _
theorem limb_zero' {a P x Q y v : Nat} (e : v = a + P * x + Q * y) (hPQ : P ≤ Q) (h : v < P) : x = 0 ∧ a = v := by
  have h0 : x = 0 := by
    rcases Nat.eq_zero_or_pos x with h1 | h1
    · exact h1
    · have : P * 1 ≤ P * x := Nat.mul_le_mul_left _ h1
      omega
  have h2 : y = 0 := by
    rcases Nat.eq_zero_or_pos y with h1 | h1
    · exact h1
    · have a : Q * 1 ≤ Q * y := Nat.mul_le_mul_left _ h1
      omega
  subst h0 h2
  exact ⟨rfl, by simpa using e.symm⟩
theorem limb_zero {l : List Nat} {k : Nat} (hk : k < l.length) (h : val l < pw k) : l[k] = 0 ∧ val (l.take k) = val l :=
  limb_zero' (val_split l k hk) (pw_le (Nat.le_succ k)) h
/-- The quotient and the rest, read off the end of the rounds. -/
theorem div_read' {m n P q o V : Nat} (hn : n ≠ 0) (hP : 0 < P) (hV : V = P * n) (h1 : P * m = V * q + o) (h2 : o < V) : q = m / n ∧ o = P * (m % n) := by
  subst hV
  have hn' : 0 < n := Nat.pos_of_ne_zero hn
  have hq : q = m / n := by
    have a1 : (P * m) / (P * n) = m / n := Nat.mul_div_mul_left _ _ hP
    have a2 : (P * m) / (P * n) = q := by
      rw [h1, Nat.mul_add_div (Nat.mul_pos hP hn'), Nat.div_eq_of_lt h2, Nat.add_zero]
    rw [← a1, a2]
  refine ⟨hq, ?_⟩
  have a1 : (P * m) % (P * n) = P * (m % n) := Nat.mul_mod_mul_left _ _ _
  have a2 : (P * m) % (P * n) = o := by
    rw [h1, Nat.mul_add_mod, Nat.mod_eq_of_lt h2]
  rw [← a1, a2]
theorem div_read {m n s q o V : Nat} (hn : n ≠ 0) (hV : V = 2 ^ s * n) (h1 : 2 ^ s * m = V * q + o) (h2 : o < V) : q = m / n ∧ o = 2 ^ s * (m % n) :=
  div_read' hn (Nat.pow_pos (by decide)) hV h1 h2
theorem rest_read {P r o c x : Nat} (hP : 0 < P) (h : P * r + c = o) (hc : c < P) (ho : o = P * x) : r = x := by
  subst ho
  have h1 : (P * r + c) / P = r := by rw [Nat.mul_add_div hP, Nat.div_eq_of_lt hc, Nat.add_zero]
  rw [h, Nat.mul_div_cancel_left _ hP] at h1
  exact h1.symm
theorem rest_end' {o r : List Nat} {k P K x : Nat} (hP : 0 < P) (hl : k < o.length) (h0 : 0 < o.length) (z : o[k] = 0 ∧ val (o.take k) = val o) (ho : val o = P * x) (hr : r.length = k)
    (h : P * val (r.take k) + o[0] % P = val (o.take k) + K * ((o[k]?.getD 0) % P)) : val r = x := by
  rw [z.2, ho, List.getElem?_eq_getElem hl, z.1, List.take_of_length_le (Nat.le_of_eq hr)] at h
  rw [show (some 0).getD 0 = 0 from rfl, Nat.zero_mod, Nat.mul_zero, Nat.add_zero] at h
  exact rest_read hP h (Nat.mod_lt _ hP) rfl
theorem rest_end {o r : List Nat} {k s x : Nat} (hl : k < o.length) (h0 : 0 < o.length) (z : o[k] = 0 ∧ val (o.take k) = val o) (ho : val o = 2 ^ s * x) (hr : r.length = k)
    (h : 2 ^ s * val (r.take k) + o[0] % 2 ^ s = val (o.take k) + pw k * ((o[k]?.getD 0) % 2 ^ s)) : val r = x :=
  rest_end' (Nat.pow_pos (by decide)) hl h0 z ho hr h
end Go.Proofs.YtlpdkbmmbdfoiaaGreat
