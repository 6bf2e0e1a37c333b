/-
  Tape.Chain, the inner loop's state. No code is walked here.
  Ahead of it: The chains of a tape. No program is named here. The chain of a tape in the making: the plain facts. No program is named here.
-/
import Derived.Test.YtoldfpkafcefnaaQLu6
import Derived.Test.YtoldfpkafcefnaaQSa4
import Derived.Test.YtoldfpkafcefnaaQTa4
namespace Go.Proofs.Ytoldfpkafcefnaa
set_option linter.unusedVariables false

/-- A small fraction. -/
def smallQ (q : Rat) : Prop := ∃ a b : Nat, a ≤ 4 ∧ 1 ≤ b ∧ b ≤ 4 ∧ q = fq false a b
theorem smallQ.zero : smallQ 0 := ⟨0, 1, by decide, by decide, by decide, by decide⟩
theorem smallQ.cases (P : Rat → Prop) [DecidablePred P] (h : ∀ a, a < 5 → ∀ b, b < 5 → b ≠ 0 → P (fq false a b)) {q : Rat} (hq : smallQ q) : P q := by
  obtain ⟨a, b, h1, h2, h3, rfl⟩ := hq
  exact h a (by omega) b (by omega) (by omega)
theorem smallQ.nonneg {q : Rat} (h : smallQ q) : ¬ q < 0 := smallQ.cases (fun q => ¬ q < 0) (by decide) h
theorem smallQ.wt {q : Rat} (h : smallQ q) : wt q ≤ 6 := smallQ.cases (fun q => Go.Proofs.Ytoldfpkafcefnaa.wt q ≤ 6) (by decide) h
theorem smallQ.num {q : Rat} (h : smallQ q) : q.num.natAbs ≤ 4 := smallQ.cases (fun q => q.num.natAbs ≤ 4) (by decide) h
theorem smallQ.den {q : Rat} (h : smallQ q) : q.den ≤ 4 := smallQ.cases (fun q => q.den ≤ 4) (by decide) h
theorem nbits_small {n : Nat} (h : n ≤ 4) : nbits n ≤ 3 := nbits_le.2 (by omega)
theorem nlen_small {n : Nat} (h : n ≤ 4) : nlen n ≤ 4 := nlen_le.2 (by simp [pw]; omega)
theorem smallQ.fits {q : Rat} (h : smallQ q) : fits q := ⟨Nat.le_trans (nbits_small h.num) (by decide), Nat.le_trans (nbits_small h.den) (by decide)⟩
/-- A chain of a tape. -/
structure tapeP (c : CQ) : Prop where
  n2 : 2 ≤ c.start.length
  n5 : c.start.length ≤ 5
  ll : c.lost.length = c.start.length
  rl : c.rates.length = c.start.length
  st : ∀ q ∈ c.start, smallQ q
  sum : lsum c.start = 1
  rows : ∀ (i : Nat) (r : List Rat), c.rates[i]? = some r → r.length = c.start.length ∧ (∀ q ∈ r, smallQ q) ∧ (∀ x : Rat, r[i]? = some x → x = 0) ∧ (c.lost[i]? = some true → ∀ q ∈ r, q = 0)
theorem wts_small {l : List Rat} (h : ∀ q ∈ l, smallQ q) : wts l ≤ 6 * l.length := by
  induction l with
  | nil => simp [wts]
  | cons x l ih =>
    have h1 := (h x (by simp)).wt
    have h2 := ih (fun q hq => h q (by simp [hq]))
    rw [wts_cons, List.length_cons]
    omega
theorem qs_of (l : List Rat) : qs (l.map RF.of) = l := by
  unfold qs
  rw [List.map_map]
  conv => rhs; rw [← List.map_id l]
  exact List.map_congr_left (fun q _ => RF.of_q q)
theorem rowP_small {l : List Rat} {n : Nat} (hn : l.length = n) (hn5 : n ≤ 5) (h : ∀ q ∈ l, smallQ q) : rowP (l.map RF.of) n := by
  refine ⟨fun x hx => ?_, by rw [List.length_map]; exact hn, by rw [qs_of]; have := wts_small h; omega⟩
  obtain ⟨q, hq, rfl⟩ := List.mem_map.1 hx
  have hs := h q hq
  refine ⟨RF.of_ok hs.fits, ?_⟩
  rw [RF.of_q]
  exact ⟨hs.nonneg, nlen_small hs.num, nlen_small hs.den⟩
theorem tapeP.valid {c : CQ} (h : tapeP c) : validP c.raw := by
  obtain ⟨n2, n5, ll, rl, st, sum, rows⟩ := h
  refine ⟨by simp [CQ.raw]; omega, by simp [CQ.raw]; omega, by simp [CQ.raw]; exact ll, by simp [CQ.raw]; exact rl, ?_, fun i r hr => ?_, ?_⟩
  · have := rowP_small (n := c.start.length) rfl n5 st
    simpa [CQ.raw] using this
  · simp only [CQ.raw, List.getElem?_map, Option.map_eq_some_iff] at hr
    obtain ⟨r', hr', rfl⟩ := hr
    obtain ⟨k1, k2, k3, k4⟩ := rows i r' hr'
    refine ⟨?_, fun x hx => ?_, fun hl => ?_⟩
    · have := rowP_small k1 n5 k2
      simpa [CQ.raw] using this
    · rw [List.getElem?_map, Option.map_eq_some_iff] at hx
      obtain ⟨q, hq, rfl⟩ := hx
      rw [RF.of_q, k3 q hq]
      rfl
    · rw [qs_of]
      have h0 := k4 hl
      have : ∀ l : List Rat, (∀ q ∈ l, q = 0) → wts l = 0 := fun l => by
        induction l with
        | nil => intro _; rfl
        | cons x l ih =>
          intro h
          rw [wts_cons, ih (fun q hq => h q (by simp [hq])), h x (by simp)]
          decide
      exact this r' h0
  · have : qs c.raw.start = c.start := qs_of _
    rw [this]; exact sum
end Go.Proofs.Ytoldfpkafcefnaa
namespace Go.Proofs.Ytoldfpkafcefnaa
set_option linter.unusedVariables false

/-- The first m rates of state i. -/
def RowF (n lo i : Nat) (r : List Rat) (m : Nat) : Prop := r.length = m ∧ (∀ q ∈ r, smallQ q) ∧ (∀ x : Rat, r[i]? = some x → x = 0) ∧ ((n : Int) - lo ≤ i → ∀ q ∈ r, q = 0)
theorem RowF.nil (n lo i : Nat) : RowF n lo i [] 0 := ⟨rfl, fun q h => by simp at h, fun x h => by simp at h, fun _ q h => by simp at h⟩
theorem RowF.snoc {n lo i m : Nat} {r : List Rat} {x : Rat} (h : RowF n lo i r m) (hx : smallQ x) (h1 : i = m → x = 0) (h2 : (n : Int) - lo ≤ i → x = 0) : RowF n lo i (r ++ [x]) (m + 1) := by
  obtain ⟨a, b, c, d⟩ := h
  refine ⟨by simp [a], fun q hq => ?_, fun y hy => ?_, fun hl q hq => ?_⟩
  · rcases List.mem_append.1 hq with h | h
    · exact b q h
    · simp at h; subst h; exact hx
  · rcases Nat.lt_or_ge i r.length with h | h
    · rw [List.getElem?_append_left h] at hy
      exact c y hy
    · have hi : i < (r ++ [x]).length := (List.getElem?_eq_some_iff.1 hy).1
      have hi2 : i = m := by simp at hi; omega
      rw [List.getElem?_append_right h] at hy
      have h0 : i - r.length = 0 := by omega
      rw [h0] at hy
      simp at hy
      rw [← hy]
      exact h1 hi2
  · rcases List.mem_append.1 hq with h | h
    · exact d hl q h
    · simp at h; subst h; exact h2 hl
structure TF (n lo i left : Nat) (rates : List (List Rat)) (start : List Rat) (lost : List Bool) : Prop where
  sl : start.length = i
  ll : lost.length = i
  rl : rates.length = i
  left4 : left ≤ 4
  fin : i = n → left = 0
  sum : lsum start = fq false (4 - left) 4
  st : ∀ q ∈ start, smallQ q
  los : ∀ (j : Nat) (b : Bool), lost[j]? = some b → b = decide ((n : Int) - lo ≤ j)
  rows : ∀ (j : Nat) (r : List Rat), rates[j]? = some r → RowF n lo j r n
theorem TF.zero (n lo : Nat) (hn : 0 < n) : TF n lo 0 4 [] [] [] :=
  ⟨rfl, rfl, rfl, Nat.le_refl _, fun h => by omega, by decide, fun q h => by simp at h, fun j b h => by simp at h, fun j r h => by simp at h⟩
theorem fq_quarter (a b : Nat) : fq false a 4 + fq false b 4 = fq false (a + b) 4 := by
  rw [fq_add_same false a 4 b 4 (by decide) (by decide)]
  unfold fq sgn
  simp only [Bool.false_eq_true, if_false]
  rw [show ((a * 4 + b * 4 : Nat) : Int) = ((a + b : Nat) : Int) * 4 from by omega, show (4 * 4 : Nat) = 4 * 4 from rfl]
  exact Rat.mkRat_mul_right (by decide)
theorem TF.step {n lo i left k : Nat} {rates : List (List Rat)} {start : List Rat} {lost : List Bool} {r : List Rat} (h : TF n lo i left rates start lost) (hk : k ≤ left) (hl : i + 1 = n → k = left) (hr : RowF n lo i r n) :
    TF n lo (i + 1) (left - k) (rates ++ [r]) (start ++ [fq false k 4]) (lost ++ [decide ((n : Int) - lo ≤ i)]) := by
  obtain ⟨sl, ll, rl, l4, fin, sum, st, hlo, rows⟩ := h
  refine ⟨by simp [sl], by simp [ll], by simp [rl], by omega, fun h => by have := hl h; omega, ?_, fun q hq => ?_, fun j b hb => ?_, fun j q hq => ?_⟩
  · rw [lsum_snoc, sum, fq_quarter, show 4 - left + k = 4 - (left - k) from by omega]
  · rcases List.mem_append.1 hq with h | h
    · exact st q h
    · simp at h; subst h; exact ⟨k, 4, by omega, by decide, by decide, rfl⟩
  · rcases Nat.lt_or_ge j lost.length with h | h
    · rw [List.getElem?_append_left h] at hb; exact hlo j b hb
    · have hj : j < (lost ++ [decide ((n : Int) - lo ≤ i)]).length := (List.getElem?_eq_some_iff.1 hb).1
      have hj2 : j = i := by simp at hj; omega
      rw [List.getElem?_append_right h, show j - lost.length = 0 from by omega] at hb
      simp at hb
      rw [← hb, hj2]
  · rcases Nat.lt_or_ge j rates.length with h | h
    · rw [List.getElem?_append_left h] at hq; exact rows j q hq
    · have hj : j < (rates ++ [r]).length := (List.getElem?_eq_some_iff.1 hq).1
      have hj2 : j = i := by simp at hj; omega
      rw [List.getElem?_append_right h, show j - rates.length = 0 from by omega] at hq
      simp at hq
      rw [← hq, hj2]
      exact hr
theorem TF.done {n lo left : Nat} {rates : List (List Rat)} {start : List Rat} {lost : List Bool} (h : TF n lo n left rates start lost) (h2 : 2 ≤ n) (h5 : n ≤ 5) : tapeP ⟨rates, start, lost⟩ := by
  obtain ⟨sl, ll, rl, l4, fin, sum, st, hlo, rows⟩ := h
  refine ⟨by simp [sl, h2], by simp [sl, h5], by simp [sl, ll], by simp [sl, rl], st, ?_, fun i r hr => ?_⟩
  · have := fin rfl
    subst this
    rw [sum]; decide
  · obtain ⟨a, b, c, d⟩ := rows i r hr
    refine ⟨by simp [sl, a], b, c, fun hl => d ?_⟩
    have := hlo i true hl
    simpa using this.symm
end Go.Proofs.Ytoldfpkafcefnaa
namespace Go.Proofs.Ytoldfpkafcefnaa
set_option linter.unusedVariables false
set_option linter.unusedSimpArgs false
open Go.RowKit

theorem nilNoInt : ∀ z, Value.slice none 0 0 ≠ .int .i64 z := fun z => by simp
/-- The result's cell, and what the caller keeps. -/
def Fr (w : World) (bt : Nat) (wx : World) : Prop := C3 wx w.heap.size (.slice none 0 0) (.slice none 0 0) (.slice none 0 0) ∧ (∀ B, B ≤ bt → B ≤ w.heap.size → Below B w wx)
theorem Fr.below {w wx wy : World} {bt : Nat} (h : Fr w bt wx) (hb : Below wx.heap.size wx wy) : Fr w bt wy :=
  ⟨h.1.belowS hb, fun B h1 h2 => (h.2 B h1 h2).trans (hb.mono (by have := h.1.lt; omega))⟩
theorem Fr.tick {w wx wy : World} {bt a : Nat} {l : List Nat} (h : Fr w bt wx) (ht : TapeAt wx bt l a) (hk : Ticks bt wx wy) : Fr w bt wy :=
  ⟨h.1.tick ht hk nilNoInt nilNoInt nilNoInt, fun B h1 h2 => (h.2 B h1 h2).trans (hk.below h1 (by have := h.1.lt; omega))⟩
theorem Fr.low {w wx wy : World} {bt B : Nat} (h : Fr w bt wx) (hb : Below B wx wy) (hB : w.heap.size < B) : Fr w bt wy :=
  ⟨h.1.below hb hB, fun B' h1 h2 => (h.2 B' h1 h2).trans (hb.mono (by omega))⟩
theorem Fr.set {w wx : World} {bt : Nat} (h : Fr w bt wx) (p : Addr) (hp : w.heap.size < p.block) (u : Value) : Fr w bt (wx.setCell p u) :=
  ⟨h.1.other p u (by omega), fun B' h1 h2 => (h.2 B' h1 h2).setCell (by omega) u⟩
/-- Another block is written. -/
theorem OwnR.over {w : World} {e : TypeId} {B size n : Nat} {v : Value} {xs : List Value} (h : OwnR w e B size v n xs) {p : Addr} (hp : v.ownBlock = none ∨ v.ownBlock ≠ some p.block) (u : Value) : OwnR (w.setCell p u) e B size v n xs := by
  have key : ∀ g, v.ownBlock = some g → (w.setCell p u).heap[g]? = w.heap[g]? := fun g hg => Below.heap_setCell _ _ _ _ (by
    intro e; rcases hp with h1 | h1
    · rw [hg] at h1; cases h1
    · exact h1 (by rw [hg, e]))
  refine ⟨⟨h.own.1, ?_⟩, fun g hg cur e' fz hc => ?_⟩
  · rcases h.own.2 with h' | ⟨g, cap, cur, rfl, hb, hg, rest⟩
    · exact .inl h'
    · exact .inr ⟨g, cap, cur, rfl, hb, by rw [key g rfl]; exact hg, rest⟩
  · rw [key g hg] at hc
    exact h.nl g hg cur e' fz hc
theorem FrRow.over {w : World} {e : TypeId} {B : Nat} {v : Value} {q : List Rat} (h : FrRow w e B v q) {p : Addr} {x : Value} (hp : v.ownBlock = none ∨ v.ownBlock ≠ some p.block) (hc : w.cell? p = some x) (hx : ∀ z, x ≠ .int .u32 z) (u : Value) : FrRow (w.setCell p u) e B v q := by
  obtain ⟨xs, h1, h2⟩ := h
  refine ⟨xs, h1.over hp u, fun j hj => ?_⟩
  obtain ⟨a, b, e1, e2, e3, e4, e5⟩ := h2 j hj
  exact ⟨a, b, e1, e2, e3, ⟨e4.1.over hc hx u, e4.2⟩, ⟨e5.1.over hc hx u, e5.2⟩⟩
theorem Moves.high {B : Nat} {w0 w : World} (h : Moves B w0 w) {p : Addr} {x : Value} (hp : w0.heap.size ≤ p.block) (hc : w.cell? p = some x) (hx : ∀ z, x ≠ .int .u32 z) (u : Value) : Moves B w0 (w.setCell p u) := by
  refine ⟨by simpa [World.setCell] using h.size, fun g h1 h2 => ?_, fun q z hq => ?_⟩
  · rw [Below.heap_setCell _ _ _ _ (by omega)]; exact h.row g h1 h2
  · rw [World.cell?_setCell_other]
    · exact h.limb q z hq
    · intro e
      have := h.limb q z hq
      rw [← e, hc] at this
      injection this with this
      exact hx _ this
theorem Moves.grow {B : Nat} {w0 w w' : World} {v : Value} (h : Moves B w0 w) (hg : w.grownBy w' v.ownBlock) (hn : NoLimb w v) (hv : ∀ k, v.ownBlock = some k → w0.heap.size ≤ k) : Moves B w0 w' := by
  have hs : w.heap.size ≤ w'.heap.size := hg.size
  refine ⟨Nat.le_trans h.size hs, fun g h1 h2 => ?_, fun q z hq => ?_⟩
  · rw [hg.block g (Nat.lt_of_lt_of_le h2 h.size) (fun e => by have := hv g e.symm; omega)]
    exact h.row g h1 h2
  · have hc := h.limb q z hq
    refine hg.cell hc (fun e => ?_)
    have h2 := hn q.block e.symm
    unfold World.cell? at hc
    split at hc
    · rename_i cur e' fz hh
      split at hc
      · cases hc
      · exact h2 cur e' fz hh _ (by have := Array.mem_of_getElem? hc; simpa using this) _ rfl
    · cases hc
/-- Within the inner loop: w0 is the function's first world, wA the world in which the loop was entered. -/
structure InS (w0 : World) (bt : Nat) (l : List Nat) (B b5 : Nat) (vr vs vl : Value) (wA : World) (rv : Value) (row : List Rat) (w : World) : Prop where
  fr : FrRow w 50 wA.heap.size rv row
  mv : Moves B wA w
  tp : ∃ a, TapeB w bt l B a
  bx : C3 w b5 vr vs vl
  fm : Fr w0 bt w
  nums : bt < B ∧ b5 < B ∧ w0.heap.size < B ∧ B ≤ wA.heap.size ∧ IsSl vr ∧ IsSl vs ∧ IsSl vl
section
variable {w0 wA w w' : World} {bt B b5 : Nat} {l : List Nat} {vr vs vl rv : Value} {row : List Rat}
theorem InS.below (h : InS w0 bt l B b5 vr vs vl wA rv row w) (hb : Below w.heap.size w w') : InS w0 bt l B b5 vr vs vl wA rv row w' := by
  obtain ⟨fr, mv, ⟨a, tp⟩, bx, fm, nums⟩ := h
  exact ⟨fr.moves (Moves.below hb) (Nat.le_refl _), mv.trans (Moves.below hb), ⟨a, tp.below hb⟩, bx.belowS hb, fm.below hb, nums⟩
theorem InS.tick (h : InS w0 bt l B b5 vr vs vl wA rv row w) {a' : Nat} (ht : Ticks bt w w') (hta : TapeAt w' bt l a') : InS w0 bt l B b5 vr vs vl wA rv row w' := by
  obtain ⟨fr, mv, ⟨a, tp⟩, bx, fm, n1, n2, n3, n4, n5, n6, n7⟩ := h
  have hm : Moves B w w' := Moves.tick tp.1 n1 ht
  exact ⟨fr.moves hm n4, mv.trans hm, ⟨a', tp.tick ht hta⟩, bx.tick tp.1 ht n5.noInt n6.noInt n7.noInt, fm.tick tp.1 ht, n1, n2, n3, n4, n5, n6, n7⟩
theorem InS.set (h : InS w0 bt l B b5 vr vs vl wA rv row w) {p : Addr} {x : Value} (hp : wA.heap.size ≤ p.block) (hr : rv.ownBlock = none ∨ rv.ownBlock ≠ some p.block) (hc : w.cell? p = some x) (hx : ∀ z, x ≠ .int .u32 z) (hx8 : ∀ z, x ≠ .int .u8 z) (u : Value) :
    InS w0 bt l B b5 vr vs vl wA rv row (w.setCell p u) := by
  obtain ⟨fr, mv, ⟨a, tp⟩, bx, fm, n1, n2, n3, n4, n5, n6, n7⟩ := h
  exact ⟨fr.over hr hc hx u, mv.high hp hc hx u, ⟨a, tp.set (by omega) hc hx8 u⟩, bx.other p u (by omega), fm.set p (by omega) u, n1, n2, n3, n4, n5, n6, n7⟩
theorem InS.grow (h : InS w0 bt l B b5 vr vs vl wA rv row w) {rv' : Value} {row' : List Rat} (hv : FrRow w' 50 wA.heap.size rv' row') (hg : w.grownBy w' rv.ownBlock) (hn : NoLimb w rv) : InS w0 bt l B b5 vr vs vl wA rv' row' w' := by
  obtain ⟨fr, mv, ⟨a, tp⟩, bx, fm, n1, n2, n3, n4, n5, n6, n7⟩ := h
  have hb : Below wA.heap.size w w' := below_grow hg mv.size fr.block
  have hb2 := hb.mono n4
  exact ⟨hv, mv.grow hg hn (fun k hk => (fr.block k hk).1), ⟨a, tp.low hb2 n1⟩, bx.below hb2 n2, fm.low hb2 n3, n1, n2, n3, n4, n5, n6, n7⟩
theorem InS.set3 (h : InS w0 bt l B b5 vr vs vl wA rv row w) {b : Nat} {t0 : Bool} {x0 y0 : Value} (hC : C3 w b (.bool t0) x0 y0) (sx : IsSl x0) (sy : IsSl y0) (hb : wA.heap.size ≤ b) (hr : rv.ownBlock = none ∨ rv.ownBlock ≠ some b) (u0 u1 u2 : Value) :
    InS w0 bt l B b5 vr vs vl wA rv row (((w.setCell ⟨b, 0, none⟩ u0).setCell ⟨b, 1, none⟩ u1).setCell ⟨b, 2, none⟩ u2) := by
  obtain ⟨_, c0, c1, c2, _, _, _⟩ := hC
  have h1 := h.set (p := ⟨b, 0, none⟩) hb hr c0 (fun z => by simp) (fun z => by simp) u0
  have h2 := h1.set (p := ⟨b, 1, none⟩) hb hr (by rw [World.cell?_setCell_other _ _ _ _ (by simp)]; exact c1) sx.noLimb sx.noByte u1
  exact h2.set (p := ⟨b, 2, none⟩) hb hr (by rw [World.cell?_setCell_other _ _ _ _ (by simp), World.cell?_setCell_other _ _ _ _ (by simp)]; exact c2) sy.noLimb sy.noByte u2
theorem InS.start {rs : List Value} {rates : List (List Rat)} {start : List Rat} {lost : List Bool} (c : ChW wA bt l B b5 vr vs vl rs rates start lost) (hF : Fr w0 bt wA) (hw : w0.heap.size < B) : InS w0 bt l B b5 vr vs vl wA (.slice none 0 0) [] wA :=
  ⟨FrRow.nil _ _ _, Moves.refl _ _, c.tape, c.box, hF, c.bt5.1, c.bt5.2.1, hw, c.sz, c.ra.sl, c.st.sl, c.lo.sl⟩
theorem InS.chw {rs : List Value} {rates : List (List Rat)} {start : List Rat} {lost : List Bool} (h : InS w0 bt l B b5 vr vs vl wA rv row w) (c : ChW wA bt l B b5 vr vs vl rs rates start lost) : ChW w bt l B b5 vr vs vl rs rates start lost ∧ FrRow w 50 B rv row ∧ (rv.ownBlock = none ∨ rv.ownBlock ≠ vs.ownBlock) := by
  refine ⟨c.of h.mv h.tp h.bx, h.fr.mono c.sz, ?_⟩
  cases ho : rv.ownBlock with
  | none => exact Or.inl rfl
  | some g =>
    refine Or.inr (fun e => ?_)
    have h1 := h.fr.block g ho
    have h2 := c.st.block g e.symm
    omega
/-- The chain as it is handed out. -/
theorem ChW.chainC {rs : List Value} {rates : List (List Rat)} {start : List Rat} {lost : List Bool} (h : ChW w bt l B b5 vr vs vl rs rates start lost) : ChainC w (.agg #[vr, vs, vl]) ⟨rates, start, lost⟩ := by
  refine ⟨vr, vs, vl, rfl, ⟨h.ra.sl, by rw [h.ra.len]; exact h.rl, fun j hj => ?_⟩, h.st.fracs, ⟨h.lo.sl, h.lo.len, fun j hj => h.lo.cell j hj⟩⟩
  have hj2 : j < rs.length := by rw [h.rl]; exact hj
  exact ⟨rs[j], h.ra.cell j hj2, (h.rows j hj2 hj).1.fracs⟩
theorem ChW.set3 {rs : List Value} {rates : List (List Rat)} {start : List Rat} {lost : List Bool} (h : ChW w bt l B b5 vr vs vl rs rates start lost) {b : Nat} (hC : C3 w b (.slice none 0 0) (.slice none 0 0) (.slice none 0 0)) (hb : b < B) (hbt : b ≠ bt) (hb5 : b ≠ b5) (u0 u1 u2 : Value) :
    ChW (((w.setCell ⟨b, 0, none⟩ u0).setCell ⟨b, 1, none⟩ u1).setCell ⟨b, 2, none⟩ u2) bt l B b5 vr vs vl rs rates start lost := by
  obtain ⟨_, c0, c1, c2, _, _, _⟩ := hC
  have c1' : (w.setCell ⟨b, 0, none⟩ u0).cell? ⟨b, 1, none⟩ = some (.slice none 0 0) := by rw [World.cell?_setCell_other _ _ _ _ (by simp)]; exact c1
  have c2' : ((w.setCell ⟨b, 0, none⟩ u0).setCell ⟨b, 1, none⟩ u1).cell? ⟨b, 2, none⟩ = some (.slice none 0 0) := by rw [World.cell?_setCell_other _ _ _ _ (by simp), World.cell?_setCell_other _ _ _ _ (by simp)]; exact c2
  have one : ∀ (w : World) (k : Nat) (u : Value), ChW w bt l B b5 vr vs vl rs rates start lost → w.cell? ⟨b, k, none⟩ = some (.slice none 0 0) → ChW (w.setCell ⟨b, k, none⟩ u) bt l B b5 vr vs vl rs rates start lost := fun w k u h hc => by
    obtain ⟨a, ht⟩ := h.tape
    exact h.of (Moves.set hb hc (fun z => by simp) u) ⟨a, ht.set hbt hc (fun z => by simp) u⟩ (h.box.other _ u hb5)
  exact one _ 2 u2 (one _ 1 u1 (one _ 0 u0 h c0) c1') c2'
end
end Go.Proofs.Ytoldfpkafcefnaa
