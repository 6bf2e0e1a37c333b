/-
  The sanity chain: the plain facts. No program is named here.
-/
import Derived.Test.YtlpdkbmmbdfoiaaGreatCMath19
namespace Go.Proofs.YtlpdkbmmbdfoiaaGreat
set_option linter.unusedVariables false

def cAw : CQ := ⟨[[0, 0, 1], [0, 0, 1], [0, 0, 0]], [1, 0, 0], [false, false, true]⟩
theorem smallQ.one : smallQ 1 := ⟨1, 1, by decide, by decide, by decide, by decide⟩
theorem small3 {a b c : Rat} (ha : a = 0 ∨ a = 1) (hb : b = 0 ∨ b = 1) (hc : c = 0 ∨ c = 1) : ∀ q ∈ [a, b, c], smallQ q := by
  intro q hq
  have key : ∀ x : Rat, x = 0 ∨ x = 1 → smallQ x := fun x hx => by
    rcases hx with rfl | rfl
    · exact smallQ.zero
    · exact smallQ.one
  simp at hq
  rcases hq with rfl | rfl | rfl
  · exact key _ ha
  · exact key _ hb
  · exact key _ hc
theorem cAw_tape : tapeP cAw := by
  refine ⟨by decide, by decide, rfl, rfl, small3 (Or.inr rfl) (Or.inl rfl) (Or.inl rfl), by decide +kernel, fun i r hr => ?_⟩
  have hi : i < 3 := (List.getElem?_eq_some_iff.1 hr).1
  rcases (show i = 0 ∨ i = 1 ∨ i = 2 by omega) with rfl | rfl | rfl
  · obtain rfl : [0, 0, 1] = r := by simpa [cAw] using hr
    exact ⟨rfl, small3 (Or.inl rfl) (Or.inl rfl) (Or.inr rfl), fun x hx => by simpa using hx.symm, fun h => by simp [cAw] at h⟩
  · obtain rfl : [0, 0, 1] = r := by simpa [cAw] using hr
    exact ⟨rfl, small3 (Or.inl rfl) (Or.inl rfl) (Or.inr rfl), fun x hx => by simpa using hx.symm, fun h => by simp [cAw] at h⟩
  · obtain rfl : [0, 0, 0] = r := by simpa [cAw] using hr
    exact ⟨rfl, small3 (Or.inl rfl) (Or.inl rfl) (Or.inl rfl), fun x hx => by simpa using hx.symm, fun _ q hq => by simpa using hq⟩
theorem ok001 : okB [0, 0, 1] := by
  have h0 : okB [] := fun k b h => by simp at h
  have h1 : okB ([] ++ [0]) := okB_snoc h0 (by decide) (by decide)
  have h2 : okB (([] ++ [0]) ++ [0]) := okB_snoc h1 (by decide) (by decide)
  exact okB_snoc h2 (by decide) (by decide)
theorem split001 {f : Nat → List Rat} {nx : List Int} (h : SplitP [0, 0, 1] f nx) (hf : f 0 = f 1) : nx = [0, 0, 1] := by
  obtain ⟨ok, len, rel⟩ := h
  match nx, len with
  | [a, b, c], _ =>
    obtain ⟨a1, a2⟩ := ok 0 a rfl
    have ha : a = 0 := by have : cnt ([a, b, c].take 0) = 0 := rfl; rw [this] at a2; omega
    subst ha
    have hb := (rel 0 1 0 0 rfl rfl).2 ⟨rfl, by rw [hf]; exact alikeQ.refl _ _⟩
    have hb2 : b = 0 := by simpa using hb.symm
    subst hb2
    obtain ⟨c1, c2⟩ := ok 2 c rfl
    have hc : c ≠ 0 := fun e => by
      subst e
      have := ((rel 0 2 0 1 rfl rfl).1 rfl).1
      omega
    have h2 : cnt ([0, 0, c].take 2) = 1 := rfl
    rw [h2] at c2
    obtain rfl : c = 1 := by omega
    rfl
theorem sumF_same (bl : List Int) : sumF cAw.raw bl 0 = sumF cAw.raw bl 1 := by unfold sumF; rw [rowsQ_raw, rowsQ_raw]; rfl
theorem refs001 {bl : List Int} (h : Refs cAw.raw bl) : bl = [0, 0, 1] := by
  induction h with
  | zero => decide
  | step h1 h2 ih => subst ih; exact split001 h2 (sumF_same _)
theorem coarse001 {nx : List Int} (h : CoarseP cAw.raw nx) : nx = [0, 0, 1] := by
  obtain ⟨bl, h1, h2, _⟩ := h
  have := refs001 h1
  subst this
  exact split001 h2 (sumF_same _)
theorem check001 : checkP cAw.raw [0, 0, 1] := by
  refine ⟨ok001, by decide, by simp [CQ.raw, cAw], cAw_tape.valid, fun i j b hi hj => ?_⟩
  have h1 : i < 3 := (List.getElem?_eq_some_iff.1 hi).1
  have h2 : j < 3 := (List.getElem?_eq_some_iff.1 hj).1
  have hs := sumF_same [0, 0, 1]
  unfold sumF at hs
  rcases (show i = 0 ∨ i = 1 ∨ i = 2 by omega) with rfl | rfl | rfl <;> rcases (show j = 0 ∨ j = 1 ∨ j = 2 by omega) with rfl | rfl | rfl
  · exact ⟨rfl, alikeQ.refl _ _⟩
  · exact ⟨rfl, by show alikeQ b (bsums [0, 0, 1] (rowsQ cAw.raw 0) (cnt [0, 0, 1])) (bsums [0, 0, 1] (rowsQ cAw.raw 1) (cnt [0, 0, 1])); rw [hs]; exact alikeQ.refl _ _⟩
  · exfalso; simp at hi hj; omega
  · exact ⟨rfl, by show alikeQ b (bsums [0, 0, 1] (rowsQ cAw.raw 1) (cnt [0, 0, 1])) (bsums [0, 0, 1] (rowsQ cAw.raw 0) (cnt [0, 0, 1])); rw [hs]; exact alikeQ.refl _ _⟩
  · exact ⟨rfl, alikeQ.refl _ _⟩
  · exfalso; simp at hi hj; omega
  · exfalso; simp at hi hj; omega
  · exfalso; simp at hi hj; omega
  · exact ⟨rfl, alikeQ.refl _ _⟩
theorem check011 : ¬ checkP cAw.raw [0, 1, 1] := by
  rintro ⟨_, _, _, _, h⟩
  have := (h 1 2 1 rfl rfl).1
  simp [CQ.raw, cAw] at this
theorem quo001 : quo cAw.raw [0, 0, 1] = ⟨[[0, 1], [0, 0]], [1, 0], [false, true]⟩ := by
  rw [CQ.ext_iff']
  refine ⟨by decide +kernel, by decide +kernel, by decide +kernel⟩
theorem small2 {a b : Rat} (ha : a = 0 ∨ a = 1) (hb : b = 0 ∨ b = 1) : ∀ q ∈ [a, b], smallQ q := fun q hq => small3 ha hb (Or.inl rfl) q (by simp at hq ⊢; rcases hq with h | h <;> simp [h])
theorem quo001_tape : tapeP ⟨[[0, 1], [0, 0]], [1, 0], [false, true]⟩ := by
  refine ⟨by decide, by decide, rfl, rfl, small2 (Or.inr rfl) (Or.inl rfl), by decide +kernel, fun i r hr => ?_⟩
  have hi : i < 2 := (List.getElem?_eq_some_iff.1 hr).1
  rcases (show i = 0 ∨ i = 1 by omega) with rfl | rfl
  · obtain rfl : [0, 1] = r := by simpa using hr
    exact ⟨rfl, small2 (Or.inl rfl) (Or.inr rfl), fun x hx => by simpa using hx.symm, fun h => by simp at h⟩
  · obtain rfl : [0, 0] = r := by simpa using hr
    exact ⟨rfl, small2 (Or.inl rfl) (Or.inl rfl), fun x hx => by simpa using hx.symm, fun _ q hq => by simpa using hq⟩
theorem zero_bad : ¬ validP ⟨[], [], []⟩ := fun h => by have := h.1; simp at this
end Go.Proofs.YtlpdkbmmbdfoiaaGreat
