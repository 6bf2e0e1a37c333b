/-
  package lump: Quotient, the state of its loop.
  Ahead of it: The quotient of a chain by a partition. No program is named here.
-/
import Derived.Test.YtoldfpkafcefnaaQLu4
import Derived.Test.YtoldfpkafcefnaaQLu5
namespace Go.Proofs.Ytoldfpkafcefnaa
set_option linter.unusedVariables false

/-- The first member of block b. -/
def firstB (bl : List Int) (b : Nat) : Nat := bl.findIdx (fun x => decide (x = (b : Int)))
theorem firstB_fresh {bl : List Int} (hok : okB bl) {k b : Nat} (hk : bl[k]? = some (b : Int)) (hb : b = cnt (bl.take k)) : firstB bl b = k := by
  obtain ⟨hk1, hk2⟩ := List.getElem?_eq_some_iff.1 hk
  unfold firstB
  rw [List.findIdx_eq hk1]
  refine ⟨by simp [hk2], fun j hj => ?_⟩
  have hj1 : j < bl.length := by omega
  obtain ⟨h2, h3⟩ := hok j _ (List.getElem?_eq_getElem hj1)
  have h4 := cnt_take_mono bl (show j + 1 ≤ k by omega)
  have h5 := cnt_take bl j hj1
  simp only [decide_eq_false_iff_not]
  intro h6
  by_cases h7 : bl[j]'hj1 = (cnt (bl.take j) : Int)
  · rw [if_pos h7] at h5
    omega
  · rw [if_neg h7] at h5
    omega
/-- The quotient. -/
def quo (c : RC) (bl : List Int) : CQ :=
  ⟨(List.range (cnt bl)).map fun b => (bsums bl (rowsQ c (firstB bl b)) (cnt bl)).set b 0, bsums bl (qs c.start) (cnt bl), (List.range (cnt bl)).map fun b => c.lost.getD (firstB bl b) false⟩
end Go.Proofs.Ytoldfpkafcefnaa
namespace Go.Proofs.Ytoldfpkafcefnaa
set_option linter.unusedVariables false
set_option linter.unusedSimpArgs false
open Go.RowKit

theorem OwnFr.over {w : World} {e : TypeId} {B n : Nat} {v : Value} (h : OwnFr w e B v n) {p : Addr} (hp : p.block ≠ (base v).block) (u : Value) : OwnFr (w.setCell p u) e B v n := by
  obtain ⟨g, cs, rfl, h1, h2⟩ := h
  refine ⟨g, cs, rfl, ⟨h1.1, ?_⟩, h2⟩
  rcases h1.2 with ⟨h', _⟩ | ⟨g', cap, cur, h', hb, hg, rest⟩
  · cases h'
  · refine .inr ⟨g', cap, cur, h', hb, ?_, rest⟩
    injection h' with h4
    injection h4 with h4
    injection h4 with h4
    subst h4
    simp only [base] at hp
    rw [Below.heap_setCell _ _ _ _ (fun e => hp e.symm)]; exact hg
theorem ElemC.over {w : World} {v : Value} {j : Nat} {q : Rat} (h : ElemC w v j q) {p : Addr} {x : Value} (hp : p.block ≠ (base v).block) (hc : w.cell? p = some x) (hx : ∀ z, x ≠ .int .u32 z) (u : Value) : ElemC (w.setCell p u) v j q := by
  obtain ⟨a, b, h1, h2, h3, h4, h5⟩ := h
  have hne : ∀ k, p ≠ ptr v k := fun k e => hp (by rw [e]; exact ptr_block v k)
  exact ⟨a, b, by rw [World.cell?_setCell_other _ _ _ _ (hne _)]; exact h1, by rw [World.cell?_setCell_other _ _ _ _ (hne _)]; exact h2, by rw [World.cell?_setCell_other _ _ _ _ (hne _)]; exact h3, ⟨h4.1.over hc hx u, h4.2⟩, ⟨h5.1.over hc hx u, h5.2⟩⟩
theorem FracsC.over3 {w : World} {e : TypeId} {B n : Nat} {v r : Value} {q : List Rat} (h : OwnFr w e B v n) (hq : FracsC w r q) (hne : (base v).block ≠ (base r).block) {i : Nat} (hi : i < n) (x y z : Value) (hx : ∀ k, x ≠ .int .u32 k) (hy : ∀ k, y ≠ .int .u32 k) :
    FracsC (((w.setCell (ptr v (i * 3)) x).setCell (ptr v (i * 3 + 1)) y).setCell (ptr v (i * 3 + 2)) z) r q := by
  have h1 := h.set (i * 3) x hx
  have h2 := h1.1.set (i * 3 + 1) y hy
  obtain ⟨c0, d0, e0⟩ := h.cell (i * 3) (by omega)
  obtain ⟨c1, d1, e1⟩ := h1.1.cell (i * 3 + 1) (by omega)
  obtain ⟨c2, d2, e2⟩ := h2.1.cell (i * 3 + 2) (by omega)
  exact ((hq.over (p := ptr v (i * 3)) (u := x) (by rw [ptr_block]; exact hne) d0 e0).over (p := ptr v (i * 3 + 1)) (u := y) (by rw [ptr_block]; exact hne) d1 e1).over (p := ptr v (i * 3 + 2)) (u := z) (by rw [ptr_block]; exact hne) d2 e2
theorem OwnE.other3 {w : World} {e : TypeId} {B : Nat} {v u : Value} {es : List Value} (h : OwnE w e B v es) (hne : (base u).block ≠ (base v).block) (i j k : Nat) (x y z : Value) :
    OwnE (((w.setCell (ptr u i) x).setCell (ptr u j) y).setCell (ptr u k) z) e B v es :=
  ((h.other _ x (by rw [ptr_block]; exact hne)).other _ y (by rw [ptr_block]; exact hne)).other _ z (by rw [ptr_block]; exact hne)
theorem C3.other {w : World} {b : Nat} {v0 v1 v2 : Value} (h : C3 w b v0 v1 v2) (p : Addr) (u : Value) (hp : p.block ≠ b) : C3 (w.setCell p u) b v0 v1 v2 := by
  obtain ⟨lt, c0, c1, c2, f0, f1, f2⟩ := h
  have hne : ∀ k, p ≠ ⟨b, k, none⟩ := fun k e => hp (by rw [e])
  have hf : ∀ q, (w.setCell p u).frozen? q = w.frozen? q := fun q => by simp
  exact ⟨by simpa [World.setCell] using lt, by rw [World.cell?_setCell_other _ _ _ _ (hne _)]; exact c0, by rw [World.cell?_setCell_other _ _ _ _ (hne _)]; exact c1, by rw [World.cell?_setCell_other _ _ _ _ (hne _)]; exact c2,
    by rw [hf]; exact f0, by rw [hf]; exact f1, by rw [hf]; exact f2⟩
/-- The loop of Quotient. -/
def QuoI (c : RC) (bl : List Int) (tF tB : TypeId) (B3 B4 B5 : Nat) (v3 v4 : Value) (k : Nat) (es : List Value) (fs : List Bool) (wr : World) : Prop :=
  OwnE wr tF B3 v3 es ∧ es.length = cnt bl ∧ OwnE wr tB B4 v4 (fs.map Value.bool) ∧ fs.length = cnt bl ∧
  (∀ b, b < cnt (bl.take k) → ∃ a n kk, es[b]? = some (.slice (some a) n kk) ∧ FracsC wr (.slice (some a) n kk) ((bsums bl (rowsQ c (firstB bl b)) (cnt bl)).set b 0) ∧ B5 ≤ a.block ∧ fs[b]? = some (c.lost.getD (firstB bl b) false)) ∧
  (∀ b, cnt (bl.take k) ≤ b → b < cnt bl → es[b]? = some (.slice none 0 0))
theorem QuoI.start {c : RC} {bl : List Int} {tF tB : TypeId} {B3 B4 : Nat} (B5 : Nat) {v3 v4 : Value} {w : World} (h3 : OwnE w tF B3 v3 (List.replicate (cnt bl) (.slice none 0 0))) (h4 : OwnE w tB B4 v4 (List.replicate (cnt bl) (.bool false))) :
    QuoI c bl tF tB B3 B4 B5 v3 v4 0 (List.replicate (cnt bl) (.slice none 0 0)) (List.replicate (cnt bl) false) w := by
  refine ⟨h3, by simp, by rw [List.map_replicate]; exact h4, by simp, fun b hb => ?_, fun b _ hb => ?_⟩
  · simp [cnt_nil] at hb
  · rw [List.getElem?_replicate, if_pos hb]
theorem QuoI.skip {c : RC} {bl : List Int} {tF tB : TypeId} {B3 B4 B5 : Nat} {v3 v4 : Value} {k : Nat} {es : List Value} {fs : List Bool} {wr : World}
    (h : QuoI c bl tF tB B3 B4 B5 v3 v4 k es fs wr) {b : Nat} (hk : bl[k]? = some (b : Int)) (hb : b < cnt (bl.take k)) : QuoI c bl tF tB B3 B4 B5 v3 v4 (k + 1) es fs wr := by
  obtain ⟨h3, hel, h4, hfl, hseen, hnew⟩ := h
  obtain ⟨hk1, hk2⟩ := List.getElem?_eq_some_iff.1 hk
  have hc := cnt_take bl k hk1
  rw [if_neg (by rw [hk2]; omega)] at hc
  exact ⟨h3, hel, h4, hfl, fun a ha => hseen a (by omega), fun a ha => hnew a (by omega)⟩
theorem QuoI.fresh {c : RC} {bl : List Int} {tF tB tE : TypeId} {B3 B4 B5 : Nat} {v3 v4 : Value} {k : Nat} {es : List Value} {fs : List Bool} {wr w5 w6 : World}
    (h : QuoI c bl tF tB B3 B4 B5 v3 v4 k es fs wr) (hbel : Below wr.heap.size wr w5) (hok : okB bl) {b : Nat} (hk : bl[k]? = some (b : Int)) (hb : b = cnt (bl.take k)) (h34 : (ptr v3 b).block ≠ (base v4).block)
    (hv3 : (base v3).block < B5) (hv4 : (base v4).block < B5) {g5 n : Nat} {row : List Rat} (how : OwnFr w5 tE wr.heap.size (.slice (some ⟨g5, 0, none⟩) n n) n) (hBB : B5 ≤ wr.heap.size) (hn : n = cnt bl)
    (hel : ∀ j, j < n → ElemC w5 (.slice (some ⟨g5, 0, none⟩) n n) j (bsum bl row j)) (hrq : rowsQ c k = row) (x : Bool) (hx : x = c.lost.getD k false)
    (W : World) (hW : W = (w5.setCell (ptr v3 b) (.slice (some ⟨g5, 0, none⟩) n n)).setCell (ptr v4 b) (.bool x)) (h56 : Below W.heap.size W w6) {x9 y9 z9 : Value} (hz : FracC w6 (.agg #[x9, y9, z9]) 0) :
    QuoI c bl tF tB B3 B4 B5 v3 v4 (k + 1) (es.set b (.slice (some ⟨g5, 0, none⟩) n n)) (fs.set b x)
      (((w6.setCell (ptr (.slice (some ⟨g5, 0, none⟩) n n) (b * 3)) x9).setCell (ptr (.slice (some ⟨g5, 0, none⟩) n n) (b * 3 + 1)) y9).setCell (ptr (.slice (some ⟨g5, 0, none⟩) n n) (b * 3 + 2)) z9) ∧
    (B3 ≤ B4 → Below B3 w5 (((w6.setCell (ptr (.slice (some ⟨g5, 0, none⟩) n n) (b * 3)) x9).setCell (ptr (.slice (some ⟨g5, 0, none⟩) n n) (b * 3 + 1)) y9).setCell (ptr (.slice (some ⟨g5, 0, none⟩) n n) (b * 3 + 2)) z9)) := by
  obtain ⟨h3, hel3, h4, hfl, hseen, hnew⟩ := h
  obtain ⟨hk1, hk2⟩ := List.getElem?_eq_some_iff.1 hk
  have hbc := hok.lt hk
  have hbc2 : b < cnt bl := by omega
  have hbes : b < es.length := by omega
  have hbfs : b < (fs.map Value.bool).length := by rw [List.length_map]; omega
  have hct := cnt_take bl k hk1
  rw [if_pos (by rw [hk2, hb])] at hct
  have hE : es[b]'hbes = .slice none 0 0 := by
    have := hnew b (by omega) hbc2
    rw [List.getElem?_eq_getElem hbes] at this
    injection this
  have hg5 : wr.heap.size ≤ g5 ∧ g5 < w5.heap.size := how.block
  have k3 := h3.below hbel
  have k4 := h4.below hbel
  have hc3 := k3.cell b hbes
  rw [hE] at hc3
  have s3 := k3.set b hbes (.slice (some ⟨g5, 0, none⟩) n n)
  have k4' := k4.other (ptr v3 b) (.slice (some ⟨g5, 0, none⟩) n n) h34
  have hc4 := k4'.cell b hbfs
  have hc4' : ((w5.setCell (ptr v3 b) (.slice (some ⟨g5, 0, none⟩) n n))).cell? (ptr v4 b) = some (.bool (fs[b]'(by omega))) := by rw [hc4]; simp
  have s4 := k4'.set b hbfs (.bool x)
  have h43 : (ptr v4 b).block ≠ (base v3).block := by rw [ptr_block]; rw [ptr_block] at h34; exact fun e => h34 e.symm
  have k3' := s3.1.other (ptr v4 b) (.bool x) h43
  have how1 := (how.over (p := ptr v3 b) (by rw [ptr_block]; show _ ≠ g5; omega) (.slice (some ⟨g5, 0, none⟩) n n)).over (p := ptr v4 b) (by rw [ptr_block]; show _ ≠ g5; omega) (.bool x)
  rw [← hW] at how1 k3' s4
  have how6 := how1.below h56
  have hover : ∀ (r : Value) (q : List Rat), B5 ≤ (base r).block → (base r).block < wr.heap.size → FracsC wr r q → FracsC (((w6.setCell (ptr (.slice (some ⟨g5, 0, none⟩) n n) (b * 3)) x9).setCell (ptr (.slice (some ⟨g5, 0, none⟩) n n) (b * 3 + 1)) y9).setCell (ptr (.slice (some ⟨g5, 0, none⟩) n n) (b * 3 + 2)) z9) r q := fun r q hr hr2 hq => by
    have q1 := (hq.below hbel).over (p := ptr v3 b) (u := .slice (some ⟨g5, 0, none⟩) n n) (by rw [ptr_block]; omega) hc3 (fun z => by simp)
    have q2 := q1.over (p := ptr v4 b) (u := .bool x) (by rw [ptr_block]; omega) hc4' (fun z => by simp)
    rw [← hW] at q2
    obtain ⟨a1, a2, ha, n1, n2⟩ := hz
    injection ha with ha
    injection ha with ha
    simp only [List.cons.injEq, and_true] at ha
    obtain ⟨rfl, rfl, rfl⟩ := ha
    have ny : ∀ k, y9 ≠ .int .u32 k := fun k => by obtain ⟨p1, p2, p3, e1, _⟩ := n1.v.sl; subst e1; simp
    exact FracsC.over3 how6 (q2.below h56) (show g5 ≠ _ by omega) (by omega) _ _ _ (fun k => by simp) ny
  have hz2 := hz
  obtain ⟨a1, a2, ha, n1, n2⟩ := hz2
  injection ha with ha
  injection ha with ha
  simp only [List.cons.injEq, and_true] at ha
  obtain ⟨rfl, rfl, rfl⟩ := ha
  have ny : ∀ k, y9 ≠ .int .u32 k := fun k => by obtain ⟨p1, p2, p3, e1, _⟩ := n1.v.sl; subst e1; simp
  have nz : ∀ k, z9 ≠ .int .u32 k := fun k => by obtain ⟨p1, p2, p3, e1, _⟩ := n2.v.sl; subst e1; simp
  have s5 := how6.set3 b (.bool (decide ((0 : Rat) < 0))) y9 z9 (fun k => by simp) ny nz
  have m3 := (k3'.below h56).other3 (u := .slice (some ⟨g5, 0, none⟩) n n) (show g5 ≠ _ by omega) (b * 3) (b * 3 + 1) (b * 3 + 2) (.bool (decide ((0 : Rat) < 0))) y9 z9
  have m4 := (s4.1.below h56).other3 (u := .slice (some ⟨g5, 0, none⟩) n n) (show g5 ≠ _ by omega) (b * 3) (b * 3 + 1) (b * 3 + 2) (.bool (decide ((0 : Rat) < 0))) y9 z9
  have hB3 : B3 ≤ (base v3).block := (h3.block (by omega)).1
  refine ⟨⟨m3, by rw [List.length_set]; exact hel3, by rw [List.map_set]; exact m4, by rw [List.length_set]; exact hfl, fun a ha => ?_, fun a ha ha2 => ?_⟩, fun h34' => ?_⟩
  · rw [hct] at ha
    by_cases h1 : a = cnt (bl.take k)
    · rw [h1, ← hb, firstB_fresh hok hk hb]
      refine ⟨⟨g5, 0, none⟩, n, n, by rw [List.getElem?_set_self hbes], s5.1.fracs (by rw [List.length_set, bsums_length]; exact hn.symm) (fun j hj => ?_), by show B5 ≤ g5; omega, by rw [List.getElem?_set_self (by omega), hx]⟩
      rw [List.length_set, bsums_length] at hj
      rw [List.getElem_set]
      by_cases hbj : b = j
      · rw [if_pos hbj]
        subst hbj
        exact ElemC.set3 how6 (by omega) hz
      · rw [if_neg hbj, bsums_get _ _ _ _ hj, hrq]
        refine ElemC.set3_other how6 (by omega) hbj (ElemC.below ?_ h56) _ _ _ (fun k => by simp) ny
        rw [hW]
        exact ((hel j (by omega)).over (by rw [ptr_block]; show _ ≠ g5; omega) hc3 (fun z => by simp) _).over (by rw [ptr_block]; show _ ≠ g5; omega) hc4' (fun z => by simp) _
    · obtain ⟨p, m, kk, q1, q2, q3, q4⟩ := hseen a (by omega)
      have hlt : p.block < wr.heap.size := by
        obtain ⟨_, _, r1, _⟩ := q2.at' 0 (by rw [List.length_set, bsums_length]; omega)
        have := World.block_lt_of_cell? wr _ r1
        rwa [ptr_block] at this
      refine ⟨p, m, kk, by rw [List.getElem?_set_ne (by omega)]; exact q1, hover _ _ (by simpa [base] using q3) (by simpa [base] using hlt) q2, q3, by rw [List.getElem?_set_ne (by omega)]; exact q4⟩
  · rw [hct] at ha
    rw [List.getElem?_set_ne (by omega)]
    exact hnew a (by omega) ha2
  · have hb1 := s3.2.trans (s4.2.mono h34')
    have hsz : B3 ≤ W.heap.size := by
      have h1 := (h3.block (by omega)).2
      have h2 := hbel.size
      have h3 := hb1.size
      omega
    exact (hb1.trans (h56.mono hsz)).trans (s5.2.mono (by have := (h3.block (by omega)).2; omega))
/-- At the end of the loop. -/
theorem QuoI.done {c : RC} {bl : List Int} {tF tB : TypeId} {B3 B4 B5 : Nat} {v3 v4 : Value} {es : List Value} {fs : List Bool} {wr : World} (h : QuoI c bl tF tB B3 B4 B5 v3 v4 bl.length es fs wr) :
    MatC wr v3 (quo c bl).rates ∧ BoolsV wr v4 (quo c bl).lost := by
  obtain ⟨h3, hel, h4, hfl, hseen, hnew⟩ := h
  rw [List.take_length] at hseen
  refine ⟨⟨h3.sl, by rw [h3.len, hel]; simp [quo], fun j hj => ?_⟩, h4.sl, by rw [h4.len, List.length_map, hfl]; simp [quo], fun j hj => ?_⟩
  · have hj2 : j < cnt bl := by simpa [quo] using hj
    obtain ⟨p, m, kk, q1, q2, q3, q4⟩ := hseen j hj2
    have hje : j < es.length := by omega
    rw [List.getElem?_eq_getElem hje] at q1
    injection q1 with q1
    refine ⟨_, h3.cell j hje, ?_⟩
    rw [q1]
    simpa [quo] using q2
  · have hj2 : j < cnt bl := by simpa [quo] using hj
    obtain ⟨p, m, kk, q1, q2, q3, q4⟩ := hseen j hj2
    have hje : j < fs.length := by omega
    have hjm : j < (fs.map Value.bool).length := by rw [List.length_map]; exact hje
    rw [List.getElem?_eq_getElem hje] at q4
    injection q4 with q4
    rw [h4.cell j hjm]
    simp [quo, q4]
end Go.Proofs.Ytoldfpkafcefnaa
