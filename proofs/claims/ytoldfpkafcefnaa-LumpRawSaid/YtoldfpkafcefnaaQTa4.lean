/-
  The state of Tape.Chain while a chain is made. No code is walked here.
-/
import Derived.Test.YtoldfpkafcefnaaQTa3
namespace Go.Proofs.Ytoldfpkafcefnaa
set_option linter.unusedVariables false
set_option linter.unusedSimpArgs false
open Go.RowKit

theorem TapeAt.below {w w' : World} {l : List Nat} {b a : Nat} (h : TapeAt w b l a) (hb : Below w.heap.size w w') : TapeAt w' b l a := by
  obtain ⟨lt, ⟨v, e1, e2⟩, c1, f1, h1, h2, h3⟩ := h
  exact ⟨Nat.lt_of_lt_of_le lt hb.size, ⟨v, cell_below hb e1, e2.below hb⟩, cell_below hb c1, by rw [hb.frozen lt]; exact f1, h1, h2, h3⟩
/-- A tape whose bytes lie below B. -/
def TapeB (w : World) (b : Nat) (l : List Nat) (B a : Nat) : Prop := TapeAt w b l a ∧ ∀ v, w.cell? ⟨b, 0, none⟩ = some v → ∀ j, j < l.length → (ptr v j).block < B
theorem TapeAt.b {w : World} {b a : Nat} {l : List Nat} (h : TapeAt w b l a) : TapeB w b l w.heap.size a := by
  refine ⟨h, fun v hv j hj => ?_⟩
  obtain ⟨v', e1, e2⟩ := h.ex
  rw [e1] at hv
  injection hv with hv
  subst hv
  exact World.block_lt_of_cell? w _ (e2.cell j (by simpa using hj))
theorem TapeB.mono {w : World} {b a B B' : Nat} {l : List Nat} (h : TapeB w b l B a) (hB : B ≤ B') : TapeB w b l B' a := ⟨h.1, fun v hv j hj => Nat.lt_of_lt_of_le (h.2 v hv j hj) hB⟩
theorem TapeB.below {w w' : World} {b a B : Nat} {l : List Nat} (h : TapeB w b l B a) (hb : Below w.heap.size w w') : TapeB w' b l B a := by
  obtain ⟨h1, h2⟩ := h
  refine ⟨h1.below hb, fun v hv j hj => ?_⟩
  rw [hb.cell h1.lt] at hv
  exact h2 v hv j hj
theorem TapeB.low {w w' : World} {b a B : Nat} {l : List Nat} (h : TapeB w b l B a) (hb : Below B w w') (hB : b < B) : TapeB w' b l B a := by
  obtain ⟨⟨lt, ⟨v, e1, e2⟩, c1, f1, h1, h2, h3⟩, h4⟩ := h
  have hl := h4 v e1
  refine ⟨⟨Nat.lt_of_lt_of_le lt hb.size, ⟨v, by rw [hb.cell (by exact hB)]; exact e1, e2.sl, e2.len, fun j hj => ?_⟩, by rw [hb.cell (by exact hB)]; exact c1, by rw [hb.frozen (by exact hB)]; exact f1, h1, h2, h3⟩, fun u hu j hj => ?_⟩
  · rw [hb.cell (hl j (by simpa using hj))]; exact e2.cell j hj
  · rw [hb.cell (by exact hB)] at hu
    exact h4 u hu j hj
theorem TapeB.tick {w w' : World} {b a a' B : Nat} {l : List Nat} (h : TapeB w b l B a) (ht : Ticks b w w') (hta : TapeAt w' b l a') : TapeB w' b l B a' := by
  refine ⟨hta, fun v hv j hj => ?_⟩
  obtain ⟨u, e1, e2⟩ := h.1.ex
  have e3 := ht.cell h.1.c1 e1 (fun z => by obtain ⟨a, n, c, rfl, _⟩ := CellsV.sl e2; simp)
  rw [e3] at hv
  injection hv with hv
  subst hv
  exact h.2 _ e1 j hj
theorem TapeB.set {w : World} {b a B : Nat} {l : List Nat} (h : TapeB w b l B a) {p : Addr} {x : Value} (hp : p.block ≠ b) (hc : w.cell? p = some x) (hx : ∀ z, x ≠ .int .u8 z) (u : Value) : TapeB (w.setCell p u) b l B a := by
  obtain ⟨⟨lt, ⟨v, e1, e2⟩, c1, f1, h1, h2, h3⟩, h4⟩ := h
  have hne : ∀ k, p ≠ ⟨b, k, none⟩ := fun k e => hp (by rw [e])
  refine ⟨⟨by simpa [World.setCell] using lt, ⟨v, by rw [World.cell?_setCell_other _ _ _ _ (hne _)]; exact e1, e2.sl, e2.len, fun j hj => ?_⟩, by rw [World.cell?_setCell_other _ _ _ _ (hne _)]; exact c1, by rw [World.frozen?_setCell]; exact f1, h1, h2, h3⟩, fun u' hu j hj => ?_⟩
  · rw [World.cell?_setCell_other]
    · exact e2.cell j hj
    · intro e
      have h6 := e2.cell j hj
      rw [← e, hc] at h6
      injection h6 with h6
      rw [List.getElem_map] at h6
      exact hx _ h6
  · rw [World.cell?_setCell_other _ _ _ _ (hne _)] at hu
    exact h4 u' hu j hj
theorem Ticks.frozen {w w' : World} {b : Nat} (h : Ticks b w w') {p : Addr} (hp : p.block < w.heap.size) : w'.frozen? p = w.frozen? p := by
  rcases h with ⟨k, rfl⟩ | ⟨k, k', a, rfl⟩
  · exact (below_drewN (B := w.heap.size) w k).frozen hp
  · have h1 := (below_drewN (B := w.heap.size) w k)
    rw [(below_drewN (B := ((w.drewN k).setCell ⟨b, 1, none⟩ (.int .i64 a)).heap.size) _ k').frozen (by simp [World.setCell]; have := h1.size; omega)]
    rw [World.frozen?_setCell]
    exact h1.frozen hp
theorem C3.tick {w w' : World} {b a c : Nat} {l : List Nat} {v0 v1 v2 : Value} (h : C3 w c v0 v1 v2) (hta : TapeAt w b l a) (ht : Ticks b w w') (n0 : ∀ z, v0 ≠ .int .i64 z) (n1 : ∀ z, v1 ≠ .int .i64 z) (n2 : ∀ z, v2 ≠ .int .i64 z) : C3 w' c v0 v1 v2 :=
  ⟨Nat.lt_of_lt_of_le h.lt ht.size, ht.cell hta.c1 h.c0 n0, ht.cell hta.c1 h.c1 n1, ht.cell hta.c1 h.c2 n2, by rw [ht.frozen h.lt]; exact h.f0, by rw [ht.frozen h.lt]; exact h.f1, by rw [ht.frozen h.lt]; exact h.f2⟩
theorem IsSl.noInt {v : Value} (h : IsSl v) : ∀ z, v ≠ .int .i64 z := fun z e => by obtain ⟨a, n, c, rfl, _⟩ := h; cases e
theorem IsSl.noLimb {v : Value} (h : IsSl v) : ∀ z, v ≠ .int .u32 z := fun z e => by obtain ⟨a, n, c, rfl, _⟩ := h; cases e
theorem IsSl.noByte {v : Value} (h : IsSl v) : ∀ z, v ≠ .int .u8 z := fun z e => by obtain ⟨a, n, c, rfl, _⟩ := h; cases e
/-- A row grew: what lies below B is as it was. -/
theorem below_grow {w w' : World} {B : Nat} {u : Value} (hg : w.grownBy w' u.ownBlock) (hB : B ≤ w.heap.size) (hu : ∀ k, u.ownBlock = some k → B ≤ k ∧ k < w.heap.size) : Below B w w' := below_of_grown hg hB (fun k hk => (hu k hk).1)
/-- One of three cells is written. -/
theorem C3.set0 {w : World} {b : Nat} {v0 v1 v2 : Value} (h : C3 w b v0 v1 v2) (u : Value) : C3 (w.setCell ⟨b, 0, none⟩ u) b u v1 v2 := by
  obtain ⟨lt, c0, c1, c2, f0, f1, f2⟩ := h
  refine ⟨by simpa [World.setCell] using lt, ?_, ?_, ?_, ?_, ?_, ?_⟩ <;> go_simp
theorem C3.set1 {w : World} {b : Nat} {v0 v1 v2 : Value} (h : C3 w b v0 v1 v2) (u : Value) : C3 (w.setCell ⟨b, 1, none⟩ u) b v0 u v2 := by
  obtain ⟨lt, c0, c1, c2, f0, f1, f2⟩ := h
  refine ⟨by simpa [World.setCell] using lt, ?_, ?_, ?_, ?_, ?_, ?_⟩ <;> go_simp
theorem C3.set2 {w : World} {b : Nat} {v0 v1 v2 : Value} (h : C3 w b v0 v1 v2) (u : Value) : C3 (w.setCell ⟨b, 2, none⟩ u) b v0 v1 u := by
  obtain ⟨lt, c0, c1, c2, f0, f1, f2⟩ := h
  refine ⟨by simpa [World.setCell] using lt, ?_, ?_, ?_, ?_, ?_, ?_⟩ <;> go_simp
/-- A chain in the making: the tape bt, the variable b5 of its three slices, its rows. -/
structure ChW (w : World) (bt : Nat) (l : List Nat) (B b5 : Nat) (vr vs vl : Value) (rs : List Value) (rates : List (List Rat)) (start : List Rat) (lost : List Bool) : Prop where
  tape : ∃ a, TapeB w bt l B a
  box : C3 w b5 vr vs vl
  st : FrRow w 50 B vs start
  lo : OwnR w 4 B 1 vl (lost.map Value.bool).length (lost.map Value.bool)
  ra : OwnR w 24 B 1 vr rs.length rs
  rl : rs.length = rates.length
  rows : ∀ (j : Nat) (h : j < rs.length) (h' : j < rates.length), FrRow w 50 B rs[j] rates[j] ∧ (rs[j].ownBlock = none ∨ rs[j].ownBlock ≠ vs.ownBlock)
  sz : B ≤ w.heap.size
  bt5 : bt < B ∧ b5 < B ∧ b5 ≠ bt
section
variable {w w' : World} {bt : Nat} {l : List Nat} {B b5 : Nat} {vr vs vl : Value} {rs : List Value} {rates : List (List Rat)} {start : List Rat} {lost : List Bool}
/-- The state as it stands elsewhere. -/
theorem ChW.of (h : ChW w bt l B b5 vr vs vl rs rates start lost) (hm : Moves B w w') (ht : ∃ a, TapeB w' bt l B a) (hb : C3 w' b5 vr vs vl) : ChW w' bt l B b5 vr vs vl rs rates start lost :=
  ⟨ht, hb, h.st.moves hm (Nat.le_refl _), h.lo.moves hm (Nat.le_refl _), h.ra.moves hm (Nat.le_refl _), h.rl, fun j h1 h2 => ⟨(h.rows j h1 h2).1.moves hm (Nat.le_refl _), (h.rows j h1 h2).2⟩, Nat.le_trans h.sz hm.size, h.bt5⟩
theorem ChW.below (h : ChW w bt l B b5 vr vs vl rs rates start lost) (hb : Below w.heap.size w w') : ChW w' bt l B b5 vr vs vl rs rates start lost := by
  obtain ⟨a, ht⟩ := h.tape
  exact h.of (Moves.below hb) ⟨a, ht.below hb⟩ (h.box.belowS hb)
theorem ChW.tick (h : ChW w bt l B b5 vr vs vl rs rates start lost) {a' : Nat} (ht : Ticks bt w w') (hta : TapeAt w' bt l a') : ChW w' bt l B b5 vr vs vl rs rates start lost := by
  obtain ⟨a, h0⟩ := h.tape
  exact h.of (Moves.tick h0.1 h.bt5.1 ht) ⟨a', h0.tick ht hta⟩ (h.box.tick h0.1 ht h.ra.sl.noInt h.st.sl.noInt h.lo.sl.noInt)
/-- c.Lost grew. -/
theorem ChW.lostG (h : ChW w bt l B b5 vr vs vl rs rates start lost) {c : Bool} {v' : Value} (hv : OwnR w' 4 B 1 v' (lost.map Value.bool ++ [Value.bool c]).length (lost.map Value.bool ++ [Value.bool c])) (hg : w.grownBy w' vl.ownBlock) (hn : NoLimb w vl) :
    ChW (w'.setCell ⟨b5, 2, none⟩ v') bt l B b5 vr vs v' rs rates start (lost ++ [c]) ∧ Below B w w' := by
  obtain ⟨⟨a, ht⟩, box, st, lo, ra, rl, rows, sz, b1, b2, b3⟩ := h
  have hb := below_grow (B := B) hg sz lo.block
  have box' := box.below hb b2
  have hm : Moves B w' (w'.setCell ⟨b5, 2, none⟩ v') := Moves.set b2 box'.c2 lo.sl.noLimb _
  obtain ⟨xs, s1, s2⟩ := id st
  have st' : FrRow w' 50 B vs start := st.grown hg hn (s1.kinds lo (by decide))
  refine ⟨⟨⟨a, (ht.low hb b1).set (by exact b3) box'.c2 lo.sl.noByte _⟩, box'.set2 _, st'.moves hm (Nat.le_refl _), ?_, (ra.grown hg (ra.kinds lo (by decide))).moves hm (Nat.le_refl _), rl, fun j h1 h2 => ?_, Nat.le_trans sz (Nat.le_trans hb.size hm.size), b1, b2, b3⟩, hb⟩
  · rw [List.map_append]; exact hv.moves hm (Nat.le_refl _)
  · obtain ⟨k1, k2⟩ := rows j h1 h2
    obtain ⟨ys, y1, y2⟩ := id k1
    exact ⟨(k1.grown hg hn (y1.kinds lo (by decide))).moves hm (Nat.le_refl _), k2⟩
/-- c.Start grew. -/
theorem ChW.startG (h : ChW w bt l B b5 vr vs vl rs rates start lost) {q : Rat} {v' : Value} {k : Nat} (hv : FrRow w' 50 B v' (start ++ [q])) (hg : w.grownBy w' vs.ownBlock) (hn : NoLimb w vs) (hvb : v'.ownBlock = vs.ownBlock ∨ v'.ownBlock = some k) (hk : w.heap.size ≤ k) :
    ChW (w'.setCell ⟨b5, 1, none⟩ v') bt l B b5 vr v' vl rs rates (start ++ [q]) lost ∧ Below B w w' := by
  obtain ⟨⟨a, ht⟩, box, st, lo, ra, rl, rows, sz, b1, b2, b3⟩ := h
  have hb := below_grow (B := B) hg sz st.block
  have box' := box.below hb b2
  have hm : Moves B w' (w'.setCell ⟨b5, 1, none⟩ v') := Moves.set b2 box'.c1 st.sl.noLimb _
  obtain ⟨xs, s1, s2⟩ := id st
  refine ⟨⟨⟨a, (ht.low hb b1).set (by exact b3) box'.c1 st.sl.noByte _⟩, box'.set1 _, hv.moves hm (Nat.le_refl _), (lo.grown hg (lo.kinds s1 (by decide))).moves hm (Nat.le_refl _), (ra.grown hg (ra.kinds s1 (by decide))).moves hm (Nat.le_refl _), rl, fun j h1 h2 => ?_, Nat.le_trans sz (Nat.le_trans hb.size hm.size), b1, b2, b3⟩, hb⟩
  obtain ⟨k1, k2⟩ := rows j h1 h2
  refine ⟨(k1.grown hg hn k2).moves hm (Nat.le_refl _), ?_⟩
  rcases k2 with k2 | k2
  · exact Or.inl k2
  · cases ho : rs[j].ownBlock with
    | none => exact Or.inl rfl
    | some g =>
      refine Or.inr ?_
      have := k1.block g ho
      rcases hvb with e | e
      · rw [e, ← ho]; exact k2
      · rw [e]; intro e2; injection e2 with e2; omega
/-- c.Rates grew. -/
theorem ChW.ratesG (h : ChW w bt l B b5 vr vs vl rs rates start lost) {q : List Rat} {r v' : Value} (hr : FrRow w 50 B r q) (hrs : r.ownBlock = none ∨ r.ownBlock ≠ vs.ownBlock) (hv : OwnR w' 24 B 1 v' (rs ++ [r]).length (rs ++ [r])) (hg : w.grownBy w' vr.ownBlock) (hn : NoLimb w vr) :
    ChW (w'.setCell ⟨b5, 0, none⟩ v') bt l B b5 v' vs vl (rs ++ [r]) (rates ++ [q]) start lost ∧ Below B w w' := by
  obtain ⟨⟨a, ht⟩, box, st, lo, ra, rl, rows, sz, b1, b2, b3⟩ := h
  have hb := below_grow (B := B) hg sz ra.block
  have box' := box.below hb b2
  have hm : Moves B w' (w'.setCell ⟨b5, 0, none⟩ v') := Moves.set b2 box'.c0 ra.sl.noLimb _
  obtain ⟨xs, s1, s2⟩ := id st
  obtain ⟨zs, z1, z2⟩ := id hr
  refine ⟨⟨⟨a, (ht.low hb b1).set (by exact b3) box'.c0 ra.sl.noByte _⟩, box'.set0 _, (st.grown hg hn (s1.kinds ra (by decide))).moves hm (Nat.le_refl _), (lo.grown hg (lo.kinds ra (by decide))).moves hm (Nat.le_refl _), hv.moves hm (Nat.le_refl _), by simp [rl], fun j h1 h2 => ?_, Nat.le_trans sz (Nat.le_trans hb.size hm.size), b1, b2, b3⟩, hb⟩
  rcases Nat.lt_or_ge j rs.length with hj | hj
  · have hj2 : j < rates.length := by omega
    rw [List.getElem_append_left hj, List.getElem_append_left hj2]
    obtain ⟨k1, k2⟩ := rows j hj hj2
    obtain ⟨ys, y1, y2⟩ := id k1
    exact ⟨(k1.grown hg hn (y1.kinds ra (by decide))).moves hm (Nat.le_refl _), k2⟩
  · obtain rfl : j = rs.length := by simp at h1; omega
    have e1 : (rs ++ [r])[rs.length]'h1 = r := by simp
    have e2 : (rates ++ [q])[rs.length]'h2 = q := by simp [rl]
    rw [e1, e2]
    exact ⟨(hr.grown hg hn (z1.kinds ra (by decide))).moves hm (Nat.le_refl _), hrs⟩
end
end Go.Proofs.Ytoldfpkafcefnaa
