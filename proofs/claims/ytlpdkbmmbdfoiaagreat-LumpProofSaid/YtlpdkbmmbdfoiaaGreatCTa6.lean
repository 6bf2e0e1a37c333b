/-
  Tape.Chain, the inner loop's state. No code is walked here.
  Ahead of it: The state of Tape.Chain while a chain is made. No code is walked here. package lump: Quotient, the state of its loop.
-/
import Derived.Test.YtlpdkbmmbdfoiaaGreatCTa3
import Derived.Test.YtlpdkbmmbdfoiaaGreatCMath14
import Derived.Test.YtlpdkbmmbdfoiaaGreatCMath13
namespace Go.Proofs.YtlpdkbmmbdfoiaaGreat
set_option linter.unusedVariables false
set_option linter.unusedSimpArgs false
open Go.RowKit

theorem TapeAt.below {w w' : World} {l : List Nat} {b a : Nat} (h : TapeAt w b l a) (hb : Below w.heap.size w w') : TapeAt w' b l a := by
  obtain ⟨lt, ⟨v, e1, e2⟩, c1, f1, h1, h2, h3⟩ := h
  exact ⟨Nat.lt_of_lt_of_le lt hb.size, ⟨v, cell_below hb e1, e2.below hb⟩, cell_below hb c1, by rw [hb.frozen lt]; exact f1, h1, h2, h3⟩
/-- A tape whose bytes lie below B. -/
def TapeB (w : World) (b : Nat) (l : List Nat) (B a : Nat) : Prop := TapeAt w b l a ∧ ∀ v, w.cell? ⟨b, 0, none⟩ = some v → ∀ j, j < l.length → (ptr v j).block < B
theorem TapeAt.b {w : World} {b a : Nat} {l : List Nat} (h : TapeAt w b l a) : TapeB w b l w.heap.size a := by
  refine ⟨h, fun v hv j hj => ?_⟩
  obtain ⟨v', e1, e2⟩ := h.ex
  rw [e1] at hv
  injection hv with hv
  subst hv
  exact World.block_lt_of_cell? w _ (e2.cell j (by simpa using hj))
theorem TapeB.mono {w : World} {b a B B' : Nat} {l : List Nat} (h : TapeB w b l B a) (hB : B ≤ B') : TapeB w b l B' a := ⟨h.1, fun v hv j hj => Nat.lt_of_lt_of_le (h.2 v hv j hj) hB⟩
theorem TapeB.below {w w' : World} {b a B : Nat} {l : List Nat} (h : TapeB w b l B a) (hb : Below w.heap.size w w') : TapeB w' b l B a := by
  obtain ⟨h1, h2⟩ := h
  refine ⟨h1.below hb, fun v hv j hj => ?_⟩
  rw [hb.cell h1.lt] at hv
  exact h2 v hv j hj
theorem TapeB.low {w w' : World} {b a B : Nat} {l : List Nat} (h : TapeB w b l B a) (hb : Below B w w') (hB : b < B) : TapeB w' b l B a := by
  obtain ⟨⟨lt, ⟨v, e1, e2⟩, c1, f1, h1, h2, h3⟩, h4⟩ := h
  have hl := h4 v e1
  refine ⟨⟨Nat.lt_of_lt_of_le lt hb.size, ⟨v, by rw [hb.cell (by exact hB)]; exact e1, e2.sl, e2.len, fun j hj => ?_⟩, by rw [hb.cell (by exact hB)]; exact c1, by rw [hb.frozen (by exact hB)]; exact f1, h1, h2, h3⟩, fun u hu j hj => ?_⟩
  · rw [hb.cell (hl j (by simpa using hj))]; exact e2.cell j hj
  · rw [hb.cell (by exact hB)] at hu
    exact h4 u hu j hj
theorem TapeB.tick {w w' : World} {b a a' B : Nat} {l : List Nat} (h : TapeB w b l B a) (ht : Ticks b w w') (hta : TapeAt w' b l a') : TapeB w' b l B a' := by
  refine ⟨hta, fun v hv j hj => ?_⟩
  obtain ⟨u, e1, e2⟩ := h.1.ex
  have e3 := ht.cell h.1.c1 e1 (fun z => by obtain ⟨a, n, c, rfl, _⟩ := CellsV.sl e2; simp)
  rw [e3] at hv
  injection hv with hv
  subst hv
  exact h.2 _ e1 j hj
theorem TapeB.set {w : World} {b a B : Nat} {l : List Nat} (h : TapeB w b l B a) {p : Addr} {x : Value} (hp : p.block ≠ b) (hc : w.cell? p = some x) (hx : ∀ z, x ≠ .int .u8 z) (u : Value) : TapeB (w.setCell p u) b l B a := by
  obtain ⟨⟨lt, ⟨v, e1, e2⟩, c1, f1, h1, h2, h3⟩, h4⟩ := h
  have hne : ∀ k, p ≠ ⟨b, k, none⟩ := fun k e => hp (by rw [e])
  refine ⟨⟨by simpa [World.setCell] using lt, ⟨v, by rw [World.cell?_setCell_other _ _ _ _ (hne _)]; exact e1, e2.sl, e2.len, fun j hj => ?_⟩, by rw [World.cell?_setCell_other _ _ _ _ (hne _)]; exact c1, by rw [World.frozen?_setCell]; exact f1, h1, h2, h3⟩, fun u' hu j hj => ?_⟩
  · rw [World.cell?_setCell_other]
    · exact e2.cell j hj
    · intro e
      have h6 := e2.cell j hj
      rw [← e, hc] at h6
      injection h6 with h6
      rw [List.getElem_map] at h6
      exact hx _ h6
  · rw [World.cell?_setCell_other _ _ _ _ (hne _)] at hu
    exact h4 u' hu j hj
theorem Ticks.frozen {w w' : World} {b : Nat} (h : Ticks b w w') {p : Addr} (hp : p.block < w.heap.size) : w'.frozen? p = w.frozen? p := by
  rcases h with ⟨k, rfl⟩ | ⟨k, k', a, rfl⟩
  · exact (below_drewN (B := w.heap.size) w k).frozen hp
  · have h1 := (below_drewN (B := w.heap.size) w k)
    rw [(below_drewN (B := ((w.drewN k).setCell ⟨b, 1, none⟩ (.int .i64 a)).heap.size) _ k').frozen (by simp [World.setCell]; have := h1.size; omega)]
    rw [World.frozen?_setCell]
    exact h1.frozen hp
theorem C3.tick {w w' : World} {b a c : Nat} {l : List Nat} {v0 v1 v2 : Value} (h : C3 w c v0 v1 v2) (hta : TapeAt w b l a) (ht : Ticks b w w') (n0 : ∀ z, v0 ≠ .int .i64 z) (n1 : ∀ z, v1 ≠ .int .i64 z) (n2 : ∀ z, v2 ≠ .int .i64 z) : C3 w' c v0 v1 v2 :=
  ⟨Nat.lt_of_lt_of_le h.lt ht.size, ht.cell hta.c1 h.c0 n0, ht.cell hta.c1 h.c1 n1, ht.cell hta.c1 h.c2 n2, by rw [ht.frozen h.lt]; exact h.f0, by rw [ht.frozen h.lt]; exact h.f1, by rw [ht.frozen h.lt]; exact h.f2⟩
theorem IsSl.noInt {v : Value} (h : IsSl v) : ∀ z, v ≠ .int .i64 z := fun z e => by obtain ⟨a, n, c, rfl, _⟩ := h; cases e
theorem IsSl.noLimb {v : Value} (h : IsSl v) : ∀ z, v ≠ .int .u32 z := fun z e => by obtain ⟨a, n, c, rfl, _⟩ := h; cases e
theorem IsSl.noByte {v : Value} (h : IsSl v) : ∀ z, v ≠ .int .u8 z := fun z e => by obtain ⟨a, n, c, rfl, _⟩ := h; cases e
/-- A row grew: what lies below B is as it was. -/
theorem below_grow {w w' : World} {B : Nat} {u : Value} (hg : w.grownBy w' u.ownBlock) (hB : B ≤ w.heap.size) (hu : ∀ k, u.ownBlock = some k → B ≤ k ∧ k < w.heap.size) : Below B w w' := below_of_grown hg hB (fun k hk => (hu k hk).1)
/-- A chain in the making: the tape bt, the variable b5 of its three slices, its rows. -/
structure ChW (w : World) (bt : Nat) (l : List Nat) (B b5 : Nat) (vr vs vl : Value) (rs : List Value) (rates : List (List Rat)) (start : List Rat) (lost : List Bool) : Prop where
  tape : ∃ a, TapeB w bt l B a
  box : C3 w b5 vr vs vl
  st : FrRow w 38 B vs start
  lo : OwnR w 4 B 1 vl (lost.map Value.bool).length (lost.map Value.bool)
  ra : OwnR w 25 B 1 vr rs.length rs
  rl : rs.length = rates.length
  rows : ∀ (j : Nat) (h : j < rs.length) (h' : j < rates.length), FrRow w 38 B rs[j] rates[j] ∧ (rs[j].ownBlock = none ∨ rs[j].ownBlock ≠ vs.ownBlock)
  sz : B ≤ w.heap.size
  bt5 : bt < B ∧ b5 < B ∧ b5 ≠ bt
section
variable {w w' : World} {bt : Nat} {l : List Nat} {B b5 : Nat} {vr vs vl : Value} {rs : List Value} {rates : List (List Rat)} {start : List Rat} {lost : List Bool}
/-- The state as it stands elsewhere. -/
theorem ChW.of (h : ChW w bt l B b5 vr vs vl rs rates start lost) (hm : Moves B w w') (ht : ∃ a, TapeB w' bt l B a) (hb : C3 w' b5 vr vs vl) : ChW w' bt l B b5 vr vs vl rs rates start lost :=
  ⟨ht, hb, h.st.moves hm (Nat.le_refl _), h.lo.moves hm (Nat.le_refl _), h.ra.moves hm (Nat.le_refl _), h.rl, fun j h1 h2 => ⟨(h.rows j h1 h2).1.moves hm (Nat.le_refl _), (h.rows j h1 h2).2⟩, Nat.le_trans h.sz hm.size, h.bt5⟩
theorem ChW.below (h : ChW w bt l B b5 vr vs vl rs rates start lost) (hb : Below w.heap.size w w') : ChW w' bt l B b5 vr vs vl rs rates start lost := by
  obtain ⟨a, ht⟩ := h.tape
  exact h.of (Moves.below hb) ⟨a, ht.below hb⟩ (h.box.belowS hb)
theorem ChW.tick (h : ChW w bt l B b5 vr vs vl rs rates start lost) {a' : Nat} (ht : Ticks bt w w') (hta : TapeAt w' bt l a') : ChW w' bt l B b5 vr vs vl rs rates start lost := by
  obtain ⟨a, h0⟩ := h.tape
  exact h.of (Moves.tick h0.1 h.bt5.1 ht) ⟨a', h0.tick ht hta⟩ (h.box.tick h0.1 ht h.ra.sl.noInt h.st.sl.noInt h.lo.sl.noInt)
/-- c.Lost grew. -/
theorem ChW.lostG (h : ChW w bt l B b5 vr vs vl rs rates start lost) {c : Bool} {v' : Value} (hv : OwnR w' 4 B 1 v' (lost.map Value.bool ++ [Value.bool c]).length (lost.map Value.bool ++ [Value.bool c])) (hg : w.grownBy w' vl.ownBlock) (hn : NoLimb w vl) :
    ChW (w'.setCell ⟨b5, 2, none⟩ v') bt l B b5 vr vs v' rs rates start (lost ++ [c]) ∧ Below B w w' := by
  obtain ⟨⟨a, ht⟩, box, st, lo, ra, rl, rows, sz, b1, b2, b3⟩ := h
  have hb := below_grow (B := B) hg sz lo.block
  have box' := box.below hb b2
  have hm : Moves B w' (w'.setCell ⟨b5, 2, none⟩ v') := Moves.set b2 box'.c2 lo.sl.noLimb _
  obtain ⟨xs, s1, s2⟩ := id st
  have st' : FrRow w' 38 B vs start := st.grown hg hn (s1.kinds lo (by decide))
  refine ⟨⟨⟨a, (ht.low hb b1).set (by exact b3) box'.c2 lo.sl.noByte _⟩, box'.set2 _, st'.moves hm (Nat.le_refl _), ?_, (ra.grown hg (ra.kinds lo (by decide))).moves hm (Nat.le_refl _), rl, fun j h1 h2 => ?_, Nat.le_trans sz (Nat.le_trans hb.size hm.size), b1, b2, b3⟩, hb⟩
  · rw [List.map_append]; exact hv.moves hm (Nat.le_refl _)
  · obtain ⟨k1, k2⟩ := rows j h1 h2
    obtain ⟨ys, y1, y2⟩ := id k1
    exact ⟨(k1.grown hg hn (y1.kinds lo (by decide))).moves hm (Nat.le_refl _), k2⟩
/-- c.Start grew. -/
theorem ChW.startG (h : ChW w bt l B b5 vr vs vl rs rates start lost) {q : Rat} {v' : Value} {k : Nat} (hv : FrRow w' 38 B v' (start ++ [q])) (hg : w.grownBy w' vs.ownBlock) (hn : NoLimb w vs) (hvb : v'.ownBlock = vs.ownBlock ∨ v'.ownBlock = some k) (hk : w.heap.size ≤ k) :
    ChW (w'.setCell ⟨b5, 1, none⟩ v') bt l B b5 vr v' vl rs rates (start ++ [q]) lost ∧ Below B w w' := by
  obtain ⟨⟨a, ht⟩, box, st, lo, ra, rl, rows, sz, b1, b2, b3⟩ := h
  have hb := below_grow (B := B) hg sz st.block
  have box' := box.below hb b2
  have hm : Moves B w' (w'.setCell ⟨b5, 1, none⟩ v') := Moves.set b2 box'.c1 st.sl.noLimb _
  obtain ⟨xs, s1, s2⟩ := id st
  refine ⟨⟨⟨a, (ht.low hb b1).set (by exact b3) box'.c1 st.sl.noByte _⟩, box'.set1 _, hv.moves hm (Nat.le_refl _), (lo.grown hg (lo.kinds s1 (by decide))).moves hm (Nat.le_refl _), (ra.grown hg (ra.kinds s1 (by decide))).moves hm (Nat.le_refl _), rl, fun j h1 h2 => ?_, Nat.le_trans sz (Nat.le_trans hb.size hm.size), b1, b2, b3⟩, hb⟩
  obtain ⟨k1, k2⟩ := rows j h1 h2
  refine ⟨(k1.grown hg hn k2).moves hm (Nat.le_refl _), ?_⟩
  rcases k2 with k2 | k2
  · exact Or.inl k2
  · cases ho : rs[j].ownBlock with
    | none => exact Or.inl rfl
    | some g =>
      refine Or.inr ?_
      have := k1.block g ho
      rcases hvb with e | e
      · rw [e, ← ho]; exact k2
      · rw [e]; intro e2; injection e2 with e2; omega
/-- c.Rates grew. -/
theorem ChW.ratesG (h : ChW w bt l B b5 vr vs vl rs rates start lost) {q : List Rat} {r v' : Value} (hr : FrRow w 38 B r q) (hrs : r.ownBlock = none ∨ r.ownBlock ≠ vs.ownBlock) (hv : OwnR w' 25 B 1 v' (rs ++ [r]).length (rs ++ [r])) (hg : w.grownBy w' vr.ownBlock) (hn : NoLimb w vr) :
    ChW (w'.setCell ⟨b5, 0, none⟩ v') bt l B b5 v' vs vl (rs ++ [r]) (rates ++ [q]) start lost ∧ Below B w w' := by
  obtain ⟨⟨a, ht⟩, box, st, lo, ra, rl, rows, sz, b1, b2, b3⟩ := h
  have hb := below_grow (B := B) hg sz ra.block
  have box' := box.below hb b2
  have hm : Moves B w' (w'.setCell ⟨b5, 0, none⟩ v') := Moves.set b2 box'.c0 ra.sl.noLimb _
  obtain ⟨xs, s1, s2⟩ := id st
  obtain ⟨zs, z1, z2⟩ := id hr
  refine ⟨⟨⟨a, (ht.low hb b1).set (by exact b3) box'.c0 ra.sl.noByte _⟩, box'.set0 _, (st.grown hg hn (s1.kinds ra (by decide))).moves hm (Nat.le_refl _), (lo.grown hg (lo.kinds ra (by decide))).moves hm (Nat.le_refl _), hv.moves hm (Nat.le_refl _), by simp [rl], fun j h1 h2 => ?_, Nat.le_trans sz (Nat.le_trans hb.size hm.size), b1, b2, b3⟩, hb⟩
  rcases Nat.lt_or_ge j rs.length with hj | hj
  · have hj2 : j < rates.length := by omega
    rw [List.getElem_append_left hj, List.getElem_append_left hj2]
    obtain ⟨k1, k2⟩ := rows j hj hj2
    obtain ⟨ys, y1, y2⟩ := id k1
    exact ⟨(k1.grown hg hn (y1.kinds ra (by decide))).moves hm (Nat.le_refl _), k2⟩
  · obtain rfl : j = rs.length := by simp at h1; omega
    have e1 : (rs ++ [r])[rs.length]'h1 = r := by simp
    have e2 : (rates ++ [q])[rs.length]'h2 = q := by simp [rl]
    rw [e1, e2]
    exact ⟨(hr.grown hg hn (z1.kinds ra (by decide))).moves hm (Nat.le_refl _), hrs⟩
end
end Go.Proofs.YtlpdkbmmbdfoiaaGreat
namespace Go.Proofs.YtlpdkbmmbdfoiaaGreat
set_option linter.unusedVariables false
set_option linter.unusedSimpArgs false
open Go.RowKit

theorem OwnFr.over {w : World} {e : TypeId} {B n : Nat} {v : Value} (h : OwnFr w e B v n) {p : Addr} (hp : p.block ≠ (base v).block) (u : Value) : OwnFr (w.setCell p u) e B v n := by
  obtain ⟨g, cs, rfl, h1, h2⟩ := h
  refine ⟨g, cs, rfl, ⟨h1.1, ?_⟩, h2⟩
  rcases h1.2 with ⟨h', _⟩ | ⟨g', cap, cur, h', hb, hg, rest⟩
  · cases h'
  · refine .inr ⟨g', cap, cur, h', hb, ?_, rest⟩
    injection h' with h4
    injection h4 with h4
    injection h4 with h4
    subst h4
    simp only [base] at hp
    rw [Below.heap_setCell _ _ _ _ (fun e => hp e.symm)]; exact hg
theorem ElemC.over {w : World} {v : Value} {j : Nat} {q : Rat} (h : ElemC w v j q) {p : Addr} {x : Value} (hp : p.block ≠ (base v).block) (hc : w.cell? p = some x) (hx : ∀ z, x ≠ .int .u32 z) (u : Value) : ElemC (w.setCell p u) v j q := by
  obtain ⟨a, b, h1, h2, h3, h4, h5⟩ := h
  have hne : ∀ k, p ≠ ptr v k := fun k e => hp (by rw [e]; exact ptr_block v k)
  exact ⟨a, b, by rw [World.cell?_setCell_other _ _ _ _ (hne _)]; exact h1, by rw [World.cell?_setCell_other _ _ _ _ (hne _)]; exact h2, by rw [World.cell?_setCell_other _ _ _ _ (hne _)]; exact h3, ⟨h4.1.over hc hx u, h4.2⟩, ⟨h5.1.over hc hx u, h5.2⟩⟩
theorem FracsC.over3 {w : World} {e : TypeId} {B n : Nat} {v r : Value} {q : List Rat} (h : OwnFr w e B v n) (hq : FracsC w r q) (hne : (base v).block ≠ (base r).block) {i : Nat} (hi : i < n) (x y z : Value) (hx : ∀ k, x ≠ .int .u32 k) (hy : ∀ k, y ≠ .int .u32 k) :
    FracsC (((w.setCell (ptr v (i * 3)) x).setCell (ptr v (i * 3 + 1)) y).setCell (ptr v (i * 3 + 2)) z) r q := by
  have h1 := h.set (i * 3) x hx
  have h2 := h1.1.set (i * 3 + 1) y hy
  obtain ⟨c0, d0, e0⟩ := h.cell (i * 3) (by omega)
  obtain ⟨c1, d1, e1⟩ := h1.1.cell (i * 3 + 1) (by omega)
  obtain ⟨c2, d2, e2⟩ := h2.1.cell (i * 3 + 2) (by omega)
  exact ((hq.over (p := ptr v (i * 3)) (u := x) (by rw [ptr_block]; exact hne) d0 e0).over (p := ptr v (i * 3 + 1)) (u := y) (by rw [ptr_block]; exact hne) d1 e1).over (p := ptr v (i * 3 + 2)) (u := z) (by rw [ptr_block]; exact hne) d2 e2
theorem OwnE.other3 {w : World} {e : TypeId} {B : Nat} {v u : Value} {es : List Value} (h : OwnE w e B v es) (hne : (base u).block ≠ (base v).block) (i j k : Nat) (x y z : Value) :
    OwnE (((w.setCell (ptr u i) x).setCell (ptr u j) y).setCell (ptr u k) z) e B v es :=
  ((h.other _ x (by rw [ptr_block]; exact hne)).other _ y (by rw [ptr_block]; exact hne)).other _ z (by rw [ptr_block]; exact hne)
/-- The loop of Quotient. -/
def QuoI (c : RC) (bl : List Int) (tF tB : TypeId) (B3 B4 B5 : Nat) (v3 v4 : Value) (k : Nat) (es : List Value) (fs : List Bool) (wr : World) : Prop :=
  OwnE wr tF B3 v3 es ∧ es.length = cnt bl ∧ OwnE wr tB B4 v4 (fs.map Value.bool) ∧ fs.length = cnt bl ∧
  (∀ b, b < cnt (bl.take k) → ∃ a n kk, es[b]? = some (.slice (some a) n kk) ∧ FracsC wr (.slice (some a) n kk) ((bsums bl (rowsQ c (firstB bl b)) (cnt bl)).set b 0) ∧ B5 ≤ a.block ∧ fs[b]? = some (c.lost.getD (firstB bl b) false)) ∧
  (∀ b, cnt (bl.take k) ≤ b → b < cnt bl → es[b]? = some (.slice none 0 0))
theorem QuoI.start {c : RC} {bl : List Int} {tF tB : TypeId} {B3 B4 : Nat} (B5 : Nat) {v3 v4 : Value} {w : World} (h3 : OwnE w tF B3 v3 (List.replicate (cnt bl) (.slice none 0 0))) (h4 : OwnE w tB B4 v4 (List.replicate (cnt bl) (.bool false))) :
    QuoI c bl tF tB B3 B4 B5 v3 v4 0 (List.replicate (cnt bl) (.slice none 0 0)) (List.replicate (cnt bl) false) w := by
  refine ⟨h3, by simp, by rw [List.map_replicate]; exact h4, by simp, fun b hb => ?_, fun b _ hb => ?_⟩
  · simp [cnt_nil] at hb
  · rw [List.getElem?_replicate, if_pos hb]
theorem QuoI.skip {c : RC} {bl : List Int} {tF tB : TypeId} {B3 B4 B5 : Nat} {v3 v4 : Value} {k : Nat} {es : List Value} {fs : List Bool} {wr : World}
    (h : QuoI c bl tF tB B3 B4 B5 v3 v4 k es fs wr) {b : Nat} (hk : bl[k]? = some (b : Int)) (hb : b < cnt (bl.take k)) : QuoI c bl tF tB B3 B4 B5 v3 v4 (k + 1) es fs wr := by
  obtain ⟨h3, hel, h4, hfl, hseen, hnew⟩ := h
  obtain ⟨hk1, hk2⟩ := List.getElem?_eq_some_iff.1 hk
  have hc := cnt_take bl k hk1
  rw [if_neg (by rw [hk2]; omega)] at hc
  exact ⟨h3, hel, h4, hfl, fun a ha => hseen a (by omega), fun a ha => hnew a (by omega)⟩
theorem QuoI.fresh {c : RC} {bl : List Int} {tF tB tE : TypeId} {B3 B4 B5 : Nat} {v3 v4 : Value} {k : Nat} {es : List Value} {fs : List Bool} {wr w5 w6 : World}
    (h : QuoI c bl tF tB B3 B4 B5 v3 v4 k es fs wr) (hbel : Below wr.heap.size wr w5) (hok : okB bl) {b : Nat} (hk : bl[k]? = some (b : Int)) (hb : b = cnt (bl.take k)) (h34 : (ptr v3 b).block ≠ (base v4).block)
    (hv3 : (base v3).block < B5) (hv4 : (base v4).block < B5) {g5 n : Nat} {row : List Rat} (how : OwnFr w5 tE wr.heap.size (.slice (some ⟨g5, 0, none⟩) n n) n) (hBB : B5 ≤ wr.heap.size) (hn : n = cnt bl)
    (hel : ∀ j, j < n → ElemC w5 (.slice (some ⟨g5, 0, none⟩) n n) j (bsum bl row j)) (hrq : rowsQ c k = row) (x : Bool) (hx : x = c.lost.getD k false)
    (W : World) (hW : W = (w5.setCell (ptr v3 b) (.slice (some ⟨g5, 0, none⟩) n n)).setCell (ptr v4 b) (.bool x)) (h56 : Below W.heap.size W w6) {x9 y9 z9 : Value} (hz : FracC w6 (.agg #[x9, y9, z9]) 0) :
    QuoI c bl tF tB B3 B4 B5 v3 v4 (k + 1) (es.set b (.slice (some ⟨g5, 0, none⟩) n n)) (fs.set b x)
      (((w6.setCell (ptr (.slice (some ⟨g5, 0, none⟩) n n) (b * 3)) x9).setCell (ptr (.slice (some ⟨g5, 0, none⟩) n n) (b * 3 + 1)) y9).setCell (ptr (.slice (some ⟨g5, 0, none⟩) n n) (b * 3 + 2)) z9) ∧
    (B3 ≤ B4 → Below B3 w5 (((w6.setCell (ptr (.slice (some ⟨g5, 0, none⟩) n n) (b * 3)) x9).setCell (ptr (.slice (some ⟨g5, 0, none⟩) n n) (b * 3 + 1)) y9).setCell (ptr (.slice (some ⟨g5, 0, none⟩) n n) (b * 3 + 2)) z9)) := by
  obtain ⟨h3, hel3, h4, hfl, hseen, hnew⟩ := h
  obtain ⟨hk1, hk2⟩ := List.getElem?_eq_some_iff.1 hk
  have hbc := hok.lt hk
  have hbc2 : b < cnt bl := by omega
  have hbes : b < es.length := by omega
  have hbfs : b < (fs.map Value.bool).length := by rw [List.length_map]; omega
  have hct := cnt_take bl k hk1
  rw [if_pos (by rw [hk2, hb])] at hct
  have hE : es[b]'hbes = .slice none 0 0 := by
    have := hnew b (by omega) hbc2
    rw [List.getElem?_eq_getElem hbes] at this
    injection this
  have hg5 : wr.heap.size ≤ g5 ∧ g5 < w5.heap.size := how.block
  have k3 := h3.below hbel
  have k4 := h4.below hbel
  have hc3 := k3.cell b hbes
  rw [hE] at hc3
  have s3 := k3.set b hbes (.slice (some ⟨g5, 0, none⟩) n n)
  have k4' := k4.other (ptr v3 b) (.slice (some ⟨g5, 0, none⟩) n n) h34
  have hc4 := k4'.cell b hbfs
  have hc4' : ((w5.setCell (ptr v3 b) (.slice (some ⟨g5, 0, none⟩) n n))).cell? (ptr v4 b) = some (.bool (fs[b]'(by omega))) := by rw [hc4]; simp
  have s4 := k4'.set b hbfs (.bool x)
  have h43 : (ptr v4 b).block ≠ (base v3).block := by rw [ptr_block]; rw [ptr_block] at h34; exact fun e => h34 e.symm
  have k3' := s3.1.other (ptr v4 b) (.bool x) h43
  have how1 := (how.over (p := ptr v3 b) (by rw [ptr_block]; show _ ≠ g5; omega) (.slice (some ⟨g5, 0, none⟩) n n)).over (p := ptr v4 b) (by rw [ptr_block]; show _ ≠ g5; omega) (.bool x)
  rw [← hW] at how1 k3' s4
  have how6 := how1.below h56
  have hover : ∀ (r : Value) (q : List Rat), B5 ≤ (base r).block → (base r).block < wr.heap.size → FracsC wr r q → FracsC (((w6.setCell (ptr (.slice (some ⟨g5, 0, none⟩) n n) (b * 3)) x9).setCell (ptr (.slice (some ⟨g5, 0, none⟩) n n) (b * 3 + 1)) y9).setCell (ptr (.slice (some ⟨g5, 0, none⟩) n n) (b * 3 + 2)) z9) r q := fun r q hr hr2 hq => by
    have q1 := (hq.below hbel).over (p := ptr v3 b) (u := .slice (some ⟨g5, 0, none⟩) n n) (by rw [ptr_block]; omega) hc3 (fun z => by simp)
    have q2 := q1.over (p := ptr v4 b) (u := .bool x) (by rw [ptr_block]; omega) hc4' (fun z => by simp)
    rw [← hW] at q2
    obtain ⟨a1, a2, ha, n1, n2⟩ := hz
    injection ha with ha
    injection ha with ha
    simp only [List.cons.injEq, and_true] at ha
    obtain ⟨rfl, rfl, rfl⟩ := ha
    have ny : ∀ k, y9 ≠ .int .u32 k := fun k => by obtain ⟨p1, p2, p3, e1, _⟩ := n1.v.sl; subst e1; simp
    exact FracsC.over3 how6 (q2.below h56) (show g5 ≠ _ by omega) (by omega) _ _ _ (fun k => by simp) ny
  have hz2 := hz
  obtain ⟨a1, a2, ha, n1, n2⟩ := hz2
  injection ha with ha
  injection ha with ha
  simp only [List.cons.injEq, and_true] at ha
  obtain ⟨rfl, rfl, rfl⟩ := ha
  have ny : ∀ k, y9 ≠ .int .u32 k := fun k => by obtain ⟨p1, p2, p3, e1, _⟩ := n1.v.sl; subst e1; simp
  have nz : ∀ k, z9 ≠ .int .u32 k := fun k => by obtain ⟨p1, p2, p3, e1, _⟩ := n2.v.sl; subst e1; simp
  have s5 := how6.set3 b (.bool (decide ((0 : Rat) < 0))) y9 z9 (fun k => by simp) ny nz
  have m3 := (k3'.below h56).other3 (u := .slice (some ⟨g5, 0, none⟩) n n) (show g5 ≠ _ by omega) (b * 3) (b * 3 + 1) (b * 3 + 2) (.bool (decide ((0 : Rat) < 0))) y9 z9
  have m4 := (s4.1.below h56).other3 (u := .slice (some ⟨g5, 0, none⟩) n n) (show g5 ≠ _ by omega) (b * 3) (b * 3 + 1) (b * 3 + 2) (.bool (decide ((0 : Rat) < 0))) y9 z9
  have hB3 : B3 ≤ (base v3).block := (h3.block (by omega)).1
  refine ⟨⟨m3, by rw [List.length_set]; exact hel3, by rw [List.map_set]; exact m4, by rw [List.length_set]; exact hfl, fun a ha => ?_, fun a ha ha2 => ?_⟩, fun h34' => ?_⟩
  · rw [hct] at ha
    by_cases h1 : a = cnt (bl.take k)
    · rw [h1, ← hb, firstB_fresh hok hk hb]
      refine ⟨⟨g5, 0, none⟩, n, n, by rw [List.getElem?_set_self hbes], s5.1.fracs (by rw [List.length_set, bsums_length]; exact hn.symm) (fun j hj => ?_), by show B5 ≤ g5; omega, by rw [List.getElem?_set_self (by omega), hx]⟩
      rw [List.length_set, bsums_length] at hj
      rw [List.getElem_set]
      by_cases hbj : b = j
      · rw [if_pos hbj]
        subst hbj
        exact ElemC.set3 how6 (by omega) hz
      · rw [if_neg hbj, bsums_get _ _ _ _ hj, hrq]
        refine ElemC.set3_other how6 (by omega) hbj (ElemC.below ?_ h56) _ _ _ (fun k => by simp) ny
        rw [hW]
        exact ((hel j (by omega)).over (by rw [ptr_block]; show _ ≠ g5; omega) hc3 (fun z => by simp) _).over (by rw [ptr_block]; show _ ≠ g5; omega) hc4' (fun z => by simp) _
    · obtain ⟨p, m, kk, q1, q2, q3, q4⟩ := hseen a (by omega)
      have hlt : p.block < wr.heap.size := by
        obtain ⟨_, _, r1, _⟩ := q2.at' 0 (by rw [List.length_set, bsums_length]; omega)
        have := World.block_lt_of_cell? wr _ r1
        rwa [ptr_block] at this
      refine ⟨p, m, kk, by rw [List.getElem?_set_ne (by omega)]; exact q1, hover _ _ (by simpa [base] using q3) (by simpa [base] using hlt) q2, q3, by rw [List.getElem?_set_ne (by omega)]; exact q4⟩
  · rw [hct] at ha
    rw [List.getElem?_set_ne (by omega)]
    exact hnew a (by omega) ha2
  · have hb1 := s3.2.trans (s4.2.mono h34')
    have hsz : B3 ≤ W.heap.size := by
      have h1 := (h3.block (by omega)).2
      have h2 := hbel.size
      have h3 := hb1.size
      omega
    exact (hb1.trans (h56.mono hsz)).trans (s5.2.mono (by have := (h3.block (by omega)).2; omega))
/-- At the end of the loop. -/
theorem QuoI.done {c : RC} {bl : List Int} {tF tB : TypeId} {B3 B4 B5 : Nat} {v3 v4 : Value} {es : List Value} {fs : List Bool} {wr : World} (h : QuoI c bl tF tB B3 B4 B5 v3 v4 bl.length es fs wr) :
    MatC wr v3 (quo c bl).rates ∧ BoolsV wr v4 (quo c bl).lost := by
  obtain ⟨h3, hel, h4, hfl, hseen, hnew⟩ := h
  rw [List.take_length] at hseen
  refine ⟨⟨h3.sl, by rw [h3.len, hel]; simp [quo], fun j hj => ?_⟩, h4.sl, by rw [h4.len, List.length_map, hfl]; simp [quo], fun j hj => ?_⟩
  · have hj2 : j < cnt bl := by simpa [quo] using hj
    obtain ⟨p, m, kk, q1, q2, q3, q4⟩ := hseen j hj2
    have hje : j < es.length := by omega
    rw [List.getElem?_eq_getElem hje] at q1
    injection q1 with q1
    refine ⟨_, h3.cell j hje, ?_⟩
    rw [q1]
    simpa [quo] using q2
  · have hj2 : j < cnt bl := by simpa [quo] using hj
    obtain ⟨p, m, kk, q1, q2, q3, q4⟩ := hseen j hj2
    have hje : j < fs.length := by omega
    have hjm : j < (fs.map Value.bool).length := by rw [List.length_map]; exact hje
    rw [List.getElem?_eq_getElem hje] at q4
    injection q4 with q4
    rw [h4.cell j hjm]
    simp [quo, q4]
end Go.Proofs.YtlpdkbmmbdfoiaaGreat
namespace Go.Proofs.YtlpdkbmmbdfoiaaGreat
set_option linter.unusedVariables false
set_option linter.unusedSimpArgs false
open Go.RowKit

theorem nilNoInt : ∀ z, Value.slice none 0 0 ≠ .int .i64 z := fun z => by simp
/-- The result's cell, and what the caller keeps. -/
def Fr (w : World) (bt : Nat) (wx : World) : Prop := C3 wx w.heap.size (.slice none 0 0) (.slice none 0 0) (.slice none 0 0) ∧ (∀ B, B ≤ bt → B ≤ w.heap.size → Below B w wx)
theorem Fr.below {w wx wy : World} {bt : Nat} (h : Fr w bt wx) (hb : Below wx.heap.size wx wy) : Fr w bt wy :=
  ⟨h.1.belowS hb, fun B h1 h2 => (h.2 B h1 h2).trans (hb.mono (by have := h.1.lt; omega))⟩
theorem Fr.tick {w wx wy : World} {bt a : Nat} {l : List Nat} (h : Fr w bt wx) (ht : TapeAt wx bt l a) (hk : Ticks bt wx wy) : Fr w bt wy :=
  ⟨h.1.tick ht hk nilNoInt nilNoInt nilNoInt, fun B h1 h2 => (h.2 B h1 h2).trans (hk.below h1 (by have := h.1.lt; omega))⟩
theorem Fr.low {w wx wy : World} {bt B : Nat} (h : Fr w bt wx) (hb : Below B wx wy) (hB : w.heap.size < B) : Fr w bt wy :=
  ⟨h.1.below hb hB, fun B' h1 h2 => (h.2 B' h1 h2).trans (hb.mono (by omega))⟩
theorem Fr.set {w wx : World} {bt : Nat} (h : Fr w bt wx) (p : Addr) (hp : w.heap.size < p.block) (u : Value) : Fr w bt (wx.setCell p u) :=
  ⟨h.1.other p u (by omega), fun B' h1 h2 => (h.2 B' h1 h2).setCell (by omega) u⟩
/-- Another block is written. -/
theorem OwnR.over {w : World} {e : TypeId} {B size n : Nat} {v : Value} {xs : List Value} (h : OwnR w e B size v n xs) {p : Addr} (hp : v.ownBlock = none ∨ v.ownBlock ≠ some p.block) (u : Value) : OwnR (w.setCell p u) e B size v n xs := by
  have key : ∀ g, v.ownBlock = some g → (w.setCell p u).heap[g]? = w.heap[g]? := fun g hg => Below.heap_setCell _ _ _ _ (by
    intro e; rcases hp with h1 | h1
    · rw [hg] at h1; cases h1
    · exact h1 (by rw [hg, e]))
  refine ⟨⟨h.own.1, ?_⟩, fun g hg cur e' fz hc => ?_⟩
  · rcases h.own.2 with h' | ⟨g, cap, cur, rfl, hb, hg, rest⟩
    · exact .inl h'
    · exact .inr ⟨g, cap, cur, rfl, hb, by rw [key g rfl]; exact hg, rest⟩
  · rw [key g hg] at hc
    exact h.nl g hg cur e' fz hc
theorem FrRow.over {w : World} {e : TypeId} {B : Nat} {v : Value} {q : List Rat} (h : FrRow w e B v q) {p : Addr} {x : Value} (hp : v.ownBlock = none ∨ v.ownBlock ≠ some p.block) (hc : w.cell? p = some x) (hx : ∀ z, x ≠ .int .u32 z) (u : Value) : FrRow (w.setCell p u) e B v q := by
  obtain ⟨xs, h1, h2⟩ := h
  refine ⟨xs, h1.over hp u, fun j hj => ?_⟩
  obtain ⟨a, b, e1, e2, e3, e4, e5⟩ := h2 j hj
  exact ⟨a, b, e1, e2, e3, ⟨e4.1.over hc hx u, e4.2⟩, ⟨e5.1.over hc hx u, e5.2⟩⟩
theorem Moves.high {B : Nat} {w0 w : World} (h : Moves B w0 w) {p : Addr} {x : Value} (hp : w0.heap.size ≤ p.block) (hc : w.cell? p = some x) (hx : ∀ z, x ≠ .int .u32 z) (u : Value) : Moves B w0 (w.setCell p u) := by
  refine ⟨by simpa [World.setCell] using h.size, fun g h1 h2 => ?_, fun q z hq => ?_⟩
  · rw [Below.heap_setCell _ _ _ _ (by omega)]; exact h.row g h1 h2
  · rw [World.cell?_setCell_other]
    · exact h.limb q z hq
    · intro e
      have := h.limb q z hq
      rw [← e, hc] at this
      injection this with this
      exact hx _ this
theorem Moves.grow {B : Nat} {w0 w w' : World} {v : Value} (h : Moves B w0 w) (hg : w.grownBy w' v.ownBlock) (hn : NoLimb w v) (hv : ∀ k, v.ownBlock = some k → w0.heap.size ≤ k) : Moves B w0 w' := by
  have hs : w.heap.size ≤ w'.heap.size := hg.size
  refine ⟨Nat.le_trans h.size hs, fun g h1 h2 => ?_, fun q z hq => ?_⟩
  · rw [hg.block g (Nat.lt_of_lt_of_le h2 h.size) (fun e => by have := hv g e.symm; omega)]
    exact h.row g h1 h2
  · have hc := h.limb q z hq
    refine hg.cell hc (fun e => ?_)
    have h2 := hn q.block e.symm
    unfold World.cell? at hc
    split at hc
    · rename_i cur e' fz hh
      split at hc
      · cases hc
      · exact h2 cur e' fz hh _ (by have := Array.mem_of_getElem? hc; simpa using this) _ rfl
    · cases hc
/-- Within the inner loop: w0 is the function's first world, wA the world in which the loop was entered. -/
structure InS (w0 : World) (bt : Nat) (l : List Nat) (B b5 : Nat) (vr vs vl : Value) (wA : World) (rv : Value) (row : List Rat) (w : World) : Prop where
  fr : FrRow w 38 wA.heap.size rv row
  mv : Moves B wA w
  tp : ∃ a, TapeB w bt l B a
  bx : C3 w b5 vr vs vl
  fm : Fr w0 bt w
  nums : bt < B ∧ b5 < B ∧ w0.heap.size < B ∧ B ≤ wA.heap.size ∧ IsSl vr ∧ IsSl vs ∧ IsSl vl
section
variable {w0 wA w w' : World} {bt B b5 : Nat} {l : List Nat} {vr vs vl rv : Value} {row : List Rat}
theorem InS.below (h : InS w0 bt l B b5 vr vs vl wA rv row w) (hb : Below w.heap.size w w') : InS w0 bt l B b5 vr vs vl wA rv row w' := by
  obtain ⟨fr, mv, ⟨a, tp⟩, bx, fm, nums⟩ := h
  exact ⟨fr.moves (Moves.below hb) (Nat.le_refl _), mv.trans (Moves.below hb), ⟨a, tp.below hb⟩, bx.belowS hb, fm.below hb, nums⟩
theorem InS.tick (h : InS w0 bt l B b5 vr vs vl wA rv row w) {a' : Nat} (ht : Ticks bt w w') (hta : TapeAt w' bt l a') : InS w0 bt l B b5 vr vs vl wA rv row w' := by
  obtain ⟨fr, mv, ⟨a, tp⟩, bx, fm, n1, n2, n3, n4, n5, n6, n7⟩ := h
  have hm : Moves B w w' := Moves.tick tp.1 n1 ht
  exact ⟨fr.moves hm n4, mv.trans hm, ⟨a', tp.tick ht hta⟩, bx.tick tp.1 ht n5.noInt n6.noInt n7.noInt, fm.tick tp.1 ht, n1, n2, n3, n4, n5, n6, n7⟩
theorem InS.set (h : InS w0 bt l B b5 vr vs vl wA rv row w) {p : Addr} {x : Value} (hp : wA.heap.size ≤ p.block) (hr : rv.ownBlock = none ∨ rv.ownBlock ≠ some p.block) (hc : w.cell? p = some x) (hx : ∀ z, x ≠ .int .u32 z) (hx8 : ∀ z, x ≠ .int .u8 z) (u : Value) :
    InS w0 bt l B b5 vr vs vl wA rv row (w.setCell p u) := by
  obtain ⟨fr, mv, ⟨a, tp⟩, bx, fm, n1, n2, n3, n4, n5, n6, n7⟩ := h
  exact ⟨fr.over hr hc hx u, mv.high hp hc hx u, ⟨a, tp.set (by omega) hc hx8 u⟩, bx.other p u (by omega), fm.set p (by omega) u, n1, n2, n3, n4, n5, n6, n7⟩
theorem InS.grow (h : InS w0 bt l B b5 vr vs vl wA rv row w) {rv' : Value} {row' : List Rat} (hv : FrRow w' 38 wA.heap.size rv' row') (hg : w.grownBy w' rv.ownBlock) (hn : NoLimb w rv) : InS w0 bt l B b5 vr vs vl wA rv' row' w' := by
  obtain ⟨fr, mv, ⟨a, tp⟩, bx, fm, n1, n2, n3, n4, n5, n6, n7⟩ := h
  have hb : Below wA.heap.size w w' := below_grow hg mv.size fr.block
  have hb2 := hb.mono n4
  exact ⟨hv, mv.grow hg hn (fun k hk => (fr.block k hk).1), ⟨a, tp.low hb2 n1⟩, bx.below hb2 n2, fm.low hb2 n3, n1, n2, n3, n4, n5, n6, n7⟩
theorem InS.set3 (h : InS w0 bt l B b5 vr vs vl wA rv row w) {b : Nat} {t0 : Bool} {x0 y0 : Value} (hC : C3 w b (.bool t0) x0 y0) (sx : IsSl x0) (sy : IsSl y0) (hb : wA.heap.size ≤ b) (hr : rv.ownBlock = none ∨ rv.ownBlock ≠ some b) (u0 u1 u2 : Value) :
    InS w0 bt l B b5 vr vs vl wA rv row (((w.setCell ⟨b, 0, none⟩ u0).setCell ⟨b, 1, none⟩ u1).setCell ⟨b, 2, none⟩ u2) := by
  obtain ⟨_, c0, c1, c2, _, _, _⟩ := hC
  have h1 := h.set (p := ⟨b, 0, none⟩) hb hr c0 (fun z => by simp) (fun z => by simp) u0
  have h2 := h1.set (p := ⟨b, 1, none⟩) hb hr (by rw [World.cell?_setCell_other _ _ _ _ (by simp)]; exact c1) sx.noLimb sx.noByte u1
  exact h2.set (p := ⟨b, 2, none⟩) hb hr (by rw [World.cell?_setCell_other _ _ _ _ (by simp), World.cell?_setCell_other _ _ _ _ (by simp)]; exact c2) sy.noLimb sy.noByte u2
theorem InS.start {rs : List Value} {rates : List (List Rat)} {start : List Rat} {lost : List Bool} (c : ChW wA bt l B b5 vr vs vl rs rates start lost) (hF : Fr w0 bt wA) (hw : w0.heap.size < B) : InS w0 bt l B b5 vr vs vl wA (.slice none 0 0) [] wA :=
  ⟨FrRow.nil _ _ _, Moves.refl _ _, c.tape, c.box, hF, c.bt5.1, c.bt5.2.1, hw, c.sz, c.ra.sl, c.st.sl, c.lo.sl⟩
theorem InS.chw {rs : List Value} {rates : List (List Rat)} {start : List Rat} {lost : List Bool} (h : InS w0 bt l B b5 vr vs vl wA rv row w) (c : ChW wA bt l B b5 vr vs vl rs rates start lost) : ChW w bt l B b5 vr vs vl rs rates start lost ∧ FrRow w 38 B rv row ∧ (rv.ownBlock = none ∨ rv.ownBlock ≠ vs.ownBlock) := by
  refine ⟨c.of h.mv h.tp h.bx, h.fr.mono c.sz, ?_⟩
  cases ho : rv.ownBlock with
  | none => exact Or.inl rfl
  | some g =>
    refine Or.inr (fun e => ?_)
    have h1 := h.fr.block g ho
    have h2 := c.st.block g e.symm
    omega
/-- The chain as it is handed out. -/
theorem ChW.chainC {rs : List Value} {rates : List (List Rat)} {start : List Rat} {lost : List Bool} (h : ChW w bt l B b5 vr vs vl rs rates start lost) : ChainC w (.agg #[vr, vs, vl]) ⟨rates, start, lost⟩ := by
  refine ⟨vr, vs, vl, rfl, ⟨h.ra.sl, by rw [h.ra.len]; exact h.rl, fun j hj => ?_⟩, h.st.fracs, ⟨h.lo.sl, h.lo.len, fun j hj => h.lo.cell j hj⟩⟩
  have hj2 : j < rs.length := by rw [h.rl]; exact hj
  exact ⟨rs[j], h.ra.cell j hj2, (h.rows j hj2 hj).1.fracs⟩
theorem ChW.set3 {rs : List Value} {rates : List (List Rat)} {start : List Rat} {lost : List Bool} (h : ChW w bt l B b5 vr vs vl rs rates start lost) {b : Nat} (hC : C3 w b (.slice none 0 0) (.slice none 0 0) (.slice none 0 0)) (hb : b < B) (hbt : b ≠ bt) (hb5 : b ≠ b5) (u0 u1 u2 : Value) :
    ChW (((w.setCell ⟨b, 0, none⟩ u0).setCell ⟨b, 1, none⟩ u1).setCell ⟨b, 2, none⟩ u2) bt l B b5 vr vs vl rs rates start lost := by
  obtain ⟨_, c0, c1, c2, _, _, _⟩ := hC
  have c1' : (w.setCell ⟨b, 0, none⟩ u0).cell? ⟨b, 1, none⟩ = some (.slice none 0 0) := by rw [World.cell?_setCell_other _ _ _ _ (by simp)]; exact c1
  have c2' : ((w.setCell ⟨b, 0, none⟩ u0).setCell ⟨b, 1, none⟩ u1).cell? ⟨b, 2, none⟩ = some (.slice none 0 0) := by rw [World.cell?_setCell_other _ _ _ _ (by simp), World.cell?_setCell_other _ _ _ _ (by simp)]; exact c2
  have one : ∀ (w : World) (k : Nat) (u : Value), ChW w bt l B b5 vr vs vl rs rates start lost → w.cell? ⟨b, k, none⟩ = some (.slice none 0 0) → ChW (w.setCell ⟨b, k, none⟩ u) bt l B b5 vr vs vl rs rates start lost := fun w k u h hc => by
    obtain ⟨a, ht⟩ := h.tape
    exact h.of (Moves.set hb hc (fun z => by simp) u) ⟨a, ht.set hbt hc (fun z => by simp) u⟩ (h.box.other _ u hb5)
  exact one _ 2 u2 (one _ 1 u1 (one _ 0 u0 h c0) c1') c2'
end
end Go.Proofs.YtlpdkbmmbdfoiaaGreat
