/-
  A table of one row under elimination by the reference. No code is walked here.
  Ahead of it: append of the rows of a matrix to an empty slice; two rows of an own matrix change places. No code is walked here.
-/
import Derived.Test.YtbhkibilnmoljaaGreatQRwM
namespace Go.Proofs.YtbhkibilnmoljaaGreat
set_option linter.unusedVariables false
set_option linter.unusedSimpArgs false
open Go.RowKit

/-- append(s, x...), both rows of one-cell values that are no limbs. -/
theorem append_rows {P : Program} (t e : TypeId) (i : TypeInfo) (ht : P.underlying t = some (.slice e)) (hi : P.info? e = some i) (hz : i.zero = some (.slice none 0 0)) (hsize : i.size = 1) (hby : i.bytes = 24)
    (w : World) {ops : Array Oper} {rest : List Oper} {o : Oper} {a : Act} {Q : Exit → Act → World → Prop} (hgd : o.guard = none) (s x : Operand)
    (ho : o.op = .call { callee := .builtin .append, args := #[s, x], argTypes := #[t, t] }) (B : Nat)
    (v : Value) (xs : List Value) (hs : a.eval s = v) (hown : OwnR w e B 1 v xs.length xs) (ad : Addr) (m c : Nat) (hxe : a.eval x = .slice (some ad) m c) (news : List Value) (hl : news.length = m)
    (hnews : ∀ j u, news[j]? = some u → w.cell? (ad.add j) = some u) (h1 : ∀ u ∈ news, u.oneCell' = true) (hnn : ∀ c ∈ news, ∀ z, c ≠ .int .u32 z) (hn : xs.length + m ≤ 1000) (hbase : B ≤ w.heap.size)
    (h : ∀ v' w', OwnR w' e B 1 v' (xs ++ news).length (xs ++ news) → w.grownBy w' v.ownBlock → NoLimb w v → (v'.ownBlock = v.ownBlock ∨ v'.ownBlock = some w.heap.size) → IsSl v' → wpList P ops Q rest (a.put o.dst v') w') :
    wpList P ops Q (o :: rest) a w := by
  refine wpList_plain hgd fun K hK => ?_
  obtain ⟨v', w', hr, k1, k2, k3, k4⟩ := run_append_R (P := P) w B t o.type e i _ 1 24 ht hi hz hsize hby rfl (by decide) v xs.length xs hown.own ad m c news (by omega)
    hnews h1 (by simp [maxLen]; omega) (by omega) hbase hown.nl hnn (fun c hc z => by
      have hc2 : c ∈ [Value.slice none 0 0] := hc
      simp at hc2; subst hc2; simp)
  unfold Oper.wp execOp
  simp only [ho, resolve, invoke, builtin, Sem.run_bind, Sem.run_pure, Result.andThen_ok, List.map_toArray, List.map_cons, List.map_nil, hs, hxe, hr]
  have hR : OwnR w' e B 1 v' (xs.length + m) (xs ++ news) := ⟨k1, k4⟩
  exact hK _ _ (h v' w' (by rw [List.length_append, hl]; exact hR) k2 hown.nl k3 hR.sl)
theorem OwnR.empty {w : World} {e : TypeId} {B b : Nat} (hb : w.heap.size = b) (hB : B ≤ b) : OwnR (w.alloc (.cells #[] e)) e B 1 (.slice (some ⟨b, 0, none⟩) 0 0) 0 [] := by
  subst hb
  refine ⟨⟨rfl, .inr ⟨_, 0, #[], rfl, hB, heap_alloc_new w _, Nat.le_refl _, Nat.zero_le _, rfl, rfl⟩⟩, ?_⟩
  intro g hg cur e' fz hc c hcc z
  simp only [Value.ownBlock, Option.some.injEq] at hg
  subst hg
  rw [heap_alloc_new w _] at hc
  injection hc with hc
  injection hc with hc _
  subst hc
  simp at hcc
section
variable {w w' : World} {B n m : Nat} {v : Value} {rs : List Value} {A : Mx}
theorem MatF.rows (h : MatF w v n m A) : ∃ news : List Value, news.length = n ∧ (∀ j u, news[j]? = some u → w.cell? (ptr v j) = some u) ∧ (∀ u ∈ news, u.oneCell' = true) ∧ (∀ u ∈ news, ∀ z, u ≠ .int .u32 z) ∧ ∀ j (hj : j < news.length), FracsC w news[j] (rowL m (A j)) := by
  have hget : ∀ j, j < n → ∃ r, w.cell? (ptr v j) = some r ∧ FracsC w r (rowL m (A j)) := fun j hj => h.row j hj
  have key : ∀ j (hj : j < ((List.range n).map fun j => (w.cell? (ptr v j)).getD undef).length), ∃ r, ((List.range n).map fun j => (w.cell? (ptr v j)).getD undef)[j] = r ∧ w.cell? (ptr v j) = some r ∧ FracsC w r (rowL m (A j)) := fun j hj => by
    have hj2 : j < n := by simpa using hj
    obtain ⟨r, h1, h2⟩ := hget j hj2
    exact ⟨r, by simp [h1], h1, h2⟩
  have one : ∀ u ∈ (List.range n).map fun j => (w.cell? (ptr v j)).getD undef, ∃ q, FracsC w u q := fun u hu => by
    obtain ⟨j, hj, e⟩ := List.getElem_of_mem hu
    obtain ⟨r, h1, h2, h3⟩ := key j hj
    exact ⟨_, by rw [← e, h1]; exact h3⟩
  refine ⟨(List.range n).map fun j => (w.cell? (ptr v j)).getD undef, by simp, fun j u hu => ?_, fun u hu => ?_, fun u hu z => ?_, fun j hj => ?_⟩
  · obtain ⟨hj, e⟩ := List.getElem?_eq_some_iff.1 hu
    obtain ⟨r, h1, h2, h3⟩ := key j hj
    rw [h2, ← e, h1]
  · obtain ⟨q, hq⟩ := one u hu
    obtain ⟨a1, a2, a3, rfl, _⟩ := hq.sl
    rfl
  · obtain ⟨q, hq⟩ := one u hu
    obtain ⟨a1, a2, a3, rfl, _⟩ := hq.sl
    simp
  · obtain ⟨r, h1, h2, h3⟩ := key j hj
    rw [h1]; exact h3
theorem FracsC.low {q : List Rat} (h : FracsC w v q) (hq : 0 < q.length) : (base v).block < w.heap.size := by
  obtain ⟨_, _, h1, _⟩ := h.at' 0 hq
  have := World.block_lt_of_cell? w _ h1
  rwa [ptr_block] at this
/-- Rows of an older world, under a new slice. -/
theorem RowsM.copy {w0 : World} (ho : OwnR w 27 w0.heap.size 1 v rs.length rs) (hn : rs.length = n) (hb : Below w0.heap.size w0 w) (hm : 1 ≤ m) (hr : ∀ j (hj : j < rs.length), FracsC w0 rs[j] (rowL m (A j))) : RowsM w w0.heap.size v rs n n (fun i => rowL m (A i)) := by
  subst hn
  refine ⟨ho, fun i h1 h2 => ⟨(hr i h1).below hb, ?_⟩⟩
  have h3 := (hr i h1).low (by rw [rowL_length]; omega)
  obtain ⟨g, _, e2, e3, e4, _⟩ := ho.blk (by omega)
  omega
/-- Two rows change places. -/
theorem RowsM.swap (h : RowsM w B v rs n n (fun i => rowL m (A i))) {i j : Nat} (hi : i < rs.length) (hj : j < rs.length) (hij : i ≠ j) :
    RowsM ((w.setCell (ptr v i) rs[j]).setCell (ptr v j) rs[i]) B v ((rs.set i rs[j]).set j rs[i]) n n (fun k => rowL m (swp A i j k)) ∧ Below B w ((w.setCell (ptr v i) rs[j]).setCell (ptr v j) rs[i]) := by
  have hrl := h.rl
  have hvb := h.vblock (by omega)
  have hp : ∀ k, (ptr v k).block = (base v).block := fun k => ptr_block _ _
  have hnl : ∀ k (hk : k < rs.length) z, rs[k] ≠ .int .u32 z := fun k hk z => h.own.cell_ne k hk z
  obtain ⟨s1, g1⟩ := h.own.set1 i hi rs[j] (hnl j hj)
  have hj2 : j < (rs.set i rs[j]).length := by rw [List.length_set]; exact hj
  obtain ⟨s2, g2⟩ := s1.set1 j hj2 rs[i] (hnl i hi)
  have hcj := s1.cell j hj2
  have hcn : ∀ z, (rs.set i rs[j])[j]'hj2 ≠ .int .u32 z := fun z => s1.cell_ne j hj2 z
  have mv : ∀ k (hk : k < rs.length), FracsC ((w.setCell (ptr v i) rs[j]).setCell (ptr v j) rs[i]) rs[k] (rowL m (A k)) ∧ (base rs[k]).block ≠ (base v).block := fun k hk => by
    obtain ⟨r1, r2⟩ := h.row k hk (by omega)
    exact ⟨(r1.setc (by rw [hp]; exact r2) (h.own.cell i hi) (hnl i hi) _).setc (by rw [hp]; exact r2) hcj hcn _, r2⟩
  refine ⟨⟨s2, fun k hk _ => ?_⟩, ((Below.refl B w).setCell (by rw [hp]; exact hvb.1) _).setCell (by rw [hp]; exact hvb.1) _⟩
  have hk2 : k < rs.length := by simpa using hk
  by_cases h1 : k = j
  · subst h1
    rw [List.getElem_set_self]
    have e : swp A i k k = A i := by unfold swp; rw [if_neg (fun e => hij e.symm), if_pos rfl]
    rw [e]; exact mv i hi
  · rw [List.getElem_set_ne (fun e => h1 e.symm)]
    by_cases h2 : k = i
    · subst h2
      rw [List.getElem_set_self]
      have e : swp A k j k = A j := by unfold swp; rw [if_pos rfl]
      rw [e]; exact mv j hj
    · rw [List.getElem_set_ne (fun e => h2 e.symm)]
      have e : swp A i j k = A k := by unfold swp; rw [if_neg h2, if_neg h1]
      rw [e]; exact mv k hk2
theorem RowsM.one {q : Nat → List Rat} (h : RowsM w B v rs n n q) {i : Nat} (hi : i < rs.length) : RowsM (w.setCell (ptr v i) rs[i]) B v rs n n q ∧ Below B w (w.setCell (ptr v i) rs[i]) := by
  have hrl := h.rl
  have hvb := h.vblock (by omega)
  have hp : ∀ k, (ptr v k).block = (base v).block := fun k => ptr_block _ _
  have hnl : ∀ z, rs[i] ≠ .int .u32 z := fun z => h.own.cell_ne i hi z
  obtain ⟨s1, g1⟩ := h.own.set1 i hi rs[i] hnl
  rw [List.set_getElem_self] at s1
  exact ⟨⟨s1, fun k h1 h2 => by
    obtain ⟨r1, r2⟩ := h.row k h1 h2
    exact ⟨r1.setc (by rw [hp]; exact r2) (h.own.cell i hi) hnl _, r2⟩⟩, (Below.refl B w).setCell (by rw [hp]; exact hvb.1) _⟩
end
end Go.Proofs.YtbhkibilnmoljaaGreat
namespace Go.Proofs.YtbhkibilnmoljaaGreat
set_option linter.unusedVariables false
set_option linter.unusedSimpArgs false
open Go.RowKit

section
variable {w w' : World} {e : TypeId} {B size n : Nat} {v : Value} {xs : List Value} {q : List Rat}
theorem OwnR.other (h : OwnR w e B size v n xs) {p : Addr} (hp : p.block ≠ (base v).block) (u : Value) : OwnR (w.setCell p u) e B size v n xs := by
  refine ⟨⟨h.own.1, ?_⟩, fun g hg cur e' fz hcc => ?_⟩
  · rcases h.own.2 with ⟨rfl, h0⟩ | ⟨g, cap, cur, rfl, hb, hg, rest⟩
    · exact .inl ⟨rfl, h0⟩
    · refine .inr ⟨g, cap, cur, rfl, hb, ?_, rest⟩
      rw [Below.heap_setCell _ _ _ _ (by intro e; exact hp (e.symm.trans rfl))]; exact hg
  · have hg2 : g = (base v).block := by
      obtain ⟨a, b, c, rfl, _⟩ := h.sl
      cases a with
      | none => cases hg
      | some a => simp only [Value.ownBlock, Option.some.injEq] at hg; exact hg.symm
    rw [Below.heap_setCell _ _ _ _ (by intro e; exact hp (by rw [← e, hg2]))] at hcc
    exact h.nl g hg cur e' fz hcc
theorem FrRow.other (h : FrRow w e B v q) {p : Addr} {x : Value} (hp : p.block ≠ (base v).block) (hc : w.cell? p = some x) (hx : ∀ z, x ≠ .int .u32 z) (u : Value) : FrRow (w.setCell p u) e B v q := by
  obtain ⟨xs, h1, h2⟩ := h
  refine ⟨xs, h1.other hp u, fun j hj => ?_⟩
  obtain ⟨a, b, e1, e2, e3, e4, e5⟩ := h2 j hj
  exact ⟨a, b, e1, e2, e3, ⟨e4.v.over hc hx u, e4.2⟩, ⟨e5.v.over hc hx u, e5.2⟩⟩
/-- A variable of three cells is written. -/
theorem FrRow.c3 (h : FrRow w e B v q) {b : Nat} {s t : Bool} {x y x' y' : Value} (hC : C3 w b (.bool s) x y) (hb : b ≠ (base v).block) (hx : ∀ z, x ≠ .int .u32 z) (hy : ∀ z, y ≠ .int .u32 z) (hx' : ∀ z, x' ≠ .int .u32 z) :
    FrRow (((w.setCell ⟨b, 0, none⟩ (.bool t)).setCell ⟨b, 1, none⟩ x').setCell ⟨b, 2, none⟩ y') e B v q := by
  have h1 := h.other (p := ⟨b, 0, none⟩) hb hC.c0 (fun z => by simp) (.bool t)
  have c1 : (w.setCell ⟨b, 0, none⟩ (.bool t)).cell? ⟨b, 1, none⟩ = some x := by rw [World.cell?_setCell_other _ _ _ _ (by intro e; cases e)]; exact hC.c1
  have h2 := h1.other (p := ⟨b, 1, none⟩) hb c1 hx x'
  have c2 : ((w.setCell ⟨b, 0, none⟩ (.bool t)).setCell ⟨b, 1, none⟩ x').cell? ⟨b, 2, none⟩ = some y := by rw [World.cell?_setCell_other _ _ _ _ (by intro e; cases e), World.cell?_setCell_other _ _ _ _ (by intro e; cases e)]; exact hC.c2
  exact h2.other (p := ⟨b, 2, none⟩) hb c2 hy y'
theorem C3.c3 {b b' : Nat} {v0 v1 v2 : Value} (h : C3 w b v0 v1 v2) (hb : b' ≠ b) (x y z : Value) : C3 (((w.setCell ⟨b', 0, none⟩ x).setCell ⟨b', 1, none⟩ y).setCell ⟨b', 2, none⟩ z) b v0 v1 v2 :=
  ((h.other ⟨b', 0, none⟩ x hb).other ⟨b', 1, none⟩ y hb).other ⟨b', 2, none⟩ z hb
end
/-- The table: one row r of n elements x; all of its blocks lie below S. -/
structure OneT (w : World) (B S : Nat) (vt r : Value) (n : Nat) (x : Nat → Rat) : Prop where
  t : OwnR w 27 B 1 vt 1 [r]
  row : FrRow w 25 B r (rowL n x)
  n0 : 0 < n
  bt : (base vt).block < S
  br : (base r).block < S
  sz : S ≤ w.heap.size
section
variable {w w' : World} {B S n : Nat} {vt r : Value} {x : Nat → Rat}
theorem OneT.below (h : OneT w B S vt r n x) (hb : Below w.heap.size w w') : OneT w' B S vt r n x :=
  ⟨h.t.moves (Moves.below (B := B) hb) (Nat.le_refl _), h.row.moves (Moves.below (B := B) hb) (Nat.le_refl _), h.n0, h.bt, h.br, Nat.le_trans h.sz hb.size⟩
theorem OneT.c3 (h : OneT w B S vt r n x) {b : Nat} {s t : Bool} {u y u' y' : Value} (hC : C3 w b (.bool s) u y) (hb : S ≤ b) (hx : ∀ z, u ≠ .int .u32 z) (hy : ∀ z, y ≠ .int .u32 z) (hx' : ∀ z, u' ≠ .int .u32 z) :
    OneT (((w.setCell ⟨b, 0, none⟩ (.bool t)).setCell ⟨b, 1, none⟩ u').setCell ⟨b, 2, none⟩ y') B S vt r n x := by
  have ht := h.bt
  have hr := h.br
  exact ⟨((h.t.other (p := ⟨b, 0, none⟩) (show b ≠ _ by omega) _).other (p := ⟨b, 1, none⟩) (show b ≠ _ by omega) _).other (p := ⟨b, 2, none⟩) (show b ≠ _ by omega) _, h.row.c3 hC (by omega) hx hy hx', h.n0, h.bt, h.br, by simpa [World.setCell] using h.sz⟩
theorem OneT.cell (h : OneT w B S vt r n x) : w.cell? (ptr vt 0) = some r := h.t.cell 0 (by simp)
theorem OneT.put (h : OneT w B S vt r n x) {k : Nat} (hk : k < n) {a b c : Value} {q : Rat} (hf : FracC w (.agg #[a, b, c]) q) :
    OneT (((w.setCell (ptr r (k * 3)) a).setCell (ptr r (k * 3 + 1)) b).setCell (ptr r (k * 3 + 2)) c) B S vt r n (fun t => if t = k then q else x t) ∧
      w.grownBy (((w.setCell (ptr r (k * 3)) a).setCell (ptr r (k * 3 + 1)) b).setCell (ptr r (k * 3 + 2)) c) r.ownBlock ∧ Below B w (((w.setCell (ptr r (k * 3)) a).setCell (ptr r (k * 3 + 1)) b).setCell (ptr r (k * 3 + 2)) c) := by
  obtain ⟨p1, p2⟩ := h.row.put (i := k) (by rw [rowL_length]; exact hk) hf
  rw [rowL_set] at p1
  obtain ⟨ys, y1, y2⟩ := id h.row
  have hkd := h.t.kinds y1 (by decide)
  have hBw : B ≤ w.heap.size := by
    obtain ⟨g, _, _, hB, hg, _⟩ := h.t.blk (by simp)
    omega
  exact ⟨⟨h.t.grown p2 hkd, p1, h.n0, h.bt, h.br, by simpa [World.setCell] using h.sz⟩, p2, below_of_grown p2 hBw (fun k hk => (h.row.block k hk).1)⟩
end
end Go.Proofs.YtbhkibilnmoljaaGreat
