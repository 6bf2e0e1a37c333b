/-
  What is kept while a variable is written or a row grows: own rows of fractions. No program is named here.
  Ahead of it: Rows of elements of any size that the call made: append, and the block that the new row lies in. No program is named here.
-/
import Derived.Test.YtbhkibilnmoljaaQOwF
import Derived.Lib.OwnKind
namespace Go.Proofs.Ytbhkibilnmoljaa
set_option linter.unusedVariables false
set_option linter.unusedSimpArgs false
open Go.RowKit

/-- No cell of v's block is a limb. -/
def NoLimb (w : World) (v : Value) : Prop := ∀ g, v.ownBlock = some g → ∀ cur e fz, w.heap[g]? = some (.cells cur e fz) → ∀ c ∈ cur.toList, ∀ z, c ≠ .int .u32 z
theorem NoLimb.nil (w : World) : NoLimb w (.slice none 0 0) := fun g h => by cases h
theorem mem_zeroCells {z : Array Value} {n : Nat} {c : Value} (h : c ∈ (Builtin.zeroCells z n).toList) : c ∈ z.toList := by
  unfold Builtin.zeroCells at h
  simp at h
  obtain ⟨a, h1, h2⟩ := h
  have hz : 0 < z.size := Nat.pos_of_ne_zero (fun h => by rw [h] at h1; omega)
  rw [getElem!_pos z (a % z.size) (Nat.mod_lt _ hz)] at h2
  rw [← h2]
  simp
theorem run_append_R {P : Program} (w : World) (B : Nat) (t ty e : TypeId) (i : TypeInfo) (z : Value) (size bytes : Nat) (ht : P.underlying t = some (.slice e)) (hi : P.info? e = some i) (hz : i.zero = some z)
    (hsize : i.size = size) (hby : i.bytes = bytes) (hzs : z.cells.size = size) (hsz : 0 < size)
    (v : Value) (n : Nat) (xs : List Value) (hown : w.ownsRow B e size v n xs) (a : Addr) (m c : Nat) (news : List Value) (hl : news.length = m * size)
    (hnews : ∀ j u, news[j]? = some u → w.cell? (a.add j) = some u) (h1 : ∀ u ∈ news, u.oneCell' = true)
    (h63 : n + m ≤ maxLen) (hbytes : (n + m) * bytes ≤ 140737488355328) (hbase : B ≤ w.heap.size)
    (hnl : NoLimb w v) (hnn : ∀ c ∈ news, ∀ z, c ≠ .int .u32 z) (hnz : ∀ c ∈ z.cells.toList, ∀ z, c ≠ .int .u32 z) :
    ∃ v' w', (Builtin.append_ #[t, t] ty #[v, .slice (some a) m c]).run P w = .ok v' w' ∧ w'.ownsRow B e size v' (n + m) (xs ++ news) ∧ w.grownBy w' v.ownBlock ∧
      (v'.ownBlock = v.ownBlock ∨ v'.ownBlock = some w.heap.size) ∧ NoLimb w' v' := by
  obtain ⟨v', w', h2, h3, h4, _⟩ := run_append_own (P := P) w B t ty e i z size bytes ht hi hz hsize hby hzs hsz v n xs hown a m c news hl hnews h1 h63 hbytes hbase
  refine ⟨v', w', h2, h3, h4, ?_⟩
  have fresh : ∀ (cs : Array Value) (k kc : Nat), (∀ c ∈ cs.toList, ∀ z, c ≠ .int .u32 z) → NoLimb (w.drew.alloc (.cells cs e)) (.slice (some ⟨w.heap.size, 0, none⟩) k kc) := by
    intro cs k kc h g' hg' cur' e' fz' hc' c hc
    simp only [Value.ownBlock, Option.some.injEq] at hg'
    subst hg'
    rw [show (w.drew.alloc (.cells cs e)).heap[w.heap.size]? = some (.cells cs e (0, 0)) from heap_alloc_new w.drew _] at hc'
    injection hc' with hc'
    injection hc' with hc' _
    subst hc'
    exact h c hc
  have hsmall : n + m ≤ 9223372036854775807 := by simp only [maxLen] at h63; omega
  rcases hown.2 with ⟨rfl, rfl⟩ | ⟨g, cap, cur, rfl, hbg, hg, hnc, hcm, hcs, htake⟩
  · have hx : xs = [] := List.eq_nil_of_length_eq_zero (by simpa using hown.1)
    subst hx
    by_cases hm : m = 0
    · subst hm
      refine (fun h => ⟨Or.inl (by rw [h]), by rw [h]; exact NoLimb.nil _⟩ : v' = .slice none 0 0 → _) ?_
      rcases h3.2 with ⟨rfl, _⟩ | ⟨g, cap, cur, rfl, _, _, h5, _⟩
      · rfl
      · exfalso
        have hn : news = [] := List.eq_nil_of_length_eq_zero (by simpa using hl)
        subst hn
        have hr : (Builtin.append_ #[t, t] ty #[.slice none 0 0, .slice (some a) 0 c]).run P w = .ok (.slice none 0 0) w := by
          simp [Builtin.append_, run_underlying ht, sizeOf, typeInfo, hi, Builtin.lenOf, Builtin.firstCells, loadCells, loadCellsFrom]
        rw [hr] at h2
        injection h2 with h2 _
        cases h2
    · have hr := run_append_nil (P := P) w t ty e i z ht hi hz a m c news (by rw [hl, hsize]) hnews (by omega) (by omega) (by rw [hby]; have hb := hbytes; simp only [Nat.zero_add] at hb; omega)
      rw [hr] at h2
      injection h2 with h2 h2w
      refine ⟨Or.inr (by rw [← h2]; rfl), ?_⟩
      rw [← h2, ← h2w]
      exact fresh _ _ _ (fun c hc => by
        simp only [Array.toList_append, List.mem_append] at hc
        rcases hc with h | h
        · exact hnn c h
        · exact hnz c (mem_zeroCells h))
  · by_cases hroom : n + m ≤ cap
    · have hfit : n * i.size + news.length ≤ cur.size := by rw [hl, hcs, hsize, ← Nat.add_mul]; exact Nat.mul_le_mul_right _ hroom
      have hr := run_append_room (P := P) w t ty e i ht hi g n cap cur hg a m c news (by rw [hl, hsize]) hnews h1 hroom hfit
      rw [hr] at h2
      injection h2 with h2 h2w
      refine ⟨Or.inl (by rw [← h2]; rfl), ?_⟩
      rw [← h2, ← h2w]
      intro g' hg' cur' e' fz' hc' c hc
      simp only [Value.ownBlock, Option.some.injEq] at hg'
      subst hg'
      rw [setRow_heap w g cur _ e _ hg] at hc'
      injection hc' with hc'
      injection hc' with hc' _
      subst hc'
      have hcc := hnl g rfl cur e _ hg
      simp only [List.mem_append] at hc
      rcases hc with (h | h) | h
      · exact hcc c (List.mem_of_mem_take h)
      · exact hnn c h
      · exact hcc c (List.mem_of_mem_drop h)
    · have holds : ∀ j u, xs[j]? = some u → w.cell? ((⟨g, 0, none⟩ : Addr).add j) = some u := hown.cells (g := g) rfl
      have hr := run_append_grow (P := P) w t ty e i z ht hi hz ⟨g, 0, none⟩ n cap xs (by rw [hown.1, hsize]) holds a m c news (by rw [hl, hsize]) hnews (by omega) (by omega) (growslice_fits (by omega) (by rw [hby]; exact hbytes))
      rw [hr] at h2
      injection h2 with h2 h2w
      refine ⟨Or.inr (by rw [← h2]; rfl), ?_⟩
      rw [← h2, ← h2w]
      have hcc := hnl g rfl cur e _ hg
      rw [← htake]
      exact fresh _ _ _ (fun c hc => by
        simp only [Array.toList_append, List.mem_append] at hc
        rcases hc with (h | h) | h
        · exact hcc c (List.mem_of_mem_take h)
        · exact hnn c h
        · exact hnz c (mem_zeroCells h))
/-- v is a slice of n elements of type e, of size cells each, that the call made; its cells are xs; no limb lies in its block. -/
structure OwnR (w : World) (e : TypeId) (B size : Nat) (v : Value) (n : Nat) (xs : List Value) : Prop where
  own : w.ownsRow B e size v n xs
  nl : NoLimb w v
section
variable {w : World} {e : TypeId} {B size n : Nat} {v : Value} {xs : List Value}
theorem OwnR.nil (w : World) (e : TypeId) (B size : Nat) : OwnR w e B size (.slice none 0 0) 0 [] := ⟨World.ownsRow_nil w B e size, NoLimb.nil _⟩
theorem OwnR.sl (h : OwnR w e B size v n xs) : IsSl v := by
  rcases h.own.2 with ⟨rfl, h0⟩ | ⟨g, cap, cur, rfl, hb, hg, hn, hm, hs, ht⟩
  · exact IsSl.nil
  · exact ⟨_, _, _, rfl, hn, hm, fun e => by cases e⟩
theorem OwnR.len (h : OwnR w e B size v n xs) : slen v = n := by
  rcases h.own.2 with ⟨rfl, h0⟩ | ⟨g, cap, cur, rfl, hb, hg, hn, hm, hs, ht⟩
  · rw [h0]; rfl
  · rfl
theorem OwnR.clen (h : OwnR w e B size v n xs) : xs.length = n * size := h.own.1
theorem OwnR.cell (h : OwnR w e B size v n xs) (j : Nat) (hj : j < xs.length) : w.cell? (ptr v j) = some xs[j] := by
  have hl := h.own.1
  obtain ⟨ho, _⟩ := h
  rcases ho.2 with ⟨rfl, h0⟩ | ⟨g, cap, cur, rfl, hb, hg, hn, hm, hs, ht⟩
  · rw [h0] at hl; omega
  · have := World.ownsRow.cellAt ho j (by omega)
    simp only [ptr, base, Addr.add_lit, Nat.zero_add]
    rw [this, List.getElem?_eq_getElem hj]
/-- Another block grew. -/
theorem OwnR.grown {w' : World} {row : Option Nat} (h : OwnR w e B size v n xs) (hg : w.grownBy w' row) (hne : v.ownBlock = none ∨ v.ownBlock ≠ row) : OwnR w' e B size v n xs := by
  refine ⟨World.ownsRow.kept h.own hg hne, fun g hgv cur e' fz hc c hcc => ?_⟩
  have hlt := (World.ownsRow.lt h.own g hgv).2
  rw [hg.block g hlt (by rw [← hgv]; rcases hne with h1 | h1; · rw [h1] at hgv; cases hgv
                         · exact h1)] at hc
  exact h.nl g hgv cur e' fz hc c hcc
theorem OwnR.below {w' : World} (h : OwnR w e B size v n xs) (hb : Below w.heap.size w w') : OwnR w' e B size v n xs :=
  h.grown (grown_of_below hb) (by cases hv : v.ownBlock <;> simp)
theorem OwnR.block (h : OwnR w e B size v n xs) : ∀ k, v.ownBlock = some k → B ≤ k ∧ k < w.heap.size := World.ownsRow.lt h.own
theorem NatV.grownR {w' : World} {row : Option Nat} {x : Value} {l : List Nat} (h : NatV w x l) (hg : w.grownBy w' row) (hn : ∀ v, v.ownBlock = row → NoLimb w v) : NatV w' x l := by
  refine ⟨h.sl, h.len, fun j hj => ?_, h.lm⟩
  have hc := h.cell j hj
  refine hg.cell hc (fun e => ?_)
  have h2 := hn (.slice (some ⟨(ptr x j).block, 0, none⟩) 0 0) (by rw [← e]; rfl) (ptr x j).block rfl
  unfold World.cell? at hc
  split at hc
  · rename_i cur e' fz hh
    split at hc
    · cases hc
    · exact h2 cur e' fz hh _ (by have := Array.mem_of_getElem? hc; simpa using this) _ rfl
  · cases hc
theorem NoLimb.any {v u : Value} (h : NoLimb w v) (he : u.ownBlock = v.ownBlock) : NoLimb w u := fun g hg => h g (by rw [← he]; exact hg)
theorem NatC.grown {w' : World} {x : Value} {m : Nat} (h : NatC w x m) (hg : w.grownBy w' v.ownBlock) (hn : NoLimb w v) : NatC w' x m := ⟨h.1.grownR hg (fun u hu => hn.any hu), h.2⟩
theorem FracC.grown {w' : World} {x : Value} {q : Rat} (h : FracC w x q) (hg : w.grownBy w' v.ownBlock) (hn : NoLimb w v) : FracC w' x q := by
  obtain ⟨a, b, rfl, h1, h2⟩ := h; exact ⟨a, b, rfl, h1.grown hg hn, h2.grown hg hn⟩
end
theorem wpList_append1_R {P : Program} (w0 : World) {ops : Array Oper} {rest : List Oper} {o : Oper} {a : Act} {Q : Exit → Act → World → Prop} (hgd : o.guard = none) (s x : Operand) (t : TypeId)
    (ho : o.op = .call { callee := .builtin .append, args := #[s, x], argTypes := #[t, t] })
    (B : Nat) (e e' : TypeId) (i : TypeInfo) (z : Value) (size bytes : Nat) (ht : P.underlying t = some (.slice e)) (hi : P.info? e = some i) (hz : i.zero = some z)
    (hsize : i.size = size) (hby : i.bytes = bytes) (hzs : z.cells.size = size) (hsz : 0 < size) (hnz : ∀ c ∈ z.cells.toList, ∀ z, c ≠ .int .u32 z)
    (v : Value) (n : Nat) (xs : List Value) (hs : a.eval s = v) (hown : OwnR w0 e B size v n xs) (news : Array Value) (hns : news.size = size) (hxe : a.eval x = .slice (some ⟨w0.heap.size, 0, none⟩) 1 1)
    (h1 : ∀ u ∈ news.toList, u.oneCell' = true) (hnn : ∀ c ∈ news.toList, ∀ z, c ≠ .int .u32 z)
    (h63 : n + 1 ≤ maxLen) (hbytes : (n + 1) * bytes ≤ 140737488355328) (hbase : B ≤ w0.heap.size)
    (h : ∀ v' w', OwnR w' e B size v' (n + 1) (xs ++ news.toList) → w0.grownBy w' v.ownBlock → (v'.ownBlock = v.ownBlock ∨ v'.ownBlock = some (w0.heap.size + 1)) → wpList P ops Q rest (a.put o.dst v') w') :
    wpList P ops Q (o :: rest) a (w0.alloc (.cells news e')) := by
  refine wpList_plain hgd fun K hK => ?_
  have hg0 := World.grownBy_alloc w0 (.cells news e') (v.ownBlock)
  have hown1 := hown.below (below_alloc w0 (.cells news e'))
  obtain ⟨v', w', hr, h2, h3, h4, h5⟩ := run_append_R (P := P) (w0.alloc (.cells news e')) B t o.type e i z size bytes ht hi hz hsize hby hzs hsz v n xs hown1.own ⟨w0.heap.size, 0, none⟩ 1 1 news.toList (by simp [hns])
    (fun j u hu => by
      have hc := cell_of_row (w0.alloc (.cells news e')) w0.heap.size j news e' (0, 0) (heap_alloc_new w0 _)
      rw [Addr.add_lit, Nat.zero_add, hc]; simpa using hu) h1 h63 hbytes (by simp; omega) hown1.nl hnn hnz
  unfold Oper.wp execOp
  simp only [ho, resolve, invoke, builtin, Sem.run_bind, Sem.run_pure, Result.andThen_ok, List.map_toArray, List.map_cons, List.map_nil, hs, hxe, hr]
  exact hK _ _ (h v' w' ⟨h2, h5⟩ (grownBy_trans hg0 h3) (by simpa using h4))
end Go.Proofs.Ytbhkibilnmoljaa
namespace Go.Proofs.Ytbhkibilnmoljaa
set_option linter.unusedVariables false
set_option linter.unusedSimpArgs false
open Go.RowKit

/-- Blocks from B on are kept, and so are limbs. -/
structure Moves (B : Nat) (w w' : World) : Prop where
  size : w.heap.size ≤ w'.heap.size
  row : ∀ g, B ≤ g → g < w.heap.size → w'.heap[g]? = w.heap[g]?
  limb : ∀ p z, w.cell? p = some (.int .u32 z) → w'.cell? p = some (.int .u32 z)
theorem Moves.refl (B : Nat) (w : World) : Moves B w w := ⟨Nat.le_refl _, fun _ _ _ => rfl, fun _ _ h => h⟩
theorem Moves.trans {B : Nat} {a b c : World} (h : Moves B a b) (k : Moves B b c) : Moves B a c :=
  ⟨Nat.le_trans h.size k.size, fun g h1 h2 => (k.row g h1 (Nat.lt_of_lt_of_le h2 h.size)).trans (h.row g h1 h2), fun p z hp => k.limb p z (h.limb p z hp)⟩
theorem Moves.below {B : Nat} {w w' : World} (h : Below w.heap.size w w') : Moves B w w' := ⟨h.size, fun g _ h2 => h.block g h2, fun p z hp => cell_below h hp⟩
theorem Moves.set {B : Nat} {w : World} {p : Addr} {x : Value} (hp : p.block < B) (hc : w.cell? p = some x) (hx : ∀ z, x ≠ .int .u32 z) (u : Value) : Moves B w (w.setCell p u) := by
  refine ⟨by simp [World.setCell], fun g h1 h2 => Below.heap_setCell _ _ _ _ (by omega), fun q z hq => ?_⟩
  rw [World.cell?_setCell_other]
  · exact hq
  · intro e
    rw [← e, hc] at hq
    injection hq with hq
    exact hx _ hq
theorem NatV.moves {B : Nat} {w w' : World} {v : Value} {l : List Nat} (h : NatV w v l) (hm : Moves B w w') : NatV w' v l := ⟨h.sl, h.len, fun j hj => hm.limb _ _ (h.cell j hj), h.lm⟩
theorem NatC.moves {B : Nat} {w w' : World} {v : Value} {n : Nat} (h : NatC w v n) (hm : Moves B w w') : NatC w' v n := ⟨h.v.moves hm, h.2⟩
theorem FracC.moves {B : Nat} {w w' : World} {v : Value} {q : Rat} (h : FracC w v q) (hm : Moves B w w') : FracC w' v q := by
  obtain ⟨a, b, rfl, h1, h2⟩ := h; exact ⟨a, b, rfl, h1.moves hm, h2.moves hm⟩
theorem OwnR.moves {B B' : Nat} {w w' : World} {e : TypeId} {size n : Nat} {v : Value} {xs : List Value} (h : OwnR w e B' size v n xs) (hm : Moves B w w') (hB : B ≤ B') : OwnR w' e B' size v n xs := by
  have hlt := h.block
  refine ⟨⟨h.own.1, ?_⟩, fun g hg cur e' fz hc => ?_⟩
  · rcases h.own.2 with ⟨rfl, h0⟩ | ⟨g, cap, cur, rfl, hb, hg, rest⟩
    · exact .inl ⟨rfl, h0⟩
    · refine .inr ⟨g, cap, cur, rfl, hb, ?_, rest⟩
      rw [hm.row g (Nat.le_trans hB hb) (hlt g rfl).2]; exact hg
  · obtain ⟨h1, h2⟩ := hlt g hg
    rw [hm.row g (Nat.le_trans hB h1) h2] at hc
    exact h.nl g hg cur e' fz hc
/-- Rows of two types lie in two blocks. -/
theorem OwnR.kinds {w : World} {e e' : TypeId} {B B' size size' n n' : Nat} {v v' : Value} {xs xs' : List Value} (h : OwnR w e B size v n xs) (h' : OwnR w e' B' size' v' n' xs') (hne : e ≠ e') : v.ownBlock = none ∨ v.ownBlock ≠ v'.ownBlock := by
  cases hv : v.ownBlock with
  | none => exact Or.inl rfl
  | some g =>
    refine Or.inr (fun he => ?_)
    obtain ⟨c, fz, h1⟩ := Lib.ownsRow_kind h.own g hv
    obtain ⟨c', fz', h2⟩ := Lib.ownsRow_kind h'.own g he.symm
    rw [h1] at h2
    injection h2 with h2
    injection h2 with _ h2
    exact hne h2
/-- The cells xs are those of the fractions q, in canonical form. -/
def CellsQ (w : World) (xs : List Value) (q : List Rat) : Prop :=
  ∀ (j : Nat) (h : j < q.length), ∃ a b, xs[j * 3]? = some (.bool (decide (q[j] < 0))) ∧ xs[j * 3 + 1]? = some a ∧ xs[j * 3 + 2]? = some b ∧ NatC w a q[j].num.natAbs ∧ NatC w b q[j].den
/-- v is a row of fractions that the call made. -/
def FrRow (w : World) (e : TypeId) (B : Nat) (v : Value) (q : List Rat) : Prop := ∃ xs, OwnR w e B 3 v q.length xs ∧ CellsQ w xs q
section
variable {w : World} {e : TypeId} {B : Nat} {v : Value} {q : List Rat}
theorem FrRow.nil (w : World) (e : TypeId) (B : Nat) : FrRow w e B (.slice none 0 0) [] := ⟨[], OwnR.nil _ _ _ _, fun j h => by simp at h⟩
theorem FrRow.fracs (h : FrRow w e B v q) : FracsC w v q := by
  obtain ⟨xs, h1, h2⟩ := h
  refine ⟨h1.sl, h1.len, fun j hj => ?_⟩
  obtain ⟨a, b, e1, e2, e3, e4, e5⟩ := h2 j hj
  have hc : ∀ i u, xs[i]? = some u → w.cell? (ptr v i) = some u := fun i u hi => by
    obtain ⟨h6, h7⟩ := List.getElem?_eq_some_iff.1 hi
    rw [h1.cell i h6, h7]
  exact ⟨a, b, hc _ _ e1, hc _ _ e2, hc _ _ e3, e4, e5⟩
theorem FrRow.sl (h : FrRow w e B v q) : IsSl v := h.fracs.sl
theorem FrRow.block (h : FrRow w e B v q) : ∀ k, v.ownBlock = some k → B ≤ k ∧ k < w.heap.size := by obtain ⟨xs, h1, _⟩ := h; exact h1.block
theorem FrRow.moves {B' : Nat} {w' : World} (h : FrRow w e B v q) (hm : Moves B' w w') (hB : B' ≤ B) : FrRow w' e B v q := by
  obtain ⟨xs, h1, h2⟩ := h
  refine ⟨xs, h1.moves hm hB, fun j hj => ?_⟩
  obtain ⟨a, b, e1, e2, e3, e4, e5⟩ := h2 j hj
  exact ⟨a, b, e1, e2, e3, e4.moves hm, e5.moves hm⟩
theorem CellsQ.grown {w' : World} {u : Value} {xs : List Value} (h2 : CellsQ w xs q) (hg : w.grownBy w' u.ownBlock) (hn : NoLimb w u) : CellsQ w' xs q := fun j hj => by
  obtain ⟨a, b, e1, e2, e3, e4, e5⟩ := h2 j hj
  exact ⟨a, b, e1, e2, e3, e4.grown hg hn, e5.grown hg hn⟩
theorem FrRow.grown {w' : World} {u : Value} (h : FrRow w e B v q) (hg : w.grownBy w' u.ownBlock) (hn : NoLimb w u) (hne : v.ownBlock = none ∨ v.ownBlock ≠ u.ownBlock) : FrRow w' e B v q := by
  obtain ⟨xs, h1, h2⟩ := h
  exact ⟨xs, h1.grown hg hne, h2.grown hg hn⟩
theorem FrRow.mono {B' : Nat} (h : FrRow w e B v q) (hB : B' ≤ B) : FrRow w e B' v q := by
  obtain ⟨xs, h1, h2⟩ := h
  refine ⟨xs, ⟨⟨h1.own.1, ?_⟩, h1.nl⟩, h2⟩
  rcases h1.own.2 with h | ⟨g, cap, cur, rfl, hb, rest⟩
  · exact .inl h
  · exact .inr ⟨g, cap, cur, rfl, by omega, rest⟩
theorem CellsQ.snoc {xs : List Value} (h2 : CellsQ w xs q) (hl : xs.length = q.length * 3) {x y z : Value} {r : Rat} (hf : FracC w (.agg #[x, y, z]) r) : CellsQ w (xs ++ [x, y, z]) (q ++ [r]) := by
  intro j hj
  obtain ⟨a, b, ha, h4, h5⟩ := hf
  injection ha with ha
  injection ha with ha
  simp only [List.cons.injEq, and_true] at ha
  obtain ⟨rfl, rfl, rfl⟩ := ha
  rcases Nat.lt_or_ge j q.length with h | h
  · obtain ⟨a, b, e1, e2, e3, e4, e5⟩ := h2 j h
    rw [List.getElem_append_left h]
    exact ⟨a, b, by rw [List.getElem?_append_left (by omega)]; exact e1, by rw [List.getElem?_append_left (by omega)]; exact e2, by rw [List.getElem?_append_left (by omega)]; exact e3, e4, e5⟩
  · obtain rfl : j = q.length := by simp at hj; omega
    have e0 : (q ++ [r])[q.length]'hj = r := by simp
    rw [e0, ← hl]
    refine ⟨y, z, ?_, ?_, ?_, h4, h5⟩
    · rw [List.getElem?_append_right (Nat.le_refl _)]; simp
    · rw [List.getElem?_append_right (by omega)]; simp
    · rw [List.getElem?_append_right (by omega)]; simp
end
/-- append(s, x), s an own row of fractions, for a walk. -/
theorem append1_fr {P : Program} (t e : TypeId) (i : TypeInfo) (ht : P.underlying t = some (.slice e)) (hi : P.info? e = some i) (hz : i.zero = some (.agg #[.bool false, .slice none 0 0, .slice none 0 0])) (hsize : i.size = 3) (hby : i.bytes = 56)
    (w0 : World) {ops : Array Oper} {rest : List Oper} {o : Oper} {a : Act} {Q : Exit → Act → World → Prop} (hgd : o.guard = none) (s x : Operand)
    (ho : o.op = .call { callee := .builtin .append, args := #[s, x], argTypes := #[t, t] }) (B : Nat) (e' : TypeId)
    (v : Value) (q : List Rat) (hs : a.eval s = v) (hown : FrRow w0 e B v q) (c0 c1 c2 : Value) (r : Rat) (hf : FracC w0 (.agg #[c0, c1, c2]) r) (hxe : a.eval x = .slice (some ⟨w0.heap.size, 0, none⟩) 1 1) (hn : q.length ≤ 1000) (hbase : B ≤ w0.heap.size)
    (h : ∀ v' w', FrRow w' e B v' (q ++ [r]) → w0.grownBy w' v.ownBlock → NoLimb w0 v → (v'.ownBlock = v.ownBlock ∨ v'.ownBlock = some (w0.heap.size + 1)) → IsSl v' → wpList P ops Q rest (a.put o.dst v') w') :
    wpList P ops Q (o :: rest) a (w0.alloc (.cells #[c0, c1, c2] e')) := by
  obtain ⟨xs, h1, h2⟩ := hown
  have hl : xs.length = q.length * 3 := h1.clen
  have hf2 := hf
  obtain ⟨a1, b1, ha, h4, h5⟩ := hf2
  injection ha with ha
  injection ha with ha
  simp only [List.cons.injEq, and_true] at ha
  obtain ⟨rfl, rfl, rfl⟩ := ha
  obtain ⟨p1, p2, p3, rfl, _⟩ := h4.v.sl
  obtain ⟨s1, s2, s3, rfl, _⟩ := h5.v.sl
  refine wpList_append1_R w0 hgd s x t ho B e e' i _ 3 56 ht hi hz hsize hby rfl (by decide) (fun c hc z => by
      have hc2 : c ∈ [Value.bool false, .slice none 0 0, .slice none 0 0] := hc
      simp at hc2; rcases hc2 with rfl | rfl <;> simp) v q.length xs hs h1 #[.bool (decide (r < 0)), .slice p1 p2 p3, .slice s1 s2 s3] rfl hxe
    (fun u hu => by simp at hu; rcases hu with rfl | rfl | rfl <;> rfl) (fun u hu z => by simp at hu; rcases hu with rfl | rfl | rfl <;> simp) (by simp [maxLen]; omega) (by omega) hbase ?_
  intro v' w' k1 k2 k3
  refine h v' w' ⟨_, ?_, (CellsQ.snoc (r := r) h2 hl hf).grown k2 h1.nl⟩ k2 h1.nl k3 k1.sl
  rw [List.length_append]
  exact k1
/-- append(s, x), s an own row of one-cell values that are no limbs. -/
theorem append1_one {P : Program} (t e : TypeId) (i : TypeInfo) (z : Value) (bytes : Nat) (ht : P.underlying t = some (.slice e)) (hi : P.info? e = some i) (hz : i.zero = some z) (hsize : i.size = 1) (hby : i.bytes = bytes) (hby2 : bytes ≤ 64) (hzc : z.cells = #[z]) (hzn : ∀ k, z ≠ .int .u32 k)
    (w0 : World) {ops : Array Oper} {rest : List Oper} {o : Oper} {a : Act} {Q : Exit → Act → World → Prop} (hgd : o.guard = none) (s x : Operand)
    (ho : o.op = .call { callee := .builtin .append, args := #[s, x], argTypes := #[t, t] }) (B : Nat) (e' : TypeId)
    (v : Value) (xs : List Value) (hs : a.eval s = v) (hown : OwnR w0 e B 1 v xs.length xs) (c : Value) (hc1 : c.oneCell' = true) (hcn : ∀ k, c ≠ .int .u32 k) (hxe : a.eval x = .slice (some ⟨w0.heap.size, 0, none⟩) 1 1) (hn : xs.length ≤ 1000) (hbase : B ≤ w0.heap.size)
    (h : ∀ v' w', OwnR w' e B 1 v' (xs ++ [c]).length (xs ++ [c]) → w0.grownBy w' v.ownBlock → NoLimb w0 v → (v'.ownBlock = v.ownBlock ∨ v'.ownBlock = some (w0.heap.size + 1)) → IsSl v' → wpList P ops Q rest (a.put o.dst v') w') :
    wpList P ops Q (o :: rest) a (w0.alloc (.cells #[c] e')) := by
  refine wpList_append1_R w0 hgd s x t ho B e e' i _ 1 bytes ht hi hz hsize hby (by rw [hzc]; rfl) (by decide) (fun d hd => by rw [hzc] at hd; simp at hd; subst hd; exact hzn) v xs.length xs hs hown #[c] rfl hxe
    (fun u hu => by simp at hu; subst hu; exact hc1) (fun u hu z => by simp at hu; subst hu; exact hcn z) (by simp [maxLen]; omega) (by have : (xs.length + 1) * bytes ≤ 1001 * 64 := Nat.mul_le_mul (by omega) hby2; omega) hbase ?_
  intro v' w' k1 k2 k3
  refine h v' w' ?_ k2 hown.nl k3 k1.sl
  rw [List.length_append]
  exact k1
/-- A made row of fractions, as a row that may grow. -/
theorem OwnFr.frRow {w : World} {e : TypeId} {B n : Nat} {v : Value} {q : List Rat} (h : OwnFr w e B v n) (hl : q.length = n) (he : ∀ j (hj : j < q.length), ElemC w v j q[j]) : FrRow w e B v q := by
  obtain ⟨g, cs, rfl, h1, h2⟩ := id h
  have hcl : cs.length = n * 3 := h1.1
  refine ⟨cs, ⟨by rw [hl]; exact h1, ?_⟩, fun j hj => ?_⟩
  · intro g' hg' cur e' fz hc c hcc z
    rcases h1.2 with ⟨h', _⟩ | ⟨g2, cap, cur2, h', hb, hg, _, _, hs, ht⟩
    · cases h'
    · injection h' with h4 h5 h6
      injection h4 with h4
      injection h4 with h4
      subst h4
      simp only [Value.ownBlock, Option.some.injEq] at hg'
      subst hg'
      rw [hc] at hg
      injection hg with hg
      injection hg with hg _ _
      subst hg
      have e9 : cur.toList = cs := by
        rw [← ht]
        exact (List.take_of_length_le (by rw [Array.length_toList, hs, ← h6]; exact Nat.le_refl _)).symm
      exact h2 c (by rw [← e9]; exact hcc) z
  · obtain ⟨a, b, e1, e2, e3, e4, e5⟩ := he j hj
    have hc : ∀ i u, i < cs.length → w.cell? (Go.Proofs.Ytbhkibilnmoljaa.ptr (.slice (some ⟨g, 0, none⟩) n n) i) = some u → cs[i]? = some u := fun i u hi hu => by
      have := World.ownsRow.cellAt h1 i (by omega)
      simp only [Go.Proofs.Ytbhkibilnmoljaa.ptr, base, Addr.add_lit, Nat.zero_add] at hu
      rw [hu] at this
      exact this.symm
    exact ⟨a, b, hc _ _ (by omega) e1, hc _ _ (by omega) e2, hc _ _ (by omega) e3, e4, e5⟩
end Go.Proofs.Ytbhkibilnmoljaa
