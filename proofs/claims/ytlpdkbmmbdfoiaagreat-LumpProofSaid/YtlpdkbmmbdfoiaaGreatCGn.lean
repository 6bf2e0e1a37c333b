/-
  What the walks of many packages share: fractions as results, constants, what types' zero values are.
  Ahead of it: package fraction, what goes before its walks: Reduce, Cmp. Slices of fractions that a call itself made. No program is named here.
-/
import Derived.Test.YtlpdkbmmbdfoiaaGreatCMath8
namespace Go.Proofs.YtlpdkbmmbdfoiaaGreat
set_option linter.unusedVariables false
set_option linter.unusedSimpArgs false
open Go.RowKit

theorem fits_ok (s : Bool) {n d : Nat} (h : okN n d) : fits (fq s n d) := by
  rw [fits_fq s n d h.1]
  exact ⟨Nat.le_trans (nbits_mono (Nat.div_le_self _ _)) h.2.2, Nat.le_trans (nbits_mono (Nat.div_le_self _ _)) h.2.1⟩
/-- A reduced fraction, or the zero value and ErrArg. -/
def RRed (w0 : World) (s : Bool) (n d : Nat) (e : Ending) (w : World) : Prop :=
  ∃ v er, e = .returned (.tuple #[v, .int .i64 er]) ∧ Below w0.heap.size w0 w ∧ (okN n d → er = 0 ∧ FracC w v (fq s n d)) ∧ (¬ okN n d → er = 1 ∧ v = zeroF)
theorem valid_no (v : Value) (s : Bool) (n d : Nat) (w : World) (h : FracN w v s n d) (hk : ¬ okN n d) :
    Calls Tryz.prog 79 #[v] w fun e w' => e = .returned (.bool false) ∧ Below w.heap.size w w' :=
  (valid_any v s n d w h).mono fun e w' ⟨h1, h2⟩ => ⟨by rw [h1, decide_eq_false hk], h2⟩
theorem two_boxes (w : World) (t : TypeId) (x0 x1 x2 y0 y1 y2 : Value) (W : World)
    (hW : W = (w.alloc (.cells #[x0, x1, x2] t)).alloc (.cells #[y0, y1, y2] t)) :
    C3 W w.heap.size x0 x1 x2 ∧ C3 W (w.heap.size + 1) y0 y1 y2 ∧ Below w.heap.size w W := by
  subst hW
  have e1 : (w.alloc (.cells #[x0, x1, x2] t)).heap.size = w.heap.size + 1 := by show (w.heap.push _).size = _; simp
  refine ⟨(C3.new w t x0 x1 x2).allocS _, ?_, ?_⟩
  · rw [← e1]; exact C3.new _ t y0 y1 y2
  · exact (below_alloc w _).trans ((below_alloc _ _).mono (below_alloc w _).size)
set_option maxHeartbeats 1600000 in
theorem reduce_any (va : Value) (s : Bool) (n d : Nat) (w : World) (ha : FracN w va s n d) :
    Calls Tryz.prog 89 #[va] w (RRed w s n d) := by
  have hA := ha
  obtain ⟨xn, xd, rfl, hxn, hxd⟩ := ha
  obtain ⟨an, ln, kn, rfl, _⟩ := hxn.slen.1
  obtain ⟨ad, ld, kd, rfl, _⟩ := hxd.slen.1
  go_enter Tryz.func89, Tryz.ntmps89
  go_wp2_with fail
  obtain ⟨W, hW⟩ : ∃ W, W = ((w.alloc (.cells #[.bool s, .slice an ln kn, .slice ad ld kd] 38)).alloc (.cells #[.bool false, .slice none 0 0, .slice none 0 0] 38)) := ⟨_, rfl⟩
  obtain ⟨bx, bz, hbw⟩ := two_boxes w 38 _ _ _ _ _ _ W hW
  rw [← hW]
  clear hW
  have HBX := Lib.hid bx
  have HBZ := Lib.hid bz
  obtain ⟨_, q1, q2, q3, q4, q5, q6⟩ := bx
  clear bz
  by_cases hk : okN n d
  · have K := Lib.hid hk
    have NN := Lib.hid (Nat.le_trans (nbits_nlen (n := n) (k := 128) hk.2.2) (show 128 ≤ 512 by decide))
    have ND := Lib.hid (Nat.le_trans (nbits_nlen (n := d) (k := 128) hk.2.1) (show 128 ≤ 512 by decide))
    have FT := Lib.hid (fits_ok s hk)
    have D0 := Lib.hid hk.1
    clear hk
    go_wp2_with (first
      | (go_at_call 79; (with_reducible refine (valid_ok _ s n d _ (hA.below hbw) K.out).mono ?_); rintro e9 w1 ⟨rfl, hv1⟩
         obtain ⟨_, f1, f2, f3, f4, f5, f6⟩ := HBX.out.belowS hv1
         have hbw1 := below_then hbw hv1)
      | (go_at_call 142; (with_reducible refine (lowest_any s _ _ n d _ (hxn.below hbw1) (hxd.below hbw1) D0.out NN.out ND.out).mono ?_); rintro e9 w7 ⟨v, er7, rfl, hv5, hv2, hv3⟩
         have hv4 := hv2 FT.out
         obtain ⟨t9, x9, y9, rfl, ⟨a1, l91, k1, rfl, _⟩, ⟨a2, l92, k2, rfl, _⟩⟩ := rfrac_isF (w0 := w) hv2 hv3
         have hC := (HBZ.out.belowS hv1).belowS hv5
         have HC := Lib.hid hC
         have hbz := below_then hbw1 hv5
         obtain ⟨_, d0, d1, d2, e0, e1, e2⟩ := hC))
    refine bodyPost_c3 rfl rfl Tryz.aggF Tryz.sizeF (HC.out.set _ _ _) rfl ?_
    exact ⟨_, _, rfl, below_set3 hbz (by omega) _ _ _, fun h => ⟨rfl, hv4.2.set3 HC.out (fun z => by simp) (fun z => by simp) _ _ _⟩, fun h => absurd K.out h⟩
  · have K := Lib.hid hk
    clear hk
    go_wp2_with (first
      | (go_at_call 79; (with_reducible refine (valid_no _ s n d _ (hA.below hbw) K.out).mono ?_); rintro e9 w1 ⟨rfl, hv1⟩
         have hC := HBZ.out.belowS hv1
         have HC := Lib.hid hC
         have hbz := below_then hbw hv1
         obtain ⟨_, d0, d1, d2, e0, e1, e2⟩ := hC))
    refine bodyPost_c3 rfl rfl Tryz.aggF Tryz.sizeF (HC.out.set _ _ _) rfl ?_
    exact ⟨_, _, rfl, below_set3 hbz (by omega) _ _ _, fun h => absurd h K.out, fun _ => ⟨rfl, rfl⟩⟩

theorem step_callg {P : Program} {ops : Array Oper} {o : Oper} {a : Act} {w : World} {K : Act → World → Prop} {Q : Exit → Act → World → Prop} {E : Prop} (f : FuncId) (argv : Array Value) (hg : Region.wanted o (yielded ops a.tmps) = true)
    (hrun : (execOp a.eval o).run P w = .ok (.enter f argv) w) {R : Ending → World → Prop} (hc : Calls P f argv w R) (h : ∀ e w', R e w' → ∃ v, e = .returned v ∧ K (a.put o.dst v) w') :
    if Region.wanted o (yielded ops a.tmps) = true then Oper.wp P o a w K Q else E := by
  rw [if_pos hg]
  unfold Oper.wp
  rw [hrun, Oper.upon_enter]
  refine hc.mono fun e w' hr => ?_
  obtain ⟨v, rfl, hk⟩ := h e w' hr
  exact hk
end Go.Proofs.YtlpdkbmmbdfoiaaGreat
namespace Go.Proofs.YtlpdkbmmbdfoiaaGreat
set_option linter.unusedVariables false
set_option linter.unusedSimpArgs false
open Go.RowKit

/-- v is a slice of n elements of three cells each that the call made; none of its cells is a limb. -/
def OwnFr (w : World) (e : TypeId) (B : Nat) (v : Value) (n : Nat) : Prop :=
  ∃ g cs, v = .slice (some ⟨g, 0, none⟩) n n ∧ w.ownsRow B e 3 v n cs ∧ ∀ c ∈ cs, ∀ z, c ≠ .int .u32 z
section
variable {w : World} {e : TypeId} {B n : Nat} {v : Value}
theorem OwnFr.ptr (h : OwnFr w e B v n) : ∃ g, ∀ k, Go.Proofs.YtlpdkbmmbdfoiaaGreat.ptr v k = ⟨g, k, none⟩ := by
  obtain ⟨g, cs, rfl, _⟩ := h
  exact ⟨g, fun k => by simp only [Go.Proofs.YtlpdkbmmbdfoiaaGreat.ptr, base, Addr.add_lit, Nat.zero_add]⟩
theorem OwnFr.inj (h : OwnFr w e B v n) {i j : Nat} (hij : i ≠ j) : Go.Proofs.YtlpdkbmmbdfoiaaGreat.ptr v i ≠ Go.Proofs.YtlpdkbmmbdfoiaaGreat.ptr v j := by
  obtain ⟨g, hg⟩ := h.ptr
  rw [hg, hg]
  intro h; injection h with h1 h2; exact hij h2
theorem OwnFr.sl (h : OwnFr w e B v n) : IsSl v := by
  obtain ⟨g, cs, rfl, h1, _⟩ := h
  rcases h1.2 with ⟨h', _⟩ | ⟨g', cap, cur, h', _, _, h2, h3, _⟩
  · cases h'
  · injection h' with h4 h5 h6
    subst h6
    exact ⟨_, _, _, rfl, h2, h3, fun e => by cases e⟩
theorem OwnFr.len (h : OwnFr w e B v n) : slen v = n := by obtain ⟨g, cs, rfl, _⟩ := h; rfl
theorem OwnFr.cell (h : OwnFr w e B v n) (j : Nat) (hj : j < n * 3) : ∃ x, w.cell? (Go.Proofs.YtlpdkbmmbdfoiaaGreat.ptr v j) = some x ∧ ∀ z, x ≠ .int .u32 z := by
  obtain ⟨g, cs, rfl, h1, h2⟩ := h
  have hl : cs.length = n * 3 := h1.1
  have := World.ownsRow.cellAt h1 j hj
  rw [List.getElem?_eq_getElem (by omega)] at this
  refine ⟨cs[j]'(by omega), ?_, h2 _ (List.getElem_mem _)⟩
  simpa only [Go.Proofs.YtlpdkbmmbdfoiaaGreat.ptr, base, Addr.add_lit, Nat.zero_add] using this
theorem OwnFr.frozen (h : OwnFr w e B v n) (j : Nat) : w.frozen? (Go.Proofs.YtlpdkbmmbdfoiaaGreat.ptr v j) = false := by
  obtain ⟨g, cs, rfl, h1, h2⟩ := h
  have := World.ownsRow.frozenAt h1 j
  simpa only [Go.Proofs.YtlpdkbmmbdfoiaaGreat.ptr, base, Addr.add_lit, Nat.zero_add] using this
theorem OwnFr.block (h : OwnFr w e B v n) : B ≤ (base v).block ∧ (base v).block < w.heap.size := by
  obtain ⟨g, cs, rfl, h1, h2⟩ := h
  rcases h1.2 with ⟨h', _⟩ | ⟨g', cap, cur, h', hb, hg, _⟩
  · cases h'
  · injection h' with h4
    injection h4 with h4
    injection h4 with h4
    subst h4
    exact ⟨hb, (Array.getElem?_eq_some_iff.1 hg).1⟩
theorem OwnFr.below {w' : World} (h : OwnFr w e B v n) (hb : Below w.heap.size w w') : OwnFr w' e B v n := by
  obtain ⟨g, cs, rfl, h1, h2⟩ := h
  exact ⟨g, cs, rfl, World.ownsRow.kept h1 (grown_of_below hb) (Or.inr (by simp [Value.ownBlock])), h2⟩
theorem OwnFr.mono {B' : Nat} (h : OwnFr w e B v n) (hB : B' ≤ B) : OwnFr w e B' v n := by
  obtain ⟨g, cs, rfl, h1, h2⟩ := h
  refine ⟨g, cs, rfl, ⟨h1.1, ?_⟩, h2⟩
  rcases h1.2 with ⟨h', _⟩ | ⟨g', cap, cur, h', hb, rest⟩
  · cases h'
  · exact .inr ⟨g', cap, cur, h', by omega, rest⟩
theorem OwnFr.set (h : OwnFr w e B v n) (j : Nat) (u : Value) (hu : ∀ z, u ≠ .int .u32 z) : OwnFr (w.setCell (Go.Proofs.YtlpdkbmmbdfoiaaGreat.ptr v j) u) e B v n ∧ Below B w (w.setCell (Go.Proofs.YtlpdkbmmbdfoiaaGreat.ptr v j) u) := by
  have hbl := h.block
  obtain ⟨g, cs, rfl, h1, h2⟩ := h
  have hs := World.ownsRow.stored h1 j u
  have hp : Go.Proofs.YtlpdkbmmbdfoiaaGreat.ptr (.slice (some ⟨g, 0, none⟩) n n) j = ⟨g, j, none⟩ := by simp only [Go.Proofs.YtlpdkbmmbdfoiaaGreat.ptr, base, Addr.add_lit, Nat.zero_add]
  rw [hp]
  refine ⟨⟨g, _, rfl, hs.1, fun c hc => ?_⟩, below_of_grown hs.2 (by simp only [base] at hbl; omega) (fun k hk => by simp [base] at hbl hk; omega)⟩
  rcases List.mem_or_eq_of_mem_set hc with h' | h'
  · exact h2 c h'
  · subst h'; exact hu
/-- Element j of v is the canonical form of q. -/
def ElemC (w : World) (v : Value) (j : Nat) (q : Rat) : Prop :=
  ∃ a b, w.cell? (Go.Proofs.YtlpdkbmmbdfoiaaGreat.ptr v (j * 3)) = some (.bool (decide (q < 0))) ∧ w.cell? (Go.Proofs.YtlpdkbmmbdfoiaaGreat.ptr v (j * 3 + 1)) = some a ∧ w.cell? (Go.Proofs.YtlpdkbmmbdfoiaaGreat.ptr v (j * 3 + 2)) = some b ∧ NatC w a q.num.natAbs ∧ NatC w b q.den
theorem ElemC.below {w' : World} {j : Nat} {q : Rat} (h : ElemC w v j q) (hb : Below w.heap.size w w') : ElemC w' v j q := by
  obtain ⟨a, b, h1, h2, h3, h4, h5⟩ := h
  exact ⟨a, b, cell_below hb h1, cell_below hb h2, cell_below hb h3, h4.below hb, h5.below hb⟩
/-- The world behind a store of three cells into element i. -/
theorem OwnFr.set3 (h : OwnFr w e B v n) (i : Nat) (x y z : Value) (hx : ∀ k, x ≠ .int .u32 k) (hy : ∀ k, y ≠ .int .u32 k) (hz : ∀ k, z ≠ .int .u32 k) :
    OwnFr (((w.setCell (Go.Proofs.YtlpdkbmmbdfoiaaGreat.ptr v (i * 3)) x).setCell (Go.Proofs.YtlpdkbmmbdfoiaaGreat.ptr v (i * 3 + 1)) y).setCell (Go.Proofs.YtlpdkbmmbdfoiaaGreat.ptr v (i * 3 + 2)) z) e B v n ∧
      Below B w (((w.setCell (Go.Proofs.YtlpdkbmmbdfoiaaGreat.ptr v (i * 3)) x).setCell (Go.Proofs.YtlpdkbmmbdfoiaaGreat.ptr v (i * 3 + 1)) y).setCell (Go.Proofs.YtlpdkbmmbdfoiaaGreat.ptr v (i * 3 + 2)) z) := by
  have h1 := h.set (i * 3) x hx
  have h2 := h1.1.set (i * 3 + 1) y hy
  have h3 := h2.1.set (i * 3 + 2) z hz
  exact ⟨h3.1, (h1.2.trans h2.2).trans h3.2⟩
theorem NatC.over1 (h : OwnFr w e B v n) {x : Value} {m : Nat} (hx : NatC w x m) (j : Nat) (hj : j < n * 3) (u : Value) : NatC (w.setCell (Go.Proofs.YtlpdkbmmbdfoiaaGreat.ptr v j) u) x m := by
  obtain ⟨c, h1, h2⟩ := h.cell j hj
  exact ⟨hx.v.over h1 h2 u, hx.2⟩
theorem NatC.over3 (h : OwnFr w e B v n) {c : Value} {m : Nat} (hc : NatC w c m) (i : Nat) (hi : i < n) (x y z : Value) (hx : ∀ k, x ≠ .int .u32 k) (hy : ∀ k, y ≠ .int .u32 k) :
    NatC (((w.setCell (Go.Proofs.YtlpdkbmmbdfoiaaGreat.ptr v (i * 3)) x).setCell (Go.Proofs.YtlpdkbmmbdfoiaaGreat.ptr v (i * 3 + 1)) y).setCell (Go.Proofs.YtlpdkbmmbdfoiaaGreat.ptr v (i * 3 + 2)) z) c m := by
  have h1 := h.set (i * 3) x hx
  have h2 := h1.1.set (i * 3 + 1) y hy
  exact NatC.over1 h2.1 (NatC.over1 h1.1 (NatC.over1 h hc _ (by omega) _) _ (by omega) _) _ (by omega) _
theorem cell_set3_other (h : OwnFr w e B v n) (i k : Nat) (hk : k ≠ i * 3) (hk1 : k ≠ i * 3 + 1) (hk2 : k ≠ i * 3 + 2) (x y z : Value) :
    (((w.setCell (Go.Proofs.YtlpdkbmmbdfoiaaGreat.ptr v (i * 3)) x).setCell (Go.Proofs.YtlpdkbmmbdfoiaaGreat.ptr v (i * 3 + 1)) y).setCell (Go.Proofs.YtlpdkbmmbdfoiaaGreat.ptr v (i * 3 + 2)) z).cell? (Go.Proofs.YtlpdkbmmbdfoiaaGreat.ptr v k) = w.cell? (Go.Proofs.YtlpdkbmmbdfoiaaGreat.ptr v k) := by
  rw [World.cell?_setCell_other _ _ _ _ (h.inj (Ne.symm hk2)), World.cell?_setCell_other _ _ _ _ (h.inj (Ne.symm hk1)), World.cell?_setCell_other _ _ _ _ (h.inj (Ne.symm hk))]
theorem ElemC.set3_other (h : OwnFr w e B v n) {i j : Nat} (hi : i < n) (hij : i ≠ j) {q : Rat} (hj : ElemC w v j q) (x y z : Value) (hx : ∀ k, x ≠ .int .u32 k) (hy : ∀ k, y ≠ .int .u32 k) :
    ElemC (((w.setCell (Go.Proofs.YtlpdkbmmbdfoiaaGreat.ptr v (i * 3)) x).setCell (Go.Proofs.YtlpdkbmmbdfoiaaGreat.ptr v (i * 3 + 1)) y).setCell (Go.Proofs.YtlpdkbmmbdfoiaaGreat.ptr v (i * 3 + 2)) z) v j q := by
  obtain ⟨a, b, h1, h2, h3, h4, h5⟩ := hj
  refine ⟨a, b, ?_, ?_, ?_, NatC.over3 h h4 i hi x y z hx hy, NatC.over3 h h5 i hi x y z hx hy⟩
  · rw [cell_set3_other h i _ (by omega) (by omega) (by omega)]; exact h1
  · rw [cell_set3_other h i _ (by omega) (by omega) (by omega)]; exact h2
  · rw [cell_set3_other h i _ (by omega) (by omega) (by omega)]; exact h3
theorem ElemC.set3 (h : OwnFr w e B v n) {i : Nat} (hi : i < n) {q : Rat} {x y z : Value} (hf : FracC w (.agg #[x, y, z]) q) :
    ElemC (((w.setCell (Go.Proofs.YtlpdkbmmbdfoiaaGreat.ptr v (i * 3)) x).setCell (Go.Proofs.YtlpdkbmmbdfoiaaGreat.ptr v (i * 3 + 1)) y).setCell (Go.Proofs.YtlpdkbmmbdfoiaaGreat.ptr v (i * 3 + 2)) z) v i q := by
  obtain ⟨a, b, ha, h4, h5⟩ := hf
  injection ha with ha
  injection ha with ha
  simp only [List.cons.injEq, and_true] at ha
  obtain ⟨rfl, rfl, rfl⟩ := ha
  have nx : ∀ k, Value.bool (decide (q < 0)) ≠ .int .u32 k := fun k => by simp
  have ny : ∀ k, y ≠ .int .u32 k := fun k => by obtain ⟨a1, n1, c1, e1, _⟩ := h4.v.sl; subst e1; simp
  obtain ⟨c0, d0, _⟩ := h.cell (i * 3) (by omega)
  obtain ⟨c1, d1, _⟩ := h.cell (i * 3 + 1) (by omega)
  obtain ⟨c2, d2, _⟩ := h.cell (i * 3 + 2) (by omega)
  have n01 := h.inj (show i * 3 ≠ i * 3 + 1 by omega)
  have n02 := h.inj (show i * 3 ≠ i * 3 + 2 by omega)
  have n12 := h.inj (show i * 3 + 1 ≠ i * 3 + 2 by omega)
  refine ⟨y, z, ?_, ?_, ?_, NatC.over3 h h4 i hi _ _ _ nx ny, NatC.over3 h h5 i hi _ _ _ nx ny⟩
  · rw [World.cell?_setCell_other _ _ _ _ n02.symm, World.cell?_setCell_other _ _ _ _ n01.symm]
    exact World.cell?_setCell_same _ _ _ d0
  · rw [World.cell?_setCell_other _ _ _ _ n12.symm]
    exact World.cell?_setCell_same _ _ _ (u := c1) (by rw [World.cell?_setCell_other _ _ _ _ n01]; exact d1)
  · exact World.cell?_setCell_same _ _ _ (u := c2) (by rw [World.cell?_setCell_other _ _ _ _ n12, World.cell?_setCell_other _ _ _ _ n02]; exact d2)
end
/-- make([]api.Frac, n). -/
theorem make_fr {P : Program} (t e : TypeId) (i : TypeInfo) (h1 : P.underlying t = some (.slice e)) (h2 : P.info? e = some i) (h3 : i.zero = some (.agg #[.bool false, .slice none 0 0, .slice none 0 0])) (h4 : i.size = 3) (h5 : i.bytes ≤ 64)
    (w : World) {ops : Array Oper} {rest : List Oper} {o : Oper} {a : Act} {Q : Exit → Act → World → Prop} (hg : o.guard = none) (l c : Operand) (hop : o.op = Op.makeSlice t l c)
    (B : Nat) (u : Int) (n : Nat) (hu : u = n) (hl : a.eval l = .int .i64 u) (hc : a.eval c = .int .i64 u) (b2 : n ≤ 4398046511104) (b4 : B ≤ w.heap.size)
    (hK : ∀ v w', OwnFr w' e B v n → Below w.heap.size w w' → w.heap.size ≤ (base v).block → wpList P ops Q rest (a.put o.dst v) w') :
    wpList P ops Q (o :: rest) a w := by
  subst hu
  refine wpList_make_full w hg l c t hop B e i _ 3 h1 h2 h3 h4 .i64 .i64 n n n hl hc rfl rfl (Nat.le_trans (Nat.mul_le_mul_right _ h5) (by omega)) (by unfold maxLen; omega) b4 ?_
  intro w' hown hgr
  refine hK _ w' ⟨_, _, rfl, hown, fun x hx z => ?_⟩ (below_of_grown hgr (Nat.le_refl _) (fun k hk => by cases hk)) (by simp [base])
  have hx2 : x ∈ (madeCells #[Value.bool false, .slice none 0 0, .slice none 0 0] (n * 3)).toList := hx
  unfold madeCells at hx2
  simp only [Array.toList_map, List.mem_map, Array.mem_toList_iff] at hx2
  obtain ⟨k, hk, rfl⟩ := hx2
  have h7 : k % 3 < 3 := Nat.mod_lt _ (by decide)
  have h8 : (#[Value.bool false, .slice none 0 0, .slice none 0 0] : Array Value).size = 3 := rfl
  rw [h8]
  rcases (show k % 3 = 0 ∨ k % 3 = 1 ∨ k % 3 = 2 by omega) with h9 | h9 | h9 <;> rw [h9] <;> simp
end Go.Proofs.YtlpdkbmmbdfoiaaGreat
namespace Go.Proofs.YtlpdkbmmbdfoiaaGreat
set_option linter.unusedVariables false
set_option linter.unusedSimpArgs false
open Go.RowKit

theorem fits_zero : fits 0 := by decide
theorem fits_one : fits 1 := by decide
/-- A fraction with OK. -/
def RF0 (w0 : World) (q : Rat) (e : Ending) (w : World) : Prop := ∃ v, e = .returned (.tuple #[v, .int .i64 0]) ∧ FracC w v q ∧ Below w0.heap.size w0 w
/-- A fraction. -/
def RF1 (w0 : World) (q : Rat) (e : Ending) (w : World) : Prop := ∃ v, e = .returned v ∧ FracC w v q ∧ Below w0.heap.size w0 w
theorem RFrac.ok {w0 : World} {q q' : Rat} {e : Ending} {w : World} (h : RFrac w0 q e w) (hq : q = q') (hf : fits q') : RF0 w0 q' e w := by
  subst hq
  obtain ⟨v, er, rfl, h1, h2, _⟩ := h
  obtain ⟨rfl, h3⟩ := h2 hf
  exact ⟨v, rfl, h3, h1⟩
theorem make_01 (w : World) : Calls Tryz.prog 67 #[.int .i64 0, .int .i64 1] w (RF0 w 0) :=
  (make_frac 0 1 w (by decide) (by decide) (by decide) (by decide) (by decide)).mono fun _ _ h => h.ok (by decide) fits_zero
theorem make_11 (w : World) : Calls Tryz.prog 67 #[.int .i64 1, .int .i64 1] w (RF0 w 1) :=
  (make_frac 1 1 w (by decide) (by decide) (by decide) (by decide) (by decide)).mono fun _ _ h => h.ok (by decide) fits_one
theorem results_cell {fn : Func} {p : Tmp} {ty : TypeId} (h : fn.results = #[.cell p ty]) (tmps : Array Value) (P : Program) (w : World) :
    (results fn tmps).run P w = ((asAddr (tmps.getD p undef)).run P w).andThen fun a w => (loadVar ty a).run P w := by
  simp [results, h]
theorem bodyPost_c1 {P : Program} {fn : Func} {R : Ending → World → Prop} {a : Act} {w : World} {p : Tmp} {ty : TypeId} {b : Nat} {v0 v1 v2 : Value} (h : fn.results = #[.cell p ty])
    (hp : a.tmps.getD p undef = .pointer (some ⟨b, 0, none⟩)) (hagg : ∀ w, (isAgg ty).run P w = .ok true w) (hs : ∀ w, (sizeOf ty).run P w = .ok 3 w) (hc : C3 w b v0 v1 v2) (hd : a.defers = [])
    (hR : R (.returned (.agg #[v0, v1, v2])) w) : bodyPost P fn R .ret a w := by
  refine bodyPost_ret ?_ hd hR
  rw [results_cell h, hp]
  simp only [asAddr, Sem.run_pure, Result.andThen_ok, load_c3 hagg hs hc]
theorem Tryz.infoF : (Tryz.prog.info? 38).map (fun i => (i.zero, i.size, i.bytes)) = some (some (.agg #[.bool false, .slice none 0 0, .slice none 0 0]), 3, 56) := by kernel_rfl
theorem below_then2 {w w1 w2 : World} {B : Nat} (h : Below B w w1) (h' : Below w1.heap.size w1 w2) (hB : B ≤ w1.heap.size := by exact h.size) : Below B w w2 := h.trans (h'.mono hB)
theorem OwnFr.fracs {w : World} {e : TypeId} {B n : Nat} {v : Value} (h : OwnFr w e B v n) {l : List Rat} (hl : l.length = n) (he : ∀ j (hj : j < l.length), ElemC w v j l[j]) : FracsC w v l :=
  ⟨h.sl, by rw [h.len, hl], he⟩
theorem Tryz.infoRow : (Tryz.prog.info? 25).map (fun i => (i.zero, i.size, i.bytes)) = some (some (.slice none 0 0), 1, 24) := by kernel_rfl
theorem Tryz.infoBool : (Tryz.prog.info? 4).map (fun i => (i.zero, i.size, i.bytes)) = some (some (.bool false), 1, 1) := by kernel_rfl
theorem Tryz.infoInt : (Tryz.prog.info? 3).map (fun i => (i.zero, i.size, i.bytes)) = some (some (.int .i64 0), 1, 8) := by kernel_rfl
theorem C3.other {w : World} {b : Nat} {v0 v1 v2 : Value} (h : C3 w b v0 v1 v2) (p : Addr) (u : Value) (hp : p.block ≠ b) : C3 (w.setCell p u) b v0 v1 v2 := by
  obtain ⟨lt, c0, c1, c2, f0, f1, f2⟩ := h
  have hne : ∀ k, p ≠ ⟨b, k, none⟩ := fun k e => hp (by rw [e])
  have hf : ∀ q, (w.setCell p u).frozen? q = w.frozen? q := fun q => by simp
  exact ⟨by simpa [World.setCell] using lt, by rw [World.cell?_setCell_other _ _ _ _ (hne _)]; exact c0, by rw [World.cell?_setCell_other _ _ _ _ (hne _)]; exact c1, by rw [World.cell?_setCell_other _ _ _ _ (hne _)]; exact c2,
    by rw [hf]; exact f0, by rw [hf]; exact f1, by rw [hf]; exact f2⟩
theorem C3.set0 {w : World} {b : Nat} {v0 v1 v2 : Value} (h : C3 w b v0 v1 v2) (u : Value) : C3 (w.setCell ⟨b, 0, none⟩ u) b u v1 v2 := by
  obtain ⟨lt, c0, c1, c2, f0, f1, f2⟩ := h
  refine ⟨by simpa [World.setCell] using lt, ?_, ?_, ?_, ?_, ?_, ?_⟩ <;> go_simp
theorem C3.set1 {w : World} {b : Nat} {v0 v1 v2 : Value} (h : C3 w b v0 v1 v2) (u : Value) : C3 (w.setCell ⟨b, 1, none⟩ u) b v0 u v2 := by
  obtain ⟨lt, c0, c1, c2, f0, f1, f2⟩ := h
  refine ⟨by simpa [World.setCell] using lt, ?_, ?_, ?_, ?_, ?_, ?_⟩ <;> go_simp
theorem C3.set2 {w : World} {b : Nat} {v0 v1 v2 : Value} (h : C3 w b v0 v1 v2) (u : Value) : C3 (w.setCell ⟨b, 2, none⟩ u) b v0 v1 u := by
  obtain ⟨lt, c0, c1, c2, f0, f1, f2⟩ := h
  refine ⟨by simpa [World.setCell] using lt, ?_, ?_, ?_, ?_, ?_, ?_⟩ <;> go_simp
theorem sizeD (w : World) : w.drew.heap.size = w.heap.size := rfl
theorem sizeA (w : World) (o : Obj) : (w.alloc o).heap.size = w.heap.size + 1 := by simp
theorem C3.newB {b : Nat} (w : World) (t : TypeId) (v0 v1 v2 : Value) (hb : w.heap.size = b) : C3 (w.alloc (.cells #[v0, v1, v2] t)) b v0 v1 v2 := by subst hb; exact C3.new w t v0 v1 v2
theorem C3.grownB {w w' : World} {b : Nat} {v0 v1 v2 : Value} {r : Option Nat} (h : C3 w b v0 v1 v2) (hg : w.grownBy w' r) (hr : r ≠ some b) : C3 w' b v0 v1 v2 := by
  have e := hg.block b h.lt (fun h => hr h.symm)
  obtain ⟨lt, c0, c1, c2, f0, f1, f2⟩ := h
  have hc : ∀ k, w'.cell? ⟨b, k, none⟩ = w.cell? ⟨b, k, none⟩ := fun k => by simp [World.cell?, e]
  have hf : ∀ k, w'.frozen? ⟨b, k, none⟩ = w.frozen? ⟨b, k, none⟩ := fun k => by simp [World.frozen?, e]
  exact ⟨Nat.lt_of_lt_of_le lt hg.size, by rw [hc]; exact c0, by rw [hc]; exact c1, by rw [hc]; exact c2, by rw [hf]; exact f0, by rw [hf]; exact f1, by rw [hf]; exact f2⟩
end Go.Proofs.YtlpdkbmmbdfoiaaGreat
