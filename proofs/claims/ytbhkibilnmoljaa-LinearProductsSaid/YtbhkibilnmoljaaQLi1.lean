/-
  package linear: number, zero, keep.
  Ahead of it: package fraction: Sub; Sub, Mul, Quo of canonical fractions whose result is not large. A table under elimination in memory: rows of fractions that a call made, the slice of the rows, the table's own variable. No code is walked here.
-/
import Derived.Test.YtbhkibilnmoljaaQEl1
import Derived.Test.YtbhkibilnmoljaaQFr5
import Derived.Test.YtbhkibilnmoljaaQGn
import Derived.Test.YtbhkibilnmoljaaQRow
namespace Go.Proofs.Ytbhkibilnmoljaa
set_option linter.unusedVariables false
set_option linter.unusedSimpArgs false
open Go.RowKit

set_option maxRecDepth 100000 in
set_option maxHeartbeats 1600000 in
theorem sub_frac (va vb : Value) (s t : Bool) (n d m e : Nat) (w : World) (ha : FracN w va s n d) (hb : FracN w vb t m e) (h1 : okN n d) (h2 : okN m e) :
    Calls Try.prog 84 #[va, vb] w (RFrac w (fq s n d - fq t m e)) := by
  have hA := ha
  have hB := hb
  obtain ⟨xn, xd, rfl, hxn, hxd⟩ := ha
  obtain ⟨yn, yd, rfl, hyn, hyd⟩ := hb
  obtain ⟨an, ln, kn, rfl, _⟩ := hxn.slen.1
  obtain ⟨ad, ld, kd, rfl, _⟩ := hxd.slen.1
  obtain ⟨am, lm, km, rfl, _⟩ := hyn.slen.1
  obtain ⟨ae, le, ke, rfl, _⟩ := hyd.slen.1
  have HQ := Lib.hid (fq_sub s t n d m e h2.1)
  have K1 := Lib.hid h1
  have K2 := Lib.hid h2
  clear h1 h2 hxn hxd hyn hyd
  go_enter Try.func84, Try.ntmps84
  go_wp2_with fail
  obtain ⟨W, hW⟩ : ∃ W, W = (((w.alloc (.cells #[.bool s, .slice an ln kn, .slice ad ld kd] 30)).alloc (.cells #[.bool t, .slice am lm km, .slice ae le ke] 30)).alloc (.cells #[.bool false, .slice none 0 0, .slice none 0 0] 30)) := ⟨_, rfl⟩
  obtain ⟨bx, byy, bz, hbw⟩ := three_boxes w 30 _ _ _ _ _ _ _ _ _ W hW
  rw [← hW]
  clear hW
  have hd2 := below_drew (B := W.heap.size) W
  have hD := hbw.trans (hd2.mono hbw.size)
  have hbx3 := bx.belowS hd2
  have hby3 := byy.belowS hd2
  have hbz3 := bz.belowS hd2
  have HX3 := Lib.hid hbx3
  have HY3 := Lib.hid hby3
  have HZ3 := Lib.hid hbz3
  have gA := hA.below hD
  have gB := hB.below hD
  clear bx byy bz hbw hA hB hd2
  obtain ⟨_, q1, q2, q3, q4, q5, q6⟩ := hbx3
  obtain ⟨_, r1, r2, r3, r4, r5, r6⟩ := hby3
  obtain ⟨_, z1, z2, z3, z4, z5, z6⟩ := hbz3
  go_region_held3 (fun w' => w'.cell? ⟨w.heap.size, 0, none⟩ = some (.bool s) ∧ w'.cell? ⟨w.heap.size, 1, none⟩ = some (.slice an ln kn) ∧ w'.cell? ⟨w.heap.size, 2, none⟩ = some (.slice ad ld kd) ∧ w'.cell? ⟨w.heap.size + 1, 0, none⟩ = some (.bool t) ∧ w'.cell? ⟨w.heap.size + 1, 1, none⟩ = some (.slice am lm km) ∧ w'.cell? ⟨w.heap.size + 1, 2, none⟩ = some (.slice ae le ke)) (first | with_reducible exact ⟨q1, q2, q3, r1, r2, r3⟩ | (refine ⟨?_, ?_, ?_, ?_, ?_, ?_⟩ <;> go_simp)) (first
    | (go_at_call 95; (with_reducible refine (fminus_any _ t m e _ gB).mono ?_); rintro e9 w3 ⟨v3, rfl, hv3, hb3⟩
       have gA3 := gA.below hb3
       have X4 := HX3.out.belowS hb3
       have Y4 := HY3.out.belowS hb3
       have HX4 := Lib.hid X4
       have HY4 := Lib.hid Y4
       obtain ⟨_, q1, q2, q3, q4, q5, q6⟩ := X4
       obtain ⟨_, r1, r2, r3, r4, r5, r6⟩ := Y4)
    | (go_at_call 91; (with_reducible refine (add_frac _ _ s (!t) n d m e _ gA3 hv3 K1.out K2.out).mono ?_); rintro e9 w5 ⟨v, er, rfl, hv1, hv2, hv4⟩
       obtain ⟨t9, x9, y9, rfl, ⟨a1, l91, k1, rfl, _⟩, ⟨a2, l92, k2, rfl, _⟩⟩ := rfrac_isF (w0 := w) hv2 hv4
       have hp26 := below_then hb3 hv1
       have X6 := HX4.out.belowS hv1
       have Y6 := HY4.out.belowS hv1
       have Z6 := HZ3.out.belowS hp26
       have HZ6 := Lib.hid Z6
       obtain ⟨_, q1, q2, q3, q4, q5, q6⟩ := X6
       obtain ⟨_, r1, r2, r3, r4, r5, r6⟩ := Y6
       obtain ⟨_, z1, z2, z3, z4, z5, z6⟩ := Z6))
  all_goals
    go_wp2_with fail
    refine bodyPost_c3 rfl rfl Try.aggF Try.sizeF (HZ6.out.set _ _ _) rfl ?_
    rw [HQ.out]
    exact ⟨_, _, rfl, below_set3 (hD.trans (hp26.mono hD.size)) (by omega) _ _ _, fun h => ⟨(hv2 h).1, (hv2 h).2.set3 HZ6.out (fun z => by simp) (fun z => by simp) _ _ _⟩, hv4⟩
theorem sub_can (va vb : Value) (p q : Rat) (w : World) (ha : FracC w va p) (hb : FracC w vb q) (hp : fits p) (hq : fits q) (hr : fits (p - q)) : Calls Try.prog 84 #[va, vb] w (RF0 w (p - q)) := by
  have := sub_frac va vb _ _ _ _ _ _ w ha.raw hb.raw (fits_okN hp) (fits_okN hq)
  rw [fq_self, fq_self] at this
  exact this.mono fun _ _ h => h.ok rfl hr
theorem mul_can (va vb : Value) (p q : Rat) (w : World) (ha : FracC w va p) (hb : FracC w vb q) (hp : fits p) (hq : fits q) (hr : fits (p * q)) : Calls Try.prog 78 #[va, vb] w (RF0 w (p * q)) := by
  have := mul_frac va vb _ _ _ _ _ _ w ha.raw hb.raw (fits_okN hp) (fits_okN hq)
  rw [fq_self, fq_self] at this
  exact this.mono fun _ _ h => h.ok rfl hr
theorem add_can (va vb : Value) (p q : Rat) (w : World) (ha : FracC w va p) (hb : FracC w vb q) (hp : fits p) (hq : fits q) (hr : fits (p + q)) : Calls Try.prog 91 #[va, vb] w (RF0 w (p + q)) := by
  have := add_frac va vb _ _ _ _ _ _ w ha.raw hb.raw (fits_okN hp) (fits_okN hq)
  rw [fq_self, fq_self] at this
  exact this.mono fun _ _ h => h.ok rfl hr
theorem quo_can (va vb : Value) (p q : Rat) (w : World) (ha : FracC w va p) (hb : FracC w vb q) (hp : fits p) (hq : fits q) (hq0 : q ≠ 0) (hr : fits (p / q)) : Calls Try.prog 68 #[va, vb] w (RF0 w (p / q)) := by
  have := quo_frac va vb _ _ _ _ _ _ w ha.raw hb.raw (fits_okN hp) (fits_okN hq) (fun h => hq0 (Rat.num_eq_zero.1 (by omega)))
  rw [fq_self, fq_self] at this
  exact this.mono fun _ _ h => h.ok rfl hr
end Go.Proofs.Ytbhkibilnmoljaa
namespace Go.Proofs.Ytbhkibilnmoljaa
set_option linter.unusedVariables false
set_option linter.unusedSimpArgs false
open Go.RowKit

section
variable {w : World} {e : TypeId} {B size n : Nat} {v : Value} {xs : List Value}
theorem OwnR.set1 (h : OwnR w e B size v n xs) (j : Nat) (hj : j < xs.length) (u : Value) (hu : ∀ z, u ≠ .int .u32 z) :
    OwnR (w.setCell (ptr v j) u) e B size v n (xs.set j u) ∧ w.grownBy (w.setCell (ptr v j) u) v.ownBlock := by
  have hl := h.own.1
  rcases h.own.2 with ⟨rfl, h0⟩ | ⟨g, cap, cur, rfl, hb, hg, hn, hm, hs, ht⟩
  · rw [h0] at hl; omega
  · have hp : ptr (.slice (some ⟨g, 0, none⟩) n cap) j = ⟨g, j, none⟩ := by simp only [ptr, base, Addr.add_lit, Nat.zero_add]
    have hst := World.ownsRow.stored h.own j u
    rw [hp]
    refine ⟨⟨hst.1, ?_⟩, hst.2⟩
    intro g' hg' cur' e' fz hc c hcc
    simp only [Value.ownBlock, Option.some.injEq] at hg'
    subst hg'
    rw [heap_setCell_same w g j cur e u hg] at hc
    injection hc with hc
    injection hc with hc _ _
    subst hc
    rw [Array.toList_setIfInBounds] at hcc
    rcases List.mem_or_eq_of_mem_set hcc with h' | h'
    · exact h.nl g rfl cur e _ hg c h'
    · subst h'; exact hu
theorem OwnR.frozen (h : OwnR w e B size v n xs) (j : Nat) (hj : j < xs.length) : w.frozen? (ptr v j) = false := by
  have hl := h.own.1
  obtain ⟨ho, _⟩ := h
  rcases ho.2 with ⟨rfl, h0⟩ | ⟨g, cap, cur, rfl, hb, hg, hn, hm, hs, ht⟩
  · rw [h0] at hl; omega
  · have := World.ownsRow.frozenAt ho j
    simpa only [ptr, base, Addr.add_lit, Nat.zero_add] using this
theorem OwnR.blk (h : OwnR w e B size v n xs) (hx : 0 < xs.length) : ∃ g, v.ownBlock = some g ∧ (base v).block = g ∧ B ≤ g ∧ g < w.heap.size ∧ ∀ j, ptr v j = ⟨g, j, none⟩ := by
  have hl := h.own.1
  have hbl := h.block
  rcases h.own.2 with ⟨rfl, h0⟩ | ⟨g, cap, cur, rfl, hb, hg, hn, hm, hs, ht⟩
  · rw [h0] at hl; omega
  · exact ⟨g, rfl, rfl, (hbl g rfl).1, (hbl g rfl).2, fun j => by simp only [ptr, base, Addr.add_lit, Nat.zero_add]⟩
end
theorem grown_trans {a b c : World} {r : Option Nat} (h : a.grownBy b r) (k : b.grownBy c r) : a.grownBy c r := grownBy_trans h k
section
variable {w : World} {e : TypeId} {B : Nat} {v : Value} {q : List Rat}
theorem FrRow.frozen (h : FrRow w e B v q) (k : Nat) (hk : k < q.length * 3) : w.frozen? (ptr v k) = false := by
  obtain ⟨xs, h1, _⟩ := h
  exact h1.frozen k (by rw [h1.clen]; exact hk)
theorem FrRow.blk (h : FrRow w e B v q) (hq : 0 < q.length) : ∃ g, v.ownBlock = some g ∧ (base v).block = g ∧ B ≤ g ∧ g < w.heap.size ∧ ∀ j, ptr v j = ⟨g, j, none⟩ := by
  obtain ⟨xs, h1, _⟩ := h
  exact h1.blk (by rw [h1.clen]; omega)
theorem FrRow.inj (h : FrRow w e B v q) (hq : 0 < q.length) {i j : Nat} (hij : i ≠ j) : ptr v i ≠ ptr v j := by
  obtain ⟨g, _, _, _, _, hp⟩ := h.blk hq
  rw [hp, hp]
  intro h; injection h with h1 h2; exact hij h2
theorem FrRow.noLimb (h : FrRow w e B v q) : NoLimb w v := by obtain ⟨xs, h1, _⟩ := h; exact h1.nl
/-- A fraction is stored into an own row. -/
theorem FrRow.put (h : FrRow w e B v q) {i : Nat} (hi : i < q.length) {x y z : Value} {r : Rat} (hf : FracC w (.agg #[x, y, z]) r) :
    FrRow (((w.setCell (ptr v (i * 3)) x).setCell (ptr v (i * 3 + 1)) y).setCell (ptr v (i * 3 + 2)) z) e B v (q.set i r) ∧
      w.grownBy (((w.setCell (ptr v (i * 3)) x).setCell (ptr v (i * 3 + 1)) y).setCell (ptr v (i * 3 + 2)) z) v.ownBlock := by
  obtain ⟨xs, h1, h2⟩ := h
  obtain ⟨a, b, ha, h4, h5⟩ := id hf
  injection ha with ha
  injection ha with ha
  simp only [List.cons.injEq, and_true] at ha
  obtain ⟨rfl, rfl, rfl⟩ := ha
  have hl := h1.clen
  have ny : ∀ k, y ≠ .int .u32 k := fun k => by obtain ⟨a1, n1, c1, e1, _⟩ := h4.v.sl; subst e1; simp
  have nz : ∀ k, z ≠ .int .u32 k := fun k => by obtain ⟨a1, n1, c1, e1, _⟩ := h5.v.sl; subst e1; simp
  obtain ⟨s1, g1⟩ := h1.set1 (i * 3) (by omega) (.bool (decide (r < 0))) (fun k => by simp)
  obtain ⟨s2, g2⟩ := s1.set1 (i * 3 + 1) (by rw [List.length_set]; omega) y ny
  obtain ⟨s3, g3⟩ := s2.set1 (i * 3 + 2) (by rw [List.length_set, List.length_set]; omega) z nz
  have gg := grown_trans (grown_trans g1 g2) g3
  refine ⟨⟨_, by rw [List.length_set]; exact s3, fun j hj => ?_⟩, gg⟩
  rw [List.length_set] at hj
  by_cases hij : i = j
  · subst hij
    refine ⟨y, z, ?_, ?_, ?_, ?_, ?_⟩
    · rw [List.getElem?_set_ne (by omega), List.getElem?_set_ne (by omega), List.getElem?_set_self (by omega), List.getElem_set_self]
    · rw [List.getElem?_set_ne (by omega), List.getElem?_set_self (by rw [List.length_set]; omega)]
    · rw [List.getElem?_set_self (by rw [List.length_set, List.length_set]; omega)]
    · rw [List.getElem_set_self]; exact h4.grown gg h1.nl
    · rw [List.getElem_set_self]; exact h5.grown gg h1.nl
  · obtain ⟨a, b, e1, e2, e3, e4, e5⟩ := h2 j hj
    rw [List.getElem_set_ne hij]
    refine ⟨a, b, ?_, ?_, ?_, e4.grown gg h1.nl, e5.grown gg h1.nl⟩
    · rw [List.getElem?_set_ne (by omega), List.getElem?_set_ne (by omega), List.getElem?_set_ne (by omega)]; exact e1
    · rw [List.getElem?_set_ne (by omega), List.getElem?_set_ne (by omega), List.getElem?_set_ne (by omega)]; exact e2
    · rw [List.getElem?_set_ne (by omega), List.getElem?_set_ne (by omega), List.getElem?_set_ne (by omega)]; exact e3
end
/-- The block T is a variable with these cells. -/
def VarB (w : World) (T : Nat) (cs : Array Value) : Prop := ∃ ty, w.heap[T]? = some (.cells cs ty (0, 0))
section
variable {w w' : World} {T : Nat} {cs : Array Value}
theorem VarB.new (w : World) (cs : Array Value) (ty : TypeId) : VarB (w.alloc (.cells cs ty)) w.heap.size cs := ⟨ty, heap_alloc_new w _⟩
theorem VarB.lt (h : VarB w T cs) : T < w.heap.size := by obtain ⟨ty, h⟩ := h; exact (Array.getElem?_eq_some_iff.1 h).1
theorem VarB.cell (h : VarB w T cs) (j : Nat) {u : Value} (hu : cs[j]? = some u) : w.cell? ⟨T, j, none⟩ = some u := by
  obtain ⟨ty, h⟩ := h
  simp [World.cell?, h, hu]
theorem VarB.frozen (h : VarB w T cs) (j : Nat) : w.frozen? ⟨T, j, none⟩ = false := by
  obtain ⟨ty, h⟩ := h
  simp [World.frozen?, h]
theorem VarB.set (h : VarB w T cs) (j : Nat) (u : Value) : VarB (w.setCell ⟨T, j, none⟩ u) T (cs.setIfInBounds j u) := by
  obtain ⟨ty, h⟩ := h
  exact ⟨ty, heap_setCell_same w T j cs ty u h⟩
theorem VarB.other (h : VarB w T cs) (p : Addr) (hp : p.block ≠ T) (u : Value) : VarB (w.setCell p u) T cs := by
  obtain ⟨ty, h⟩ := h
  exact ⟨ty, by rw [Below.heap_setCell _ _ _ _ (fun e => hp e.symm)]; exact h⟩
theorem VarB.below (h : VarB w T cs) (hb : Below w.heap.size w w') : VarB w' T cs := by
  have hlt := h.lt
  obtain ⟨ty, h⟩ := h
  exact ⟨ty, by rw [hb.block T hlt]; exact h⟩
theorem VarB.belowB {B : Nat} (h : VarB w T cs) (hb : Below B w w') (hT : T < B) : VarB w' T cs := by
  obtain ⟨ty, h⟩ := h
  exact ⟨ty, by rw [hb.block T hT]; exact h⟩
theorem VarB.grown {r : Option Nat} (h : VarB w T cs) (hg : w.grownBy w' r) (hr : r ≠ some T) : VarB w' T cs := by
  have hlt := h.lt
  obtain ⟨ty, h⟩ := h
  exact ⟨ty, by rw [hg.block T hlt hr.symm]; exact h⟩
end
/-- A row of m elements, by index. -/
def rowL (m : Nat) (f : Nat → Rat) : List Rat := (List.range m).map f
theorem rowL_length (m : Nat) (f : Nat → Rat) : (rowL m f).length = m := by simp [rowL]
theorem rowL_get (m : Nat) (f : Nat → Rat) (j : Nat) (h : j < (rowL m f).length) : (rowL m f)[j] = f j := by simp [rowL]
theorem rowL_congr {m : Nat} {f g : Nat → Rat} (h : ∀ j, j < m → f j = g j) : rowL m f = rowL m g :=
  List.map_congr_left fun j hj => h j (List.mem_range.1 hj)
theorem rowL_of (q : List Rat) : rowL q.length (fun j => q.getD j 0) = q := by
  refine List.ext_getElem (by rw [rowL_length]) fun j h1 h2 => ?_
  rw [rowL_get, List.getD_eq_getElem?_getD, List.getElem?_eq_getElem h2]; rfl
theorem rowL_set (m : Nat) (f : Nat → Rat) (i : Nat) (r : Rat) : (rowL m f).set i r = rowL m (fun j => if j = i then r else f j) := by
  refine List.ext_getElem (by rw [List.length_set, rowL_length, rowL_length]) fun j h1 h2 => ?_
  rw [rowL_get]
  by_cases h : j = i
  · subst h; rw [List.getElem_set_self, if_pos rfl]
  · rw [List.getElem_set_ne (fun e => h e.symm), if_neg h, rowL_get]
/-- One element is changed. -/
def upd (A : Mx) (i j : Nat) (r : Rat) : Mx := fun a b => if a = i ∧ b = j then r else A a b
/-- The table: its variable T, the slice of its rows, its rows, its numbers. -/
structure TabW (w : World) (T : Nat) (vR : Value) (rs : List Value) (n m : Nat) (A : Mx) (wd rk : Nat) (d : Rat) : Prop where
  box : ∃ a b, VarB w T #[vR, .int .i64 wd, .int .i64 rk, .bool (decide (d < 0)), a, b, .int .i64 0] ∧ NatC w a d.num.natAbs ∧ NatC w b d.den
  own : OwnR w 26 (T + 1) 1 vR rs.length rs
  rl : rs.length = n
  mp : 0 < m
  row : ∀ (i : Nat) (h : i < rs.length), FrRow w 30 (T + 1) rs[i] (rowL m (A i))
  ap : ∀ (i j : Nat) (hi : i < rs.length) (hj : j < rs.length), i ≠ j → rs[i].ownBlock ≠ rs[j].ownBlock
section
variable {w w' : World} {T n m wd rk : Nat} {vR : Value} {rs : List Value} {A : Mx} {d : Rat}
theorem TabW.lt (h : TabW w T vR rs n m A wd rk d) : T < w.heap.size := by obtain ⟨a, b, hb, _⟩ := h.box; exact hb.lt
theorem TabW.below (h : TabW w T vR rs n m A wd rk d) (hb : Below w.heap.size w w') : TabW w' T vR rs n m A wd rk d := by
  obtain ⟨a, b, h1, h2, h3⟩ := h.box
  exact ⟨⟨a, b, h1.below hb, h2.below hb, h3.below hb⟩, h.own.below hb, h.rl, h.mp, fun i hi => (h.row i hi).moves (Moves.below (B := T + 1) hb) (Nat.le_refl _), h.ap⟩
theorem TabW.congr {A' : Mx} (h : TabW w T vR rs n m A wd rk d) (hA : ∀ i j, i < n → j < m → A i j = A' i j) : TabW w T vR rs n m A' wd rk d :=
  ⟨h.box, h.own, h.rl, h.mp, fun i hi => by rw [← rowL_congr (fun j hj => hA i j (by rw [← h.rl]; exact hi) hj)]; exact h.row i hi, h.ap⟩
/-- Row i's element j. -/
theorem TabW.elem (h : TabW w T vR rs n m A wd rk d) {i j : Nat} (hi : i < rs.length) (hj : j < m) :
    ∃ a b, w.cell? (ptr rs[i] (j * 3)) = some (.bool (decide (A i j < 0))) ∧ w.cell? (ptr rs[i] (j * 3 + 1)) = some a ∧ w.cell? (ptr rs[i] (j * 3 + 2)) = some b ∧ NatC w a (A i j).num.natAbs ∧ NatC w b (A i j).den := by
  obtain ⟨a, b, h1, h2, h3, h4, h5⟩ := (h.row i hi).fracs.at' j (by rw [rowL_length]; exact hj)
  rw [rowL_get] at h1 h4 h5
  exact ⟨a, b, h1, h2, h3, h4, h5⟩
theorem TabW.put (h : TabW w T vR rs n m A wd rk d) {i j : Nat} (hi : i < rs.length) (hj : j < m) {x y z : Value} {r : Rat} (hf : FracC w (.agg #[x, y, z]) r) :
    TabW (((w.setCell (ptr rs[i] (j * 3)) x).setCell (ptr rs[i] (j * 3 + 1)) y).setCell (ptr rs[i] (j * 3 + 2)) z) T vR rs n m (upd A i j r) wd rk d ∧
      Below T w (((w.setCell (ptr rs[i] (j * 3)) x).setCell (ptr rs[i] (j * 3 + 1)) y).setCell (ptr rs[i] (j * 3 + 2)) z) := by
  have hT := h.lt
  obtain ⟨⟨a, b, h1, h2, h3⟩, own, rl, mp, row, ap⟩ := h
  have hr := row i hi
  obtain ⟨hp, gg⟩ := hr.put (i := j) (by rw [rowL_length]; exact hj) hf
  have hnl := hr.noLimb
  obtain ⟨g, hg, _, hgT, hgw, _⟩ := hr.blk (by rw [rowL_length]; exact mp)
  have hgT' : rs[i].ownBlock ≠ some T := by rw [hg]; intro e; injection e with e; omega
  obtain ⟨ys, y1, y2⟩ := id hr
  refine ⟨⟨⟨a, b, h1.grown gg hgT', h2.grown gg hnl, h3.grown gg hnl⟩, own.grown gg (own.kinds y1 (by decide)), rl, mp, fun k hk => ?_, ap⟩, below_of_grown gg (by omega) (fun k hk => by rw [hg] at hk; injection hk with hk; omega)⟩
  by_cases hki : k = i
  · subst hki
    rw [rowL_set] at hp
    have e : rowL m (upd A k j r k) = rowL m (fun b => if b = j then r else A k b) := rowL_congr fun b _ => by
      unfold upd
      by_cases hb : b = j
      · rw [if_pos ⟨rfl, hb⟩, if_pos hb]
      · rw [if_neg (fun h => hb h.2), if_neg hb]
    rw [e]; exact hp
  · have e : rowL m (upd A i j r k) = rowL m (A k) := rowL_congr fun b _ => by unfold upd; rw [if_neg (fun h => hki h.1)]
    rw [e]
    exact (row k hk).grown gg hnl (Or.inr (ap k i hk hi hki))
theorem TabW.setDet (h : TabW w T vR rs n m A wd rk d) {x y z : Value} {r : Rat} (hf : FracC w (.agg #[x, y, z]) r) :
    TabW (((w.setCell ⟨T, 3, none⟩ x).setCell ⟨T, 4, none⟩ y).setCell ⟨T, 5, none⟩ z) T vR rs n m A wd rk r ∧ Below T w (((w.setCell ⟨T, 3, none⟩ x).setCell ⟨T, 4, none⟩ y).setCell ⟨T, 5, none⟩ z) := by
  obtain ⟨⟨a, b, h1, h2, h3⟩, own, rl, mp, row, ap⟩ := h
  obtain ⟨p, q, ha, h4, h5⟩ := id hf
  injection ha with ha
  injection ha with ha
  simp only [List.cons.injEq, and_true] at ha
  obtain ⟨rfl, rfl, rfl⟩ := ha
  obtain ⟨a1, a2, a3, rfl, _⟩ := h2.v.sl
  obtain ⟨b1, b2, b3, rfl, _⟩ := h3.v.sl
  have s1 := h1.set 3 (.bool (decide (r < 0)))
  have s2 := s1.set 4 y
  have s3 := s2.set 5 z
  have m1 := Moves.set (B := T + 1) (p := ⟨T, 3, none⟩) (Nat.lt_succ_self T) (h1.cell 3 rfl) (fun z => by simp) (.bool (decide (r < 0)))
  have m2 := Moves.set (B := T + 1) (p := ⟨T, 4, none⟩) (Nat.lt_succ_self T) (s1.cell 4 rfl) (fun z => by simp) y
  have m3 := Moves.set (B := T + 1) (p := ⟨T, 5, none⟩) (Nat.lt_succ_self T) (s2.cell 5 rfl) (fun z => by simp) z
  have mm := (m1.trans m2).trans m3
  exact ⟨⟨⟨y, z, s3, h4.moves mm, h5.moves mm⟩, own.moves mm (Nat.le_refl _), rl, mp, fun i hi => (row i hi).moves mm (Nat.le_refl _), ap⟩,
    (((Below.refl T w).setCell (p := ⟨T, 3, none⟩) (Nat.le_refl _) _).setCell (p := ⟨T, 4, none⟩) (Nat.le_refl _) _).setCell (p := ⟨T, 5, none⟩) (Nat.le_refl _) _⟩
theorem TabW.setRank (h : TabW w T vR rs n m A wd rk d) (k : Nat) :
    TabW (w.setCell ⟨T, 2, none⟩ (.int .i64 k)) T vR rs n m A wd k d ∧ Below T w (w.setCell ⟨T, 2, none⟩ (.int .i64 k)) := by
  obtain ⟨⟨a, b, h1, h2, h3⟩, own, rl, mp, row, ap⟩ := h
  have mm := Moves.set (B := T + 1) (p := ⟨T, 2, none⟩) (Nat.lt_succ_self T) (h1.cell 2 rfl) (fun z => by simp) (.int .i64 k)
  exact ⟨⟨⟨a, b, h1.set 2 (.int .i64 k), h2.moves mm, h3.moves mm⟩, own.moves mm (Nat.le_refl _), rl, mp, fun i hi => (row i hi).moves mm (Nat.le_refl _), ap⟩,
    (Below.refl T w).setCell (p := ⟨T, 2, none⟩) (Nat.le_refl _) _⟩
/-- Two rows change places. -/
theorem TabW.swap (h : TabW w T vR rs n m A wd rk d) {i j : Nat} (hi : i < rs.length) (hj : j < rs.length) (hij : i ≠ j) :
    TabW ((w.setCell (ptr vR i) rs[j]).setCell (ptr vR j) rs[i]) T vR ((rs.set i rs[j]).set j rs[i]) n m (swp A i j) wd rk d ∧ Below T w ((w.setCell (ptr vR i) rs[j]).setCell (ptr vR j) rs[i]) := by
  have hT := h.lt
  obtain ⟨⟨a, b, h1, h2, h3⟩, own, rl, mp, row, ap⟩ := h
  have hn : ∀ k (hk : k < rs.length) z, rs[k] ≠ .int .u32 z := fun k hk z => by
    obtain ⟨a1, a2, a3, e1, _⟩ := (row k hk).sl
    rw [e1]; simp
  obtain ⟨s1, g1⟩ := own.set1 i hi rs[j] (hn j hj)
  obtain ⟨s2, g2⟩ := s1.set1 j (by rw [List.length_set]; exact hj) rs[i] (hn i hi)
  have gg := grown_trans g1 g2
  obtain ⟨g, hg, _, hgT, hgw, _⟩ := own.blk (by omega)
  have hgT' : vR.ownBlock ≠ some T := by rw [hg]; intro e; injection e with e; omega
  have ge : ∀ k (hk : k < ((rs.set i rs[j]).set j rs[i]).length), ∃ k', ∃ hk' : k' < rs.length, ((rs.set i rs[j]).set j rs[i])[k] = rs[k'] ∧ swp A i j k = A k' ∧ (k' = if k = j then i else if k = i then j else k) := fun k hk => by
    have hk0 : k < rs.length := by simpa using hk
    unfold swp
    by_cases e1 : k = j
    · subst e1
      exact ⟨i, hi, by rw [List.getElem_set_self], by rw [if_neg (fun e => hij e.symm), if_pos rfl], by rw [if_pos rfl]⟩
    · by_cases e2 : k = i
      · subst e2
        exact ⟨j, hj, by rw [List.getElem_set_ne (fun e => e1 e.symm), List.getElem_set_self], by rw [if_pos rfl], by rw [if_neg e1, if_pos rfl]⟩
      · exact ⟨k, hk0, by rw [List.getElem_set_ne (fun e => e1 e.symm), List.getElem_set_ne (fun e => e2 e.symm)], by rw [if_neg e2, if_neg e1], by rw [if_neg e1, if_neg e2]⟩
  refine ⟨⟨⟨a, b, h1.grown gg hgT', h2.grown gg own.nl, h3.grown gg own.nl⟩, ?_, by simp [rl], mp, fun k hk => ?_, fun k l hk hl hkl => ?_⟩, below_of_grown gg (by omega) (fun k hk => by rw [hg] at hk; injection hk with hk; omega)⟩
  · rw [List.length_set, List.length_set]; exact s2
  · obtain ⟨k', hk', e1, e2, _⟩ := ge k hk
    obtain ⟨ys, y1, y2⟩ := id (row k' hk')
    rw [e1, e2]
    exact (row k' hk').grown gg own.nl (y1.kinds own (by decide))
  · obtain ⟨k', hk', e1, _, f1⟩ := ge k hk
    obtain ⟨l', hl', e2, _, f2⟩ := ge l hl
    rw [e1, e2]
    refine ap k' l' hk' hl' ?_
    rw [f1, f2]
    split <;> split <;> (try split) <;> (try split) <;> omega
end
end Go.Proofs.Ytbhkibilnmoljaa
namespace Go.Proofs.Ytbhkibilnmoljaa
set_option linter.unusedVariables false
set_option linter.unusedSimpArgs false
open Go.RowKit

set_option maxHeartbeats 800000 in
theorem lnumber_zero (w : World) : Calls Try.prog 45 #[.int .i64 0] w (RF1 w 0) := by
  go_enter Try.func45, Try.ntmps45
  go_wp2_with (go_at_call 76; (with_reducible refine (make_01 _).mono ?_); rintro e w1 ⟨v, rfl, hv, hb1⟩
               obtain ⟨t9, x9, y9, rfl, ⟨a1, l91, k1, rfl, _⟩, ⟨a2, l92, k2, rfl, _⟩⟩ := hv.isF
               have hr := ((C3.new w 30 (.bool false) (.slice none 0 0) (.slice none 0 0)).belowS hb1).allocS (.cells #[.bool t9, .slice a1 l91 k1, .slice a2 l92 k2] 30)
               have hv2 := hv.below (below_alloc w1 (.cells #[.bool t9, .slice a1 l91 k1, .slice a2 l92 k2] 30))
               have hb2 := below_then (below_then (below_alloc w (.cells #[.bool false, .slice none 0 0, .slice none 0 0] 30)) hb1) (below_alloc w1 (.cells #[.bool t9, .slice a1 l91 k1, .slice a2 l92 k2] 30))
               have HR := Lib.hid hr
               obtain ⟨_, d1, d2, d3, d4, d5, d6⟩ := hr)
  refine bodyPost_c1 rfl rfl Try.aggF Try.sizeF (HR.out.set _ _ _) rfl ?_
  exact ⟨_, rfl, hv2.set3 HR.out (fun z => by simp) (fun z => by simp) _ _ _, below_set3 hb2 (Nat.le_refl _) _ _ _⟩
set_option maxHeartbeats 800000 in
theorem lnumber_one (w : World) : Calls Try.prog 45 #[.int .i64 1] w (RF1 w 1) := by
  go_enter Try.func45, Try.ntmps45
  go_wp2_with (go_at_call 76; (with_reducible refine (make_11 _).mono ?_); rintro e w1 ⟨v, rfl, hv, hb1⟩
               obtain ⟨t9, x9, y9, rfl, ⟨a1, l91, k1, rfl, _⟩, ⟨a2, l92, k2, rfl, _⟩⟩ := hv.isF
               have hr := ((C3.new w 30 (.bool false) (.slice none 0 0) (.slice none 0 0)).belowS hb1).allocS (.cells #[.bool t9, .slice a1 l91 k1, .slice a2 l92 k2] 30)
               have hv2 := hv.below (below_alloc w1 (.cells #[.bool t9, .slice a1 l91 k1, .slice a2 l92 k2] 30))
               have hb2 := below_then (below_then (below_alloc w (.cells #[.bool false, .slice none 0 0, .slice none 0 0] 30)) hb1) (below_alloc w1 (.cells #[.bool t9, .slice a1 l91 k1, .slice a2 l92 k2] 30))
               have HR := Lib.hid hr
               obtain ⟨_, d1, d2, d3, d4, d5, d6⟩ := hr)
  refine bodyPost_c1 rfl rfl Try.aggF Try.sizeF (HR.out.set _ _ _) rfl ?_
  exact ⟨_, rfl, hv2.set3 HR.out (fun z => by simp) (fun z => by simp) _ _ _, below_set3 hb2 (Nat.le_refl _) _ _ _⟩
set_option maxHeartbeats 400000 in
theorem lzero_any (v : Value) (s : Bool) (n d : Nat) (w : World) (h : FracN w v s n d) :
    Calls Try.prog 65 #[v] w fun e w' => e = .returned (.bool (decide (n = 0))) ∧ Below w.heap.size w w' := by
  obtain ⟨a, b, rfl, ha, hb⟩ := h
  go_enter Try.func65, Try.ntmps65
  go_wp2_with (go_at_call 63; refine (bits_any _ n _ (ha.below (below_alloc _ _))).mono ?_; rintro e w' ⟨rfl, rfl⟩)
  go_ret
  exact ⟨by rw [← beq_bits]; rfl, below_alloc _ _⟩
theorem lzero_can (v : Value) (q : Rat) (w : World) (h : FracC w v q) :
    Calls Try.prog 65 #[v] w fun e w' => e = .returned (.bool (decide (q = 0))) ∧ Below w.heap.size w w' := by
  refine (lzero_any v _ _ _ w h.raw).mono ?_
  rintro e w' ⟨rfl, hb⟩
  refine ⟨?_, hb⟩
  have : (q.num.natAbs = 0) ↔ q = 0 := ⟨fun h => Rat.num_eq_zero.1 (by omega), fun h => by rw [h]; rfl⟩
  by_cases hq : q = 0
  · rw [decide_eq_true hq, decide_eq_true (this.2 hq)]
  · rw [decide_eq_false hq, decide_eq_false (fun h => hq (this.1 h))]
set_option maxHeartbeats 400000 in
theorem keep_ok (p v : Value) (q : Rat) (w : World) (h : FracC w v q) :
    Calls Try.prog 67 #[p, v, .int .i64 0] w (RF1 w q) := by
  obtain ⟨s, x, y, rfl, ⟨a1, l1, k1, rfl, _⟩, ⟨a2, l2, k2, rfl, _⟩⟩ := id h.isF
  obtain ⟨bx, bz, hbw⟩ := two_boxes w 30 (.bool s) (.slice a1 l1 k1) (.slice a2 l2 k2) (.bool false) (.slice none 0 0) (.slice none 0 0) _ rfl
  have HF := Lib.hid (h.below hbw)
  have HZ := Lib.hid bz
  have HB := Lib.hid hbw
  obtain ⟨_, x0, x1, x2, f0, f1, f2⟩ := bx
  obtain ⟨_, z0, z1, z2, g0, g1, g2⟩ := bz
  clear h hbw
  go_enter Try.func67, Try.ntmps67
  go_upto_region 1 with fail
  generalize (w.alloc (.cells #[.bool s, .slice a1 l1 k1, .slice a2 l2 k2] 30)).alloc (.cells #[.bool false, .slice none 0 0, .slice none 0 0] 30) = W at *
  go_wp2_with fail
  refine bodyPost_c1 rfl rfl Try.aggF Try.sizeF (HZ.out.set _ _ _) rfl ?_
  exact ⟨_, rfl, HF.out.set3 HZ.out (fun z => by simp) (fun z => by simp) _ _ _, below_set3 HB.out (by omega) _ _ _⟩
end Go.Proofs.Ytbhkibilnmoljaa
