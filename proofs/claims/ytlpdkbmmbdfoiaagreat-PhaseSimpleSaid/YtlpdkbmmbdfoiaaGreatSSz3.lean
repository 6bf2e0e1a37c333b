/-
  Sizes for LumpProof: the rate, both steps, the sums; and the theorem of lumping for it. No code is walked here.
-/
import Derived.Test.YtlpdkbmmbdfoiaaGreatSEl1
import Derived.Test.YtlpdkbmmbdfoiaaGreatSFr6
import Derived.Test.YtlpdkbmmbdfoiaaGreatSTk
import Derived.Test.YtlpdkbmmbdfoiaaGreatSRa2
import Derived.Test.YtlpdkbmmbdfoiaaGreatSStep
import Derived.Test.YtlpdkbmmbdfoiaaGreatSFr3a
import Derived.Deep.CutRange
import Derived.Deep.DeepCutAuto
import Derived.Deep.LoopGhost
import Derived.Deep.RegionHeld3
import Derived.Lib.SliceRun
set_option linter.unusedVariables false
set_option linter.unusedSimpArgs false
namespace Go.Proofs.YtlpdkbmmbdfoiaaGreat
open Go.RowKit
section
variable {w : World} {e : TypeId} {B size n : Nat} {v : Value} {xs : List Value}
theorem zuc.set1 (h : zuc w e B size v n xs) (j : Nat) (hj : j < xs.length) (u : Value) (hu : ∀ z, u ≠ .int .u32 z) :
 zuc (w.setCell (ptr v j) u) e B size v n (xs.set j u) ∧ w.grownBy (w.setCell (ptr v j) u) v.ownBlock := by
 have hl := h.own.1
 rcases h.own.2 with ⟨rfl, h0⟩ | ⟨g, cap, cur, rfl, hb, hg, hn, hm, hs, ht⟩
 ·rw [h0] at hl; omega
 ·have hp : ptr (.slice (some ⟨g, 0, none⟩) n cap) j = ⟨g, j, none⟩ := by simp only [ptr, base, Addr.add_lit, Nat.zero_add]
  have hst := World.ownsRow.stored h.own j u
  rw [hp]
  refine ⟨⟨hst.1, ?_⟩, hst.2⟩
  intro g' hg' cur' e' fz hc c hcc
  simp only [Value.ownBlock, Option.some.injEq] at hg'
  subst hg'
  rw [heap_setCell_same w g j cur e u hg] at hc
  injection hc with hc
  injection hc with hc _ _
  subst hc
  rw [Array.toList_setIfInBounds] at hcc
  rcases List.mem_or_eq_of_mem_set hcc with h' | h'
  ·exact h.nl g rfl cur e _ hg c h'
  ·subst h'; exact hu
theorem zuc.frozen (h : zuc w e B size v n xs) (j : Nat) (hj : j < xs.length) : w.frozen? (ptr v j) = false := by
 have hl := h.own.1
 obtain ⟨ho, _⟩ := h
 rcases ho.2 with ⟨rfl, h0⟩ | ⟨g, cap, cur, rfl, hb, hg, hn, hm, hs, ht⟩
 ·rw [h0] at hl; omega
 ·have := World.ownsRow.frozenAt ho j
  simpa only [ptr, base, Addr.add_lit, Nat.zero_add] using this
theorem zuc.blk (h : zuc w e B size v n xs) (hx : 0 < xs.length) : ∃ g, v.ownBlock = some g ∧ (base v).block = g ∧ B ≤ g ∧ g < w.heap.size ∧ ∀ j, ptr v j = ⟨g, j, none⟩ := by
 have hl := h.own.1
 have hbl := h.block
 rcases h.own.2 with ⟨rfl, h0⟩ | ⟨g, cap, cur, rfl, hb, hg, hn, hm, hs, ht⟩
 ·rw [h0] at hl; omega
 ·exact ⟨g, rfl, rfl, (hbl g rfl).1, (hbl g rfl).2, fun j => by simp only [ptr, base, Addr.add_lit, Nat.zero_add]⟩
end
theorem zce {a b c : World} {r : Option Nat} (h : a.grownBy b r) (k : b.grownBy c r) : a.grownBy c r := zqc h k
section
variable {w : World} {e : TypeId} {B : Nat} {v : Value} {q : List Rat}
theorem zbb.frozen (h : zbb w e B v q) (k : Nat) (hk : k < q.length * 3) : w.frozen? (ptr v k) = false := by
 obtain ⟨xs, h1, _⟩ := h
 exact h1.frozen k (by rw [h1.clen]; exact hk)
theorem zbb.blk (h : zbb w e B v q) (hq : 0 < q.length) : ∃ g, v.ownBlock = some g ∧ (base v).block = g ∧ B ≤ g ∧ g < w.heap.size ∧ ∀ j, ptr v j = ⟨g, j, none⟩ := by
 obtain ⟨xs, h1, _⟩ := h
 exact h1.blk (by rw [h1.clen]; omega)
theorem zbb.inj (h : zbb w e B v q) (hq : 0 < q.length) {i j : Nat} (hij : i ≠ j) : ptr v i ≠ ptr v j := by
 obtain ⟨g, _, _, _, _, hp⟩ := h.blk hq
 rw [hp, hp]
 intro h; injection h with h1 h2; exact hij h2
theorem zbb.noLimb (h : zbb w e B v q) : zqb w v := by obtain ⟨xs, h1, _⟩ := h; exact h1.nl
theorem zbb.put (h : zbb w e B v q) {i : Nat} (hi : i < q.length) {x y z : Value} {r : Rat} (hf : zya w (.agg #[x, y, z]) r) :
 zbb (((w.setCell (ptr v (i * 3)) x).setCell (ptr v (i * 3 + 1)) y).setCell (ptr v (i * 3 + 2)) z) e B v (q.set i r) ∧
  w.grownBy (((w.setCell (ptr v (i * 3)) x).setCell (ptr v (i * 3 + 1)) y).setCell (ptr v (i * 3 + 2)) z) v.ownBlock := by
 obtain ⟨xs, h1, h2⟩ := h
 obtain ⟨a, b, ha, h4, h5⟩ := id hf
 injection ha with ha
 injection ha with ha
 simp only [List.cons.injEq, and_true] at ha
 obtain ⟨rfl, rfl, rfl⟩ := ha
 have hl := h1.clen
 have ny : ∀ k, y ≠ .int .u32 k := fun k => by obtain ⟨a1, n1, c1, e1, _⟩ := h4.v.sl; subst e1; simp
 have nz : ∀ k, z ≠ .int .u32 k := fun k => by obtain ⟨a1, n1, c1, e1, _⟩ := h5.v.sl; subst e1; simp
 obtain ⟨s1, g1⟩ := h1.set1 (i * 3) (by omega) (.bool (decide (r < 0))) (fun k => by simp)
 obtain ⟨s2, g2⟩ := s1.set1 (i * 3 + 1) (by rw [List.length_set]; omega) y ny
 obtain ⟨s3, g3⟩ := s2.set1 (i * 3 + 2) (by rw [List.length_set, List.length_set]; omega) z nz
 have gg := zce (zce g1 g2) g3
 refine ⟨⟨_, by rw [List.length_set]; exact s3, fun j hj => ?_⟩, gg⟩
 rw [List.length_set] at hj
 by_cases hij : i = j
 ·subst hij
  refine ⟨y, z, ?_, ?_, ?_, ?_, ?_⟩
  ·rw [List.getElem?_set_ne (by omega), List.getElem?_set_ne (by omega), List.getElem?_set_self (by omega), List.getElem_set_self]
  ·rw [List.getElem?_set_ne (by omega), List.getElem?_set_self (by rw [List.length_set]; omega)]
  ·rw [List.getElem?_set_self (by rw [List.length_set, List.length_set]; omega)]
  ·rw [List.getElem_set_self]; exact h4.grown gg h1.nl
  ·rw [List.getElem_set_self]; exact h5.grown gg h1.nl
 ·obtain ⟨a, b, e1, e2, e3, e4, e5⟩ := h2 j hj
  rw [List.getElem_set_ne hij]
  refine ⟨a, b, ?_, ?_, ?_, e4.grown gg h1.nl, e5.grown gg h1.nl⟩
  ·rw [List.getElem?_set_ne (by omega), List.getElem?_set_ne (by omega), List.getElem?_set_ne (by omega)]; exact e1
  ·rw [List.getElem?_set_ne (by omega), List.getElem?_set_ne (by omega), List.getElem?_set_ne (by omega)]; exact e2
  ·rw [List.getElem?_set_ne (by omega), List.getElem?_set_ne (by omega), List.getElem?_set_ne (by omega)]; exact e3
end
def zbf (w : World) (T : Nat) (cs : Array Value) : Prop := ∃ ty, w.heap[T]? = some (.cells cs ty (0, 0))
section
variable {w w' : World} {T : Nat} {cs : Array Value}
theorem zbf.new (w : World) (cs : Array Value) (ty : TypeId) : zbf (w.alloc (.cells cs ty)) w.heap.size cs := ⟨ty, heap_alloc_new w _⟩
theorem zbf.lt (h : zbf w T cs) : T < w.heap.size := by obtain ⟨ty, h⟩ := h; exact (Array.getElem?_eq_some_iff.1 h).1
theorem zbf.cell (h : zbf w T cs) (j : Nat) {u : Value} (hu : cs[j]? = some u) : w.cell? ⟨T, j, none⟩ = some u := by
 obtain ⟨ty, h⟩ := h
 simp [World.cell?, h, hu]
theorem zbf.frozen (h : zbf w T cs) (j : Nat) : w.frozen? ⟨T, j, none⟩ = false := by
 obtain ⟨ty, h⟩ := h
 simp [World.frozen?, h]
theorem zbf.set (h : zbf w T cs) (j : Nat) (u : Value) : zbf (w.setCell ⟨T, j, none⟩ u) T (cs.setIfInBounds j u) := by
 obtain ⟨ty, h⟩ := h
 exact ⟨ty, heap_setCell_same w T j cs ty u h⟩
theorem zbf.below (h : zbf w T cs) (hb : Below w.heap.size w w') : zbf w' T cs := by
 have hlt := h.lt
 obtain ⟨ty, h⟩ := h
 exact ⟨ty, by rw [hb.block T hlt]; exact h⟩
theorem zbf.grown {r : Option Nat} (h : zbf w T cs) (hg : w.grownBy w' r) (hr : r ≠ some T) : zbf w' T cs := by
 have hlt := h.lt
 obtain ⟨ty, h⟩ := h
 exact ⟨ty, by rw [hg.block T hlt hr.symm]; exact h⟩
end
def zfb (m : Nat) (f : Nat → Rat) : List Rat := (List.range m).map f
theorem zfa (m : Nat) (f : Nat → Rat) : (zfb m f).length = m := by simp [zfb]
theorem ztb (m : Nat) (f : Nat → Rat) (j : Nat) (h : j < (zfb m f).length) : (zfb m f)[j] = f j := by simp [zfb]
theorem zve {m : Nat} {f g : Nat → Rat} (h : ∀ j, j < m → f j = g j) : zfb m f = zfb m g :=
 List.map_congr_left fun j hj => h j (List.mem_range.1 hj)
theorem rowL_of (q : List Rat) : zfb q.length (fun j => q.getD j 0) = q := by
 refine List.ext_getElem (by rw [zfa]) fun j h1 h2 => ?_
 rw [ztb, List.getD_eq_getElem?_getD, List.getElem?_eq_getElem h2]; rfl
theorem rowL_set (m : Nat) (f : Nat → Rat) (i : Nat) (r : Rat) : (zfb m f).set i r = zfb m (fun j => if j = i then r else f j) := by
 refine List.ext_getElem (by rw [List.length_set, zfa, zfa]) fun j h1 h2 => ?_
 rw [ztb]
 by_cases h : j = i
 ·subst h; rw [List.getElem_set_self, if_pos rfl]
 ·rw [List.getElem_set_ne (fun e => h e.symm), if_neg h, ztb]
def upd (A : Mx) (i j : Nat) (r : Rat) : Mx := fun a b => if a = i ∧ b = j then r else A a b
structure zld (w : World) (T : Nat) (vR : Value) (rs : List Value) (n m : Nat) (A : Mx) (wd rk : Nat) (d : Rat) : Prop where
 box : ∃ a b, zbf w T #[vR, .int .i64 wd, .int .i64 rk, .bool (decide (d < 0)), a, b, .int .i64 0] ∧ zgb w a d.num.natAbs ∧ zgb w b d.den
 own : zuc w 25 (T + 1) 1 vR rs.length rs
 rl : rs.length = n
 mp : 0 < m
 row : ∀ (i : Nat) (h : i < rs.length), zbb w 38 (T + 1) rs[i] (zfb m (A i))
 ap : ∀ (i j : Nat) (hi : i < rs.length) (hj : j < rs.length), i ≠ j → rs[i].ownBlock ≠ rs[j].ownBlock
section
variable {w w' : World} {T n m wd rk : Nat} {vR : Value} {rs : List Value} {A : Mx} {d : Rat}
theorem zld.lt (h : zld w T vR rs n m A wd rk d) : T < w.heap.size := by obtain ⟨a, b, hb, _⟩ := h.box; exact hb.lt
theorem zld.below (h : zld w T vR rs n m A wd rk d) (hb : Below w.heap.size w w') : zld w' T vR rs n m A wd rk d := by
 obtain ⟨a, b, h1, h2, h3⟩ := h.box
 exact ⟨⟨a, b, h1.below hb, h2.below hb, h3.below hb⟩, h.own.below hb, h.rl, h.mp, fun i hi => (h.row i hi).moves (zec.below (B := T + 1) hb) (Nat.le_refl _), h.ap⟩
theorem zld.congr {A' : Mx} (h : zld w T vR rs n m A wd rk d) (hA : ∀ i j, i < n → j < m → A i j = A' i j) : zld w T vR rs n m A' wd rk d :=
 ⟨h.box, h.own, h.rl, h.mp, fun i hi => by rw [← zve (fun j hj => hA i j (by rw [← h.rl]; exact hi) hj)]; exact h.row i hi, h.ap⟩
theorem zld.elem (h : zld w T vR rs n m A wd rk d) {i j : Nat} (hi : i < rs.length) (hj : j < m) :
 ∃ a b, w.cell? (ptr rs[i] (j * 3)) = some (.bool (decide (A i j < 0))) ∧ w.cell? (ptr rs[i] (j * 3 + 1)) = some a ∧ w.cell? (ptr rs[i] (j * 3 + 2)) = some b ∧ zgb w a (A i j).num.natAbs ∧ zgb w b (A i j).den := by
 obtain ⟨a, b, h1, h2, h3, h4, h5⟩ := (h.row i hi).fracs.at' j (by rw [zfa]; exact hj)
 rw [ztb] at h1 h4 h5
 exact ⟨a, b, h1, h2, h3, h4, h5⟩
theorem zld.put (h : zld w T vR rs n m A wd rk d) {i j : Nat} (hi : i < rs.length) (hj : j < m) {x y z : Value} {r : Rat} (hf : zya w (.agg #[x, y, z]) r) :
 zld (((w.setCell (ptr rs[i] (j * 3)) x).setCell (ptr rs[i] (j * 3 + 1)) y).setCell (ptr rs[i] (j * 3 + 2)) z) T vR rs n m (upd A i j r) wd rk d ∧
  Below T w (((w.setCell (ptr rs[i] (j * 3)) x).setCell (ptr rs[i] (j * 3 + 1)) y).setCell (ptr rs[i] (j * 3 + 2)) z) := by
 have hT := h.lt
 obtain ⟨⟨a, b, h1, h2, h3⟩, own, rl, mp, row, ap⟩ := h
 have hr := row i hi
 obtain ⟨hp, gg⟩ := hr.put (i := j) (by rw [zfa]; exact hj) hf
 have hnl := hr.noLimb
 obtain ⟨g, hg, _, hgT, hgw, _⟩ := hr.blk (by rw [zfa]; exact mp)
 have hgT' : rs[i].ownBlock ≠ some T := by rw [hg]; intro e; injection e with e; omega
 obtain ⟨ys, y1, y2⟩ := id hr
 refine ⟨⟨⟨a, b, h1.grown gg hgT', h2.grown gg hnl, h3.grown gg hnl⟩, own.grown gg (own.kinds y1 (by decide)), rl, mp, fun k hk => ?_, ap⟩, zla gg (by omega) (fun k hk => by rw [hg] at hk; injection hk with hk; omega)⟩
 by_cases hki : k = i
 ·subst hki
  rw [rowL_set] at hp
  have e : zfb m (upd A k j r k) = zfb m (fun b => if b = j then r else A k b) := zve fun b _ => by
   unfold upd
   by_cases hb : b = j
   ·rw [if_pos ⟨rfl, hb⟩, if_pos hb]
   ·rw [if_neg (fun h => hb h.2), if_neg hb]
  rw [e]; exact hp
 ·have e : zfb m (upd A i j r k) = zfb m (A k) := zve fun b _ => by unfold upd; rw [if_neg (fun h => hki h.1)]
  rw [e]
  exact (row k hk).grown gg hnl (Or.inr (ap k i hk hi hki))
theorem zld.setDet (h : zld w T vR rs n m A wd rk d) {x y z : Value} {r : Rat} (hf : zya w (.agg #[x, y, z]) r) :
 zld (((w.setCell ⟨T, 3, none⟩ x).setCell ⟨T, 4, none⟩ y).setCell ⟨T, 5, none⟩ z) T vR rs n m A wd rk r ∧ Below T w (((w.setCell ⟨T, 3, none⟩ x).setCell ⟨T, 4, none⟩ y).setCell ⟨T, 5, none⟩ z) := by
 obtain ⟨⟨a, b, h1, h2, h3⟩, own, rl, mp, row, ap⟩ := h
 obtain ⟨p, q, ha, h4, h5⟩ := id hf
 injection ha with ha
 injection ha with ha
 simp only [List.cons.injEq, and_true] at ha
 obtain ⟨rfl, rfl, rfl⟩ := ha
 obtain ⟨a1, a2, a3, rfl, _⟩ := h2.v.sl
 obtain ⟨b1, b2, b3, rfl, _⟩ := h3.v.sl
 have s1 := h1.set 3 (.bool (decide (r < 0)))
 have s2 := s1.set 4 y
 have s3 := s2.set 5 z
 have m1 := zec.set (B := T + 1) (p := ⟨T, 3, none⟩) (Nat.lt_succ_self T) (h1.cell 3 rfl) (fun z => by simp) (.bool (decide (r < 0)))
 have m2 := zec.set (B := T + 1) (p := ⟨T, 4, none⟩) (Nat.lt_succ_self T) (s1.cell 4 rfl) (fun z => by simp) y
 have m3 := zec.set (B := T + 1) (p := ⟨T, 5, none⟩) (Nat.lt_succ_self T) (s2.cell 5 rfl) (fun z => by simp) z
 have mm := (m1.trans m2).trans m3
 exact ⟨⟨⟨y, z, s3, h4.moves mm, h5.moves mm⟩, own.moves mm (Nat.le_refl _), rl, mp, fun i hi => (row i hi).moves mm (Nat.le_refl _), ap⟩,
  (((Below.refl T w).setCell (p := ⟨T, 3, none⟩) (Nat.le_refl _) _).setCell (p := ⟨T, 4, none⟩) (Nat.le_refl _) _).setCell (p := ⟨T, 5, none⟩) (Nat.le_refl _) _⟩
theorem zld.setRank (h : zld w T vR rs n m A wd rk d) (k : Nat) :
 zld (w.setCell ⟨T, 2, none⟩ (.int .i64 k)) T vR rs n m A wd k d ∧ Below T w (w.setCell ⟨T, 2, none⟩ (.int .i64 k)) := by
 obtain ⟨⟨a, b, h1, h2, h3⟩, own, rl, mp, row, ap⟩ := h
 have mm := zec.set (B := T + 1) (p := ⟨T, 2, none⟩) (Nat.lt_succ_self T) (h1.cell 2 rfl) (fun z => by simp) (.int .i64 k)
 exact ⟨⟨⟨a, b, h1.set 2 (.int .i64 k), h2.moves mm, h3.moves mm⟩, own.moves mm (Nat.le_refl _), rl, mp, fun i hi => (row i hi).moves mm (Nat.le_refl _), ap⟩,
  (Below.refl T w).setCell (p := ⟨T, 2, none⟩) (Nat.le_refl _) _⟩
theorem zld.swap (h : zld w T vR rs n m A wd rk d) {i j : Nat} (hi : i < rs.length) (hj : j < rs.length) (hij : i ≠ j) :
 zld ((w.setCell (ptr vR i) rs[j]).setCell (ptr vR j) rs[i]) T vR ((rs.set i rs[j]).set j rs[i]) n m (swp A i j) wd rk d ∧ Below T w ((w.setCell (ptr vR i) rs[j]).setCell (ptr vR j) rs[i]) := by
 have hT := h.lt
 obtain ⟨⟨a, b, h1, h2, h3⟩, own, rl, mp, row, ap⟩ := h
 have hn : ∀ k (hk : k < rs.length) z, rs[k] ≠ .int .u32 z := fun k hk z => by
  obtain ⟨a1, a2, a3, e1, _⟩ := (row k hk).sl
  rw [e1]; simp
 obtain ⟨s1, g1⟩ := own.set1 i hi rs[j] (hn j hj)
 obtain ⟨s2, g2⟩ := s1.set1 j (by rw [List.length_set]; exact hj) rs[i] (hn i hi)
 have gg := zce g1 g2
 obtain ⟨g, hg, _, hgT, hgw, _⟩ := own.blk (by omega)
 have hgT' : vR.ownBlock ≠ some T := by rw [hg]; intro e; injection e with e; omega
 have ge : ∀ k (hk : k < ((rs.set i rs[j]).set j rs[i]).length), ∃ k', ∃ hk' : k' < rs.length, ((rs.set i rs[j]).set j rs[i])[k] = rs[k'] ∧ swp A i j k = A k' ∧ (k' = if k = j then i else if k = i then j else k) := fun k hk => by
  have hk0 : k < rs.length := by simpa using hk
  unfold swp
  by_cases e1 : k = j
  ·subst e1
   exact ⟨i, hi, by rw [List.getElem_set_self], by rw [if_neg (fun e => hij e.symm), if_pos rfl], by rw [if_pos rfl]⟩
  ·by_cases e2 : k = i
   ·subst e2
    exact ⟨j, hj, by rw [List.getElem_set_ne (fun e => e1 e.symm), List.getElem_set_self], by rw [if_pos rfl], by rw [if_neg e1, if_pos rfl]⟩
   ·exact ⟨k, hk0, by rw [List.getElem_set_ne (fun e => e1 e.symm), List.getElem_set_ne (fun e => e2 e.symm)], by rw [if_neg e2, if_neg e1], by rw [if_neg e1, if_neg e2]⟩
 refine ⟨⟨⟨a, b, h1.grown gg hgT', h2.grown gg own.nl, h3.grown gg own.nl⟩, ?_, by simp [rl], mp, fun k hk => ?_, fun k l hk hl hkl => ?_⟩, zla gg (by omega) (fun k hk => by rw [hg] at hk; injection hk with hk; omega)⟩
 ·rw [List.length_set, List.length_set]; exact s2
 ·obtain ⟨k', hk', e1, e2, _⟩ := ge k hk
  obtain ⟨ys, y1, y2⟩ := id (row k' hk')
  rw [e1, e2]
  exact (row k' hk').grown gg own.nl (y1.kinds own (by decide))
 ·obtain ⟨k', hk', e1, _, f1⟩ := ge k hk
  obtain ⟨l', hl', e2, _, f2⟩ := ge l hl
  rw [e1, e2]
  refine ap k' l' hk' hl' ?_
  rw [f1, f2]
  split <;> split <;> (try split) <;> (try split) <;> omega
end
theorem kp3a {w0 X : World} {a1 a2 a3 : Addr} {x1 x2 x3 : Value} (h : w0.cell? a1 = some x1 ∧ w0.cell? a2 = some x2 ∧ w0.cell? a3 = some x3) (hb : Below w0.heap.size w0 X) : X.cell? a1 = some x1 ∧ X.cell? a2 = some x2 ∧ X.cell? a3 = some x3 ∧ Below w0.heap.size w0 X := by
 obtain ⟨k1, k2, k3⟩ := h
 exact ⟨zba hb k1, zba hb k2, zba hb k3, hb⟩
theorem kp8w {w0 X Y : World} {a1 a2 a3 a4 a5 a6 a7 a8 : Addr} {x1 x2 x3 x4 x5 x6 x7 x8 : Value} (h : X.cell? a1 = some x1 ∧ X.cell? a2 = some x2 ∧ X.cell? a3 = some x3 ∧ X.cell? a4 = some x4 ∧ X.cell? a5 = some x5 ∧ X.cell? a6 = some x6 ∧ X.cell? a7 = some x7 ∧ X.cell? a8 = some x8 ∧ Below w0.heap.size w0 X) (hb : Below X.heap.size X Y) : Y.cell? a1 = some x1 ∧ Y.cell? a2 = some x2 ∧ Y.cell? a3 = some x3 ∧ Y.cell? a4 = some x4 ∧ Y.cell? a5 = some x5 ∧ Y.cell? a6 = some x6 ∧ Y.cell? a7 = some x7 ∧ Y.cell? a8 = some x8 ∧ Below w0.heap.size w0 Y := by
 obtain ⟨k1, k2, k3, k4, k5, k6, k7, k8, k0⟩ := h
 exact ⟨zba hb k1, zba hb k2, zba hb k3, zba hb k4, zba hb k5, zba hb k6, zba hb k7, zba hb k8, zaa k0 hb⟩
theorem kp8a {w0 X : World} {a1 a2 a3 a4 a5 a6 a7 a8 : Addr} {x1 x2 x3 x4 x5 x6 x7 x8 : Value} (h : w0.cell? a1 = some x1 ∧ w0.cell? a2 = some x2 ∧ w0.cell? a3 = some x3 ∧ w0.cell? a4 = some x4 ∧ w0.cell? a5 = some x5 ∧ w0.cell? a6 = some x6 ∧ w0.cell? a7 = some x7 ∧ w0.cell? a8 = some x8) (hb : Below w0.heap.size w0 X) : X.cell? a1 = some x1 ∧ X.cell? a2 = some x2 ∧ X.cell? a3 = some x3 ∧ X.cell? a4 = some x4 ∧ X.cell? a5 = some x5 ∧ X.cell? a6 = some x6 ∧ X.cell? a7 = some x7 ∧ X.cell? a8 = some x8 ∧ Below w0.heap.size w0 X := by
 obtain ⟨k1, k2, k3, k4, k5, k6, k7, k8⟩ := h
 exact ⟨zba hb k1, zba hb k2, zba hb k3, zba hb k4, zba hb k5, zba hb k6, zba hb k7, zba hb k8, hb⟩
theorem kp8c {w0 X : World} {a1 a2 a3 a4 a5 a6 a7 a8 : Addr} {x1 x2 x3 x4 x5 x6 x7 x8 : Value} (h : X.cell? a1 = some x1 ∧ X.cell? a2 = some x2 ∧ X.cell? a3 = some x3 ∧ X.cell? a4 = some x4 ∧ X.cell? a5 = some x5 ∧ X.cell? a6 = some x6 ∧ X.cell? a7 = some x7 ∧ X.cell? a8 = some x8 ∧ Below w0.heap.size w0 X) : Below w0.heap.size w0 X := by
 obtain ⟨k1, k2, k3, k4, k5, k6, k7, k8, k0⟩ := h
 exact k0
theorem kp8s {w0 X : World} {a1 a2 a3 a4 a5 a6 a7 a8 : Addr} {x1 x2 x3 x4 x5 x6 x7 x8 : Value} (h : w0.cell? a1 = some x1 ∧ w0.cell? a2 = some x2 ∧ w0.cell? a3 = some x3 ∧ w0.cell? a4 = some x4 ∧ w0.cell? a5 = some x5 ∧ w0.cell? a6 = some x6 ∧ w0.cell? a7 = some x7 ∧ w0.cell? a8 = some x8) (hb : Below w0.heap.size w0 X) {b : Nat} (hB : w0.heap.size ≤ b) (x y z : Value) : (((X.setCell ⟨b, 0, none⟩ x).setCell ⟨b, 1, none⟩ y).setCell ⟨b, 2, none⟩ z).cell? a1 = some x1 ∧ (((X.setCell ⟨b, 0, none⟩ x).setCell ⟨b, 1, none⟩ y).setCell ⟨b, 2, none⟩ z).cell? a2 = some x2 ∧ (((X.setCell ⟨b, 0, none⟩ x).setCell ⟨b, 1, none⟩ y).setCell ⟨b, 2, none⟩ z).cell? a3 = some x3 ∧ (((X.setCell ⟨b, 0, none⟩ x).setCell ⟨b, 1, none⟩ y).setCell ⟨b, 2, none⟩ z).cell? a4 = some x4 ∧ (((X.setCell ⟨b, 0, none⟩ x).setCell ⟨b, 1, none⟩ y).setCell ⟨b, 2, none⟩ z).cell? a5 = some x5 ∧ (((X.setCell ⟨b, 0, none⟩ x).setCell ⟨b, 1, none⟩ y).setCell ⟨b, 2, none⟩ z).cell? a6 = some x6 ∧ (((X.setCell ⟨b, 0, none⟩ x).setCell ⟨b, 1, none⟩ y).setCell ⟨b, 2, none⟩ z).cell? a7 = some x7 ∧ (((X.setCell ⟨b, 0, none⟩ x).setCell ⟨b, 1, none⟩ y).setCell ⟨b, 2, none⟩ z).cell? a8 = some x8 ∧ Below w0.heap.size w0 (((X.setCell ⟨b, 0, none⟩ x).setCell ⟨b, 1, none⟩ y).setCell ⟨b, 2, none⟩ z) :=
 kp8a h (zha hb hB x y z)
structure zol (w : World) (v : Value) (n m : Nat) (A : Mx) : Prop where
 sl : zlc v
 len : slen v = n
 row : ∀ i, i < n → ∃ r, w.cell? (ptr v i) = some r ∧ zza w r (zfb m (A i))
theorem zol.below {w w' : World} {v : Value} {n m : Nat} {A : Mx} (h : zol w v n m A) (hb : Below w.heap.size w w') : zol w' v n m A :=
 ⟨h.sl, h.len, fun i hi => by obtain ⟨r, h1, h2⟩ := h.row i hi; exact ⟨r, zba hb h1, h2.below hb⟩⟩
theorem ztf {P : Program} (t e : TypeId) (i : TypeInfo) (ht : P.underlying t = some (.slice e)) (hi : P.info? e = some i) (hz : i.zero = some (.agg #[.bool false, .slice none 0 0, .slice none 0 0])) (hsize : i.size = 3) (hby : i.bytes = 56)
 {ops : Array Oper} {o : Oper} {a : Act} {w : World} {K : Act → World → Prop} {Q : Exit → Act → World → Prop} {E : Prop} (hgd : o.guard = none) (s x : Operand)
 (ho : o.op = .call { callee := .builtin .append, args := #[s, x], argTypes := #[t, t] }) (B : Nat) (v : Value) (q : List Rat) (hs : a.eval s = v) (hown : zbb w e B v q) (c0 c1 c2 : Value) (r : Rat) (hf : zya w (.agg #[c0, c1, c2]) r) (g : Nat) (hxe : a.eval x = .slice (some ⟨g, 0, none⟩) 1 1)
 (hc : zbf w g #[c0, c1, c2]) (hn : q.length ≤ 1000) (hbase : B ≤ w.heap.size)
 (h : ∀ v' w', zbb w' e B v' (q ++ [r]) → w.grownBy w' v.ownBlock → zqb w v → (v'.ownBlock = v.ownBlock ∨ v'.ownBlock = some w.heap.size) → K (a.put o.dst v') w') :
 if Region.wanted o (yielded ops a.tmps) = true then Oper.wp P o a w K Q else E := by
 obtain ⟨xs, h1, h2⟩ := hown
 have hl : xs.length = q.length * 3 := h1.clen
 obtain ⟨a1, b1, ha, h4, h5⟩ := id hf
 injection ha with ha
 injection ha with ha
 simp only [List.cons.injEq, and_true] at ha
 obtain ⟨rfl, rfl, rfl⟩ := ha
 obtain ⟨p1, p2, p3, rfl, _⟩ := h4.v.sl
 obtain ⟨s1, s2, s3, rfl, _⟩ := h5.v.sl
 rw [if_pos (by simp [Region.wanted, hgd])]
 obtain ⟨v', w', hr, k2, k3, k4, k5⟩ := ztd (P := P) w B t o.type e i _ 3 56 ht hi hz hsize hby rfl (by decide) v q.length xs h1.own ⟨g, 0, none⟩ 1 1 [.bool (decide (r < 0)), .slice p1 p2 p3, .slice s1 s2 s3] rfl
  (fun j u hu => by
   rw [Addr.add_lit, Nat.zero_add]
   exact hc.cell j (by simpa using hu)) (fun u hu => by simp at hu; rcases hu with rfl | rfl | rfl <;> rfl) (by simp [maxLen]; omega) (by omega) hbase h1.nl (fun u hu z => by simp at hu; rcases hu with rfl | rfl | rfl <;> simp) (fun c hc z => by
   have hc2 : c ∈ [Value.bool false, .slice none 0 0, .slice none 0 0] := hc
   simp at hc2; rcases hc2 with rfl | rfl <;> simp)
 unfold Oper.wp execOp
 simp only [ho, resolve, invoke, builtin, Sem.run_bind, Sem.run_pure, Result.andThen_ok, List.map_toArray, List.map_cons, List.map_nil, hs, hxe, hr]
 refine h v' w' ⟨_, ?_, (zne.snoc (r := r) h2 hl hf).grown k3 h1.nl⟩ k3 h1.nl k4
 rw [List.length_append]
 exact ⟨k2, k5⟩
theorem zth {P : Program} (t e : TypeId) (i : TypeInfo) (h1 : P.underlying t = some (.slice e)) (h2 : P.info? e = some i) (h3 : i.zero = some (.slice none 0 0)) (h4 : i.size = 1) (h5 : i.bytes = 24)
 (w : World) {ops : Array Oper} {rest : List Oper} {o : Oper} {a : Act} {Q : Exit → Act → World → Prop} (hg : o.guard = none) (l c : Operand) (hop : o.op = Op.makeSlice t l c)
 (B : Nat) (u : Int) (n : Nat) (hu : u = n) (hl : a.eval l = .int .i64 u) (hc : a.eval c = .int .i64 u) (b2 : n ≤ 1000) (b4 : B ≤ w.heap.size)
 (hK : ∀ v w', zuc w' e B 1 v n (List.replicate n (.slice none 0 0)) → Below w.heap.size w w' → wpList P ops Q rest (a.put o.dst v) w') :
 wpList P ops Q (o :: rest) a w := by
 subst hu
 refine wpList_make_full w hg l c t hop B e i _ 1 h1 h2 h3 h4 .i64 .i64 n n n hl hc rfl rfl (by rw [h5]; omega) (by unfold maxLen; omega) b4 ?_
 intro w' hown hgr
 have hcs : (madeCells (Value.slice none 0 0).cells (n * 1)).toList = List.replicate n (.slice none 0 0) := by
  rw [show (Value.slice none 0 0).cells = #[.slice none 0 0] from rfl, Nat.mul_one, toList_madeCells_one]
 rw [hcs] at hown
 refine hK _ w' ⟨hown, ?_⟩ (zla hgr (Nat.le_refl _) (fun k hk => by cases hk))
 intro g' hg' cur e' fz hcc x hx z
 rcases hown.2 with ⟨h', _⟩ | ⟨g2, cap, cur2, h', hb, hgg, _, _, hs, ht⟩
 ·cases h'
 ·injection h' with k4 k5 k6
  injection k4 with k4
  injection k4 with k4
  simp only [Value.ownBlock, Option.some.injEq] at hg'
  rw [← hg', k4, hgg] at hcc
  injection hcc with hcc
  injection hcc with hcc _ _
  subst hcc
  have e9 : cur2.toList = List.replicate n (.slice none 0 0) := by
   rw [← ht]
   exact (List.take_of_length_le (by rw [Array.length_toList, hs, ← k6]; exact Nat.le_refl _)).symm
  rw [e9] at hx
  rw [List.eq_of_mem_replicate hx]; simp
structure zej (w : World) (B : Nat) (vO : Value) (rs : List Value) (n : Nat) (qs : Nat → List Rat) : Prop where
 own : zuc w 25 B 1 vO n rs
 row : ∀ (i : Nat) (h : i < rs.length), zbb w 38 B rs[i] (qs i)
 ap : ∀ (i j : Nat) (hi : i < rs.length) (hj : j < rs.length), i ≠ j → rs[i].ownBlock = none ∨ rs[i].ownBlock ≠ rs[j].ownBlock
section
variable {w w' : World} {B n : Nat} {vO : Value} {rs : List Value} {qs : Nat → List Rat}
theorem zej.rl (h : zej w B vO rs n qs) : rs.length = n := by have := h.own.clen; omega
theorem zej.start (h : zuc w 25 B 1 vO n (List.replicate n (.slice none 0 0))) : zej w B vO (List.replicate n (.slice none 0 0)) n (fun _ => []) :=
 ⟨h, fun i hi => by rw [List.getElem_replicate]; exact zbb.nil _ _ _, fun i j hi hj _ => Or.inl (by rw [List.getElem_replicate]; rfl)⟩
theorem zej.below (h : zej w B vO rs n qs) (hb : Below w.heap.size w w') : zej w' B vO rs n qs :=
 ⟨h.own.below hb, fun i hi => (h.row i hi).moves (zec.below (B := B) hb) (Nat.le_refl _), h.ap⟩
theorem zej.set (h : zej w B vO rs n qs) {i : Nat} (hi : i < rs.length) {v' : Value} {q : List Rat} (hB : B ≤ w.heap.size) (hv : zbb w' 38 B v' q) (hg : w.grownBy w' rs[i].ownBlock) (hn : zqb w rs[i]) (hob : v'.ownBlock = rs[i].ownBlock ∨ v'.ownBlock = some w.heap.size) :
 zej (w'.setCell (ptr vO i) v') B vO (rs.set i v') n (fun k => if k = i then q else qs k) ∧ Below B w (w'.setCell (ptr vO i) v') := by
 obtain ⟨own, row, ap⟩ := h
 obtain ⟨ys, y1, y2⟩ := id (row i hi)
 have own' := own.grown hg (own.kinds y1 (by decide))
 have hlen : rs.length = n := by have := own.clen; omega
 obtain ⟨s1, s2⟩ := own'.set1 i hi v' (fun z e => by obtain ⟨a1, a2, a3, e1, _⟩ := hv.sl; rw [e1] at e; cases e)
 have hbr := (row i hi).block
 have hbo := own.block
 refine ⟨⟨s1, fun k hk => ?_, fun j k hj hk hjk => ?_⟩, (zla hg hB (fun k hk => (hbr k hk).1)).trans (zla s2 (Nat.le_trans hB hg.size) (fun k hk => (hbo k hk).1))⟩
 ·have hk0 : k < rs.length := by simpa using hk
  by_cases hki : k = i
  ·subst hki
   rw [List.getElem_set_self, if_pos rfl]
   obtain ⟨zs, z1, z2⟩ := id hv
   exact hv.grown s2 own'.nl (z1.kinds own' (by decide))
  ·rw [List.getElem_set_ne (fun e => hki e.symm), if_neg hki]
   obtain ⟨zs, z1, z2⟩ := id (row k hk0)
   have hk1 := (row k hk0).grown hg hn (ap k i hk0 hi hki)
   exact hk1.grown s2 own'.nl (z1.kinds own (by decide))
 ·have hj0 : j < rs.length := by simpa using hj
  have hk0 : k < rs.length := by simpa using hk
  by_cases h1 : j = i
  ·subst h1
   rw [List.getElem_set_self, List.getElem_set_ne hjk]
   rcases hob with h | h
   ·rw [h]; exact ap j k hj0 hk0 hjk
   ·rw [h]; refine Or.inr (fun e => ?_)
    have := ((row k hk0).block _ e.symm).2
    omega
  ·rw [List.getElem_set_ne (fun e => h1 e.symm)]
   by_cases h2 : k = i
   ·subst h2
    rw [List.getElem_set_self]
    rcases hob with h | h
    ·rw [h]; exact ap j k hj0 hk0 hjk
    ·rw [h]; refine Or.inr (fun e => ?_)
     have := ((row j hj0).block _ e).2
     omega
   ·rw [List.getElem_set_ne (fun e => h2 e.symm)]; exact ap j k hj0 hk0 hjk
end
@[go_sem ↓] theorem ztl {P : Program} (w : World) {t : TypeId} {v : Value} {lo : Int} (h : zlc v) (ht : P.underlying t = some (.slice (P.elem t))) (h0 : 0 ≤ lo) (h1 : lo ≤ (slen v : Int)) :
 (Instr.slice t v (some (.int .i64 lo)) none none).run P w = ((sizeOf (P.elem t)).run P w).andThen fun s w => .ok (cut s v lo.toNat (slen v)) w := by
  obtain ⟨a, n, cap, rfl, hn, _, h3⟩ := h
  simp only [slen] at h1
  have h00 : (n : Int) ≤ cap := by omega
  simp [Instr.slice, run_underlying ht, Instr.sliceBounds, Instr.sliceBound, asIntOf, h0, h1, h00, cut, slen]
theorem zza.drop {w : World} {v : Value} {q : List Rat} (h : zza w v q) (lo : Nat) (hlo : lo < q.length) : zza w (cut 3 v lo (slen v)) (q.drop lo) := by
 have hl := h.len
 have hle := h.sl.le
 refine ⟨h.sl.cut (by omega) hle.1, by rw [h.sl.slen_cut, List.length_drop, hl], fun j hj => ?_⟩
 have hj2 : lo + j < q.length := by rw [List.length_drop] at hj; omega
 obtain ⟨a, b, h1, h2, h3, h4, h5⟩ := h.at' (lo + j) hj2
 have e : (q.drop lo)[j]'hj = q[lo + j]'hj2 := by rw [List.getElem_drop]
 rw [e]
 rw [zmk h.sl (by omega), zmk h.sl (by omega), zmk h.sl (by omega)]
 exact ⟨a, b, by rw [show lo * 3 + j * 3 = (lo + j) * 3 by omega]; exact h1, by rw [show lo * 3 + (j * 3 + 1) = (lo + j) * 3 + 1 by omega]; exact h2, by rw [show lo * 3 + (j * 3 + 2) = (lo + j) * 3 + 2 by omega]; exact h3, h4, h5⟩
theorem zej.congr {w : World} {B n : Nat} {vO : Value} {rs : List Value} {p q : Nat → List Rat} (h : zej w B vO rs n p) (hpq : ∀ i, i < n → p i = q i) : zej w B vO rs n q :=
 ⟨h.own, fun i hi => by rw [← hpq i (by rw [← h.rl]; exact hi)]; exact h.row i hi, h.ap⟩
theorem zzj (k : Nat) (f : Nat → Rat) : zfb k f ++ [f k] = zfb (k + 1) f := by
 unfold zfb; rw [List.range_succ, List.map_append]; rfl
def rawM (n m : Nat) (A : Mx) : List (List RF) := (List.range n).map fun i => (zfb m (A i)).map RF.of
theorem znc (n m : Nat) (A : Mx) : (rawM n m A).length = n := by simp [rawM]
theorem rawM_get (n m : Nat) (A : Mx) (i : Nat) (h : i < (rawM n m A).length) : (rawM n m A)[i] = (zfb m (A i)).map RF.of := by simp [rawM]
theorem zol.raw {w : World} {v : Value} {n m : Nat} {A : Mx} (h : zol w v n m A) : MatN w v (rawM n m A) :=
 ⟨h.sl, by rw [h.len, znc], fun j hj => by
  rw [znc] at hj
  obtain ⟨r, h1, h2⟩ := h.row j hj
  exact ⟨r, h1, by rw [rawM_get]; exact h2.raw⟩⟩
def fitM (n m : Nat) (A : Mx) : Prop := ∀ i j, i < n → j < m → fits (A i j)
theorem zym {n m : Nat} {A : Mx} {l : List RF} (h : l ∈ rawM n m A) : ∃ i, i < n ∧ l = (zfb m (A i)).map RF.of := by
 obtain ⟨i, hi, rfl⟩ := List.mem_map.1 h
 exact ⟨i, List.mem_range.1 hi, rfl⟩
theorem rawM_ok {n m : Nat} {A : Mx} (hf : fitM n m A) : ∀ l ∈ rawM n m A, ∀ x ∈ l, x.ok := by
 intro l hl x hx
 obtain ⟨i, hi, rfl⟩ := zym hl
 obtain ⟨q, hq, rfl⟩ := List.mem_map.1 hx
 obtain ⟨j, hj, rfl⟩ := List.mem_map.1 hq
 exact RF.of_ok (hf i j hi (List.mem_range.1 hj))
theorem zzm {n m : Nat} {A : Mx} : ∀ l ∈ rawM n m A, l.length = m := by
 intro l hl
 obtain ⟨i, hi, rfl⟩ := zym hl
 rw [List.length_map, zfa]
theorem znh {n m : Nat} {A : Mx} (hn : 1 ≤ n) : ((rawM n m A).headD []).length = m := by
 cases h : rawM n m A with
 | nil => have := znc n m A; rw [h] at this; simp at this; omega
 | cons a l => exact zzm (A := A) (n := n) a (by rw [h]; simp)
def wtF (n m : Nat) (A : Mx) : Nat := wtsM (rawM n m A)
theorem zza.setc {w : World} {v : Value} {q : List Rat} (h : zza w v q) {p : Addr} {x : Value} (hp : (base v).block ≠ p.block) (hc : w.cell? p = some x) (hx : ∀ z, x ≠ .int .u32 z) (u : Value) : zza (w.setCell p u) v q := by
 have hne : ∀ k, p ≠ ptr v k := fun k e => hp (by rw [e, zra])
 refine ⟨h.sl, h.len, fun j hj => ?_⟩
 obtain ⟨a, b, h1, h2, h3, h4, h5⟩ := h.at' j hj
 exact ⟨a, b, by rw [World.cell?_setCell_other _ _ _ _ (hne _)]; exact h1, by rw [World.cell?_setCell_other _ _ _ _ (hne _)]; exact h2, by rw [World.cell?_setCell_other _ _ _ _ (hne _)]; exact h3, ⟨h4.v.over hc hx u, h4.2⟩, ⟨h5.v.over hc hx u, h5.2⟩⟩
theorem fracs_one {w : World} {b : Nat} {x y z : Value} {r : Rat} (hb : zbf w b #[x, y, z]) (hf : zya w (.agg #[x, y, z]) r) : zza w (.slice (some ⟨b, 0, none⟩) 1 1) [r] := by
 obtain ⟨a1, b1, ha, h4, h5⟩ := hf
 injection ha with ha
 injection ha with ha
 simp only [List.cons.injEq, and_true] at ha
 obtain ⟨rfl, rfl, rfl⟩ := ha
 refine ⟨⟨_, 1, 1, rfl, Nat.le_refl _, by simp [maxLen], fun e => by cases e⟩, rfl, fun j hj => ?_⟩
 obtain rfl : j = 0 := by simp at hj; omega
 have hp : ∀ k, ptr (.slice (some ⟨b, 0, none⟩) 1 1) k = ⟨b, k, none⟩ := fun k => by simp only [ptr, base, Addr.add_lit, Nat.zero_add]
 exact ⟨y, z, by rw [hp]; exact hb.cell 0 rfl, by rw [hp]; exact hb.cell 1 rfl, by rw [hp]; exact hb.cell 2 rfl, h4, h5⟩
theorem mat_one {w : World} {b : Nat} {r : Value} {q : List RF} (hb : zbf w b #[r]) (hq : zci w r q) : MatN w (.slice (some ⟨b, 0, none⟩) 1 1) [q] := by
 refine ⟨⟨_, 1, 1, rfl, Nat.le_refl _, by simp [maxLen], fun e => by cases e⟩, rfl, fun j hj => ?_⟩
 obtain rfl : j = 0 := by simp at hj; omega
 have hp : ∀ k, ptr (.slice (some ⟨b, 0, none⟩) 1 1) k = ⟨b, k, none⟩ := fun k => by simp only [ptr, base, Addr.add_lit, Nat.zero_add]
 exact ⟨r, by rw [hp]; exact hb.cell 0 rfl, hq⟩
theorem zoh (l : List Rat) : qs (l.map RF.of) = l := by
 unfold qs; rw [List.map_map]
 have : (RF.q ∘ RF.of) = id := by funext q; exact RF.of_q q
 rw [this, List.map_id]
theorem wts_rowL {n K : Nat} {f : Nat → Rat} (h : ∀ j, j < n → wt (f j) ≤ K) : wts (zfb n f) ≤ n * K := by
 induction n with
 | zero => simp [zfb, wts]
 | succ n ih =>
   have h1 := ih fun j hj => h j (by omega)
   have h2 := h n (Nat.lt_succ_self n)
   have e : zfb (n + 1) f = zfb n f ++ [f n] := by unfold zfb; rw [List.range_succ, List.map_append]; rfl
   rw [e, wts_snoc, Nat.succ_mul]
   omega
theorem wts_rawV {n K : Nat} {f : Nat → Rat} (h : ∀ j, j < n → wt (f j) ≤ K) : wts (qs ((zfb n f).map RF.of)) ≤ n * K := by
 rw [zoh]; exact wts_rowL h
theorem sum_map_le {l : List (List RF)} {g : List RF → Nat} {K : Nat} (h : ∀ x ∈ l, g x ≤ K) : (l.map g).sum ≤ l.length * K := by
 induction l with
 | nil => simp
 | cons x l ih =>
   have h1 := h x (by simp)
   have h2 := ih fun y hy => h y (by simp [hy])
   rw [List.map_cons, List.sum_cons, List.length_cons, Nat.succ_mul]
   omega
theorem wtF_le {n m K : Nat} {A : Mx} (h : ∀ i j, i < n → j < m → wt (A i j) ≤ K) : wtF n m A ≤ n * (m * K) := by
 unfold wtF wtsM
 have h2 := sum_map_le (l := rawM n m A) (g := fun l => wts (qs l)) (K := m * K) fun l hl => by
  obtain ⟨i, hi, rfl⟩ := zym hl
  exact wts_rawV fun j hj => h i j hi hj
 rw [znc] at h2
 exact h2
theorem keep6w {w0 X Y : World} {a1 a2 a3 a4 a5 a6 : Addr} {x1 x2 x3 x4 x5 x6 : Value} (h : X.cell? a1 = some x1 ∧ X.cell? a2 = some x2 ∧ X.cell? a3 = some x3 ∧ X.cell? a4 = some x4 ∧ X.cell? a5 = some x5 ∧ X.cell? a6 = some x6 ∧ Below w0.heap.size w0 X) (hb : Below X.heap.size X Y) :
 Y.cell? a1 = some x1 ∧ Y.cell? a2 = some x2 ∧ Y.cell? a3 = some x3 ∧ Y.cell? a4 = some x4 ∧ Y.cell? a5 = some x5 ∧ Y.cell? a6 = some x6 ∧ Below w0.heap.size w0 Y := by
 obtain ⟨k1, k2, k3, k4, k5, k6, k7⟩ := h
 exact ⟨zba hb k1, zba hb k2, zba hb k3, zba hb k4, zba hb k5, zba hb k6, zaa k7 hb⟩
theorem keep6a {w0 X : World} {a1 a2 a3 a4 a5 a6 : Addr} {x1 x2 x3 x4 x5 x6 : Value} (h : w0.cell? a1 = some x1 ∧ w0.cell? a2 = some x2 ∧ w0.cell? a3 = some x3 ∧ w0.cell? a4 = some x4 ∧ w0.cell? a5 = some x5 ∧ w0.cell? a6 = some x6) (hb : Below w0.heap.size w0 X) :
 X.cell? a1 = some x1 ∧ X.cell? a2 = some x2 ∧ X.cell? a3 = some x3 ∧ X.cell? a4 = some x4 ∧ X.cell? a5 = some x5 ∧ X.cell? a6 = some x6 ∧ Below w0.heap.size w0 X := by
 obtain ⟨k1, k2, k3, k4, k5, k6⟩ := h
 exact ⟨zba hb k1, zba hb k2, zba hb k3, zba hb k4, zba hb k5, zba hb k6, hb⟩
theorem zxh {w0 X : World} {a1 a2 a3 a4 a5 a6 : Addr} {x1 x2 x3 x4 x5 x6 : Value} (h : X.cell? a1 = some x1 ∧ X.cell? a2 = some x2 ∧ X.cell? a3 = some x3 ∧ X.cell? a4 = some x4 ∧ X.cell? a5 = some x5 ∧ X.cell? a6 = some x6 ∧ Below w0.heap.size w0 X) : Below w0.heap.size w0 X := h.2.2.2.2.2.2
theorem keep6s {w0 X : World} {a1 a2 a3 a4 a5 a6 : Addr} {x1 x2 x3 x4 x5 x6 : Value} (h : w0.cell? a1 = some x1 ∧ w0.cell? a2 = some x2 ∧ w0.cell? a3 = some x3 ∧ w0.cell? a4 = some x4 ∧ w0.cell? a5 = some x5 ∧ w0.cell? a6 = some x6) (hb : Below w0.heap.size w0 X) {b : Nat} (hB : w0.heap.size ≤ b) (x y z : Value) :
 (((X.setCell ⟨b, 0, none⟩ x).setCell ⟨b, 1, none⟩ y).setCell ⟨b, 2, none⟩ z).cell? a1 = some x1 ∧ (((X.setCell ⟨b, 0, none⟩ x).setCell ⟨b, 1, none⟩ y).setCell ⟨b, 2, none⟩ z).cell? a2 = some x2 ∧ (((X.setCell ⟨b, 0, none⟩ x).setCell ⟨b, 1, none⟩ y).setCell ⟨b, 2, none⟩ z).cell? a3 = some x3 ∧
 (((X.setCell ⟨b, 0, none⟩ x).setCell ⟨b, 1, none⟩ y).setCell ⟨b, 2, none⟩ z).cell? a4 = some x4 ∧ (((X.setCell ⟨b, 0, none⟩ x).setCell ⟨b, 1, none⟩ y).setCell ⟨b, 2, none⟩ z).cell? a5 = some x5 ∧ (((X.setCell ⟨b, 0, none⟩ x).setCell ⟨b, 1, none⟩ y).setCell ⟨b, 2, none⟩ z).cell? a6 = some x6 ∧ Below w0.heap.size w0 (((X.setCell ⟨b, 0, none⟩ x).setCell ⟨b, 1, none⟩ y).setCell ⟨b, 2, none⟩ z) :=
 keep6a h (zha hb hB x y z)
@[go_sem] theorem slen_lit2 (a : Option Addr) (n c : Nat) : slen (.slice a n c) = n := rfl
def oth (y : Int) (n : Nat) : Int := if n % 2 = 0 then y + ((n / 2 + 1 : Nat) : Int) else y - ((n / 2 + 1 : Nat) : Int)
theorem oth_ne (y : Int) (n : Nat) : oth y n ≠ y := by unfold oth; split <;> omega
@[go_sem] theorem oth_beq (y : Int) (n : Nat) : (oth y n == y) = false := by simpa using oth_ne y n
@[go_sem] theorem beq_oth (y : Int) (n : Nat) : (y == oth y n) = false := by simpa using fun h => oth_ne y n h.symm
@[go_sem] theorem oth_bne (y : Int) (n : Nat) : (oth y n != y) = true := by simpa using oth_ne y n
@[go_sem] theorem bne_oth (y : Int) (n : Nat) : (y != oth y n) = true := by simpa using fun h => oth_ne y n h.symm
@[go_sem] theorem int_beq_self (y : Int) : (y == y) = true := by simp
@[go_sem] theorem int_bne_self (y : Int) : (y != y) = false := by simp
end Go.Proofs.YtlpdkbmmbdfoiaaGreat
namespace Go.Proofs.YtlpdkbmmbdfoiaaGreat
def alikeQ (own : Int) (p q : List Rat) : Prop := ∀ (i : Nat) (x y : Rat), (i : Int) ≠ own → p[i]? = some x → q[i]? = some y → x = y
def agree (bl : List Int) (f : Nat → List Rat) (g : Nat → Bool) (i j : Nat) : Prop := ∀ b, bl[i]? = some b → bl[j]? = some b → g i = g j ∧ alikeQ b (f i) (f j)
end Go.Proofs.YtlpdkbmmbdfoiaaGreat
namespace Go.Proofs.YtlpdkbmmbdfoiaaGreat
open Go.RowKit
structure CQ where
 rates : List (List Rat)
 start : List Rat
 lost : List Bool
end Go.Proofs.YtlpdkbmmbdfoiaaGreat
namespace Go.Proofs.YtlpdkbmmbdfoiaaGreat
theorem wts_all3 {l : List Rat} {K : Nat} (h : ∀ q ∈ l, wt q ≤ K) : wts l ≤ l.length * K := by
 induction l with
 | nil => simp [wts]
 | cons x l ih =>
   have h1 := h x (by simp)
   have h2 := ih fun q hq => h q (by simp [hq])
   rw [zcg, List.length_cons, Nat.succ_mul]
   omega
section
variable {c : RC}
end
end Go.Proofs.YtlpdkbmmbdfoiaaGreat
