/-
  Tape.Law: the state of its loops; what a law of a tape is. No code is walked here.
-/
import Derived.Test.YtlpdkbmmbdfoiaaGreatFOrd
import Derived.Test.YtlpdkbmmbdfoiaaGreatFPh11
import Derived.Test.YtlpdkbmmbdfoiaaGreatFPp4
import Derived.Test.YtlpdkbmmbdfoiaaGreatFTa6
set_option linter.unusedVariables false
set_option linter.unusedSimpArgs false
namespace Go.Proofs.YtlpdkbmmbdfoiaaGreat
open Go.RowKit
theorem TMv.low {bt B : Nat} {w0 w w' : World} (h : TMv bt w0 w) (hb : Below B w w') (hB : w0.heap.size ≤ B) : TMv bt w0 w' := by
 refine ⟨Nat.le_trans h.size hb.size, fun g h1 h2 => ?_, fun p x hp hx => ?_, fun p hp => ?_, fun B' h1 h2 => (h.below B' h1 h2).trans (hb.mono (Nat.le_trans h2 hB))⟩
 ·rw [hb.block g (by omega)]; exact h.row g h1 h2
 ·have hl := cell_lt hp
  rw [hb.cell (by omega)]; exact h.cell p x hp hx
 ·rw [hb.frozen (by omega)]; exact h.frozen p hp
def Fr4 (w : World) (bt : Nat) (wx : World) : Prop := C4 wx w.heap.size (.string { data := #[] }) (.slice none 0 0) (.slice none 0 0) (.slice none 0 0) ∧ TMv bt w wx
theorem Fr4.tmv {w wx wy : World} {bt : Nat} (h : Fr4 w bt wx) (hm : TMv bt wx wy) : Fr4 w bt wy :=
 ⟨h.1.tmv hm (fun z => by simp) (fun z => by simp) (fun z => by simp) (fun z => by simp), h.2.trans hm⟩
theorem Fr4.low {w wx wy : World} {bt B : Nat} (h : Fr4 w bt wx) (hb : Below B wx wy) (hB : w.heap.size < B) : Fr4 w bt wy := by
 obtain ⟨⟨lt, c0, c1, c2, c3, f0, f1, f2, f3⟩, h2⟩ := h
 exact ⟨⟨Nat.lt_of_lt_of_le lt hb.size, by rw [hb.cell hB]; exact c0, by rw [hb.cell hB]; exact c1, by rw [hb.cell hB]; exact c2, by rw [hb.cell hB]; exact c3, by rw [hb.frozen hB]; exact f0, by rw [hb.frozen hB]; exact f1, by rw [hb.frozen hB]; exact f2, by rw [hb.frozen hB]; exact f3⟩, h2.low hb (Nat.le_of_lt hB)⟩
theorem Fr4.set {w wx : World} {bt : Nat} (h : Fr4 w bt wx) (p : Addr) (hp : w.heap.size < p.block) (u : Value) : Fr4 w bt (wx.setCell p u) :=
 ⟨h.1.other (by omega) u, h.2.set (Nat.le_of_lt hp) u⟩
theorem Fr4.set3 {w wx : World} {bt b : Nat} (h : Fr4 w bt wx) (hb : w.heap.size < b) (u0 u1 u2 : Value) : Fr4 w bt (((wx.setCell ⟨b, 0, none⟩ u0).setCell ⟨b, 1, none⟩ u1).setCell ⟨b, 2, none⟩ u2) :=
 ((h.set ⟨b, 0, none⟩ hb u0).set ⟨b, 1, none⟩ hb u1).set ⟨b, 2, none⟩ hb u2
theorem LwT.set3 {w : World} {bt : Nat} {l : List Nat} {B b5 : Nat} {vs ve vr : Value} {rs : List Value} {S E : List Rat} {R : List (List Rat)} (h : LwT w bt l B b5 vs ve vr rs S E R) {b : Nat} {t : Bool} {a1 a2 : Option Addr} {l1 k1 l2 k2 : Nat} (hC : C3 w b (.bool t) (.slice a1 l1 k1) (.slice a2 l2 k2)) (hb : B ≤ b)
 (hs : vs.ownBlock = none ∨ vs.ownBlock ≠ some b) (he : ve.ownBlock = none ∨ ve.ownBlock ≠ some b) (hv : vr.ownBlock = none ∨ vr.ownBlock ≠ some b) (hrs : ∀ (j : Nat) (h : j < rs.length), rs[j].ownBlock = none ∨ rs[j].ownBlock ≠ some b) (u0 u1 u2 : Value) :
 LwT (((w.setCell ⟨b, 0, none⟩ u0).setCell ⟨b, 1, none⟩ u1).setCell ⟨b, 2, none⟩ u2) bt l B b5 vs ve vr rs S E R := by
 have one : ∀ (w : World) (k : Nat) (x u : Value), LwT w bt l B b5 vs ve vr rs S E R → w.cell? ⟨b, k, none⟩ = some x → (∀ z, x ≠ .int .u32 z) → (∀ z, x ≠ .int .u8 z) → LwT (w.setCell ⟨b, k, none⟩ u) bt l B b5 vs ve vr rs S E R := fun w k x u h hc h32 h8 => by
  obtain ⟨⟨a, ht⟩, box, st, ex, ra, rl, rows, se, sz, b1, b2, b3⟩ := h
  refine ⟨⟨a, ht.set (by show b ≠ bt; omega) hc h8 u⟩, box.other (by show b ≠ b5; omega) u, st.over hs hc h32 u, ex.over he hc h32 u, ra.over hv u, rl, fun j h1 h2 => ⟨(rows j h1 h2).1.over (hrs j h1) hc h32 u, (rows j h1 h2).2⟩, se, by simpa [World.setCell] using sz, b1, b2, b3⟩
 obtain ⟨_, c0, c1, c2, _, _, _⟩ := hC
 have h1 := one w 0 _ u0 h c0 (fun z => by simp) (fun z => by simp)
 have h2 := one _ 1 _ u1 h1 (by rw [World.cell?_setCell_other _ _ _ _ (by simp)]; exact c1) (fun z => by simp) (fun z => by simp)
 exact one _ 2 _ u2 h2 (by rw [World.cell?_setCell_other _ _ _ _ (by simp), World.cell?_setCell_other _ _ _ _ (by simp)]; exact c2) (fun z => by simp) (fun z => by simp)
theorem LwT.apart {w : World} {bt : Nat} {l : List Nat} {B b5 : Nat} {vs ve vr : Value} {rs : List Value} {S E : List Rat} {R : List (List Rat)} (h : LwT w bt l B b5 vs ve vr rs S E R) {b : Nat} (hb : w.heap.size ≤ b) :
 (vs.ownBlock = none ∨ vs.ownBlock ≠ some b) ∧ (ve.ownBlock = none ∨ ve.ownBlock ≠ some b) ∧ (vr.ownBlock = none ∨ vr.ownBlock ≠ some b) ∧ ∀ (j : Nat) (h : j < rs.length), rs[j].ownBlock = none ∨ rs[j].ownBlock ≠ some b := by
 have key : ∀ v : Value, (∀ g, v.ownBlock = some g → B ≤ g ∧ g < w.heap.size) → v.ownBlock = none ∨ v.ownBlock ≠ some b := fun v hv => by
  cases ho : v.ownBlock with
  | none => exact Or.inl rfl
  | some g =>
    refine Or.inr fun e => ?_
    injection e with e
    have := (hv g ho).2
    omega
 exact ⟨key _ h.st.block, key _ h.ex.block, key _ h.ra.block, fun j hj => key _ (h.rows j hj (by rw [← h.rl]; exact hj)).1.block⟩
structure InL (w0 : World) (bt : Nat) (l : List Nat) (B b5 : Nat) (vs ve vr : Value) (wA : World) (rv : Value) (row : List Rat) (w : World) : Prop where
 fr : zya w 38 wA.heap.size rv row
 mv : zhb B wA w
 tp : ∃ a, zvf w bt l B a
 bx : C4 w b5 (.string { data := #[] }) vs vr ve
 fm : Fr4 w0 bt w
 nums : bt < B ∧ b5 < B ∧ w0.heap.size < B ∧ B ≤ wA.heap.size ∧ zgc vs ∧ zgc vr ∧ zgc ve
section
variable {w0 wA w w' : World} {bt B b5 : Nat} {l : List Nat} {vs ve vr rv : Value} {row : List Rat}
theorem InL.below (h : InL w0 bt l B b5 vs ve vr wA rv row w) (hb : Below w.heap.size w w') : InL w0 bt l B b5 vs ve vr wA rv row w' := by
 obtain ⟨fr, mv, ⟨a, tp⟩, bx, fm, nums⟩ := h
 exact ⟨fr.moves (zhb.below hb) (Nat.le_refl _), mv.trans (zhb.below hb), ⟨a, tp.below hb⟩, bx.belowS hb, fm.tmv (TMv.of_below hb), nums⟩
theorem InL.tmv (h : InL w0 bt l B b5 vs ve vr wA rv row w) {a' : Nat} (hm : TMv bt w w') (hta : znb w' bt l a') : InL w0 bt l B b5 vs ve vr wA rv row w' := by
 obtain ⟨fr, mv, ⟨a, tp⟩, bx, fm, n1, n2, n3, n4, n5, n6, n7⟩ := h
 have hmv : zhb B w w' := hm.moves n1
 exact ⟨fr.moves hmv n4, mv.trans hmv, ⟨a', tp.tmv hm hta⟩, bx.tmv hm (fun z => by simp) n5.noInt n6.noInt n7.noInt, fm.tmv hm, n1, n2, n3, n4, n5, n6, n7⟩
theorem InL.set (h : InL w0 bt l B b5 vs ve vr wA rv row w) {p : Addr} {x : Value} (hp : wA.heap.size ≤ p.block) (hr : rv.ownBlock = none ∨ rv.ownBlock ≠ some p.block) (hc : w.cell? p = some x) (hx : ∀ z, x ≠ .int .u32 z) (hx8 : ∀ z, x ≠ .int .u8 z) (u : Value) :
 InL w0 bt l B b5 vs ve vr wA rv row (w.setCell p u) := by
 obtain ⟨fr, mv, ⟨a, tp⟩, bx, fm, n1, n2, n3, n4, n5, n6, n7⟩ := h
 exact ⟨fr.over hr hc hx u, mv.high hp hc hx u, ⟨a, tp.set (by omega) hc hx8 u⟩, bx.other (by omega) u, fm.set p (by omega) u, n1, n2, n3, n4, n5, n6, n7⟩
theorem InL.grow (h : InL w0 bt l B b5 vs ve vr wA rv row w) {rv' : Value} {row' : List Rat} (hv : zya w' 38 wA.heap.size rv' row') (hg : w.grownBy w' rv.ownBlock) (hn : zlb w rv) : InL w0 bt l B b5 vs ve vr wA rv' row' w' := by
 obtain ⟨fr, mv, ⟨a, tp⟩, bx, fm, n1, n2, n3, n4, n5, n6, n7⟩ := h
 have hb : Below wA.heap.size w w' := zid hg mv.size fr.block
 have hb2 := hb.mono n4
 exact ⟨hv, mv.grow hg hn (fun k hk => (fr.block k hk).1), ⟨a, tp.low hb2 n1⟩, bx.below hb2 n2, fm.low hb2 n3, n1, n2, n3, n4, n5, n6, n7⟩
theorem InL.set3 (h : InL w0 bt l B b5 vs ve vr wA rv row w) {b : Nat} {t0 : Bool} {x0 y0 : Value} (hC : C3 w b (.bool t0) x0 y0) (sx : zgc x0) (sy : zgc y0) (hb : wA.heap.size ≤ b) (hr : rv.ownBlock = none ∨ rv.ownBlock ≠ some b) (u0 u1 u2 : Value) :
 InL w0 bt l B b5 vs ve vr wA rv row (((w.setCell ⟨b, 0, none⟩ u0).setCell ⟨b, 1, none⟩ u1).setCell ⟨b, 2, none⟩ u2) := by
 obtain ⟨_, c0, c1, c2, _, _, _⟩ := hC
 have h1 := h.set (p := ⟨b, 0, none⟩) hb hr c0 (fun z => by simp) (fun z => by simp) u0
 have h2 := h1.set (p := ⟨b, 1, none⟩) hb hr (by rw [World.cell?_setCell_other _ _ _ _ (by simp)]; exact c1) sx.noLimb sx.noByte u1
 exact h2.set (p := ⟨b, 2, none⟩) hb hr (by rw [World.cell?_setCell_other _ _ _ _ (by simp), World.cell?_setCell_other _ _ _ _ (by simp)]; exact c2) sy.noLimb sy.noByte u2
theorem InL.start {rs : List Value} {S E : List Rat} {R : List (List Rat)} (c : LwT wA bt l B b5 vs ve vr rs S E R) (hF : Fr4 w0 bt wA) (hw : w0.heap.size < B) : InL w0 bt l B b5 vs ve vr wA (.slice none 0 0) [] wA :=
 ⟨zya.nil _ _ _, zhb.refl _ _, c.tape, c.box, hF, c.bt5.1, c.bt5.2.1, hw, c.sz, c.st.sl, c.ra.sl, c.ex.sl⟩
theorem InL.lwt {rs : List Value} {S E : List Rat} {R : List (List Rat)} (h : InL w0 bt l B b5 vs ve vr wA rv row w) (c : LwT wA bt l B b5 vs ve vr rs S E R) : LwT w bt l B b5 vs ve vr rs S E R ∧ zya w 38 B rv row ∧ (rv.ownBlock = none ∨ rv.ownBlock ≠ vs.ownBlock) ∧ (rv.ownBlock = none ∨ rv.ownBlock ≠ ve.ownBlock) := by
 have key : ∀ v : Value, (∀ g, v.ownBlock = some g → B ≤ g ∧ g < wA.heap.size) → rv.ownBlock = none ∨ rv.ownBlock ≠ v.ownBlock := fun v hv => by
  cases ho : rv.ownBlock with
  | none => exact Or.inl rfl
  | some g =>
    refine Or.inr (fun e => ?_)
    have h1 := h.fr.block g ho
    have h2 := hv g e.symm
    omega
 exact ⟨c.of h.mv h.tp h.bx, h.fr.mono c.sz, key _ c.st.block, key _ c.ex.block⟩
end
def RwL (i : Nat) (row : List Rat) (j : Nat) : Prop := row.length = j ∧ ∀ (t : Nat) (h : t < row.length), (t = i + 1 → tfQ row[t]) ∧ (t = i → row[t] = 0) ∧ (tfQ row[t] ∨ row[t] = 0)
theorem RwL.nil (i : Nat) : RwL i [] 0 := ⟨rfl, fun t h => absurd h (Nat.not_lt_zero t)⟩
theorem RwL.snoc {i j : Nat} {row : List Rat} {q : Rat} (h : RwL i row j) (h1 : j = i + 1 → tfQ q) (h2 : j = i → q = 0) (h3 : tfQ q ∨ q = 0) : RwL i (row ++ [q]) (j + 1) := by
 obtain ⟨hl, hr⟩ := h
 refine ⟨by simp [hl], fun t ht => ?_⟩
 by_cases e : t < row.length
 ·rw [List.getElem_append_left e]; exact hr t e
 ·obtain rfl : t = row.length := by simp at ht; omega
  have e1 : (row ++ [q])[row.length]'ht = q := by simp
  rw [e1, hl]
  exact ⟨h1, h2, h3⟩
structure LT (n i left : Nat) (S E : List Rat) (R : List (List Rat)) : Prop where
 sl : S.length = i
 el : E.length = i
 rl : R.length = i
 st : ∃ ks : List Nat, S = ks.map (fun k => fq false k 8) ∧ ks.sum + left = 8
 ex : ∀ (j : Nat) (h : j < E.length), tfQ E[j] ∨ (E[j] = 0 ∧ j + 1 < n)
 rt : ∀ (j : Nat) (h : j < R.length), RwL j R[j] n
 lf : i = n → left = 0
theorem LT.zero (n : Nat) (hn : 1 ≤ n) : LT n 0 8 [] [] [] := ⟨rfl, rfl, rfl, ⟨[], rfl, rfl⟩, fun j h => absurd h (Nat.not_lt_zero j), fun j h => absurd h (Nat.not_lt_zero j), fun h => by omega⟩
theorem LT.left8 {n i left : Nat} {S E : List Rat} {R : List (List Rat)} (h : LT n i left S E R) : left ≤ 8 := by obtain ⟨ks, _, h⟩ := h.st; omega
theorem LT.step {n i left k : Nat} {S E : List Rat} {R : List (List Rat)} {q : Rat} {row : List Rat} (h : LT n i left S E R) (hk : k ≤ left) (hkn : i + 1 = n → k = left) (hq : tfQ q ∨ (q = 0 ∧ i + 1 < n)) (hr : RwL i row n) : LT n (i + 1) (left - k) (S ++ [fq false k 8]) (E ++ [q]) (R ++ [row]) := by
 obtain ⟨sl, el, rl, ⟨ks, e1, e2⟩, ex, rt, lf⟩ := h
 refine ⟨by simp [sl], by simp [el], by simp [rl], ⟨ks ++ [k], by simp [e1], by simp; omega⟩, fun j hj => ?_, fun j hj => ?_, fun e => by have := hkn e; omega⟩
 ·by_cases e : j < E.length
  ·rw [List.getElem_append_left e]; exact ex j e
  ·obtain rfl : j = E.length := by simp at hj; omega
   have e3 : (E ++ [q])[E.length]'hj = q := by simp
   rw [e3, el]; exact hq
 ·by_cases e : j < R.length
  ·rw [List.getElem_append_left e]; exact rt j e
  ·obtain rfl : j = R.length := by simp at hj; omega
   have e3 : (R ++ [row])[R.length]'hj = row := by simp
   rw [e3, rl]; exact hr
def zch (most : Nat) (q : LQ) : Prop := ∃ n, 1 ≤ n ∧ n ≤ most ∧ LT n n 0 q.start q.exit q.rates
end Go.Proofs.YtlpdkbmmbdfoiaaGreat
