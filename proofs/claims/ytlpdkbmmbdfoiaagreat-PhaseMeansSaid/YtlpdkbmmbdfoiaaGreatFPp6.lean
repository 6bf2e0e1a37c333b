/-
  The laws of a tape are valid and small; one of two times ends first. No program is walked here.
-/
import Derived.Test.YtlpdkbmmbdfoiaaGreatFOrd
import Derived.Test.YtlpdkbmmbdfoiaaGreatFEl2
import Derived.Test.YtlpdkbmmbdfoiaaGreatFPp4
import Derived.Test.YtlpdkbmmbdfoiaaGreatFTa6
import Derived.Test.YtlpdkbmmbdfoiaaGreatFSm3
set_option linter.unusedVariables false
set_option linter.unusedSimpArgs false
namespace Go.Proofs.YtlpdkbmmbdfoiaaGreat
open Go.RowKit
theorem TMv.low {bt B : Nat} {w0 w w' : World} (h : TMv bt w0 w) (hb : Below B w w') (hB : w0.heap.size ≤ B) : TMv bt w0 w' := by
 refine ⟨Nat.le_trans h.size hb.size, fun g h1 h2 => ?_, fun p x hp hx => ?_, fun p hp => ?_, fun B' h1 h2 => (h.below B' h1 h2).trans (hb.mono (Nat.le_trans h2 hB))⟩
 ·rw [hb.block g (by omega)]; exact h.row g h1 h2
 ·have hl := cell_lt hp
  rw [hb.cell (by omega)]; exact h.cell p x hp hx
 ·rw [hb.frozen (by omega)]; exact h.frozen p hp
def Fr4 (w : World) (bt : Nat) (wx : World) : Prop := C4 wx w.heap.size (.string { data := #[] }) (.slice none 0 0) (.slice none 0 0) (.slice none 0 0) ∧ TMv bt w wx
theorem Fr4.tmv {w wx wy : World} {bt : Nat} (h : Fr4 w bt wx) (hm : TMv bt wx wy) : Fr4 w bt wy :=
 ⟨h.1.tmv hm (fun z => by simp) (fun z => by simp) (fun z => by simp) (fun z => by simp), h.2.trans hm⟩
theorem Fr4.low {w wx wy : World} {bt B : Nat} (h : Fr4 w bt wx) (hb : Below B wx wy) (hB : w.heap.size < B) : Fr4 w bt wy := by
 obtain ⟨⟨lt, c0, c1, c2, c3, f0, f1, f2, f3⟩, h2⟩ := h
 exact ⟨⟨Nat.lt_of_lt_of_le lt hb.size, by rw [hb.cell hB]; exact c0, by rw [hb.cell hB]; exact c1, by rw [hb.cell hB]; exact c2, by rw [hb.cell hB]; exact c3, by rw [hb.frozen hB]; exact f0, by rw [hb.frozen hB]; exact f1, by rw [hb.frozen hB]; exact f2, by rw [hb.frozen hB]; exact f3⟩, h2.low hb (Nat.le_of_lt hB)⟩
theorem Fr4.set {w wx : World} {bt : Nat} (h : Fr4 w bt wx) (p : Addr) (hp : w.heap.size < p.block) (u : Value) : Fr4 w bt (wx.setCell p u) :=
 ⟨h.1.other (by omega) u, h.2.set (Nat.le_of_lt hp) u⟩
theorem Fr4.set3 {w wx : World} {bt b : Nat} (h : Fr4 w bt wx) (hb : w.heap.size < b) (u0 u1 u2 : Value) : Fr4 w bt (((wx.setCell ⟨b, 0, none⟩ u0).setCell ⟨b, 1, none⟩ u1).setCell ⟨b, 2, none⟩ u2) :=
 ((h.set ⟨b, 0, none⟩ hb u0).set ⟨b, 1, none⟩ hb u1).set ⟨b, 2, none⟩ hb u2
theorem LwT.set3 {w : World} {bt : Nat} {l : List Nat} {B b5 : Nat} {vs ve vr : Value} {rs : List Value} {S E : List Rat} {R : List (List Rat)} (h : LwT w bt l B b5 vs ve vr rs S E R) {b : Nat} {t : Bool} {a1 a2 : Option Addr} {l1 k1 l2 k2 : Nat} (hC : C3 w b (.bool t) (.slice a1 l1 k1) (.slice a2 l2 k2)) (hb : B ≤ b)
 (hs : vs.ownBlock = none ∨ vs.ownBlock ≠ some b) (he : ve.ownBlock = none ∨ ve.ownBlock ≠ some b) (hv : vr.ownBlock = none ∨ vr.ownBlock ≠ some b) (hrs : ∀ (j : Nat) (h : j < rs.length), rs[j].ownBlock = none ∨ rs[j].ownBlock ≠ some b) (u0 u1 u2 : Value) :
 LwT (((w.setCell ⟨b, 0, none⟩ u0).setCell ⟨b, 1, none⟩ u1).setCell ⟨b, 2, none⟩ u2) bt l B b5 vs ve vr rs S E R := by
 have one : ∀ (w : World) (k : Nat) (x u : Value), LwT w bt l B b5 vs ve vr rs S E R → w.cell? ⟨b, k, none⟩ = some x → (∀ z, x ≠ .int .u32 z) → (∀ z, x ≠ .int .u8 z) → LwT (w.setCell ⟨b, k, none⟩ u) bt l B b5 vs ve vr rs S E R := fun w k x u h hc h32 h8 => by
  obtain ⟨⟨a, ht⟩, box, st, ex, ra, rl, rows, se, sz, b1, b2, b3⟩ := h
  refine ⟨⟨a, ht.set (by show b ≠ bt; omega) hc h8 u⟩, box.other (by show b ≠ b5; omega) u, st.over hs hc h32 u, ex.over he hc h32 u, ra.over hv u, rl, fun j h1 h2 => ⟨(rows j h1 h2).1.over (hrs j h1) hc h32 u, (rows j h1 h2).2⟩, se, by simpa [World.setCell] using sz, b1, b2, b3⟩
 obtain ⟨_, c0, c1, c2, _, _, _⟩ := hC
 have h1 := one w 0 _ u0 h c0 (fun z => by simp) (fun z => by simp)
 have h2 := one _ 1 _ u1 h1 (by rw [World.cell?_setCell_other _ _ _ _ (by simp)]; exact c1) (fun z => by simp) (fun z => by simp)
 exact one _ 2 _ u2 h2 (by rw [World.cell?_setCell_other _ _ _ _ (by simp), World.cell?_setCell_other _ _ _ _ (by simp)]; exact c2) (fun z => by simp) (fun z => by simp)
theorem LwT.apart {w : World} {bt : Nat} {l : List Nat} {B b5 : Nat} {vs ve vr : Value} {rs : List Value} {S E : List Rat} {R : List (List Rat)} (h : LwT w bt l B b5 vs ve vr rs S E R) {b : Nat} (hb : w.heap.size ≤ b) :
 (vs.ownBlock = none ∨ vs.ownBlock ≠ some b) ∧ (ve.ownBlock = none ∨ ve.ownBlock ≠ some b) ∧ (vr.ownBlock = none ∨ vr.ownBlock ≠ some b) ∧ ∀ (j : Nat) (h : j < rs.length), rs[j].ownBlock = none ∨ rs[j].ownBlock ≠ some b := by
 have key : ∀ v : Value, (∀ g, v.ownBlock = some g → B ≤ g ∧ g < w.heap.size) → v.ownBlock = none ∨ v.ownBlock ≠ some b := fun v hv => by
  cases ho : v.ownBlock with
  | none => exact Or.inl rfl
  | some g =>
    refine Or.inr fun e => ?_
    injection e with e
    have := (hv g ho).2
    omega
 exact ⟨key _ h.st.block, key _ h.ex.block, key _ h.ra.block, fun j hj => key _ (h.rows j hj (by rw [← h.rl]; exact hj)).1.block⟩
structure InL (w0 : World) (bt : Nat) (l : List Nat) (B b5 : Nat) (vs ve vr : Value) (wA : World) (rv : Value) (row : List Rat) (w : World) : Prop where
 fr : zya w 38 wA.heap.size rv row
 mv : zhb B wA w
 tp : ∃ a, zvf w bt l B a
 bx : C4 w b5 (.string { data := #[] }) vs vr ve
 fm : Fr4 w0 bt w
 nums : bt < B ∧ b5 < B ∧ w0.heap.size < B ∧ B ≤ wA.heap.size ∧ zgc vs ∧ zgc vr ∧ zgc ve
section
variable {w0 wA w w' : World} {bt B b5 : Nat} {l : List Nat} {vs ve vr rv : Value} {row : List Rat}
theorem InL.below (h : InL w0 bt l B b5 vs ve vr wA rv row w) (hb : Below w.heap.size w w') : InL w0 bt l B b5 vs ve vr wA rv row w' := by
 obtain ⟨fr, mv, ⟨a, tp⟩, bx, fm, nums⟩ := h
 exact ⟨fr.moves (zhb.below hb) (Nat.le_refl _), mv.trans (zhb.below hb), ⟨a, tp.below hb⟩, bx.belowS hb, fm.tmv (TMv.of_below hb), nums⟩
theorem InL.tmv (h : InL w0 bt l B b5 vs ve vr wA rv row w) {a' : Nat} (hm : TMv bt w w') (hta : znb w' bt l a') : InL w0 bt l B b5 vs ve vr wA rv row w' := by
 obtain ⟨fr, mv, ⟨a, tp⟩, bx, fm, n1, n2, n3, n4, n5, n6, n7⟩ := h
 have hmv : zhb B w w' := hm.moves n1
 exact ⟨fr.moves hmv n4, mv.trans hmv, ⟨a', tp.tmv hm hta⟩, bx.tmv hm (fun z => by simp) n5.noInt n6.noInt n7.noInt, fm.tmv hm, n1, n2, n3, n4, n5, n6, n7⟩
theorem InL.set (h : InL w0 bt l B b5 vs ve vr wA rv row w) {p : Addr} {x : Value} (hp : wA.heap.size ≤ p.block) (hr : rv.ownBlock = none ∨ rv.ownBlock ≠ some p.block) (hc : w.cell? p = some x) (hx : ∀ z, x ≠ .int .u32 z) (hx8 : ∀ z, x ≠ .int .u8 z) (u : Value) :
 InL w0 bt l B b5 vs ve vr wA rv row (w.setCell p u) := by
 obtain ⟨fr, mv, ⟨a, tp⟩, bx, fm, n1, n2, n3, n4, n5, n6, n7⟩ := h
 exact ⟨fr.over hr hc hx u, mv.high hp hc hx u, ⟨a, tp.set (by omega) hc hx8 u⟩, bx.other (by omega) u, fm.set p (by omega) u, n1, n2, n3, n4, n5, n6, n7⟩
theorem InL.grow (h : InL w0 bt l B b5 vs ve vr wA rv row w) {rv' : Value} {row' : List Rat} (hv : zya w' 38 wA.heap.size rv' row') (hg : w.grownBy w' rv.ownBlock) (hn : zlb w rv) : InL w0 bt l B b5 vs ve vr wA rv' row' w' := by
 obtain ⟨fr, mv, ⟨a, tp⟩, bx, fm, n1, n2, n3, n4, n5, n6, n7⟩ := h
 have hb : Below wA.heap.size w w' := zid hg mv.size fr.block
 have hb2 := hb.mono n4
 exact ⟨hv, mv.grow hg hn (fun k hk => (fr.block k hk).1), ⟨a, tp.low hb2 n1⟩, bx.below hb2 n2, fm.low hb2 n3, n1, n2, n3, n4, n5, n6, n7⟩
theorem InL.set3 (h : InL w0 bt l B b5 vs ve vr wA rv row w) {b : Nat} {t0 : Bool} {x0 y0 : Value} (hC : C3 w b (.bool t0) x0 y0) (sx : zgc x0) (sy : zgc y0) (hb : wA.heap.size ≤ b) (hr : rv.ownBlock = none ∨ rv.ownBlock ≠ some b) (u0 u1 u2 : Value) :
 InL w0 bt l B b5 vs ve vr wA rv row (((w.setCell ⟨b, 0, none⟩ u0).setCell ⟨b, 1, none⟩ u1).setCell ⟨b, 2, none⟩ u2) := by
 obtain ⟨_, c0, c1, c2, _, _, _⟩ := hC
 have h1 := h.set (p := ⟨b, 0, none⟩) hb hr c0 (fun z => by simp) (fun z => by simp) u0
 have h2 := h1.set (p := ⟨b, 1, none⟩) hb hr (by rw [World.cell?_setCell_other _ _ _ _ (by simp)]; exact c1) sx.noLimb sx.noByte u1
 exact h2.set (p := ⟨b, 2, none⟩) hb hr (by rw [World.cell?_setCell_other _ _ _ _ (by simp), World.cell?_setCell_other _ _ _ _ (by simp)]; exact c2) sy.noLimb sy.noByte u2
theorem InL.start {rs : List Value} {S E : List Rat} {R : List (List Rat)} (c : LwT wA bt l B b5 vs ve vr rs S E R) (hF : Fr4 w0 bt wA) (hw : w0.heap.size < B) : InL w0 bt l B b5 vs ve vr wA (.slice none 0 0) [] wA :=
 ⟨zya.nil _ _ _, zhb.refl _ _, c.tape, c.box, hF, c.bt5.1, c.bt5.2.1, hw, c.sz, c.st.sl, c.ra.sl, c.ex.sl⟩
theorem InL.lwt {rs : List Value} {S E : List Rat} {R : List (List Rat)} (h : InL w0 bt l B b5 vs ve vr wA rv row w) (c : LwT wA bt l B b5 vs ve vr rs S E R) : LwT w bt l B b5 vs ve vr rs S E R ∧ zya w 38 B rv row ∧ (rv.ownBlock = none ∨ rv.ownBlock ≠ vs.ownBlock) ∧ (rv.ownBlock = none ∨ rv.ownBlock ≠ ve.ownBlock) := by
 have key : ∀ v : Value, (∀ g, v.ownBlock = some g → B ≤ g ∧ g < wA.heap.size) → rv.ownBlock = none ∨ rv.ownBlock ≠ v.ownBlock := fun v hv => by
  cases ho : rv.ownBlock with
  | none => exact Or.inl rfl
  | some g =>
    refine Or.inr (fun e => ?_)
    have h1 := h.fr.block g ho
    have h2 := hv g e.symm
    omega
 exact ⟨c.of h.mv h.tp h.bx, h.fr.mono c.sz, key _ c.st.block, key _ c.ex.block⟩
end
def RwL (i : Nat) (row : List Rat) (j : Nat) : Prop := row.length = j ∧ ∀ (t : Nat) (h : t < row.length), (t = i + 1 → tfQ row[t]) ∧ (t = i → row[t] = 0) ∧ (tfQ row[t] ∨ row[t] = 0)
theorem RwL.nil (i : Nat) : RwL i [] 0 := ⟨rfl, fun t h => absurd h (Nat.not_lt_zero t)⟩
theorem RwL.snoc {i j : Nat} {row : List Rat} {q : Rat} (h : RwL i row j) (h1 : j = i + 1 → tfQ q) (h2 : j = i → q = 0) (h3 : tfQ q ∨ q = 0) : RwL i (row ++ [q]) (j + 1) := by
 obtain ⟨hl, hr⟩ := h
 refine ⟨by simp [hl], fun t ht => ?_⟩
 by_cases e : t < row.length
 ·rw [List.getElem_append_left e]; exact hr t e
 ·obtain rfl : t = row.length := by simp at ht; omega
  have e1 : (row ++ [q])[row.length]'ht = q := by simp
  rw [e1, hl]
  exact ⟨h1, h2, h3⟩
structure LT (n i left : Nat) (S E : List Rat) (R : List (List Rat)) : Prop where
 sl : S.length = i
 el : E.length = i
 rl : R.length = i
 st : ∃ ks : List Nat, S = ks.map (fun k => fq false k 8) ∧ ks.sum + left = 8
 ex : ∀ (j : Nat) (h : j < E.length), tfQ E[j] ∨ (E[j] = 0 ∧ j + 1 < n)
 rt : ∀ (j : Nat) (h : j < R.length), RwL j R[j] n
 lf : i = n → left = 0
theorem LT.zero (n : Nat) (hn : 1 ≤ n) : LT n 0 8 [] [] [] := ⟨rfl, rfl, rfl, ⟨[], rfl, rfl⟩, fun j h => absurd h (Nat.not_lt_zero j), fun j h => absurd h (Nat.not_lt_zero j), fun h => by omega⟩
theorem LT.left8 {n i left : Nat} {S E : List Rat} {R : List (List Rat)} (h : LT n i left S E R) : left ≤ 8 := by obtain ⟨ks, _, h⟩ := h.st; omega
theorem LT.step {n i left k : Nat} {S E : List Rat} {R : List (List Rat)} {q : Rat} {row : List Rat} (h : LT n i left S E R) (hk : k ≤ left) (hkn : i + 1 = n → k = left) (hq : tfQ q ∨ (q = 0 ∧ i + 1 < n)) (hr : RwL i row n) : LT n (i + 1) (left - k) (S ++ [fq false k 8]) (E ++ [q]) (R ++ [row]) := by
 obtain ⟨sl, el, rl, ⟨ks, e1, e2⟩, ex, rt, lf⟩ := h
 refine ⟨by simp [sl], by simp [el], by simp [rl], ⟨ks ++ [k], by simp [e1], by simp; omega⟩, fun j hj => ?_, fun j hj => ?_, fun e => by have := hkn e; omega⟩
 ·by_cases e : j < E.length
  ·rw [List.getElem_append_left e]; exact ex j e
  ·obtain rfl : j = E.length := by simp at hj; omega
   have e3 : (E ++ [q])[E.length]'hj = q := by simp
   rw [e3, el]; exact hq
 ·by_cases e : j < R.length
  ·rw [List.getElem_append_left e]; exact rt j e
  ·obtain rfl : j = R.length := by simp at hj; omega
   have e3 : (R ++ [row])[R.length]'hj = row := by simp
   rw [e3, rl]; exact hr
def zch (most : Nat) (q : LQ) : Prop := ∃ n, 1 ≤ n ∧ n ≤ most ∧ LT n n 0 q.start q.exit q.rates
end Go.Proofs.YtlpdkbmmbdfoiaaGreat
namespace Go.Proofs.YtlpdkbmmbdfoiaaGreat
theorem zcn (m n : Nat) (f : Nat → Rat) : sg (m * n) f = sg m fun i => sg n fun j => f (i * n + j) := by
 induction m with
 | zero => rw [Nat.zero_mul]; rfl
 | succ m ih =>
   rw [Nat.succ_mul, zbn, ih]
   rfl
section
variable (a b : LQ)
def bfr : Mx := fun r c => if c = r then 0 else if c % b.start.length = r % b.start.length then rtQ a (r / b.start.length) (c / b.start.length) else if c / b.start.length = r / b.start.length then rtQ b (r % b.start.length) (c % b.start.length) else 0
def bfo (r : Nat) : Rat := zxf a (r / b.start.length) + zxf b (r % b.start.length)
end
section
variable {a b : LQ}
theorem zjj (hb : zxb b) {r : Nat} (hr : r < bfN a b) : r / b.start.length < a.start.length ∧ r % b.start.length < b.start.length :=
 ⟨Nat.div_lt_of_lt_mul (by rw [Nat.mul_comm]; exact hr), Nat.mod_lt _ (by have := hb.n1; omega)⟩
theorem bfA_mm (ha : zxb a) (hb : zxb b) {r c : Nat} (hr : r < bfN a b) (hc : c < bfN a b) : bfA a b r c = mmA (bfr a b) (bfo a b) r c := by
 obtain ⟨c1, c2⟩ := zjj hb hc
 unfold bfA bf2 mmA bfr bfo
 rw [at_eq]
 by_cases h : c = r
 ·rw [if_pos h, if_pos h.symm]
 ·have h' : ¬ r = c := fun e => h e.symm
  simp only [if_neg h, if_neg h']
  by_cases h1 : c % b.start.length = r % b.start.length
  ·simp only [if_pos h1]; grind
  ·simp only [if_neg h1]
   by_cases h2 : c / b.start.length = r / b.start.length
   ·simp only [if_pos h2, if_pos (And.intro h2 c2)]; grind
   ·simp only [if_neg h2, if_neg (fun e : c / b.start.length = r / b.start.length ∧ c % b.start.length < b.start.length => h2 e.1)]; grind
theorem zyn (r : Nat) : bfr a b r r = 0 := by unfold bfr; rw [if_pos rfl]
theorem bfr_nn (ha : zxb a) (hb : zxb b) {r c : Nat} (hr : r < bfN a b) (hc : c < bfN a b) : 0 ≤ bfr a b r c := by
 obtain ⟨c1, c2⟩ := zjj hb hc
 obtain ⟨r1, r2⟩ := zjj hb hr
 unfold bfr
 split
 ·exact Rat.le_refl
 ·split
  ·exact (ha.rt_lim r1 c1).1
  ·split
   ·exact (hb.rt_lim r2 c2).1
   ·exact Rat.le_refl
theorem bfr_row (ha : zxb a) (hb : zxb b) {i j : Nat} (hi : i < a.start.length) (hj : j < b.start.length) (x : Nat → Rat) :
 sg (bfN a b) (fun c => bfr a b (i * b.start.length + j) c * x c) = sg a.start.length (fun k => rtQ a i k * x (k * b.start.length + j)) + sg b.start.length fun k => rtQ b j k * x (i * b.start.length + k) := by
 unfold bfN
 rw [zcn]
 have e : ∀ k, k < a.start.length → (sg b.start.length fun t => bfr a b (i * b.start.length + j) (k * b.start.length + t) * x (k * b.start.length + t)) =
  rtQ a i k * x (k * b.start.length + j) + if i = k then sg b.start.length (fun t => rtQ b j t * x (i * b.start.length + t)) else 0 := fun k hk => by
  have e1 : (sg b.start.length fun t => bfr a b (i * b.start.length + j) (k * b.start.length + t) * x (k * b.start.length + t)) =
   sg b.start.length fun t => (if j = t then rtQ a i k * x (k * b.start.length + t) else 0) + (if i = k then rtQ b j t * x (i * b.start.length + t) else 0) := zma fun t ht => by
   unfold bfr
   rw [zbe ht, zyf ht, zbe hj, zyf hj]
   by_cases h1 : i = k
   ·subst h1
    by_cases h2 : j = t
    ·subst h2
     rw [if_pos rfl, if_pos rfl, if_pos rfl, ha.rt_diag hi, hb.rt_diag hj]; grind
    ·have h3 : ¬ i * b.start.length + t = i * b.start.length + j := fun e => h2 (by omega)
     rw [if_neg h3, if_neg (fun e => h2 e.symm), if_pos rfl, if_neg h2, if_pos rfl]; grind
   ·have h3 : ¬ k * b.start.length + t = i * b.start.length + j := fun e => by
     have h4 := congrArg (· / b.start.length) e
     simp only [zbe ht, zbe hj] at h4
     exact h1 h4.symm
    by_cases h2 : j = t
    ·subst h2
     rw [if_neg h3, if_pos rfl, if_pos rfl, if_neg h1]; grind
    ·rw [if_neg h3, if_neg (fun e => h2 e.symm), if_neg (fun e => h1 e.symm), if_neg h2, if_neg h1]; grind
  rw [e1, zvd, zfd (f := fun t => rtQ a i k * x (k * b.start.length + t)) hj]
  by_cases h1 : i = k
  ·simp only [if_pos h1]
  ·simp only [if_neg h1]; rw [zsi]
 rw [zma e, zvd, zfd (f := fun _ => sg b.start.length (fun t => rtQ b j t * x (i * b.start.length + t))) hi]
theorem bfr_sum (ha : zxb a) (hb : zxb b) {r : Nat} (hr : r < bfN a b) : sg (bfN a b) (bfr a b r) = sg a.start.length (rtQ a (r / b.start.length)) + sg b.start.length (rtQ b (r % b.start.length)) := by
 obtain ⟨r1, r2⟩ := zjj hb hr
 have h := bfr_row ha hb r1 r2 (fun _ => 1)
 rw [at_eq] at h
 have e : ∀ (n : Nat) (f : Nat → Rat), sg n (fun c => f c * 1) = sg n f := fun n f => zma fun i _ => Rat.mul_one _
 rw [e, e, e] at h
 exact h
theorem bfr_le (ha : zxb a) (hb : zxb b) {r : Nat} (hr : r < bfN a b) : sg (bfN a b) (bfr a b r) ≤ bfo a b r := by
 obtain ⟨r1, r2⟩ := zjj hb hr
 rw [bfr_sum ha hb hr]
 unfold bfo
 have h1 := ha.le_out r1
 have h2 := hb.le_out r2
 grind
theorem bf_esc (ha : zxb a) (hb : zxb b) : ∀ k i, i < a.start.length → esc a.start.length (rtQ a) (zxf a) k i → ∀ j, j < b.start.length → esc (bfN a b) (bfr a b) (bfo a b) k (i * b.start.length + j)
 | 0, i, hi, h, j, hj => by
   have h1 : sg a.start.length (rtQ a i) < zxf a i := h
   show sg _ _ < _
   rw [bfr_sum ha hb (zao hi hj)]
   unfold bfo
   rw [zbe hj, zyf hj]
   have h2 := hb.le_out hj
   grind
 | k + 1, i, hi, h, j, hj => by
   rcases h with h | ⟨t, ht, hr, h⟩
   ·exact Or.inl (bf_esc ha hb k i hi h j hj)
   ·refine Or.inr ⟨t * b.start.length + j, zao ht hj, ?_, bf_esc ha hb k t ht h j hj⟩
    unfold bfr
    rw [zbe hj, zyf hj, zbe hj, zyf hj]
    have h3 : ¬ t * b.start.length + j = i * b.start.length + j := fun e => by
     have h4 := congrArg (· / b.start.length) e
     simp only [zbe hj] at h4
     subst h4
     rw [ha.rt_diag hi] at hr
     exact absurd hr (by decide +kernel)
    rw [if_neg h3, if_pos rfl]
    exact hr
theorem bf_escP (ha : zxb a) (hb : zxb b) : ∀ r, r < bfN a b → ∃ k, esc (bfN a b) (bfr a b) (bfo a b) k r := fun r hr => by
 obtain ⟨r1, r2⟩ := zjj hb hr
 obtain ⟨k, hk⟩ := ha.escP _ r1
 have h := bf_esc ha hb k _ r1 hk _ r2
 rw [at_eq] at h
 exact ⟨k, h⟩
theorem bf_reg (ha : zxb a) (hb : zxb b) : dt (bfN a b) (bfA a b) ≠ 0 := by
 rw [zcd fun i j hi hj => bfA_mm ha hb hi hj]
 exact mm_dt (fun i hi => zyn i) (fun i j hi hj => bfr_nn ha hb hi hj) (fun i hi => bfr_le ha hb hi) (bf_escP ha hb)
theorem bf_eq (ha : zxb a) (hb : zxb b) : ∀ r, r < bfN a b → sg (bfN a b) (fun c => bfA a b r c * zyg a b c) = bfR a b r :=
 sol_eq (zff (B := fun i _ => bfR a b i) (bf_reg ha hb))
variable {D B : Nat}
theorem bf_sms (ha : zxb a) (hb : zxb b) (hsa : SmL D B a) (hsb : SmL D B b) (hD : D ≠ 0) (hD1 : D ≤ 6720) (hB : D ≤ 10 * B) (hB1 : 10 * B ≤ 1814400) (hN : bfN a b ≤ 4) : SmS (bfN a b) D (10 * B) (bfA a b) where
 n1 := Nat.mul_pos (by have := ha.n1; omega) (by have := hb.n1; omega)
 n4 := hN
 d0 := hD
 d1 := hD1
 b0 := hB
 b1 := hB1
 a := fun r c hr hc => by
  obtain ⟨c1, c2⟩ := zjj hb hc
  obtain ⟨r1, r2⟩ := zjj hb hr
  unfold bfA bf2
  split
  ·exact (over.add hD (hsa.out ha hD r1) (hsb.out hb hD r2)).mono (by omega)
  ·split
   ·exact (over.sub hD (over.zero D 0) (hsa.r _ _ r1 c1)).mono (by omega)
   ·split
    ·exact (over.sub hD (over.zero D 0) (hsb.r _ _ r2 c2)).mono (by omega)
    ·exact over.zero _ _
 reg := bf_reg ha hb
theorem bef_small (ha : zxb a) (hb : zxb b) (hsa : SmL D B a) (hsb : SmL D B b) (hD : D ≠ 0) (hD1 : D ≤ 6720) (hB : D ≤ 10 * B) (hB1 : 10 * B ≤ 1814400) (hN : bfN a b ≤ 4) {DS : Nat} (hDS : DS ≠ 0) (hDS2 : DS ≤ 2 ^ 13) (hst : ∀ r, r < bfN a b → over DS (2 ^ 13) (bfS a b r)) : BefP a b := by
 have hS := bf_sms ha hb hsa hsb hD hD1 hB hB1 hN
 have hr : ∀ r, r < bfN a b → over D B (bfR a b r) := fun r hr => hsa.e _ (zjj hb hr).1
 have hB2 : B < 2 ^ 21 := Nat.lt_of_le_of_lt (show B ≤ 1814400 by omega) (by decide)
 have hB0 : 1 ≤ B := by omega
 have hD2 : D < 2 ^ 13 := Nat.lt_of_le_of_lt hD1 (by decide)
 obtain ⟨E, e1, e2, e3⟩ := hS.sol hD hr (bf_eq ha hb)
 refine ⟨hS.sys hD (Nat.lt_trans hD2 (by decide +kernel)) hB0 (Nat.lt_trans hB2 (by decide +kernel)) hr (bf_eq ha hb), ?_⟩
 refine zik (by omega) (by omega) (by decide) hDS hDS2 hst (Nat.mul_ne_zero e1 hD) ?_ ?_ e3
 ·exact Nat.lt_of_lt_of_le (Nat.mul_lt_mul'' e2 hD2) (by decide +kernel)
 ·exact Nat.lt_of_lt_of_le (Nat.mul_lt_mul_of_pos_left hB2 (by decide +kernel)) (by decide +kernel)
end
theorem tf_nums : ∀ x, x < 6 → ∀ y, y < 8 → fq false (x + 1) (y + 1) = mkRat (((x + 1) * (840 / (y + 1)) : Nat) : Int) 840 ∧ (x + 1) * (840 / (y + 1)) ≤ 5040 ∧ 0 < fq false (x + 1) (y + 1) ∧ zua (fq false (x + 1) (y + 1)).num.natAbs ≤ 32 ∧ zua (fq false (x + 1) (y + 1)).den ≤ 32 := by decide +kernel
theorem tfQ.over {q : Rat} (h : tfQ q) : over 840 5040 q := by
 obtain ⟨x, y, hx, hy, rfl⟩ := h
 obtain ⟨h1, h2, _⟩ := tf_nums x hx y hy
 exact ⟨_, h1, by rw [Int.natAbs_natCast]; exact h2⟩
theorem tfQ.pos {q : Rat} (h : tfQ q) : 0 < q := by
 obtain ⟨x, y, hx, hy, rfl⟩ := h
 exact (tf_nums x hx y hy).2.2.1
theorem tfQ.lim {q : Rat} (h : tfQ q) : zvg q := by
 obtain ⟨x, y, hx, hy, rfl⟩ := h
 obtain ⟨_, _, h1, h2, h3⟩ := tf_nums x hx y hy
 exact ⟨Rat.le_of_lt h1, h2, h3⟩
theorem st_nums : ∀ k, k < 9 → 0 ≤ fq false k 8 ∧ zua (fq false k 8).num.natAbs ≤ 32 ∧ zua (fq false k 8).den ≤ 32 := by decide +kernel
theorem st_over {k : Nat} (h : k < 9) : over 8 8 (fq false k 8) := ⟨(k : Int), by unfold fq sgn; simp, by simp; omega⟩
theorem fq_add8 (a b : Nat) : fq false a 8 + fq false b 8 = fq false (a + b) 8 := by
 unfold fq sgn
 simp only [Bool.false_eq_true, if_false]
 rw [Rat.mkRat_add_mkRat _ _ (by decide) (by decide), Rat.mkRat_eq_iff (by decide) (by decide)]
 push_cast
 grind
theorem lsum_st : ∀ ks : List Nat, zgg (ks.map fun k => fq false k 8) = fq false ks.sum 8
 | [] => by decide +kernel
 | k :: ks => by rw [List.map_cons, lsum_cons, lsum_st ks, fq_add8, List.sum_cons, Nat.add_comm]
theorem mem_sum : ∀ {ks : List Nat} {k : Nat}, k ∈ ks → k ≤ ks.sum
 | a :: ks, k, h => by
   rw [List.sum_cons]
   rcases List.mem_cons.1 h with rfl | h
   ·omega
   ·have := mem_sum h; omega
section
variable {n left : Nat} {S E : List Rat} {R : List (List Rat)}
theorem LT.st_mem (h : LT n n 0 S E R) {q : Rat} (hq : q ∈ S) : ∃ k, k < 9 ∧ q = fq false k 8 := by
 obtain ⟨ks, rfl, e2⟩ := h.st
 obtain ⟨k, hk, rfl⟩ := List.mem_map.1 hq
 exact ⟨k, by have := mem_sum hk; omega, rfl⟩
theorem LT.ex_get (h : LT n n 0 S E R) {j : Nat} (hj : j < n) : (tfQ (E.getD j 0) ∨ (E.getD j 0 = 0 ∧ j + 1 < n)) := by
 have hj' : j < E.length := by rw [h.el]; exact hj
 rw [List.getD_eq_getElem?_getD, List.getElem?_eq_getElem hj']
 exact h.ex j hj'
theorem LT.rt_get (h : LT n n 0 S E R) {i j : Nat} (hi : i < n) (hj : j < n) : (j = i + 1 → tfQ ((R.getD i []).getD j 0)) ∧ (j = i → (R.getD i []).getD j 0 = 0) ∧ (tfQ ((R.getD i []).getD j 0) ∨ (R.getD i []).getD j 0 = 0) := by
 have hi' : i < R.length := by rw [h.rl]; exact hi
 have e1 : R.getD i [] = R[i] := by rw [List.getD_eq_getElem?_getD, List.getElem?_eq_getElem hi']; rfl
 obtain ⟨h1, h2⟩ := h.rt i hi'
 have hj' : j < R[i].length := by rw [h1]; exact hj
 have e2 : R[i].getD j 0 = R[i][j] := by rw [List.getD_eq_getElem?_getD, List.getElem?_eq_getElem hj']; rfl
 rw [e1, e2]
 exact h2 j hj'
end
section
variable {n : Nat} {l : LQ}
theorem LT.law (h : LT n n 0 l.start l.exit l.rates) (hn : 1 ≤ n) (hn4 : n ≤ 4) : zxb l where
 n1 := by rw [h.sl]; exact hn
 n4 := by rw [h.sl]; exact hn4
 el := by rw [h.sl, h.el]
 rl := by rw [h.sl, h.rl]
 st := fun q hq => by obtain ⟨k, hk, rfl⟩ := h.st_mem hq; exact st_nums k hk
 ex := fun q hq => by
  obtain ⟨j, hj, rfl⟩ := List.mem_iff_getElem.1 hq
  rcases h.ex j hj with h1 | h1
  ·exact h1.lim
  ·rw [h1.1]; exact zfi
 row := fun i hi => by
  obtain ⟨h1, h2⟩ := h.rt i hi
  refine ⟨by rw [h.sl]; exact h1, fun q hq => ?_, ?_⟩
  ·obtain ⟨j, hj, rfl⟩ := List.mem_iff_getElem.1 hq
   rcases (h2 j hj).2.2 with h3 | h3
   ·exact h3.lim
   ·rw [h3]; exact zfi
  ·have hi2 : i < l.rates[i].length := by rw [h1, ← h.rl]; exact hi
   rw [List.getD_eq_getElem?_getD, List.getElem?_eq_getElem hi2]
   exact (h2 i hi2).2.1 rfl
 sum := by
  obtain ⟨ks, e1, e2⟩ := h.st
  rw [e1, lsum_st, show ks.sum = 8 by omega]
  decide +kernel
 ends := ⟨fun i => n - 1 - i, fun i hi => by
  rw [h.sl] at hi ⊢
  refine ⟨show n - 1 - i ≤ n by omega, ?_⟩
  rcases h.ex_get hi with h1 | ⟨h1, h2⟩
  ·exact Or.inl h1.pos
  ·exact Or.inr ⟨i + 1, h2, ((h.rt_get hi h2).1 rfl).pos, show n - 1 - (i + 1) < n - 1 - i by omega⟩⟩
theorem LT.sm (h : LT n n 0 l.start l.exit l.rates) : SmL 840 5040 l where
 r := fun i j hi hj => by
  rw [h.sl] at hi hj
  rcases (h.rt_get hi hj).2.2 with h3 | h3
  ·exact h3.over
  ·unfold rtQ; rw [h3]; exact over.zero _ _
 e := fun i hi => by
  rw [h.sl] at hi
  rcases h.ex_get hi with h1 | ⟨h1, h2⟩
  ·exact h1.over
  ·unfold exQ; rw [h1]; exact over.zero _ _
theorem LT.start8 (h : LT n n 0 l.start l.exit l.rates) {i : Nat} (hi : i < l.start.length) : over 8 8 (stQ l i) := by
 obtain ⟨k, hk, e⟩ := h.st_mem (zii hi)
 unfold stQ
 rw [e]
 exact st_over hk
end
section
variable {a b : LQ}
theorem zch.law {m : Nat} (h : zch m a) (hm : m ≤ 4) : zxb a := by obtain ⟨n, h1, h2, h3⟩ := h; exact h3.law h1 (Nat.le_trans h2 hm)
theorem zch.len {m : Nat} (h : zch m a) : a.start.length ≤ m := by obtain ⟨n, h1, h2, h3⟩ := h; rw [h3.sl]; exact h2
theorem zch.sm {m : Nat} (h : zch m a) : SmL 840 5040 a := by obtain ⟨n, h1, h2, h3⟩ := h; exact h3.sm
theorem zch.start8 {m : Nat} (h : zch m a) {i : Nat} (hi : i < a.start.length) : over 8 8 (stQ a i) := by obtain ⟨n, h1, h2, h3⟩ := h; exact h3.start8 hi
end
end Go.Proofs.YtlpdkbmmbdfoiaaGreat
